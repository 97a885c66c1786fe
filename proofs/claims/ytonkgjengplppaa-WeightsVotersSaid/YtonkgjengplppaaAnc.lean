/- Ancestors in a tree of links, and sums over subtrees: plain laws. -/
import Derived.WalkKit
namespace Go.Proofs.Ytonkgjengplppaa
/-- the links: the first one is -1, every other one leads to a node ahead of it -/
def Lk (us : List Int) : Prop := ∀ i, i < us.length → (i = 0 ∧ us.getD i 0 = -1) ∨ ∃ u : Nat, u < i ∧ us.getD i 0 = u
/-- the first node below k on the way from j to the root -/
def hat (us : List Int) (k : Nat) : Nat → Nat → Nat
  | 0, j => j
  | f + 1, j => if j < k then j else hat us k f (us.getD j 0).toNat
/-- the way from the root to j -/
def pathF (us : List Int) : Nat → Nat → List Nat
  | 0, _ => [0]
  | f + 1, j => if j = 0 then [0] else pathF us f (us.getD j 0).toNat ++ [j]
theorem Lk.up {us : List Int} (h : Lk us) {i : Nat} (hi : i < us.length) (h0 : 0 < i) : ∃ u : Nat, u < i ∧ us.getD i 0 = u := by
  rcases h i hi with ⟨h1, _⟩ | h1
  · omega
  · exact h1
theorem hat_fuel {us : List Int} (h : Lk us) {k : Nat} (hk : 0 < k) : ∀ (f g j : Nat), j < us.length → j ≤ f → j ≤ g → hat us k f j = hat us k g j
  | 0, g, j, _, hf, _ => by
    obtain rfl : j = 0 := by omega
    cases g with
    | zero => rfl
    | succ g => simp [hat, hk]
  | f + 1, 0, j, _, _, hg => by
    obtain rfl : j = 0 := by omega
    simp [hat, hk]
  | f + 1, g + 1, j, hj, hf, hg => by
    unfold hat
    by_cases hjk : j < k
    · rw [if_pos hjk, if_pos hjk]
    · rw [if_neg hjk, if_neg hjk]
      obtain ⟨u, hu, e⟩ := h.up hj (by omega)
      rw [e, Int.toNat_natCast]
      exact hat_fuel h hk f g u (by omega) (by omega) (by omega)
theorem hat_lt {us : List Int} (h : Lk us) {k : Nat} (hk : 0 < k) : ∀ (f j : Nat), j < us.length → j ≤ f → hat us k f j < k ∧ hat us k f j ≤ j
  | 0, j, _, hf => by
    obtain rfl : j = 0 := by omega
    exact ⟨hk, Nat.le_refl _⟩
  | f + 1, j, hj, hf => by
    unfold hat
    by_cases hjk : j < k
    · rw [if_pos hjk]; exact ⟨hjk, Nat.le_refl _⟩
    · rw [if_neg hjk]
      obtain ⟨u, hu, e⟩ := h.up hj (by omega)
      rw [e, Int.toNat_natCast]
      have := hat_lt h hk f u (by omega) (by omega)
      exact ⟨this.1, by omega⟩
theorem hat_self {us : List Int} {k j : Nat} (hj : j < k) : ∀ f, hat us k f j = j
  | 0 => rfl
  | f + 1 => by rw [hat, if_pos hj]
/-- one level less -/
theorem hat_step {us : List Int} (h : Lk us) {i : Nat} (hi : 0 < i) (hil : i < us.length) : ∀ (f j : Nat), j < us.length → j ≤ f →
    hat us i f j = if hat us (i + 1) f j = i then (us.getD i 0).toNat else hat us (i + 1) f j
  | 0, j, _, hf => by
    obtain rfl : j = 0 := by omega
    simp [hat]; omega
  | f + 1, j, hj, hf => by
    unfold hat
    by_cases h1 : j < i
    · rw [if_pos h1, if_pos (by omega : j < i + 1), if_neg (by omega)]
    · rw [if_neg h1]
      by_cases h2 : j = i
      · subst h2
        rw [if_pos (Nat.lt_succ_self _), if_pos rfl]
        obtain ⟨u, hu, e⟩ := h.up hj hi
        rw [e, Int.toNat_natCast]
        exact hat_self hu f
      · rw [if_neg (by omega : ¬ j < i + 1)]
        obtain ⟨u, hu, e⟩ := h.up hj (by omega)
        rw [e, Int.toNat_natCast]
        exact hat_step h hi hil f u (by omega) (by omega)
theorem path_fuel {us : List Int} (h : Lk us) : ∀ (f g j : Nat), j < us.length → j ≤ f → j ≤ g → pathF us f j = pathF us g j
  | 0, g, j, _, hf, _ => by
    obtain rfl : j = 0 := by omega
    cases g <;> simp [pathF]
  | f + 1, 0, j, _, _, hg => by
    obtain rfl : j = 0 := by omega
    simp [pathF]
  | f + 1, g + 1, j, hj, hf, hg => by
    unfold pathF
    by_cases h0 : j = 0
    · rw [if_pos h0, if_pos h0]
    · rw [if_neg h0, if_neg h0]
      obtain ⟨u, hu, e⟩ := h.up hj (by omega)
      rw [e, Int.toNat_natCast, path_fuel h f g u (by omega) (by omega) (by omega)]
theorem path_le {us : List Int} (h : Lk us) : ∀ (f j : Nat), j < us.length → j ≤ f → ∀ x ∈ pathF us f j, x ≤ j
  | 0, j, _, _, x, hx => by simp [pathF] at hx; omega
  | f + 1, j, hj, hf, x, hx => by
    unfold pathF at hx
    by_cases h0 : j = 0
    · rw [if_pos h0] at hx; simp at hx; omega
    · rw [if_neg h0] at hx
      obtain ⟨u, hu, e⟩ := h.up hj (by omega)
      rw [e, Int.toNat_natCast] at hx
      rcases List.mem_append.1 hx with hx | hx
      · have := path_le h f u (by omega) (by omega) x hx; omega
      · simp at hx; omega
/-- i lies on the way to j -/
theorem path_mem {us : List Int} (h : Lk us) (i : Nat) : ∀ (f j : Nat), j < us.length → j ≤ f → (i ∈ pathF us f j ↔ hat us (i + 1) f j = i)
  | 0, j, _, hf => by
    obtain rfl : j = 0 := by omega
    simp [pathF, hat]; omega
  | f + 1, j, hj, hf => by
    unfold pathF hat
    by_cases h0 : j = 0
    · subst h0
      rw [if_pos rfl, if_pos (by omega : 0 < i + 1)]
      simp; omega
    · rw [if_neg h0]
      obtain ⟨u, hu, e⟩ := h.up hj (by omega)
      rw [e, Int.toNat_natCast]
      by_cases hji : j < i + 1
      · rw [if_pos hji]
        constructor
        · intro hx
          rcases List.mem_append.1 hx with hx | hx
          · have := path_le h f u (by omega) (by omega) i hx; omega
          · simp at hx; omega
        · intro hx; subst hx; simp
      · rw [if_neg hji, ← path_mem h i f u (by omega) (by omega)]
        simp; omega
/-- i is j or an ancestor of j -/
def anc (us : List Int) (i j : Nat) : Bool := decide (hat us (i + 1) j j = i)
/-- the sum over the nodes that lead to i ahead of k -/
def own (us : List Int) (k : Nat) (d : Nat → Int) (i : Nat) : Nat → Int
  | 0 => 0
  | n + 1 => own us k d i n + if hat us k n n = i then d n else 0
/-- the sum over a subtree -/
def tot (us : List Int) (d : Nat → Int) (i n : Nat) : Int := own us (i + 1) d i n
theorem own_all {us : List Int} (d : Nat → Int) (i : Nat) : ∀ (n k : Nat), n ≤ k → own us k d i n = if i < n then d i else 0
  | 0, k, _ => by simp [own]
  | n + 1, k, h => by
    rw [own, own_all d i n k (by omega), hat_self (by omega)]
    by_cases h1 : i < n
    · rw [if_pos h1, if_neg (by omega), if_pos (by omega)]; omega
    · rw [if_neg h1]
      by_cases h2 : n = i
      · subst h2; rw [if_pos rfl, if_pos (by omega)]; omega
      · rw [if_neg h2, if_neg (by omega)]; rfl
theorem own_step {us : List Int} (h : Lk us) {i u : Nat} (d : Nat → Int) (hi : 0 < i) (hil : i < us.length) (hu : u < i) : ∀ n, n ≤ us.length →
    own us i d u n = own us (i + 1) d u n + if us.getD i 0 = u then own us (i + 1) d i n else 0
  | 0, _ => by simp [own]
  | n + 1, hn => by
    have ih := own_step h d hi hil hu n (by omega)
    have hs := hat_step h hi hil n n (by omega) (Nat.le_refl _)
    obtain ⟨v, hv, e⟩ := h.up hil hi
    rw [e] at ih hs ⊢
    rw [Int.toNat_natCast] at hs
    rw [own, own, own, ih, hs]
    by_cases h1 : hat us (i + 1) n n = i
    · rw [if_pos h1, if_pos h1, if_neg (by omega : ¬ hat us (i + 1) n n = u)]
      by_cases h2 : v = u
      · rw [if_pos (by omega : (v : Int) = (u : Int)), if_pos h2, if_pos (by omega : (v : Int) = (u : Int))]; omega
      · rw [if_neg (by omega : ¬ (v : Int) = (u : Int)), if_neg h2, if_neg (by omega : ¬ (v : Int) = (u : Int))]
    · rw [if_neg h1, if_neg h1]
      by_cases h2 : v = u
      · rw [if_pos (by omega : (v : Int) = (u : Int)), if_pos (by omega : (v : Int) = (u : Int))]; omega
      · rw [if_neg (by omega : ¬ (v : Int) = (u : Int)), if_neg (by omega : ¬ (v : Int) = (u : Int))]; omega
theorem own_nonneg {us : List Int} {k i : Nat} {d : Nat → Int} : ∀ n, (∀ j, j < n → 0 ≤ d j) → 0 ≤ own us k d i n
  | 0, _ => Int.le_refl _
  | n + 1, h => by
    have := own_nonneg (us := us) (k := k) (i := i) n (fun j hj => h j (by omega))
    have := h n (by omega)
    rw [own]; split <;> omega
/-- what has come up so far is at most the sum over the subtree -/
theorem own_grow {us : List Int} (h : Lk us) {d : Nat → Int} {n : Nat} (hn : n = us.length) (hd : ∀ j, j < n → 0 ≤ d j) {u : Nat} : ∀ (m i : Nat), i + m = n → u < i → 0 < i → own us (i + m) d u n ≤ own us i d u n
  | 0, i, _, _, _ => Int.le_refl _
  | m + 1, i, hm, hu, hi => by
    have h1 := own_grow (u := u) h hn hd m (i + 1) (by omega) (by omega) (by omega)
    rw [show i + (m + 1) = i + 1 + m by omega]
    have h2 := own_step h (u := u) d hi (by omega) hu n (by omega)
    have h3 := own_nonneg (us := us) (k := i + 1) (i := i) n hd
    rw [h2]; split <;> omega
theorem own_tot {us : List Int} (h : Lk us) {d : Nat → Int} {n : Nat} (hn : n = us.length) (hd : ∀ j, j < n → 0 ≤ d j) {u : Nat} : ∀ (m i : Nat), u + 1 + m = i → i ≤ n → own us i d u n ≤ tot us d u n
  | 0, i, hm, _ => by subst hm; exact Int.le_refl _
  | m + 1, i, hm, hi => by
    obtain ⟨k, rfl⟩ : ∃ k, i = k + 1 := ⟨i - 1, by omega⟩
    have h1 := own_tot (u := u) h hn hd m k (by omega) (by omega)
    have h2 := own_step h (i := k) (u := u) d (by omega) (by omega) (by omega) n (by omega)
    have h3 := own_nonneg (us := us) (k := k + 1) (i := k) n hd
    rw [h2] at h1
    split at h1 <;> omega
theorem own_le {us : List Int} {k i : Nat} {d : Nat → Int} {b : Int} (hb : 0 ≤ b) : ∀ n, (∀ j, j < n → d j ≤ b) → own us k d i n ≤ n * b
  | 0, _ => by simp [own]
  | n + 1, h => by
    have h1 := own_le (us := us) (k := k) (i := i) hb n (fun j hj => h j (by omega))
    have h2 := h n (by omega)
    have e : ((n + 1 : Nat) : Int) * b = n * b + b := by rw [Int.natCast_add]; simp [Int.add_mul]
    rw [own, e]; split <;> omega
theorem own_add {us : List Int} {k i : Nat} {d e : Nat → Int} : ∀ n, own us k (fun j => d j + e j) i n = own us k d i n + own us k e i n
  | 0 => rfl
  | n + 1 => by rw [own, own, own, own_add n]; split <;> omega
theorem own_sub {us : List Int} {k i : Nat} {d e : Nat → Int} : ∀ n, own us k (fun j => d j - e j) i n = own us k d i n - own us k e i n
  | 0 => rfl
  | n + 1 => by rw [own, own, own, own_sub n]; split <;> omega
theorem own_congr {us : List Int} {k i : Nat} {d e : Nat → Int} : ∀ n, (∀ j, j < n → d j = e j) → own us k d i n = own us k e i n
  | 0, _ => rfl
  | n + 1, h => by rw [own, own, own_congr n (fun j hj => h j (by omega)), h n (by omega)]
end Go.Proofs.Ytonkgjengplppaa
