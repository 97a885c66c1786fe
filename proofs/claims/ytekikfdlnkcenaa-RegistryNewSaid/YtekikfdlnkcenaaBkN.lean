/- Books over tables in order. -/
import Derived.Test.YtekikfdlnkcenaaBkT
namespace Go.Proofs.Ytekikfdlnkcenaa
open Go.RowKit Go.Maps
theorem cmpCp_flip (a b : Cp) : cmpCp b a = - cmpCp a b := by rw [← cmpS_cp, ← cmpS_cp]; exact cmpI_flip _ _
theorem cmpCp_zero {a b : Cp} (h : cmpCp a b = 0) : a = b := by
  rw [← cmpS_cp] at h
  exact toS_inj (flC_inj _ _ (cmpI_zero _ _ (by rw [flC_len, flC_len]) h))
theorem cmpCp_self (a : Cp) : cmpCp a a = 0 := by rw [← cmpS_cp]; exact cmpI_self _
theorem cmpCp_trans {a b c : Cp} (h1 : cmpCp a b < 0) (h2 : cmpCp b c < 0) : cmpCp a c < 0 := by
  have h3 : cmpCp a c ≤ 0 := by
    rw [← cmpS_cp] at h1 h2 ⊢
    exact cmpI_trans _ _ _ (by rw [flC_len, flC_len]) (by rw [flC_len, flC_len]) (Int.le_of_lt h1) (Int.le_of_lt h2)
  rcases Int.lt_or_eq_of_le h3 with h | h
  · exact h
  · have := cmpCp_zero h
    subst this
    have := cmpCp_flip a b
    omega
theorem findT_neg {T : List Tbl} {c : Cp} (h : ¬ 0 ≤ findT T c) : ∀ x ∈ T, x.c ≠ c := fun x hx e => by
  rcases idxI_cases (fun t : Tbl => decide (t.c = c)) T with ⟨_, h2⟩ | ⟨k, hk, e1, _⟩
  · have := h2 x hx
    rw [e] at this
    simp at this
  · exact h (by unfold findT; rw [e1]; omega)
theorem findT_pos {T : List Tbl} {c : Cp} (h : 0 ≤ findT T c) : ∃ x ∈ T, x.c = c := by
  rcases idxI_cases (fun t : Tbl => decide (t.c = c)) T with ⟨h1, _⟩ | ⟨k, hk, _, h2, _⟩
  · unfold findT at h; omega
  · exact ⟨T[k], List.getElem_mem hk, by simpa using h2⟩
theorem addT_perm (T : List Tbl) (t : Tbl) : (addT T t).Perm (T ++ [t]) := by
  unfold addT
  refine List.perm_middle.trans ?_
  rw [List.takeWhile_append_dropWhile]
  exact (List.perm_append_singleton t T).symm
theorem drop_all {p : Tbl → Bool} : ∀ {T : List Tbl} {d : Tbl} {r : List Tbl}, T.dropWhile p = d :: r → p d = false
  | [], d, r, h => by cases h
  | x :: T, d, r, h => by
    rw [List.dropWhile_cons] at h
    cases hp : p x with
    | true => rw [hp] at h; exact drop_all (T := T) h
    | false =>
      rw [hp] at h
      simp only [Bool.false_eq_true, if_false, List.cons.injEq] at h
      rw [← h.1]; exact hp
theorem addT_asc {T : List Tbl} {t : Tbl} (hs : Asc T) (hn : ∀ x ∈ T, x.c ≠ t.c) : Asc (addT T t) := by
  have hcat : T.takeWhile (fun x => decide (cmpCp x.c t.c < 0)) ++ T.dropWhile (fun x => decide (cmpCp x.c t.c < 0)) = T := List.takeWhile_append_dropWhile
  have hs' := hs
  unfold Asc at hs'
  rw [← hcat, List.pairwise_append] at hs'
  obtain ⟨h1, h2, h3⟩ := hs'
  have ht : ∀ x ∈ T.takeWhile (fun x => decide (cmpCp x.c t.c < 0)), cmpCp x.c t.c < 0 := fun x hx => by
    have := List.all_eq_true.1 (List.all_takeWhile (p := fun x : Tbl => decide (cmpCp x.c t.c < 0)) (l := T)) x hx
    simpa using this
  have hd : ∀ y ∈ T.dropWhile (fun x => decide (cmpCp x.c t.c < 0)), cmpCp t.c y.c < 0 := fun y hy => by
    cases hdw : T.dropWhile (fun x => decide (cmpCp x.c t.c < 0)) with
    | nil => rw [hdw] at hy; cases hy
    | cons d r =>
      have hp := drop_all hdw
      have hdT : d ∈ T := by rw [← hcat, hdw]; simp
      have h4 : cmpCp t.c d.c < 0 := by
        have h5 : ¬ cmpCp d.c t.c < 0 := by simpa using hp
        have h6 := cmpCp_flip d.c t.c
        have h7 : cmpCp d.c t.c ≠ 0 := fun e => hn d hdT (cmpCp_zero e)
        omega
      rw [hdw] at hy h2
      rcases List.mem_cons.1 hy with rfl | hy
      · exact h4
      · exact cmpCp_trans h4 ((List.pairwise_cons.1 h2).1 y hy)
  unfold Asc addT
  rw [List.pairwise_append]
  refine ⟨h1, List.pairwise_cons.2 ⟨hd, h2⟩, fun x hx y hy => ?_⟩
  rcases List.mem_cons.1 hy with rfl | hy
  · exact ht x hx
  · exact h3 x hx y hy
theorem look_old {T : List Tbl} {c : Cp} : (look (T.map oldT) (oldC c)).isSome = decide (0 ≤ findT T c) := by
  rw [Bool.eq_iff_iff, decide_eq_true_eq]
  constructor
  · intro h
    obtain ⟨b, hb⟩ := Option.isSome_iff_exists.1 h
    obtain ⟨t, ht, e⟩ := List.mem_map.1 (look_some hb)
    have hc : t.c = c := oldC_inj (Prod.mk.inj e).1
    rcases Int.lt_or_le (findT T c) 0 with h0 | h0
    · exact absurd hc (findT_neg (by omega) t ht)
    · exact h0
  · intro h
    obtain ⟨t, ht, e⟩ := findT_pos h
    cases hl : look (T.map oldT) (oldC c) with
    | some b => rfl
    | none => exact absurd (show (oldT t).1 = oldC c by subst e; rfl) (look_none hl (oldT t) (List.mem_map.2 ⟨t, ht, rfl⟩))
theorem bal_old {T : List Tbl} (hs : Asc T) {t : Tbl} (ht : t ∈ T) : bal (T.map oldT) (oldC t.c) = t.b.map fun x => (x.n : Int) := by
  have hok : TOk (T.map oldT) := ⟨fun x hx => by obtain ⟨y, _, rfl⟩ := List.mem_map.1 hx; exact oldC_ok _, fun x hx => by obtain ⟨y, _, rfl⟩ := List.mem_map.1 hx; exact u_u64 _, by
    rw [List.pairwise_map]
    exact hs.imp fun {a b} h e => by
      have := oldC_inj e
      rw [this, cmpCp_self] at h
      omega⟩
  unfold bal
  rw [look_of hok (List.mem_map.2 ⟨t, ht, rfl⟩)]; rfl
theorem bal_none' {T : List Tbl} {c : Cp} (h : ¬ 0 ≤ findT T c) : bal (T.map oldT) (oldC c) = [] := bal_none (by rw [look_old]; exact decide_eq_false h)
/-- a registration, over tables in order -/
theorem reg_old (T : List Tbl) (t : Tbl) (v lim : Int) : regE (T.map oldT) (oldC t.c) (t.b.map fun x => (x.n : Int)) v lim = (regM T t v lim).1 ∧ (regT (T.map oldT) (oldC t.c) (t.b.map fun x => (x.n : Int)) v lim).Perm ((regM T t v lim).2.map oldT) := by
  have hv : valE (t.b.map fun x => (x.n : Int)) (t.b.map fun x => (x.n : Int)).length v = tbE t.b v := by unfold tbE; rw [List.length_map]
  have e1 : regE (T.map oldT) (oldC t.c) (t.b.map fun x => (x.n : Int)) v lim = (regM T t v lim).1 := by
    unfold regE regM
    rw [hv, look_old, List.length_map]
    by_cases h1 : tbE t.b v = 0
    · by_cases h2 : 0 ≤ findT T t.c
      · simp [h1, h2]
      · by_cases h3 : lim ≤ (T.length : Int)
        · simp [h1, h2, h3]
        · simp [h1, h2, h3]
    · simp [h1]
  refine ⟨e1, ?_⟩
  unfold regT
  rw [e1]
  unfold regM
  by_cases h1 : tbE t.b v = 0
  · by_cases h2 : 0 ≤ findT T t.c
    · simp [h1, h2]
    · by_cases h3 : lim ≤ (T.length : Int)
      · simp [h1, h2, h3]
      · have := (addT_perm T t).symm.map oldT
        rw [List.map_append] at this
        simp only [h1, h2, h3, ne_eq, not_true_eq_false, if_false, if_true]
        exact this
  · simp [h1]
theorem regM_asc {T : List Tbl} (hs : Asc T) (t : Tbl) (v lim : Int) : Asc (regM T t v lim).2 := by
  unfold regM
  split
  · exact hs
  · split
    · exact hs
    · split
      · exact hs
      · exact addT_asc hs (findT_neg (by assumption))
theorem registerN_any {P : Nat → Prop} (B M : Nat) (v lim : Int) (hlim : lim ≤ 64) (T : List Tbl) (t : Tbl) (A : Option Addr) (k : Nat) (hb : t.b.length ≤ 65535) (w : World) (h : Bk P w B M v lim (T.map oldT)) (hP : ∀ g, w.heap.size ≤ g → P g) (hr : Row w w.heap.size 1 A t.b.length (us t.b)) (hA : A = none → k = 0) :
    Calls Try.prog 13 #[.pointer (some ⟨B, 0, none⟩), .agg (fl (tbP t.c (.slice A t.b.length k))).toArray] w fun e w' => e = .returned (.int .i64 (regM T t v lim).1) ∧ Bk P w' B M v lim ((regM T t v lim).2.map oldT) ∧ w.grownBy w' (some M) := by
  have hx := register_any B M v lim hlim (T.map oldT) (oldC t.c) (oldC_ok t.c) w.heap.size A k (t.b.map fun x => (x.n : Int)) (u_u64 _) (by simpa using hb) hA w h hP (Nat.le_refl _) (by
    rw [List.length_map]; exact us_ints t.b ▸ hr)
  rw [List.length_map] at hx
  obtain ⟨q1, q2⟩ := reg_old T t v lim
  refine hx.mono fun e w' h => ?_
  obtain ⟨h1, h2, h3⟩ := h
  exact ⟨by rw [h1, q1], ⟨h2.b, h2.m.perm q2⟩, h3⟩
end Go.Proofs.Ytekikfdlnkcenaa
