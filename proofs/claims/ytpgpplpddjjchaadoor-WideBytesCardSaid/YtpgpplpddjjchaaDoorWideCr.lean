/- Numbers of 256 bits: the order of the bytes is the order of the numbers. -/
import Derived.Test.YtpgpplpddjjchaaDoorWideFB
import Derived.Test.YtpgpplpddjjchaaDoorWideD
import Derived.Test.YtpgpplpddjjchaaDoorEq
namespace Go.Proofs.YtpgpplpddjjchaaDoor
open Go.RowKit

theorem getD_get (l : List Int) (k : Nat) (h : k < l.length) : l.getD k 0 = l[k] := by simp [List.getD_eq_getElem?_getD, List.getElem?_eq_getElem h]
def cmpI : List Int → List Int → Int
  | a :: xs, b :: ys => if a < b then -1 else if b < a then 1 else cmpI xs ys
  | _, _ => 0

theorem cmpI_lt : ∀ (k : Nat) (a b : List Int), k < a.length → a.length = b.length → a.take k = b.take k → a.getD k 0 < b.getD k 0 → cmpI a b = -1
  | 0, [], _, h, _, _, _ => by simp at h
  | 0, a :: xs, b :: ys, _, _, _, h => by simp at h; simp [cmpI, h]
  | 0, _ :: _, [], _, h, _, _ => by simp at h
  | k + 1, [], _, h, _, _, _ => by simp at h
  | k + 1, _ :: _, [], _, h, _, _ => by simp at h
  | k + 1, a :: xs, b :: ys, h1, h2, h3, h4 => by
    simp only [List.take_succ_cons, List.cons.injEq] at h3
    obtain ⟨rfl, h3⟩ := h3
    have := cmpI_lt k xs ys (by simpa using h1) (by simpa using h2) h3 (by simpa using h4)
    simp [cmpI, this]
theorem cmpI_gt : ∀ (k : Nat) (a b : List Int), k < a.length → a.length = b.length → a.take k = b.take k → b.getD k 0 < a.getD k 0 → cmpI a b = 1
  | 0, [], _, h, _, _, _ => by simp at h
  | 0, a :: xs, b :: ys, _, _, _, h => by simp at h; simp [cmpI, h]; omega
  | 0, _ :: _, [], _, h, _, _ => by simp at h
  | k + 1, [], _, h, _, _, _ => by simp at h
  | k + 1, _ :: _, [], _, h, _, _ => by simp at h
  | k + 1, a :: xs, b :: ys, h1, h2, h3, h4 => by
    simp only [List.take_succ_cons, List.cons.injEq] at h3
    obtain ⟨rfl, h3⟩ := h3
    have := cmpI_gt k xs ys (by simpa using h1) (by simpa using h2) h3 (by simpa using h4)
    simp [cmpI, this]
theorem cmpI_self : ∀ (a : List Int), cmpI a a = 0
  | [] => rfl
  | a :: xs => by simp [cmpI, cmpI_self xs]
theorem cmpI_zero : ∀ (a b : List Int), a.length = b.length → (cmpI a b = 0 ↔ a = b)
  | [], [], _ => by simp [cmpI]
  | [], _ :: _, h => by simp at h
  | _ :: _, [], h => by simp at h
  | a :: xs, b :: ys, h => by
    have ih := cmpI_zero xs ys (by simpa using h)
    unfold cmpI
    by_cases h1 : a < b
    · simp [h1]; intro e; omega
    · by_cases h2 : b < a
      · simp [h1, h2]; intro e; omega
      · have : a = b := by omega
        subst this
        simp [h1, ih]
theorem ref_compareRoots {a b : List Int} (ha : Fit .u8 a) (hb : Fit .u8 b) (la : a.length = 32) (lb : b.length = 32) (w : World) :
    Calls Tryd.prog 25 #[.agg (ints .u8 a).toArray, .agg (ints .u8 b).toArray] w fun e w' => e = .returned (.int .i64 (cmpI a b)) ∧ Below w.heap.size w w' := by
  obtain ⟨W, hW⟩ : ∃ W, W = (w.alloc (.cells (ints .u8 a).toArray 58)).alloc (.cells (ints .u8 b).toArray 58) := ⟨_, rfl⟩
  have hx : ∀ n k : Nat, ∀ hk : k < a.length, (W.drewN n).cell? ⟨w.heap.size, k, none⟩ = some (.int .u8 a[k]) := by
    intro n k hk
    subst hW
    have h1 := new_cells w (ints .u8 a) 58 k (.int .u8 a[k]) (by rw [ints, List.getElem?_map, List.getElem?_eq_getElem hk]; rfl)
    have hadd : (⟨w.heap.size, 0, none⟩ : Addr).add k = ⟨w.heap.size, k, none⟩ := by unfold Addr.add; split <;> simp_all
    rw [hadd] at h1
    exact (World.cell?_alloc_lt _ _ _ (by simp)).trans h1
  have hy : ∀ n k : Nat, ∀ hk : k < b.length, (W.drewN n).cell? ⟨w.heap.size + 1, k, none⟩ = some (.int .u8 b[k]) := by
    intro n k hk
    subst hW
    have h1 := new_cells (w.alloc (.cells (ints .u8 a).toArray 58)) (ints .u8 b) 58 k (.int .u8 b[k]) (by rw [ints, List.getElem?_map, List.getElem?_eq_getElem hk]; rfl)
    have hadd : (⟨w.heap.size + 1, 0, none⟩ : Addr).add k = ⟨w.heap.size + 1, k, none⟩ := by unfold Addr.add; split <;> simp_all
    simp only [World.size_alloc, hadd] at h1
    exact h1
  have HX := Lib.hid hx
  have HY := Lib.hid hy
  have HW := Lib.hid hW
  have hbel : Hid (∀ n, Below w.heap.size w (W.drewN n)) := fun n => below_dN (by subst hW; exact ((Below.refl _ _).alloc (Nat.le_refl _) _).alloc (by simp) _) n
  clear hx hy
  go_enter Tryd.func25, Tryd.ntmps25
  go_wp2
  go_loopw [5] (fun i wr => ∃ k m : Nat, k ≤ 32 ∧ i = .int .i64 k ∧ wr = W.drewN m ∧ a.take k = b.take k) (fun i _ => 32 - (intOf i).toNat)
  case atStart => exact ⟨0, 0, by omega, rfl, by rw [HW.out]; rfl, rfl⟩
  case round =>
    obtain ⟨k, m, hk, rfl, rfl, hkk⟩ := hrel
    have HK := Lib.hid hkk
    clear hkk
    by_cases hlt : k < 32
    · have h1 : ∀ n, (W.drewN n).cell? ⟨w.heap.size, k, none⟩ = some (.int .u8 (a.getD k 0)) := fun n => by rw [getD_get a k (by omega)]; exact HX.out n k (by omega)
      have h2 : ∀ n, (W.drewN n).cell? ⟨w.heap.size + 1, k, none⟩ = some (.int .u8 (b.getD k 0)) := fun n => by rw [getD_get b k (by omega)]; exact HY.out n k (by omega)
      have g1 : Hid (a.getD k 0 < b.getD k 0 → cmpI a b = -1) := fun h => cmpI_lt k a b (by omega) (by omega) HK.out h
      have g2 : Hid (b.getD k 0 < a.getD k 0 → cmpI a b = 1) := fun h => cmpI_gt k a b (by omega) (by omega) HK.out h
      have g3 : Hid (a.getD k 0 = b.getD k 0 → a.take (k + 1) = b.take (k + 1)) := fun h => by
        rw [List.take_succ_eq_append_getElem (by omega), List.take_succ_eq_append_getElem (by omega), HK.out, ← getD_get a k (by omega), ← getD_get b k (by omega), h]
      clear hW la lb
      generalize a.getD k 0 = x at *
      generalize b.getD k 0 = y at *
      by_cases c1 : x < y
      · go_wp2
        go_quiet (fail)
        go_wp2
        go_ret
        exact ⟨by rw [g1.out c1]; rfl, by repeat (first | exact hbel.out _ | apply below_dN)⟩
      · by_cases c2 : y < x
        · go_wp2
          go_quiet (fail)
          go_wp2
          go_quiet (fail)
          go_wp2
          go_ret
          exact ⟨by rw [g2.out c2]; rfl, by repeat (first | exact hbel.out _ | apply below_dN)⟩
        · have c3 := g3.out (by omega)
          have H3 := Lib.hid c3
          clear c3
          go_wp2
          go_quiet (fail)
          go_wp2
          go_quiet (fail)
          go_wp2
          go_roundw
          case rel => exact ⟨k + 1, _, by omega, by go_num, by first | rfl | (simp only [World.drewN_drewN]; rfl), H3.out⟩
          case measure => simp [intOf]; omega
    · have hkk : k = 32 := by omega
      subst hkk
      have e : a = b := by have := HK.out; rwa [List.take_of_length_le (by omega), List.take_of_length_le (by omega)] at this
      have h0 := Lib.hid ((cmpI_zero a b (by omega)).2 e)
      clear e hW la lb
      go_wp2
      go_ret
      exact ⟨by rw [h0.out]; rfl, hbel.out _⟩


/-- the number that bytes tell, the first the highest -/
def bval : List Int → Nat
  | [] => 0
  | x :: xs => x.toNat * 256 ^ xs.length + bval xs
theorem bval_lt : ∀ (l : List Int), (∀ x ∈ l, 0 ≤ x ∧ x < 256) → bval l < 256 ^ l.length
  | [], _ => by decide
  | x :: xs, h => by
    have h1 := bval_lt xs (fun y hy => h y (List.mem_cons_of_mem _ hy))
    have h2 := h x List.mem_cons_self
    have h3 : (x.toNat + 1) * 256 ^ xs.length ≤ 256 * 256 ^ xs.length := Nat.mul_le_mul_right _ (by omega)
    rw [bval, List.length_cons, Nat.pow_succ]
    rw [Nat.add_mul, Nat.one_mul] at h3
    omega
theorem cmp_val : ∀ (a b : List Int), a.length = b.length → (∀ x ∈ a, 0 ≤ x ∧ x < 256) → (∀ x ∈ b, 0 ≤ x ∧ x < 256) → cmpI a b = cmpW (bval a) (bval b)
  | [], [], _, _, _ => rfl
  | x :: xs, y :: ys, h, ha, hb => by
    have hl : xs.length = ys.length := by simpa using h
    have ih := cmp_val xs ys hl (fun z hz => ha z (List.mem_cons_of_mem _ hz)) (fun z hz => hb z (List.mem_cons_of_mem _ hz))
    have h1 := bval_lt xs (fun z hz => ha z (List.mem_cons_of_mem _ hz))
    have h2 := bval_lt ys (fun z hz => hb z (List.mem_cons_of_mem _ hz))
    have hx := ha x List.mem_cons_self
    have hy := hb y List.mem_cons_self
    rw [hl] at h1
    rw [cmpI, bval, bval, hl]
    by_cases c1 : x < y
    · have h3 : (x.toNat + 1) * 256 ^ ys.length ≤ y.toNat * 256 ^ ys.length := Nat.mul_le_mul_right _ (by omega)
      rw [Nat.add_mul, Nat.one_mul] at h3
      rw [if_pos c1]
      unfold cmpW
      rw [if_pos (by omega)]
    · rw [if_neg c1]
      by_cases c2 : y < x
      · have h3 : (y.toNat + 1) * 256 ^ ys.length ≤ x.toNat * 256 ^ ys.length := Nat.mul_le_mul_right _ (by omega)
        rw [Nat.add_mul, Nat.one_mul] at h3
        rw [if_pos c2]
        unfold cmpW
        rw [if_neg (by omega), if_pos (by omega)]
      · have e : x = y := by omega
        rw [if_neg c2, ih, e]
        unfold cmpW
        simp only [Nat.add_lt_add_iff_left]
  | [], _ :: _, h, _, _ => by simp at h
  | _ :: _, [], h, _, _ => by simp at h
/-- the m lowest bytes, the highest first -/
def topB (n : Nat) : Nat → List Int
  | 0 => []
  | m + 1 => ((byN n m : Nat) : Int) :: topB n m
theorem topB_len (n : Nat) : ∀ m, (topB n m).length = m
  | 0 => rfl
  | m + 1 => by rw [topB, List.length_cons, topB_len n m]
theorem topB_val (n : Nat) : ∀ m, bval (topB n m) = n % 2 ^ (8 * m)
  | 0 => by simp [topB, bval, Nat.mod_one]
  | m + 1 => by
    have e : (256 : Nat) ^ m = 2 ^ (8 * m) := by rw [Nat.pow_mul]
    rw [topB, bval, topB_val n m, topB_len, ← byN_next, e, Int.toNat_natCast]
    omega
theorem topB_at (n : Nat) : ∀ m j, j < m → (topB n m)[j]? = some ((byN n (m - 1 - j) : Nat) : Int)
  | 0, j, h => absurd h (Nat.not_lt_zero _)
  | m + 1, 0, _ => rfl
  | m + 1, j + 1, h => by
    rw [topB, List.getElem?_cons_succ, topB_at n m j (by omega)]
    congr 3
    omega
theorem byl_top (n : Nat) : byl n = topB n 32 := by
  apply List.ext_getElem?
  intro j
  by_cases hj : j < 32
  · rw [topB_at n 32 j hj]
    unfold byl byP
    rw [List.getElem?_map, List.getElem?_range hj]
    show some (if 32 - 32 ≤ j then ((byN n (31 - j) : Nat) : Int) else 0) = some _
    rw [if_pos (by omega)]
  · rw [List.getElem?_eq_none (by unfold byl byP; simp; omega), List.getElem?_eq_none (by rw [topB_len]; omega)]
theorem byl_len (n : Nat) : (byl n).length = 32 := by rw [byl_top, topB_len]
theorem byl_bd {n : Nat} {x : Int} (h : x ∈ byl n) : 0 ≤ x ∧ x < 256 := by
  unfold byl byP at h
  obtain ⟨j, _, rfl⟩ := List.mem_map.1 h
  have := byN_lt n (31 - j)
  show 0 ≤ (if 32 - 32 ≤ j then ((byN n (31 - j) : Nat) : Int) else 0) ∧ (if 32 - 32 ≤ j then ((byN n (31 - j) : Nat) : Int) else 0) < 256
  rw [if_pos (by omega)]
  omega
theorem byl_fit (n : Nat) : Fit .u8 (byl n) := fun x hx => by
  obtain ⟨h1, h2⟩ := byl_bd hx
  exact WalkArith.wf_u8 ⟨by omega, by omega⟩
theorem cmp_byl {n m : Nat} (hn : n < 2 ^ 256) (hm : m < 2 ^ 256) : cmpI (byl n) (byl m) = cmpW n m := by
  rw [cmp_val _ _ (by rw [byl_len, byl_len]) (fun x hx => byl_bd hx) (fun x hx => byl_bd hx), byl_top, byl_top, topB_val, topB_val]
  have e : 8 * 32 = 256 := rfl
  rw [e, Nat.mod_eq_of_lt hn, Nat.mod_eq_of_lt hm]
theorem bytes_compare {n m : Nat} (hn : n < 2 ^ 256) (hm : m < 2 ^ 256) (w : World) :
    Calls Tryd.prog 25 #[.agg (ints .u8 (byl n)).toArray, .agg (ints .u8 (byl m)).toArray] w fun e w' => e = .returned (.int .i64 (cmpW n m)) ∧ Below w.heap.size w w' := by
  have := ref_compareRoots (byl_fit n) (byl_fit m) (byl_len n) (byl_len m) w
  rwa [cmp_byl hn hm] at this
theorem eqBytes : EqT Tryd.prog 2 36 (List.replicate 32 [Value.int .u8 0]).flatten :=
  EqT.array (EqT.int Tryd.underlying5 (by kernel_rfl)) Tryd.underlying36 (by kernel_rfl) (info_of_underlying Tryd.underlying5)
theorem bytes_eq {a b : List Int} (la : a.length = 32) (lb : b.length = 32) (w : World) :
    (Op.equalIn 10000 36 (.agg (ints .u8 a).toArray) (.agg (ints .u8 b).toArray)).run Tryd.prog w = .ok (decide (a = b)) w :=
  eqBytes.same (by omega) (agg_of_array Tryd.underlying36) (size_of_underlying Tryd.underlying36) (Fits.ints la) (Fits.ints lb) (by simp [ints, la]) (by simp [ints, lb]) (by simp [ints_inj]) w
theorem bytes_same (n : Nat) (w : World) :
    (Op.equalIn 10000 36 (.agg (ints .u8 (byl n)).toArray) (.agg (ints .u8 (byl n)).toArray)).run Tryd.prog w = .ok true w := by
  rw [bytes_eq (byl_len n) (byl_len n), decide_eq_true rfl]
end Go.Proofs.YtpgpplpddjjchaaDoor
