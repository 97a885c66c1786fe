/- Numbers of 256 bits: the program's comparison, small numbers, and the reference's difference. -/
import Derived.Test.YtpgpplpddjjchaaDoorWideSub
namespace Go.Proofs.YtpgpplpddjjchaaDoor
open Go.RowKit

set_option maxRecDepth 20000 in
set_option maxHeartbeats 1000000 in
theorem compare_any (n m : Nat) (hn : n < 2 ^ 256) (hm : m < 2 ^ 256) (w : World) :
    Calls Tryd.prog 14 #[.agg (ints .u64 (wl n)).toArray, .agg (ints .u64 (wl m)).toArray] w fun e w' => e = .returned (.int .i64 (cmpW n m)) ∧ Below w.heap.size w w' := by
  obtain ⟨wA, hwA⟩ : ∃ wA, wA = (w.alloc (.cells (ints .u64 (wl n)).toArray 24)).alloc (.cells (ints .u64 (wl m)).toArray 24) := ⟨_, rfl⟩
  have X0 : Hid (Has wA w.heap.size (ints .u64 (wl n))) := by show Has _ _ _; rw [hwA]; exact (Has.new w _ _).alloc _
  have X1 : Hid (Has wA (w.heap.size + 1) (ints .u64 (wl m))) := by show Has _ _ _; rw [hwA]; have := Has.new (w.alloc (.cells (ints .u64 (wl n)).toArray 24)) (ints .u64 (wl m)) 24; rwa [alloc_size] at this
  have BA : Hid (Below w.heap.size w wA) := by show Below _ _ _; rw [hwA]; exact ((Below.refl w.heap.size w).alloc (Nat.le_refl _) _).alloc (by simp) _
  have HWA := Lib.hid hwA
  have HT : Hid (n / 2 ^ (64 * 4) = m / 2 ^ (64 * 4)) := by show _ = _; rw [Nat.div_eq_of_lt hn, Nat.div_eq_of_lt hm]
  have h4 : ((ints .u64 (wl n)).length : Int) = 4 := rfl
  clear hwA hn hm
  go_enter Tryd.func14, Tryd.ntmps14
  go_wp2_with fail
  rw [← HWA.out]
  go_loopw [5] (fun i wr => ∃ k : Nat, k ≤ 4 ∧ i = .int .i64 ((k : Int) - 1) ∧ n / 2 ^ (64 * k) = m / 2 ^ (64 * k) ∧ Has wr w.heap.size (ints .u64 (wl n)) ∧ Has wr (w.heap.size + 1) (ints .u64 (wl m)) ∧ Below w.heap.size w wr) (fun i _ => (intOf i + 1).toNat)
  case atStart => exact ⟨4, Nat.le_refl _, rfl, HT.out, X0.out, X1.out, BA.out⟩
  case round =>
    obtain ⟨k, hk, rfl, heq, hx0, hx1, hbel⟩ := hrel
    have HEQ := Lib.hid heq
    have BY := Lib.hid hbel
    rcases k with _ | j
    · have h0 : n = m := by simpa using heq
      have HR : Hid (cmpW n m = 0) := by show _ = _; rw [cmpW, if_neg (by omega), if_neg (by omega)]
      clear hx0 hx1 heq h0 hbel
      have hneg : ((0 : Nat) : Int) - 1 = -1 := rfl
      go_wp2_with fail
      go_ret
      exact ⟨by rw [HR.out]; rfl, BY.out⟩
    · have hc0 : wr.cell? ⟨w.heap.size, j, none⟩ = some (.int .u64 (limb n j)) := by rw [hx0.cell, wl_at n j (by omega)]
      have hc1 : wr.cell? ⟨w.heap.size + 1, j, none⟩ = some (.int .u64 (limb m j)) := by rw [hx1.cell, wl_at m j (by omega)]
      have X0 := Lib.hid hx0
      have X1 := Lib.hid hx1
      have hj : j ≤ 3 := by omega
      have e1 : ((j + 1 : Nat) : Int) - 1 = (j : Int) := by omega
      have LT1 := Lib.hid (limb_lt (n := n) (m := m) (j := j) heq)
      have LT2 := Lib.hid (limb_lt (n := m) (m := n) (j := j) heq.symm)
      have LE := Lib.hid (limb_eq (n := n) (m := m) (j := j) heq)
      clear hx0 hx1 heq hbel
      generalize limb n j = x at *
      generalize limb m j = y at *
      rw [e1]
      by_cases h1 : x < y
      · have HR : Hid (cmpW n m = -1) := by show _ = _; rw [cmpW, if_pos (LT1.out h1)]
        clear e1
        go_wp2_with fail
        go_quiet (fail)
        go_wp2_with fail
        go_ret
        exact ⟨by rw [HR.out]; rfl, below_dN BY.out _⟩
      · by_cases h2 : y < x
        · have HR : Hid (cmpW n m = 1) := by show _ = _; have := LT2.out h2; rw [cmpW, if_neg (by omega), if_pos this]
          have h1d : decide (x < y) = false := decide_eq_false h1
          clear e1
          go_wp2_with fail
          go_quiet (fail)
          go_wp2_with fail
          go_quiet (fail)
          go_wp2_with fail
          go_ret
          exact ⟨by rw [HR.out]; rfl, below_dN (below_dN BY.out _) _⟩
        · have HQ := Lib.hid (LE.out (by omega))
          have h1d : decide (x < y) = false := decide_eq_false h1
          have h2d : decide (x > y) = false := decide_eq_false h2
          clear e1
          go_wp2_with fail
          go_quiet (fail)
          go_wp2_with fail
          go_quiet (fail)
          go_wp2_with fail
          go_roundw
          case rel => exact ⟨j, by omega, rfl, HQ.out, X0.out, X1.out, below_dN BY.out _⟩
          case measure => simp [intOf]


theorem wl_set0 {x : Nat} (h : x < 18446744073709551616) : (ints .u64 (wl 0)).set 0 (.int .u64 (x : Int)) = ints .u64 (wl x) := by
  have := upd_set (n := 0) (s := 0) (x := x) (j := 0) (by omega) (by simp) h
  rw [upd_zero] at this
  rw [this]
  congr 2
  simp [upd]
set_option maxRecDepth 20000 in
theorem from_any (x : Nat) (hx : x < 18446744073709551616) (w : World) : Calls Tryd.prog 16 #[.int .u64 x] w fun e w' => e = .returned (.agg (ints .u64 (wl x)).toArray) ∧ Below w.heap.size w w' := by
  have hz := wz_lit
  have hs := wl_set0 hx
  have X := bx (Has.new w (ints .u64 (wl 0)) 24)
  have BB := bx ((Below.refl w.heap.size w).alloc (Nat.le_refl _) (.cells (ints .u64 (wl 0)).toArray 24))
  go_enter Tryd.func16, Tryd.ntmps16
  go_wp2_with ((with_reducible refine wpList_storeB rfl 24 _ _ rfl _ (ints .u64 (wl x)) _ ?_ ?_ X.out (wl_len2 _ _) Tryd.underlying24 ?_ (wl_one _) ?_); rfl; rfl; exact cells_wide _; intro w1 hw hg hz0; have U := bx hw; have B1 := bx (BB.out.grown hg BB.out.size (fun k hk => by cases hk; omega)); clear hw hg hz0)
  exact bodyPost_ret (results_cell (by rfl) _ (by rfl) U.out Tryd.underlying24 rfl (cells_wide _)) rfl ⟨rfl, B1.out⟩
end Go.Proofs.YtpgpplpddjjchaaDoor
