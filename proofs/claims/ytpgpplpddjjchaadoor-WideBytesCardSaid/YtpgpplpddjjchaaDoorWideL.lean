/- Numbers of 256 bits: the program's sum and greatest of a list. -/
import Derived.Test.YtpgpplpddjjchaaDoorWideI
import Derived.Test.YtpgpplpddjjchaaDoorMidP
namespace Go.Proofs.YtpgpplpddjjchaaDoor
open Go.RowKit

def wv (n : Nat) : List Value := ints .u64 (wl n)
theorem wv_len (n : Nat) : (wv n).length = 4 := wl_len n
/-- a slice of numbers -/
def WRow (w : World) (A : Option Addr) (n : Nat) (xs : List Nat) : Prop := xs.length = n ∧ (∀ x ∈ xs, x < 2 ^ 256) ∧ (0 < n → ∃ g post, A = some ⟨g, 0, none⟩ ∧ Has w g (xs.flatMap wv ++ post))
theorem WRow.below {w w' : World} {A : Option Addr} {n : Nat} {xs : List Nat} (h : WRow w A n xs) (hb : Below w.heap.size w w') : WRow w' A n xs :=
  ⟨h.1, h.2.1, fun hn => by
    obtain ⟨g, post, h1, h2⟩ := h.2.2 hn
    exact ⟨g, post, h1, h2.below hb h2.lt⟩⟩
def sumN (xs : List Nat) (k : Nat) : Nat := (xs.take k).sum
theorem sumN_next {xs : List Nat} {k : Nat} (h : k < xs.length) : sumN xs (k + 1) = sumN xs k + xs[k] := by
  unfold sumN
  rw [List.take_succ_eq_append_getElem h, List.sum_append]
  simp
theorem sumN_all (xs : List Nat) : sumN xs xs.length = xs.sum := by unfold sumN; rw [List.take_length]
theorem sumN_le (xs : List Nat) (k : Nat) : sumN xs k ≤ xs.sum := by
  have h : xs.sum = sumN xs k + (xs.drop k).sum := by
    unfold sumN
    rw [← List.sum_append, List.take_append_drop]
  omega
/-- a part of a variable is read -/
theorem wpList_loadR {P : Program} {ops : Array Oper} {rest : List Oper} {op : Oper} {a : Act} {w : World} {Q : Exit → Act → World → Prop} (ty : TypeId) (x : Operand) (ho : op.op = .load ty x)
    (hgd : Region.wanted op (yielded ops a.tmps) = true) (g o : Nat) (cs : List Value) (hr : w.rangeAt g o cs) (hx : a.eval x = .pointer (some ⟨g, o, none⟩)) {d : TypeDesc} (hu : P.underlying ty = some d) (hd : d.isRow = true) (hc : P.cellsOf ty = cs.length)
    (h : wpList P ops Q rest (a.put op.dst (.agg cs.toArray)) w) : wpList P ops Q (op :: rest) a w :=
  wpList_go hgd fun K hK => wp_load_mid ty x ho g o hx cs d hr hu hd (info_size hu hc) (hK _ _ h)

set_option maxRecDepth 20000 in
set_option maxHeartbeats 1000000 in
theorem sumP_any (A : Option Addr) (n c : Nat) (xs : List Nat) (w : World) (hr : WRow w A n xs) (hn : n ≤ maxLen) :
    Calls Tryd.prog 26 #[.slice A n c] w fun e w' => e = .returned (.tuple #[.agg (ints .u64 (wl (okW xs.sum))).toArray, .int .i64 (erW xs.sum)]) ∧ Below w.heap.size w w' := by
  have hz := wz_lit
  obtain ⟨wA, hwA⟩ : ∃ wA, wA = (w.alloc (.cells (ints .u64 (wl 0)).toArray 24)).alloc (.cells (ints .u64 (wl 0)).toArray 24) := ⟨_, rfl⟩
  have X0 : Bx (Has wA w.heap.size (ints .u64 (wl 0))) := ⟨by rw [hwA]; exact (Has.new w _ _).alloc _⟩
  have X1 : Bx (Has wA (w.heap.size + 1) (ints .u64 (wl 0))) := ⟨by rw [hwA]; have := Has.new (w.alloc (.cells (ints .u64 (wl 0)).toArray 24)) (ints .u64 (wl 0)) 24; rwa [alloc_size] at this⟩
  have BA : Bx (Below w.heap.size w wA) := ⟨by rw [hwA]; exact ((Below.refl w.heap.size w).alloc (Nat.le_refl _) _).alloc (by simp) _⟩
  have HWA := bx hwA
  have HR := bx hr
  have HL := bx hr.1
  clear hwA hr
  have hnm : n ≤ 9223372036854775807 := by unfold maxLen at hn; omega
  go_enter Tryd.func26, Tryd.ntmps26
  go_wp2_with fail
  rw [← HWA.out]
  go_loopw [10] (fun i wr => ∃ k : Nat, k ≤ n ∧ i = .int .i64 k ∧ sumN xs k < 2 ^ 256 ∧ (∃ r, Has wr w.heap.size (ints .u64 (wl r))) ∧ Has wr (w.heap.size + 1) (ints .u64 (wl (sumN xs k))) ∧ Below w.heap.size w wr) (fun i _ => n - (intOf i).toNat)
  case atStart => exact ⟨0, Nat.zero_le _, rfl, Nat.two_pow_pos 256, ⟨0, X0.out⟩, X1.out, BA.out⟩
  case round =>
    obtain ⟨k, hk, rfl, hs, ⟨r0, hx0⟩, hx1, hbel⟩ := hrel
    have Y0 := bx hx0
    have Y1 := bx hx1
    have BY := bx hbel
    have HS := bx hs
    clear hx0 hx1 hbel X0 X1 BA HWA hs
    by_cases hkn : k < n
    · have hkl : k < xs.length := by rw [HL.out]; exact hkn
      obtain ⟨g1, p1, rfl, hg1⟩ := (HR.out.below BY.out).2.2 (by omega)
      have RNG : Bx (wr.rangeAt g1 (k * 4) (ints .u64 (wl xs[k]))) := ⟨hg1.rangeP (k := 4) (fun x _ => wv_len x) k hkl⟩
      have HV := bx (HR.out.2.1 _ (List.getElem_mem hkl))
      have HN := bx (sumN_next hkl)
      have HLE := bx (sumN_le xs (k + 1))
      clear hg1
      generalize xs[k] = v at *
      generalize sumN xs k = s at *
      generalize hs2 : sumN xs (k + 1) = s2 at *
      have E2 := bx hs2
      clear hs2
      have hki : (k : Int) < (n : Int) := by omega
      have hk0 : 0 ≤ (k : Int) := by omega
      have Z0 := bx (Y0.out.alloc (.cells (ints .u64 (wl 0)).toArray 24))
      have Z1 := bx (Y1.out.alloc (.cells (ints .u64 (wl 0)).toArray 24))
      have Z6 := bx (Has.new wr (ints .u64 (wl 0)) 24)
      have BZ := bx (BY.out.alloc BY.out.size (.cells (ints .u64 (wl 0)).toArray 24))
      have L0 := bx Y0.out.lt
      have L1 := bx Y1.out.lt
      go_wp2_with (first | ((with_reducible refine wpList_loadR 24 _ rfl ?_ g1 (k * 4) (ints .u64 (wl v)) RNG.out ?_ Tryd.underlying24 ?_ ?_ ?_); rfl; rfl; rfl; exact cells_wide _) | ((with_reducible refine wpList_storeB rfl 24 _ _ rfl _ (ints .u64 (wl v)) _ ?_ ?_ Z6.out (wl_len2 _ _) Tryd.underlying24 ?_ (wl_one _) ?_); rfl; rfl; exact cells_wide _; intro w4 hw hg hz0; have V6 := bx hw; have V0 := bx (Z0.out.grown hg (fun e => by injection e with e; have := L0.out; omega)); have V1 := bx (Z1.out.grown hg (fun e => by injection e with e; have := L1.out; omega)); have BV := bx (BZ.out.grown hg BZ.out.size (fun k hk => by cases hk; have := L0.out; omega)); clear hw hg hz0) | ((with_reducible refine wpList_loadG 24 _ rfl _ (ints .u64 (wl s)) ?_ ?_ V1.out Tryd.underlying24 rfl ?_ ?_); rfl; rfl; exact cells_wide _) | ((with_reducible refine wpList_loadG 24 _ rfl _ (ints .u64 (wl v)) ?_ ?_ V6.out Tryd.underlying24 rfl ?_ ?_); rfl; rfl; exact cells_wide _))
      refine (add_any s v HS.out HV.out _).mono ?_; rintro e w5 ⟨rfl, hb5⟩
      have V2 := bx (V0.out.below hb5 V0.out.lt)
      have V3 := bx (V1.out.below hb5 V1.out.lt)
      have B5 := bx (BV.out.trans (hb5.mono BV.out.size))
      clear hb5 V0 V1 BV Z0 Z1 BZ Z6
      rw [← HN.out]
      by_cases hov : s2 < 2 ^ 256
      · have h0 : okW s2 = s2 ∧ erW s2 = 0 := ⟨if_pos hov, if_pos hov⟩
        have HOV := bx hov
        rw [h0.1, h0.2]
        clear h0 hov
        go_wp2_with ((with_reducible refine wpList_storeB rfl 24 _ _ rfl _ (ints .u64 (wl s2)) _ ?_ ?_ V3.out (wl_len2 _ _) Tryd.underlying24 ?_ (wl_one _) ?_); rfl; rfl; exact cells_wide _; intro w6 hw hg hz0; have U1 := bx hw; have U0 := bx (V2.out.grown hg (fun e => by injection e with e; omega)); have B6 := bx (B5.out.grown hg B5.out.size (fun k hk => by cases hk; omega)); clear hw hg hz0)
        go_roundw
        case rel => exact ⟨k + 1, by omega, by go_num, by rw [E2.out]; exact HOV.out, ⟨r0, U0.out⟩, by rw [E2.out]; exact U1.out, B6.out⟩
        case measure => simp [intOf]; omega
      · have h0 : okW s2 = 0 ∧ erW s2 = 4 := ⟨if_neg hov, if_neg hov⟩
        have hT : okW xs.sum = 0 ∧ erW xs.sum = 4 := ⟨if_neg (by have := HLE.out; omega), if_neg (by have := HLE.out; omega)⟩
        have HT := bx hT
        rw [h0.1, h0.2]
        clear h0 hov hT
        go_wp2_with (first | ((with_reducible refine wpList_storeB rfl 24 _ _ rfl _ (ints .u64 (wl 0)) _ ?_ ?_ V3.out (wl_len2 _ _) Tryd.underlying24 ?_ (wl_one _) ?_); rfl; rfl; exact cells_wide _; intro w6 hw hg hz0; have U1 := bx hw; have U0 := bx (V2.out.grown hg (fun e => by injection e with e; omega)); have B6 := bx (B5.out.grown hg B5.out.size (fun k hk => by cases hk; omega)); clear hw hg hz0) | ((with_reducible refine wpList_storeB rfl 24 _ _ rfl _ (ints .u64 (wl 0)) _ ?_ ?_ U0.out (wl_len2 _ _) Tryd.underlying24 ?_ (wl_one _) ?_); rfl; rfl; exact cells_wide _; intro w7 hw hg hz0; have U9 := bx hw; have B9 := bx (B6.out.grown hg B6.out.size (fun k hk => by cases hk; omega)); clear hw hg hz0))
        exact bodyPost_ret (results_cell_tmp (by rfl) _ (by rfl) U9.out Tryd.underlying24 rfl (cells_wide _)) rfl ⟨by rw [HT.out.1, HT.out.2]; rfl, B9.out⟩
    · obtain rfl : k = n := by omega
      have HT : Bx (okW xs.sum = sumN xs k ∧ erW xs.sum = 0) := ⟨by
        have := sumN_all xs
        rw [HL.out] at this
        rw [← this]
        exact ⟨if_pos HS.out, if_pos HS.out⟩⟩
      generalize sumN xs k = s at *
      go_wp2_with (first | ((with_reducible refine wpList_loadG 24 _ rfl _ (ints .u64 (wl s)) ?_ ?_ Y1.out Tryd.underlying24 rfl ?_ ?_); rfl; rfl; exact cells_wide _) | ((with_reducible refine wpList_storeB rfl 24 _ _ rfl _ (ints .u64 (wl s)) _ ?_ ?_ Y0.out (wl_len2 _ _) Tryd.underlying24 ?_ (wl_one _) ?_); rfl; rfl; exact cells_wide _; intro w9 hw hg hz0; have U9 := bx hw; have B9 := bx (BY.out.grown hg BY.out.size (fun k hk => by cases hk; omega)); clear hw hg hz0))
      exact bodyPost_ret (results_cell_tmp (by rfl) _ (by rfl) U9.out Tryd.underlying24 rfl (cells_wide _)) rfl ⟨by rw [HT.out.1, HT.out.2]; rfl, B9.out⟩

def topN (xs : List Nat) : Nat → Nat
  | 0 => 0
  | k + 1 => if topN xs k < xs.getD k 0 then xs.getD k 0 else topN xs k
theorem topN_lt {xs : List Nat} (h : ∀ x ∈ xs, x < 2 ^ 256) : ∀ k, topN xs k < 2 ^ 256
  | 0 => Nat.two_pow_pos 256
  | k + 1 => by
    have h1 := topN_lt h k
    unfold topN
    split
    · rw [List.getD_eq_getElem?_getD]
      rcases Nat.lt_or_ge k xs.length with hk | hk
      · rw [List.getElem?_eq_getElem hk]; exact h _ (List.getElem_mem hk)
      · rw [List.getElem?_eq_none hk]; exact Nat.two_pow_pos 256
    · exact h1
set_option maxRecDepth 20000 in
set_option maxHeartbeats 1000000 in
theorem greatest_any (A : Option Addr) (n c : Nat) (xs : List Nat) (w : World) (hr : WRow w A n xs) (hn : n ≤ maxLen) :
    Calls Tryd.prog 28 #[.slice A n c] w fun e w' => e = .returned (.agg (ints .u64 (wl (topN xs n))).toArray) ∧ Below w.heap.size w w' := by
  have hz := wz_lit
  obtain ⟨wA, hwA⟩ : ∃ wA, wA = (w.alloc (.cells (ints .u64 (wl 0)).toArray 24)).alloc (.cells (ints .u64 (wl 0)).toArray 24) := ⟨_, rfl⟩
  have X0 : Bx (Has wA w.heap.size (ints .u64 (wl 0))) := ⟨by rw [hwA]; exact (Has.new w _ _).alloc _⟩
  have X1 : Bx (Has wA (w.heap.size + 1) (ints .u64 (wl 0))) := ⟨by rw [hwA]; have := Has.new (w.alloc (.cells (ints .u64 (wl 0)).toArray 24)) (ints .u64 (wl 0)) 24; rwa [alloc_size] at this⟩
  have BA : Bx (Below w.heap.size w wA) := ⟨by rw [hwA]; exact ((Below.refl w.heap.size w).alloc (Nat.le_refl _) _).alloc (by simp) _⟩
  have HWA := bx hwA
  have HR := bx hr
  have HL := bx hr.1
  clear hwA hr
  have hnm : n ≤ 9223372036854775807 := by unfold maxLen at hn; omega
  go_enter Tryd.func28, Tryd.ntmps28
  go_wp2_with fail
  rw [← HWA.out]
  go_loopw [8] (fun i wr => ∃ k : Nat, k ≤ n ∧ i = .int .i64 k ∧ (∃ r, Has wr w.heap.size (ints .u64 (wl r))) ∧ Has wr (w.heap.size + 1) (ints .u64 (wl (topN xs k))) ∧ Below w.heap.size w wr) (fun i _ => n - (intOf i).toNat)
  case atStart => exact ⟨0, Nat.zero_le _, rfl, ⟨0, X0.out⟩, X1.out, BA.out⟩
  case round =>
    obtain ⟨k, hk, rfl, ⟨r0, hx0⟩, hx1, hbel⟩ := hrel
    have Y0 := bx hx0
    have Y1 := bx hx1
    have BY := bx hbel
    have HS := bx (topN_lt HR.out.2.1 k)
    clear hx0 hx1 hbel X0 X1 BA HWA
    by_cases hkn : k < n
    · have hkl : k < xs.length := by rw [HL.out]; exact hkn
      obtain ⟨g1, p1, rfl, hg1⟩ := (HR.out.below BY.out).2.2 (by omega)
      have RNG : Bx (wr.rangeAt g1 (k * 4) (ints .u64 (wl xs[k]))) := ⟨hg1.rangeP (k := 4) (fun x _ => wv_len x) k hkl⟩
      have HV := bx (HR.out.2.1 _ (List.getElem_mem hkl))
      have HN : Bx (topN xs (k + 1) = if topN xs k < xs[k] then xs[k] else topN xs k) := ⟨by
        rw [topN, List.getD_eq_getElem?_getD, List.getElem?_eq_getElem hkl]; rfl⟩
      clear hg1
      generalize xs[k] = v at *
      generalize topN xs k = s at *
      generalize hs2 : topN xs (k + 1) = s2 at *
      have E2 := bx hs2
      clear hs2
      have hki : (k : Int) < (n : Int) := by omega
      have hk0 : 0 ≤ (k : Int) := by omega
      have Z0 := bx (Y0.out.alloc (.cells (ints .u64 (wl 0)).toArray 24))
      have Z1 := bx (Y1.out.alloc (.cells (ints .u64 (wl 0)).toArray 24))
      have Z6 := bx (Has.new wr (ints .u64 (wl 0)) 24)
      have BZ := bx (BY.out.alloc BY.out.size (.cells (ints .u64 (wl 0)).toArray 24))
      have L0 := bx Y0.out.lt
      have L1 := bx Y1.out.lt
      go_wp2_with (first | ((with_reducible refine wpList_loadR 24 _ rfl ?_ g1 (k * 4) (ints .u64 (wl v)) RNG.out ?_ Tryd.underlying24 ?_ ?_ ?_); rfl; rfl; rfl; exact cells_wide _) | ((with_reducible refine wpList_storeB rfl 24 _ _ rfl _ (ints .u64 (wl v)) _ ?_ ?_ Z6.out (wl_len2 _ _) Tryd.underlying24 ?_ (wl_one _) ?_); rfl; rfl; exact cells_wide _; intro w4 hw hg hz0; have V6 := bx hw; have V0 := bx (Z0.out.grown hg (fun e => by injection e with e; have := L0.out; omega)); have V1 := bx (Z1.out.grown hg (fun e => by injection e with e; have := L1.out; omega)); have BV := bx (BZ.out.grown hg BZ.out.size (fun k hk => by cases hk; have := L0.out; omega)); have LL := bx (show w.heap.size + 1 < wr.heap.size from L1.out); clear hw hg hz0) | ((with_reducible refine wpList_loadG 24 _ rfl _ (ints .u64 (wl s)) ?_ ?_ V1.out Tryd.underlying24 rfl ?_ ?_); rfl; rfl; exact cells_wide _) | ((with_reducible refine wpList_loadG 24 _ rfl _ (ints .u64 (wl v)) ?_ ?_ V6.out Tryd.underlying24 rfl ?_ ?_); rfl; rfl; exact cells_wide _))
      refine (compare_any v s HV.out HS.out _).mono ?_; rintro e w5 ⟨rfl, hb5⟩
      have V2 := bx (V0.out.below hb5 V0.out.lt)
      have V3 := bx (V1.out.below hb5 V1.out.lt)
      have V7 := bx (V6.out.below hb5 V6.out.lt)
      have B5 := bx (BV.out.trans (hb5.mono BV.out.size))
      clear hb5 V0 V1 BV Z0 Z1 BZ Z6
      by_cases hov : s < v
      · have h0 : cmpW v s = 1 := by unfold cmpW; rw [if_neg (by omega), if_pos hov]
        have h1 : Bx (s2 = v) := ⟨by rw [HN.out, if_pos hov]⟩
        rw [h0]
        clear h0 hov
        go_wp2_with (first | ((with_reducible refine wpList_loadG 24 _ rfl _ (ints .u64 (wl v)) ?_ ?_ V7.out Tryd.underlying24 rfl ?_ ?_); rfl; rfl; exact cells_wide _) | ((with_reducible refine wpList_storeB rfl 24 _ _ rfl _ (ints .u64 (wl v)) _ ?_ ?_ V3.out (wl_len2 _ _) Tryd.underlying24 ?_ (wl_one _) ?_); rfl; rfl; exact cells_wide _; intro w6 hw hg hz0; have U1 := bx hw; have U0 := bx (V2.out.grown hg (fun e => by injection e with e; omega)); have B6 := bx (B5.out.grown hg B5.out.size (fun k hk => by cases hk; omega)); clear hw hg hz0))
        go_roundw
        case rel => exact ⟨k + 1, by omega, by go_num, ⟨r0, U0.out⟩, by rw [E2.out, h1.out]; exact U1.out, B6.out⟩
        case measure => simp [intOf]; omega
      · have h0 : decide (cmpW v s > 0) = false := decide_eq_false (by unfold cmpW; split <;> simp_all)
        have h2 : ¬ (0 : Int) < cmpW v s := of_decide_eq_false h0
        have h1 : Bx (s2 = s) := ⟨by rw [HN.out, if_neg hov]⟩
        generalize cmpW v s = cc at *
        clear hov
        go_wp2_with fail
        go_roundw
        case rel => exact ⟨k + 1, by omega, by go_num, ⟨r0, V2.out⟩, by rw [E2.out, h1.out]; exact V3.out, B5.out⟩
        case measure => simp [intOf]; omega
    · obtain rfl : k = n := by omega
      generalize hs2 : topN xs k = s at *
      have E2 := bx hs2
      clear hs2
      go_wp2_with (first | ((with_reducible refine wpList_loadG 24 _ rfl _ (ints .u64 (wl s)) ?_ ?_ Y1.out Tryd.underlying24 rfl ?_ ?_); rfl; rfl; exact cells_wide _) | ((with_reducible refine wpList_storeB rfl 24 _ _ rfl _ (ints .u64 (wl s)) _ ?_ ?_ Y0.out (wl_len2 _ _) Tryd.underlying24 ?_ (wl_one _) ?_); rfl; rfl; exact cells_wide _; intro w9 hw hg hz0; have U9 := bx hw; have B9 := bx (BY.out.grown hg BY.out.size (fun k hk => by cases hk; omega)); clear hw hg hz0))
      exact bodyPost_ret (results_cell (by rfl) _ (by rfl) U9.out Tryd.underlying24 rfl (cells_wide _)) rfl ⟨by rw [E2.out], B9.out⟩
end Go.Proofs.YtpgpplpddjjchaaDoor
