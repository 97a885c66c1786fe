/- Numbers of 256 bits: the program's sum and greatest of a list, wherever the list lies. -/
import Derived.Test.YtpgpplpddjjchaaDoorWideL
namespace Go.Proofs.YtpgpplpddjjchaaDoor
open Go.RowKit

/-- the cells from an address on -/
def rangeA (w : World) (ad : Addr) (cs : List Value) : Prop := ∀ j v, cs[j]? = some v → w.cell? (ad.add j) = some v
/-- a slice of numbers, wherever it lies -/
def GRow (w : World) (A : Option Addr) (n : Nat) (xs : List Nat) : Prop := xs.length = n ∧ (∀ x ∈ xs, x < 2 ^ 256) ∧ (0 < n → ∃ ad : Addr, A = some ad ∧ ad.block < w.heap.size ∧ ∀ k (hk : k < xs.length), rangeA w (ad.add (k * 4)) (ints .u64 (wl xs[k])))
theorem add_block' (ad : Addr) (j : Nat) : (ad.add j).block = ad.block := by unfold Addr.add; split <;> rfl
theorem rangeA.below {w w' : World} {ad : Addr} {cs : List Value} (h : rangeA w ad cs) (hb : Below w.heap.size w w') (hl : ad.block < w.heap.size) : rangeA w' ad cs := fun j v hv => by
  rw [World.cell?_of_block (w := w) (by rw [add_block']; exact hb.block _ hl)]
  exact h j v hv
theorem GRow.below {w w' : World} {A : Option Addr} {n : Nat} {xs : List Nat} (h : GRow w A n xs) (hb : Below w.heap.size w w') : GRow w' A n xs :=
  ⟨h.1, h.2.1, fun hn => by
    obtain ⟨ad, h1, h2, h3⟩ := h.2.2 hn
    exact ⟨ad, h1, Nat.lt_of_lt_of_le h2 hb.size, fun k hk => (h3 k hk).below hb (by rw [add_block']; exact h2)⟩⟩
theorem run_loadVar_gen {P : Program} (w : World) (ad : Addr) (ty : TypeId) (cs : List Value) (d : TypeDesc) (hc : rangeA w ad cs)
    (hu : P.underlying ty = some d) (hd : d.isRow = true) (hi : (P.info? ty).map (·.size) = some cs.length) :
    (loadVar ty ad).run P w = .ok (.agg cs.toArray) w := by
  have hl : (loadCells ad cs.length).run P w = .ok cs.toArray w := run_loadCells_list (P := P) w ad cs hc
  cases hq : P.info? ty with
  | none => simp [hq] at hi
  | some i =>
    have hs : i.size = cs.length := by simpa [hq] using hi
    have hagg : (isAgg ty).run P w = .ok true w := by
      unfold isAgg
      rw [Sem.run_bind, run_underlying hu w]
      cases d <;> simp_all
    simp [loadVar, Sem.run_bind, hagg, sizeOf, typeInfo, hq, hs, hl]
theorem wpList_loadA {P : Program} {ops : Array Oper} {rest : List Oper} {op : Oper} {a : Act} {w : World} {Q : Exit → Act → World → Prop} (ty : TypeId) (x : Operand) (ho : op.op = .load ty x)
    (hgd : Region.wanted op (yielded ops a.tmps) = true) (ad : Addr) (cs : List Value) (hr : rangeA w ad cs) (hx : a.eval x = .pointer (some ad)) {d : TypeDesc} (hu : P.underlying ty = some d) (hd : d.isRow = true) (hc : P.cellsOf ty = cs.length)
    (h : wpList P ops Q rest (a.put op.dst (.agg cs.toArray)) w) : wpList P ops Q (op :: rest) a w :=
  wpList_go hgd fun K hK => by
    have := run_loadVar_gen (P := P) w ad ty cs d hr hu hd (info_size hu hc)
    unfold Oper.wp execOp
    simp only [ho, hx, Instr.loadAt, Instr.sureAddr, Sem.run_bind, Sem.run_pure, Result.andThen_ok, this, Oper.upon]
    exact hK _ _ h
theorem quiet_loadA {P : Program} {C : World → Prop} {op : Oper} {a : Act} {K : Act → Prop} (ty : TypeId) (x : Operand) (ho : op.op = .load ty x)
    (ad : Addr) (cs : List Value) (hx : a.eval x = .pointer (some ad)) (hr : ∀ w, C w → rangeA w ad cs)
    {d : TypeDesc} (hu : P.underlying ty = some d) (hd : d.isRow = true) (hc : P.cellsOf ty = cs.length)
    (h : K (a.put op.dst (.agg cs.toArray))) : op.quiet P a C K := by
  refine ⟨_, fun w hw => ?_, h⟩
  unfold Oper.quietAt execOp
  have := run_loadVar_gen (P := P) w ad ty cs d (hr w hw) hu hd (info_size hu hc)
  simp only [ho, hx, Instr.loadAt, Instr.sureAddr, Sem.run_bind, Sem.run_pure, Result.andThen_ok, this]
  exact ⟨rfl, rfl⟩

set_option maxRecDepth 20000 in
set_option maxHeartbeats 1000000 in
theorem sumG_any (A : Option Addr) (n c : Nat) (xs : List Nat) (w : World) (hr : GRow w A n xs) (hn : n ≤ maxLen) :
    Calls Tryd.prog 26 #[.slice A n c] w fun e w' => e = .returned (.tuple #[.agg (ints .u64 (wl (okW xs.sum))).toArray, .int .i64 (erW xs.sum)]) ∧ Below w.heap.size w w' := by
  have hz := wz_lit
  obtain ⟨wA, hwA⟩ : ∃ wA, wA = (w.alloc (.cells (ints .u64 (wl 0)).toArray 24)).alloc (.cells (ints .u64 (wl 0)).toArray 24) := ⟨_, rfl⟩
  have X0 : Bx (Has wA w.heap.size (ints .u64 (wl 0))) := ⟨by rw [hwA]; exact (Has.new w _ _).alloc _⟩
  have X1 : Bx (Has wA (w.heap.size + 1) (ints .u64 (wl 0))) := ⟨by rw [hwA]; have := Has.new (w.alloc (.cells (ints .u64 (wl 0)).toArray 24)) (ints .u64 (wl 0)) 24; rwa [alloc_size] at this⟩
  have BA : Bx (Below w.heap.size w wA) := ⟨by rw [hwA]; exact ((Below.refl w.heap.size w).alloc (Nat.le_refl _) _).alloc (by simp) _⟩
  have HWA := bx hwA
  have HR := bx hr
  have HL := bx hr.1
  clear hwA hr
  have hnm : n ≤ 9223372036854775807 := by unfold maxLen at hn; omega
  go_enter Tryd.func26, Tryd.ntmps26
  go_wp2_with fail
  rw [← HWA.out]
  go_loopw [10] (fun i wr => ∃ k : Nat, k ≤ n ∧ i = .int .i64 k ∧ sumN xs k < 2 ^ 256 ∧ (∃ r, Has wr w.heap.size (ints .u64 (wl r))) ∧ Has wr (w.heap.size + 1) (ints .u64 (wl (sumN xs k))) ∧ Below w.heap.size w wr) (fun i _ => n - (intOf i).toNat)
  case atStart => exact ⟨0, Nat.zero_le _, rfl, Nat.two_pow_pos 256, ⟨0, X0.out⟩, X1.out, BA.out⟩
  case round =>
    obtain ⟨k, hk, rfl, hs, ⟨r0, hx0⟩, hx1, hbel⟩ := hrel
    have Y0 := bx hx0
    have Y1 := bx hx1
    have BY := bx hbel
    have HS := bx hs
    clear hx0 hx1 hbel X0 X1 BA HWA hs
    by_cases hkn : k < n
    · have hkl : k < xs.length := by rw [HL.out]; exact hkn
      obtain ⟨ad, rfl, hgb, hg1⟩ := (HR.out.below BY.out).2.2 (by omega)
      have RNG : Bx (rangeA wr (ad.add (k * 4)) (ints .u64 (wl xs[k]))) := ⟨hg1 k hkl⟩
      have HV := bx (HR.out.2.1 _ (List.getElem_mem hkl))
      have HN := bx (sumN_next hkl)
      have HLE := bx (sumN_le xs (k + 1))
      clear hg1
      generalize xs[k] = v at *
      generalize sumN xs k = s at *
      generalize hs2 : sumN xs (k + 1) = s2 at *
      have E2 := bx hs2
      clear hs2
      have hki : (k : Int) < (n : Int) := by omega
      have hk0 : 0 ≤ (k : Int) := by omega
      have Z0 := bx (Y0.out.alloc (.cells (ints .u64 (wl 0)).toArray 24))
      have Z1 := bx (Y1.out.alloc (.cells (ints .u64 (wl 0)).toArray 24))
      have Z6 := bx (Has.new wr (ints .u64 (wl 0)) 24)
      have BZ := bx (BY.out.alloc BY.out.size (.cells (ints .u64 (wl 0)).toArray 24))
      have L0 := bx Y0.out.lt
      have L1 := bx Y1.out.lt
      go_wp2_with (first | ((with_reducible refine wpList_loadA 24 _ rfl ?_ (ad.add (k * 4)) (ints .u64 (wl v)) RNG.out ?_ Tryd.underlying24 ?_ ?_ ?_); rfl; rfl; rfl; exact cells_wide _) | ((with_reducible refine wpList_storeB rfl 24 _ _ rfl _ (ints .u64 (wl v)) _ ?_ ?_ Z6.out (wl_len2 _ _) Tryd.underlying24 ?_ (wl_one _) ?_); rfl; rfl; exact cells_wide _; intro w4 hw hg hz0; have V6 := bx hw; have V0 := bx (Z0.out.grown hg (fun e => by injection e with e; have := L0.out; omega)); have V1 := bx (Z1.out.grown hg (fun e => by injection e with e; have := L1.out; omega)); have BV := bx (BZ.out.grown hg BZ.out.size (fun k hk => by cases hk; have := L0.out; omega)); clear hw hg hz0) | ((with_reducible refine wpList_loadG 24 _ rfl _ (ints .u64 (wl s)) ?_ ?_ V1.out Tryd.underlying24 rfl ?_ ?_); rfl; rfl; exact cells_wide _) | ((with_reducible refine wpList_loadG 24 _ rfl _ (ints .u64 (wl v)) ?_ ?_ V6.out Tryd.underlying24 rfl ?_ ?_); rfl; rfl; exact cells_wide _))
      refine (add_any s v HS.out HV.out _).mono ?_; rintro e w5 ⟨rfl, hb5⟩
      have V2 := bx (V0.out.below hb5 V0.out.lt)
      have V3 := bx (V1.out.below hb5 V1.out.lt)
      have B5 := bx (BV.out.trans (hb5.mono BV.out.size))
      clear hb5 V0 V1 BV Z0 Z1 BZ Z6
      rw [← HN.out]
      by_cases hov : s2 < 2 ^ 256
      · have h0 : okW s2 = s2 ∧ erW s2 = 0 := ⟨if_pos hov, if_pos hov⟩
        have HOV := bx hov
        rw [h0.1, h0.2]
        clear h0 hov
        go_wp2_with ((with_reducible refine wpList_storeB rfl 24 _ _ rfl _ (ints .u64 (wl s2)) _ ?_ ?_ V3.out (wl_len2 _ _) Tryd.underlying24 ?_ (wl_one _) ?_); rfl; rfl; exact cells_wide _; intro w6 hw hg hz0; have U1 := bx hw; have U0 := bx (V2.out.grown hg (fun e => by injection e with e; omega)); have B6 := bx (B5.out.grown hg B5.out.size (fun k hk => by cases hk; omega)); clear hw hg hz0)
        go_roundw
        case rel => exact ⟨k + 1, by omega, by go_num, by rw [E2.out]; exact HOV.out, ⟨r0, U0.out⟩, by rw [E2.out]; exact U1.out, B6.out⟩
        case measure => simp [intOf]; omega
      · have h0 : okW s2 = 0 ∧ erW s2 = 4 := ⟨if_neg hov, if_neg hov⟩
        have hT : okW xs.sum = 0 ∧ erW xs.sum = 4 := ⟨if_neg (by have := HLE.out; omega), if_neg (by have := HLE.out; omega)⟩
        have HT := bx hT
        rw [h0.1, h0.2]
        clear h0 hov hT
        go_wp2_with (first | ((with_reducible refine wpList_storeB rfl 24 _ _ rfl _ (ints .u64 (wl 0)) _ ?_ ?_ V3.out (wl_len2 _ _) Tryd.underlying24 ?_ (wl_one _) ?_); rfl; rfl; exact cells_wide _; intro w6 hw hg hz0; have U1 := bx hw; have U0 := bx (V2.out.grown hg (fun e => by injection e with e; omega)); have B6 := bx (B5.out.grown hg B5.out.size (fun k hk => by cases hk; omega)); clear hw hg hz0) | ((with_reducible refine wpList_storeB rfl 24 _ _ rfl _ (ints .u64 (wl 0)) _ ?_ ?_ U0.out (wl_len2 _ _) Tryd.underlying24 ?_ (wl_one _) ?_); rfl; rfl; exact cells_wide _; intro w7 hw hg hz0; have U9 := bx hw; have B9 := bx (B6.out.grown hg B6.out.size (fun k hk => by cases hk; omega)); clear hw hg hz0))
        exact bodyPost_ret (results_cell_tmp (by rfl) _ (by rfl) U9.out Tryd.underlying24 rfl (cells_wide _)) rfl ⟨by rw [HT.out.1, HT.out.2]; rfl, B9.out⟩
    · obtain rfl : k = n := by omega
      have HT : Bx (okW xs.sum = sumN xs k ∧ erW xs.sum = 0) := ⟨by
        have := sumN_all xs
        rw [HL.out] at this
        rw [← this]
        exact ⟨if_pos HS.out, if_pos HS.out⟩⟩
      generalize sumN xs k = s at *
      go_wp2_with (first | ((with_reducible refine wpList_loadG 24 _ rfl _ (ints .u64 (wl s)) ?_ ?_ Y1.out Tryd.underlying24 rfl ?_ ?_); rfl; rfl; exact cells_wide _) | ((with_reducible refine wpList_storeB rfl 24 _ _ rfl _ (ints .u64 (wl s)) _ ?_ ?_ Y0.out (wl_len2 _ _) Tryd.underlying24 ?_ (wl_one _) ?_); rfl; rfl; exact cells_wide _; intro w9 hw hg hz0; have U9 := bx hw; have B9 := bx (BY.out.grown hg BY.out.size (fun k hk => by cases hk; omega)); clear hw hg hz0))
      exact bodyPost_ret (results_cell_tmp (by rfl) _ (by rfl) U9.out Tryd.underlying24 rfl (cells_wide _)) rfl ⟨by rw [HT.out.1, HT.out.2]; rfl, B9.out⟩

set_option maxRecDepth 20000 in
set_option maxHeartbeats 1000000 in
theorem greatestG_any (A : Option Addr) (n c : Nat) (xs : List Nat) (w : World) (hr : GRow w A n xs) (hn : n ≤ maxLen) :
    Calls Tryd.prog 28 #[.slice A n c] w fun e w' => e = .returned (.agg (ints .u64 (wl (topN xs n))).toArray) ∧ Below w.heap.size w w' := by
  have hz := wz_lit
  obtain ⟨wA, hwA⟩ : ∃ wA, wA = (w.alloc (.cells (ints .u64 (wl 0)).toArray 24)).alloc (.cells (ints .u64 (wl 0)).toArray 24) := ⟨_, rfl⟩
  have X0 : Bx (Has wA w.heap.size (ints .u64 (wl 0))) := ⟨by rw [hwA]; exact (Has.new w _ _).alloc _⟩
  have X1 : Bx (Has wA (w.heap.size + 1) (ints .u64 (wl 0))) := ⟨by rw [hwA]; have := Has.new (w.alloc (.cells (ints .u64 (wl 0)).toArray 24)) (ints .u64 (wl 0)) 24; rwa [alloc_size] at this⟩
  have BA : Bx (Below w.heap.size w wA) := ⟨by rw [hwA]; exact ((Below.refl w.heap.size w).alloc (Nat.le_refl _) _).alloc (by simp) _⟩
  have HWA := bx hwA
  have HR := bx hr
  have HL := bx hr.1
  clear hwA hr
  have hnm : n ≤ 9223372036854775807 := by unfold maxLen at hn; omega
  go_enter Tryd.func28, Tryd.ntmps28
  go_wp2_with fail
  rw [← HWA.out]
  go_loopw [8] (fun i wr => ∃ k : Nat, k ≤ n ∧ i = .int .i64 k ∧ (∃ r, Has wr w.heap.size (ints .u64 (wl r))) ∧ Has wr (w.heap.size + 1) (ints .u64 (wl (topN xs k))) ∧ Below w.heap.size w wr) (fun i _ => n - (intOf i).toNat)
  case atStart => exact ⟨0, Nat.zero_le _, rfl, ⟨0, X0.out⟩, X1.out, BA.out⟩
  case round =>
    obtain ⟨k, hk, rfl, ⟨r0, hx0⟩, hx1, hbel⟩ := hrel
    have Y0 := bx hx0
    have Y1 := bx hx1
    have BY := bx hbel
    have HS := bx (topN_lt HR.out.2.1 k)
    clear hx0 hx1 hbel X0 X1 BA HWA
    by_cases hkn : k < n
    · have hkl : k < xs.length := by rw [HL.out]; exact hkn
      obtain ⟨ad, rfl, hgb, hg1⟩ := (HR.out.below BY.out).2.2 (by omega)
      have RNG : Bx (rangeA wr (ad.add (k * 4)) (ints .u64 (wl xs[k]))) := ⟨hg1 k hkl⟩
      have HV := bx (HR.out.2.1 _ (List.getElem_mem hkl))
      have HN : Bx (topN xs (k + 1) = if topN xs k < xs[k] then xs[k] else topN xs k) := ⟨by
        rw [topN, List.getD_eq_getElem?_getD, List.getElem?_eq_getElem hkl]; rfl⟩
      clear hg1
      generalize xs[k] = v at *
      generalize topN xs k = s at *
      generalize hs2 : topN xs (k + 1) = s2 at *
      have E2 := bx hs2
      clear hs2
      have hki : (k : Int) < (n : Int) := by omega
      have hk0 : 0 ≤ (k : Int) := by omega
      have Z0 := bx (Y0.out.alloc (.cells (ints .u64 (wl 0)).toArray 24))
      have Z1 := bx (Y1.out.alloc (.cells (ints .u64 (wl 0)).toArray 24))
      have Z6 := bx (Has.new wr (ints .u64 (wl 0)) 24)
      have BZ := bx (BY.out.alloc BY.out.size (.cells (ints .u64 (wl 0)).toArray 24))
      have L0 := bx Y0.out.lt
      have L1 := bx Y1.out.lt
      go_wp2_with (first | ((with_reducible refine wpList_loadA 24 _ rfl ?_ (ad.add (k * 4)) (ints .u64 (wl v)) RNG.out ?_ Tryd.underlying24 ?_ ?_ ?_); rfl; rfl; rfl; exact cells_wide _) | ((with_reducible refine wpList_storeB rfl 24 _ _ rfl _ (ints .u64 (wl v)) _ ?_ ?_ Z6.out (wl_len2 _ _) Tryd.underlying24 ?_ (wl_one _) ?_); rfl; rfl; exact cells_wide _; intro w4 hw hg hz0; have V6 := bx hw; have V0 := bx (Z0.out.grown hg (fun e => by injection e with e; have := L0.out; omega)); have V1 := bx (Z1.out.grown hg (fun e => by injection e with e; have := L1.out; omega)); have BV := bx (BZ.out.grown hg BZ.out.size (fun k hk => by cases hk; have := L0.out; omega)); have LL := bx (show w.heap.size + 1 < wr.heap.size from L1.out); clear hw hg hz0) | ((with_reducible refine wpList_loadG 24 _ rfl _ (ints .u64 (wl s)) ?_ ?_ V1.out Tryd.underlying24 rfl ?_ ?_); rfl; rfl; exact cells_wide _) | ((with_reducible refine wpList_loadG 24 _ rfl _ (ints .u64 (wl v)) ?_ ?_ V6.out Tryd.underlying24 rfl ?_ ?_); rfl; rfl; exact cells_wide _))
      refine (compare_any v s HV.out HS.out _).mono ?_; rintro e w5 ⟨rfl, hb5⟩
      have V2 := bx (V0.out.below hb5 V0.out.lt)
      have V3 := bx (V1.out.below hb5 V1.out.lt)
      have V7 := bx (V6.out.below hb5 V6.out.lt)
      have B5 := bx (BV.out.trans (hb5.mono BV.out.size))
      clear hb5 V0 V1 BV Z0 Z1 BZ Z6
      by_cases hov : s < v
      · have h0 : cmpW v s = 1 := by unfold cmpW; rw [if_neg (by omega), if_pos hov]
        have h1 : Bx (s2 = v) := ⟨by rw [HN.out, if_pos hov]⟩
        rw [h0]
        clear h0 hov
        go_wp2_with (first | ((with_reducible refine wpList_loadG 24 _ rfl _ (ints .u64 (wl v)) ?_ ?_ V7.out Tryd.underlying24 rfl ?_ ?_); rfl; rfl; exact cells_wide _) | ((with_reducible refine wpList_storeB rfl 24 _ _ rfl _ (ints .u64 (wl v)) _ ?_ ?_ V3.out (wl_len2 _ _) Tryd.underlying24 ?_ (wl_one _) ?_); rfl; rfl; exact cells_wide _; intro w6 hw hg hz0; have U1 := bx hw; have U0 := bx (V2.out.grown hg (fun e => by injection e with e; omega)); have B6 := bx (B5.out.grown hg B5.out.size (fun k hk => by cases hk; omega)); clear hw hg hz0))
        go_roundw
        case rel => exact ⟨k + 1, by omega, by go_num, ⟨r0, U0.out⟩, by rw [E2.out, h1.out]; exact U1.out, B6.out⟩
        case measure => simp [intOf]; omega
      · have h0 : decide (cmpW v s > 0) = false := decide_eq_false (by unfold cmpW; split <;> simp_all)
        have h2 : ¬ (0 : Int) < cmpW v s := of_decide_eq_false h0
        have h1 : Bx (s2 = s) := ⟨by rw [HN.out, if_neg hov]⟩
        generalize cmpW v s = cc at *
        clear hov
        go_wp2_with fail
        go_roundw
        case rel => exact ⟨k + 1, by omega, by go_num, ⟨r0, V2.out⟩, by rw [E2.out, h1.out]; exact V3.out, B5.out⟩
        case measure => simp [intOf]; omega
    · obtain rfl : k = n := by omega
      generalize hs2 : topN xs k = s at *
      have E2 := bx hs2
      clear hs2
      go_wp2_with (first | ((with_reducible refine wpList_loadG 24 _ rfl _ (ints .u64 (wl s)) ?_ ?_ Y1.out Tryd.underlying24 rfl ?_ ?_); rfl; rfl; exact cells_wide _) | ((with_reducible refine wpList_storeB rfl 24 _ _ rfl _ (ints .u64 (wl s)) _ ?_ ?_ Y0.out (wl_len2 _ _) Tryd.underlying24 ?_ (wl_one _) ?_); rfl; rfl; exact cells_wide _; intro w9 hw hg hz0; have U9 := bx hw; have B9 := bx (BY.out.grown hg BY.out.size (fun k hk => by cases hk; omega)); clear hw hg hz0))
      exact bodyPost_ret (results_cell (by rfl) _ (by rfl) U9.out Tryd.underlying24 rfl (cells_wide _)) rfl ⟨by rw [E2.out], B9.out⟩
end Go.Proofs.YtpgpplpddjjchaaDoor
