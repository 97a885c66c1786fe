/- Numbers of 256 bits: the reference's sum of a list. -/
import Derived.Test.YtpgpplpddjjchaaDoorWideL
import Derived.Test.YtpgpplpddjjchaaDoorMix3
namespace Go.Proofs.YtpgpplpddjjchaaDoor
open Go.RowKit

theorem quiet_loadRng {P : Program} {C : World → Prop} {op : Oper} {a : Act} {K : Act → Prop} (ty : TypeId) (x : Operand) (ho : op.op = .load ty x)
    (g o : Nat) (cs : List Value) (hx : a.eval x = .pointer (some ⟨g, o, none⟩)) (hr : ∀ w, C w → w.rangeAt g o cs)
    {d : TypeDesc} (hu : P.underlying ty = some d) (hd : d.isRow = true) (hc : P.cellsOf ty = cs.length)
    (h : K (a.put op.dst (.agg cs.toArray))) : op.quiet P a C K := by
  refine ⟨_, fun w hw => ?_, h⟩
  unfold Oper.quietAt execOp
  have := run_loadVar_mid (P := P) w g o ty cs d (hr w hw) hu hd (info_size hu hc)
  simp only [ho, hx, Instr.loadAt, Instr.sureAddr, Sem.run_bind, Sem.run_pure, Result.andThen_ok, this]
  exact ⟨rfl, rfl⟩
/-- a step whose outcome is known -/
theorem mix_run {P : Program} {ops : Array Oper} {o : Oper} {a : Act} {w w' : World} {K : Act → World → Prop} {Q : Exit → Act → World → Prop} {E : Prop} {v : Value}
    (hr : (execOp a.eval o).run P w = .ok (.value v) w') (hw : Region.wanted o (yielded ops a.tmps) = true) (hk : K (a.put o.dst v) w') : if Region.wanted o (yielded ops a.tmps) = true then o.wp P a w K Q else E := by
  rw [if_pos hw]
  unfold Oper.wp
  rw [hr, Oper.upon_value]
  exact hk
theorem run_allocW {o : Oper} {a : Act} {w : World} (ho : o.op = .alloc 24) : (execOp a.eval o).run Tryd.prog w = .ok (.value (.pointer (some ⟨w.heap.size, 0, none⟩))) (w.alloc (.cells (ints .u64 (wl 0)).toArray 24)) := by
  unfold execOp
  rw [← wz_lit]
  simp only [ho]
  go_simp
theorem ne_some {a b : Nat} (h : a ≠ b) : some a ≠ some b := fun e => h (by injection e)
theorem ext_alloc (w : World) (o : Obj) : Below w.heap.size w (w.alloc o) := (Below.refl _ _).alloc (Nat.le_refl _) o
set_option maxRecDepth 20000 in
set_option maxHeartbeats 1000000 in
theorem sumR_any (A : Option Addr) (n c : Nat) (xs : List Nat) (w : World) (hr : WRow w A n xs) (hn : n ≤ maxLen) :
    Calls Tryd.prog 27 #[.slice A n c] w fun e w' => e = .returned (.tuple #[.agg (ints .u64 (wl (okW xs.sum))).toArray, .int .i64 (erW xs.sum)]) ∧ Below w.heap.size w w' := by
  have hz := wz_lit
  obtain ⟨wA, hwA⟩ : ∃ wA, wA = (w.alloc (.cells (ints .u64 (wl 0)).toArray 24)).alloc (.cells (ints .u64 (wl 0)).toArray 24) := ⟨_, rfl⟩
  have X0 : Bx (Has wA w.heap.size (ints .u64 (wl 0))) := ⟨by rw [hwA]; exact (Has.new w _ _).alloc _⟩
  have X1 : Bx (Has wA (w.heap.size + 1) (ints .u64 (wl 0))) := ⟨by rw [hwA]; have := Has.new (w.alloc (.cells (ints .u64 (wl 0)).toArray 24)) (ints .u64 (wl 0)) 24; rwa [alloc_size] at this⟩
  have BA : Bx (Below w.heap.size w wA) := ⟨by rw [hwA]; exact ((Below.refl w.heap.size w).alloc (Nat.le_refl _) _).alloc (by simp) _⟩
  have HWA := bx hwA
  have HR := bx hr
  have HL := bx hr.1
  clear hwA hr
  have hnm : n ≤ 9223372036854775807 := by unfold maxLen at hn; omega
  go_enter Tryd.func27, Tryd.ntmps27
  go_wp2_with fail
  rw [← HWA.out]
  go_loopw [5] (fun i wr => ∃ k : Nat, k ≤ n ∧ i = .int .i64 k ∧ sumN xs k < 2 ^ 256 ∧ (∃ r, Has wr w.heap.size (ints .u64 (wl r))) ∧ Has wr (w.heap.size + 1) (ints .u64 (wl (sumN xs k))) ∧ Below w.heap.size w wr) (fun i _ => n - (intOf i).toNat)
  case atStart => exact ⟨0, Nat.zero_le _, rfl, Nat.two_pow_pos 256, ⟨0, X0.out⟩, X1.out, BA.out⟩
  case round =>
    obtain ⟨k, hk, rfl, hs, ⟨r0, hx0⟩, hx1, hbel⟩ := hrel
    have Y0 := bx hx0
    have Y1 := bx hx1
    have BY := bx hbel
    have HS := bx hs
    clear hx0 hx1 hbel X0 X1 BA HWA hs
    by_cases hkn : k < n
    · have hkl : k < xs.length := by rw [HL.out]; exact hkn
      obtain ⟨g1, p1, rfl, hg1⟩ := (HR.out.below BY.out).2.2 (by omega)
      have CR : Bx (∀ w1 : World, Cls wr.drew.heap.size wr.drew w1 → w1.rangeAt g1 (k * 4) (ints .u64 (wl xs[k]))) := ⟨fun w1 h1 =>
        ((show Has wr.drew _ _ from hg1).below h1.out hg1.lt).rangeP (k := 4) (fun x _ => wv_len x) k hkl⟩
      have C1 := bx (Has.cls (w := wr.drew) Y1.out)
      have HV := bx (HR.out.2.1 _ (List.getElem_mem hkl))
      have HN := bx (sumN_next hkl)
      have HLE := bx (sumN_le xs (k + 1))
      clear hg1
      generalize xs[k] = v at *
      generalize sumN xs k = s at *
      generalize hs2 : sumN xs (k + 1) = s2 at *
      have E2 := bx hs2
      clear hs2
      have hki : (k : Int) < (n : Int) := by omega
      have hk0 : 0 ≤ (k : Int) := by omega
      go_wp2_with fail
      refine wp_region_mix3 10 (.steps [(0, 0), (0, 1), (0, 2), (0, 3), (0, 4)] (.fork 5 (.steps [(1, 6), (1, 7), (1, 8), (2, 9)] .leaf) 9 (.steps [(2, 5), (1, 6), (1, 7), (1, 8)] .leaf))) (by kernel_rfl) (by kernel_rfl) ?_
      simp only [MixT, MT.steps, stepAt, List.getD_cons_zero, List.getD_cons_succ, List.drop_succ_cons, List.drop_zero]
      repeat (first | (with_reducible refine wpQuiet_nil ?_) | (first | go_big_quiet_skip | (go_big_quiet_want; first | (first | ((with_reducible refine quiet_loadC 24 _ rfl _ (ints .u64 (wl s)) ?_ C1.out Tryd.underlying24 rfl ?_ ?_); rfl; exact cells_wide _; go_big_quiet_on; (simp only [Act.put, List.setIfInBounds_toArray, List.set_cons_succ, List.set_cons_zero])) | ((with_reducible refine quiet_loadRng 24 _ rfl g1 (k * 4) (ints .u64 (wl v)) ?_ CR.out Tryd.underlying24 ?_ ?_ ?_); rfl; rfl; exact cells_wide _; go_big_quiet_on; (simp only [Act.put, List.setIfInBounds_toArray, List.set_cons_succ, List.set_cons_zero]))) | (go_big_quiet_op; first | go_big_quiet_on | ((with_reducible refine ⟨_, fun _ _ => rfl, ?_⟩); go_big_quiet_on)))))
      have D0 : Bx (Has wr.drew w.heap.size (ints .u64 (wl r0))) := ⟨Y0.out⟩
      have D1 : Bx (Has wr.drew (w.heap.size + 1) (ints .u64 (wl s))) := ⟨Y1.out⟩
      have BD : Bx (Below w.heap.size w wr.drew) := ⟨BY.out.drew⟩
      refine ⟨?_, ?_⟩
      · refine mix_call (addWide_any s v HS.out HV.out _) Tryd.func11 rfl rfl _ _ rfl rfl rfl ?_
        rintro e w5 ⟨rfl, hb5⟩
        refine ⟨_, rfl, hb5, ?_⟩
        have Z0 := bx (D0.out.below hb5 D0.out.lt)
        have Z1 := bx (D1.out.below hb5 D1.out.lt)
        have BZ := bx (BD.out.trans (hb5.mono BD.out.size))
        clear hb5 D0 D1 BD
        simp only [Act.put, List.setIfInBounds_toArray, List.set_cons_succ, List.set_cons_zero]
        repeat (first | (with_reducible refine wpQuiet_nil ?_) | (first | go_big_quiet_skip | (go_big_quiet_want; first | fail | (go_big_quiet_op; first | go_big_quiet_on | ((with_reducible refine ⟨_, fun _ _ => rfl, ?_⟩); go_big_quiet_on)))))
        refine mix_run (run_allocW rfl) rfl ?_
        refine ⟨ext_alloc _ _, ?_⟩
        have V0 := bx (Z0.out.alloc (.cells (ints .u64 (wl 0)).toArray 24))
        have V1 := bx (Z1.out.alloc (.cells (ints .u64 (wl 0)).toArray 24))
        have V6 := bx (Has.new w5 (ints .u64 (wl 0)) 24)
        have BV := bx (BZ.out.alloc BZ.out.size (.cells (ints .u64 (wl 0)).toArray 24))
        have LG : Bx (w.heap.size + 1 < w5.heap.size) := ⟨Z1.out.lt⟩
        clear Z0 Z1 BZ
        simp only [Act.put, List.setIfInBounds_toArray, List.set_cons_succ, List.set_cons_zero]
        repeat (first | (with_reducible refine wpQuiet_nil ?_) | (first | go_big_quiet_skip | (go_big_quiet_want; first | fail | (go_big_quiet_op; first | go_big_quiet_on | ((with_reducible refine ⟨_, fun _ _ => rfl, ?_⟩); go_big_quiet_on)))))
        rw [← HN.out]
        by_cases hov : s2 < 2 ^ 256
        · have h0 : okW s2 = s2 ∧ erW s2 = 0 := ⟨if_pos hov, if_pos hov⟩
          have HOV := bx hov
          rw [h0.1, h0.2]
          clear h0 hov
          go_wp2_with ((with_reducible refine wpList_storeB rfl 24 _ _ rfl _ (ints .u64 (wl s2)) _ ?_ ?_ V6.out (wl_len2 _ _) Tryd.underlying24 ?_ (wl_one _) ?_); rfl; rfl; exact cells_wide _; intro w7 hw hg hz0; have U6 := bx hw; have U0 := bx (V0.out.grown hg (ne_some (by have := LG.out; omega))); have U1 := bx (V1.out.grown hg (ne_some (by have := LG.out; omega))); have B7 := bx (BV.out.grown hg BV.out.size (fun k hk => by cases hk; have := LG.out; omega)); clear hw hg hz0)
          refine NoPanic.normal ?_
          go_wp2_with (first | ((with_reducible refine wpList_loadG 24 _ rfl _ (ints .u64 (wl s2)) ?_ ?_ U6.out Tryd.underlying24 rfl ?_ ?_); rfl; rfl; exact cells_wide _) | ((with_reducible refine wpList_storeB rfl 24 _ _ rfl _ (ints .u64 (wl s2)) _ ?_ ?_ U1.out (wl_len2 _ _) Tryd.underlying24 ?_ (wl_one _) ?_); rfl; rfl; exact cells_wide _; intro w8 hw hg hz0; have T1 := bx hw; have T0 := bx (U0.out.grown hg (ne_some (by omega))); have B8 := bx (B7.out.grown hg B7.out.size (fun k hk => by cases hk; omega)); clear hw hg hz0))
          go_roundw
          case rel => exact ⟨k + 1, by omega, by go_num, by rw [E2.out]; exact HOV.out, ⟨r0, T0.out⟩, by rw [E2.out]; exact T1.out, B8.out⟩
          case measure => simp [intOf]; omega
        · have h0 : okW s2 = 0 ∧ erW s2 = 4 := ⟨if_neg hov, if_neg hov⟩
          have hT : okW xs.sum = 0 ∧ erW xs.sum = 4 := ⟨if_neg (by have := HLE.out; omega), if_neg (by have := HLE.out; omega)⟩
          have HT := bx hT
          rw [h0.1, h0.2]
          clear h0 hov hT
          go_wp2_with ((with_reducible refine wpList_storeB rfl 24 _ _ rfl _ (ints .u64 (wl 0)) _ ?_ ?_ V6.out (wl_len2 _ _) Tryd.underlying24 ?_ (wl_one _) ?_); rfl; rfl; exact cells_wide _; intro w7 hw hg hz0; have U6 := bx hw; have U0 := bx (V0.out.grown hg (ne_some (by have := LG.out; omega))); have B7 := bx (BV.out.grown hg BV.out.size (fun k hk => by cases hk; have := LG.out; omega)); clear hw hg hz0)
          refine NoPanic.normal ?_
          go_wp2_with ((with_reducible refine wpList_storeB rfl 24 _ _ rfl _ (ints .u64 (wl 0)) _ ?_ ?_ U0.out (wl_len2 _ _) Tryd.underlying24 ?_ (wl_one _) ?_); rfl; rfl; exact cells_wide _; intro w8 hw hg hz0; have U9 := bx hw; have B9 := bx (B7.out.grown hg B7.out.size (fun k hk => by cases hk; omega)); clear hw hg hz0)
          exact bodyPost_ret (results_cell_tmp (by rfl) _ (by rfl) U9.out Tryd.underlying24 rfl (cells_wide _)) rfl ⟨by rw [HT.out.1, HT.out.2]; rfl, B9.out⟩
      · refine mix_run (run_allocW rfl) rfl ?_
        refine ⟨ext_alloc _ _, ?_⟩
        have Z0 := bx (D0.out.alloc (.cells (ints .u64 (wl 0)).toArray 24))
        have Z1 := bx (D1.out.alloc (.cells (ints .u64 (wl 0)).toArray 24))
        have Z6 := bx (Has.new wr.drew (ints .u64 (wl 0)) 24)
        have BZ := bx (BD.out.alloc BD.out.size (.cells (ints .u64 (wl 0)).toArray 24))
        have LG : Bx (w.heap.size + 1 < wr.drew.heap.size) := ⟨D1.out.lt⟩
        refine mix_call (addWide_any s v HS.out HV.out _) Tryd.func11 rfl rfl _ _ rfl rfl rfl ?_
        rintro e w5 ⟨rfl, hb5⟩
        refine ⟨_, rfl, hb5, ?_⟩
        have V0 := bx (Z0.out.below hb5 Z0.out.lt)
        have V1 := bx (Z1.out.below hb5 Z1.out.lt)
        have V6 := bx (Z6.out.below hb5 Z6.out.lt)
        have BV := bx (BZ.out.trans (hb5.mono BZ.out.size))
        clear hb5 D0 D1 BD Z0 Z1 Z6 BZ
        simp only [Act.put, List.setIfInBounds_toArray, List.set_cons_succ, List.set_cons_zero]
        repeat (first | (with_reducible refine wpQuiet_nil ?_) | (first | go_big_quiet_skip | (go_big_quiet_want; first | fail | (go_big_quiet_op; first | go_big_quiet_on | ((with_reducible refine ⟨_, fun _ _ => rfl, ?_⟩); go_big_quiet_on)))))
        rw [← HN.out]
        by_cases hov : s2 < 2 ^ 256
        · have h0 : okW s2 = s2 ∧ erW s2 = 0 := ⟨if_pos hov, if_pos hov⟩
          have HOV := bx hov
          rw [h0.1, h0.2]
          clear h0 hov
          go_wp2_with ((with_reducible refine wpList_storeB rfl 24 _ _ rfl _ (ints .u64 (wl s2)) _ ?_ ?_ V6.out (wl_len2 _ _) Tryd.underlying24 ?_ (wl_one _) ?_); rfl; rfl; exact cells_wide _; intro w7 hw hg hz0; have U6 := bx hw; have U0 := bx (V0.out.grown hg (ne_some (by have := LG.out; omega))); have U1 := bx (V1.out.grown hg (ne_some (by have := LG.out; omega))); have B7 := bx (BV.out.grown hg BV.out.size (fun k hk => by cases hk; have := LG.out; omega)); clear hw hg hz0)
          refine NoPanic.normal ?_
          go_wp2_with (first | ((with_reducible refine wpList_loadG 24 _ rfl _ (ints .u64 (wl s2)) ?_ ?_ U6.out Tryd.underlying24 rfl ?_ ?_); rfl; rfl; exact cells_wide _) | ((with_reducible refine wpList_storeB rfl 24 _ _ rfl _ (ints .u64 (wl s2)) _ ?_ ?_ U1.out (wl_len2 _ _) Tryd.underlying24 ?_ (wl_one _) ?_); rfl; rfl; exact cells_wide _; intro w8 hw hg hz0; have T1 := bx hw; have T0 := bx (U0.out.grown hg (ne_some (by omega))); have B8 := bx (B7.out.grown hg B7.out.size (fun k hk => by cases hk; omega)); clear hw hg hz0))
          go_roundw
          case rel => exact ⟨k + 1, by omega, by go_num, by rw [E2.out]; exact HOV.out, ⟨r0, T0.out⟩, by rw [E2.out]; exact T1.out, B8.out⟩
          case measure => simp [intOf]; omega
        · have h0 : okW s2 = 0 ∧ erW s2 = 4 := ⟨if_neg hov, if_neg hov⟩
          have hT : okW xs.sum = 0 ∧ erW xs.sum = 4 := ⟨if_neg (by have := HLE.out; omega), if_neg (by have := HLE.out; omega)⟩
          have HT := bx hT
          rw [h0.1, h0.2]
          clear h0 hov hT
          go_wp2_with ((with_reducible refine wpList_storeB rfl 24 _ _ rfl _ (ints .u64 (wl 0)) _ ?_ ?_ V6.out (wl_len2 _ _) Tryd.underlying24 ?_ (wl_one _) ?_); rfl; rfl; exact cells_wide _; intro w7 hw hg hz0; have U6 := bx hw; have U0 := bx (V0.out.grown hg (ne_some (by have := LG.out; omega))); have B7 := bx (BV.out.grown hg BV.out.size (fun k hk => by cases hk; have := LG.out; omega)); clear hw hg hz0)
          refine NoPanic.normal ?_
          go_wp2_with ((with_reducible refine wpList_storeB rfl 24 _ _ rfl _ (ints .u64 (wl 0)) _ ?_ ?_ U0.out (wl_len2 _ _) Tryd.underlying24 ?_ (wl_one _) ?_); rfl; rfl; exact cells_wide _; intro w8 hw hg hz0; have U9 := bx hw; have B9 := bx (B7.out.grown hg B7.out.size (fun k hk => by cases hk; omega)); clear hw hg hz0)
          exact bodyPost_ret (results_cell_tmp (by rfl) _ (by rfl) U9.out Tryd.underlying24 rfl (cells_wide _)) rfl ⟨by rw [HT.out.1, HT.out.2]; rfl, B9.out⟩
    · obtain rfl : k = n := by omega
      have HT : Bx (okW xs.sum = sumN xs k ∧ erW xs.sum = 0) := ⟨by
        have := sumN_all xs
        rw [HL.out] at this
        rw [← this]
        exact ⟨if_pos HS.out, if_pos HS.out⟩⟩
      generalize sumN xs k = s at *
      go_wp2_with (first | ((with_reducible refine wpList_loadG 24 _ rfl _ (ints .u64 (wl s)) ?_ ?_ Y1.out Tryd.underlying24 rfl ?_ ?_); rfl; rfl; exact cells_wide _) | ((with_reducible refine wpList_storeB rfl 24 _ _ rfl _ (ints .u64 (wl s)) _ ?_ ?_ Y0.out (wl_len2 _ _) Tryd.underlying24 ?_ (wl_one _) ?_); rfl; rfl; exact cells_wide _; intro w9 hw hg hz0; have U9 := bx hw; have B9 := bx (BY.out.grown hg BY.out.size (fun k hk => by cases hk; omega)); clear hw hg hz0))
      exact bodyPost_ret (results_cell_tmp (by rfl) _ (by rfl) U9.out Tryd.underlying24 rfl (cells_wide _)) rfl ⟨by rw [HT.out.1, HT.out.2]; rfl, B9.out⟩
end Go.Proofs.YtpgpplpddjjchaaDoor
