/- Numbers of 256 bits: the law of bytes. -/
import Derived.Test.YtpgpplpddjjchaaDoorWideX
import Derived.Test.YtpgpplpddjjchaaDoorWideCr
import Derived.Test.YtpgpplpddjjchaaDoorWideN
namespace Go.Proofs.YtpgpplpddjjchaaDoor
open Go.RowKit
theorem byl_len0 (n : Nat) : (ints .u8 (byP 0 0)).length = (ints .u8 (byl n)).length := (byP_len 0 0).trans (byP_len n 32).symm
theorem byl_ones (n : Nat) : ∀ u ∈ ints .u8 (byl n), u.oneCell' = true := byl_one n 32
theorem run_allocB {o : Oper} {a : Act} {w : World} (ho : o.op = .alloc 36) : (execOp a.eval o).run Tryd.prog w = .ok (.value (.pointer (some ⟨w.heap.size, 0, none⟩))) (w.alloc (.cells (ints .u8 (byP 0 0)).toArray 36)) := by
  unfold execOp
  rw [← bz_lit]
  simp only [ho]
  go_simp
set_option maxRecDepth 20000 in
set_option maxHeartbeats 4000000 in
theorem wideBytes_go (n m : Nat) (hn : n < 2 ^ 256) (hm : m < 2 ^ 256) (w : World) :
    Calls Tryd.prog 6 #[.agg (ints .u64 (wl n)).toArray, .agg (ints .u64 (wl m)).toArray] w fun e w' => e = .returned (.bool true) ∧ Below w.heap.size w w' := by
  have T1 := bx (toBytesP_any n)
  have T2 := bx (toBytesP_any m)
  have TR := bx (toBytesR_any n)
  have FB := bx (fromBytes_any n hn)
  have CM := bx (compare_any n m hn hm)
  have CR := bx (bytes_compare hn hm)
  have AW := bx awake_any
  have hq := fun w => wide_same n n w
  have hqb := bytes_same n
  rw [decide_eq_true rfl] at hq
  clear hn hm
  generalize cmpW n m = c at *
  obtain ⟨wA, hwA⟩ : ∃ wA, wA = (w.alloc (.cells (ints .u64 (wl n)).toArray 24)).alloc (.cells (ints .u64 (wl m)).toArray 24) := ⟨_, rfl⟩
  have X_0 : Bx (Has wA.drew w.heap.size (ints .u64 (wl n))) := ⟨by rw [hwA]; exact (Has.new w (ints .u64 (wl n)) 24).alloc _⟩
  have Y_0 : Bx (Has wA.drew (w.heap.size + 1) (ints .u64 (wl m))) := ⟨by rw [hwA]; have := Has.new (w.alloc (.cells (ints .u64 (wl n)).toArray 24)) (ints .u64 (wl m)) 24; rwa [alloc_size] at this⟩
  have B_0 : Bx (Below w.heap.size w wA.drew) := ⟨by rw [hwA]; exact (((Below.refl w.heap.size w).alloc (Nat.le_refl _) _).alloc (by simp) _).drew⟩
  have CX := bx (Has.cls X_0.out)
  have CY := bx (Has.cls Y_0.out)
  have HWA := bx hwA
  clear hwA
  go_enter Tryd.func6, Tryd.ntmps6
  go_wp2_with fail
  rw [← HWA.out]
  clear HWA
  refine wp_region_mix3 6 (.steps [(0, 0), (0, 2)] (.fork3 1 (.fork3 3 (.fork 4 (.one 2 5 .leaf) 5 (.one 2 4 .leaf)) 4 (.fork 3 (.one 2 5 .leaf) 5 (.one 2 3 .leaf)) 5 (.fork 3 (.one 2 4 .leaf) 4 (.one 2 3 .leaf))) 4 (.fork 1 (.fork 3 (.one 2 5 .leaf) 5 (.one 2 3 .leaf)) 5 (.one 2 1 (.one 2 3 .leaf))) 5 (.fork 1 (.fork 3 (.one 2 4 .leaf) 4 (.one 2 3 .leaf)) 4 (.one 2 1 (.one 2 3 .leaf))))) (by kernel_rfl) (by kernel_rfl) ?_
  simp only [MixT, MT.steps, stepAt, List.getD_cons_zero, List.getD_cons_succ, List.drop_succ_cons, List.drop_zero]
  repeat (first | (with_reducible refine wpQuiet_nil ?_) | (first | go_big_quiet_skip | (go_big_quiet_want; first | (first | ((with_reducible refine quiet_loadC 24 _ rfl _ (ints .u64 (wl n)) ?_ CX.out Tryd.underlying24 rfl ?_ ?_); rfl; exact cells_wide _; go_big_quiet_on; (simp only [Act.put, List.setIfInBounds_toArray, List.set_cons_succ, List.set_cons_zero])) | ((with_reducible refine quiet_loadC 24 _ rfl _ (ints .u64 (wl m)) ?_ CY.out Tryd.underlying24 rfl ?_ ?_); rfl; exact cells_wide _; go_big_quiet_on; (simp only [Act.put, List.setIfInBounds_toArray, List.set_cons_succ, List.set_cons_zero]))) | (go_big_quiet_op; first | go_big_quiet_on | ((with_reducible refine ⟨_, fun _ _ => rfl, ?_⟩); go_big_quiet_on)))))
  clear CX CY
  generalize wA.drew = W at *
  refine ⟨?_, ?_, ?_⟩
  · refine mix_call (T1.out _) Tryd.func22 rfl rfl _ _ rfl rfl rfl ?_
    rintro e w1 ⟨rfl, hb⟩
    refine ⟨_, rfl, hb, ?_⟩
    have X_1 := bx (X_0.out.below hb X_0.out.lt)
    have Y_1 := bx (Y_0.out.below hb Y_0.out.lt)
    have B_1 := bx (B_0.out.trans (hb.mono B_0.out.size))
    clear hb X_0 Y_0 B_0
    refine ⟨?_, ?_, ?_⟩
    · refine mix_call (T2.out _) Tryd.func22 rfl rfl _ _ rfl rfl rfl ?_
      rintro e w2 ⟨rfl, hb⟩
      refine ⟨_, rfl, hb, ?_⟩
      have X_2 := bx (X_1.out.below hb X_1.out.lt)
      have Y_2 := bx (Y_1.out.below hb Y_1.out.lt)
      have B_2 := bx (B_1.out.trans (hb.mono B_1.out.size))
      clear hb X_1 Y_1 B_1
      refine ⟨?_, ?_⟩
      · refine mix_run (run_allocB rfl) rfl ?_
        refine ⟨ext_alloc _ _, ?_⟩
        have hb := ext_alloc w2 (.cells (ints .u8 (byP 0 0)).toArray 36)
        have P_3 : Bx (Has (w2.alloc (.cells (ints .u8 (byP 0 0)).toArray 36)) (w2.heap.size) (ints .u8 (byP 0 0))) := ⟨Has.new w2 (ints .u8 (byP 0 0)) 36⟩
        have LP : Bx (w.heap.size ≤ w2.heap.size) := ⟨B_2.out.size⟩
        have NPX : Bx (w.heap.size ≠ w2.heap.size) := ⟨Nat.ne_of_lt X_2.out.lt⟩
        have NPY : Bx (w.heap.size + 1 ≠ w2.heap.size) := ⟨Nat.ne_of_lt Y_2.out.lt⟩
        have X_3 := bx (X_2.out.below hb X_2.out.lt)
        have Y_3 := bx (Y_2.out.below hb Y_2.out.lt)
        have B_3 := bx (B_2.out.trans (hb.mono B_2.out.size))
        clear hb X_2 Y_2 B_2
        refine mix_run (run_allocB rfl) rfl ?_
        refine ⟨ext_alloc _ _, ?_⟩
        have hb := ext_alloc (w2.alloc (.cells (ints .u8 (byP 0 0)).toArray 36)) (.cells (ints .u8 (byP 0 0)).toArray 36)
        have Q_4 : Bx (Has ((w2.alloc (.cells (ints .u8 (byP 0 0)).toArray 36)).alloc (.cells (ints .u8 (byP 0 0)).toArray 36)) (w2.heap.size + 1) (ints .u8 (byP 0 0))) := ⟨by have := Has.new (w2.alloc (.cells (ints .u8 (byP 0 0)).toArray 36)) (ints .u8 (byP 0 0)) 36; rw [alloc_size] at this; exact this⟩
        have LQ : Bx (w.heap.size ≤ w2.heap.size + 1) := ⟨by have := B_3.out.size; rw [alloc_size] at this; exact this⟩
        have NQX : Bx (w.heap.size ≠ w2.heap.size + 1) := ⟨by have := Nat.ne_of_lt X_3.out.lt; rw [alloc_size] at this; exact this⟩
        have NQY : Bx (w.heap.size + 1 ≠ w2.heap.size + 1) := ⟨by have := Nat.ne_of_lt Y_3.out.lt; rw [alloc_size] at this; exact this⟩
        have NQP : Bx (w2.heap.size ≠ w2.heap.size + 1) := ⟨by have := Nat.ne_of_lt P_3.out.lt; rw [alloc_size] at this; exact this⟩
        have X_4 := bx (X_3.out.below hb X_3.out.lt)
        have Y_4 := bx (Y_3.out.below hb Y_3.out.lt)
        have P_4 := bx (P_3.out.below hb P_3.out.lt)
        have B_4 := bx (B_3.out.trans (hb.mono B_3.out.size))
        clear hb X_3 Y_3 P_3 B_3
        simp only [Act.put, List.setIfInBounds_toArray, List.set_cons_succ, List.set_cons_zero, alloc_size]
        repeat (first | (with_reducible refine wpQuiet_nil ?_) | (first | go_big_quiet_skip | (go_big_quiet_want; first | fail | (go_big_quiet_op; first | go_big_quiet_on | ((with_reducible refine ⟨_, fun _ _ => rfl, ?_⟩); go_big_quiet_on)))))
        go_wp2_with (first | ((with_reducible refine wpList_storeB rfl 36 _ _ rfl _ (ints .u8 (byl n)) _ ?_ ?_ P_4.out (byl_len0 n) Tryd.underlying36 ?_ (byl_ones n) ?_); rfl; rfl; exact cells_b32 _ 32; intro w5 hw hg hz0; have P_5 := bx hw; have X_5 := bx (X_4.out.grown hg (ne_som NPX.out)); have Y_5 := bx (Y_4.out.grown hg (ne_som NPY.out)); have Q_5 := bx (Q_4.out.grown hg (ne_som (Ne.symm NQP.out))); have B_5 := bx (B_4.out.grown hg B_4.out.size (fun k hk => by cases hk; exact LP.out)); clear hw hg hz0) | ((with_reducible refine wpList_storeB rfl 36 _ _ rfl _ (ints .u8 (byl m)) _ ?_ ?_ Q_5.out (byl_len0 m) Tryd.underlying36 ?_ (byl_ones m) ?_); rfl; rfl; exact cells_b32 _ 32; intro w6 hw hg hz0; have Q_6 := bx hw; have X_6 := bx (X_5.out.grown hg (ne_som NQX.out)); have Y_6 := bx (Y_5.out.grown hg (ne_som NQY.out)); have P_6 := bx (P_5.out.grown hg (ne_som NQP.out)); have B_6 := bx (B_5.out.grown hg B_5.out.size (fun k hk => by cases hk; exact LQ.out)); clear hw hg hz0))
        refine NoPanic.normal ?_
        go_wp2_with fail
        have CX := bx (fun (w1 : World) (h : Cls w6.heap.size w6 w1) => X_6.out.below h.out X_6.out.lt)
        have CY := bx (fun (w1 : World) (h : Cls w6.heap.size w6 w1) => Y_6.out.below h.out Y_6.out.lt)
        have CP := bx (fun (w1 : World) (h : Cls w6.heap.size w6 w1) => P_6.out.below h.out P_6.out.lt)
        have CQ := bx (fun (w1 : World) (h : Cls w6.heap.size w6 w1) => Q_6.out.below h.out Q_6.out.lt)
        have K0 := bx (fun (w1 : World) (h : Cls w6.heap.size w6 w1) => h.calls (Nat.le_refl _) (TR.out w1))
        have K1 := bx (fun (w1 : World) (h : Cls w6.heap.size w6 w1) => h.calls (Nat.le_refl _) (FB.out w1))
        have K2 := bx (fun (w1 : World) (h : Cls w6.heap.size w6 w1) => h.calls (Nat.le_refl _) (CM.out w1))
        have K3 := bx (fun (w1 : World) (h : Cls w6.heap.size w6 w1) => h.calls (Nat.le_refl _) (CR.out w1))
        have K4 := bx (fun (w1 : World) (h : Cls w6.heap.size w6 w1) => h.calls (Nat.le_refl _) (AW.out w1))
        refine region_cls w6.heap.size (by kernel_rfl) (by kernel_rfl) ?_
        repeat (first | go_big_quiet_skip | (go_big_quiet_want; first | ((with_reducible refine quiet_loadC 24 _ rfl _ (ints .u64 (wl n)) ?_ CX.out Tryd.underlying24 ?_ ?_ ?_); rfl; rfl; exact cells_wide _; go_big_quiet_on; (simp only [Act.put, List.setIfInBounds_toArray, List.set_cons_succ, List.set_cons_zero])) | ((with_reducible refine quiet_loadC 24 _ rfl _ (ints .u64 (wl m)) ?_ CY.out Tryd.underlying24 ?_ ?_ ?_); rfl; rfl; exact cells_wide _; go_big_quiet_on; (simp only [Act.put, List.setIfInBounds_toArray, List.set_cons_succ, List.set_cons_zero])) | ((with_reducible refine quiet_loadC 36 _ rfl _ (ints .u8 (byl n)) ?_ CP.out Tryd.underlying36 ?_ ?_ ?_); rfl; rfl; exact cells_b32 _ 32; go_big_quiet_on; (simp only [Act.put, List.setIfInBounds_toArray, List.set_cons_succ, List.set_cons_zero])) | ((with_reducible refine quiet_loadC 36 _ rfl _ (ints .u8 (byl m)) ?_ CQ.out Tryd.underlying36 ?_ ?_ ?_); rfl; rfl; exact cells_b32 _ 32; go_big_quiet_on; (simp only [Act.put, List.setIfInBounds_toArray, List.set_cons_succ, List.set_cons_zero])) | (go_big_quiet_op; first | go_big_quiet_on | ((with_reducible refine ⟨_, fun _ _ => rfl, ?_⟩); go_big_quiet_on) | (apply Exists.intro; refine ⟨fun w1 hw1 => ?_, ?_⟩; (first | (go_at_call 23; (with_reducible exact K0.out w1 hw1)) | (go_at_call 24; (with_reducible exact K1.out w1 hw1)) | (go_at_call 14; (with_reducible exact K2.out w1 hw1)) | (go_at_call 25; (with_reducible exact K3.out w1 hw1)) | (go_at_call 17; (with_reducible exact K4.out w1 hw1))); go_big_quiet_on))))
        refine wpQuiet_nil ?_
        intro w99 hw99
        have HW99 := bx hw99
        clear hw99
        go_wp2
        go_ret
        exact ⟨rfl, B_6.out.trans (HW99.out.out.mono B_6.out.size)⟩
      · refine mix_run (run_allocB rfl) rfl ?_
        refine ⟨ext_alloc _ _, ?_⟩
        have hb := ext_alloc w2 (.cells (ints .u8 (byP 0 0)).toArray 36)
        have Q_3 : Bx (Has (w2.alloc (.cells (ints .u8 (byP 0 0)).toArray 36)) (w2.heap.size) (ints .u8 (byP 0 0))) := ⟨Has.new w2 (ints .u8 (byP 0 0)) 36⟩
        have LQ : Bx (w.heap.size ≤ w2.heap.size) := ⟨B_2.out.size⟩
        have NQX : Bx (w.heap.size ≠ w2.heap.size) := ⟨Nat.ne_of_lt X_2.out.lt⟩
        have NQY : Bx (w.heap.size + 1 ≠ w2.heap.size) := ⟨Nat.ne_of_lt Y_2.out.lt⟩
        have X_3 := bx (X_2.out.below hb X_2.out.lt)
        have Y_3 := bx (Y_2.out.below hb Y_2.out.lt)
        have B_3 := bx (B_2.out.trans (hb.mono B_2.out.size))
        clear hb X_2 Y_2 B_2
        refine mix_run (run_allocB rfl) rfl ?_
        refine ⟨ext_alloc _ _, ?_⟩
        have hb := ext_alloc (w2.alloc (.cells (ints .u8 (byP 0 0)).toArray 36)) (.cells (ints .u8 (byP 0 0)).toArray 36)
        have P_4 : Bx (Has ((w2.alloc (.cells (ints .u8 (byP 0 0)).toArray 36)).alloc (.cells (ints .u8 (byP 0 0)).toArray 36)) (w2.heap.size + 1) (ints .u8 (byP 0 0))) := ⟨by have := Has.new (w2.alloc (.cells (ints .u8 (byP 0 0)).toArray 36)) (ints .u8 (byP 0 0)) 36; rw [alloc_size] at this; exact this⟩
        have LP : Bx (w.heap.size ≤ w2.heap.size + 1) := ⟨by have := B_3.out.size; rw [alloc_size] at this; exact this⟩
        have NPX : Bx (w.heap.size ≠ w2.heap.size + 1) := ⟨by have := Nat.ne_of_lt X_3.out.lt; rw [alloc_size] at this; exact this⟩
        have NPY : Bx (w.heap.size + 1 ≠ w2.heap.size + 1) := ⟨by have := Nat.ne_of_lt Y_3.out.lt; rw [alloc_size] at this; exact this⟩
        have NPQ : Bx (w2.heap.size ≠ w2.heap.size + 1) := ⟨by have := Nat.ne_of_lt Q_3.out.lt; rw [alloc_size] at this; exact this⟩
        have X_4 := bx (X_3.out.below hb X_3.out.lt)
        have Y_4 := bx (Y_3.out.below hb Y_3.out.lt)
        have Q_4 := bx (Q_3.out.below hb Q_3.out.lt)
        have B_4 := bx (B_3.out.trans (hb.mono B_3.out.size))
        clear hb X_3 Y_3 Q_3 B_3
        simp only [Act.put, List.setIfInBounds_toArray, List.set_cons_succ, List.set_cons_zero, alloc_size]
        repeat (first | (with_reducible refine wpQuiet_nil ?_) | (first | go_big_quiet_skip | (go_big_quiet_want; first | fail | (go_big_quiet_op; first | go_big_quiet_on | ((with_reducible refine ⟨_, fun _ _ => rfl, ?_⟩); go_big_quiet_on)))))
        go_wp2_with (first | ((with_reducible refine wpList_storeB rfl 36 _ _ rfl _ (ints .u8 (byl n)) _ ?_ ?_ P_4.out (byl_len0 n) Tryd.underlying36 ?_ (byl_ones n) ?_); rfl; rfl; exact cells_b32 _ 32; intro w5 hw hg hz0; have P_5 := bx hw; have X_5 := bx (X_4.out.grown hg (ne_som NPX.out)); have Y_5 := bx (Y_4.out.grown hg (ne_som NPY.out)); have Q_5 := bx (Q_4.out.grown hg (ne_som NPQ.out)); have B_5 := bx (B_4.out.grown hg B_4.out.size (fun k hk => by cases hk; exact LP.out)); clear hw hg hz0) | ((with_reducible refine wpList_storeB rfl 36 _ _ rfl _ (ints .u8 (byl m)) _ ?_ ?_ Q_5.out (byl_len0 m) Tryd.underlying36 ?_ (byl_ones m) ?_); rfl; rfl; exact cells_b32 _ 32; intro w6 hw hg hz0; have Q_6 := bx hw; have X_6 := bx (X_5.out.grown hg (ne_som NQX.out)); have Y_6 := bx (Y_5.out.grown hg (ne_som NQY.out)); have P_6 := bx (P_5.out.grown hg (ne_som (Ne.symm NPQ.out))); have B_6 := bx (B_5.out.grown hg B_5.out.size (fun k hk => by cases hk; exact LQ.out)); clear hw hg hz0))
        refine NoPanic.normal ?_
        go_wp2_with fail
        have CX := bx (fun (w1 : World) (h : Cls w6.heap.size w6 w1) => X_6.out.below h.out X_6.out.lt)
        have CY := bx (fun (w1 : World) (h : Cls w6.heap.size w6 w1) => Y_6.out.below h.out Y_6.out.lt)
        have CQ := bx (fun (w1 : World) (h : Cls w6.heap.size w6 w1) => Q_6.out.below h.out Q_6.out.lt)
        have CP := bx (fun (w1 : World) (h : Cls w6.heap.size w6 w1) => P_6.out.below h.out P_6.out.lt)
        have K0 := bx (fun (w1 : World) (h : Cls w6.heap.size w6 w1) => h.calls (Nat.le_refl _) (TR.out w1))
        have K1 := bx (fun (w1 : World) (h : Cls w6.heap.size w6 w1) => h.calls (Nat.le_refl _) (FB.out w1))
        have K2 := bx (fun (w1 : World) (h : Cls w6.heap.size w6 w1) => h.calls (Nat.le_refl _) (CM.out w1))
        have K3 := bx (fun (w1 : World) (h : Cls w6.heap.size w6 w1) => h.calls (Nat.le_refl _) (CR.out w1))
        have K4 := bx (fun (w1 : World) (h : Cls w6.heap.size w6 w1) => h.calls (Nat.le_refl _) (AW.out w1))
        refine region_cls w6.heap.size (by kernel_rfl) (by kernel_rfl) ?_
        repeat (first | go_big_quiet_skip | (go_big_quiet_want; first | ((with_reducible refine quiet_loadC 24 _ rfl _ (ints .u64 (wl n)) ?_ CX.out Tryd.underlying24 ?_ ?_ ?_); rfl; rfl; exact cells_wide _; go_big_quiet_on; (simp only [Act.put, List.setIfInBounds_toArray, List.set_cons_succ, List.set_cons_zero])) | ((with_reducible refine quiet_loadC 24 _ rfl _ (ints .u64 (wl m)) ?_ CY.out Tryd.underlying24 ?_ ?_ ?_); rfl; rfl; exact cells_wide _; go_big_quiet_on; (simp only [Act.put, List.setIfInBounds_toArray, List.set_cons_succ, List.set_cons_zero])) | ((with_reducible refine quiet_loadC 36 _ rfl _ (ints .u8 (byl m)) ?_ CQ.out Tryd.underlying36 ?_ ?_ ?_); rfl; rfl; exact cells_b32 _ 32; go_big_quiet_on; (simp only [Act.put, List.setIfInBounds_toArray, List.set_cons_succ, List.set_cons_zero])) | ((with_reducible refine quiet_loadC 36 _ rfl _ (ints .u8 (byl n)) ?_ CP.out Tryd.underlying36 ?_ ?_ ?_); rfl; rfl; exact cells_b32 _ 32; go_big_quiet_on; (simp only [Act.put, List.setIfInBounds_toArray, List.set_cons_succ, List.set_cons_zero])) | (go_big_quiet_op; first | go_big_quiet_on | ((with_reducible refine ⟨_, fun _ _ => rfl, ?_⟩); go_big_quiet_on) | (apply Exists.intro; refine ⟨fun w1 hw1 => ?_, ?_⟩; (first | (go_at_call 23; (with_reducible exact K0.out w1 hw1)) | (go_at_call 24; (with_reducible exact K1.out w1 hw1)) | (go_at_call 14; (with_reducible exact K2.out w1 hw1)) | (go_at_call 25; (with_reducible exact K3.out w1 hw1)) | (go_at_call 17; (with_reducible exact K4.out w1 hw1))); go_big_quiet_on))))
        refine wpQuiet_nil ?_
        intro w99 hw99
        have HW99 := bx hw99
        clear hw99
        go_wp2
        go_ret
        exact ⟨rfl, B_6.out.trans (HW99.out.out.mono B_6.out.size)⟩
    · refine mix_run (run_allocB rfl) rfl ?_
      refine ⟨ext_alloc _ _, ?_⟩
      have hb := ext_alloc w1 (.cells (ints .u8 (byP 0 0)).toArray 36)
      have P_2 : Bx (Has (w1.alloc (.cells (ints .u8 (byP 0 0)).toArray 36)) (w1.heap.size) (ints .u8 (byP 0 0))) := ⟨Has.new w1 (ints .u8 (byP 0 0)) 36⟩
      have LP : Bx (w.heap.size ≤ w1.heap.size) := ⟨B_1.out.size⟩
      have NPX : Bx (w.heap.size ≠ w1.heap.size) := ⟨Nat.ne_of_lt X_1.out.lt⟩
      have NPY : Bx (w.heap.size + 1 ≠ w1.heap.size) := ⟨Nat.ne_of_lt Y_1.out.lt⟩
      have X_2 := bx (X_1.out.below hb X_1.out.lt)
      have Y_2 := bx (Y_1.out.below hb Y_1.out.lt)
      have B_2 := bx (B_1.out.trans (hb.mono B_1.out.size))
      clear hb X_1 Y_1 B_1
      refine ⟨?_, ?_⟩
      · refine mix_call (T2.out _) Tryd.func22 rfl rfl _ _ rfl rfl rfl ?_
        rintro e w3 ⟨rfl, hb⟩
        refine ⟨_, rfl, hb, ?_⟩
        have X_3 := bx (X_2.out.below hb X_2.out.lt)
        have Y_3 := bx (Y_2.out.below hb Y_2.out.lt)
        have P_3 := bx (P_2.out.below hb P_2.out.lt)
        have B_3 := bx (B_2.out.trans (hb.mono B_2.out.size))
        clear hb X_2 Y_2 P_2 B_2
        refine mix_run (run_allocB rfl) rfl ?_
        refine ⟨ext_alloc _ _, ?_⟩
        have hb := ext_alloc w3 (.cells (ints .u8 (byP 0 0)).toArray 36)
        have Q_4 : Bx (Has (w3.alloc (.cells (ints .u8 (byP 0 0)).toArray 36)) (w3.heap.size) (ints .u8 (byP 0 0))) := ⟨Has.new w3 (ints .u8 (byP 0 0)) 36⟩
        have LQ : Bx (w.heap.size ≤ w3.heap.size) := ⟨B_3.out.size⟩
        have NQX : Bx (w.heap.size ≠ w3.heap.size) := ⟨Nat.ne_of_lt X_3.out.lt⟩
        have NQY : Bx (w.heap.size + 1 ≠ w3.heap.size) := ⟨Nat.ne_of_lt Y_3.out.lt⟩
        have NQP : Bx (w1.heap.size ≠ w3.heap.size) := ⟨Nat.ne_of_lt P_3.out.lt⟩
        have X_4 := bx (X_3.out.below hb X_3.out.lt)
        have Y_4 := bx (Y_3.out.below hb Y_3.out.lt)
        have P_4 := bx (P_3.out.below hb P_3.out.lt)
        have B_4 := bx (B_3.out.trans (hb.mono B_3.out.size))
        clear hb X_3 Y_3 P_3 B_3
        simp only [Act.put, List.setIfInBounds_toArray, List.set_cons_succ, List.set_cons_zero, alloc_size]
        repeat (first | (with_reducible refine wpQuiet_nil ?_) | (first | go_big_quiet_skip | (go_big_quiet_want; first | fail | (go_big_quiet_op; first | go_big_quiet_on | ((with_reducible refine ⟨_, fun _ _ => rfl, ?_⟩); go_big_quiet_on)))))
        go_wp2_with (first | ((with_reducible refine wpList_storeB rfl 36 _ _ rfl _ (ints .u8 (byl n)) _ ?_ ?_ P_4.out (byl_len0 n) Tryd.underlying36 ?_ (byl_ones n) ?_); rfl; rfl; exact cells_b32 _ 32; intro w5 hw hg hz0; have P_5 := bx hw; have X_5 := bx (X_4.out.grown hg (ne_som NPX.out)); have Y_5 := bx (Y_4.out.grown hg (ne_som NPY.out)); have Q_5 := bx (Q_4.out.grown hg (ne_som (Ne.symm NQP.out))); have B_5 := bx (B_4.out.grown hg B_4.out.size (fun k hk => by cases hk; exact LP.out)); clear hw hg hz0) | ((with_reducible refine wpList_storeB rfl 36 _ _ rfl _ (ints .u8 (byl m)) _ ?_ ?_ Q_5.out (byl_len0 m) Tryd.underlying36 ?_ (byl_ones m) ?_); rfl; rfl; exact cells_b32 _ 32; intro w6 hw hg hz0; have Q_6 := bx hw; have X_6 := bx (X_5.out.grown hg (ne_som NQX.out)); have Y_6 := bx (Y_5.out.grown hg (ne_som NQY.out)); have P_6 := bx (P_5.out.grown hg (ne_som NQP.out)); have B_6 := bx (B_5.out.grown hg B_5.out.size (fun k hk => by cases hk; exact LQ.out)); clear hw hg hz0))
        refine NoPanic.normal ?_
        go_wp2_with fail
        have CX := bx (fun (w1 : World) (h : Cls w6.heap.size w6 w1) => X_6.out.below h.out X_6.out.lt)
        have CY := bx (fun (w1 : World) (h : Cls w6.heap.size w6 w1) => Y_6.out.below h.out Y_6.out.lt)
        have CP := bx (fun (w1 : World) (h : Cls w6.heap.size w6 w1) => P_6.out.below h.out P_6.out.lt)
        have CQ := bx (fun (w1 : World) (h : Cls w6.heap.size w6 w1) => Q_6.out.below h.out Q_6.out.lt)
        have K0 := bx (fun (w1 : World) (h : Cls w6.heap.size w6 w1) => h.calls (Nat.le_refl _) (TR.out w1))
        have K1 := bx (fun (w1 : World) (h : Cls w6.heap.size w6 w1) => h.calls (Nat.le_refl _) (FB.out w1))
        have K2 := bx (fun (w1 : World) (h : Cls w6.heap.size w6 w1) => h.calls (Nat.le_refl _) (CM.out w1))
        have K3 := bx (fun (w1 : World) (h : Cls w6.heap.size w6 w1) => h.calls (Nat.le_refl _) (CR.out w1))
        have K4 := bx (fun (w1 : World) (h : Cls w6.heap.size w6 w1) => h.calls (Nat.le_refl _) (AW.out w1))
        refine region_cls w6.heap.size (by kernel_rfl) (by kernel_rfl) ?_
        repeat (first | go_big_quiet_skip | (go_big_quiet_want; first | ((with_reducible refine quiet_loadC 24 _ rfl _ (ints .u64 (wl n)) ?_ CX.out Tryd.underlying24 ?_ ?_ ?_); rfl; rfl; exact cells_wide _; go_big_quiet_on; (simp only [Act.put, List.setIfInBounds_toArray, List.set_cons_succ, List.set_cons_zero])) | ((with_reducible refine quiet_loadC 24 _ rfl _ (ints .u64 (wl m)) ?_ CY.out Tryd.underlying24 ?_ ?_ ?_); rfl; rfl; exact cells_wide _; go_big_quiet_on; (simp only [Act.put, List.setIfInBounds_toArray, List.set_cons_succ, List.set_cons_zero])) | ((with_reducible refine quiet_loadC 36 _ rfl _ (ints .u8 (byl n)) ?_ CP.out Tryd.underlying36 ?_ ?_ ?_); rfl; rfl; exact cells_b32 _ 32; go_big_quiet_on; (simp only [Act.put, List.setIfInBounds_toArray, List.set_cons_succ, List.set_cons_zero])) | ((with_reducible refine quiet_loadC 36 _ rfl _ (ints .u8 (byl m)) ?_ CQ.out Tryd.underlying36 ?_ ?_ ?_); rfl; rfl; exact cells_b32 _ 32; go_big_quiet_on; (simp only [Act.put, List.setIfInBounds_toArray, List.set_cons_succ, List.set_cons_zero])) | (go_big_quiet_op; first | go_big_quiet_on | ((with_reducible refine ⟨_, fun _ _ => rfl, ?_⟩); go_big_quiet_on) | (apply Exists.intro; refine ⟨fun w1 hw1 => ?_, ?_⟩; (first | (go_at_call 23; (with_reducible exact K0.out w1 hw1)) | (go_at_call 24; (with_reducible exact K1.out w1 hw1)) | (go_at_call 14; (with_reducible exact K2.out w1 hw1)) | (go_at_call 25; (with_reducible exact K3.out w1 hw1)) | (go_at_call 17; (with_reducible exact K4.out w1 hw1))); go_big_quiet_on))))
        refine wpQuiet_nil ?_
        intro w99 hw99
        have HW99 := bx hw99
        clear hw99
        go_wp2
        go_ret
        exact ⟨rfl, B_6.out.trans (HW99.out.out.mono B_6.out.size)⟩
      · refine mix_run (run_allocB rfl) rfl ?_
        refine ⟨ext_alloc _ _, ?_⟩
        have hb := ext_alloc (w1.alloc (.cells (ints .u8 (byP 0 0)).toArray 36)) (.cells (ints .u8 (byP 0 0)).toArray 36)
        have Q_3 : Bx (Has ((w1.alloc (.cells (ints .u8 (byP 0 0)).toArray 36)).alloc (.cells (ints .u8 (byP 0 0)).toArray 36)) (w1.heap.size + 1) (ints .u8 (byP 0 0))) := ⟨by have := Has.new (w1.alloc (.cells (ints .u8 (byP 0 0)).toArray 36)) (ints .u8 (byP 0 0)) 36; rw [alloc_size] at this; exact this⟩
        have LQ : Bx (w.heap.size ≤ w1.heap.size + 1) := ⟨by have := B_2.out.size; rw [alloc_size] at this; exact this⟩
        have NQX : Bx (w.heap.size ≠ w1.heap.size + 1) := ⟨by have := Nat.ne_of_lt X_2.out.lt; rw [alloc_size] at this; exact this⟩
        have NQY : Bx (w.heap.size + 1 ≠ w1.heap.size + 1) := ⟨by have := Nat.ne_of_lt Y_2.out.lt; rw [alloc_size] at this; exact this⟩
        have NQP : Bx (w1.heap.size ≠ w1.heap.size + 1) := ⟨by have := Nat.ne_of_lt P_2.out.lt; rw [alloc_size] at this; exact this⟩
        have X_3 := bx (X_2.out.below hb X_2.out.lt)
        have Y_3 := bx (Y_2.out.below hb Y_2.out.lt)
        have P_3 := bx (P_2.out.below hb P_2.out.lt)
        have B_3 := bx (B_2.out.trans (hb.mono B_2.out.size))
        clear hb X_2 Y_2 P_2 B_2
        refine mix_call (T2.out _) Tryd.func22 rfl rfl _ _ rfl rfl rfl ?_
        rintro e w4 ⟨rfl, hb⟩
        refine ⟨_, rfl, hb, ?_⟩
        have X_4 := bx (X_3.out.below hb X_3.out.lt)
        have Y_4 := bx (Y_3.out.below hb Y_3.out.lt)
        have P_4 := bx (P_3.out.below hb P_3.out.lt)
        have Q_4 := bx (Q_3.out.below hb Q_3.out.lt)
        have B_4 := bx (B_3.out.trans (hb.mono B_3.out.size))
        clear hb X_3 Y_3 P_3 Q_3 B_3
        simp only [Act.put, List.setIfInBounds_toArray, List.set_cons_succ, List.set_cons_zero, alloc_size]
        repeat (first | (with_reducible refine wpQuiet_nil ?_) | (first | go_big_quiet_skip | (go_big_quiet_want; first | fail | (go_big_quiet_op; first | go_big_quiet_on | ((with_reducible refine ⟨_, fun _ _ => rfl, ?_⟩); go_big_quiet_on)))))
        go_wp2_with (first | ((with_reducible refine wpList_storeB rfl 36 _ _ rfl _ (ints .u8 (byl n)) _ ?_ ?_ P_4.out (byl_len0 n) Tryd.underlying36 ?_ (byl_ones n) ?_); rfl; rfl; exact cells_b32 _ 32; intro w5 hw hg hz0; have P_5 := bx hw; have X_5 := bx (X_4.out.grown hg (ne_som NPX.out)); have Y_5 := bx (Y_4.out.grown hg (ne_som NPY.out)); have Q_5 := bx (Q_4.out.grown hg (ne_som (Ne.symm NQP.out))); have B_5 := bx (B_4.out.grown hg B_4.out.size (fun k hk => by cases hk; exact LP.out)); clear hw hg hz0) | ((with_reducible refine wpList_storeB rfl 36 _ _ rfl _ (ints .u8 (byl m)) _ ?_ ?_ Q_5.out (byl_len0 m) Tryd.underlying36 ?_ (byl_ones m) ?_); rfl; rfl; exact cells_b32 _ 32; intro w6 hw hg hz0; have Q_6 := bx hw; have X_6 := bx (X_5.out.grown hg (ne_som NQX.out)); have Y_6 := bx (Y_5.out.grown hg (ne_som NQY.out)); have P_6 := bx (P_5.out.grown hg (ne_som NQP.out)); have B_6 := bx (B_5.out.grown hg B_5.out.size (fun k hk => by cases hk; exact LQ.out)); clear hw hg hz0))
        refine NoPanic.normal ?_
        go_wp2_with fail
        have CX := bx (fun (w1 : World) (h : Cls w6.heap.size w6 w1) => X_6.out.below h.out X_6.out.lt)
        have CY := bx (fun (w1 : World) (h : Cls w6.heap.size w6 w1) => Y_6.out.below h.out Y_6.out.lt)
        have CP := bx (fun (w1 : World) (h : Cls w6.heap.size w6 w1) => P_6.out.below h.out P_6.out.lt)
        have CQ := bx (fun (w1 : World) (h : Cls w6.heap.size w6 w1) => Q_6.out.below h.out Q_6.out.lt)
        have K0 := bx (fun (w1 : World) (h : Cls w6.heap.size w6 w1) => h.calls (Nat.le_refl _) (TR.out w1))
        have K1 := bx (fun (w1 : World) (h : Cls w6.heap.size w6 w1) => h.calls (Nat.le_refl _) (FB.out w1))
        have K2 := bx (fun (w1 : World) (h : Cls w6.heap.size w6 w1) => h.calls (Nat.le_refl _) (CM.out w1))
        have K3 := bx (fun (w1 : World) (h : Cls w6.heap.size w6 w1) => h.calls (Nat.le_refl _) (CR.out w1))
        have K4 := bx (fun (w1 : World) (h : Cls w6.heap.size w6 w1) => h.calls (Nat.le_refl _) (AW.out w1))
        refine region_cls w6.heap.size (by kernel_rfl) (by kernel_rfl) ?_
        repeat (first | go_big_quiet_skip | (go_big_quiet_want; first | ((with_reducible refine quiet_loadC 24 _ rfl _ (ints .u64 (wl n)) ?_ CX.out Tryd.underlying24 ?_ ?_ ?_); rfl; rfl; exact cells_wide _; go_big_quiet_on; (simp only [Act.put, List.setIfInBounds_toArray, List.set_cons_succ, List.set_cons_zero])) | ((with_reducible refine quiet_loadC 24 _ rfl _ (ints .u64 (wl m)) ?_ CY.out Tryd.underlying24 ?_ ?_ ?_); rfl; rfl; exact cells_wide _; go_big_quiet_on; (simp only [Act.put, List.setIfInBounds_toArray, List.set_cons_succ, List.set_cons_zero])) | ((with_reducible refine quiet_loadC 36 _ rfl _ (ints .u8 (byl n)) ?_ CP.out Tryd.underlying36 ?_ ?_ ?_); rfl; rfl; exact cells_b32 _ 32; go_big_quiet_on; (simp only [Act.put, List.setIfInBounds_toArray, List.set_cons_succ, List.set_cons_zero])) | ((with_reducible refine quiet_loadC 36 _ rfl _ (ints .u8 (byl m)) ?_ CQ.out Tryd.underlying36 ?_ ?_ ?_); rfl; rfl; exact cells_b32 _ 32; go_big_quiet_on; (simp only [Act.put, List.setIfInBounds_toArray, List.set_cons_succ, List.set_cons_zero])) | (go_big_quiet_op; first | go_big_quiet_on | ((with_reducible refine ⟨_, fun _ _ => rfl, ?_⟩); go_big_quiet_on) | (apply Exists.intro; refine ⟨fun w1 hw1 => ?_, ?_⟩; (first | (go_at_call 23; (with_reducible exact K0.out w1 hw1)) | (go_at_call 24; (with_reducible exact K1.out w1 hw1)) | (go_at_call 14; (with_reducible exact K2.out w1 hw1)) | (go_at_call 25; (with_reducible exact K3.out w1 hw1)) | (go_at_call 17; (with_reducible exact K4.out w1 hw1))); go_big_quiet_on))))
        refine wpQuiet_nil ?_
        intro w99 hw99
        have HW99 := bx hw99
        clear hw99
        go_wp2
        go_ret
        exact ⟨rfl, B_6.out.trans (HW99.out.out.mono B_6.out.size)⟩
    · refine mix_run (run_allocB rfl) rfl ?_
      refine ⟨ext_alloc _ _, ?_⟩
      have hb := ext_alloc w1 (.cells (ints .u8 (byP 0 0)).toArray 36)
      have Q_2 : Bx (Has (w1.alloc (.cells (ints .u8 (byP 0 0)).toArray 36)) (w1.heap.size) (ints .u8 (byP 0 0))) := ⟨Has.new w1 (ints .u8 (byP 0 0)) 36⟩
      have LQ : Bx (w.heap.size ≤ w1.heap.size) := ⟨B_1.out.size⟩
      have NQX : Bx (w.heap.size ≠ w1.heap.size) := ⟨Nat.ne_of_lt X_1.out.lt⟩
      have NQY : Bx (w.heap.size + 1 ≠ w1.heap.size) := ⟨Nat.ne_of_lt Y_1.out.lt⟩
      have X_2 := bx (X_1.out.below hb X_1.out.lt)
      have Y_2 := bx (Y_1.out.below hb Y_1.out.lt)
      have B_2 := bx (B_1.out.trans (hb.mono B_1.out.size))
      clear hb X_1 Y_1 B_1
      refine ⟨?_, ?_⟩
      · refine mix_call (T2.out _) Tryd.func22 rfl rfl _ _ rfl rfl rfl ?_
        rintro e w3 ⟨rfl, hb⟩
        refine ⟨_, rfl, hb, ?_⟩
        have X_3 := bx (X_2.out.below hb X_2.out.lt)
        have Y_3 := bx (Y_2.out.below hb Y_2.out.lt)
        have Q_3 := bx (Q_2.out.below hb Q_2.out.lt)
        have B_3 := bx (B_2.out.trans (hb.mono B_2.out.size))
        clear hb X_2 Y_2 Q_2 B_2
        refine mix_run (run_allocB rfl) rfl ?_
        refine ⟨ext_alloc _ _, ?_⟩
        have hb := ext_alloc w3 (.cells (ints .u8 (byP 0 0)).toArray 36)
        have P_4 : Bx (Has (w3.alloc (.cells (ints .u8 (byP 0 0)).toArray 36)) (w3.heap.size) (ints .u8 (byP 0 0))) := ⟨Has.new w3 (ints .u8 (byP 0 0)) 36⟩
        have LP : Bx (w.heap.size ≤ w3.heap.size) := ⟨B_3.out.size⟩
        have NPX : Bx (w.heap.size ≠ w3.heap.size) := ⟨Nat.ne_of_lt X_3.out.lt⟩
        have NPY : Bx (w.heap.size + 1 ≠ w3.heap.size) := ⟨Nat.ne_of_lt Y_3.out.lt⟩
        have NPQ : Bx (w1.heap.size ≠ w3.heap.size) := ⟨Nat.ne_of_lt Q_3.out.lt⟩
        have X_4 := bx (X_3.out.below hb X_3.out.lt)
        have Y_4 := bx (Y_3.out.below hb Y_3.out.lt)
        have Q_4 := bx (Q_3.out.below hb Q_3.out.lt)
        have B_4 := bx (B_3.out.trans (hb.mono B_3.out.size))
        clear hb X_3 Y_3 Q_3 B_3
        simp only [Act.put, List.setIfInBounds_toArray, List.set_cons_succ, List.set_cons_zero, alloc_size]
        repeat (first | (with_reducible refine wpQuiet_nil ?_) | (first | go_big_quiet_skip | (go_big_quiet_want; first | fail | (go_big_quiet_op; first | go_big_quiet_on | ((with_reducible refine ⟨_, fun _ _ => rfl, ?_⟩); go_big_quiet_on)))))
        go_wp2_with (first | ((with_reducible refine wpList_storeB rfl 36 _ _ rfl _ (ints .u8 (byl n)) _ ?_ ?_ P_4.out (byl_len0 n) Tryd.underlying36 ?_ (byl_ones n) ?_); rfl; rfl; exact cells_b32 _ 32; intro w5 hw hg hz0; have P_5 := bx hw; have X_5 := bx (X_4.out.grown hg (ne_som NPX.out)); have Y_5 := bx (Y_4.out.grown hg (ne_som NPY.out)); have Q_5 := bx (Q_4.out.grown hg (ne_som NPQ.out)); have B_5 := bx (B_4.out.grown hg B_4.out.size (fun k hk => by cases hk; exact LP.out)); clear hw hg hz0) | ((with_reducible refine wpList_storeB rfl 36 _ _ rfl _ (ints .u8 (byl m)) _ ?_ ?_ Q_5.out (byl_len0 m) Tryd.underlying36 ?_ (byl_ones m) ?_); rfl; rfl; exact cells_b32 _ 32; intro w6 hw hg hz0; have Q_6 := bx hw; have X_6 := bx (X_5.out.grown hg (ne_som NQX.out)); have Y_6 := bx (Y_5.out.grown hg (ne_som NQY.out)); have P_6 := bx (P_5.out.grown hg (ne_som (Ne.symm NPQ.out))); have B_6 := bx (B_5.out.grown hg B_5.out.size (fun k hk => by cases hk; exact LQ.out)); clear hw hg hz0))
        refine NoPanic.normal ?_
        go_wp2_with fail
        have CX := bx (fun (w1 : World) (h : Cls w6.heap.size w6 w1) => X_6.out.below h.out X_6.out.lt)
        have CY := bx (fun (w1 : World) (h : Cls w6.heap.size w6 w1) => Y_6.out.below h.out Y_6.out.lt)
        have CQ := bx (fun (w1 : World) (h : Cls w6.heap.size w6 w1) => Q_6.out.below h.out Q_6.out.lt)
        have CP := bx (fun (w1 : World) (h : Cls w6.heap.size w6 w1) => P_6.out.below h.out P_6.out.lt)
        have K0 := bx (fun (w1 : World) (h : Cls w6.heap.size w6 w1) => h.calls (Nat.le_refl _) (TR.out w1))
        have K1 := bx (fun (w1 : World) (h : Cls w6.heap.size w6 w1) => h.calls (Nat.le_refl _) (FB.out w1))
        have K2 := bx (fun (w1 : World) (h : Cls w6.heap.size w6 w1) => h.calls (Nat.le_refl _) (CM.out w1))
        have K3 := bx (fun (w1 : World) (h : Cls w6.heap.size w6 w1) => h.calls (Nat.le_refl _) (CR.out w1))
        have K4 := bx (fun (w1 : World) (h : Cls w6.heap.size w6 w1) => h.calls (Nat.le_refl _) (AW.out w1))
        refine region_cls w6.heap.size (by kernel_rfl) (by kernel_rfl) ?_
        repeat (first | go_big_quiet_skip | (go_big_quiet_want; first | ((with_reducible refine quiet_loadC 24 _ rfl _ (ints .u64 (wl n)) ?_ CX.out Tryd.underlying24 ?_ ?_ ?_); rfl; rfl; exact cells_wide _; go_big_quiet_on; (simp only [Act.put, List.setIfInBounds_toArray, List.set_cons_succ, List.set_cons_zero])) | ((with_reducible refine quiet_loadC 24 _ rfl _ (ints .u64 (wl m)) ?_ CY.out Tryd.underlying24 ?_ ?_ ?_); rfl; rfl; exact cells_wide _; go_big_quiet_on; (simp only [Act.put, List.setIfInBounds_toArray, List.set_cons_succ, List.set_cons_zero])) | ((with_reducible refine quiet_loadC 36 _ rfl _ (ints .u8 (byl m)) ?_ CQ.out Tryd.underlying36 ?_ ?_ ?_); rfl; rfl; exact cells_b32 _ 32; go_big_quiet_on; (simp only [Act.put, List.setIfInBounds_toArray, List.set_cons_succ, List.set_cons_zero])) | ((with_reducible refine quiet_loadC 36 _ rfl _ (ints .u8 (byl n)) ?_ CP.out Tryd.underlying36 ?_ ?_ ?_); rfl; rfl; exact cells_b32 _ 32; go_big_quiet_on; (simp only [Act.put, List.setIfInBounds_toArray, List.set_cons_succ, List.set_cons_zero])) | (go_big_quiet_op; first | go_big_quiet_on | ((with_reducible refine ⟨_, fun _ _ => rfl, ?_⟩); go_big_quiet_on) | (apply Exists.intro; refine ⟨fun w1 hw1 => ?_, ?_⟩; (first | (go_at_call 23; (with_reducible exact K0.out w1 hw1)) | (go_at_call 24; (with_reducible exact K1.out w1 hw1)) | (go_at_call 14; (with_reducible exact K2.out w1 hw1)) | (go_at_call 25; (with_reducible exact K3.out w1 hw1)) | (go_at_call 17; (with_reducible exact K4.out w1 hw1))); go_big_quiet_on))))
        refine wpQuiet_nil ?_
        intro w99 hw99
        have HW99 := bx hw99
        clear hw99
        go_wp2
        go_ret
        exact ⟨rfl, B_6.out.trans (HW99.out.out.mono B_6.out.size)⟩
      · refine mix_run (run_allocB rfl) rfl ?_
        refine ⟨ext_alloc _ _, ?_⟩
        have hb := ext_alloc (w1.alloc (.cells (ints .u8 (byP 0 0)).toArray 36)) (.cells (ints .u8 (byP 0 0)).toArray 36)
        have P_3 : Bx (Has ((w1.alloc (.cells (ints .u8 (byP 0 0)).toArray 36)).alloc (.cells (ints .u8 (byP 0 0)).toArray 36)) (w1.heap.size + 1) (ints .u8 (byP 0 0))) := ⟨by have := Has.new (w1.alloc (.cells (ints .u8 (byP 0 0)).toArray 36)) (ints .u8 (byP 0 0)) 36; rw [alloc_size] at this; exact this⟩
        have LP : Bx (w.heap.size ≤ w1.heap.size + 1) := ⟨by have := B_2.out.size; rw [alloc_size] at this; exact this⟩
        have NPX : Bx (w.heap.size ≠ w1.heap.size + 1) := ⟨by have := Nat.ne_of_lt X_2.out.lt; rw [alloc_size] at this; exact this⟩
        have NPY : Bx (w.heap.size + 1 ≠ w1.heap.size + 1) := ⟨by have := Nat.ne_of_lt Y_2.out.lt; rw [alloc_size] at this; exact this⟩
        have NPQ : Bx (w1.heap.size ≠ w1.heap.size + 1) := ⟨by have := Nat.ne_of_lt Q_2.out.lt; rw [alloc_size] at this; exact this⟩
        have X_3 := bx (X_2.out.below hb X_2.out.lt)
        have Y_3 := bx (Y_2.out.below hb Y_2.out.lt)
        have Q_3 := bx (Q_2.out.below hb Q_2.out.lt)
        have B_3 := bx (B_2.out.trans (hb.mono B_2.out.size))
        clear hb X_2 Y_2 Q_2 B_2
        refine mix_call (T2.out _) Tryd.func22 rfl rfl _ _ rfl rfl rfl ?_
        rintro e w4 ⟨rfl, hb⟩
        refine ⟨_, rfl, hb, ?_⟩
        have X_4 := bx (X_3.out.below hb X_3.out.lt)
        have Y_4 := bx (Y_3.out.below hb Y_3.out.lt)
        have Q_4 := bx (Q_3.out.below hb Q_3.out.lt)
        have P_4 := bx (P_3.out.below hb P_3.out.lt)
        have B_4 := bx (B_3.out.trans (hb.mono B_3.out.size))
        clear hb X_3 Y_3 Q_3 P_3 B_3
        simp only [Act.put, List.setIfInBounds_toArray, List.set_cons_succ, List.set_cons_zero, alloc_size]
        repeat (first | (with_reducible refine wpQuiet_nil ?_) | (first | go_big_quiet_skip | (go_big_quiet_want; first | fail | (go_big_quiet_op; first | go_big_quiet_on | ((with_reducible refine ⟨_, fun _ _ => rfl, ?_⟩); go_big_quiet_on)))))
        go_wp2_with (first | ((with_reducible refine wpList_storeB rfl 36 _ _ rfl _ (ints .u8 (byl n)) _ ?_ ?_ P_4.out (byl_len0 n) Tryd.underlying36 ?_ (byl_ones n) ?_); rfl; rfl; exact cells_b32 _ 32; intro w5 hw hg hz0; have P_5 := bx hw; have X_5 := bx (X_4.out.grown hg (ne_som NPX.out)); have Y_5 := bx (Y_4.out.grown hg (ne_som NPY.out)); have Q_5 := bx (Q_4.out.grown hg (ne_som NPQ.out)); have B_5 := bx (B_4.out.grown hg B_4.out.size (fun k hk => by cases hk; exact LP.out)); clear hw hg hz0) | ((with_reducible refine wpList_storeB rfl 36 _ _ rfl _ (ints .u8 (byl m)) _ ?_ ?_ Q_5.out (byl_len0 m) Tryd.underlying36 ?_ (byl_ones m) ?_); rfl; rfl; exact cells_b32 _ 32; intro w6 hw hg hz0; have Q_6 := bx hw; have X_6 := bx (X_5.out.grown hg (ne_som NQX.out)); have Y_6 := bx (Y_5.out.grown hg (ne_som NQY.out)); have P_6 := bx (P_5.out.grown hg (ne_som (Ne.symm NPQ.out))); have B_6 := bx (B_5.out.grown hg B_5.out.size (fun k hk => by cases hk; exact LQ.out)); clear hw hg hz0))
        refine NoPanic.normal ?_
        go_wp2_with fail
        have CX := bx (fun (w1 : World) (h : Cls w6.heap.size w6 w1) => X_6.out.below h.out X_6.out.lt)
        have CY := bx (fun (w1 : World) (h : Cls w6.heap.size w6 w1) => Y_6.out.below h.out Y_6.out.lt)
        have CQ := bx (fun (w1 : World) (h : Cls w6.heap.size w6 w1) => Q_6.out.below h.out Q_6.out.lt)
        have CP := bx (fun (w1 : World) (h : Cls w6.heap.size w6 w1) => P_6.out.below h.out P_6.out.lt)
        have K0 := bx (fun (w1 : World) (h : Cls w6.heap.size w6 w1) => h.calls (Nat.le_refl _) (TR.out w1))
        have K1 := bx (fun (w1 : World) (h : Cls w6.heap.size w6 w1) => h.calls (Nat.le_refl _) (FB.out w1))
        have K2 := bx (fun (w1 : World) (h : Cls w6.heap.size w6 w1) => h.calls (Nat.le_refl _) (CM.out w1))
        have K3 := bx (fun (w1 : World) (h : Cls w6.heap.size w6 w1) => h.calls (Nat.le_refl _) (CR.out w1))
        have K4 := bx (fun (w1 : World) (h : Cls w6.heap.size w6 w1) => h.calls (Nat.le_refl _) (AW.out w1))
        refine region_cls w6.heap.size (by kernel_rfl) (by kernel_rfl) ?_
        repeat (first | go_big_quiet_skip | (go_big_quiet_want; first | ((with_reducible refine quiet_loadC 24 _ rfl _ (ints .u64 (wl n)) ?_ CX.out Tryd.underlying24 ?_ ?_ ?_); rfl; rfl; exact cells_wide _; go_big_quiet_on; (simp only [Act.put, List.setIfInBounds_toArray, List.set_cons_succ, List.set_cons_zero])) | ((with_reducible refine quiet_loadC 24 _ rfl _ (ints .u64 (wl m)) ?_ CY.out Tryd.underlying24 ?_ ?_ ?_); rfl; rfl; exact cells_wide _; go_big_quiet_on; (simp only [Act.put, List.setIfInBounds_toArray, List.set_cons_succ, List.set_cons_zero])) | ((with_reducible refine quiet_loadC 36 _ rfl _ (ints .u8 (byl m)) ?_ CQ.out Tryd.underlying36 ?_ ?_ ?_); rfl; rfl; exact cells_b32 _ 32; go_big_quiet_on; (simp only [Act.put, List.setIfInBounds_toArray, List.set_cons_succ, List.set_cons_zero])) | ((with_reducible refine quiet_loadC 36 _ rfl _ (ints .u8 (byl n)) ?_ CP.out Tryd.underlying36 ?_ ?_ ?_); rfl; rfl; exact cells_b32 _ 32; go_big_quiet_on; (simp only [Act.put, List.setIfInBounds_toArray, List.set_cons_succ, List.set_cons_zero])) | (go_big_quiet_op; first | go_big_quiet_on | ((with_reducible refine ⟨_, fun _ _ => rfl, ?_⟩); go_big_quiet_on) | (apply Exists.intro; refine ⟨fun w1 hw1 => ?_, ?_⟩; (first | (go_at_call 23; (with_reducible exact K0.out w1 hw1)) | (go_at_call 24; (with_reducible exact K1.out w1 hw1)) | (go_at_call 14; (with_reducible exact K2.out w1 hw1)) | (go_at_call 25; (with_reducible exact K3.out w1 hw1)) | (go_at_call 17; (with_reducible exact K4.out w1 hw1))); go_big_quiet_on))))
        refine wpQuiet_nil ?_
        intro w99 hw99
        have HW99 := bx hw99
        clear hw99
        go_wp2
        go_ret
        exact ⟨rfl, B_6.out.trans (HW99.out.out.mono B_6.out.size)⟩
  · refine mix_run (run_allocB rfl) rfl ?_
    refine ⟨ext_alloc _ _, ?_⟩
    have hb := ext_alloc W (.cells (ints .u8 (byP 0 0)).toArray 36)
    have P_1 : Bx (Has (W.alloc (.cells (ints .u8 (byP 0 0)).toArray 36)) (W.heap.size) (ints .u8 (byP 0 0))) := ⟨Has.new W (ints .u8 (byP 0 0)) 36⟩
    have LP : Bx (w.heap.size ≤ W.heap.size) := ⟨B_0.out.size⟩
    have NPX : Bx (w.heap.size ≠ W.heap.size) := ⟨Nat.ne_of_lt X_0.out.lt⟩
    have NPY : Bx (w.heap.size + 1 ≠ W.heap.size) := ⟨Nat.ne_of_lt Y_0.out.lt⟩
    have X_1 := bx (X_0.out.below hb X_0.out.lt)
    have Y_1 := bx (Y_0.out.below hb Y_0.out.lt)
    have B_1 := bx (B_0.out.trans (hb.mono B_0.out.size))
    clear hb X_0 Y_0 B_0
    refine ⟨?_, ?_⟩
    · refine mix_call (T1.out _) Tryd.func22 rfl rfl _ _ rfl rfl rfl ?_
      rintro e w2 ⟨rfl, hb⟩
      refine ⟨_, rfl, hb, ?_⟩
      have X_2 := bx (X_1.out.below hb X_1.out.lt)
      have Y_2 := bx (Y_1.out.below hb Y_1.out.lt)
      have P_2 := bx (P_1.out.below hb P_1.out.lt)
      have B_2 := bx (B_1.out.trans (hb.mono B_1.out.size))
      clear hb X_1 Y_1 P_1 B_1
      refine ⟨?_, ?_⟩
      · refine mix_call (T2.out _) Tryd.func22 rfl rfl _ _ rfl rfl rfl ?_
        rintro e w3 ⟨rfl, hb⟩
        refine ⟨_, rfl, hb, ?_⟩
        have X_3 := bx (X_2.out.below hb X_2.out.lt)
        have Y_3 := bx (Y_2.out.below hb Y_2.out.lt)
        have P_3 := bx (P_2.out.below hb P_2.out.lt)
        have B_3 := bx (B_2.out.trans (hb.mono B_2.out.size))
        clear hb X_2 Y_2 P_2 B_2
        refine mix_run (run_allocB rfl) rfl ?_
        refine ⟨ext_alloc _ _, ?_⟩
        have hb := ext_alloc w3 (.cells (ints .u8 (byP 0 0)).toArray 36)
        have Q_4 : Bx (Has (w3.alloc (.cells (ints .u8 (byP 0 0)).toArray 36)) (w3.heap.size) (ints .u8 (byP 0 0))) := ⟨Has.new w3 (ints .u8 (byP 0 0)) 36⟩
        have LQ : Bx (w.heap.size ≤ w3.heap.size) := ⟨B_3.out.size⟩
        have NQX : Bx (w.heap.size ≠ w3.heap.size) := ⟨Nat.ne_of_lt X_3.out.lt⟩
        have NQY : Bx (w.heap.size + 1 ≠ w3.heap.size) := ⟨Nat.ne_of_lt Y_3.out.lt⟩
        have NQP : Bx (W.heap.size ≠ w3.heap.size) := ⟨Nat.ne_of_lt P_3.out.lt⟩
        have X_4 := bx (X_3.out.below hb X_3.out.lt)
        have Y_4 := bx (Y_3.out.below hb Y_3.out.lt)
        have P_4 := bx (P_3.out.below hb P_3.out.lt)
        have B_4 := bx (B_3.out.trans (hb.mono B_3.out.size))
        clear hb X_3 Y_3 P_3 B_3
        simp only [Act.put, List.setIfInBounds_toArray, List.set_cons_succ, List.set_cons_zero, alloc_size]
        repeat (first | (with_reducible refine wpQuiet_nil ?_) | (first | go_big_quiet_skip | (go_big_quiet_want; first | fail | (go_big_quiet_op; first | go_big_quiet_on | ((with_reducible refine ⟨_, fun _ _ => rfl, ?_⟩); go_big_quiet_on)))))
        go_wp2_with (first | ((with_reducible refine wpList_storeB rfl 36 _ _ rfl _ (ints .u8 (byl n)) _ ?_ ?_ P_4.out (byl_len0 n) Tryd.underlying36 ?_ (byl_ones n) ?_); rfl; rfl; exact cells_b32 _ 32; intro w5 hw hg hz0; have P_5 := bx hw; have X_5 := bx (X_4.out.grown hg (ne_som NPX.out)); have Y_5 := bx (Y_4.out.grown hg (ne_som NPY.out)); have Q_5 := bx (Q_4.out.grown hg (ne_som (Ne.symm NQP.out))); have B_5 := bx (B_4.out.grown hg B_4.out.size (fun k hk => by cases hk; exact LP.out)); clear hw hg hz0) | ((with_reducible refine wpList_storeB rfl 36 _ _ rfl _ (ints .u8 (byl m)) _ ?_ ?_ Q_5.out (byl_len0 m) Tryd.underlying36 ?_ (byl_ones m) ?_); rfl; rfl; exact cells_b32 _ 32; intro w6 hw hg hz0; have Q_6 := bx hw; have X_6 := bx (X_5.out.grown hg (ne_som NQX.out)); have Y_6 := bx (Y_5.out.grown hg (ne_som NQY.out)); have P_6 := bx (P_5.out.grown hg (ne_som NQP.out)); have B_6 := bx (B_5.out.grown hg B_5.out.size (fun k hk => by cases hk; exact LQ.out)); clear hw hg hz0))
        refine NoPanic.normal ?_
        go_wp2_with fail
        have CX := bx (fun (w1 : World) (h : Cls w6.heap.size w6 w1) => X_6.out.below h.out X_6.out.lt)
        have CY := bx (fun (w1 : World) (h : Cls w6.heap.size w6 w1) => Y_6.out.below h.out Y_6.out.lt)
        have CP := bx (fun (w1 : World) (h : Cls w6.heap.size w6 w1) => P_6.out.below h.out P_6.out.lt)
        have CQ := bx (fun (w1 : World) (h : Cls w6.heap.size w6 w1) => Q_6.out.below h.out Q_6.out.lt)
        have K0 := bx (fun (w1 : World) (h : Cls w6.heap.size w6 w1) => h.calls (Nat.le_refl _) (TR.out w1))
        have K1 := bx (fun (w1 : World) (h : Cls w6.heap.size w6 w1) => h.calls (Nat.le_refl _) (FB.out w1))
        have K2 := bx (fun (w1 : World) (h : Cls w6.heap.size w6 w1) => h.calls (Nat.le_refl _) (CM.out w1))
        have K3 := bx (fun (w1 : World) (h : Cls w6.heap.size w6 w1) => h.calls (Nat.le_refl _) (CR.out w1))
        have K4 := bx (fun (w1 : World) (h : Cls w6.heap.size w6 w1) => h.calls (Nat.le_refl _) (AW.out w1))
        refine region_cls w6.heap.size (by kernel_rfl) (by kernel_rfl) ?_
        repeat (first | go_big_quiet_skip | (go_big_quiet_want; first | ((with_reducible refine quiet_loadC 24 _ rfl _ (ints .u64 (wl n)) ?_ CX.out Tryd.underlying24 ?_ ?_ ?_); rfl; rfl; exact cells_wide _; go_big_quiet_on; (simp only [Act.put, List.setIfInBounds_toArray, List.set_cons_succ, List.set_cons_zero])) | ((with_reducible refine quiet_loadC 24 _ rfl _ (ints .u64 (wl m)) ?_ CY.out Tryd.underlying24 ?_ ?_ ?_); rfl; rfl; exact cells_wide _; go_big_quiet_on; (simp only [Act.put, List.setIfInBounds_toArray, List.set_cons_succ, List.set_cons_zero])) | ((with_reducible refine quiet_loadC 36 _ rfl _ (ints .u8 (byl n)) ?_ CP.out Tryd.underlying36 ?_ ?_ ?_); rfl; rfl; exact cells_b32 _ 32; go_big_quiet_on; (simp only [Act.put, List.setIfInBounds_toArray, List.set_cons_succ, List.set_cons_zero])) | ((with_reducible refine quiet_loadC 36 _ rfl _ (ints .u8 (byl m)) ?_ CQ.out Tryd.underlying36 ?_ ?_ ?_); rfl; rfl; exact cells_b32 _ 32; go_big_quiet_on; (simp only [Act.put, List.setIfInBounds_toArray, List.set_cons_succ, List.set_cons_zero])) | (go_big_quiet_op; first | go_big_quiet_on | ((with_reducible refine ⟨_, fun _ _ => rfl, ?_⟩); go_big_quiet_on) | (apply Exists.intro; refine ⟨fun w1 hw1 => ?_, ?_⟩; (first | (go_at_call 23; (with_reducible exact K0.out w1 hw1)) | (go_at_call 24; (with_reducible exact K1.out w1 hw1)) | (go_at_call 14; (with_reducible exact K2.out w1 hw1)) | (go_at_call 25; (with_reducible exact K3.out w1 hw1)) | (go_at_call 17; (with_reducible exact K4.out w1 hw1))); go_big_quiet_on))))
        refine wpQuiet_nil ?_
        intro w99 hw99
        have HW99 := bx hw99
        clear hw99
        go_wp2
        go_ret
        exact ⟨rfl, B_6.out.trans (HW99.out.out.mono B_6.out.size)⟩
      · refine mix_run (run_allocB rfl) rfl ?_
        refine ⟨ext_alloc _ _, ?_⟩
        have hb := ext_alloc w2 (.cells (ints .u8 (byP 0 0)).toArray 36)
        have Q_3 : Bx (Has (w2.alloc (.cells (ints .u8 (byP 0 0)).toArray 36)) (w2.heap.size) (ints .u8 (byP 0 0))) := ⟨Has.new w2 (ints .u8 (byP 0 0)) 36⟩
        have LQ : Bx (w.heap.size ≤ w2.heap.size) := ⟨B_2.out.size⟩
        have NQX : Bx (w.heap.size ≠ w2.heap.size) := ⟨Nat.ne_of_lt X_2.out.lt⟩
        have NQY : Bx (w.heap.size + 1 ≠ w2.heap.size) := ⟨Nat.ne_of_lt Y_2.out.lt⟩
        have NQP : Bx (W.heap.size ≠ w2.heap.size) := ⟨Nat.ne_of_lt P_2.out.lt⟩
        have X_3 := bx (X_2.out.below hb X_2.out.lt)
        have Y_3 := bx (Y_2.out.below hb Y_2.out.lt)
        have P_3 := bx (P_2.out.below hb P_2.out.lt)
        have B_3 := bx (B_2.out.trans (hb.mono B_2.out.size))
        clear hb X_2 Y_2 P_2 B_2
        refine mix_call (T2.out _) Tryd.func22 rfl rfl _ _ rfl rfl rfl ?_
        rintro e w4 ⟨rfl, hb⟩
        refine ⟨_, rfl, hb, ?_⟩
        have X_4 := bx (X_3.out.below hb X_3.out.lt)
        have Y_4 := bx (Y_3.out.below hb Y_3.out.lt)
        have P_4 := bx (P_3.out.below hb P_3.out.lt)
        have Q_4 := bx (Q_3.out.below hb Q_3.out.lt)
        have B_4 := bx (B_3.out.trans (hb.mono B_3.out.size))
        clear hb X_3 Y_3 P_3 Q_3 B_3
        simp only [Act.put, List.setIfInBounds_toArray, List.set_cons_succ, List.set_cons_zero, alloc_size]
        repeat (first | (with_reducible refine wpQuiet_nil ?_) | (first | go_big_quiet_skip | (go_big_quiet_want; first | fail | (go_big_quiet_op; first | go_big_quiet_on | ((with_reducible refine ⟨_, fun _ _ => rfl, ?_⟩); go_big_quiet_on)))))
        go_wp2_with (first | ((with_reducible refine wpList_storeB rfl 36 _ _ rfl _ (ints .u8 (byl n)) _ ?_ ?_ P_4.out (byl_len0 n) Tryd.underlying36 ?_ (byl_ones n) ?_); rfl; rfl; exact cells_b32 _ 32; intro w5 hw hg hz0; have P_5 := bx hw; have X_5 := bx (X_4.out.grown hg (ne_som NPX.out)); have Y_5 := bx (Y_4.out.grown hg (ne_som NPY.out)); have Q_5 := bx (Q_4.out.grown hg (ne_som (Ne.symm NQP.out))); have B_5 := bx (B_4.out.grown hg B_4.out.size (fun k hk => by cases hk; exact LP.out)); clear hw hg hz0) | ((with_reducible refine wpList_storeB rfl 36 _ _ rfl _ (ints .u8 (byl m)) _ ?_ ?_ Q_5.out (byl_len0 m) Tryd.underlying36 ?_ (byl_ones m) ?_); rfl; rfl; exact cells_b32 _ 32; intro w6 hw hg hz0; have Q_6 := bx hw; have X_6 := bx (X_5.out.grown hg (ne_som NQX.out)); have Y_6 := bx (Y_5.out.grown hg (ne_som NQY.out)); have P_6 := bx (P_5.out.grown hg (ne_som NQP.out)); have B_6 := bx (B_5.out.grown hg B_5.out.size (fun k hk => by cases hk; exact LQ.out)); clear hw hg hz0))
        refine NoPanic.normal ?_
        go_wp2_with fail
        have CX := bx (fun (w1 : World) (h : Cls w6.heap.size w6 w1) => X_6.out.below h.out X_6.out.lt)
        have CY := bx (fun (w1 : World) (h : Cls w6.heap.size w6 w1) => Y_6.out.below h.out Y_6.out.lt)
        have CP := bx (fun (w1 : World) (h : Cls w6.heap.size w6 w1) => P_6.out.below h.out P_6.out.lt)
        have CQ := bx (fun (w1 : World) (h : Cls w6.heap.size w6 w1) => Q_6.out.below h.out Q_6.out.lt)
        have K0 := bx (fun (w1 : World) (h : Cls w6.heap.size w6 w1) => h.calls (Nat.le_refl _) (TR.out w1))
        have K1 := bx (fun (w1 : World) (h : Cls w6.heap.size w6 w1) => h.calls (Nat.le_refl _) (FB.out w1))
        have K2 := bx (fun (w1 : World) (h : Cls w6.heap.size w6 w1) => h.calls (Nat.le_refl _) (CM.out w1))
        have K3 := bx (fun (w1 : World) (h : Cls w6.heap.size w6 w1) => h.calls (Nat.le_refl _) (CR.out w1))
        have K4 := bx (fun (w1 : World) (h : Cls w6.heap.size w6 w1) => h.calls (Nat.le_refl _) (AW.out w1))
        refine region_cls w6.heap.size (by kernel_rfl) (by kernel_rfl) ?_
        repeat (first | go_big_quiet_skip | (go_big_quiet_want; first | ((with_reducible refine quiet_loadC 24 _ rfl _ (ints .u64 (wl n)) ?_ CX.out Tryd.underlying24 ?_ ?_ ?_); rfl; rfl; exact cells_wide _; go_big_quiet_on; (simp only [Act.put, List.setIfInBounds_toArray, List.set_cons_succ, List.set_cons_zero])) | ((with_reducible refine quiet_loadC 24 _ rfl _ (ints .u64 (wl m)) ?_ CY.out Tryd.underlying24 ?_ ?_ ?_); rfl; rfl; exact cells_wide _; go_big_quiet_on; (simp only [Act.put, List.setIfInBounds_toArray, List.set_cons_succ, List.set_cons_zero])) | ((with_reducible refine quiet_loadC 36 _ rfl _ (ints .u8 (byl n)) ?_ CP.out Tryd.underlying36 ?_ ?_ ?_); rfl; rfl; exact cells_b32 _ 32; go_big_quiet_on; (simp only [Act.put, List.setIfInBounds_toArray, List.set_cons_succ, List.set_cons_zero])) | ((with_reducible refine quiet_loadC 36 _ rfl _ (ints .u8 (byl m)) ?_ CQ.out Tryd.underlying36 ?_ ?_ ?_); rfl; rfl; exact cells_b32 _ 32; go_big_quiet_on; (simp only [Act.put, List.setIfInBounds_toArray, List.set_cons_succ, List.set_cons_zero])) | (go_big_quiet_op; first | go_big_quiet_on | ((with_reducible refine ⟨_, fun _ _ => rfl, ?_⟩); go_big_quiet_on) | (apply Exists.intro; refine ⟨fun w1 hw1 => ?_, ?_⟩; (first | (go_at_call 23; (with_reducible exact K0.out w1 hw1)) | (go_at_call 24; (with_reducible exact K1.out w1 hw1)) | (go_at_call 14; (with_reducible exact K2.out w1 hw1)) | (go_at_call 25; (with_reducible exact K3.out w1 hw1)) | (go_at_call 17; (with_reducible exact K4.out w1 hw1))); go_big_quiet_on))))
        refine wpQuiet_nil ?_
        intro w99 hw99
        have HW99 := bx hw99
        clear hw99
        go_wp2
        go_ret
        exact ⟨rfl, B_6.out.trans (HW99.out.out.mono B_6.out.size)⟩
    · refine mix_run (run_allocB rfl) rfl ?_
      refine ⟨ext_alloc _ _, ?_⟩
      have hb := ext_alloc (W.alloc (.cells (ints .u8 (byP 0 0)).toArray 36)) (.cells (ints .u8 (byP 0 0)).toArray 36)
      have Q_2 : Bx (Has ((W.alloc (.cells (ints .u8 (byP 0 0)).toArray 36)).alloc (.cells (ints .u8 (byP 0 0)).toArray 36)) (W.heap.size + 1) (ints .u8 (byP 0 0))) := ⟨by have := Has.new (W.alloc (.cells (ints .u8 (byP 0 0)).toArray 36)) (ints .u8 (byP 0 0)) 36; rw [alloc_size] at this; exact this⟩
      have LQ : Bx (w.heap.size ≤ W.heap.size + 1) := ⟨by have := B_1.out.size; rw [alloc_size] at this; exact this⟩
      have NQX : Bx (w.heap.size ≠ W.heap.size + 1) := ⟨by have := Nat.ne_of_lt X_1.out.lt; rw [alloc_size] at this; exact this⟩
      have NQY : Bx (w.heap.size + 1 ≠ W.heap.size + 1) := ⟨by have := Nat.ne_of_lt Y_1.out.lt; rw [alloc_size] at this; exact this⟩
      have NQP : Bx (W.heap.size ≠ W.heap.size + 1) := ⟨by have := Nat.ne_of_lt P_1.out.lt; rw [alloc_size] at this; exact this⟩
      have X_2 := bx (X_1.out.below hb X_1.out.lt)
      have Y_2 := bx (Y_1.out.below hb Y_1.out.lt)
      have P_2 := bx (P_1.out.below hb P_1.out.lt)
      have B_2 := bx (B_1.out.trans (hb.mono B_1.out.size))
      clear hb X_1 Y_1 P_1 B_1
      refine mix_call (T1.out _) Tryd.func22 rfl rfl _ _ rfl rfl rfl ?_
      rintro e w3 ⟨rfl, hb⟩
      refine ⟨_, rfl, hb, ?_⟩
      have X_3 := bx (X_2.out.below hb X_2.out.lt)
      have Y_3 := bx (Y_2.out.below hb Y_2.out.lt)
      have P_3 := bx (P_2.out.below hb P_2.out.lt)
      have Q_3 := bx (Q_2.out.below hb Q_2.out.lt)
      have B_3 := bx (B_2.out.trans (hb.mono B_2.out.size))
      clear hb X_2 Y_2 P_2 Q_2 B_2
      refine mix_call (T2.out _) Tryd.func22 rfl rfl _ _ rfl rfl rfl ?_
      rintro e w4 ⟨rfl, hb⟩
      refine ⟨_, rfl, hb, ?_⟩
      have X_4 := bx (X_3.out.below hb X_3.out.lt)
      have Y_4 := bx (Y_3.out.below hb Y_3.out.lt)
      have P_4 := bx (P_3.out.below hb P_3.out.lt)
      have Q_4 := bx (Q_3.out.below hb Q_3.out.lt)
      have B_4 := bx (B_3.out.trans (hb.mono B_3.out.size))
      clear hb X_3 Y_3 P_3 Q_3 B_3
      simp only [Act.put, List.setIfInBounds_toArray, List.set_cons_succ, List.set_cons_zero, alloc_size]
      repeat (first | (with_reducible refine wpQuiet_nil ?_) | (first | go_big_quiet_skip | (go_big_quiet_want; first | fail | (go_big_quiet_op; first | go_big_quiet_on | ((with_reducible refine ⟨_, fun _ _ => rfl, ?_⟩); go_big_quiet_on)))))
      go_wp2_with (first | ((with_reducible refine wpList_storeB rfl 36 _ _ rfl _ (ints .u8 (byl n)) _ ?_ ?_ P_4.out (byl_len0 n) Tryd.underlying36 ?_ (byl_ones n) ?_); rfl; rfl; exact cells_b32 _ 32; intro w5 hw hg hz0; have P_5 := bx hw; have X_5 := bx (X_4.out.grown hg (ne_som NPX.out)); have Y_5 := bx (Y_4.out.grown hg (ne_som NPY.out)); have Q_5 := bx (Q_4.out.grown hg (ne_som (Ne.symm NQP.out))); have B_5 := bx (B_4.out.grown hg B_4.out.size (fun k hk => by cases hk; exact LP.out)); clear hw hg hz0) | ((with_reducible refine wpList_storeB rfl 36 _ _ rfl _ (ints .u8 (byl m)) _ ?_ ?_ Q_5.out (byl_len0 m) Tryd.underlying36 ?_ (byl_ones m) ?_); rfl; rfl; exact cells_b32 _ 32; intro w6 hw hg hz0; have Q_6 := bx hw; have X_6 := bx (X_5.out.grown hg (ne_som NQX.out)); have Y_6 := bx (Y_5.out.grown hg (ne_som NQY.out)); have P_6 := bx (P_5.out.grown hg (ne_som NQP.out)); have B_6 := bx (B_5.out.grown hg B_5.out.size (fun k hk => by cases hk; exact LQ.out)); clear hw hg hz0))
      refine NoPanic.normal ?_
      go_wp2_with fail
      have CX := bx (fun (w1 : World) (h : Cls w6.heap.size w6 w1) => X_6.out.below h.out X_6.out.lt)
      have CY := bx (fun (w1 : World) (h : Cls w6.heap.size w6 w1) => Y_6.out.below h.out Y_6.out.lt)
      have CP := bx (fun (w1 : World) (h : Cls w6.heap.size w6 w1) => P_6.out.below h.out P_6.out.lt)
      have CQ := bx (fun (w1 : World) (h : Cls w6.heap.size w6 w1) => Q_6.out.below h.out Q_6.out.lt)
      have K0 := bx (fun (w1 : World) (h : Cls w6.heap.size w6 w1) => h.calls (Nat.le_refl _) (TR.out w1))
      have K1 := bx (fun (w1 : World) (h : Cls w6.heap.size w6 w1) => h.calls (Nat.le_refl _) (FB.out w1))
      have K2 := bx (fun (w1 : World) (h : Cls w6.heap.size w6 w1) => h.calls (Nat.le_refl _) (CM.out w1))
      have K3 := bx (fun (w1 : World) (h : Cls w6.heap.size w6 w1) => h.calls (Nat.le_refl _) (CR.out w1))
      have K4 := bx (fun (w1 : World) (h : Cls w6.heap.size w6 w1) => h.calls (Nat.le_refl _) (AW.out w1))
      refine region_cls w6.heap.size (by kernel_rfl) (by kernel_rfl) ?_
      repeat (first | go_big_quiet_skip | (go_big_quiet_want; first | ((with_reducible refine quiet_loadC 24 _ rfl _ (ints .u64 (wl n)) ?_ CX.out Tryd.underlying24 ?_ ?_ ?_); rfl; rfl; exact cells_wide _; go_big_quiet_on; (simp only [Act.put, List.setIfInBounds_toArray, List.set_cons_succ, List.set_cons_zero])) | ((with_reducible refine quiet_loadC 24 _ rfl _ (ints .u64 (wl m)) ?_ CY.out Tryd.underlying24 ?_ ?_ ?_); rfl; rfl; exact cells_wide _; go_big_quiet_on; (simp only [Act.put, List.setIfInBounds_toArray, List.set_cons_succ, List.set_cons_zero])) | ((with_reducible refine quiet_loadC 36 _ rfl _ (ints .u8 (byl n)) ?_ CP.out Tryd.underlying36 ?_ ?_ ?_); rfl; rfl; exact cells_b32 _ 32; go_big_quiet_on; (simp only [Act.put, List.setIfInBounds_toArray, List.set_cons_succ, List.set_cons_zero])) | ((with_reducible refine quiet_loadC 36 _ rfl _ (ints .u8 (byl m)) ?_ CQ.out Tryd.underlying36 ?_ ?_ ?_); rfl; rfl; exact cells_b32 _ 32; go_big_quiet_on; (simp only [Act.put, List.setIfInBounds_toArray, List.set_cons_succ, List.set_cons_zero])) | (go_big_quiet_op; first | go_big_quiet_on | ((with_reducible refine ⟨_, fun _ _ => rfl, ?_⟩); go_big_quiet_on) | (apply Exists.intro; refine ⟨fun w1 hw1 => ?_, ?_⟩; (first | (go_at_call 23; (with_reducible exact K0.out w1 hw1)) | (go_at_call 24; (with_reducible exact K1.out w1 hw1)) | (go_at_call 14; (with_reducible exact K2.out w1 hw1)) | (go_at_call 25; (with_reducible exact K3.out w1 hw1)) | (go_at_call 17; (with_reducible exact K4.out w1 hw1))); go_big_quiet_on))))
      refine wpQuiet_nil ?_
      intro w99 hw99
      have HW99 := bx hw99
      clear hw99
      go_wp2
      go_ret
      exact ⟨rfl, B_6.out.trans (HW99.out.out.mono B_6.out.size)⟩
  · refine mix_run (run_allocB rfl) rfl ?_
    refine ⟨ext_alloc _ _, ?_⟩
    have hb := ext_alloc W (.cells (ints .u8 (byP 0 0)).toArray 36)
    have Q_1 : Bx (Has (W.alloc (.cells (ints .u8 (byP 0 0)).toArray 36)) (W.heap.size) (ints .u8 (byP 0 0))) := ⟨Has.new W (ints .u8 (byP 0 0)) 36⟩
    have LQ : Bx (w.heap.size ≤ W.heap.size) := ⟨B_0.out.size⟩
    have NQX : Bx (w.heap.size ≠ W.heap.size) := ⟨Nat.ne_of_lt X_0.out.lt⟩
    have NQY : Bx (w.heap.size + 1 ≠ W.heap.size) := ⟨Nat.ne_of_lt Y_0.out.lt⟩
    have X_1 := bx (X_0.out.below hb X_0.out.lt)
    have Y_1 := bx (Y_0.out.below hb Y_0.out.lt)
    have B_1 := bx (B_0.out.trans (hb.mono B_0.out.size))
    clear hb X_0 Y_0 B_0
    refine ⟨?_, ?_⟩
    · refine mix_call (T1.out _) Tryd.func22 rfl rfl _ _ rfl rfl rfl ?_
      rintro e w2 ⟨rfl, hb⟩
      refine ⟨_, rfl, hb, ?_⟩
      have X_2 := bx (X_1.out.below hb X_1.out.lt)
      have Y_2 := bx (Y_1.out.below hb Y_1.out.lt)
      have Q_2 := bx (Q_1.out.below hb Q_1.out.lt)
      have B_2 := bx (B_1.out.trans (hb.mono B_1.out.size))
      clear hb X_1 Y_1 Q_1 B_1
      refine ⟨?_, ?_⟩
      · refine mix_call (T2.out _) Tryd.func22 rfl rfl _ _ rfl rfl rfl ?_
        rintro e w3 ⟨rfl, hb⟩
        refine ⟨_, rfl, hb, ?_⟩
        have X_3 := bx (X_2.out.below hb X_2.out.lt)
        have Y_3 := bx (Y_2.out.below hb Y_2.out.lt)
        have Q_3 := bx (Q_2.out.below hb Q_2.out.lt)
        have B_3 := bx (B_2.out.trans (hb.mono B_2.out.size))
        clear hb X_2 Y_2 Q_2 B_2
        refine mix_run (run_allocB rfl) rfl ?_
        refine ⟨ext_alloc _ _, ?_⟩
        have hb := ext_alloc w3 (.cells (ints .u8 (byP 0 0)).toArray 36)
        have P_4 : Bx (Has (w3.alloc (.cells (ints .u8 (byP 0 0)).toArray 36)) (w3.heap.size) (ints .u8 (byP 0 0))) := ⟨Has.new w3 (ints .u8 (byP 0 0)) 36⟩
        have LP : Bx (w.heap.size ≤ w3.heap.size) := ⟨B_3.out.size⟩
        have NPX : Bx (w.heap.size ≠ w3.heap.size) := ⟨Nat.ne_of_lt X_3.out.lt⟩
        have NPY : Bx (w.heap.size + 1 ≠ w3.heap.size) := ⟨Nat.ne_of_lt Y_3.out.lt⟩
        have NPQ : Bx (W.heap.size ≠ w3.heap.size) := ⟨Nat.ne_of_lt Q_3.out.lt⟩
        have X_4 := bx (X_3.out.below hb X_3.out.lt)
        have Y_4 := bx (Y_3.out.below hb Y_3.out.lt)
        have Q_4 := bx (Q_3.out.below hb Q_3.out.lt)
        have B_4 := bx (B_3.out.trans (hb.mono B_3.out.size))
        clear hb X_3 Y_3 Q_3 B_3
        simp only [Act.put, List.setIfInBounds_toArray, List.set_cons_succ, List.set_cons_zero, alloc_size]
        repeat (first | (with_reducible refine wpQuiet_nil ?_) | (first | go_big_quiet_skip | (go_big_quiet_want; first | fail | (go_big_quiet_op; first | go_big_quiet_on | ((with_reducible refine ⟨_, fun _ _ => rfl, ?_⟩); go_big_quiet_on)))))
        go_wp2_with (first | ((with_reducible refine wpList_storeB rfl 36 _ _ rfl _ (ints .u8 (byl n)) _ ?_ ?_ P_4.out (byl_len0 n) Tryd.underlying36 ?_ (byl_ones n) ?_); rfl; rfl; exact cells_b32 _ 32; intro w5 hw hg hz0; have P_5 := bx hw; have X_5 := bx (X_4.out.grown hg (ne_som NPX.out)); have Y_5 := bx (Y_4.out.grown hg (ne_som NPY.out)); have Q_5 := bx (Q_4.out.grown hg (ne_som NPQ.out)); have B_5 := bx (B_4.out.grown hg B_4.out.size (fun k hk => by cases hk; exact LP.out)); clear hw hg hz0) | ((with_reducible refine wpList_storeB rfl 36 _ _ rfl _ (ints .u8 (byl m)) _ ?_ ?_ Q_5.out (byl_len0 m) Tryd.underlying36 ?_ (byl_ones m) ?_); rfl; rfl; exact cells_b32 _ 32; intro w6 hw hg hz0; have Q_6 := bx hw; have X_6 := bx (X_5.out.grown hg (ne_som NQX.out)); have Y_6 := bx (Y_5.out.grown hg (ne_som NQY.out)); have P_6 := bx (P_5.out.grown hg (ne_som (Ne.symm NPQ.out))); have B_6 := bx (B_5.out.grown hg B_5.out.size (fun k hk => by cases hk; exact LQ.out)); clear hw hg hz0))
        refine NoPanic.normal ?_
        go_wp2_with fail
        have CX := bx (fun (w1 : World) (h : Cls w6.heap.size w6 w1) => X_6.out.below h.out X_6.out.lt)
        have CY := bx (fun (w1 : World) (h : Cls w6.heap.size w6 w1) => Y_6.out.below h.out Y_6.out.lt)
        have CQ := bx (fun (w1 : World) (h : Cls w6.heap.size w6 w1) => Q_6.out.below h.out Q_6.out.lt)
        have CP := bx (fun (w1 : World) (h : Cls w6.heap.size w6 w1) => P_6.out.below h.out P_6.out.lt)
        have K0 := bx (fun (w1 : World) (h : Cls w6.heap.size w6 w1) => h.calls (Nat.le_refl _) (TR.out w1))
        have K1 := bx (fun (w1 : World) (h : Cls w6.heap.size w6 w1) => h.calls (Nat.le_refl _) (FB.out w1))
        have K2 := bx (fun (w1 : World) (h : Cls w6.heap.size w6 w1) => h.calls (Nat.le_refl _) (CM.out w1))
        have K3 := bx (fun (w1 : World) (h : Cls w6.heap.size w6 w1) => h.calls (Nat.le_refl _) (CR.out w1))
        have K4 := bx (fun (w1 : World) (h : Cls w6.heap.size w6 w1) => h.calls (Nat.le_refl _) (AW.out w1))
        refine region_cls w6.heap.size (by kernel_rfl) (by kernel_rfl) ?_
        repeat (first | go_big_quiet_skip | (go_big_quiet_want; first | ((with_reducible refine quiet_loadC 24 _ rfl _ (ints .u64 (wl n)) ?_ CX.out Tryd.underlying24 ?_ ?_ ?_); rfl; rfl; exact cells_wide _; go_big_quiet_on; (simp only [Act.put, List.setIfInBounds_toArray, List.set_cons_succ, List.set_cons_zero])) | ((with_reducible refine quiet_loadC 24 _ rfl _ (ints .u64 (wl m)) ?_ CY.out Tryd.underlying24 ?_ ?_ ?_); rfl; rfl; exact cells_wide _; go_big_quiet_on; (simp only [Act.put, List.setIfInBounds_toArray, List.set_cons_succ, List.set_cons_zero])) | ((with_reducible refine quiet_loadC 36 _ rfl _ (ints .u8 (byl m)) ?_ CQ.out Tryd.underlying36 ?_ ?_ ?_); rfl; rfl; exact cells_b32 _ 32; go_big_quiet_on; (simp only [Act.put, List.setIfInBounds_toArray, List.set_cons_succ, List.set_cons_zero])) | ((with_reducible refine quiet_loadC 36 _ rfl _ (ints .u8 (byl n)) ?_ CP.out Tryd.underlying36 ?_ ?_ ?_); rfl; rfl; exact cells_b32 _ 32; go_big_quiet_on; (simp only [Act.put, List.setIfInBounds_toArray, List.set_cons_succ, List.set_cons_zero])) | (go_big_quiet_op; first | go_big_quiet_on | ((with_reducible refine ⟨_, fun _ _ => rfl, ?_⟩); go_big_quiet_on) | (apply Exists.intro; refine ⟨fun w1 hw1 => ?_, ?_⟩; (first | (go_at_call 23; (with_reducible exact K0.out w1 hw1)) | (go_at_call 24; (with_reducible exact K1.out w1 hw1)) | (go_at_call 14; (with_reducible exact K2.out w1 hw1)) | (go_at_call 25; (with_reducible exact K3.out w1 hw1)) | (go_at_call 17; (with_reducible exact K4.out w1 hw1))); go_big_quiet_on))))
        refine wpQuiet_nil ?_
        intro w99 hw99
        have HW99 := bx hw99
        clear hw99
        go_wp2
        go_ret
        exact ⟨rfl, B_6.out.trans (HW99.out.out.mono B_6.out.size)⟩
      · refine mix_run (run_allocB rfl) rfl ?_
        refine ⟨ext_alloc _ _, ?_⟩
        have hb := ext_alloc w2 (.cells (ints .u8 (byP 0 0)).toArray 36)
        have P_3 : Bx (Has (w2.alloc (.cells (ints .u8 (byP 0 0)).toArray 36)) (w2.heap.size) (ints .u8 (byP 0 0))) := ⟨Has.new w2 (ints .u8 (byP 0 0)) 36⟩
        have LP : Bx (w.heap.size ≤ w2.heap.size) := ⟨B_2.out.size⟩
        have NPX : Bx (w.heap.size ≠ w2.heap.size) := ⟨Nat.ne_of_lt X_2.out.lt⟩
        have NPY : Bx (w.heap.size + 1 ≠ w2.heap.size) := ⟨Nat.ne_of_lt Y_2.out.lt⟩
        have NPQ : Bx (W.heap.size ≠ w2.heap.size) := ⟨Nat.ne_of_lt Q_2.out.lt⟩
        have X_3 := bx (X_2.out.below hb X_2.out.lt)
        have Y_3 := bx (Y_2.out.below hb Y_2.out.lt)
        have Q_3 := bx (Q_2.out.below hb Q_2.out.lt)
        have B_3 := bx (B_2.out.trans (hb.mono B_2.out.size))
        clear hb X_2 Y_2 Q_2 B_2
        refine mix_call (T2.out _) Tryd.func22 rfl rfl _ _ rfl rfl rfl ?_
        rintro e w4 ⟨rfl, hb⟩
        refine ⟨_, rfl, hb, ?_⟩
        have X_4 := bx (X_3.out.below hb X_3.out.lt)
        have Y_4 := bx (Y_3.out.below hb Y_3.out.lt)
        have Q_4 := bx (Q_3.out.below hb Q_3.out.lt)
        have P_4 := bx (P_3.out.below hb P_3.out.lt)
        have B_4 := bx (B_3.out.trans (hb.mono B_3.out.size))
        clear hb X_3 Y_3 Q_3 P_3 B_3
        simp only [Act.put, List.setIfInBounds_toArray, List.set_cons_succ, List.set_cons_zero, alloc_size]
        repeat (first | (with_reducible refine wpQuiet_nil ?_) | (first | go_big_quiet_skip | (go_big_quiet_want; first | fail | (go_big_quiet_op; first | go_big_quiet_on | ((with_reducible refine ⟨_, fun _ _ => rfl, ?_⟩); go_big_quiet_on)))))
        go_wp2_with (first | ((with_reducible refine wpList_storeB rfl 36 _ _ rfl _ (ints .u8 (byl n)) _ ?_ ?_ P_4.out (byl_len0 n) Tryd.underlying36 ?_ (byl_ones n) ?_); rfl; rfl; exact cells_b32 _ 32; intro w5 hw hg hz0; have P_5 := bx hw; have X_5 := bx (X_4.out.grown hg (ne_som NPX.out)); have Y_5 := bx (Y_4.out.grown hg (ne_som NPY.out)); have Q_5 := bx (Q_4.out.grown hg (ne_som NPQ.out)); have B_5 := bx (B_4.out.grown hg B_4.out.size (fun k hk => by cases hk; exact LP.out)); clear hw hg hz0) | ((with_reducible refine wpList_storeB rfl 36 _ _ rfl _ (ints .u8 (byl m)) _ ?_ ?_ Q_5.out (byl_len0 m) Tryd.underlying36 ?_ (byl_ones m) ?_); rfl; rfl; exact cells_b32 _ 32; intro w6 hw hg hz0; have Q_6 := bx hw; have X_6 := bx (X_5.out.grown hg (ne_som NQX.out)); have Y_6 := bx (Y_5.out.grown hg (ne_som NQY.out)); have P_6 := bx (P_5.out.grown hg (ne_som (Ne.symm NPQ.out))); have B_6 := bx (B_5.out.grown hg B_5.out.size (fun k hk => by cases hk; exact LQ.out)); clear hw hg hz0))
        refine NoPanic.normal ?_
        go_wp2_with fail
        have CX := bx (fun (w1 : World) (h : Cls w6.heap.size w6 w1) => X_6.out.below h.out X_6.out.lt)
        have CY := bx (fun (w1 : World) (h : Cls w6.heap.size w6 w1) => Y_6.out.below h.out Y_6.out.lt)
        have CQ := bx (fun (w1 : World) (h : Cls w6.heap.size w6 w1) => Q_6.out.below h.out Q_6.out.lt)
        have CP := bx (fun (w1 : World) (h : Cls w6.heap.size w6 w1) => P_6.out.below h.out P_6.out.lt)
        have K0 := bx (fun (w1 : World) (h : Cls w6.heap.size w6 w1) => h.calls (Nat.le_refl _) (TR.out w1))
        have K1 := bx (fun (w1 : World) (h : Cls w6.heap.size w6 w1) => h.calls (Nat.le_refl _) (FB.out w1))
        have K2 := bx (fun (w1 : World) (h : Cls w6.heap.size w6 w1) => h.calls (Nat.le_refl _) (CM.out w1))
        have K3 := bx (fun (w1 : World) (h : Cls w6.heap.size w6 w1) => h.calls (Nat.le_refl _) (CR.out w1))
        have K4 := bx (fun (w1 : World) (h : Cls w6.heap.size w6 w1) => h.calls (Nat.le_refl _) (AW.out w1))
        refine region_cls w6.heap.size (by kernel_rfl) (by kernel_rfl) ?_
        repeat (first | go_big_quiet_skip | (go_big_quiet_want; first | ((with_reducible refine quiet_loadC 24 _ rfl _ (ints .u64 (wl n)) ?_ CX.out Tryd.underlying24 ?_ ?_ ?_); rfl; rfl; exact cells_wide _; go_big_quiet_on; (simp only [Act.put, List.setIfInBounds_toArray, List.set_cons_succ, List.set_cons_zero])) | ((with_reducible refine quiet_loadC 24 _ rfl _ (ints .u64 (wl m)) ?_ CY.out Tryd.underlying24 ?_ ?_ ?_); rfl; rfl; exact cells_wide _; go_big_quiet_on; (simp only [Act.put, List.setIfInBounds_toArray, List.set_cons_succ, List.set_cons_zero])) | ((with_reducible refine quiet_loadC 36 _ rfl _ (ints .u8 (byl m)) ?_ CQ.out Tryd.underlying36 ?_ ?_ ?_); rfl; rfl; exact cells_b32 _ 32; go_big_quiet_on; (simp only [Act.put, List.setIfInBounds_toArray, List.set_cons_succ, List.set_cons_zero])) | ((with_reducible refine quiet_loadC 36 _ rfl _ (ints .u8 (byl n)) ?_ CP.out Tryd.underlying36 ?_ ?_ ?_); rfl; rfl; exact cells_b32 _ 32; go_big_quiet_on; (simp only [Act.put, List.setIfInBounds_toArray, List.set_cons_succ, List.set_cons_zero])) | (go_big_quiet_op; first | go_big_quiet_on | ((with_reducible refine ⟨_, fun _ _ => rfl, ?_⟩); go_big_quiet_on) | (apply Exists.intro; refine ⟨fun w1 hw1 => ?_, ?_⟩; (first | (go_at_call 23; (with_reducible exact K0.out w1 hw1)) | (go_at_call 24; (with_reducible exact K1.out w1 hw1)) | (go_at_call 14; (with_reducible exact K2.out w1 hw1)) | (go_at_call 25; (with_reducible exact K3.out w1 hw1)) | (go_at_call 17; (with_reducible exact K4.out w1 hw1))); go_big_quiet_on))))
        refine wpQuiet_nil ?_
        intro w99 hw99
        have HW99 := bx hw99
        clear hw99
        go_wp2
        go_ret
        exact ⟨rfl, B_6.out.trans (HW99.out.out.mono B_6.out.size)⟩
    · refine mix_run (run_allocB rfl) rfl ?_
      refine ⟨ext_alloc _ _, ?_⟩
      have hb := ext_alloc (W.alloc (.cells (ints .u8 (byP 0 0)).toArray 36)) (.cells (ints .u8 (byP 0 0)).toArray 36)
      have P_2 : Bx (Has ((W.alloc (.cells (ints .u8 (byP 0 0)).toArray 36)).alloc (.cells (ints .u8 (byP 0 0)).toArray 36)) (W.heap.size + 1) (ints .u8 (byP 0 0))) := ⟨by have := Has.new (W.alloc (.cells (ints .u8 (byP 0 0)).toArray 36)) (ints .u8 (byP 0 0)) 36; rw [alloc_size] at this; exact this⟩
      have LP : Bx (w.heap.size ≤ W.heap.size + 1) := ⟨by have := B_1.out.size; rw [alloc_size] at this; exact this⟩
      have NPX : Bx (w.heap.size ≠ W.heap.size + 1) := ⟨by have := Nat.ne_of_lt X_1.out.lt; rw [alloc_size] at this; exact this⟩
      have NPY : Bx (w.heap.size + 1 ≠ W.heap.size + 1) := ⟨by have := Nat.ne_of_lt Y_1.out.lt; rw [alloc_size] at this; exact this⟩
      have NPQ : Bx (W.heap.size ≠ W.heap.size + 1) := ⟨by have := Nat.ne_of_lt Q_1.out.lt; rw [alloc_size] at this; exact this⟩
      have X_2 := bx (X_1.out.below hb X_1.out.lt)
      have Y_2 := bx (Y_1.out.below hb Y_1.out.lt)
      have Q_2 := bx (Q_1.out.below hb Q_1.out.lt)
      have B_2 := bx (B_1.out.trans (hb.mono B_1.out.size))
      clear hb X_1 Y_1 Q_1 B_1
      refine mix_call (T1.out _) Tryd.func22 rfl rfl _ _ rfl rfl rfl ?_
      rintro e w3 ⟨rfl, hb⟩
      refine ⟨_, rfl, hb, ?_⟩
      have X_3 := bx (X_2.out.below hb X_2.out.lt)
      have Y_3 := bx (Y_2.out.below hb Y_2.out.lt)
      have Q_3 := bx (Q_2.out.below hb Q_2.out.lt)
      have P_3 := bx (P_2.out.below hb P_2.out.lt)
      have B_3 := bx (B_2.out.trans (hb.mono B_2.out.size))
      clear hb X_2 Y_2 Q_2 P_2 B_2
      refine mix_call (T2.out _) Tryd.func22 rfl rfl _ _ rfl rfl rfl ?_
      rintro e w4 ⟨rfl, hb⟩
      refine ⟨_, rfl, hb, ?_⟩
      have X_4 := bx (X_3.out.below hb X_3.out.lt)
      have Y_4 := bx (Y_3.out.below hb Y_3.out.lt)
      have Q_4 := bx (Q_3.out.below hb Q_3.out.lt)
      have P_4 := bx (P_3.out.below hb P_3.out.lt)
      have B_4 := bx (B_3.out.trans (hb.mono B_3.out.size))
      clear hb X_3 Y_3 Q_3 P_3 B_3
      simp only [Act.put, List.setIfInBounds_toArray, List.set_cons_succ, List.set_cons_zero, alloc_size]
      repeat (first | (with_reducible refine wpQuiet_nil ?_) | (first | go_big_quiet_skip | (go_big_quiet_want; first | fail | (go_big_quiet_op; first | go_big_quiet_on | ((with_reducible refine ⟨_, fun _ _ => rfl, ?_⟩); go_big_quiet_on)))))
      go_wp2_with (first | ((with_reducible refine wpList_storeB rfl 36 _ _ rfl _ (ints .u8 (byl n)) _ ?_ ?_ P_4.out (byl_len0 n) Tryd.underlying36 ?_ (byl_ones n) ?_); rfl; rfl; exact cells_b32 _ 32; intro w5 hw hg hz0; have P_5 := bx hw; have X_5 := bx (X_4.out.grown hg (ne_som NPX.out)); have Y_5 := bx (Y_4.out.grown hg (ne_som NPY.out)); have Q_5 := bx (Q_4.out.grown hg (ne_som NPQ.out)); have B_5 := bx (B_4.out.grown hg B_4.out.size (fun k hk => by cases hk; exact LP.out)); clear hw hg hz0) | ((with_reducible refine wpList_storeB rfl 36 _ _ rfl _ (ints .u8 (byl m)) _ ?_ ?_ Q_5.out (byl_len0 m) Tryd.underlying36 ?_ (byl_ones m) ?_); rfl; rfl; exact cells_b32 _ 32; intro w6 hw hg hz0; have Q_6 := bx hw; have X_6 := bx (X_5.out.grown hg (ne_som NQX.out)); have Y_6 := bx (Y_5.out.grown hg (ne_som NQY.out)); have P_6 := bx (P_5.out.grown hg (ne_som (Ne.symm NPQ.out))); have B_6 := bx (B_5.out.grown hg B_5.out.size (fun k hk => by cases hk; exact LQ.out)); clear hw hg hz0))
      refine NoPanic.normal ?_
      go_wp2_with fail
      have CX := bx (fun (w1 : World) (h : Cls w6.heap.size w6 w1) => X_6.out.below h.out X_6.out.lt)
      have CY := bx (fun (w1 : World) (h : Cls w6.heap.size w6 w1) => Y_6.out.below h.out Y_6.out.lt)
      have CQ := bx (fun (w1 : World) (h : Cls w6.heap.size w6 w1) => Q_6.out.below h.out Q_6.out.lt)
      have CP := bx (fun (w1 : World) (h : Cls w6.heap.size w6 w1) => P_6.out.below h.out P_6.out.lt)
      have K0 := bx (fun (w1 : World) (h : Cls w6.heap.size w6 w1) => h.calls (Nat.le_refl _) (TR.out w1))
      have K1 := bx (fun (w1 : World) (h : Cls w6.heap.size w6 w1) => h.calls (Nat.le_refl _) (FB.out w1))
      have K2 := bx (fun (w1 : World) (h : Cls w6.heap.size w6 w1) => h.calls (Nat.le_refl _) (CM.out w1))
      have K3 := bx (fun (w1 : World) (h : Cls w6.heap.size w6 w1) => h.calls (Nat.le_refl _) (CR.out w1))
      have K4 := bx (fun (w1 : World) (h : Cls w6.heap.size w6 w1) => h.calls (Nat.le_refl _) (AW.out w1))
      refine region_cls w6.heap.size (by kernel_rfl) (by kernel_rfl) ?_
      repeat (first | go_big_quiet_skip | (go_big_quiet_want; first | ((with_reducible refine quiet_loadC 24 _ rfl _ (ints .u64 (wl n)) ?_ CX.out Tryd.underlying24 ?_ ?_ ?_); rfl; rfl; exact cells_wide _; go_big_quiet_on; (simp only [Act.put, List.setIfInBounds_toArray, List.set_cons_succ, List.set_cons_zero])) | ((with_reducible refine quiet_loadC 24 _ rfl _ (ints .u64 (wl m)) ?_ CY.out Tryd.underlying24 ?_ ?_ ?_); rfl; rfl; exact cells_wide _; go_big_quiet_on; (simp only [Act.put, List.setIfInBounds_toArray, List.set_cons_succ, List.set_cons_zero])) | ((with_reducible refine quiet_loadC 36 _ rfl _ (ints .u8 (byl m)) ?_ CQ.out Tryd.underlying36 ?_ ?_ ?_); rfl; rfl; exact cells_b32 _ 32; go_big_quiet_on; (simp only [Act.put, List.setIfInBounds_toArray, List.set_cons_succ, List.set_cons_zero])) | ((with_reducible refine quiet_loadC 36 _ rfl _ (ints .u8 (byl n)) ?_ CP.out Tryd.underlying36 ?_ ?_ ?_); rfl; rfl; exact cells_b32 _ 32; go_big_quiet_on; (simp only [Act.put, List.setIfInBounds_toArray, List.set_cons_succ, List.set_cons_zero])) | (go_big_quiet_op; first | go_big_quiet_on | ((with_reducible refine ⟨_, fun _ _ => rfl, ?_⟩); go_big_quiet_on) | (apply Exists.intro; refine ⟨fun w1 hw1 => ?_, ?_⟩; (first | (go_at_call 23; (with_reducible exact K0.out w1 hw1)) | (go_at_call 24; (with_reducible exact K1.out w1 hw1)) | (go_at_call 14; (with_reducible exact K2.out w1 hw1)) | (go_at_call 25; (with_reducible exact K3.out w1 hw1)) | (go_at_call 17; (with_reducible exact K4.out w1 hw1))); go_big_quiet_on))))
      refine wpQuiet_nil ?_
      intro w99 hw99
      have HW99 := bx hw99
      clear hw99
      go_wp2
      go_ret
      exact ⟨rfl, B_6.out.trans (HW99.out.out.mono B_6.out.size)⟩
theorem wideBytes_walk (a b : List Int) (w : World) (la : a.length = 4) (fa : Fit .u64 a) (lb : b.length = 4) (fb : Fit .u64 b) :
    Calls Tryd.prog 6 #[.agg (ints .u64 a).toArray, .agg (ints .u64 b).toArray] w fun e w' => e = .returned (.bool true) ∧ Below w.heap.size w w' := by
  obtain ⟨n, hn, rfl⟩ := wide_of la fa
  obtain ⟨m, hm, rfl⟩ := wide_of lb fb
  exact wideBytes_go n m hn hm w
end Go.Proofs.YtpgpplpddjjchaaDoor
