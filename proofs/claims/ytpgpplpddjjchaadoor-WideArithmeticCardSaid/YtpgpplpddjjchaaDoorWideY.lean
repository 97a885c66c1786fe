/- Numbers of 256 bits: the law of Compare, Add and Sub. -/
import Derived.Test.YtpgpplpddjjchaaDoorWideX
import Derived.Test.YtpgpplpddjjchaaDoorWideE
import Derived.Test.YtpgpplpddjjchaaDoorWideSub
namespace Go.Proofs.YtpgpplpddjjchaaDoor
open Go.RowKit
theorem run_wide1 (x : Operand) {a : Act} {w : World} {op : Oper} (ho : op.op = .build 24 #[(0, x)]) (k : Nat) (hk : k < 18446744073709551616) (hx : a.eval x = .int .u64 k) : (execOp a.eval op).run Tryd.prog w = .ok (.value (.agg (ints .u64 (wl k)).toArray)) w := by
  have hz := wz_lit
  rw [← wl_set0 hk]
  generalize a.eval = ev at *
  unfold execOp
  simp only [ho]
  go_simp
  rw [if_neg (by simp [ints, wl])]
  rfl
theorem quiet_wide1 {C : World → Prop} {op : Oper} {a : Act} {K : Act → Prop} (x : Operand) (ho : op.op = .build 24 #[(0, x)]) (k : Nat) (hk : k < 18446744073709551616) (hx : a.eval x = .int .u64 k)
    (h : K (a.put op.dst (.agg (ints .u64 (wl k)).toArray))) : op.quiet Tryd.prog a C K :=
  ⟨_, fun w _ => by unfold Oper.quietAt; rw [run_wide1 x ho k hk hx]; exact ⟨rfl, rfl⟩, h⟩
set_option maxRecDepth 20000 in
set_option maxHeartbeats 1000000 in
theorem wideArithmetic_walk (a b : List Int) (k : Int) (w : World) (la : a.length = 4) (fa : Fit .u64 a) (lb : b.length = 4) (fb : Fit .u64 b) (wk : (Lit.int .u64 k).wf = true) :
    Calls Tryd.prog 3 #[.agg (ints .u64 a).toArray, .agg (ints .u64 b).toArray, .int .u64 k] w fun e w' => e = .returned (.bool true) ∧ Below w.heap.size w w' := by
  obtain ⟨n, hn, rfl⟩ := wide_of la fa
  obtain ⟨m, hm, rfl⟩ := wide_of lb fb
  have hk1 := u64_of_wf wk
  obtain ⟨K, rfl⟩ : ∃ K : Nat, k = (K : Int) := ⟨k.toNat, by omega⟩
  have A1 := bx (add_any n m hn hm)
  have A2 := bx (addWide_any n m hn hm)
  have S1 := bx (sub_any n m hn hm)
  have S2 := bx (subWide_any n m hn hm)
  have E1 := bx (compare_any n m hn hm)
  have E2 := bx (refCompare_any n m hn hm)
  have F1 := bx (from_any K (by omega))
  have AW := bx awake_any
  have HK : Bx (K < 18446744073709551616) := ⟨by omega⟩
  clear la fa lb fb wk hn hm hk1
  unfold WE WS at *
  have hq : ∀ (p : Nat) (w : World), (Op.equalIn 10000 24 (.agg (ints .u64 (wl p)).toArray) (.agg (ints .u64 (wl p)).toArray)).run Tryd.prog w = .ok true w := fun p w => by rw [wide_same, decide_eq_true rfl]
  have hz := wz_lit
  generalize okW (n + m) = p at *
  generalize erW (n + m) = f at *
  generalize dfW n m = d at *
  generalize dfE n m = g at *
  generalize cmpW n m = c at *
  obtain ⟨wA, hwA⟩ : ∃ wA, wA = ((w.alloc (.cells (ints .u64 (wl n)).toArray 24)).alloc (.cells (ints .u64 (wl m)).toArray 24)) := ⟨_, rfl⟩
  have X0_0 : Bx (Has wA (w.heap.size) (ints .u64 (wl n))) := ⟨by rw [hwA]; have := (Has.new w (ints .u64 (wl n)) 24).alloc (.cells (ints .u64 (wl m)).toArray 24); exact this⟩
  have X1_0 : Bx (Has wA (w.heap.size + 1) (ints .u64 (wl m))) := ⟨by rw [hwA]; have := Has.new (w.alloc (.cells (ints .u64 (wl n)).toArray 24)) (ints .u64 (wl m)) 24; rwa [alloc_size] at this⟩
  have B_0 : Bx (Below w.heap.size w wA) := ⟨by rw [hwA]; exact ((Below.refl w.heap.size w).alloc (Nat.le_refl _) _).alloc (by simp) _⟩
  subst hwA
  go_enter Tryd.func3, Tryd.ntmps3
  go_wp2_with (first | ((with_reducible refine wpList_loadG 24 _ rfl _ (ints .u64 (wl n)) ?_ ?_ X0_0.out Tryd.underlying24 rfl ?_ ?_); rfl; rfl; exact cells_wide _) | ((with_reducible refine wpList_loadG 24 _ rfl _ (ints .u64 (wl m)) ?_ ?_ X1_0.out Tryd.underlying24 rfl ?_ ?_); rfl; rfl; exact cells_wide _))
  refine (A1.out _).mono ?_; rintro e w1 ⟨rfl, hb⟩
  have X0_1 := bx (X0_0.out.below hb X0_0.out.lt)
  have X1_1 := bx (X1_0.out.below hb X1_0.out.lt)
  have B_1 := bx (B_0.out.trans (hb.mono B_0.out.size))
  clear hb X0_0 X1_0 B_0
  have YX0_1 := bx (X0_1.out.alloc (.cells (ints .u64 (wl 0)).toArray 24))
  have YX1_1 := bx (X1_1.out.alloc (.cells (ints .u64 (wl 0)).toArray 24))
  have N_1 := bx (Has.new w1 (ints .u64 (wl 0)) 24)
  have C_1 := bx (B_1.out.alloc B_1.out.size (.cells (ints .u64 (wl 0)).toArray 24))
  go_wp2_with (first | ((with_reducible refine wpList_storeB rfl 24 _ _ rfl _ (ints .u64 (wl p)) _ ?_ ?_ N_1.out (wl_len2 _ _) Tryd.underlying24 ?_ (wl_one _) ?_); rfl; rfl; exact cells_wide _; intro w2 hw hg hz0; have P_2 := bx hw; have X0_2 := bx (YX0_1.out.grown hg (ne_som (Nat.ne_of_lt X0_1.out.lt))); have X1_2 := bx (YX1_1.out.grown hg (ne_som (Nat.ne_of_lt X1_1.out.lt))); have B_2 := bx (C_1.out.grown hg C_1.out.size (fun k hk => by cases hk; exact B_1.out.size)); clear hw hg hz0) | ((with_reducible refine wpList_loadG 24 _ rfl _ (ints .u64 (wl n)) ?_ ?_ X0_2.out Tryd.underlying24 rfl ?_ ?_); rfl; rfl; exact cells_wide _) | ((with_reducible refine wpList_loadG 24 _ rfl _ (ints .u64 (wl m)) ?_ ?_ X1_2.out Tryd.underlying24 rfl ?_ ?_); rfl; rfl; exact cells_wide _) | ((with_reducible refine wpList_loadG 24 _ rfl _ (ints .u64 (wl p)) ?_ ?_ P_2.out Tryd.underlying24 rfl ?_ ?_); rfl; rfl; exact cells_wide _))
  clear X0_1 X1_1 B_1 YX0_1 YX1_1 N_1 C_1
  refine (A2.out _).mono ?_; rintro e w3 ⟨rfl, hb⟩
  have X0_3 := bx (X0_2.out.below hb X0_2.out.lt)
  have X1_3 := bx (X1_2.out.below hb X1_2.out.lt)
  have P_3 := bx (P_2.out.below hb P_2.out.lt)
  have B_3 := bx (B_2.out.trans (hb.mono B_2.out.size))
  clear hb X0_2 X1_2 P_2 B_2
  have YX0_3 := bx (X0_3.out.alloc (.cells (ints .u64 (wl 0)).toArray 24))
  have YX1_3 := bx (X1_3.out.alloc (.cells (ints .u64 (wl 0)).toArray 24))
  have YP_3 := bx (P_3.out.alloc (.cells (ints .u64 (wl 0)).toArray 24))
  have N_3 := bx (Has.new w3 (ints .u64 (wl 0)) 24)
  have C_3 := bx (B_3.out.alloc B_3.out.size (.cells (ints .u64 (wl 0)).toArray 24))
  go_wp2_with (first | ((with_reducible refine wpList_storeB rfl 24 _ _ rfl _ (ints .u64 (wl p)) _ ?_ ?_ N_3.out (wl_len2 _ _) Tryd.underlying24 ?_ (wl_one _) ?_); rfl; rfl; exact cells_wide _; intro w4 hw hg hz0; have Q_4 := bx hw; have X0_4 := bx (YX0_3.out.grown hg (ne_som (Nat.ne_of_lt X0_3.out.lt))); have X1_4 := bx (YX1_3.out.grown hg (ne_som (Nat.ne_of_lt X1_3.out.lt))); have P_4 := bx (YP_3.out.grown hg (ne_som (Nat.ne_of_lt P_3.out.lt))); have B_4 := bx (C_3.out.grown hg C_3.out.size (fun k hk => by cases hk; exact B_3.out.size)); clear hw hg hz0) | ((with_reducible refine wpList_loadG 24 _ rfl _ (ints .u64 (wl n)) ?_ ?_ X0_4.out Tryd.underlying24 rfl ?_ ?_); rfl; rfl; exact cells_wide _) | ((with_reducible refine wpList_loadG 24 _ rfl _ (ints .u64 (wl m)) ?_ ?_ X1_4.out Tryd.underlying24 rfl ?_ ?_); rfl; rfl; exact cells_wide _) | ((with_reducible refine wpList_loadG 24 _ rfl _ (ints .u64 (wl p)) ?_ ?_ P_4.out Tryd.underlying24 rfl ?_ ?_); rfl; rfl; exact cells_wide _) | ((with_reducible refine wpList_loadG 24 _ rfl _ (ints .u64 (wl p)) ?_ ?_ Q_4.out Tryd.underlying24 rfl ?_ ?_); rfl; rfl; exact cells_wide _))
  clear X0_3 X1_3 P_3 B_3 YX0_3 YX1_3 YP_3 N_3 C_3
  refine (S1.out _).mono ?_; rintro e w5 ⟨rfl, hb⟩
  have X0_5 := bx (X0_4.out.below hb X0_4.out.lt)
  have X1_5 := bx (X1_4.out.below hb X1_4.out.lt)
  have P_5 := bx (P_4.out.below hb P_4.out.lt)
  have Q_5 := bx (Q_4.out.below hb Q_4.out.lt)
  have B_5 := bx (B_4.out.trans (hb.mono B_4.out.size))
  clear hb X0_4 X1_4 P_4 Q_4 B_4
  have YX0_5 := bx (X0_5.out.alloc (.cells (ints .u64 (wl 0)).toArray 24))
  have YX1_5 := bx (X1_5.out.alloc (.cells (ints .u64 (wl 0)).toArray 24))
  have YP_5 := bx (P_5.out.alloc (.cells (ints .u64 (wl 0)).toArray 24))
  have YQ_5 := bx (Q_5.out.alloc (.cells (ints .u64 (wl 0)).toArray 24))
  have N_5 := bx (Has.new w5 (ints .u64 (wl 0)) 24)
  have C_5 := bx (B_5.out.alloc B_5.out.size (.cells (ints .u64 (wl 0)).toArray 24))
  go_wp2_with (first | ((with_reducible refine wpList_storeB rfl 24 _ _ rfl _ (ints .u64 (wl d)) _ ?_ ?_ N_5.out (wl_len2 _ _) Tryd.underlying24 ?_ (wl_one _) ?_); rfl; rfl; exact cells_wide _; intro w6 hw hg hz0; have R_6 := bx hw; have X0_6 := bx (YX0_5.out.grown hg (ne_som (Nat.ne_of_lt X0_5.out.lt))); have X1_6 := bx (YX1_5.out.grown hg (ne_som (Nat.ne_of_lt X1_5.out.lt))); have P_6 := bx (YP_5.out.grown hg (ne_som (Nat.ne_of_lt P_5.out.lt))); have Q_6 := bx (YQ_5.out.grown hg (ne_som (Nat.ne_of_lt Q_5.out.lt))); have B_6 := bx (C_5.out.grown hg C_5.out.size (fun k hk => by cases hk; exact B_5.out.size)); clear hw hg hz0) | ((with_reducible refine wpList_loadG 24 _ rfl _ (ints .u64 (wl n)) ?_ ?_ X0_6.out Tryd.underlying24 rfl ?_ ?_); rfl; rfl; exact cells_wide _) | ((with_reducible refine wpList_loadG 24 _ rfl _ (ints .u64 (wl m)) ?_ ?_ X1_6.out Tryd.underlying24 rfl ?_ ?_); rfl; rfl; exact cells_wide _) | ((with_reducible refine wpList_loadG 24 _ rfl _ (ints .u64 (wl p)) ?_ ?_ P_6.out Tryd.underlying24 rfl ?_ ?_); rfl; rfl; exact cells_wide _) | ((with_reducible refine wpList_loadG 24 _ rfl _ (ints .u64 (wl p)) ?_ ?_ Q_6.out Tryd.underlying24 rfl ?_ ?_); rfl; rfl; exact cells_wide _) | ((with_reducible refine wpList_loadG 24 _ rfl _ (ints .u64 (wl d)) ?_ ?_ R_6.out Tryd.underlying24 rfl ?_ ?_); rfl; rfl; exact cells_wide _))
  clear X0_5 X1_5 P_5 Q_5 B_5 YX0_5 YX1_5 YP_5 YQ_5 N_5 C_5
  refine (S2.out _).mono ?_; rintro e w7 ⟨rfl, hb⟩
  have X0_7 := bx (X0_6.out.below hb X0_6.out.lt)
  have X1_7 := bx (X1_6.out.below hb X1_6.out.lt)
  have P_7 := bx (P_6.out.below hb P_6.out.lt)
  have Q_7 := bx (Q_6.out.below hb Q_6.out.lt)
  have R_7 := bx (R_6.out.below hb R_6.out.lt)
  have B_7 := bx (B_6.out.trans (hb.mono B_6.out.size))
  clear hb X0_6 X1_6 P_6 Q_6 R_6 B_6
  have YX0_7 := bx (X0_7.out.alloc (.cells (ints .u64 (wl 0)).toArray 24))
  have YX1_7 := bx (X1_7.out.alloc (.cells (ints .u64 (wl 0)).toArray 24))
  have YP_7 := bx (P_7.out.alloc (.cells (ints .u64 (wl 0)).toArray 24))
  have YQ_7 := bx (Q_7.out.alloc (.cells (ints .u64 (wl 0)).toArray 24))
  have YR_7 := bx (R_7.out.alloc (.cells (ints .u64 (wl 0)).toArray 24))
  have N_7 := bx (Has.new w7 (ints .u64 (wl 0)) 24)
  have C_7 := bx (B_7.out.alloc B_7.out.size (.cells (ints .u64 (wl 0)).toArray 24))
  go_wp2_with (first | ((with_reducible refine wpList_storeB rfl 24 _ _ rfl _ (ints .u64 (wl d)) _ ?_ ?_ N_7.out (wl_len2 _ _) Tryd.underlying24 ?_ (wl_one _) ?_); rfl; rfl; exact cells_wide _; intro w8 hw hg hz0; have S_8 := bx hw; have X0_8 := bx (YX0_7.out.grown hg (ne_som (Nat.ne_of_lt X0_7.out.lt))); have X1_8 := bx (YX1_7.out.grown hg (ne_som (Nat.ne_of_lt X1_7.out.lt))); have P_8 := bx (YP_7.out.grown hg (ne_som (Nat.ne_of_lt P_7.out.lt))); have Q_8 := bx (YQ_7.out.grown hg (ne_som (Nat.ne_of_lt Q_7.out.lt))); have R_8 := bx (YR_7.out.grown hg (ne_som (Nat.ne_of_lt R_7.out.lt))); have B_8 := bx (C_7.out.grown hg C_7.out.size (fun k hk => by cases hk; exact B_7.out.size)); clear hw hg hz0) | ((with_reducible refine wpList_loadG 24 _ rfl _ (ints .u64 (wl n)) ?_ ?_ X0_8.out Tryd.underlying24 rfl ?_ ?_); rfl; rfl; exact cells_wide _) | ((with_reducible refine wpList_loadG 24 _ rfl _ (ints .u64 (wl m)) ?_ ?_ X1_8.out Tryd.underlying24 rfl ?_ ?_); rfl; rfl; exact cells_wide _) | ((with_reducible refine wpList_loadG 24 _ rfl _ (ints .u64 (wl p)) ?_ ?_ P_8.out Tryd.underlying24 rfl ?_ ?_); rfl; rfl; exact cells_wide _) | ((with_reducible refine wpList_loadG 24 _ rfl _ (ints .u64 (wl p)) ?_ ?_ Q_8.out Tryd.underlying24 rfl ?_ ?_); rfl; rfl; exact cells_wide _) | ((with_reducible refine wpList_loadG 24 _ rfl _ (ints .u64 (wl d)) ?_ ?_ R_8.out Tryd.underlying24 rfl ?_ ?_); rfl; rfl; exact cells_wide _) | ((with_reducible refine wpList_loadG 24 _ rfl _ (ints .u64 (wl d)) ?_ ?_ S_8.out Tryd.underlying24 rfl ?_ ?_); rfl; rfl; exact cells_wide _))
  clear X0_7 X1_7 P_7 Q_7 R_7 B_7 YX0_7 YX1_7 YP_7 YQ_7 YR_7 N_7 C_7
  have QX0 := bx (fun (w1 : World) (h : Cls w8.heap.size w8 w1) => X0_8.out.below h.out X0_8.out.lt)
  have QX1 := bx (fun (w1 : World) (h : Cls w8.heap.size w8 w1) => X1_8.out.below h.out X1_8.out.lt)
  have QP := bx (fun (w1 : World) (h : Cls w8.heap.size w8 w1) => P_8.out.below h.out P_8.out.lt)
  have QQ := bx (fun (w1 : World) (h : Cls w8.heap.size w8 w1) => Q_8.out.below h.out Q_8.out.lt)
  have QR := bx (fun (w1 : World) (h : Cls w8.heap.size w8 w1) => R_8.out.below h.out R_8.out.lt)
  have QS := bx (fun (w1 : World) (h : Cls w8.heap.size w8 w1) => S_8.out.below h.out S_8.out.lt)
  have K0 := bx (fun (w1 : World) (h : Cls w8.heap.size w8 w1) => h.calls (Nat.le_refl _) (E1.out w1))
  have K1 := bx (fun (w1 : World) (h : Cls w8.heap.size w8 w1) => h.calls (Nat.le_refl _) (E2.out w1))
  have K2 := bx (fun (w1 : World) (h : Cls w8.heap.size w8 w1) => h.calls (Nat.le_refl _) (F1.out w1))
  have K3 := bx (fun (w1 : World) (h : Cls w8.heap.size w8 w1) => h.calls (Nat.le_refl _) (AW.out w1))
  clear X0_8 X1_8 P_8 Q_8 R_8 S_8
  refine region_cls w8.heap.size (by kernel_rfl) (by kernel_rfl) ?_
  repeat (first | go_big_quiet_skip | (go_big_quiet_want; first | ((with_reducible refine quiet_loadC 24 _ rfl _ (ints .u64 (wl n)) ?_ QX0.out Tryd.underlying24 ?_ ?_ ?_); rfl; rfl; exact cells_wide _; go_big_quiet_on; (simp only [Act.put, List.setIfInBounds_toArray, List.set_cons_succ, List.set_cons_zero])) | ((with_reducible refine quiet_loadC 24 _ rfl _ (ints .u64 (wl m)) ?_ QX1.out Tryd.underlying24 ?_ ?_ ?_); rfl; rfl; exact cells_wide _; go_big_quiet_on; (simp only [Act.put, List.setIfInBounds_toArray, List.set_cons_succ, List.set_cons_zero])) | ((with_reducible refine quiet_loadC 24 _ rfl _ (ints .u64 (wl p)) ?_ QP.out Tryd.underlying24 ?_ ?_ ?_); rfl; rfl; exact cells_wide _; go_big_quiet_on; (simp only [Act.put, List.setIfInBounds_toArray, List.set_cons_succ, List.set_cons_zero])) | ((with_reducible refine quiet_loadC 24 _ rfl _ (ints .u64 (wl p)) ?_ QQ.out Tryd.underlying24 ?_ ?_ ?_); rfl; rfl; exact cells_wide _; go_big_quiet_on; (simp only [Act.put, List.setIfInBounds_toArray, List.set_cons_succ, List.set_cons_zero])) | ((with_reducible refine quiet_loadC 24 _ rfl _ (ints .u64 (wl d)) ?_ QR.out Tryd.underlying24 ?_ ?_ ?_); rfl; rfl; exact cells_wide _; go_big_quiet_on; (simp only [Act.put, List.setIfInBounds_toArray, List.set_cons_succ, List.set_cons_zero])) | ((with_reducible refine quiet_loadC 24 _ rfl _ (ints .u64 (wl d)) ?_ QS.out Tryd.underlying24 ?_ ?_ ?_); rfl; rfl; exact cells_wide _; go_big_quiet_on; (simp only [Act.put, List.setIfInBounds_toArray, List.set_cons_succ, List.set_cons_zero])) | ((with_reducible refine quiet_wide1 (.tmp 69) rfl K HK.out ?_ ?_); rfl; go_big_quiet_on; (simp only [Act.put, List.setIfInBounds_toArray, List.set_cons_succ, List.set_cons_zero])) | (go_big_quiet_op; first | go_big_quiet_on | ((with_reducible refine ⟨_, fun _ _ => rfl, ?_⟩); go_big_quiet_on) | (apply Exists.intro; refine ⟨fun w1 hw1 => ?_, ?_⟩; (first | (go_at_call 14; (with_reducible exact K0.out w1 hw1)) | (go_at_call 15; (with_reducible exact K1.out w1 hw1)) | (go_at_call 16; (with_reducible exact K2.out w1 hw1)) | (go_at_call 17; (with_reducible exact K3.out w1 hw1))); go_big_quiet_on))))
  refine wpQuiet_nil ?_
  intro w99 hw99
  have HW99 := bx hw99
  clear hw99
  go_wp2
  go_ret
  exact ⟨rfl, B_8.out.trans (HW99.out.out.mono B_8.out.size)⟩
end Go.Proofs.YtpgpplpddjjchaaDoor
