/- Numbers of 256 bits: the law of quotient and remainder. -/
import Derived.Test.YtpgpplpddjjchaaDoorWideX
import Derived.Test.YtpgpplpddjjchaaDoorWideN
namespace Go.Proofs.YtpgpplpddjjchaaDoor
open Go.RowKit
theorem Has.drewn {w : World} {g : Nat} {cs : List Value} (h : Has w g cs) : Has w.drew g cs := h
set_option maxRecDepth 20000 in
set_option maxHeartbeats 1000000 in
theorem wideDivides_no (a : List Int) (w : World) :
    Calls Tryd.prog 5 #[.agg (ints .u64 a).toArray, .int .u64 0] w fun e w' => e = .returned (.bool true) ∧ Below w.heap.size w w' := by
  have AW := bx awake_any
  have B0 := bx ((Below.refl w.heap.size w).alloc (Nat.le_refl _) (.cells (ints .u64 a).toArray 24))
  go_enter Tryd.func5, Tryd.ntmps5
  go_wp2_with fail
  refine (AW.out _).mono ?_; rintro e w1 ⟨rfl, hb⟩
  have B1 := bx (B0.out.trans (hb.mono B0.out.size))
  go_wp2_with fail
  go_ret
  exact ⟨rfl, B1.out⟩
set_option maxRecDepth 20000 in
set_option maxHeartbeats 1000000 in
theorem wideDivides_go (n K : Nat) (hn : n < 2 ^ 256) (hK : K < 18446744073709551616) (h0 : 0 < K) (w : World) :
    Calls Tryd.prog 5 #[.agg (ints .u64 (wl n)).toArray, .int .u64 K] w fun e w' => e = .returned (.bool true) ∧ Below w.heap.size w w' := by
  have hr := Nat.mod_lt n h0
  have hqn : n / K * K + n % K = n := Nat.div_add_mod' n K
  have D1 := bx (divS_any n K hn hK)
  have M1 := bx (mulS_any (n / K) K (Nat.lt_of_le_of_lt (Nat.div_le_self _ _) hn) hK)
  have F1 := bx (from_any (n % K) (by omega))
  have A1 := bx (add_any (n / K * K) (n % K) (by omega) (by omega))
  have AW := bx awake_any
  unfold WE WQ at *
  have hp2 : n / K * K < 2 ^ 256 := by omega
  rw [show okW (n / K * K) = n / K * K from if_pos hp2, show erW (n / K * K) = 0 from if_pos hp2] at M1
  rw [hqn, show okW n = n from if_pos hn, show erW n = 0 from if_pos hn] at A1
  simp only [if_neg (show ¬ K = 0 by omega)] at D1
  have hq : ∀ (p : Nat) (w : World), (Op.equalIn 10000 24 (.agg (ints .u64 (wl p)).toArray) (.agg (ints .u64 (wl p)).toArray)).run Tryd.prog w = .ok true w := fun p w => by rw [wide_same, decide_eq_true rfl]
  have hz := wz_lit
  have hKn : ((K : Int) == 0) = false := by simp; omega
  clear hqn hp2
  generalize n / K * K = p at *
  generalize n / K = q at *
  generalize n % K = r at *
  clear hn
  obtain ⟨wA, hwA⟩ : ∃ wA, wA = (w.alloc (.cells (ints .u64 (wl n)).toArray 24)) := ⟨_, rfl⟩
  have X0_0 : Bx (Has wA (w.heap.size) (ints .u64 (wl n))) := ⟨by rw [hwA]; have := Has.new w (ints .u64 (wl n)) 24; exact this⟩
  have B_0 : Bx (Below w.heap.size w wA) := ⟨by rw [hwA]; exact (Below.refl w.heap.size w).alloc (Nat.le_refl _) _⟩
  subst hwA
  go_enter Tryd.func5, Tryd.ntmps5
  go_wp2_with ((with_reducible refine wpList_loadG 24 _ rfl _ (ints .u64 (wl n)) ?_ ?_ X0_0.out Tryd.underlying24 rfl ?_ ?_); rfl; rfl; exact cells_wide _)
  refine (D1.out _).mono ?_; rintro e w1 ⟨rfl, hb⟩
  have X0_1 := bx (X0_0.out.below hb X0_0.out.lt)
  have B_1 := bx (B_0.out.trans (hb.mono B_0.out.size))
  clear hb X0_0 B_0
  have YX0_1 := bx (X0_1.out.alloc (.cells (ints .u64 (wl 0)).toArray 24))
  have N_1 := bx (Has.new w1 (ints .u64 (wl 0)) 24)
  have C_1 := bx (B_1.out.alloc B_1.out.size (.cells (ints .u64 (wl 0)).toArray 24))
  go_wp2_with (first | ((with_reducible refine wpList_storeB rfl 24 _ _ rfl _ (ints .u64 (wl q)) _ ?_ ?_ N_1.out (wl_len2 _ _) Tryd.underlying24 ?_ (wl_one _) ?_); rfl; rfl; exact cells_wide _; intro w2 hw hg hz0; have P_2 := bx hw; have X0_2 := bx (YX0_1.out.grown hg (ne_som (Nat.ne_of_lt X0_1.out.lt))); have B_2 := bx (C_1.out.grown hg C_1.out.size (fun k hk => by cases hk; exact B_1.out.size)); clear hw hg hz0) | ((with_reducible refine wpList_loadG 24 _ rfl _ (ints .u64 (wl n)) ?_ ?_ X0_2.out Tryd.underlying24 rfl ?_ ?_); rfl; rfl; exact cells_wide _) | ((with_reducible refine wpList_loadG 24 _ rfl _ (ints .u64 (wl q)) ?_ ?_ P_2.out Tryd.underlying24 rfl ?_ ?_); rfl; rfl; exact cells_wide _))
  clear X0_1 B_1 YX0_1 N_1 C_1
  refine (M1.out _).mono ?_; rintro e w3 ⟨rfl, hb⟩
  have X0_3 := bx (X0_2.out.below hb X0_2.out.lt)
  have P_3 := bx (P_2.out.below hb P_2.out.lt)
  have B_3 := bx (B_2.out.trans (hb.mono B_2.out.size))
  clear hb X0_2 P_2 B_2
  have YX0_3 := bx (X0_3.out.alloc (.cells (ints .u64 (wl 0)).toArray 24))
  have YP_3 := bx (P_3.out.alloc (.cells (ints .u64 (wl 0)).toArray 24))
  have N_3 := bx (Has.new w3 (ints .u64 (wl 0)) 24)
  have C_3 := bx (B_3.out.alloc B_3.out.size (.cells (ints .u64 (wl 0)).toArray 24))
  go_wp2_with (first | ((with_reducible refine wpList_storeB rfl 24 _ _ rfl _ (ints .u64 (wl p)) _ ?_ ?_ N_3.out (wl_len2 _ _) Tryd.underlying24 ?_ (wl_one _) ?_); rfl; rfl; exact cells_wide _; intro w4 hw hg hz0; have Q_4 := bx hw; have X0_4 := bx (YX0_3.out.grown hg (ne_som (Nat.ne_of_lt X0_3.out.lt))); have P_4 := bx (YP_3.out.grown hg (ne_som (Nat.ne_of_lt P_3.out.lt))); have B_4 := bx (C_3.out.grown hg C_3.out.size (fun k hk => by cases hk; exact B_3.out.size)); clear hw hg hz0) | ((with_reducible refine wpList_loadG 24 _ rfl _ (ints .u64 (wl n)) ?_ ?_ X0_4.out Tryd.underlying24 rfl ?_ ?_); rfl; rfl; exact cells_wide _) | ((with_reducible refine wpList_loadG 24 _ rfl _ (ints .u64 (wl q)) ?_ ?_ P_4.out Tryd.underlying24 rfl ?_ ?_); rfl; rfl; exact cells_wide _) | ((with_reducible refine wpList_loadG 24 _ rfl _ (ints .u64 (wl p)) ?_ ?_ Q_4.out Tryd.underlying24 rfl ?_ ?_); rfl; rfl; exact cells_wide _))
  clear X0_3 P_3 B_3 YX0_3 YP_3 N_3 C_3
  have CQ := bx (Has.cls (w := w4.drew) Q_4.out)
  have X0_5 := bx (X0_4.out.drewn)
  have P_5 := bx (P_4.out.drewn)
  have Q_5 := bx (Q_4.out.drewn)
  have B_5 := bx (B_4.out.drew)
  clear X0_4 P_4 Q_4 B_4
  refine wp_region_mix3 8 (.steps [(0, 0), (0, 1)] (.fork 2 (.fork 3 (.steps [(1, 4), (1, 5), (1, 6), (2, 7)] .leaf) 7 (.steps [(2, 3), (1, 4), (1, 5), (1, 6)] .leaf)) 7 (.steps [(2, 2), (2, 3), (1, 4), (1, 5), (1, 6)] .leaf))) (by kernel_rfl) (by kernel_rfl) ?_
  simp only [MixT, MT.steps, stepAt, List.getD_cons_zero, List.getD_cons_succ, List.drop_succ_cons, List.drop_zero]
  repeat (first | (with_reducible refine wpQuiet_nil ?_) | (first | go_big_quiet_skip | (go_big_quiet_want; first | ((with_reducible refine quiet_loadC 24 _ rfl _ (ints .u64 (wl p)) ?_ CQ.out Tryd.underlying24 rfl ?_ ?_); rfl; exact cells_wide _; go_big_quiet_on; (simp only [Act.put, List.setIfInBounds_toArray, List.set_cons_succ, List.set_cons_zero])) | (go_big_quiet_op; first | go_big_quiet_on | ((with_reducible refine ⟨_, fun _ _ => rfl, ?_⟩); go_big_quiet_on)))))
  refine ⟨?_, ?_⟩
  · refine mix_call (F1.out _) Tryd.func16 rfl rfl _ _ rfl rfl rfl ?_
    rintro e w6 ⟨rfl, hb⟩
    refine ⟨_, rfl, hb, ?_⟩
    have X0_6 := bx (X0_5.out.below hb X0_5.out.lt)
    have P_6 := bx (P_5.out.below hb P_5.out.lt)
    have Q_6 := bx (Q_5.out.below hb Q_5.out.lt)
    have B_6 := bx (B_5.out.trans (hb.mono B_5.out.size))
    clear hb X0_5 P_5 Q_5 B_5
    refine ⟨?_, ?_⟩
    · refine mix_call (A1.out _) Tryd.func10 rfl rfl _ _ rfl rfl rfl ?_
      rintro e w7 ⟨rfl, hb⟩
      refine ⟨_, rfl, hb, ?_⟩
      have X0_7 := bx (X0_6.out.below hb X0_6.out.lt)
      have P_7 := bx (P_6.out.below hb P_6.out.lt)
      have Q_7 := bx (Q_6.out.below hb Q_6.out.lt)
      have B_7 := bx (B_6.out.trans (hb.mono B_6.out.size))
      clear hb X0_6 P_6 Q_6 B_6
      simp only [Act.put, List.setIfInBounds_toArray, List.set_cons_succ, List.set_cons_zero]
      repeat (first | (with_reducible refine wpQuiet_nil ?_) | (first | go_big_quiet_skip | (go_big_quiet_want; first | fail | (go_big_quiet_op; first | go_big_quiet_on | ((with_reducible refine ⟨_, fun _ _ => rfl, ?_⟩); go_big_quiet_on)))))
      refine mix_run (run_allocW rfl) rfl ?_
      refine ⟨ext_alloc _ _, ?_⟩
      have R_8 := bx (Has.new w7 (ints .u64 (wl 0)) 24)
      have X0_8 := bx (X0_7.out.alloc (.cells (ints .u64 (wl 0)).toArray 24))
      have LX0_8 := bx (Nat.ne_of_lt X0_7.out.lt)
      have P_8 := bx (P_7.out.alloc (.cells (ints .u64 (wl 0)).toArray 24))
      have LP_8 := bx (Nat.ne_of_lt P_7.out.lt)
      have Q_8 := bx (Q_7.out.alloc (.cells (ints .u64 (wl 0)).toArray 24))
      have LQ_8 := bx (Nat.ne_of_lt Q_7.out.lt)
      have B_8 := bx (B_7.out.alloc B_7.out.size (.cells (ints .u64 (wl 0)).toArray 24))
      have LB_8 := bx B_7.out.size
      clear X0_7 P_7 Q_7 B_7
      simp only [Act.put, List.setIfInBounds_toArray, List.set_cons_succ, List.set_cons_zero]
      repeat (first | (with_reducible refine wpQuiet_nil ?_) | (first | go_big_quiet_skip | (go_big_quiet_want; first | fail | (go_big_quiet_op; first | go_big_quiet_on | ((with_reducible refine ⟨_, fun _ _ => rfl, ?_⟩); go_big_quiet_on)))))
      go_wp2_with (first | ((with_reducible refine wpList_storeB rfl 24 _ _ rfl _ (ints .u64 (wl n)) _ ?_ ?_ R_8.out (wl_len2 _ _) Tryd.underlying24 ?_ (wl_one _) ?_); rfl; rfl; exact cells_wide _; intro w9 hw hg hz0; have R_9 := bx hw; have X0_9 := bx (X0_8.out.grown hg (ne_som LX0_8.out)); have P_9 := bx (P_8.out.grown hg (ne_som LP_8.out)); have Q_9 := bx (Q_8.out.grown hg (ne_som LQ_8.out)); have B_9 := bx (B_8.out.grown hg B_8.out.size (fun k hk => by cases hk; exact LB_8.out)); clear hw hg hz0) | ((with_reducible refine wpList_loadG 24 _ rfl _ (ints .u64 (wl n)) ?_ ?_ X0_9.out Tryd.underlying24 rfl ?_ ?_); rfl; rfl; exact cells_wide _) | ((with_reducible refine wpList_loadG 24 _ rfl _ (ints .u64 (wl q)) ?_ ?_ P_9.out Tryd.underlying24 rfl ?_ ?_); rfl; rfl; exact cells_wide _) | ((with_reducible refine wpList_loadG 24 _ rfl _ (ints .u64 (wl p)) ?_ ?_ Q_9.out Tryd.underlying24 rfl ?_ ?_); rfl; rfl; exact cells_wide _) | ((with_reducible refine wpList_loadG 24 _ rfl _ (ints .u64 (wl n)) ?_ ?_ R_9.out Tryd.underlying24 rfl ?_ ?_); rfl; rfl; exact cells_wide _))
      refine NoPanic.normal ?_
      go_wp2_with (first | ((with_reducible refine wpList_loadG 24 _ rfl _ (ints .u64 (wl n)) ?_ ?_ X0_9.out Tryd.underlying24 rfl ?_ ?_); rfl; rfl; exact cells_wide _) | ((with_reducible refine wpList_loadG 24 _ rfl _ (ints .u64 (wl q)) ?_ ?_ P_9.out Tryd.underlying24 rfl ?_ ?_); rfl; rfl; exact cells_wide _) | ((with_reducible refine wpList_loadG 24 _ rfl _ (ints .u64 (wl p)) ?_ ?_ Q_9.out Tryd.underlying24 rfl ?_ ?_); rfl; rfl; exact cells_wide _) | ((with_reducible refine wpList_loadG 24 _ rfl _ (ints .u64 (wl n)) ?_ ?_ R_9.out Tryd.underlying24 rfl ?_ ?_); rfl; rfl; exact cells_wide _))
      refine (AW.out _).mono ?_; rintro e w10 ⟨rfl, hb⟩
      have X0_10 := bx (X0_9.out.below hb X0_9.out.lt)
      have P_10 := bx (P_9.out.below hb P_9.out.lt)
      have Q_10 := bx (Q_9.out.below hb Q_9.out.lt)
      have R_10 := bx (R_9.out.below hb R_9.out.lt)
      have B_10 := bx (B_9.out.trans (hb.mono B_9.out.size))
      clear hb X0_9 P_9 Q_9 R_9 B_9
      go_wp2_with (first | ((with_reducible refine wpList_loadG 24 _ rfl _ (ints .u64 (wl n)) ?_ ?_ X0_10.out Tryd.underlying24 rfl ?_ ?_); rfl; rfl; exact cells_wide _) | ((with_reducible refine wpList_loadG 24 _ rfl _ (ints .u64 (wl q)) ?_ ?_ P_10.out Tryd.underlying24 rfl ?_ ?_); rfl; rfl; exact cells_wide _) | ((with_reducible refine wpList_loadG 24 _ rfl _ (ints .u64 (wl p)) ?_ ?_ Q_10.out Tryd.underlying24 rfl ?_ ?_); rfl; rfl; exact cells_wide _) | ((with_reducible refine wpList_loadG 24 _ rfl _ (ints .u64 (wl n)) ?_ ?_ R_10.out Tryd.underlying24 rfl ?_ ?_); rfl; rfl; exact cells_wide _))
      go_ret
      exact ⟨rfl, B_10.out⟩
    · refine mix_run (run_allocW rfl) rfl ?_
      refine ⟨ext_alloc _ _, ?_⟩
      have R_7 := bx (Has.new w6 (ints .u64 (wl 0)) 24)
      have X0_7 := bx (X0_6.out.alloc (.cells (ints .u64 (wl 0)).toArray 24))
      have LX0_7 := bx (Nat.ne_of_lt X0_6.out.lt)
      have P_7 := bx (P_6.out.alloc (.cells (ints .u64 (wl 0)).toArray 24))
      have LP_7 := bx (Nat.ne_of_lt P_6.out.lt)
      have Q_7 := bx (Q_6.out.alloc (.cells (ints .u64 (wl 0)).toArray 24))
      have LQ_7 := bx (Nat.ne_of_lt Q_6.out.lt)
      have B_7 := bx (B_6.out.alloc B_6.out.size (.cells (ints .u64 (wl 0)).toArray 24))
      have LB_7 := bx B_6.out.size
      clear X0_6 P_6 Q_6 B_6
      refine mix_call (A1.out _) Tryd.func10 rfl rfl _ _ rfl rfl rfl ?_
      rintro e w8 ⟨rfl, hb⟩
      refine ⟨_, rfl, hb, ?_⟩
      have X0_8 := bx (X0_7.out.below hb X0_7.out.lt)
      have P_8 := bx (P_7.out.below hb P_7.out.lt)
      have Q_8 := bx (Q_7.out.below hb Q_7.out.lt)
      have R_8 := bx (R_7.out.below hb R_7.out.lt)
      have B_8 := bx (B_7.out.trans (hb.mono B_7.out.size))
      clear hb X0_7 P_7 Q_7 R_7 B_7
      simp only [Act.put, List.setIfInBounds_toArray, List.set_cons_succ, List.set_cons_zero]
      repeat (first | (with_reducible refine wpQuiet_nil ?_) | (first | go_big_quiet_skip | (go_big_quiet_want; first | fail | (go_big_quiet_op; first | go_big_quiet_on | ((with_reducible refine ⟨_, fun _ _ => rfl, ?_⟩); go_big_quiet_on)))))
      go_wp2_with (first | ((with_reducible refine wpList_storeB rfl 24 _ _ rfl _ (ints .u64 (wl n)) _ ?_ ?_ R_8.out (wl_len2 _ _) Tryd.underlying24 ?_ (wl_one _) ?_); rfl; rfl; exact cells_wide _; intro w9 hw hg hz0; have R_9 := bx hw; have X0_9 := bx (X0_8.out.grown hg (ne_som LX0_7.out)); have P_9 := bx (P_8.out.grown hg (ne_som LP_7.out)); have Q_9 := bx (Q_8.out.grown hg (ne_som LQ_7.out)); have B_9 := bx (B_8.out.grown hg B_8.out.size (fun k hk => by cases hk; exact LB_7.out)); clear hw hg hz0) | ((with_reducible refine wpList_loadG 24 _ rfl _ (ints .u64 (wl n)) ?_ ?_ X0_9.out Tryd.underlying24 rfl ?_ ?_); rfl; rfl; exact cells_wide _) | ((with_reducible refine wpList_loadG 24 _ rfl _ (ints .u64 (wl q)) ?_ ?_ P_9.out Tryd.underlying24 rfl ?_ ?_); rfl; rfl; exact cells_wide _) | ((with_reducible refine wpList_loadG 24 _ rfl _ (ints .u64 (wl p)) ?_ ?_ Q_9.out Tryd.underlying24 rfl ?_ ?_); rfl; rfl; exact cells_wide _) | ((with_reducible refine wpList_loadG 24 _ rfl _ (ints .u64 (wl n)) ?_ ?_ R_9.out Tryd.underlying24 rfl ?_ ?_); rfl; rfl; exact cells_wide _))
      refine NoPanic.normal ?_
      go_wp2_with (first | ((with_reducible refine wpList_loadG 24 _ rfl _ (ints .u64 (wl n)) ?_ ?_ X0_9.out Tryd.underlying24 rfl ?_ ?_); rfl; rfl; exact cells_wide _) | ((with_reducible refine wpList_loadG 24 _ rfl _ (ints .u64 (wl q)) ?_ ?_ P_9.out Tryd.underlying24 rfl ?_ ?_); rfl; rfl; exact cells_wide _) | ((with_reducible refine wpList_loadG 24 _ rfl _ (ints .u64 (wl p)) ?_ ?_ Q_9.out Tryd.underlying24 rfl ?_ ?_); rfl; rfl; exact cells_wide _) | ((with_reducible refine wpList_loadG 24 _ rfl _ (ints .u64 (wl n)) ?_ ?_ R_9.out Tryd.underlying24 rfl ?_ ?_); rfl; rfl; exact cells_wide _))
      refine (AW.out _).mono ?_; rintro e w10 ⟨rfl, hb⟩
      have X0_10 := bx (X0_9.out.below hb X0_9.out.lt)
      have P_10 := bx (P_9.out.below hb P_9.out.lt)
      have Q_10 := bx (Q_9.out.below hb Q_9.out.lt)
      have R_10 := bx (R_9.out.below hb R_9.out.lt)
      have B_10 := bx (B_9.out.trans (hb.mono B_9.out.size))
      clear hb X0_9 P_9 Q_9 R_9 B_9
      go_wp2_with (first | ((with_reducible refine wpList_loadG 24 _ rfl _ (ints .u64 (wl n)) ?_ ?_ X0_10.out Tryd.underlying24 rfl ?_ ?_); rfl; rfl; exact cells_wide _) | ((with_reducible refine wpList_loadG 24 _ rfl _ (ints .u64 (wl q)) ?_ ?_ P_10.out Tryd.underlying24 rfl ?_ ?_); rfl; rfl; exact cells_wide _) | ((with_reducible refine wpList_loadG 24 _ rfl _ (ints .u64 (wl p)) ?_ ?_ Q_10.out Tryd.underlying24 rfl ?_ ?_); rfl; rfl; exact cells_wide _) | ((with_reducible refine wpList_loadG 24 _ rfl _ (ints .u64 (wl n)) ?_ ?_ R_10.out Tryd.underlying24 rfl ?_ ?_); rfl; rfl; exact cells_wide _))
      go_ret
      exact ⟨rfl, B_10.out⟩
  · refine mix_run (run_allocW rfl) rfl ?_
    refine ⟨ext_alloc _ _, ?_⟩
    have R_6 := bx (Has.new w4.drew (ints .u64 (wl 0)) 24)
    have X0_6 := bx (X0_5.out.alloc (.cells (ints .u64 (wl 0)).toArray 24))
    have LX0_6 := bx (Nat.ne_of_lt X0_5.out.lt)
    have P_6 := bx (P_5.out.alloc (.cells (ints .u64 (wl 0)).toArray 24))
    have LP_6 := bx (Nat.ne_of_lt P_5.out.lt)
    have Q_6 := bx (Q_5.out.alloc (.cells (ints .u64 (wl 0)).toArray 24))
    have LQ_6 := bx (Nat.ne_of_lt Q_5.out.lt)
    have B_6 := bx (B_5.out.alloc B_5.out.size (.cells (ints .u64 (wl 0)).toArray 24))
    have LB_6 := bx B_5.out.size
    clear X0_5 P_5 Q_5 B_5
    refine mix_call (F1.out _) Tryd.func16 rfl rfl _ _ rfl rfl rfl ?_
    rintro e w7 ⟨rfl, hb⟩
    refine ⟨_, rfl, hb, ?_⟩
    have X0_7 := bx (X0_6.out.below hb X0_6.out.lt)
    have P_7 := bx (P_6.out.below hb P_6.out.lt)
    have Q_7 := bx (Q_6.out.below hb Q_6.out.lt)
    have R_7 := bx (R_6.out.below hb R_6.out.lt)
    have B_7 := bx (B_6.out.trans (hb.mono B_6.out.size))
    clear hb X0_6 P_6 Q_6 R_6 B_6
    refine mix_call (A1.out _) Tryd.func10 rfl rfl _ _ rfl rfl rfl ?_
    rintro e w8 ⟨rfl, hb⟩
    refine ⟨_, rfl, hb, ?_⟩
    have X0_8 := bx (X0_7.out.below hb X0_7.out.lt)
    have P_8 := bx (P_7.out.below hb P_7.out.lt)
    have Q_8 := bx (Q_7.out.below hb Q_7.out.lt)
    have R_8 := bx (R_7.out.below hb R_7.out.lt)
    have B_8 := bx (B_7.out.trans (hb.mono B_7.out.size))
    clear hb X0_7 P_7 Q_7 R_7 B_7
    simp only [Act.put, List.setIfInBounds_toArray, List.set_cons_succ, List.set_cons_zero]
    repeat (first | (with_reducible refine wpQuiet_nil ?_) | (first | go_big_quiet_skip | (go_big_quiet_want; first | fail | (go_big_quiet_op; first | go_big_quiet_on | ((with_reducible refine ⟨_, fun _ _ => rfl, ?_⟩); go_big_quiet_on)))))
    go_wp2_with (first | ((with_reducible refine wpList_storeB rfl 24 _ _ rfl _ (ints .u64 (wl n)) _ ?_ ?_ R_8.out (wl_len2 _ _) Tryd.underlying24 ?_ (wl_one _) ?_); rfl; rfl; exact cells_wide _; intro w9 hw hg hz0; have R_9 := bx hw; have X0_9 := bx (X0_8.out.grown hg (ne_som LX0_6.out)); have P_9 := bx (P_8.out.grown hg (ne_som LP_6.out)); have Q_9 := bx (Q_8.out.grown hg (ne_som LQ_6.out)); have B_9 := bx (B_8.out.grown hg B_8.out.size (fun k hk => by cases hk; exact LB_6.out)); clear hw hg hz0) | ((with_reducible refine wpList_loadG 24 _ rfl _ (ints .u64 (wl n)) ?_ ?_ X0_9.out Tryd.underlying24 rfl ?_ ?_); rfl; rfl; exact cells_wide _) | ((with_reducible refine wpList_loadG 24 _ rfl _ (ints .u64 (wl q)) ?_ ?_ P_9.out Tryd.underlying24 rfl ?_ ?_); rfl; rfl; exact cells_wide _) | ((with_reducible refine wpList_loadG 24 _ rfl _ (ints .u64 (wl p)) ?_ ?_ Q_9.out Tryd.underlying24 rfl ?_ ?_); rfl; rfl; exact cells_wide _) | ((with_reducible refine wpList_loadG 24 _ rfl _ (ints .u64 (wl n)) ?_ ?_ R_9.out Tryd.underlying24 rfl ?_ ?_); rfl; rfl; exact cells_wide _))
    refine NoPanic.normal ?_
    go_wp2_with (first | ((with_reducible refine wpList_loadG 24 _ rfl _ (ints .u64 (wl n)) ?_ ?_ X0_9.out Tryd.underlying24 rfl ?_ ?_); rfl; rfl; exact cells_wide _) | ((with_reducible refine wpList_loadG 24 _ rfl _ (ints .u64 (wl q)) ?_ ?_ P_9.out Tryd.underlying24 rfl ?_ ?_); rfl; rfl; exact cells_wide _) | ((with_reducible refine wpList_loadG 24 _ rfl _ (ints .u64 (wl p)) ?_ ?_ Q_9.out Tryd.underlying24 rfl ?_ ?_); rfl; rfl; exact cells_wide _) | ((with_reducible refine wpList_loadG 24 _ rfl _ (ints .u64 (wl n)) ?_ ?_ R_9.out Tryd.underlying24 rfl ?_ ?_); rfl; rfl; exact cells_wide _))
    refine (AW.out _).mono ?_; rintro e w10 ⟨rfl, hb⟩
    have X0_10 := bx (X0_9.out.below hb X0_9.out.lt)
    have P_10 := bx (P_9.out.below hb P_9.out.lt)
    have Q_10 := bx (Q_9.out.below hb Q_9.out.lt)
    have R_10 := bx (R_9.out.below hb R_9.out.lt)
    have B_10 := bx (B_9.out.trans (hb.mono B_9.out.size))
    clear hb X0_9 P_9 Q_9 R_9 B_9
    go_wp2_with (first | ((with_reducible refine wpList_loadG 24 _ rfl _ (ints .u64 (wl n)) ?_ ?_ X0_10.out Tryd.underlying24 rfl ?_ ?_); rfl; rfl; exact cells_wide _) | ((with_reducible refine wpList_loadG 24 _ rfl _ (ints .u64 (wl q)) ?_ ?_ P_10.out Tryd.underlying24 rfl ?_ ?_); rfl; rfl; exact cells_wide _) | ((with_reducible refine wpList_loadG 24 _ rfl _ (ints .u64 (wl p)) ?_ ?_ Q_10.out Tryd.underlying24 rfl ?_ ?_); rfl; rfl; exact cells_wide _) | ((with_reducible refine wpList_loadG 24 _ rfl _ (ints .u64 (wl n)) ?_ ?_ R_10.out Tryd.underlying24 rfl ?_ ?_); rfl; rfl; exact cells_wide _))
    go_ret
    exact ⟨rfl, B_10.out⟩
theorem wideDivides_walk (a : List Int) (k : Int) (w : World) (la : a.length = 4) (fa : Fit .u64 a) (wk : (Lit.int .u64 k).wf = true) :
    Calls Tryd.prog 5 #[.agg (ints .u64 a).toArray, .int .u64 k] w fun e w' => e = .returned (.bool true) ∧ Below w.heap.size w w' := by
  obtain ⟨n, hn, rfl⟩ := wide_of la fa
  have hk1 := u64_of_wf wk
  obtain ⟨K, rfl⟩ : ∃ K : Nat, k = (K : Int) := ⟨k.toNat, by omega⟩
  rcases Nat.eq_zero_or_pos K with h | h
  · subst h
    exact wideDivides_no _ w
  · exact wideDivides_go n K hn (by omega) h w
end Go.Proofs.YtpgpplpddjjchaaDoor
