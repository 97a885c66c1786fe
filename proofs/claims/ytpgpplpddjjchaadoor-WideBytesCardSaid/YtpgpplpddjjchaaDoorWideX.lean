/- Numbers of 256 bits: the law of MulSmall and DivSmall. -/
import Derived.Test.YtpgpplpddjjchaaDoorWideW
import Derived.Test.YtpgpplpddjjchaaDoorWideI
import Derived.Test.YtpgpplpddjjchaaDoorWideF
namespace Go.Proofs.YtpgpplpddjjchaaDoor
open Go.RowKit
theorem fit_at {a : List Int} (h : Fit .u64 a) {x : Int} (hx : x ∈ a) : 0 ≤ x ∧ x < 18446744073709551616 := by
  have := u64_of_wf (h x hx)
  omega
theorem limb0 (n : Nat) : limb n 0 = ((n % 18446744073709551616 : Nat) : Int) := by unfold limb; rw [Nat.mul_zero, Nat.pow_zero, Nat.div_one]
theorem limb1 (n : Nat) : limb n 1 = ((n / 18446744073709551616 % 18446744073709551616 : Nat) : Int) := rfl
theorem limb2 (n : Nat) : limb n 2 = ((n / 340282366920938463463374607431768211456 % 18446744073709551616 : Nat) : Int) := rfl
theorem limb3 (n : Nat) : limb n 3 = ((n / 6277101735386680763835789423207666416102355444464034512896 % 18446744073709551616 : Nat) : Int) := rfl
/-- four limbs are a number -/
theorem wide_of {a : List Int} (la : a.length = 4) (fa : Fit .u64 a) : ∃ n, n < 2 ^ 256 ∧ a = wl n := by
  match a, la with
  | [x0, x1, x2, x3], _ =>
    have h0 := fit_at fa (x := x0) (by simp)
    have h1 := fit_at fa (x := x1) (by simp)
    have h2 := fit_at fa (x := x2) (by simp)
    have h3 := fit_at fa (x := x3) (by simp)
    refine ⟨x0.toNat + x1.toNat * 18446744073709551616 + x2.toNat * 340282366920938463463374607431768211456 + x3.toNat * 6277101735386680763835789423207666416102355444464034512896, ?_, ?_⟩
    · show _ < 115792089237316195423570985008687907853269984665640564039457584007913129639936
      omega
    · unfold wl
      rw [limb0, limb1, limb2, limb3]
      congr 1
      · omega
      · congr 1
        · omega
        · congr 1
          · omega
          · congr 1
            omega
set_option maxRecDepth 20000 in
set_option maxHeartbeats 1000000 in
theorem wideSmall_walk (a : List Int) (k : Int) (w : World) (la : a.length = 4) (fa : Fit .u64 a) (wk : (Lit.int .u64 k).wf = true) :
    Calls Tryd.prog 4 #[.agg (ints .u64 a).toArray, .int .u64 k] w fun e w' => e = .returned (.bool true) ∧ Below w.heap.size w w' := by
  obtain ⟨n, hn, rfl⟩ := wide_of la fa
  have hk1 := u64_of_wf wk
  obtain ⟨K, rfl⟩ : ∃ K : Nat, k = (K : Int) := ⟨k.toNat, by omega⟩
  have M1 := bx (mulS_any n K hn (by omega))
  have M2 := bx (mulSmall_any n K hn (by omega))
  have D1 := bx (divS_any n K hn (by omega))
  have D2 := bx (refDiv_any n K hn (by omega))
  have AW := bx awake_any
  clear la fa wk hn hk1
  unfold WE WQ at *
  have hq : ∀ (p : Nat) (w : World), (Op.equalIn 10000 24 (.agg (ints .u64 (wl p)).toArray) (.agg (ints .u64 (wl p)).toArray)).run Tryd.prog w = .ok true w := fun p w => by rw [wide_same, decide_eq_true rfl]
  have hz := wz_lit
  generalize okW (n * K) = p at *
  generalize erW (n * K) = f at *
  generalize (if K = 0 then 0 else n / K) = q at *
  generalize (if K = 0 then 0 else n % K) = r at *
  generalize (if K = 0 then (7 : Int) else 0) = g at *
  obtain ⟨wA, hwA⟩ : ∃ wA, wA = (w.alloc (.cells (ints .u64 (wl n)).toArray 24)) := ⟨_, rfl⟩
  have X0_0 : Bx (Has wA (w.heap.size) (ints .u64 (wl n))) := ⟨by rw [hwA]; have := Has.new w (ints .u64 (wl n)) 24; exact this⟩
  have B_0 : Bx (Below w.heap.size w wA) := ⟨by rw [hwA]; exact (Below.refl w.heap.size w).alloc (Nat.le_refl _) _⟩
  subst hwA
  go_enter Tryd.func4, Tryd.ntmps4
  go_wp2_with ((with_reducible refine wpList_loadG 24 _ rfl _ (ints .u64 (wl n)) ?_ ?_ X0_0.out Tryd.underlying24 rfl ?_ ?_); rfl; rfl; exact cells_wide _)
  refine (M1.out _).mono ?_; rintro e w1 ⟨rfl, hb⟩
  have X0_1 := bx (X0_0.out.below hb X0_0.out.lt)
  have B_1 := bx (B_0.out.trans (hb.mono B_0.out.size))
  clear hb X0_0 B_0
  have YX0_1 := bx (X0_1.out.alloc (.cells (ints .u64 (wl 0)).toArray 24))
  have N_1 := bx (Has.new w1 (ints .u64 (wl 0)) 24)
  have C_1 := bx (B_1.out.alloc B_1.out.size (.cells (ints .u64 (wl 0)).toArray 24))
  go_wp2_with (first | ((with_reducible refine wpList_storeB rfl 24 _ _ rfl _ (ints .u64 (wl p)) _ ?_ ?_ N_1.out (wl_len2 _ _) Tryd.underlying24 ?_ (wl_one _) ?_); rfl; rfl; exact cells_wide _; intro w2 hw hg hz0; have P_2 := bx hw; have X0_2 := bx (YX0_1.out.grown hg (ne_som (Nat.ne_of_lt X0_1.out.lt))); have B_2 := bx (C_1.out.grown hg C_1.out.size (fun k hk => by cases hk; exact B_1.out.size)); clear hw hg hz0) | ((with_reducible refine wpList_loadG 24 _ rfl _ (ints .u64 (wl n)) ?_ ?_ X0_2.out Tryd.underlying24 rfl ?_ ?_); rfl; rfl; exact cells_wide _) | ((with_reducible refine wpList_loadG 24 _ rfl _ (ints .u64 (wl p)) ?_ ?_ P_2.out Tryd.underlying24 rfl ?_ ?_); rfl; rfl; exact cells_wide _))
  clear X0_1 B_1 YX0_1 N_1 C_1
  refine (M2.out _).mono ?_; rintro e w3 ⟨rfl, hb⟩
  have X0_3 := bx (X0_2.out.below hb X0_2.out.lt)
  have P_3 := bx (P_2.out.below hb P_2.out.lt)
  have B_3 := bx (B_2.out.trans (hb.mono B_2.out.size))
  clear hb X0_2 P_2 B_2
  have YX0_3 := bx (X0_3.out.alloc (.cells (ints .u64 (wl 0)).toArray 24))
  have YP_3 := bx (P_3.out.alloc (.cells (ints .u64 (wl 0)).toArray 24))
  have N_3 := bx (Has.new w3 (ints .u64 (wl 0)) 24)
  have C_3 := bx (B_3.out.alloc B_3.out.size (.cells (ints .u64 (wl 0)).toArray 24))
  go_wp2_with (first | ((with_reducible refine wpList_storeB rfl 24 _ _ rfl _ (ints .u64 (wl p)) _ ?_ ?_ N_3.out (wl_len2 _ _) Tryd.underlying24 ?_ (wl_one _) ?_); rfl; rfl; exact cells_wide _; intro w4 hw hg hz0; have Q_4 := bx hw; have X0_4 := bx (YX0_3.out.grown hg (ne_som (Nat.ne_of_lt X0_3.out.lt))); have P_4 := bx (YP_3.out.grown hg (ne_som (Nat.ne_of_lt P_3.out.lt))); have B_4 := bx (C_3.out.grown hg C_3.out.size (fun k hk => by cases hk; exact B_3.out.size)); clear hw hg hz0) | ((with_reducible refine wpList_loadG 24 _ rfl _ (ints .u64 (wl n)) ?_ ?_ X0_4.out Tryd.underlying24 rfl ?_ ?_); rfl; rfl; exact cells_wide _) | ((with_reducible refine wpList_loadG 24 _ rfl _ (ints .u64 (wl p)) ?_ ?_ P_4.out Tryd.underlying24 rfl ?_ ?_); rfl; rfl; exact cells_wide _) | ((with_reducible refine wpList_loadG 24 _ rfl _ (ints .u64 (wl p)) ?_ ?_ Q_4.out Tryd.underlying24 rfl ?_ ?_); rfl; rfl; exact cells_wide _))
  clear X0_3 P_3 B_3 YX0_3 YP_3 N_3 C_3
  refine (D1.out _).mono ?_; rintro e w5 ⟨rfl, hb⟩
  have X0_5 := bx (X0_4.out.below hb X0_4.out.lt)
  have P_5 := bx (P_4.out.below hb P_4.out.lt)
  have Q_5 := bx (Q_4.out.below hb Q_4.out.lt)
  have B_5 := bx (B_4.out.trans (hb.mono B_4.out.size))
  clear hb X0_4 P_4 Q_4 B_4
  have YX0_5 := bx (X0_5.out.alloc (.cells (ints .u64 (wl 0)).toArray 24))
  have YP_5 := bx (P_5.out.alloc (.cells (ints .u64 (wl 0)).toArray 24))
  have YQ_5 := bx (Q_5.out.alloc (.cells (ints .u64 (wl 0)).toArray 24))
  have N_5 := bx (Has.new w5 (ints .u64 (wl 0)) 24)
  have C_5 := bx (B_5.out.alloc B_5.out.size (.cells (ints .u64 (wl 0)).toArray 24))
  go_wp2_with (first | ((with_reducible refine wpList_storeB rfl 24 _ _ rfl _ (ints .u64 (wl q)) _ ?_ ?_ N_5.out (wl_len2 _ _) Tryd.underlying24 ?_ (wl_one _) ?_); rfl; rfl; exact cells_wide _; intro w6 hw hg hz0; have R_6 := bx hw; have X0_6 := bx (YX0_5.out.grown hg (ne_som (Nat.ne_of_lt X0_5.out.lt))); have P_6 := bx (YP_5.out.grown hg (ne_som (Nat.ne_of_lt P_5.out.lt))); have Q_6 := bx (YQ_5.out.grown hg (ne_som (Nat.ne_of_lt Q_5.out.lt))); have B_6 := bx (C_5.out.grown hg C_5.out.size (fun k hk => by cases hk; exact B_5.out.size)); clear hw hg hz0) | ((with_reducible refine wpList_loadG 24 _ rfl _ (ints .u64 (wl n)) ?_ ?_ X0_6.out Tryd.underlying24 rfl ?_ ?_); rfl; rfl; exact cells_wide _) | ((with_reducible refine wpList_loadG 24 _ rfl _ (ints .u64 (wl p)) ?_ ?_ P_6.out Tryd.underlying24 rfl ?_ ?_); rfl; rfl; exact cells_wide _) | ((with_reducible refine wpList_loadG 24 _ rfl _ (ints .u64 (wl p)) ?_ ?_ Q_6.out Tryd.underlying24 rfl ?_ ?_); rfl; rfl; exact cells_wide _) | ((with_reducible refine wpList_loadG 24 _ rfl _ (ints .u64 (wl q)) ?_ ?_ R_6.out Tryd.underlying24 rfl ?_ ?_); rfl; rfl; exact cells_wide _))
  clear X0_5 P_5 Q_5 B_5 YX0_5 YP_5 YQ_5 N_5 C_5
  refine (D2.out _).mono ?_; rintro e w7 ⟨rfl, hb⟩
  have X0_7 := bx (X0_6.out.below hb X0_6.out.lt)
  have P_7 := bx (P_6.out.below hb P_6.out.lt)
  have Q_7 := bx (Q_6.out.below hb Q_6.out.lt)
  have R_7 := bx (R_6.out.below hb R_6.out.lt)
  have B_7 := bx (B_6.out.trans (hb.mono B_6.out.size))
  clear hb X0_6 P_6 Q_6 R_6 B_6
  have YX0_7 := bx (X0_7.out.alloc (.cells (ints .u64 (wl 0)).toArray 24))
  have YP_7 := bx (P_7.out.alloc (.cells (ints .u64 (wl 0)).toArray 24))
  have YQ_7 := bx (Q_7.out.alloc (.cells (ints .u64 (wl 0)).toArray 24))
  have YR_7 := bx (R_7.out.alloc (.cells (ints .u64 (wl 0)).toArray 24))
  have N_7 := bx (Has.new w7 (ints .u64 (wl 0)) 24)
  have C_7 := bx (B_7.out.alloc B_7.out.size (.cells (ints .u64 (wl 0)).toArray 24))
  go_wp2_with (first | ((with_reducible refine wpList_storeB rfl 24 _ _ rfl _ (ints .u64 (wl q)) _ ?_ ?_ N_7.out (wl_len2 _ _) Tryd.underlying24 ?_ (wl_one _) ?_); rfl; rfl; exact cells_wide _; intro w8 hw hg hz0; have S_8 := bx hw; have X0_8 := bx (YX0_7.out.grown hg (ne_som (Nat.ne_of_lt X0_7.out.lt))); have P_8 := bx (YP_7.out.grown hg (ne_som (Nat.ne_of_lt P_7.out.lt))); have Q_8 := bx (YQ_7.out.grown hg (ne_som (Nat.ne_of_lt Q_7.out.lt))); have R_8 := bx (YR_7.out.grown hg (ne_som (Nat.ne_of_lt R_7.out.lt))); have B_8 := bx (C_7.out.grown hg C_7.out.size (fun k hk => by cases hk; exact B_7.out.size)); clear hw hg hz0) | ((with_reducible refine wpList_loadG 24 _ rfl _ (ints .u64 (wl n)) ?_ ?_ X0_8.out Tryd.underlying24 rfl ?_ ?_); rfl; rfl; exact cells_wide _) | ((with_reducible refine wpList_loadG 24 _ rfl _ (ints .u64 (wl p)) ?_ ?_ P_8.out Tryd.underlying24 rfl ?_ ?_); rfl; rfl; exact cells_wide _) | ((with_reducible refine wpList_loadG 24 _ rfl _ (ints .u64 (wl p)) ?_ ?_ Q_8.out Tryd.underlying24 rfl ?_ ?_); rfl; rfl; exact cells_wide _) | ((with_reducible refine wpList_loadG 24 _ rfl _ (ints .u64 (wl q)) ?_ ?_ R_8.out Tryd.underlying24 rfl ?_ ?_); rfl; rfl; exact cells_wide _) | ((with_reducible refine wpList_loadG 24 _ rfl _ (ints .u64 (wl q)) ?_ ?_ S_8.out Tryd.underlying24 rfl ?_ ?_); rfl; rfl; exact cells_wide _))
  clear X0_7 P_7 Q_7 R_7 B_7 YX0_7 YP_7 YQ_7 YR_7 N_7 C_7
  refine (AW.out _).mono ?_; rintro e w9 ⟨rfl, hb⟩
  have X0_9 := bx (X0_8.out.below hb X0_8.out.lt)
  have P_9 := bx (P_8.out.below hb P_8.out.lt)
  have Q_9 := bx (Q_8.out.below hb Q_8.out.lt)
  have R_9 := bx (R_8.out.below hb R_8.out.lt)
  have S_9 := bx (S_8.out.below hb S_8.out.lt)
  have B_9 := bx (B_8.out.trans (hb.mono B_8.out.size))
  clear hb X0_8 P_8 Q_8 R_8 S_8 B_8
  go_wp2_with (first | ((with_reducible refine wpList_loadG 24 _ rfl _ (ints .u64 (wl n)) ?_ ?_ X0_9.out Tryd.underlying24 rfl ?_ ?_); rfl; rfl; exact cells_wide _) | ((with_reducible refine wpList_loadG 24 _ rfl _ (ints .u64 (wl p)) ?_ ?_ P_9.out Tryd.underlying24 rfl ?_ ?_); rfl; rfl; exact cells_wide _) | ((with_reducible refine wpList_loadG 24 _ rfl _ (ints .u64 (wl p)) ?_ ?_ Q_9.out Tryd.underlying24 rfl ?_ ?_); rfl; rfl; exact cells_wide _) | ((with_reducible refine wpList_loadG 24 _ rfl _ (ints .u64 (wl q)) ?_ ?_ R_9.out Tryd.underlying24 rfl ?_ ?_); rfl; rfl; exact cells_wide _) | ((with_reducible refine wpList_loadG 24 _ rfl _ (ints .u64 (wl q)) ?_ ?_ S_9.out Tryd.underlying24 rfl ?_ ?_); rfl; rfl; exact cells_wide _))
  go_ret
  exact ⟨rfl, B_9.out⟩
end Go.Proofs.YtpgpplpddjjchaaDoor
