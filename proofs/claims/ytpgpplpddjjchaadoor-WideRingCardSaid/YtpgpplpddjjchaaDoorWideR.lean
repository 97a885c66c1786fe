/- Numbers of 256 bits: the law of commutativity, associativity and distributivity. -/
import Derived.Test.YtpgpplpddjjchaaDoorWideX
import Derived.Test.YtpgpplpddjjchaaDoorWideL
import Derived.Test.YtpgpplpddjjchaaDoorWideSub
import Derived.Great.Walk
namespace Go.Proofs.YtpgpplpddjjchaaDoor
open Go.RowKit
theorem built3 (n m l : Nat) : Tryd.prog.builtSlice 24 3 [(0, .agg (ints .u64 (wl n)).toArray), (1, .agg (ints .u64 (wl m)).toArray), (2, .agg (ints .u64 (wl l)).toArray)] = some (([n, m, l] : List Nat).flatMap wv).toArray := by kernel_rfl
theorem wrow3 (a b c : Nat) (ha : a < 2 ^ 256) (hb : b < 2 ^ 256) (hc : c < 2 ^ 256) (w : World) (g : Nat) (hg : w.heap.size = g) : WRow (w.alloc (.cells (wv a ++ (wv b ++ wv c)).toArray 24)) (some ⟨g, 0, none⟩) 3 [a, b, c] :=
  ⟨rfl, fun x hx => by simp at hx; rcases hx with rfl | rfl | rfl <;> assumption, fun _ => ⟨_, [], rfl, by subst hg; have := Has.new w (wv a ++ (wv b ++ wv c)) 24; simpa using this⟩⟩
set_option maxRecDepth 20000 in
set_option maxHeartbeats 1000000 in
theorem wideRing_no (n m l K : Nat) (hn : n < 2 ^ 256) (hm : m < 2 ^ 256) (hl : l < 2 ^ 256) (hK : K < 18446744073709551616) (s : Nat) (hs : s < 2 ^ 256) (hso : okW (n + m) = s) (hno : erW (n + m) ≠ 0 ∨ (erW (n + m) = 0 ∧ erW (s * K) ≠ 0)) (w : World) :
    Calls Tryd.prog 9 #[.agg (ints .u64 (wl n)).toArray, .agg (ints .u64 (wl m)).toArray, .agg (ints .u64 (wl l)).toArray, .int .u64 K] w fun e w' => e = .returned (.bool true) ∧ Below w.heap.size w w' := by
  have WR1 := bx (wrow3 n m l hn hm hl)
  have WR2 := bx (wrow3 l n m hl hn hm)
  have SM1 : Bx (∀ (g : Nat) (w0 : World), WRow w0 (some ⟨g, 0, none⟩) 3 [n, m, l] → Calls Tryd.prog 26 #[.slice (some ⟨g, 0, none⟩) 3 3] w0 fun e w' => e = .returned (.tuple #[.agg (ints .u64 (wl (okW (n + m + l)))).toArray, .int .i64 (erW (n + m + l))]) ∧ Below w0.heap.size w0 w') := ⟨fun g w0 h => by
    have := sumP_any _ 3 3 [n, m, l] w0 h (by decide)
    rw [show ([n, m, l] : List Nat).sum = n + m + l by simp; omega] at this
    exact this⟩
  have SM2 : Bx (∀ (g : Nat) (w0 : World), WRow w0 (some ⟨g, 0, none⟩) 3 [l, n, m] → Calls Tryd.prog 26 #[.slice (some ⟨g, 0, none⟩) 3 3] w0 fun e w' => e = .returned (.tuple #[.agg (ints .u64 (wl (okW (n + m + l)))).toArray, .int .i64 (erW (n + m + l))]) ∧ Below w0.heap.size w0 w') := ⟨fun g w0 h => by
    have := sumP_any _ 3 3 [l, n, m] w0 h (by decide)
    rw [show ([l, n, m] : List Nat).sum = n + m + l by simp; omega] at this
    exact this⟩
  have A1 := bx (add_any n m hn hm)
  have AW := bx awake_any
  have hq : ∀ (p : Nat) (w : World), (Op.equalIn 10000 24 (.agg (ints .u64 (wl p)).toArray) (.agg (ints .u64 (wl p)).toArray)).run Tryd.prog w = .ok true w := fun p w => by rw [wide_same, decide_eq_true rfl]
  have hz := wz_lit
  generalize okW (n + m + l) = p at *
  generalize erW (n + m + l) = f at *
  have M1 := bx (mulS_any s K hs hK)
  unfold WE at *
  rw [hso] at A1
  generalize okW (s * K) = t at *
  generalize erW (s * K) = g at *
  generalize erW (n + m) = f1 at *
  have HNO := bx hno
  clear hn hm hl hs hso hno
  obtain ⟨wA, hwA⟩ : ∃ wA, wA = (((w.alloc (.cells (ints .u64 (wl n)).toArray 24)).alloc (.cells (ints .u64 (wl m)).toArray 24)).alloc (.cells (ints .u64 (wl l)).toArray 24)) := ⟨_, rfl⟩
  have X0_0 : Bx (Has wA (w.heap.size) (ints .u64 (wl n))) := ⟨by rw [hwA]; have := ((Has.new w (ints .u64 (wl n)) 24).alloc (.cells (ints .u64 (wl m)).toArray 24)).alloc (.cells (ints .u64 (wl l)).toArray 24); exact this⟩
  have X1_0 : Bx (Has wA (w.heap.size + 1) (ints .u64 (wl m))) := ⟨by rw [hwA]; have := (Has.new (w.alloc (.cells (ints .u64 (wl n)).toArray 24)) (ints .u64 (wl m)) 24).alloc (.cells (ints .u64 (wl l)).toArray 24); rwa [alloc_size] at this⟩
  have X2_0 : Bx (Has wA (w.heap.size + 1 + 1) (ints .u64 (wl l))) := ⟨by rw [hwA]; have := Has.new ((w.alloc (.cells (ints .u64 (wl n)).toArray 24)).alloc (.cells (ints .u64 (wl m)).toArray 24)) (ints .u64 (wl l)) 24; rwa [alloc_size, alloc_size] at this⟩
  have B_0 : Bx (Below w.heap.size w wA) := ⟨by rw [hwA]; exact (((Below.refl w.heap.size w).alloc (Nat.le_refl _) _).alloc (by simp) _).alloc (by simp; omega) _⟩
  subst hwA
  go_enter Tryd.func9, Tryd.ntmps9
  go_wp2_with (first | ((with_reducible refine wpList_loadG 24 _ rfl _ (ints .u64 (wl n)) ?_ ?_ X0_0.out Tryd.underlying24 rfl ?_ ?_); rfl; rfl; exact cells_wide _) | ((with_reducible refine wpList_loadG 24 _ rfl _ (ints .u64 (wl m)) ?_ ?_ X1_0.out Tryd.underlying24 rfl ?_ ?_); rfl; rfl; exact cells_wide _) | ((with_reducible refine wpList_loadG 24 _ rfl _ (ints .u64 (wl l)) ?_ ?_ X2_0.out Tryd.underlying24 rfl ?_ ?_); rfl; rfl; exact cells_wide _) | ((with_reducible refine Great.wpList_buildSliceTo rfl 41 24 3 _ rfl _ rfl _ rfl Tryd.underlying41 (([n, m, l] : List Nat).flatMap wv).toArray ?_ ?_); rw [Array.toList_map]; exact built3 _ _ _))
  have EX0 := bx (X0_0.out.alloc (.cells (wv n ++ (wv m ++ wv l)).toArray 24))
  have EX1 := bx (X1_0.out.alloc (.cells (wv n ++ (wv m ++ wv l)).toArray 24))
  have EX2 := bx (X2_0.out.alloc (.cells (wv n ++ (wv m ++ wv l)).toArray 24))
  have EB := bx (B_0.out.alloc B_0.out.size (.cells (wv n ++ (wv m ++ wv l)).toArray 24))
  refine (SM1.out _ _ (WR1.out _ _ ?_)).mono ?_
  · simp
  rintro e w1 ⟨rfl, hb⟩
  clear X0_0 X1_0 X2_0 B_0
  have X0_1 := bx (EX0.out.below hb EX0.out.lt)
  have X1_1 := bx (EX1.out.below hb EX1.out.lt)
  have X2_1 := bx (EX2.out.below hb EX2.out.lt)
  have B_1 := bx (EB.out.trans (hb.mono EB.out.size))
  clear hb EX0 EX1 EX2 EB
  have YX0_1 := bx (X0_1.out.alloc (.cells (ints .u64 (wl 0)).toArray 24))
  have YX1_1 := bx (X1_1.out.alloc (.cells (ints .u64 (wl 0)).toArray 24))
  have YX2_1 := bx (X2_1.out.alloc (.cells (ints .u64 (wl 0)).toArray 24))
  have N_1 := bx (Has.new w1 (ints .u64 (wl 0)) 24)
  have C_1 := bx (B_1.out.alloc B_1.out.size (.cells (ints .u64 (wl 0)).toArray 24))
  go_wp2_with (first | ((with_reducible refine wpList_storeB rfl 24 _ _ rfl _ (ints .u64 (wl p)) _ ?_ ?_ N_1.out (wl_len2 _ _) Tryd.underlying24 ?_ (wl_one _) ?_); rfl; rfl; exact cells_wide _; intro w2 hw hg hz0; have P_2 := bx hw; have X0_2 := bx (YX0_1.out.grown hg (ne_som (Nat.ne_of_lt X0_1.out.lt))); have X1_2 := bx (YX1_1.out.grown hg (ne_som (Nat.ne_of_lt X1_1.out.lt))); have X2_2 := bx (YX2_1.out.grown hg (ne_som (Nat.ne_of_lt X2_1.out.lt))); have B_2 := bx (C_1.out.grown hg C_1.out.size (fun k hk => by cases hk; exact B_1.out.size)); clear hw hg hz0) | ((with_reducible refine wpList_loadG 24 _ rfl _ (ints .u64 (wl n)) ?_ ?_ X0_2.out Tryd.underlying24 rfl ?_ ?_); rfl; rfl; exact cells_wide _) | ((with_reducible refine wpList_loadG 24 _ rfl _ (ints .u64 (wl m)) ?_ ?_ X1_2.out Tryd.underlying24 rfl ?_ ?_); rfl; rfl; exact cells_wide _) | ((with_reducible refine wpList_loadG 24 _ rfl _ (ints .u64 (wl l)) ?_ ?_ X2_2.out Tryd.underlying24 rfl ?_ ?_); rfl; rfl; exact cells_wide _) | ((with_reducible refine wpList_loadG 24 _ rfl _ (ints .u64 (wl p)) ?_ ?_ P_2.out Tryd.underlying24 rfl ?_ ?_); rfl; rfl; exact cells_wide _) | ((with_reducible refine Great.wpList_buildSliceTo rfl 41 24 3 _ rfl _ rfl _ rfl Tryd.underlying41 (([l, n, m] : List Nat).flatMap wv).toArray ?_ ?_); rw [Array.toList_map]; exact built3 _ _ _))
  clear X0_1 X1_1 X2_1 B_1 YX0_1 YX1_1 YX2_1 N_1 C_1
  have EX0 := bx (X0_2.out.alloc (.cells (wv l ++ (wv n ++ wv m)).toArray 24))
  have EX1 := bx (X1_2.out.alloc (.cells (wv l ++ (wv n ++ wv m)).toArray 24))
  have EX2 := bx (X2_2.out.alloc (.cells (wv l ++ (wv n ++ wv m)).toArray 24))
  have EP := bx (P_2.out.alloc (.cells (wv l ++ (wv n ++ wv m)).toArray 24))
  have EB := bx (B_2.out.alloc B_2.out.size (.cells (wv l ++ (wv n ++ wv m)).toArray 24))
  refine (SM2.out _ _ (WR2.out _ _ ?_)).mono ?_
  · rfl
  rintro e w3 ⟨rfl, hb⟩
  clear X0_2 X1_2 X2_2 P_2 B_2
  have X0_3 := bx (EX0.out.below hb EX0.out.lt)
  have X1_3 := bx (EX1.out.below hb EX1.out.lt)
  have X2_3 := bx (EX2.out.below hb EX2.out.lt)
  have P_3 := bx (EP.out.below hb EP.out.lt)
  have B_3 := bx (EB.out.trans (hb.mono EB.out.size))
  clear hb EX0 EX1 EX2 EP EB
  have YX0_3 := bx (X0_3.out.alloc (.cells (ints .u64 (wl 0)).toArray 24))
  have YX1_3 := bx (X1_3.out.alloc (.cells (ints .u64 (wl 0)).toArray 24))
  have YX2_3 := bx (X2_3.out.alloc (.cells (ints .u64 (wl 0)).toArray 24))
  have YP_3 := bx (P_3.out.alloc (.cells (ints .u64 (wl 0)).toArray 24))
  have N_3 := bx (Has.new w3 (ints .u64 (wl 0)) 24)
  have C_3 := bx (B_3.out.alloc B_3.out.size (.cells (ints .u64 (wl 0)).toArray 24))
  go_wp2_with (first | ((with_reducible refine wpList_storeB rfl 24 _ _ rfl _ (ints .u64 (wl p)) _ ?_ ?_ N_3.out (wl_len2 _ _) Tryd.underlying24 ?_ (wl_one _) ?_); rfl; rfl; exact cells_wide _; intro w4 hw hg hz0; have Q_4 := bx hw; have X0_4 := bx (YX0_3.out.grown hg (ne_som (Nat.ne_of_lt X0_3.out.lt))); have X1_4 := bx (YX1_3.out.grown hg (ne_som (Nat.ne_of_lt X1_3.out.lt))); have X2_4 := bx (YX2_3.out.grown hg (ne_som (Nat.ne_of_lt X2_3.out.lt))); have P_4 := bx (YP_3.out.grown hg (ne_som (Nat.ne_of_lt P_3.out.lt))); have B_4 := bx (C_3.out.grown hg C_3.out.size (fun k hk => by cases hk; exact B_3.out.size)); clear hw hg hz0) | ((with_reducible refine wpList_loadG 24 _ rfl _ (ints .u64 (wl n)) ?_ ?_ X0_4.out Tryd.underlying24 rfl ?_ ?_); rfl; rfl; exact cells_wide _) | ((with_reducible refine wpList_loadG 24 _ rfl _ (ints .u64 (wl m)) ?_ ?_ X1_4.out Tryd.underlying24 rfl ?_ ?_); rfl; rfl; exact cells_wide _) | ((with_reducible refine wpList_loadG 24 _ rfl _ (ints .u64 (wl l)) ?_ ?_ X2_4.out Tryd.underlying24 rfl ?_ ?_); rfl; rfl; exact cells_wide _) | ((with_reducible refine wpList_loadG 24 _ rfl _ (ints .u64 (wl p)) ?_ ?_ P_4.out Tryd.underlying24 rfl ?_ ?_); rfl; rfl; exact cells_wide _) | ((with_reducible refine wpList_loadG 24 _ rfl _ (ints .u64 (wl p)) ?_ ?_ Q_4.out Tryd.underlying24 rfl ?_ ?_); rfl; rfl; exact cells_wide _))
  clear X0_3 X1_3 X2_3 P_3 B_3 YX0_3 YX1_3 YX2_3 YP_3 N_3 C_3
  refine (A1.out _).mono ?_; rintro e w5 ⟨rfl, hb⟩
  have X0_5 := bx (X0_4.out.below hb X0_4.out.lt)
  have X1_5 := bx (X1_4.out.below hb X1_4.out.lt)
  have X2_5 := bx (X2_4.out.below hb X2_4.out.lt)
  have P_5 := bx (P_4.out.below hb P_4.out.lt)
  have Q_5 := bx (Q_4.out.below hb Q_4.out.lt)
  have B_5 := bx (B_4.out.trans (hb.mono B_4.out.size))
  clear hb X0_4 X1_4 X2_4 P_4 Q_4 B_4
  have YX0_5 := bx (X0_5.out.alloc (.cells (ints .u64 (wl 0)).toArray 24))
  have YX1_5 := bx (X1_5.out.alloc (.cells (ints .u64 (wl 0)).toArray 24))
  have YX2_5 := bx (X2_5.out.alloc (.cells (ints .u64 (wl 0)).toArray 24))
  have YP_5 := bx (P_5.out.alloc (.cells (ints .u64 (wl 0)).toArray 24))
  have YQ_5 := bx (Q_5.out.alloc (.cells (ints .u64 (wl 0)).toArray 24))
  have N_5 := bx (Has.new w5 (ints .u64 (wl 0)) 24)
  have C_5 := bx (B_5.out.alloc B_5.out.size (.cells (ints .u64 (wl 0)).toArray 24))
  go_wp2_with (first | ((with_reducible refine wpList_storeB rfl 24 _ _ rfl _ (ints .u64 (wl s)) _ ?_ ?_ N_5.out (wl_len2 _ _) Tryd.underlying24 ?_ (wl_one _) ?_); rfl; rfl; exact cells_wide _; intro w6 hw hg hz0; have S_6 := bx hw; have X0_6 := bx (YX0_5.out.grown hg (ne_som (Nat.ne_of_lt X0_5.out.lt))); have X1_6 := bx (YX1_5.out.grown hg (ne_som (Nat.ne_of_lt X1_5.out.lt))); have X2_6 := bx (YX2_5.out.grown hg (ne_som (Nat.ne_of_lt X2_5.out.lt))); have P_6 := bx (YP_5.out.grown hg (ne_som (Nat.ne_of_lt P_5.out.lt))); have Q_6 := bx (YQ_5.out.grown hg (ne_som (Nat.ne_of_lt Q_5.out.lt))); have B_6 := bx (C_5.out.grown hg C_5.out.size (fun k hk => by cases hk; exact B_5.out.size)); clear hw hg hz0) | ((with_reducible refine wpList_loadG 24 _ rfl _ (ints .u64 (wl n)) ?_ ?_ X0_6.out Tryd.underlying24 rfl ?_ ?_); rfl; rfl; exact cells_wide _) | ((with_reducible refine wpList_loadG 24 _ rfl _ (ints .u64 (wl m)) ?_ ?_ X1_6.out Tryd.underlying24 rfl ?_ ?_); rfl; rfl; exact cells_wide _) | ((with_reducible refine wpList_loadG 24 _ rfl _ (ints .u64 (wl l)) ?_ ?_ X2_6.out Tryd.underlying24 rfl ?_ ?_); rfl; rfl; exact cells_wide _) | ((with_reducible refine wpList_loadG 24 _ rfl _ (ints .u64 (wl p)) ?_ ?_ P_6.out Tryd.underlying24 rfl ?_ ?_); rfl; rfl; exact cells_wide _) | ((with_reducible refine wpList_loadG 24 _ rfl _ (ints .u64 (wl p)) ?_ ?_ Q_6.out Tryd.underlying24 rfl ?_ ?_); rfl; rfl; exact cells_wide _) | ((with_reducible refine wpList_loadG 24 _ rfl _ (ints .u64 (wl s)) ?_ ?_ S_6.out Tryd.underlying24 rfl ?_ ?_); rfl; rfl; exact cells_wide _))
  clear X0_5 X1_5 X2_5 P_5 Q_5 B_5 YX0_5 YX1_5 YX2_5 YP_5 YQ_5 N_5 C_5
  refine (M1.out _).mono ?_; rintro e w7 ⟨rfl, hb⟩
  have X0_7 := bx (X0_6.out.below hb X0_6.out.lt)
  have X1_7 := bx (X1_6.out.below hb X1_6.out.lt)
  have X2_7 := bx (X2_6.out.below hb X2_6.out.lt)
  have P_7 := bx (P_6.out.below hb P_6.out.lt)
  have Q_7 := bx (Q_6.out.below hb Q_6.out.lt)
  have S_7 := bx (S_6.out.below hb S_6.out.lt)
  have B_7 := bx (B_6.out.trans (hb.mono B_6.out.size))
  clear hb X0_6 X1_6 X2_6 P_6 Q_6 S_6 B_6
  have YX0_7 := bx (X0_7.out.alloc (.cells (ints .u64 (wl 0)).toArray 24))
  have YX1_7 := bx (X1_7.out.alloc (.cells (ints .u64 (wl 0)).toArray 24))
  have YX2_7 := bx (X2_7.out.alloc (.cells (ints .u64 (wl 0)).toArray 24))
  have YP_7 := bx (P_7.out.alloc (.cells (ints .u64 (wl 0)).toArray 24))
  have YQ_7 := bx (Q_7.out.alloc (.cells (ints .u64 (wl 0)).toArray 24))
  have YS_7 := bx (S_7.out.alloc (.cells (ints .u64 (wl 0)).toArray 24))
  have N_7 := bx (Has.new w7 (ints .u64 (wl 0)) 24)
  have C_7 := bx (B_7.out.alloc B_7.out.size (.cells (ints .u64 (wl 0)).toArray 24))
  rcases HNO.out with hno | ⟨rfl, hno⟩
  · have hf : (f1 == 0) = false := by simpa using hno
    go_wp2_with (first | ((with_reducible refine wpList_storeB rfl 24 _ _ rfl _ (ints .u64 (wl t)) _ ?_ ?_ N_7.out (wl_len2 _ _) Tryd.underlying24 ?_ (wl_one _) ?_); rfl; rfl; exact cells_wide _; intro w8 hw hg hz0; have T_8 := bx hw; have X0_8 := bx (YX0_7.out.grown hg (ne_som (Nat.ne_of_lt X0_7.out.lt))); have X1_8 := bx (YX1_7.out.grown hg (ne_som (Nat.ne_of_lt X1_7.out.lt))); have X2_8 := bx (YX2_7.out.grown hg (ne_som (Nat.ne_of_lt X2_7.out.lt))); have P_8 := bx (YP_7.out.grown hg (ne_som (Nat.ne_of_lt P_7.out.lt))); have Q_8 := bx (YQ_7.out.grown hg (ne_som (Nat.ne_of_lt Q_7.out.lt))); have S_8 := bx (YS_7.out.grown hg (ne_som (Nat.ne_of_lt S_7.out.lt))); have B_8 := bx (C_7.out.grown hg C_7.out.size (fun k hk => by cases hk; exact B_7.out.size)); clear hw hg hz0) | ((with_reducible refine wpList_loadG 24 _ rfl _ (ints .u64 (wl n)) ?_ ?_ X0_8.out Tryd.underlying24 rfl ?_ ?_); rfl; rfl; exact cells_wide _) | ((with_reducible refine wpList_loadG 24 _ rfl _ (ints .u64 (wl m)) ?_ ?_ X1_8.out Tryd.underlying24 rfl ?_ ?_); rfl; rfl; exact cells_wide _) | ((with_reducible refine wpList_loadG 24 _ rfl _ (ints .u64 (wl l)) ?_ ?_ X2_8.out Tryd.underlying24 rfl ?_ ?_); rfl; rfl; exact cells_wide _) | ((with_reducible refine wpList_loadG 24 _ rfl _ (ints .u64 (wl p)) ?_ ?_ P_8.out Tryd.underlying24 rfl ?_ ?_); rfl; rfl; exact cells_wide _) | ((with_reducible refine wpList_loadG 24 _ rfl _ (ints .u64 (wl p)) ?_ ?_ Q_8.out Tryd.underlying24 rfl ?_ ?_); rfl; rfl; exact cells_wide _) | ((with_reducible refine wpList_loadG 24 _ rfl _ (ints .u64 (wl s)) ?_ ?_ S_8.out Tryd.underlying24 rfl ?_ ?_); rfl; rfl; exact cells_wide _) | ((with_reducible refine wpList_loadG 24 _ rfl _ (ints .u64 (wl t)) ?_ ?_ T_8.out Tryd.underlying24 rfl ?_ ?_); rfl; rfl; exact cells_wide _))
    refine (AW.out _).mono ?_; rintro e w9 ⟨rfl, hb⟩
    have X0_9 := bx (X0_8.out.below hb X0_8.out.lt)
    have X1_9 := bx (X1_8.out.below hb X1_8.out.lt)
    have X2_9 := bx (X2_8.out.below hb X2_8.out.lt)
    have P_9 := bx (P_8.out.below hb P_8.out.lt)
    have Q_9 := bx (Q_8.out.below hb Q_8.out.lt)
    have S_9 := bx (S_8.out.below hb S_8.out.lt)
    have T_9 := bx (T_8.out.below hb T_8.out.lt)
    have B_9 := bx (B_8.out.trans (hb.mono B_8.out.size))
    clear hb X0_8 X1_8 X2_8 P_8 Q_8 S_8 T_8 B_8
    go_wp2_with (first | ((with_reducible refine wpList_loadG 24 _ rfl _ (ints .u64 (wl n)) ?_ ?_ X0_9.out Tryd.underlying24 rfl ?_ ?_); rfl; rfl; exact cells_wide _) | ((with_reducible refine wpList_loadG 24 _ rfl _ (ints .u64 (wl m)) ?_ ?_ X1_9.out Tryd.underlying24 rfl ?_ ?_); rfl; rfl; exact cells_wide _) | ((with_reducible refine wpList_loadG 24 _ rfl _ (ints .u64 (wl l)) ?_ ?_ X2_9.out Tryd.underlying24 rfl ?_ ?_); rfl; rfl; exact cells_wide _) | ((with_reducible refine wpList_loadG 24 _ rfl _ (ints .u64 (wl p)) ?_ ?_ P_9.out Tryd.underlying24 rfl ?_ ?_); rfl; rfl; exact cells_wide _) | ((with_reducible refine wpList_loadG 24 _ rfl _ (ints .u64 (wl p)) ?_ ?_ Q_9.out Tryd.underlying24 rfl ?_ ?_); rfl; rfl; exact cells_wide _) | ((with_reducible refine wpList_loadG 24 _ rfl _ (ints .u64 (wl s)) ?_ ?_ S_9.out Tryd.underlying24 rfl ?_ ?_); rfl; rfl; exact cells_wide _) | ((with_reducible refine wpList_loadG 24 _ rfl _ (ints .u64 (wl t)) ?_ ?_ T_9.out Tryd.underlying24 rfl ?_ ?_); rfl; rfl; exact cells_wide _))
    go_ret
    exact ⟨rfl, B_9.out⟩
  · have hf : (g == 0) = false := by simpa using hno
    go_wp2_with (first | ((with_reducible refine wpList_storeB rfl 24 _ _ rfl _ (ints .u64 (wl t)) _ ?_ ?_ N_7.out (wl_len2 _ _) Tryd.underlying24 ?_ (wl_one _) ?_); rfl; rfl; exact cells_wide _; intro w8 hw hg hz0; have T_8 := bx hw; have X0_8 := bx (YX0_7.out.grown hg (ne_som (Nat.ne_of_lt X0_7.out.lt))); have X1_8 := bx (YX1_7.out.grown hg (ne_som (Nat.ne_of_lt X1_7.out.lt))); have X2_8 := bx (YX2_7.out.grown hg (ne_som (Nat.ne_of_lt X2_7.out.lt))); have P_8 := bx (YP_7.out.grown hg (ne_som (Nat.ne_of_lt P_7.out.lt))); have Q_8 := bx (YQ_7.out.grown hg (ne_som (Nat.ne_of_lt Q_7.out.lt))); have S_8 := bx (YS_7.out.grown hg (ne_som (Nat.ne_of_lt S_7.out.lt))); have B_8 := bx (C_7.out.grown hg C_7.out.size (fun k hk => by cases hk; exact B_7.out.size)); clear hw hg hz0) | ((with_reducible refine wpList_loadG 24 _ rfl _ (ints .u64 (wl n)) ?_ ?_ X0_8.out Tryd.underlying24 rfl ?_ ?_); rfl; rfl; exact cells_wide _) | ((with_reducible refine wpList_loadG 24 _ rfl _ (ints .u64 (wl m)) ?_ ?_ X1_8.out Tryd.underlying24 rfl ?_ ?_); rfl; rfl; exact cells_wide _) | ((with_reducible refine wpList_loadG 24 _ rfl _ (ints .u64 (wl l)) ?_ ?_ X2_8.out Tryd.underlying24 rfl ?_ ?_); rfl; rfl; exact cells_wide _) | ((with_reducible refine wpList_loadG 24 _ rfl _ (ints .u64 (wl p)) ?_ ?_ P_8.out Tryd.underlying24 rfl ?_ ?_); rfl; rfl; exact cells_wide _) | ((with_reducible refine wpList_loadG 24 _ rfl _ (ints .u64 (wl p)) ?_ ?_ Q_8.out Tryd.underlying24 rfl ?_ ?_); rfl; rfl; exact cells_wide _) | ((with_reducible refine wpList_loadG 24 _ rfl _ (ints .u64 (wl s)) ?_ ?_ S_8.out Tryd.underlying24 rfl ?_ ?_); rfl; rfl; exact cells_wide _) | ((with_reducible refine wpList_loadG 24 _ rfl _ (ints .u64 (wl t)) ?_ ?_ T_8.out Tryd.underlying24 rfl ?_ ?_); rfl; rfl; exact cells_wide _))
    refine (AW.out _).mono ?_; rintro e w9 ⟨rfl, hb⟩
    have X0_9 := bx (X0_8.out.below hb X0_8.out.lt)
    have X1_9 := bx (X1_8.out.below hb X1_8.out.lt)
    have X2_9 := bx (X2_8.out.below hb X2_8.out.lt)
    have P_9 := bx (P_8.out.below hb P_8.out.lt)
    have Q_9 := bx (Q_8.out.below hb Q_8.out.lt)
    have S_9 := bx (S_8.out.below hb S_8.out.lt)
    have T_9 := bx (T_8.out.below hb T_8.out.lt)
    have B_9 := bx (B_8.out.trans (hb.mono B_8.out.size))
    clear hb X0_8 X1_8 X2_8 P_8 Q_8 S_8 T_8 B_8
    go_wp2_with (first | ((with_reducible refine wpList_loadG 24 _ rfl _ (ints .u64 (wl n)) ?_ ?_ X0_9.out Tryd.underlying24 rfl ?_ ?_); rfl; rfl; exact cells_wide _) | ((with_reducible refine wpList_loadG 24 _ rfl _ (ints .u64 (wl m)) ?_ ?_ X1_9.out Tryd.underlying24 rfl ?_ ?_); rfl; rfl; exact cells_wide _) | ((with_reducible refine wpList_loadG 24 _ rfl _ (ints .u64 (wl l)) ?_ ?_ X2_9.out Tryd.underlying24 rfl ?_ ?_); rfl; rfl; exact cells_wide _) | ((with_reducible refine wpList_loadG 24 _ rfl _ (ints .u64 (wl p)) ?_ ?_ P_9.out Tryd.underlying24 rfl ?_ ?_); rfl; rfl; exact cells_wide _) | ((with_reducible refine wpList_loadG 24 _ rfl _ (ints .u64 (wl p)) ?_ ?_ Q_9.out Tryd.underlying24 rfl ?_ ?_); rfl; rfl; exact cells_wide _) | ((with_reducible refine wpList_loadG 24 _ rfl _ (ints .u64 (wl s)) ?_ ?_ S_9.out Tryd.underlying24 rfl ?_ ?_); rfl; rfl; exact cells_wide _) | ((with_reducible refine wpList_loadG 24 _ rfl _ (ints .u64 (wl t)) ?_ ?_ T_9.out Tryd.underlying24 rfl ?_ ?_); rfl; rfl; exact cells_wide _))
    go_ret
    exact ⟨rfl, B_9.out⟩
set_option maxRecDepth 20000 in
set_option maxHeartbeats 1000000 in
theorem wideRing_yes (n m l K : Nat) (hn : n < 2 ^ 256) (hm : m < 2 ^ 256) (hl : l < 2 ^ 256) (hK : K < 18446744073709551616) (h1 : n + m < 2 ^ 256) (h2 : (n + m) * K < 2 ^ 256) (w : World) :
    Calls Tryd.prog 9 #[.agg (ints .u64 (wl n)).toArray, .agg (ints .u64 (wl m)).toArray, .agg (ints .u64 (wl l)).toArray, .int .u64 K] w fun e w' => e = .returned (.bool true) ∧ Below w.heap.size w w' := by
  have WR1 := bx (wrow3 n m l hn hm hl)
  have WR2 := bx (wrow3 l n m hl hn hm)
  have SM1 : Bx (∀ (g : Nat) (w0 : World), WRow w0 (some ⟨g, 0, none⟩) 3 [n, m, l] → Calls Tryd.prog 26 #[.slice (some ⟨g, 0, none⟩) 3 3] w0 fun e w' => e = .returned (.tuple #[.agg (ints .u64 (wl (okW (n + m + l)))).toArray, .int .i64 (erW (n + m + l))]) ∧ Below w0.heap.size w0 w') := ⟨fun g w0 h => by
    have := sumP_any _ 3 3 [n, m, l] w0 h (by decide)
    rw [show ([n, m, l] : List Nat).sum = n + m + l by simp; omega] at this
    exact this⟩
  have SM2 : Bx (∀ (g : Nat) (w0 : World), WRow w0 (some ⟨g, 0, none⟩) 3 [l, n, m] → Calls Tryd.prog 26 #[.slice (some ⟨g, 0, none⟩) 3 3] w0 fun e w' => e = .returned (.tuple #[.agg (ints .u64 (wl (okW (n + m + l)))).toArray, .int .i64 (erW (n + m + l))]) ∧ Below w0.heap.size w0 w') := ⟨fun g w0 h => by
    have := sumP_any _ 3 3 [l, n, m] w0 h (by decide)
    rw [show ([l, n, m] : List Nat).sum = n + m + l by simp; omega] at this
    exact this⟩
  have A1 := bx (add_any n m hn hm)
  have AW := bx awake_any
  have hq : ∀ (p : Nat) (w : World), (Op.equalIn 10000 24 (.agg (ints .u64 (wl p)).toArray) (.agg (ints .u64 (wl p)).toArray)).run Tryd.prog w = .ok true w := fun p w => by rw [wide_same, decide_eq_true rfl]
  have hz := wz_lit
  generalize okW (n + m + l) = p at *
  generalize erW (n + m + l) = f at *
  have e1 : n * K + m * K = (n + m) * K := (Nat.add_mul n m K).symm
  have M1 := bx (mulS_any (n + m) K h1 hK)
  have M2 := bx (mulS_any n K hn hK)
  have M3 := bx (mulS_any m K hm hK)
  have A2 := bx (add_any (n * K) (m * K) (by omega) (by omega))
  have S1 := bx (sub_any (n + m) m h1 hm)
  unfold WE at *
  unfold WS at *
  have ok1 : ∀ x, x < 2 ^ 256 → okW x = x := fun x h => if_pos h
  have er1 : ∀ x, x < 2 ^ 256 → erW x = 0 := fun x h => if_pos h
  rw [ok1 _ h1, er1 _ h1] at A1
  rw [ok1 _ h2, er1 _ h2] at M1
  rw [ok1 _ (show n * K < 2 ^ 256 by omega), er1 _ (show n * K < 2 ^ 256 by omega)] at M2
  rw [ok1 _ (show m * K < 2 ^ 256 by omega), er1 _ (show m * K < 2 ^ 256 by omega)] at M3
  rw [e1, ok1 _ h2, er1 _ h2] at A2
  rw [show dfW (n + m) m = n by unfold dfW; rw [if_pos (by omega)]; omega, show dfE (n + m) m = 0 from if_pos (by omega)] at S1
  clear ok1 er1 e1 hn hm hl h1 h2
  generalize (n + m) * K = t at *
  generalize n * K = u at *
  generalize m * K = v at *
  generalize n + m = s at *
  obtain ⟨wA, hwA⟩ : ∃ wA, wA = (((w.alloc (.cells (ints .u64 (wl n)).toArray 24)).alloc (.cells (ints .u64 (wl m)).toArray 24)).alloc (.cells (ints .u64 (wl l)).toArray 24)) := ⟨_, rfl⟩
  have X0_0 : Bx (Has wA (w.heap.size) (ints .u64 (wl n))) := ⟨by rw [hwA]; have := ((Has.new w (ints .u64 (wl n)) 24).alloc (.cells (ints .u64 (wl m)).toArray 24)).alloc (.cells (ints .u64 (wl l)).toArray 24); exact this⟩
  have X1_0 : Bx (Has wA (w.heap.size + 1) (ints .u64 (wl m))) := ⟨by rw [hwA]; have := (Has.new (w.alloc (.cells (ints .u64 (wl n)).toArray 24)) (ints .u64 (wl m)) 24).alloc (.cells (ints .u64 (wl l)).toArray 24); rwa [alloc_size] at this⟩
  have X2_0 : Bx (Has wA (w.heap.size + 1 + 1) (ints .u64 (wl l))) := ⟨by rw [hwA]; have := Has.new ((w.alloc (.cells (ints .u64 (wl n)).toArray 24)).alloc (.cells (ints .u64 (wl m)).toArray 24)) (ints .u64 (wl l)) 24; rwa [alloc_size, alloc_size] at this⟩
  have B_0 : Bx (Below w.heap.size w wA) := ⟨by rw [hwA]; exact (((Below.refl w.heap.size w).alloc (Nat.le_refl _) _).alloc (by simp) _).alloc (by simp; omega) _⟩
  subst hwA
  go_enter Tryd.func9, Tryd.ntmps9
  go_wp2_with (first | ((with_reducible refine wpList_loadG 24 _ rfl _ (ints .u64 (wl n)) ?_ ?_ X0_0.out Tryd.underlying24 rfl ?_ ?_); rfl; rfl; exact cells_wide _) | ((with_reducible refine wpList_loadG 24 _ rfl _ (ints .u64 (wl m)) ?_ ?_ X1_0.out Tryd.underlying24 rfl ?_ ?_); rfl; rfl; exact cells_wide _) | ((with_reducible refine wpList_loadG 24 _ rfl _ (ints .u64 (wl l)) ?_ ?_ X2_0.out Tryd.underlying24 rfl ?_ ?_); rfl; rfl; exact cells_wide _) | ((with_reducible refine Great.wpList_buildSliceTo rfl 41 24 3 _ rfl _ rfl _ rfl Tryd.underlying41 (([n, m, l] : List Nat).flatMap wv).toArray ?_ ?_); rw [Array.toList_map]; exact built3 _ _ _))
  have EX0 := bx (X0_0.out.alloc (.cells (wv n ++ (wv m ++ wv l)).toArray 24))
  have EX1 := bx (X1_0.out.alloc (.cells (wv n ++ (wv m ++ wv l)).toArray 24))
  have EX2 := bx (X2_0.out.alloc (.cells (wv n ++ (wv m ++ wv l)).toArray 24))
  have EB := bx (B_0.out.alloc B_0.out.size (.cells (wv n ++ (wv m ++ wv l)).toArray 24))
  refine (SM1.out _ _ (WR1.out _ _ ?_)).mono ?_
  · simp
  rintro e w1 ⟨rfl, hb⟩
  clear X0_0 X1_0 X2_0 B_0
  have X0_1 := bx (EX0.out.below hb EX0.out.lt)
  have X1_1 := bx (EX1.out.below hb EX1.out.lt)
  have X2_1 := bx (EX2.out.below hb EX2.out.lt)
  have B_1 := bx (EB.out.trans (hb.mono EB.out.size))
  clear hb EX0 EX1 EX2 EB
  have YX0_1 := bx (X0_1.out.alloc (.cells (ints .u64 (wl 0)).toArray 24))
  have YX1_1 := bx (X1_1.out.alloc (.cells (ints .u64 (wl 0)).toArray 24))
  have YX2_1 := bx (X2_1.out.alloc (.cells (ints .u64 (wl 0)).toArray 24))
  have N_1 := bx (Has.new w1 (ints .u64 (wl 0)) 24)
  have C_1 := bx (B_1.out.alloc B_1.out.size (.cells (ints .u64 (wl 0)).toArray 24))
  go_wp2_with (first | ((with_reducible refine wpList_storeB rfl 24 _ _ rfl _ (ints .u64 (wl p)) _ ?_ ?_ N_1.out (wl_len2 _ _) Tryd.underlying24 ?_ (wl_one _) ?_); rfl; rfl; exact cells_wide _; intro w2 hw hg hz0; have P_2 := bx hw; have X0_2 := bx (YX0_1.out.grown hg (ne_som (Nat.ne_of_lt X0_1.out.lt))); have X1_2 := bx (YX1_1.out.grown hg (ne_som (Nat.ne_of_lt X1_1.out.lt))); have X2_2 := bx (YX2_1.out.grown hg (ne_som (Nat.ne_of_lt X2_1.out.lt))); have B_2 := bx (C_1.out.grown hg C_1.out.size (fun k hk => by cases hk; exact B_1.out.size)); clear hw hg hz0) | ((with_reducible refine wpList_loadG 24 _ rfl _ (ints .u64 (wl n)) ?_ ?_ X0_2.out Tryd.underlying24 rfl ?_ ?_); rfl; rfl; exact cells_wide _) | ((with_reducible refine wpList_loadG 24 _ rfl _ (ints .u64 (wl m)) ?_ ?_ X1_2.out Tryd.underlying24 rfl ?_ ?_); rfl; rfl; exact cells_wide _) | ((with_reducible refine wpList_loadG 24 _ rfl _ (ints .u64 (wl l)) ?_ ?_ X2_2.out Tryd.underlying24 rfl ?_ ?_); rfl; rfl; exact cells_wide _) | ((with_reducible refine wpList_loadG 24 _ rfl _ (ints .u64 (wl p)) ?_ ?_ P_2.out Tryd.underlying24 rfl ?_ ?_); rfl; rfl; exact cells_wide _) | ((with_reducible refine Great.wpList_buildSliceTo rfl 41 24 3 _ rfl _ rfl _ rfl Tryd.underlying41 (([l, n, m] : List Nat).flatMap wv).toArray ?_ ?_); rw [Array.toList_map]; exact built3 _ _ _))
  clear X0_1 X1_1 X2_1 B_1 YX0_1 YX1_1 YX2_1 N_1 C_1
  have EX0 := bx (X0_2.out.alloc (.cells (wv l ++ (wv n ++ wv m)).toArray 24))
  have EX1 := bx (X1_2.out.alloc (.cells (wv l ++ (wv n ++ wv m)).toArray 24))
  have EX2 := bx (X2_2.out.alloc (.cells (wv l ++ (wv n ++ wv m)).toArray 24))
  have EP := bx (P_2.out.alloc (.cells (wv l ++ (wv n ++ wv m)).toArray 24))
  have EB := bx (B_2.out.alloc B_2.out.size (.cells (wv l ++ (wv n ++ wv m)).toArray 24))
  refine (SM2.out _ _ (WR2.out _ _ ?_)).mono ?_
  · rfl
  rintro e w3 ⟨rfl, hb⟩
  clear X0_2 X1_2 X2_2 P_2 B_2
  have X0_3 := bx (EX0.out.below hb EX0.out.lt)
  have X1_3 := bx (EX1.out.below hb EX1.out.lt)
  have X2_3 := bx (EX2.out.below hb EX2.out.lt)
  have P_3 := bx (EP.out.below hb EP.out.lt)
  have B_3 := bx (EB.out.trans (hb.mono EB.out.size))
  clear hb EX0 EX1 EX2 EP EB
  have YX0_3 := bx (X0_3.out.alloc (.cells (ints .u64 (wl 0)).toArray 24))
  have YX1_3 := bx (X1_3.out.alloc (.cells (ints .u64 (wl 0)).toArray 24))
  have YX2_3 := bx (X2_3.out.alloc (.cells (ints .u64 (wl 0)).toArray 24))
  have YP_3 := bx (P_3.out.alloc (.cells (ints .u64 (wl 0)).toArray 24))
  have N_3 := bx (Has.new w3 (ints .u64 (wl 0)) 24)
  have C_3 := bx (B_3.out.alloc B_3.out.size (.cells (ints .u64 (wl 0)).toArray 24))
  go_wp2_with (first | ((with_reducible refine wpList_storeB rfl 24 _ _ rfl _ (ints .u64 (wl p)) _ ?_ ?_ N_3.out (wl_len2 _ _) Tryd.underlying24 ?_ (wl_one _) ?_); rfl; rfl; exact cells_wide _; intro w4 hw hg hz0; have Q_4 := bx hw; have X0_4 := bx (YX0_3.out.grown hg (ne_som (Nat.ne_of_lt X0_3.out.lt))); have X1_4 := bx (YX1_3.out.grown hg (ne_som (Nat.ne_of_lt X1_3.out.lt))); have X2_4 := bx (YX2_3.out.grown hg (ne_som (Nat.ne_of_lt X2_3.out.lt))); have P_4 := bx (YP_3.out.grown hg (ne_som (Nat.ne_of_lt P_3.out.lt))); have B_4 := bx (C_3.out.grown hg C_3.out.size (fun k hk => by cases hk; exact B_3.out.size)); clear hw hg hz0) | ((with_reducible refine wpList_loadG 24 _ rfl _ (ints .u64 (wl n)) ?_ ?_ X0_4.out Tryd.underlying24 rfl ?_ ?_); rfl; rfl; exact cells_wide _) | ((with_reducible refine wpList_loadG 24 _ rfl _ (ints .u64 (wl m)) ?_ ?_ X1_4.out Tryd.underlying24 rfl ?_ ?_); rfl; rfl; exact cells_wide _) | ((with_reducible refine wpList_loadG 24 _ rfl _ (ints .u64 (wl l)) ?_ ?_ X2_4.out Tryd.underlying24 rfl ?_ ?_); rfl; rfl; exact cells_wide _) | ((with_reducible refine wpList_loadG 24 _ rfl _ (ints .u64 (wl p)) ?_ ?_ P_4.out Tryd.underlying24 rfl ?_ ?_); rfl; rfl; exact cells_wide _) | ((with_reducible refine wpList_loadG 24 _ rfl _ (ints .u64 (wl p)) ?_ ?_ Q_4.out Tryd.underlying24 rfl ?_ ?_); rfl; rfl; exact cells_wide _))
  clear X0_3 X1_3 X2_3 P_3 B_3 YX0_3 YX1_3 YX2_3 YP_3 N_3 C_3
  refine (A1.out _).mono ?_; rintro e w5 ⟨rfl, hb⟩
  have X0_5 := bx (X0_4.out.below hb X0_4.out.lt)
  have X1_5 := bx (X1_4.out.below hb X1_4.out.lt)
  have X2_5 := bx (X2_4.out.below hb X2_4.out.lt)
  have P_5 := bx (P_4.out.below hb P_4.out.lt)
  have Q_5 := bx (Q_4.out.below hb Q_4.out.lt)
  have B_5 := bx (B_4.out.trans (hb.mono B_4.out.size))
  clear hb X0_4 X1_4 X2_4 P_4 Q_4 B_4
  have YX0_5 := bx (X0_5.out.alloc (.cells (ints .u64 (wl 0)).toArray 24))
  have YX1_5 := bx (X1_5.out.alloc (.cells (ints .u64 (wl 0)).toArray 24))
  have YX2_5 := bx (X2_5.out.alloc (.cells (ints .u64 (wl 0)).toArray 24))
  have YP_5 := bx (P_5.out.alloc (.cells (ints .u64 (wl 0)).toArray 24))
  have YQ_5 := bx (Q_5.out.alloc (.cells (ints .u64 (wl 0)).toArray 24))
  have N_5 := bx (Has.new w5 (ints .u64 (wl 0)) 24)
  have C_5 := bx (B_5.out.alloc B_5.out.size (.cells (ints .u64 (wl 0)).toArray 24))
  go_wp2_with (first | ((with_reducible refine wpList_storeB rfl 24 _ _ rfl _ (ints .u64 (wl s)) _ ?_ ?_ N_5.out (wl_len2 _ _) Tryd.underlying24 ?_ (wl_one _) ?_); rfl; rfl; exact cells_wide _; intro w6 hw hg hz0; have S_6 := bx hw; have X0_6 := bx (YX0_5.out.grown hg (ne_som (Nat.ne_of_lt X0_5.out.lt))); have X1_6 := bx (YX1_5.out.grown hg (ne_som (Nat.ne_of_lt X1_5.out.lt))); have X2_6 := bx (YX2_5.out.grown hg (ne_som (Nat.ne_of_lt X2_5.out.lt))); have P_6 := bx (YP_5.out.grown hg (ne_som (Nat.ne_of_lt P_5.out.lt))); have Q_6 := bx (YQ_5.out.grown hg (ne_som (Nat.ne_of_lt Q_5.out.lt))); have B_6 := bx (C_5.out.grown hg C_5.out.size (fun k hk => by cases hk; exact B_5.out.size)); clear hw hg hz0) | ((with_reducible refine wpList_loadG 24 _ rfl _ (ints .u64 (wl n)) ?_ ?_ X0_6.out Tryd.underlying24 rfl ?_ ?_); rfl; rfl; exact cells_wide _) | ((with_reducible refine wpList_loadG 24 _ rfl _ (ints .u64 (wl m)) ?_ ?_ X1_6.out Tryd.underlying24 rfl ?_ ?_); rfl; rfl; exact cells_wide _) | ((with_reducible refine wpList_loadG 24 _ rfl _ (ints .u64 (wl l)) ?_ ?_ X2_6.out Tryd.underlying24 rfl ?_ ?_); rfl; rfl; exact cells_wide _) | ((with_reducible refine wpList_loadG 24 _ rfl _ (ints .u64 (wl p)) ?_ ?_ P_6.out Tryd.underlying24 rfl ?_ ?_); rfl; rfl; exact cells_wide _) | ((with_reducible refine wpList_loadG 24 _ rfl _ (ints .u64 (wl p)) ?_ ?_ Q_6.out Tryd.underlying24 rfl ?_ ?_); rfl; rfl; exact cells_wide _) | ((with_reducible refine wpList_loadG 24 _ rfl _ (ints .u64 (wl s)) ?_ ?_ S_6.out Tryd.underlying24 rfl ?_ ?_); rfl; rfl; exact cells_wide _))
  clear X0_5 X1_5 X2_5 P_5 Q_5 B_5 YX0_5 YX1_5 YX2_5 YP_5 YQ_5 N_5 C_5
  refine (M1.out _).mono ?_; rintro e w7 ⟨rfl, hb⟩
  have X0_7 := bx (X0_6.out.below hb X0_6.out.lt)
  have X1_7 := bx (X1_6.out.below hb X1_6.out.lt)
  have X2_7 := bx (X2_6.out.below hb X2_6.out.lt)
  have P_7 := bx (P_6.out.below hb P_6.out.lt)
  have Q_7 := bx (Q_6.out.below hb Q_6.out.lt)
  have S_7 := bx (S_6.out.below hb S_6.out.lt)
  have B_7 := bx (B_6.out.trans (hb.mono B_6.out.size))
  clear hb X0_6 X1_6 X2_6 P_6 Q_6 S_6 B_6
  have YX0_7 := bx (X0_7.out.alloc (.cells (ints .u64 (wl 0)).toArray 24))
  have YX1_7 := bx (X1_7.out.alloc (.cells (ints .u64 (wl 0)).toArray 24))
  have YX2_7 := bx (X2_7.out.alloc (.cells (ints .u64 (wl 0)).toArray 24))
  have YP_7 := bx (P_7.out.alloc (.cells (ints .u64 (wl 0)).toArray 24))
  have YQ_7 := bx (Q_7.out.alloc (.cells (ints .u64 (wl 0)).toArray 24))
  have YS_7 := bx (S_7.out.alloc (.cells (ints .u64 (wl 0)).toArray 24))
  have N_7 := bx (Has.new w7 (ints .u64 (wl 0)) 24)
  have C_7 := bx (B_7.out.alloc B_7.out.size (.cells (ints .u64 (wl 0)).toArray 24))
  go_wp2_with (first | ((with_reducible refine wpList_storeB rfl 24 _ _ rfl _ (ints .u64 (wl t)) _ ?_ ?_ N_7.out (wl_len2 _ _) Tryd.underlying24 ?_ (wl_one _) ?_); rfl; rfl; exact cells_wide _; intro w8 hw hg hz0; have T_8 := bx hw; have X0_8 := bx (YX0_7.out.grown hg (ne_som (Nat.ne_of_lt X0_7.out.lt))); have X1_8 := bx (YX1_7.out.grown hg (ne_som (Nat.ne_of_lt X1_7.out.lt))); have X2_8 := bx (YX2_7.out.grown hg (ne_som (Nat.ne_of_lt X2_7.out.lt))); have P_8 := bx (YP_7.out.grown hg (ne_som (Nat.ne_of_lt P_7.out.lt))); have Q_8 := bx (YQ_7.out.grown hg (ne_som (Nat.ne_of_lt Q_7.out.lt))); have S_8 := bx (YS_7.out.grown hg (ne_som (Nat.ne_of_lt S_7.out.lt))); have B_8 := bx (C_7.out.grown hg C_7.out.size (fun k hk => by cases hk; exact B_7.out.size)); clear hw hg hz0) | ((with_reducible refine wpList_loadG 24 _ rfl _ (ints .u64 (wl n)) ?_ ?_ X0_8.out Tryd.underlying24 rfl ?_ ?_); rfl; rfl; exact cells_wide _) | ((with_reducible refine wpList_loadG 24 _ rfl _ (ints .u64 (wl m)) ?_ ?_ X1_8.out Tryd.underlying24 rfl ?_ ?_); rfl; rfl; exact cells_wide _) | ((with_reducible refine wpList_loadG 24 _ rfl _ (ints .u64 (wl l)) ?_ ?_ X2_8.out Tryd.underlying24 rfl ?_ ?_); rfl; rfl; exact cells_wide _) | ((with_reducible refine wpList_loadG 24 _ rfl _ (ints .u64 (wl p)) ?_ ?_ P_8.out Tryd.underlying24 rfl ?_ ?_); rfl; rfl; exact cells_wide _) | ((with_reducible refine wpList_loadG 24 _ rfl _ (ints .u64 (wl p)) ?_ ?_ Q_8.out Tryd.underlying24 rfl ?_ ?_); rfl; rfl; exact cells_wide _) | ((with_reducible refine wpList_loadG 24 _ rfl _ (ints .u64 (wl s)) ?_ ?_ S_8.out Tryd.underlying24 rfl ?_ ?_); rfl; rfl; exact cells_wide _) | ((with_reducible refine wpList_loadG 24 _ rfl _ (ints .u64 (wl t)) ?_ ?_ T_8.out Tryd.underlying24 rfl ?_ ?_); rfl; rfl; exact cells_wide _))
  clear X0_7 X1_7 X2_7 P_7 Q_7 S_7 B_7 YX0_7 YX1_7 YX2_7 YP_7 YQ_7 YS_7 N_7 C_7
  refine (M2.out _).mono ?_; rintro e w9 ⟨rfl, hb⟩
  have X0_9 := bx (X0_8.out.below hb X0_8.out.lt)
  have X1_9 := bx (X1_8.out.below hb X1_8.out.lt)
  have X2_9 := bx (X2_8.out.below hb X2_8.out.lt)
  have P_9 := bx (P_8.out.below hb P_8.out.lt)
  have Q_9 := bx (Q_8.out.below hb Q_8.out.lt)
  have S_9 := bx (S_8.out.below hb S_8.out.lt)
  have T_9 := bx (T_8.out.below hb T_8.out.lt)
  have B_9 := bx (B_8.out.trans (hb.mono B_8.out.size))
  clear hb X0_8 X1_8 X2_8 P_8 Q_8 S_8 T_8 B_8
  have YX0_9 := bx (X0_9.out.alloc (.cells (ints .u64 (wl 0)).toArray 24))
  have YX1_9 := bx (X1_9.out.alloc (.cells (ints .u64 (wl 0)).toArray 24))
  have YX2_9 := bx (X2_9.out.alloc (.cells (ints .u64 (wl 0)).toArray 24))
  have YP_9 := bx (P_9.out.alloc (.cells (ints .u64 (wl 0)).toArray 24))
  have YQ_9 := bx (Q_9.out.alloc (.cells (ints .u64 (wl 0)).toArray 24))
  have YS_9 := bx (S_9.out.alloc (.cells (ints .u64 (wl 0)).toArray 24))
  have YT_9 := bx (T_9.out.alloc (.cells (ints .u64 (wl 0)).toArray 24))
  have N_9 := bx (Has.new w9 (ints .u64 (wl 0)) 24)
  have C_9 := bx (B_9.out.alloc B_9.out.size (.cells (ints .u64 (wl 0)).toArray 24))
  go_wp2_with (first | ((with_reducible refine wpList_storeB rfl 24 _ _ rfl _ (ints .u64 (wl u)) _ ?_ ?_ N_9.out (wl_len2 _ _) Tryd.underlying24 ?_ (wl_one _) ?_); rfl; rfl; exact cells_wide _; intro w10 hw hg hz0; have U_10 := bx hw; have X0_10 := bx (YX0_9.out.grown hg (ne_som (Nat.ne_of_lt X0_9.out.lt))); have X1_10 := bx (YX1_9.out.grown hg (ne_som (Nat.ne_of_lt X1_9.out.lt))); have X2_10 := bx (YX2_9.out.grown hg (ne_som (Nat.ne_of_lt X2_9.out.lt))); have P_10 := bx (YP_9.out.grown hg (ne_som (Nat.ne_of_lt P_9.out.lt))); have Q_10 := bx (YQ_9.out.grown hg (ne_som (Nat.ne_of_lt Q_9.out.lt))); have S_10 := bx (YS_9.out.grown hg (ne_som (Nat.ne_of_lt S_9.out.lt))); have T_10 := bx (YT_9.out.grown hg (ne_som (Nat.ne_of_lt T_9.out.lt))); have B_10 := bx (C_9.out.grown hg C_9.out.size (fun k hk => by cases hk; exact B_9.out.size)); clear hw hg hz0) | ((with_reducible refine wpList_loadG 24 _ rfl _ (ints .u64 (wl n)) ?_ ?_ X0_10.out Tryd.underlying24 rfl ?_ ?_); rfl; rfl; exact cells_wide _) | ((with_reducible refine wpList_loadG 24 _ rfl _ (ints .u64 (wl m)) ?_ ?_ X1_10.out Tryd.underlying24 rfl ?_ ?_); rfl; rfl; exact cells_wide _) | ((with_reducible refine wpList_loadG 24 _ rfl _ (ints .u64 (wl l)) ?_ ?_ X2_10.out Tryd.underlying24 rfl ?_ ?_); rfl; rfl; exact cells_wide _) | ((with_reducible refine wpList_loadG 24 _ rfl _ (ints .u64 (wl p)) ?_ ?_ P_10.out Tryd.underlying24 rfl ?_ ?_); rfl; rfl; exact cells_wide _) | ((with_reducible refine wpList_loadG 24 _ rfl _ (ints .u64 (wl p)) ?_ ?_ Q_10.out Tryd.underlying24 rfl ?_ ?_); rfl; rfl; exact cells_wide _) | ((with_reducible refine wpList_loadG 24 _ rfl _ (ints .u64 (wl s)) ?_ ?_ S_10.out Tryd.underlying24 rfl ?_ ?_); rfl; rfl; exact cells_wide _) | ((with_reducible refine wpList_loadG 24 _ rfl _ (ints .u64 (wl t)) ?_ ?_ T_10.out Tryd.underlying24 rfl ?_ ?_); rfl; rfl; exact cells_wide _) | ((with_reducible refine wpList_loadG 24 _ rfl _ (ints .u64 (wl u)) ?_ ?_ U_10.out Tryd.underlying24 rfl ?_ ?_); rfl; rfl; exact cells_wide _))
  clear X0_9 X1_9 X2_9 P_9 Q_9 S_9 T_9 B_9 YX0_9 YX1_9 YX2_9 YP_9 YQ_9 YS_9 YT_9 N_9 C_9
  refine (M3.out _).mono ?_; rintro e w11 ⟨rfl, hb⟩
  have X0_11 := bx (X0_10.out.below hb X0_10.out.lt)
  have X1_11 := bx (X1_10.out.below hb X1_10.out.lt)
  have X2_11 := bx (X2_10.out.below hb X2_10.out.lt)
  have P_11 := bx (P_10.out.below hb P_10.out.lt)
  have Q_11 := bx (Q_10.out.below hb Q_10.out.lt)
  have S_11 := bx (S_10.out.below hb S_10.out.lt)
  have T_11 := bx (T_10.out.below hb T_10.out.lt)
  have U_11 := bx (U_10.out.below hb U_10.out.lt)
  have B_11 := bx (B_10.out.trans (hb.mono B_10.out.size))
  clear hb X0_10 X1_10 X2_10 P_10 Q_10 S_10 T_10 U_10 B_10
  have YX0_11 := bx (X0_11.out.alloc (.cells (ints .u64 (wl 0)).toArray 24))
  have YX1_11 := bx (X1_11.out.alloc (.cells (ints .u64 (wl 0)).toArray 24))
  have YX2_11 := bx (X2_11.out.alloc (.cells (ints .u64 (wl 0)).toArray 24))
  have YP_11 := bx (P_11.out.alloc (.cells (ints .u64 (wl 0)).toArray 24))
  have YQ_11 := bx (Q_11.out.alloc (.cells (ints .u64 (wl 0)).toArray 24))
  have YS_11 := bx (S_11.out.alloc (.cells (ints .u64 (wl 0)).toArray 24))
  have YT_11 := bx (T_11.out.alloc (.cells (ints .u64 (wl 0)).toArray 24))
  have YU_11 := bx (U_11.out.alloc (.cells (ints .u64 (wl 0)).toArray 24))
  have N_11 := bx (Has.new w11 (ints .u64 (wl 0)) 24)
  have C_11 := bx (B_11.out.alloc B_11.out.size (.cells (ints .u64 (wl 0)).toArray 24))
  go_wp2_with (first | ((with_reducible refine wpList_storeB rfl 24 _ _ rfl _ (ints .u64 (wl v)) _ ?_ ?_ N_11.out (wl_len2 _ _) Tryd.underlying24 ?_ (wl_one _) ?_); rfl; rfl; exact cells_wide _; intro w12 hw hg hz0; have V_12 := bx hw; have X0_12 := bx (YX0_11.out.grown hg (ne_som (Nat.ne_of_lt X0_11.out.lt))); have X1_12 := bx (YX1_11.out.grown hg (ne_som (Nat.ne_of_lt X1_11.out.lt))); have X2_12 := bx (YX2_11.out.grown hg (ne_som (Nat.ne_of_lt X2_11.out.lt))); have P_12 := bx (YP_11.out.grown hg (ne_som (Nat.ne_of_lt P_11.out.lt))); have Q_12 := bx (YQ_11.out.grown hg (ne_som (Nat.ne_of_lt Q_11.out.lt))); have S_12 := bx (YS_11.out.grown hg (ne_som (Nat.ne_of_lt S_11.out.lt))); have T_12 := bx (YT_11.out.grown hg (ne_som (Nat.ne_of_lt T_11.out.lt))); have U_12 := bx (YU_11.out.grown hg (ne_som (Nat.ne_of_lt U_11.out.lt))); have B_12 := bx (C_11.out.grown hg C_11.out.size (fun k hk => by cases hk; exact B_11.out.size)); clear hw hg hz0) | ((with_reducible refine wpList_loadG 24 _ rfl _ (ints .u64 (wl n)) ?_ ?_ X0_12.out Tryd.underlying24 rfl ?_ ?_); rfl; rfl; exact cells_wide _) | ((with_reducible refine wpList_loadG 24 _ rfl _ (ints .u64 (wl m)) ?_ ?_ X1_12.out Tryd.underlying24 rfl ?_ ?_); rfl; rfl; exact cells_wide _) | ((with_reducible refine wpList_loadG 24 _ rfl _ (ints .u64 (wl l)) ?_ ?_ X2_12.out Tryd.underlying24 rfl ?_ ?_); rfl; rfl; exact cells_wide _) | ((with_reducible refine wpList_loadG 24 _ rfl _ (ints .u64 (wl p)) ?_ ?_ P_12.out Tryd.underlying24 rfl ?_ ?_); rfl; rfl; exact cells_wide _) | ((with_reducible refine wpList_loadG 24 _ rfl _ (ints .u64 (wl p)) ?_ ?_ Q_12.out Tryd.underlying24 rfl ?_ ?_); rfl; rfl; exact cells_wide _) | ((with_reducible refine wpList_loadG 24 _ rfl _ (ints .u64 (wl s)) ?_ ?_ S_12.out Tryd.underlying24 rfl ?_ ?_); rfl; rfl; exact cells_wide _) | ((with_reducible refine wpList_loadG 24 _ rfl _ (ints .u64 (wl t)) ?_ ?_ T_12.out Tryd.underlying24 rfl ?_ ?_); rfl; rfl; exact cells_wide _) | ((with_reducible refine wpList_loadG 24 _ rfl _ (ints .u64 (wl u)) ?_ ?_ U_12.out Tryd.underlying24 rfl ?_ ?_); rfl; rfl; exact cells_wide _) | ((with_reducible refine wpList_loadG 24 _ rfl _ (ints .u64 (wl v)) ?_ ?_ V_12.out Tryd.underlying24 rfl ?_ ?_); rfl; rfl; exact cells_wide _))
  clear X0_11 X1_11 X2_11 P_11 Q_11 S_11 T_11 U_11 B_11 YX0_11 YX1_11 YX2_11 YP_11 YQ_11 YS_11 YT_11 YU_11 N_11 C_11
  refine (A2.out _).mono ?_; rintro e w13 ⟨rfl, hb⟩
  have X0_13 := bx (X0_12.out.below hb X0_12.out.lt)
  have X1_13 := bx (X1_12.out.below hb X1_12.out.lt)
  have X2_13 := bx (X2_12.out.below hb X2_12.out.lt)
  have P_13 := bx (P_12.out.below hb P_12.out.lt)
  have Q_13 := bx (Q_12.out.below hb Q_12.out.lt)
  have S_13 := bx (S_12.out.below hb S_12.out.lt)
  have T_13 := bx (T_12.out.below hb T_12.out.lt)
  have U_13 := bx (U_12.out.below hb U_12.out.lt)
  have V_13 := bx (V_12.out.below hb V_12.out.lt)
  have B_13 := bx (B_12.out.trans (hb.mono B_12.out.size))
  clear hb X0_12 X1_12 X2_12 P_12 Q_12 S_12 T_12 U_12 V_12 B_12
  have YX0_13 := bx (X0_13.out.alloc (.cells (ints .u64 (wl 0)).toArray 24))
  have YX1_13 := bx (X1_13.out.alloc (.cells (ints .u64 (wl 0)).toArray 24))
  have YX2_13 := bx (X2_13.out.alloc (.cells (ints .u64 (wl 0)).toArray 24))
  have YP_13 := bx (P_13.out.alloc (.cells (ints .u64 (wl 0)).toArray 24))
  have YQ_13 := bx (Q_13.out.alloc (.cells (ints .u64 (wl 0)).toArray 24))
  have YS_13 := bx (S_13.out.alloc (.cells (ints .u64 (wl 0)).toArray 24))
  have YT_13 := bx (T_13.out.alloc (.cells (ints .u64 (wl 0)).toArray 24))
  have YU_13 := bx (U_13.out.alloc (.cells (ints .u64 (wl 0)).toArray 24))
  have YV_13 := bx (V_13.out.alloc (.cells (ints .u64 (wl 0)).toArray 24))
  have N_13 := bx (Has.new w13 (ints .u64 (wl 0)) 24)
  have C_13 := bx (B_13.out.alloc B_13.out.size (.cells (ints .u64 (wl 0)).toArray 24))
  go_wp2_with (first | ((with_reducible refine wpList_storeB rfl 24 _ _ rfl _ (ints .u64 (wl t)) _ ?_ ?_ N_13.out (wl_len2 _ _) Tryd.underlying24 ?_ (wl_one _) ?_); rfl; rfl; exact cells_wide _; intro w14 hw hg hz0; have W_14 := bx hw; have X0_14 := bx (YX0_13.out.grown hg (ne_som (Nat.ne_of_lt X0_13.out.lt))); have X1_14 := bx (YX1_13.out.grown hg (ne_som (Nat.ne_of_lt X1_13.out.lt))); have X2_14 := bx (YX2_13.out.grown hg (ne_som (Nat.ne_of_lt X2_13.out.lt))); have P_14 := bx (YP_13.out.grown hg (ne_som (Nat.ne_of_lt P_13.out.lt))); have Q_14 := bx (YQ_13.out.grown hg (ne_som (Nat.ne_of_lt Q_13.out.lt))); have S_14 := bx (YS_13.out.grown hg (ne_som (Nat.ne_of_lt S_13.out.lt))); have T_14 := bx (YT_13.out.grown hg (ne_som (Nat.ne_of_lt T_13.out.lt))); have U_14 := bx (YU_13.out.grown hg (ne_som (Nat.ne_of_lt U_13.out.lt))); have V_14 := bx (YV_13.out.grown hg (ne_som (Nat.ne_of_lt V_13.out.lt))); have B_14 := bx (C_13.out.grown hg C_13.out.size (fun k hk => by cases hk; exact B_13.out.size)); clear hw hg hz0) | ((with_reducible refine wpList_loadG 24 _ rfl _ (ints .u64 (wl n)) ?_ ?_ X0_14.out Tryd.underlying24 rfl ?_ ?_); rfl; rfl; exact cells_wide _) | ((with_reducible refine wpList_loadG 24 _ rfl _ (ints .u64 (wl m)) ?_ ?_ X1_14.out Tryd.underlying24 rfl ?_ ?_); rfl; rfl; exact cells_wide _) | ((with_reducible refine wpList_loadG 24 _ rfl _ (ints .u64 (wl l)) ?_ ?_ X2_14.out Tryd.underlying24 rfl ?_ ?_); rfl; rfl; exact cells_wide _) | ((with_reducible refine wpList_loadG 24 _ rfl _ (ints .u64 (wl p)) ?_ ?_ P_14.out Tryd.underlying24 rfl ?_ ?_); rfl; rfl; exact cells_wide _) | ((with_reducible refine wpList_loadG 24 _ rfl _ (ints .u64 (wl p)) ?_ ?_ Q_14.out Tryd.underlying24 rfl ?_ ?_); rfl; rfl; exact cells_wide _) | ((with_reducible refine wpList_loadG 24 _ rfl _ (ints .u64 (wl s)) ?_ ?_ S_14.out Tryd.underlying24 rfl ?_ ?_); rfl; rfl; exact cells_wide _) | ((with_reducible refine wpList_loadG 24 _ rfl _ (ints .u64 (wl t)) ?_ ?_ T_14.out Tryd.underlying24 rfl ?_ ?_); rfl; rfl; exact cells_wide _) | ((with_reducible refine wpList_loadG 24 _ rfl _ (ints .u64 (wl u)) ?_ ?_ U_14.out Tryd.underlying24 rfl ?_ ?_); rfl; rfl; exact cells_wide _) | ((with_reducible refine wpList_loadG 24 _ rfl _ (ints .u64 (wl v)) ?_ ?_ V_14.out Tryd.underlying24 rfl ?_ ?_); rfl; rfl; exact cells_wide _) | ((with_reducible refine wpList_loadG 24 _ rfl _ (ints .u64 (wl t)) ?_ ?_ W_14.out Tryd.underlying24 rfl ?_ ?_); rfl; rfl; exact cells_wide _))
  clear X0_13 X1_13 X2_13 P_13 Q_13 S_13 T_13 U_13 V_13 B_13 YX0_13 YX1_13 YX2_13 YP_13 YQ_13 YS_13 YT_13 YU_13 YV_13 N_13 C_13
  refine (S1.out _).mono ?_; rintro e w15 ⟨rfl, hb⟩
  have X0_15 := bx (X0_14.out.below hb X0_14.out.lt)
  have X1_15 := bx (X1_14.out.below hb X1_14.out.lt)
  have X2_15 := bx (X2_14.out.below hb X2_14.out.lt)
  have P_15 := bx (P_14.out.below hb P_14.out.lt)
  have Q_15 := bx (Q_14.out.below hb Q_14.out.lt)
  have S_15 := bx (S_14.out.below hb S_14.out.lt)
  have T_15 := bx (T_14.out.below hb T_14.out.lt)
  have U_15 := bx (U_14.out.below hb U_14.out.lt)
  have V_15 := bx (V_14.out.below hb V_14.out.lt)
  have W_15 := bx (W_14.out.below hb W_14.out.lt)
  have B_15 := bx (B_14.out.trans (hb.mono B_14.out.size))
  clear hb X0_14 X1_14 X2_14 P_14 Q_14 S_14 T_14 U_14 V_14 W_14 B_14
  have YX0_15 := bx (X0_15.out.alloc (.cells (ints .u64 (wl 0)).toArray 24))
  have YX1_15 := bx (X1_15.out.alloc (.cells (ints .u64 (wl 0)).toArray 24))
  have YX2_15 := bx (X2_15.out.alloc (.cells (ints .u64 (wl 0)).toArray 24))
  have YP_15 := bx (P_15.out.alloc (.cells (ints .u64 (wl 0)).toArray 24))
  have YQ_15 := bx (Q_15.out.alloc (.cells (ints .u64 (wl 0)).toArray 24))
  have YS_15 := bx (S_15.out.alloc (.cells (ints .u64 (wl 0)).toArray 24))
  have YT_15 := bx (T_15.out.alloc (.cells (ints .u64 (wl 0)).toArray 24))
  have YU_15 := bx (U_15.out.alloc (.cells (ints .u64 (wl 0)).toArray 24))
  have YV_15 := bx (V_15.out.alloc (.cells (ints .u64 (wl 0)).toArray 24))
  have YW_15 := bx (W_15.out.alloc (.cells (ints .u64 (wl 0)).toArray 24))
  have N_15 := bx (Has.new w15 (ints .u64 (wl 0)) 24)
  have C_15 := bx (B_15.out.alloc B_15.out.size (.cells (ints .u64 (wl 0)).toArray 24))
  go_wp2_with (first | ((with_reducible refine wpList_storeB rfl 24 _ _ rfl _ (ints .u64 (wl n)) _ ?_ ?_ N_15.out (wl_len2 _ _) Tryd.underlying24 ?_ (wl_one _) ?_); rfl; rfl; exact cells_wide _; intro w16 hw hg hz0; have D_16 := bx hw; have X0_16 := bx (YX0_15.out.grown hg (ne_som (Nat.ne_of_lt X0_15.out.lt))); have X1_16 := bx (YX1_15.out.grown hg (ne_som (Nat.ne_of_lt X1_15.out.lt))); have X2_16 := bx (YX2_15.out.grown hg (ne_som (Nat.ne_of_lt X2_15.out.lt))); have P_16 := bx (YP_15.out.grown hg (ne_som (Nat.ne_of_lt P_15.out.lt))); have Q_16 := bx (YQ_15.out.grown hg (ne_som (Nat.ne_of_lt Q_15.out.lt))); have S_16 := bx (YS_15.out.grown hg (ne_som (Nat.ne_of_lt S_15.out.lt))); have T_16 := bx (YT_15.out.grown hg (ne_som (Nat.ne_of_lt T_15.out.lt))); have U_16 := bx (YU_15.out.grown hg (ne_som (Nat.ne_of_lt U_15.out.lt))); have V_16 := bx (YV_15.out.grown hg (ne_som (Nat.ne_of_lt V_15.out.lt))); have W_16 := bx (YW_15.out.grown hg (ne_som (Nat.ne_of_lt W_15.out.lt))); have B_16 := bx (C_15.out.grown hg C_15.out.size (fun k hk => by cases hk; exact B_15.out.size)); clear hw hg hz0) | ((with_reducible refine wpList_loadG 24 _ rfl _ (ints .u64 (wl n)) ?_ ?_ X0_16.out Tryd.underlying24 rfl ?_ ?_); rfl; rfl; exact cells_wide _) | ((with_reducible refine wpList_loadG 24 _ rfl _ (ints .u64 (wl m)) ?_ ?_ X1_16.out Tryd.underlying24 rfl ?_ ?_); rfl; rfl; exact cells_wide _) | ((with_reducible refine wpList_loadG 24 _ rfl _ (ints .u64 (wl l)) ?_ ?_ X2_16.out Tryd.underlying24 rfl ?_ ?_); rfl; rfl; exact cells_wide _) | ((with_reducible refine wpList_loadG 24 _ rfl _ (ints .u64 (wl p)) ?_ ?_ P_16.out Tryd.underlying24 rfl ?_ ?_); rfl; rfl; exact cells_wide _) | ((with_reducible refine wpList_loadG 24 _ rfl _ (ints .u64 (wl p)) ?_ ?_ Q_16.out Tryd.underlying24 rfl ?_ ?_); rfl; rfl; exact cells_wide _) | ((with_reducible refine wpList_loadG 24 _ rfl _ (ints .u64 (wl s)) ?_ ?_ S_16.out Tryd.underlying24 rfl ?_ ?_); rfl; rfl; exact cells_wide _) | ((with_reducible refine wpList_loadG 24 _ rfl _ (ints .u64 (wl t)) ?_ ?_ T_16.out Tryd.underlying24 rfl ?_ ?_); rfl; rfl; exact cells_wide _) | ((with_reducible refine wpList_loadG 24 _ rfl _ (ints .u64 (wl u)) ?_ ?_ U_16.out Tryd.underlying24 rfl ?_ ?_); rfl; rfl; exact cells_wide _) | ((with_reducible refine wpList_loadG 24 _ rfl _ (ints .u64 (wl v)) ?_ ?_ V_16.out Tryd.underlying24 rfl ?_ ?_); rfl; rfl; exact cells_wide _) | ((with_reducible refine wpList_loadG 24 _ rfl _ (ints .u64 (wl t)) ?_ ?_ W_16.out Tryd.underlying24 rfl ?_ ?_); rfl; rfl; exact cells_wide _) | ((with_reducible refine wpList_loadG 24 _ rfl _ (ints .u64 (wl n)) ?_ ?_ D_16.out Tryd.underlying24 rfl ?_ ?_); rfl; rfl; exact cells_wide _))
  clear X0_15 X1_15 X2_15 P_15 Q_15 S_15 T_15 U_15 V_15 W_15 B_15 YX0_15 YX1_15 YX2_15 YP_15 YQ_15 YS_15 YT_15 YU_15 YV_15 YW_15 N_15 C_15
  refine (AW.out _).mono ?_; rintro e w17 ⟨rfl, hb⟩
  have X0_17 := bx (X0_16.out.below hb X0_16.out.lt)
  have X1_17 := bx (X1_16.out.below hb X1_16.out.lt)
  have X2_17 := bx (X2_16.out.below hb X2_16.out.lt)
  have P_17 := bx (P_16.out.below hb P_16.out.lt)
  have Q_17 := bx (Q_16.out.below hb Q_16.out.lt)
  have S_17 := bx (S_16.out.below hb S_16.out.lt)
  have T_17 := bx (T_16.out.below hb T_16.out.lt)
  have U_17 := bx (U_16.out.below hb U_16.out.lt)
  have V_17 := bx (V_16.out.below hb V_16.out.lt)
  have W_17 := bx (W_16.out.below hb W_16.out.lt)
  have D_17 := bx (D_16.out.below hb D_16.out.lt)
  have B_17 := bx (B_16.out.trans (hb.mono B_16.out.size))
  clear hb X0_16 X1_16 X2_16 P_16 Q_16 S_16 T_16 U_16 V_16 W_16 D_16 B_16
  go_wp2_with (first | ((with_reducible refine wpList_loadG 24 _ rfl _ (ints .u64 (wl n)) ?_ ?_ X0_17.out Tryd.underlying24 rfl ?_ ?_); rfl; rfl; exact cells_wide _) | ((with_reducible refine wpList_loadG 24 _ rfl _ (ints .u64 (wl m)) ?_ ?_ X1_17.out Tryd.underlying24 rfl ?_ ?_); rfl; rfl; exact cells_wide _) | ((with_reducible refine wpList_loadG 24 _ rfl _ (ints .u64 (wl l)) ?_ ?_ X2_17.out Tryd.underlying24 rfl ?_ ?_); rfl; rfl; exact cells_wide _) | ((with_reducible refine wpList_loadG 24 _ rfl _ (ints .u64 (wl p)) ?_ ?_ P_17.out Tryd.underlying24 rfl ?_ ?_); rfl; rfl; exact cells_wide _) | ((with_reducible refine wpList_loadG 24 _ rfl _ (ints .u64 (wl p)) ?_ ?_ Q_17.out Tryd.underlying24 rfl ?_ ?_); rfl; rfl; exact cells_wide _) | ((with_reducible refine wpList_loadG 24 _ rfl _ (ints .u64 (wl s)) ?_ ?_ S_17.out Tryd.underlying24 rfl ?_ ?_); rfl; rfl; exact cells_wide _) | ((with_reducible refine wpList_loadG 24 _ rfl _ (ints .u64 (wl t)) ?_ ?_ T_17.out Tryd.underlying24 rfl ?_ ?_); rfl; rfl; exact cells_wide _) | ((with_reducible refine wpList_loadG 24 _ rfl _ (ints .u64 (wl u)) ?_ ?_ U_17.out Tryd.underlying24 rfl ?_ ?_); rfl; rfl; exact cells_wide _) | ((with_reducible refine wpList_loadG 24 _ rfl _ (ints .u64 (wl v)) ?_ ?_ V_17.out Tryd.underlying24 rfl ?_ ?_); rfl; rfl; exact cells_wide _) | ((with_reducible refine wpList_loadG 24 _ rfl _ (ints .u64 (wl t)) ?_ ?_ W_17.out Tryd.underlying24 rfl ?_ ?_); rfl; rfl; exact cells_wide _) | ((with_reducible refine wpList_loadG 24 _ rfl _ (ints .u64 (wl n)) ?_ ?_ D_17.out Tryd.underlying24 rfl ?_ ?_); rfl; rfl; exact cells_wide _))
  go_ret
  exact ⟨rfl, B_17.out⟩
theorem wideRing_walk (a b c : List Int) (k : Int) (w : World) (la : a.length = 4) (fa : Fit .u64 a) (lb : b.length = 4) (fb : Fit .u64 b) (lc : c.length = 4) (fc : Fit .u64 c) (wk : (Lit.int .u64 k).wf = true) :
    Calls Tryd.prog 9 #[.agg (ints .u64 a).toArray, .agg (ints .u64 b).toArray, .agg (ints .u64 c).toArray, .int .u64 k] w fun e w' => e = .returned (.bool true) ∧ Below w.heap.size w w' := by
  obtain ⟨n, hn, rfl⟩ := wide_of la fa
  obtain ⟨m, hm, rfl⟩ := wide_of lb fb
  obtain ⟨l, hl, rfl⟩ := wide_of lc fc
  have hk1 := u64_of_wf wk
  obtain ⟨K, rfl⟩ : ∃ K : Nat, k = (K : Int) := ⟨k.toNat, by omega⟩
  by_cases h1 : n + m < 2 ^ 256
  · by_cases h2 : (n + m) * K < 2 ^ 256
    · exact wideRing_yes n m l K hn hm hl (by omega) h1 h2 w
    · exact wideRing_no n m l K hn hm hl (by omega) (n + m) h1 (if_pos h1) (.inr ⟨if_pos h1, by unfold erW; rw [if_neg h2]; decide⟩) w
  · exact wideRing_no n m l K hn hm hl (by omega) 0 (Nat.two_pow_pos _) (if_neg h1) (.inl (by unfold erW; rw [if_neg h1]; decide)) w
end Go.Proofs.YtpgpplpddjjchaaDoor
