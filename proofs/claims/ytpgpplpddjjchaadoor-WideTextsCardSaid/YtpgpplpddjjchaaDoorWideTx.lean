/- Numbers of 256 bits: the law of decimal notation. -/
import Derived.Test.YtpgpplpddjjchaaDoorWideX
import Derived.Test.YtpgpplpddjjchaaDoorWidePg
import Derived.Test.YtpgpplpddjjchaaDoorWideRp
import Derived.Test.YtpgpplpddjjchaaDoorWideRf
namespace Go.Proofs.YtpgpplpddjjchaaDoor
open Go.RowKit
theorem nums_str {l : List Int} (h : ∀ c ∈ l, 48 ≤ c ∧ c ≤ 57) : numsOf (strOfNums l) = l := by
  unfold numsOf strOfNums
  show List.map _ (List.map _ l) = l
  rw [List.map_map]
  conv => rhs; rw [← List.map_id l]
  refine List.map_congr_left fun c hc => ?_
  obtain ⟨h1, h2⟩ := h c hc
  show ((UInt8.ofNat c.toNat).toNat : Int) = c
  rw [UInt8.toNat_ofNat']
  omega
theorem nd_le {n : Nat} (hn : n < 2 ^ 256) : nd n ≤ 78 := by
  obtain ⟨h1, _, h3⟩ := nd_spec n
  rcases Nat.lt_or_ge 78 (nd n) with h | h
  · exfalso
    have h4 := h3 (by omega)
    have h5 : 10 ^ 78 ≤ 10 ^ (nd n - 1) := Nat.pow_le_pow_right (by decide) (by omega)
    have h6 : (2 : Nat) ^ 256 < 10 ^ 78 := by decide
    exact absurd (Nat.lt_of_lt_of_le hn (Nat.le_of_lt (Nat.lt_of_lt_of_le h6 (Nat.le_trans h5 h4)))) (Nat.lt_irrefl _)
  · exact h
theorem txl_good {n : Nat} (hn : n < 2 ^ 256) : badT (txl n) = false := by
  obtain ⟨h1, h2, h3⟩ := nd_spec n
  have h4 := nd_le hn
  refine good_all (by rw [txl_len]; omega) (by rw [txl_len]; omega) ?_ (fun k hk => ?_)
  · rw [txl_len]
    by_cases h5 : nd n = 1
    · exact .inr h5
    · refine .inl ?_
      have h6 := h3 (by omega)
      obtain ⟨m, hm⟩ : ∃ m, nd n = m + 1 := ⟨nd n - 1, by omega⟩
      have h7 : (txl n).getD 0 0 = ((48 + dg n m : Nat) : Int) := by
        unfold txl
        rw [hm, lows_succ, List.reverse_append, List.reverse_singleton, List.singleton_append]; rfl
      rw [h7]
      rw [hm] at h2 h6
      have h8 : 0 < n / 10 ^ m := Nat.div_pos h6 (Nat.pow_pos (by decide))
      have h9 : n / 10 ^ m < 10 := by rw [Nat.div_lt_iff_lt_mul (Nat.pow_pos (by decide)), Nat.mul_comm, ← Nat.pow_succ]; exact h2
      have h10 : dg n m ≠ 0 := by
        unfold dg
        generalize n / 10 ^ m = z at *
        omega
      omega
  · have : (txl n).getD k 0 ∈ txl n := by
      rw [List.getD_eq_getElem?_getD, List.getElem?_eq_getElem hk]; exact List.getElem_mem hk
    obtain ⟨h5, h6⟩ := txl_bd this
    unfold digB
    rw [decide_eq_true h5, decide_eq_true h6]; rfl
theorem parse_txt {n : Nat} (hn : n < 2 ^ 256) (w : World) : Calls Tryd.prog 30 #[.string (strOfNums (txl n))] w fun e w' => e = .returned (.tuple #[.agg (ints .u64 (wl n)).toArray, .int .i64 0]) ∧ Below w.heap.size w w' := by
  have h := parse_any (strOfNums (txl n)) (by have := nd_le hn; rw [str_size, txl_len]; omega) w
  have e := fits_of (txl_good hn) (by rw [pv_txl]; exact hn)
  rw [nums_str (fun c hc => txl_bd hc)] at h
  unfold WP at h
  rw [e.1, e.2, pv_txl] at h
  exact h
theorem wideTexts_long (a : List Int) (s : ByteArray) (hl : 500 < s.size) (hm : s.size ≤ 9223372036854775807) (w : World) :
    Calls Tryd.prog 8 #[.agg (ints .u64 a).toArray, .string s] w fun e w' => e = .returned (.bool true) ∧ Below w.heap.size w w' := by
  have AW := bx awake_any
  have B0 := bx ((Below.refl w.heap.size w).alloc (Nat.le_refl _) (.cells (ints .u64 a).toArray 24))
  have h5 : (500 : Int) < (s.size : Int) := by omega
  go_enter Tryd.func8, Tryd.ntmps8
  go_wp2_with fail
  refine (AW.out _).mono ?_; rintro e w1 ⟨rfl, hb⟩
  have B1 := bx (B0.out.trans (hb.mono B0.out.size))
  go_wp2_with fail
  go_ret
  exact ⟨rfl, B1.out⟩
set_option maxRecDepth 20000 in
set_option maxHeartbeats 1000000 in
theorem wideTexts_go (n : Nat) (s : ByteArray) (hn : n < 2 ^ 256) (hs : s.size ≤ 500) (w : World) :
    Calls Tryd.prog 8 #[.agg (ints .u64 (wl n)).toArray, .string s] w fun e w' => e = .returned (.bool true) ∧ Below w.heap.size w w' := by
  have FM := bx (format_any n hn)
  have PT := bx (fun w => parse_txt hn w)
  have PS := bx (parse_any s hs)
  have RS := bx (refParse_any s hs)
  have RF := bx (refFormat_any n hn)
  have AW := bx awake_any
  have h5 : ¬ (500 : Int) < (s.size : Int) := by omega
  unfold WP at *
  have hq : ∀ (p : Nat) (w : World), (Op.equalIn 10000 24 (.agg (ints .u64 (wl p)).toArray) (.agg (ints .u64 (wl p)).toArray)).run Tryd.prog w = .ok true w := fun p w => by rw [wide_same, decide_eq_true rfl]
  have hz := wz_lit
  generalize pW (numsOf s) = p at *
  generalize pE (numsOf s) = f at *
  generalize strOfNums (txl n) = t at *
  clear hn hs
  obtain ⟨wA, hwA⟩ : ∃ wA, wA = (w.alloc (.cells (ints .u64 (wl n)).toArray 24)) := ⟨_, rfl⟩
  have X0_0 : Bx (Has wA (w.heap.size) (ints .u64 (wl n))) := ⟨by rw [hwA]; have := Has.new w (ints .u64 (wl n)) 24; exact this⟩
  have B_0 : Bx (Below w.heap.size w wA) := ⟨by rw [hwA]; exact (Below.refl w.heap.size w).alloc (Nat.le_refl _) _⟩
  subst hwA
  go_enter Tryd.func8, Tryd.ntmps8
  go_wp2_with ((with_reducible refine wpList_loadG 24 _ rfl _ (ints .u64 (wl n)) ?_ ?_ X0_0.out Tryd.underlying24 rfl ?_ ?_); rfl; rfl; exact cells_wide _)
  refine (FM.out _).mono ?_; rintro e w1 ⟨rfl, hb⟩
  have X0_1 := bx (X0_0.out.below hb X0_0.out.lt)
  have B_1 := bx (B_0.out.trans (hb.mono B_0.out.size))
  clear hb X0_0 B_0
  go_wp2_with ((with_reducible refine wpList_loadG 24 _ rfl _ (ints .u64 (wl n)) ?_ ?_ X0_1.out Tryd.underlying24 rfl ?_ ?_); rfl; rfl; exact cells_wide _)
  refine (PT.out _).mono ?_; rintro e w2 ⟨rfl, hb⟩
  have X0_2 := bx (X0_1.out.below hb X0_1.out.lt)
  have B_2 := bx (B_1.out.trans (hb.mono B_1.out.size))
  clear hb X0_1 B_1
  have YX0_2 := bx (X0_2.out.alloc (.cells (ints .u64 (wl 0)).toArray 24))
  have N_2 := bx (Has.new w2 (ints .u64 (wl 0)) 24)
  have C_2 := bx (B_2.out.alloc B_2.out.size (.cells (ints .u64 (wl 0)).toArray 24))
  go_wp2_with (first | ((with_reducible refine wpList_storeB rfl 24 _ _ rfl _ (ints .u64 (wl n)) _ ?_ ?_ N_2.out (wl_len2 _ _) Tryd.underlying24 ?_ (wl_one _) ?_); rfl; rfl; exact cells_wide _; intro w3 hw hg hz0; have P_3 := bx hw; have X0_3 := bx (YX0_2.out.grown hg (ne_som (Nat.ne_of_lt X0_2.out.lt))); have B_3 := bx (C_2.out.grown hg C_2.out.size (fun k hk => by cases hk; exact B_2.out.size)); clear hw hg hz0) | ((with_reducible refine wpList_loadG 24 _ rfl _ (ints .u64 (wl n)) ?_ ?_ X0_3.out Tryd.underlying24 rfl ?_ ?_); rfl; rfl; exact cells_wide _) | ((with_reducible refine wpList_loadG 24 _ rfl _ (ints .u64 (wl n)) ?_ ?_ P_3.out Tryd.underlying24 rfl ?_ ?_); rfl; rfl; exact cells_wide _))
  clear X0_2 B_2 YX0_2 N_2 C_2
  refine (PS.out _).mono ?_; rintro e w4 ⟨rfl, hb⟩
  have X0_4 := bx (X0_3.out.below hb X0_3.out.lt)
  have P_4 := bx (P_3.out.below hb P_3.out.lt)
  have B_4 := bx (B_3.out.trans (hb.mono B_3.out.size))
  clear hb X0_3 P_3 B_3
  have YX0_4 := bx (X0_4.out.alloc (.cells (ints .u64 (wl 0)).toArray 24))
  have YP_4 := bx (P_4.out.alloc (.cells (ints .u64 (wl 0)).toArray 24))
  have N_4 := bx (Has.new w4 (ints .u64 (wl 0)) 24)
  have C_4 := bx (B_4.out.alloc B_4.out.size (.cells (ints .u64 (wl 0)).toArray 24))
  go_wp2_with (first | ((with_reducible refine wpList_storeB rfl 24 _ _ rfl _ (ints .u64 (wl p)) _ ?_ ?_ N_4.out (wl_len2 _ _) Tryd.underlying24 ?_ (wl_one _) ?_); rfl; rfl; exact cells_wide _; intro w5 hw hg hz0; have Q_5 := bx hw; have X0_5 := bx (YX0_4.out.grown hg (ne_som (Nat.ne_of_lt X0_4.out.lt))); have P_5 := bx (YP_4.out.grown hg (ne_som (Nat.ne_of_lt P_4.out.lt))); have B_5 := bx (C_4.out.grown hg C_4.out.size (fun k hk => by cases hk; exact B_4.out.size)); clear hw hg hz0) | ((with_reducible refine wpList_loadG 24 _ rfl _ (ints .u64 (wl n)) ?_ ?_ X0_5.out Tryd.underlying24 rfl ?_ ?_); rfl; rfl; exact cells_wide _) | ((with_reducible refine wpList_loadG 24 _ rfl _ (ints .u64 (wl n)) ?_ ?_ P_5.out Tryd.underlying24 rfl ?_ ?_); rfl; rfl; exact cells_wide _) | ((with_reducible refine wpList_loadG 24 _ rfl _ (ints .u64 (wl p)) ?_ ?_ Q_5.out Tryd.underlying24 rfl ?_ ?_); rfl; rfl; exact cells_wide _))
  clear X0_4 P_4 B_4 YX0_4 YP_4 N_4 C_4
  refine (RS.out _).mono ?_; rintro e w6 ⟨rfl, hb⟩
  have X0_6 := bx (X0_5.out.below hb X0_5.out.lt)
  have P_6 := bx (P_5.out.below hb P_5.out.lt)
  have Q_6 := bx (Q_5.out.below hb Q_5.out.lt)
  have B_6 := bx (B_5.out.trans (hb.mono B_5.out.size))
  clear hb X0_5 P_5 Q_5 B_5
  have YX0_6 := bx (X0_6.out.alloc (.cells (ints .u64 (wl 0)).toArray 24))
  have YP_6 := bx (P_6.out.alloc (.cells (ints .u64 (wl 0)).toArray 24))
  have YQ_6 := bx (Q_6.out.alloc (.cells (ints .u64 (wl 0)).toArray 24))
  have N_6 := bx (Has.new w6 (ints .u64 (wl 0)) 24)
  have C_6 := bx (B_6.out.alloc B_6.out.size (.cells (ints .u64 (wl 0)).toArray 24))
  go_wp2_with (first | ((with_reducible refine wpList_storeB rfl 24 _ _ rfl _ (ints .u64 (wl p)) _ ?_ ?_ N_6.out (wl_len2 _ _) Tryd.underlying24 ?_ (wl_one _) ?_); rfl; rfl; exact cells_wide _; intro w7 hw hg hz0; have R_7 := bx hw; have X0_7 := bx (YX0_6.out.grown hg (ne_som (Nat.ne_of_lt X0_6.out.lt))); have P_7 := bx (YP_6.out.grown hg (ne_som (Nat.ne_of_lt P_6.out.lt))); have Q_7 := bx (YQ_6.out.grown hg (ne_som (Nat.ne_of_lt Q_6.out.lt))); have B_7 := bx (C_6.out.grown hg C_6.out.size (fun k hk => by cases hk; exact B_6.out.size)); clear hw hg hz0) | ((with_reducible refine wpList_loadG 24 _ rfl _ (ints .u64 (wl n)) ?_ ?_ X0_7.out Tryd.underlying24 rfl ?_ ?_); rfl; rfl; exact cells_wide _) | ((with_reducible refine wpList_loadG 24 _ rfl _ (ints .u64 (wl n)) ?_ ?_ P_7.out Tryd.underlying24 rfl ?_ ?_); rfl; rfl; exact cells_wide _) | ((with_reducible refine wpList_loadG 24 _ rfl _ (ints .u64 (wl p)) ?_ ?_ Q_7.out Tryd.underlying24 rfl ?_ ?_); rfl; rfl; exact cells_wide _) | ((with_reducible refine wpList_loadG 24 _ rfl _ (ints .u64 (wl p)) ?_ ?_ R_7.out Tryd.underlying24 rfl ?_ ?_); rfl; rfl; exact cells_wide _))
  clear X0_6 P_6 Q_6 B_6 YX0_6 YP_6 YQ_6 N_6 C_6
  refine (RF.out _).mono ?_; rintro e w8 ⟨rfl, hb⟩
  have X0_8 := bx (X0_7.out.below hb X0_7.out.lt)
  have P_8 := bx (P_7.out.below hb P_7.out.lt)
  have Q_8 := bx (Q_7.out.below hb Q_7.out.lt)
  have R_8 := bx (R_7.out.below hb R_7.out.lt)
  have B_8 := bx (B_7.out.trans (hb.mono B_7.out.size))
  clear hb X0_7 P_7 Q_7 R_7 B_7
  go_wp2_with (first | ((with_reducible refine wpList_loadG 24 _ rfl _ (ints .u64 (wl n)) ?_ ?_ X0_8.out Tryd.underlying24 rfl ?_ ?_); rfl; rfl; exact cells_wide _) | ((with_reducible refine wpList_loadG 24 _ rfl _ (ints .u64 (wl n)) ?_ ?_ P_8.out Tryd.underlying24 rfl ?_ ?_); rfl; rfl; exact cells_wide _) | ((with_reducible refine wpList_loadG 24 _ rfl _ (ints .u64 (wl p)) ?_ ?_ Q_8.out Tryd.underlying24 rfl ?_ ?_); rfl; rfl; exact cells_wide _) | ((with_reducible refine wpList_loadG 24 _ rfl _ (ints .u64 (wl p)) ?_ ?_ R_8.out Tryd.underlying24 rfl ?_ ?_); rfl; rfl; exact cells_wide _))
  refine (AW.out _).mono ?_; rintro e w9 ⟨rfl, hb⟩
  have X0_9 := bx (X0_8.out.below hb X0_8.out.lt)
  have P_9 := bx (P_8.out.below hb P_8.out.lt)
  have Q_9 := bx (Q_8.out.below hb Q_8.out.lt)
  have R_9 := bx (R_8.out.below hb R_8.out.lt)
  have B_9 := bx (B_8.out.trans (hb.mono B_8.out.size))
  clear hb X0_8 P_8 Q_8 R_8 B_8
  go_wp2_with (first | ((with_reducible refine wpList_loadG 24 _ rfl _ (ints .u64 (wl n)) ?_ ?_ X0_9.out Tryd.underlying24 rfl ?_ ?_); rfl; rfl; exact cells_wide _) | ((with_reducible refine wpList_loadG 24 _ rfl _ (ints .u64 (wl n)) ?_ ?_ P_9.out Tryd.underlying24 rfl ?_ ?_); rfl; rfl; exact cells_wide _) | ((with_reducible refine wpList_loadG 24 _ rfl _ (ints .u64 (wl p)) ?_ ?_ Q_9.out Tryd.underlying24 rfl ?_ ?_); rfl; rfl; exact cells_wide _) | ((with_reducible refine wpList_loadG 24 _ rfl _ (ints .u64 (wl p)) ?_ ?_ R_9.out Tryd.underlying24 rfl ?_ ?_); rfl; rfl; exact cells_wide _))
  go_ret
  exact ⟨rfl, B_9.out⟩
theorem wideTexts_walk (a : List Int) (s : ByteArray) (w : World) (la : a.length = 4) (fa : Fit .u64 a) (ls : s.size ≤ maxLen) :
    Calls Tryd.prog 8 #[.agg (ints .u64 a).toArray, .string s] w fun e w' => e = .returned (.bool true) ∧ Below w.heap.size w w' := by
  have hm : s.size ≤ 9223372036854775807 := ls
  by_cases h : s.size ≤ 500
  · obtain ⟨n, hn, rfl⟩ := wide_of la fa
    exact wideTexts_go n s hn h w
  · exact wideTexts_long a s (by omega) hm w
end Go.Proofs.YtpgpplpddjjchaaDoor
