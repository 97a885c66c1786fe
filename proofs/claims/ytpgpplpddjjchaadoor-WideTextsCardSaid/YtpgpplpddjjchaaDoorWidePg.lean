/- Numbers of 256 bits: the program's reading of decimal notation, walked where the length and the first digit are right. -/
import Derived.Test.YtpgpplpddjjchaaDoorWidePw
namespace Go.Proofs.YtpgpplpddjjchaaDoor
open Go.RowKit
set_option maxRecDepth 20000 in
set_option maxHeartbeats 2000000 in
theorem parse_good (s : ByteArray) (h1 : 0 < s.size) (h2 : s.size ≤ 80) (h3 : (numsOf s).getD 0 0 ≠ 48 ∨ s.size = 1) (w : World) : Calls Tryd.prog 30 #[.string s] w (WP (numsOf s) w) := by
  have hz := wz_lit
  have X0 := bx (Has.new w (ints .u64 (wl 0)) 24)
  have B0 := bx ((Below.refl w.heap.size w).alloc (Nat.le_refl _) (.cells (ints .u64 (wl 0)).toArray 24))
  have HIX := bx (index_nums s)
  have HBD := bx (nums_bd s)
  have HLEN := bx (numsOf_len s)
  have HG : Bx ((∀ k, k < s.size → digB ((numsOf s).getD k 0) = true) → badT (numsOf s) = false) := ⟨fun h => good_all (by rw [numsOf_len]; omega) (by rw [numsOf_len]; omega) (by rw [numsOf_len]; exact h3) (fun k hk => h k (by rw [numsOf_len] at hk; exact hk))⟩
  have HBAD : Bx (∀ k, k < s.size → digB ((numsOf s).getD k 0) = false → badT (numsOf s) = true) := ⟨fun k hk h => bad_digit (by rw [numsOf_len]; exact hk) h⟩
  generalize numsOf s = l at *
  have hix0 : ∀ w : World, (Instr.index 9 (.string s) (.int .i64 0)).run Tryd.prog w = .ok (.int .u8 (l.getD 0 0)) w := fun w => HIX.out 0 h1 w
  have h0 : ((s.size : Int) == 0) = false := by rw [beq_eq_false_iff_ne]; omega
  have h8 : ¬ (80 : Int) < (s.size : Int) := by omega
  have hc : (l.getD 0 0 = 48 ∧ s.size = 1) ∨ ((l.getD 0 0 == 48) = false) := by
    rcases h3 with h3 | h3
    · exact .inr (beq_eq_false_iff_ne.2 h3)
    · by_cases h : l.getD 0 0 = 48
      · exact .inl ⟨h, h3⟩
      · exact .inr (beq_eq_false_iff_ne.2 h)
  clear h3
  generalize l.getD 0 0 = c0 at *
  have h5 : c0 = 48 → ¬ (1 : Int) < (s.size : Int) := fun h => by
    rcases hc with hc | hc
    · omega
    · rw [h] at hc; cases hc
  have H5 := bx h5
  have hc2 : c0 = 48 ∨ (c0 == 48) = false := by
    rcases hc with ⟨h, _⟩ | h
    · exact .inl h
    · exact .inr h
  clear hc h5
  rcases hc2 with rfl | hc
  have h5 := H5.out rfl
  all_goals
    clear H5
    go_enter Tryd.func30, Tryd.ntmps30
    go_wp2_with fail
    go_loopw [30] (fun i wr => ∃ k : Nat, k ≤ s.size ∧ i = .int .i64 k ∧ (∀ j, j < k → digB (l.getD j 0) = true) ∧ Has wr w.heap.size (ints .u64 (wl 0)) ∧ Below w.heap.size w wr) (fun i _ => s.size - (intOf i).toNat)
    case atStart => exact ⟨0, Nat.zero_le _, rfl, fun j hj => absurd hj (Nat.not_lt_zero _), X0.out, B0.out⟩
    case round =>
      obtain ⟨k, hk, rfl, hdig, hx0, hbel⟩ := hrel
      have Y0 := bx hx0
      have BY := bx hbel
      have HDIG := bx hdig
      clear hx0 hbel hdig X0 B0
      by_cases hks : k < s.size
      · have hix := HIX.out k hks
        have hbd := HBD.out k hks
        have HB1 := bx (HBAD.out k hks)
        have HD1 : Bx (digB (l.getD k 0) = true → ∀ j, j < k + 1 → digB (l.getD j 0) = true) := ⟨fun h j hj => by
          rcases Nat.lt_or_eq_of_le (Nat.le_of_lt_succ hj) with h2 | h2
          · exact HDIG.out j h2
          · rw [h2]; exact h⟩
        generalize l.getD k 0 = c at *
        by_cases h48 : c < 48
        · have HBB : Bx (pW l = 0 ∧ pE l = 1) := ⟨bad_of (HB1.out (by unfold digB; rw [decide_eq_false (by omega)]; rfl))⟩
          go_wp2_with ((with_reducible refine wpList_storeB rfl 24 _ _ rfl _ (ints .u64 (wl 0)) _ ?_ ?_ Y0.out (wl_len2 _ _) Tryd.underlying24 ?_ (wl_one _) ?_); rfl; rfl; exact cells_wide _; intro w1 hw hg hz0; have U9 := bx hw; have B9 := bx (BY.out.grown hg BY.out.size (fun k hk => by cases hk; exact Nat.le_refl _)); clear hw hg hz0)
          exact bodyPost_ret (results_cell_tmp (by rfl) _ (by rfl) U9.out Tryd.underlying24 rfl (cells_wide _)) rfl ⟨by rw [HBB.out.1, HBB.out.2]; rfl, B9.out⟩
        · by_cases h57 : 57 < c
          · have HBB : Bx (pW l = 0 ∧ pE l = 1) := ⟨bad_of (HB1.out (by unfold digB; rw [show decide (c ≤ 57) = false from decide_eq_false (by omega), Bool.and_false]))⟩
            go_wp2_with ((with_reducible refine wpList_storeB rfl 24 _ _ rfl _ (ints .u64 (wl 0)) _ ?_ ?_ Y0.out (wl_len2 _ _) Tryd.underlying24 ?_ (wl_one _) ?_); rfl; rfl; exact cells_wide _; intro w1 hw hg hz0; have U9 := bx hw; have B9 := bx (BY.out.grown hg BY.out.size (fun k hk => by cases hk; exact Nat.le_refl _)); clear hw hg hz0)
            exact bodyPost_ret (results_cell_tmp (by rfl) _ (by rfl) U9.out Tryd.underlying24 rfl (cells_wide _)) rfl ⟨by rw [HBB.out.1, HBB.out.2]; rfl, B9.out⟩
          · have HDD := bx (HD1.out (by unfold digB; rw [decide_eq_true (show 48 ≤ c by omega), decide_eq_true (show c ≤ 57 by omega)]; rfl))
            go_wp2_with fail
            go_roundw
            case rel => exact ⟨k + 1, by omega, by go_num, HDD.out, Y0.out, BY.out⟩
            case measure => simp [intOf]; omega
      · obtain rfl : k = s.size := by omega
        have GD := bx (HG.out HDIG.out)
        have Z0 := bx (Y0.out.alloc (.cells (ints .u64 (wl 0)).toArray 24))
        have Z5 := bx (Has.new wr (ints .u64 (wl 0)) 24)
        have BZ := bx (BY.out.alloc BY.out.size (.cells (ints .u64 (wl 0)).toArray 24))
        have LG := bx Y0.out.lt
        clear HBAD HG Y0 BY
        go_wp2_with fail
        generalize wr.heap.size = g5 at *
        go_loopw [47] (fun i wx => ∃ k : Nat, k ≤ s.size ∧ i = .int .i64 k ∧ pv (l.take k) < 2 ^ 256 ∧ Has wx w.heap.size (ints .u64 (wl 0)) ∧ Has wx g5 (ints .u64 (wl (pv (l.take k)))) ∧ Below w.heap.size w wx) (fun i _ => s.size - (intOf i).toNat)
        case atStart => exact ⟨0, Nat.zero_le _, rfl, Nat.two_pow_pos 256, Z0.out, Z5.out, BZ.out⟩
        case round =>
          obtain ⟨k, hk, rfl, hp, hx0, hx5, hbel⟩ := hrel
          have Y0 := bx hx0
          have Y5 := bx hx5
          have BY := bx hbel
          have HP := bx hp
          clear hx0 hx5 hbel hp Z0 Z5 BZ
          have HNE : Bx (w.heap.size ≠ g5) := ⟨Nat.ne_of_lt LG.out⟩
          by_cases hks : k < s.size
          · have hkl : k < l.length := by rw [HLEN.out]; exact hks
            have HPV := bx (pv_take hkl)
            have HLE := bx (pv_take_le l (k + 1))
            have hdg := HDIG.out k hks
            have hix := HIX.out k hks
            generalize hp2 : pv (l.take (k + 1)) = p2 at *
            have EP2 := bx hp2
            clear hp2
            generalize pv (l.take k) = p at *
            generalize l.getD k 0 = c at *
            obtain ⟨hc1, hc2⟩ : 48 ≤ c ∧ c ≤ 57 := by
              unfold digB at hdg
              rw [Bool.and_eq_true] at hdg
              exact ⟨of_decide_eq_true hdg.1, of_decide_eq_true hdg.2⟩
            clear hdg
            obtain ⟨d, hd⟩ : ∃ d : Nat, c - 48 = (d : Int) := ⟨(c - 48).toNat, by omega⟩
            have HPQ : Bx (p2 = p * 10 + d) := ⟨by rw [HPV.out]; omega⟩
            have hd9 : d < 10 := by omega
            clear HPV
            go_wp2_with ((with_reducible refine wpList_loadG 24 _ rfl _ (ints .u64 (wl p)) ?_ ?_ Y5.out Tryd.underlying24 rfl ?_ ?_); rfl; rfl; exact cells_wide _)
            refine (mulS_any p 10 HP.out (by decide) _).mono ?_; rintro e w5 ⟨rfl, hb5⟩
            have V0 := bx (Y0.out.below hb5 Y0.out.lt)
            have V5 := bx (Y5.out.below hb5 Y5.out.lt)
            have BV := bx (BY.out.trans (hb5.mono BY.out.size))
            clear hb5 Y0 Y5 BY
            have T0 := bx (V0.out.alloc (.cells (ints .u64 (wl 0)).toArray 24))
            have T5 := bx (V5.out.alloc (.cells (ints .u64 (wl 0)).toArray 24))
            have T7 := bx (Has.new w5 (ints .u64 (wl 0)) 24)
            have BT := bx (BV.out.alloc BV.out.size (.cells (ints .u64 (wl 0)).toArray 24))
            by_cases hov : p * 10 < 2 ^ 256
            · have hh : okW (p * 10) = p * 10 ∧ erW (p * 10) = 0 := ⟨if_pos hov, if_pos hov⟩
              have HOV := bx hov
              rw [hh.1, hh.2]
              clear hov hh
              generalize hpt : p * 10 = pt at *
              go_wp2_with ((with_reducible refine wpList_storeB rfl 24 _ _ rfl _ (ints .u64 (wl pt)) _ ?_ ?_ T7.out (wl_len2 _ _) Tryd.underlying24 ?_ (wl_one _) ?_); rfl; rfl; exact cells_wide _; intro w6 hw hg hz0; have U7 := bx hw; have U0 := bx (T0.out.grown hg (ne_som (Nat.ne_of_lt V0.out.lt))); have U5 := bx (T5.out.grown hg (ne_som (Nat.ne_of_lt V5.out.lt))); have BU := bx (BT.out.grown hg BT.out.size (fun k hk => by cases hk; exact BV.out.size)); clear hw hg hz0)
              clear T0 T5 T7 BT V0 V5 BV
              have CQ := bx (Has.cls (w := w6.drew) U7.out)
              have D0 : Bx (Has w6.drew w.heap.size (ints .u64 (wl 0))) := ⟨U0.out⟩
              have D5 : Bx (Has w6.drew g5 (ints .u64 (wl p))) := ⟨U5.out⟩
              have BD : Bx (Below w.heap.size w w6.drew) := ⟨BU.out.drew⟩
              clear U0 U5 BU U7
              refine wp_region_mix2 11 [(0, 0), (0, 1), (0, 2), (0, 3), (0, 4), (0, 5), (2, 6), (2, 7), (1, 8), (1, 9), (1, 10)] (by kernel_rfl) (by kernel_rfl) ?_
              simp only [MixH, List.getD_cons_zero, List.getD_cons_succ, List.drop_succ_cons, List.drop_zero]
              repeat (first | (with_reducible refine wpQuiet_nil ?_) | (first | go_big_quiet_skip | (go_big_quiet_want; first | ((with_reducible refine quiet_loadC 24 _ rfl _ (ints .u64 (wl pt)) ?_ CQ.out Tryd.underlying24 rfl ?_ ?_); rfl; exact cells_wide _; go_big_quiet_on; (simp only [Act.put, List.setIfInBounds_toArray, List.set_cons_succ, List.set_cons_zero])) | (go_big_quiet_op; first | go_big_quiet_on | ((with_reducible refine ⟨_, fun _ _ => rfl, ?_⟩); go_big_quiet_on)))))
              refine mix_call (from_any d (by omega) _) Tryd.func16 rfl rfl _ _ rfl rfl rfl ?_
              rintro e w7 ⟨rfl, hb7⟩
              refine ⟨_, rfl, hb7, ?_⟩
              have E0 := bx (D0.out.below hb7 D0.out.lt)
              have E5 := bx (D5.out.below hb7 D5.out.lt)
              have BE := bx (BD.out.trans (hb7.mono BD.out.size))
              clear hb7 D0 D5 BD
              refine mix_call (add_any pt d HOV.out (by omega) _) Tryd.func10 rfl rfl _ _ rfl rfl rfl ?_
              rintro e w8 ⟨rfl, hb8⟩
              refine ⟨_, rfl, hb8, ?_⟩
              have F0 := bx (E0.out.below hb8 E0.out.lt)
              have F5 := bx (E5.out.below hb8 E5.out.lt)
              have BF := bx (BE.out.trans (hb8.mono BE.out.size))
              clear hb8 E0 E5 BE
              rw [← HPQ.out]
              simp only [Act.put, List.setIfInBounds_toArray, List.set_cons_succ, List.set_cons_zero]
              repeat (first | (with_reducible refine wpQuiet_nil ?_) | (first | go_big_quiet_skip | (go_big_quiet_want; first | fail | (go_big_quiet_op; first | go_big_quiet_on | ((with_reducible refine ⟨_, fun _ _ => rfl, ?_⟩); go_big_quiet_on)))))
              by_cases hv2 : p2 < 2 ^ 256
              · have hh : okW p2 = p2 ∧ erW p2 = 0 := ⟨if_pos hv2, if_pos hv2⟩
                have HV2 := bx hv2
                rw [hh.1, hh.2]
                clear hv2 hh
                go_wp2_with ((with_reducible refine wpList_storeB rfl 24 _ _ rfl _ (ints .u64 (wl p2)) _ ?_ ?_ F5.out (wl_len2 _ _) Tryd.underlying24 ?_ (wl_one _) ?_); rfl; rfl; exact cells_wide _; intro w9 hw hg hz0; have G5 := bx hw; have G0 := bx (F0.out.grown hg (ne_som HNE.out)); have BG := bx (BF.out.grown hg BF.out.size (fun k hk => by cases hk; have := LG.out; omega)); clear hw hg hz0)
                refine NoPanic.normal ?_
                go_wp2_with fail
                go_roundw
                case rel => exact ⟨k + 1, by omega, by go_num, by rw [EP2.out]; exact HV2.out, G0.out, by rw [EP2.out]; exact G5.out, BG.out⟩
                case measure => simp [intOf]; omega
              · have hh : okW p2 = 0 ∧ erW p2 = 4 := ⟨if_neg hv2, if_neg hv2⟩
                have HOO := bx (over_of GD.out (show ¬ pv l < 2 ^ 256 by have := HLE.out; omega))
                rw [hh.1, hh.2]
                clear hv2 hh
                go_wp2_with ((with_reducible refine wpList_storeB rfl 24 _ _ rfl _ (ints .u64 (wl 0)) _ ?_ ?_ F5.out (wl_len2 _ _) Tryd.underlying24 ?_ (wl_one _) ?_); rfl; rfl; exact cells_wide _; intro w9 hw hg hz0; have G5 := bx hw; have G0 := bx (F0.out.grown hg (ne_som HNE.out)); have BG := bx (BF.out.grown hg BF.out.size (fun k hk => by cases hk; have := LG.out; omega)); clear hw hg hz0)
                refine NoPanic.normal ?_
                go_wp2_with ((with_reducible refine wpList_storeB rfl 24 _ _ rfl _ (ints .u64 (wl 0)) _ ?_ ?_ G0.out (wl_len2 _ _) Tryd.underlying24 ?_ (wl_one _) ?_); rfl; rfl; exact cells_wide _; intro w10 hw hg hz0; have U9 := bx hw; have B9 := bx (BG.out.grown hg BG.out.size (fun k hk => by cases hk; exact Nat.le_refl _)); clear hw hg hz0)
                exact bodyPost_ret (results_cell_tmp (by rfl) _ (by rfl) U9.out Tryd.underlying24 rfl (cells_wide _)) rfl ⟨by rw [HOO.out.1, HOO.out.2]; rfl, B9.out⟩
            · have hh : okW (p * 10) = 0 ∧ erW (p * 10) = 4 := ⟨if_neg hov, if_neg hov⟩
              have HOO := bx (over_of GD.out (show ¬ pv l < 2 ^ 256 by have := HLE.out; have := HPQ.out; omega))
              rw [hh.1, hh.2]
              clear hov hh
              go_wp2_with (first | ((with_reducible refine wpList_storeB rfl 24 _ _ rfl _ (ints .u64 (wl 0)) _ ?_ ?_ T7.out (wl_len2 _ _) Tryd.underlying24 ?_ (wl_one _) ?_); rfl; rfl; exact cells_wide _; intro w6 hw hg hz0; have U7 := bx hw; have U0 := bx (T0.out.grown hg (ne_som (Nat.ne_of_lt V0.out.lt))); have BU := bx (BT.out.grown hg BT.out.size (fun k hk => by cases hk; exact BV.out.size)); clear hw hg hz0) | ((with_reducible refine wpList_storeB rfl 24 _ _ rfl _ (ints .u64 (wl 0)) _ ?_ ?_ U0.out (wl_len2 _ _) Tryd.underlying24 ?_ (wl_one _) ?_); rfl; rfl; exact cells_wide _; intro w10 hw hg hz0; have U9 := bx hw; have B9 := bx (BU.out.grown hg BU.out.size (fun k hk => by cases hk; exact Nat.le_refl _)); clear hw hg hz0))
              exact bodyPost_ret (results_cell_tmp (by rfl) _ (by rfl) U9.out Tryd.underlying24 rfl (cells_wide _)) rfl ⟨by rw [HOO.out.1, HOO.out.2]; rfl, B9.out⟩
          · obtain rfl : k = s.size := by omega
            have HFT : Bx (pW l = pv (l.take s.size) ∧ pE l = 0) := ⟨by
              have e : l.take s.size = l := by rw [← HLEN.out, List.take_length]
              have h := HP.out
              rw [e] at h ⊢
              exact fits_of GD.out h⟩
            generalize pv (l.take s.size) = p at *
            go_wp2_with (first | ((with_reducible refine wpList_loadG 24 _ rfl _ (ints .u64 (wl p)) ?_ ?_ Y5.out Tryd.underlying24 rfl ?_ ?_); rfl; rfl; exact cells_wide _) | ((with_reducible refine wpList_storeB rfl 24 _ _ rfl _ (ints .u64 (wl p)) _ ?_ ?_ Y0.out (wl_len2 _ _) Tryd.underlying24 ?_ (wl_one _) ?_); rfl; rfl; exact cells_wide _; intro w10 hw hg hz0; have U9 := bx hw; have B9 := bx (BY.out.grown hg BY.out.size (fun k hk => by cases hk; exact Nat.le_refl _)); clear hw hg hz0))
            exact bodyPost_ret (results_cell_tmp (by rfl) _ (by rfl) U9.out Tryd.underlying24 rfl (cells_wide _)) rfl ⟨by rw [HFT.out.1, HFT.out.2]; rfl, B9.out⟩
theorem parse_any (s : ByteArray) (hs : s.size ≤ 500) (w : World) : Calls Tryd.prog 30 #[.string s] w (WP (numsOf s) w) := by
  by_cases h1 : 0 < s.size
  · by_cases h2 : s.size ≤ 80
    · by_cases h3 : (numsOf s).getD 0 0 = 48
      · by_cases h4 : s.size = 1
        · exact parse_good s h1 h2 (.inr h4) w
        · exact parse_bad s hs (.inr (.inr ⟨h1, h2, h3, by omega⟩)) w
      · exact parse_good s h1 h2 (.inl h3) w
    · exact parse_bad s hs (.inr (.inl (by omega))) w
  · exact parse_bad s hs (.inl (by omega)) w
end Go.Proofs.YtpgpplpddjjchaaDoor
