/- Numbers of 256 bits: the reference's reading of decimal notation, walked. -/
import Derived.Test.YtpgpplpddjjchaaDoorWidePw
import Derived.Test.YtpgpplpddjjchaaDoorWideN
namespace Go.Proofs.YtpgpplpddjjchaaDoor
open Go.RowKit
set_option maxRecDepth 20000 in
set_option maxHeartbeats 1000000 in
theorem refParse_bad (s : ByteArray) (hs : s.size ≤ 500) (h : s.size = 0 ∨ 80 < s.size ∨ (0 < s.size ∧ s.size ≤ 80 ∧ (numsOf s).getD 0 0 = 48 ∧ 1 < s.size)) (w : World) : Calls Tryd.prog 31 #[.string s] w (WP (numsOf s) w) := by
  have hz := wz_lit
  have X0 := bx (Has.new w (ints .u64 (wl 0)) 24)
  have B0 := bx ((Below.refl w.heap.size w).alloc (Nat.le_refl _) (.cells (ints .u64 (wl 0)).toArray 24))
  have HB : Bx (pW (numsOf s) = 0 ∧ pE (numsOf s) = 1) := ⟨bad_of (by
    unfold badT
    rw [numsOf_len]
    rcases h with h | h | ⟨h1, h2, h3, h4⟩
    · rw [decide_eq_true h]; rfl
    · rw [decide_eq_true h]; simp
    · rw [decide_eq_true h3, decide_eq_true h4]; simp)⟩
  rcases h with h | h | ⟨h1, h2, h3, h4⟩
  · have h0 : (s.size : Int) < 1 := by omega
    go_enter Tryd.func31, Tryd.ntmps31
    go_wp2_with ((with_reducible refine wpList_storeB rfl 24 _ _ rfl _ (ints .u64 (wl 0)) _ ?_ ?_ X0.out (wl_len2 _ _) Tryd.underlying24 ?_ (wl_one _) ?_); rfl; rfl; exact cells_wide _; intro w1 hw hg hz0; have U9 := bx hw; have B9 := bx (B0.out.grown hg (by simp) (fun k hk => by cases hk; exact Nat.le_refl _)); clear hw hg hz0)
    exact bodyPost_ret (results_cell_tmp (by rfl) _ (by rfl) U9.out Tryd.underlying24 rfl (cells_wide _)) rfl ⟨by rw [HB.out.1, HB.out.2]; rfl, B9.out⟩
  · have h0 : ¬ (s.size : Int) < 1 := by omega
    have h8 : (80 : Int) < (s.size : Int) := by omega
    go_enter Tryd.func31, Tryd.ntmps31
    go_wp2_with ((with_reducible refine wpList_storeB rfl 24 _ _ rfl _ (ints .u64 (wl 0)) _ ?_ ?_ X0.out (wl_len2 _ _) Tryd.underlying24 ?_ (wl_one _) ?_); rfl; rfl; exact cells_wide _; intro w1 hw hg hz0; have U9 := bx hw; have B9 := bx (B0.out.grown hg (by simp) (fun k hk => by cases hk; exact Nat.le_refl _)); clear hw hg hz0)
    exact bodyPost_ret (results_cell_tmp (by rfl) _ (by rfl) U9.out Tryd.underlying24 rfl (cells_wide _)) rfl ⟨by rw [HB.out.1, HB.out.2]; rfl, B9.out⟩
  · have h0 : ¬ (s.size : Int) < 1 := by omega
    have h8 : ¬ (80 : Int) < (s.size : Int) := by omega
    have h5 : (1 : Int) < (s.size : Int) := by omega
    have hix : ∀ w : World, (Instr.index 9 (.string s) (.int .i64 0)).run Tryd.prog w = .ok (.int .u8 48) w := fun w => by have := index_nums s 0 h1 w; rw [h3] at this; exact this
    go_enter Tryd.func31, Tryd.ntmps31
    go_wp2_with ((with_reducible refine wpList_storeB rfl 24 _ _ rfl _ (ints .u64 (wl 0)) _ ?_ ?_ X0.out (wl_len2 _ _) Tryd.underlying24 ?_ (wl_one _) ?_); rfl; rfl; exact cells_wide _; intro w1 hw hg hz0; have U9 := bx hw; have B9 := bx (B0.out.grown hg (by simp) (fun k hk => by cases hk; exact Nat.le_refl _)); clear hw hg hz0)
    exact bodyPost_ret (results_cell_tmp (by rfl) _ (by rfl) U9.out Tryd.underlying24 rfl (cells_wide _)) rfl ⟨by rw [HB.out.1, HB.out.2]; rfl, B9.out⟩
set_option maxRecDepth 20000 in
set_option maxHeartbeats 2000000 in
theorem refParse_good (s : ByteArray) (h1 : 0 < s.size) (h2 : s.size ≤ 80) (h3 : (numsOf s).getD 0 0 ≠ 48 ∨ s.size = 1) (w : World) : Calls Tryd.prog 31 #[.string s] w (WP (numsOf s) w) := by
  have hz := wz_lit
  have X0 := bx (Has.new w (ints .u64 (wl 0)) 24)
  have B0 := bx ((Below.refl w.heap.size w).alloc (Nat.le_refl _) (.cells (ints .u64 (wl 0)).toArray 24))
  have HIX := bx (index_nums s)
  have HBD := bx (nums_bd s)
  have HLEN := bx (numsOf_len s)
  have HG : Bx ((∀ k, k < s.size → digB ((numsOf s).getD k 0) = true) → badT (numsOf s) = false) := ⟨fun h => good_all (by rw [numsOf_len]; omega) (by rw [numsOf_len]; omega) (by rw [numsOf_len]; exact h3) (fun k hk => h k (by rw [numsOf_len] at hk; exact hk))⟩
  have HBAD : Bx (∀ k, k < s.size → digB ((numsOf s).getD k 0) = false → badT (numsOf s) = true) := ⟨fun k hk h => bad_digit (by rw [numsOf_len]; exact hk) h⟩
  generalize numsOf s = l at *
  have hix0 : ∀ w : World, (Instr.index 9 (.string s) (.int .i64 0)).run Tryd.prog w = .ok (.int .u8 (l.getD 0 0)) w := fun w => HIX.out 0 h1 w
  have h0 : ¬ (s.size : Int) < 1 := by omega
  have h8 : ¬ (80 : Int) < (s.size : Int) := by omega
  have hc : (¬ (1 : Int) < (s.size : Int)) ∨ ((1 : Int) < (s.size : Int) ∧ (l.getD 0 0 == 48) = false) := by
    rcases h3 with h3 | h3
    · by_cases h : s.size = 1
      · exact .inl (by omega)
      · exact .inr ⟨by omega, beq_eq_false_iff_ne.2 h3⟩
    · exact .inl (by omega)
  clear h3
  generalize l.getD 0 0 = c0 at *
  rcases hc with hc | ⟨hc, hc2⟩
  all_goals
    go_enter Tryd.func31, Tryd.ntmps31
    go_wp2_with fail
    go_loopw [4] (fun i wr => ∃ k : Nat, k ≤ s.size ∧ i = .int .i64 k ∧ (∀ j, j < k → digB (l.getD j 0) = true) ∧ Has wr w.heap.size (ints .u64 (wl 0)) ∧ Below w.heap.size w wr) (fun i _ => s.size - (intOf i).toNat)
    case atStart => exact ⟨0, Nat.zero_le _, rfl, fun j hj => absurd hj (Nat.not_lt_zero _), X0.out, B0.out⟩
    case round =>
      obtain ⟨k, hk, rfl, hdig, hx0, hbel⟩ := hrel
      have Y0 := bx hx0
      have BY := bx hbel
      have HDIG := bx hdig
      clear hx0 hbel hdig X0 B0
      by_cases hks : k < s.size
      · have hix := HIX.out k hks
        have hbd := HBD.out k hks
        have HB1 := bx (HBAD.out k hks)
        have HD1 : Bx (digB (l.getD k 0) = true → ∀ j, j < k + 1 → digB (l.getD j 0) = true) := ⟨fun h j hj => by
          rcases Nat.lt_or_eq_of_le (Nat.le_of_lt_succ hj) with h2 | h2
          · exact HDIG.out j h2
          · rw [h2]; exact h⟩
        generalize l.getD k 0 = c at *
        by_cases h48 : c < 48
        · have HBB : Bx (pW l = 0 ∧ pE l = 1) := ⟨bad_of (HB1.out (by unfold digB; rw [decide_eq_false (by omega)]; rfl))⟩
          go_wp2_with ((with_reducible refine wpList_storeB rfl 24 _ _ rfl _ (ints .u64 (wl 0)) _ ?_ ?_ Y0.out (wl_len2 _ _) Tryd.underlying24 ?_ (wl_one _) ?_); rfl; rfl; exact cells_wide _; intro w1 hw hg hz0; have U9 := bx hw; have B9 := bx (BY.out.grown hg BY.out.size (fun k hk => by cases hk; exact Nat.le_refl _)); clear hw hg hz0)
          exact bodyPost_ret (results_cell_tmp (by rfl) _ (by rfl) U9.out Tryd.underlying24 rfl (cells_wide _)) rfl ⟨by rw [HBB.out.1, HBB.out.2]; rfl, B9.out⟩
        · by_cases h57 : 57 < c
          · have HBB : Bx (pW l = 0 ∧ pE l = 1) := ⟨bad_of (HB1.out (by unfold digB; rw [show decide (c ≤ 57) = false from decide_eq_false (by omega), Bool.and_false]))⟩
            go_wp2_with ((with_reducible refine wpList_storeB rfl 24 _ _ rfl _ (ints .u64 (wl 0)) _ ?_ ?_ Y0.out (wl_len2 _ _) Tryd.underlying24 ?_ (wl_one _) ?_); rfl; rfl; exact cells_wide _; intro w1 hw hg hz0; have U9 := bx hw; have B9 := bx (BY.out.grown hg BY.out.size (fun k hk => by cases hk; exact Nat.le_refl _)); clear hw hg hz0)
            exact bodyPost_ret (results_cell_tmp (by rfl) _ (by rfl) U9.out Tryd.underlying24 rfl (cells_wide _)) rfl ⟨by rw [HBB.out.1, HBB.out.2]; rfl, B9.out⟩
          · have HDD := bx (HD1.out (by unfold digB; rw [decide_eq_true (show 48 ≤ c by omega), decide_eq_true (show c ≤ 57 by omega)]; rfl))
            go_wp2_with fail
            go_roundw
            case rel => exact ⟨k + 1, by omega, by go_num, HDD.out, Y0.out, BY.out⟩
            case measure => simp [intOf]; omega
      · obtain rfl : k = s.size := by omega
        have GD := bx (HG.out HDIG.out)
        have Z0 := bx (Y0.out.alloc (.cells (ints .u64 (wl 0)).toArray 24))
        have Z5 := bx (Has.new wr (ints .u64 (wl 0)) 24)
        have BZ := bx (BY.out.alloc BY.out.size (.cells (ints .u64 (wl 0)).toArray 24))
        have LG := bx Y0.out.lt
        clear HBAD HG Y0 BY
        go_wp2_with fail
        generalize wr.heap.size = g5 at *
        go_loopw [6] (fun i wx => ∃ k : Nat, k ≤ s.size ∧ i = .int .i64 k ∧ pv (l.take k) < 2 ^ 256 ∧ Has wx w.heap.size (ints .u64 (wl 0)) ∧ Has wx g5 (ints .u64 (wl (pv (l.take k)))) ∧ Below w.heap.size w wx) (fun i _ => s.size - (intOf i).toNat)
        case atStart => exact ⟨0, Nat.zero_le _, rfl, Nat.two_pow_pos 256, Z0.out, Z5.out, BZ.out⟩
        case round =>
          obtain ⟨k, hk, rfl, hp, hx0, hx5, hbel⟩ := hrel
          have Y0 := bx hx0
          have Y5 := bx hx5
          have BY := bx hbel
          have HP := bx hp
          clear hx0 hx5 hbel hp Z0 Z5 BZ
          have HNE : Bx (w.heap.size ≠ g5) := ⟨Nat.ne_of_lt LG.out⟩
          by_cases hks : k < s.size
          · have hkl : k < l.length := by rw [HLEN.out]; exact hks
            have HPV := bx (pv_take hkl)
            have HLE := bx (pv_take_le l (k + 1))
            have hdg := HDIG.out k hks
            have hix := HIX.out k hks
            generalize hp2 : pv (l.take (k + 1)) = p2 at *
            have EP2 := bx hp2
            clear hp2
            generalize pv (l.take k) = p at *
            generalize l.getD k 0 = c at *
            obtain ⟨hc1, hc2⟩ : 48 ≤ c ∧ c ≤ 57 := by
              unfold digB at hdg
              rw [Bool.and_eq_true] at hdg
              exact ⟨of_decide_eq_true hdg.1, of_decide_eq_true hdg.2⟩
            clear hdg
            obtain ⟨d, hd⟩ : ∃ d : Nat, c - 48 = (d : Int) := ⟨(c - 48).toNat, by omega⟩
            have HPQ : Bx (p2 = p * 10 + d) := ⟨by rw [HPV.out]; omega⟩
            have hd9 : d < 10 := by omega
            clear HPV
            have CQ := bx (Has.cls (w := wr.drew) Y5.out)
            have D0 : Bx (Has wr.drew w.heap.size (ints .u64 (wl 0))) := ⟨Y0.out⟩
            have D5 : Bx (Has wr.drew g5 (ints .u64 (wl p))) := ⟨Y5.out⟩
            have BD : Bx (Below w.heap.size w wr.drew) := ⟨BY.out.drew⟩
            have MA := bx (mulAdd_any p 10 d HP.out (by decide) (by omega))
            rw [← HPQ.out] at MA
            unfold WB at MA
            go_wp2_with fail
            refine wp_region_mix3 11 (.steps [(0, 0), (0, 1), (0, 2), (0, 3), (0, 4), (0, 5)] (.fork 6 (.steps [(1, 7), (1, 8), (1, 9), (2, 10)] .leaf) 10 (.steps [(2, 6), (1, 7), (1, 8), (1, 9)] .leaf))) (by kernel_rfl) (by kernel_rfl) ?_
            simp only [MixT, MT.steps, stepAt, List.getD_cons_zero, List.getD_cons_succ, List.drop_succ_cons, List.drop_zero]
            repeat (first | (with_reducible refine wpQuiet_nil ?_) | (first | go_big_quiet_skip | (go_big_quiet_want; first | ((with_reducible refine quiet_loadC 24 _ rfl _ (ints .u64 (wl p)) ?_ CQ.out Tryd.underlying24 rfl ?_ ?_); rfl; exact cells_wide _; go_big_quiet_on; (simp only [Act.put, List.setIfInBounds_toArray, List.set_cons_succ, List.set_cons_zero])) | (go_big_quiet_op; first | go_big_quiet_on | ((with_reducible refine ⟨_, fun _ _ => rfl, ?_⟩); go_big_quiet_on)))))
            have HOV2 : Bx (p2 < 2 ^ 256 → p2 % 2 ^ 256 = p2 ∧ decide (p2 / 2 ^ 256 = 0) = true) := ⟨fun h => ⟨Nat.mod_eq_of_lt h, decide_eq_true (Nat.div_eq_of_lt h)⟩⟩
            have HOV3 : Bx (¬ p2 < 2 ^ 256 → decide (p2 / 2 ^ 256 = 0) = false) := ⟨fun h => decide_eq_false (fun e => h (Nat.lt_of_div_eq_zero (Nat.two_pow_pos _) e))⟩
            generalize p2 % 2 ^ 256 = v at *
            generalize decide (p2 / 2 ^ 256 = 0) = ok at *
            refine ⟨?_, ?_⟩
            · refine mix_call (MA.out _) Tryd.func39 rfl rfl _ _ rfl rfl rfl ?_
              rintro e w5 ⟨rfl, hb5⟩
              refine ⟨_, rfl, hb5, ?_⟩
              have Z0 := bx (D0.out.below hb5 D0.out.lt)
              have Z5 := bx (D5.out.below hb5 D5.out.lt)
              have BZ := bx (BD.out.trans (hb5.mono BD.out.size))
              clear hb5 D0 D5 BD
              simp only [Act.put, List.setIfInBounds_toArray, List.set_cons_succ, List.set_cons_zero]
              repeat (first | (with_reducible refine wpQuiet_nil ?_) | (first | go_big_quiet_skip | (go_big_quiet_want; first | fail | (go_big_quiet_op; first | go_big_quiet_on | ((with_reducible refine ⟨_, fun _ _ => rfl, ?_⟩); go_big_quiet_on)))))
              refine mix_run (run_allocW rfl) rfl ?_
              refine ⟨ext_alloc _ _, ?_⟩
              have V0 := bx (Z0.out.alloc (.cells (ints .u64 (wl 0)).toArray 24))
              have V5 := bx (Z5.out.alloc (.cells (ints .u64 (wl 0)).toArray 24))
              have V7 := bx (Has.new w5 (ints .u64 (wl 0)) 24)
              have BV := bx (BZ.out.alloc BZ.out.size (.cells (ints .u64 (wl 0)).toArray 24))
              have L0 := bx (Nat.ne_of_lt Z0.out.lt)
              have L5 := bx (Nat.ne_of_lt Z5.out.lt)
              have LB := bx BZ.out.size
              clear Z0 Z5 BZ
              simp only [Act.put, List.setIfInBounds_toArray, List.set_cons_succ, List.set_cons_zero]
              repeat (first | (with_reducible refine wpQuiet_nil ?_) | (first | go_big_quiet_skip | (go_big_quiet_want; first | fail | (go_big_quiet_op; first | go_big_quiet_on | ((with_reducible refine ⟨_, fun _ _ => rfl, ?_⟩); go_big_quiet_on)))))
              by_cases hv2 : p2 < 2 ^ 256
              · obtain ⟨hh1, hh2⟩ := HOV2.out hv2
                have HV2 := bx hv2
                rw [hh1, hh2]
                clear hv2 hh1 hh2
                go_wp2_with ((with_reducible refine wpList_storeB rfl 24 _ _ rfl _ (ints .u64 (wl p2)) _ ?_ ?_ V7.out (wl_len2 _ _) Tryd.underlying24 ?_ (wl_one _) ?_); rfl; rfl; exact cells_wide _; intro w9 hw hg hz0; have G7 := bx hw; have G5 := bx (V5.out.grown hg (ne_som L5.out)); have G0 := bx (V0.out.grown hg (ne_som L0.out)); have BG := bx (BV.out.grown hg BV.out.size (fun k hk => by cases hk; exact LB.out)); clear hw hg hz0)
                refine NoPanic.normal ?_
                go_wp2_with (first | ((with_reducible refine wpList_loadG 24 _ rfl _ (ints .u64 (wl p2)) ?_ ?_ G7.out Tryd.underlying24 rfl ?_ ?_); rfl; rfl; exact cells_wide _) | ((with_reducible refine wpList_storeB rfl 24 _ _ rfl _ (ints .u64 (wl p2)) _ ?_ ?_ G5.out (wl_len2 _ _) Tryd.underlying24 ?_ (wl_one _) ?_); rfl; rfl; exact cells_wide _; intro w10 hw hg hz0; have J5 := bx hw; have J0 := bx (G0.out.grown hg (ne_som HNE.out)); have BJ := bx (BG.out.grown hg BG.out.size (fun k hk => by cases hk; have := LG.out; omega)); clear hw hg hz0))
                go_roundw
                case rel => exact ⟨k + 1, by omega, by go_num, by rw [EP2.out]; exact HV2.out, J0.out, by rw [EP2.out]; exact J5.out, BJ.out⟩
                case measure => simp [intOf]; omega
              · have hh2 := HOV3.out hv2
                have HOO := bx (over_of GD.out (show ¬ pv l < 2 ^ 256 by have := HLE.out; omega))
                rw [hh2]
                clear hv2 hh2
                go_wp2_with ((with_reducible refine wpList_storeB rfl 24 _ _ rfl _ (ints .u64 (wl v)) _ ?_ ?_ V7.out (wl_len2 _ _) Tryd.underlying24 ?_ (wl_one _) ?_); rfl; rfl; exact cells_wide _; intro w9 hw hg hz0; have G7 := bx hw; have G0 := bx (V0.out.grown hg (ne_som L0.out)); have BG := bx (BV.out.grown hg BV.out.size (fun k hk => by cases hk; exact LB.out)); clear hw hg hz0)
                refine NoPanic.normal ?_
                go_wp2_with ((with_reducible refine wpList_storeB rfl 24 _ _ rfl _ (ints .u64 (wl 0)) _ ?_ ?_ G0.out (wl_len2 _ _) Tryd.underlying24 ?_ (wl_one _) ?_); rfl; rfl; exact cells_wide _; intro w10 hw hg hz0; have U9 := bx hw; have B9 := bx (BG.out.grown hg BG.out.size (fun k hk => by cases hk; exact Nat.le_refl _)); clear hw hg hz0)
                exact bodyPost_ret (results_cell_tmp (by rfl) _ (by rfl) U9.out Tryd.underlying24 rfl (cells_wide _)) rfl ⟨by rw [HOO.out.1, HOO.out.2]; rfl, B9.out⟩
            · refine mix_run (run_allocW rfl) rfl ?_
              refine ⟨ext_alloc _ _, ?_⟩
              have Z0 := bx (D0.out.alloc (.cells (ints .u64 (wl 0)).toArray 24))
              have Z5 := bx (D5.out.alloc (.cells (ints .u64 (wl 0)).toArray 24))
              have Z7 := bx (Has.new wr.drew (ints .u64 (wl 0)) 24)
              have BZ := bx (BD.out.alloc BD.out.size (.cells (ints .u64 (wl 0)).toArray 24))
              have L0 := bx (Nat.ne_of_lt D0.out.lt)
              have L5 := bx (Nat.ne_of_lt D5.out.lt)
              have LB := bx BD.out.size
              refine mix_call (MA.out _) Tryd.func39 rfl rfl _ _ rfl rfl rfl ?_
              rintro e w5 ⟨rfl, hb5⟩
              refine ⟨_, rfl, hb5, ?_⟩
              have V0 := bx (Z0.out.below hb5 Z0.out.lt)
              have V5 := bx (Z5.out.below hb5 Z5.out.lt)
              have V7 := bx (Z7.out.below hb5 Z7.out.lt)
              have BV := bx (BZ.out.trans (hb5.mono BZ.out.size))
              clear hb5 D0 D5 BD Z0 Z5 Z7 BZ
              simp only [Act.put, List.setIfInBounds_toArray, List.set_cons_succ, List.set_cons_zero]
              repeat (first | (with_reducible refine wpQuiet_nil ?_) | (first | go_big_quiet_skip | (go_big_quiet_want; first | fail | (go_big_quiet_op; first | go_big_quiet_on | ((with_reducible refine ⟨_, fun _ _ => rfl, ?_⟩); go_big_quiet_on)))))
              by_cases hv2 : p2 < 2 ^ 256
              · obtain ⟨hh1, hh2⟩ := HOV2.out hv2
                have HV2 := bx hv2
                rw [hh1, hh2]
                clear hv2 hh1 hh2
                go_wp2_with ((with_reducible refine wpList_storeB rfl 24 _ _ rfl _ (ints .u64 (wl p2)) _ ?_ ?_ V7.out (wl_len2 _ _) Tryd.underlying24 ?_ (wl_one _) ?_); rfl; rfl; exact cells_wide _; intro w9 hw hg hz0; have G7 := bx hw; have G5 := bx (V5.out.grown hg (ne_som L5.out)); have G0 := bx (V0.out.grown hg (ne_som L0.out)); have BG := bx (BV.out.grown hg BV.out.size (fun k hk => by cases hk; exact LB.out)); clear hw hg hz0)
                refine NoPanic.normal ?_
                go_wp2_with (first | ((with_reducible refine wpList_loadG 24 _ rfl _ (ints .u64 (wl p2)) ?_ ?_ G7.out Tryd.underlying24 rfl ?_ ?_); rfl; rfl; exact cells_wide _) | ((with_reducible refine wpList_storeB rfl 24 _ _ rfl _ (ints .u64 (wl p2)) _ ?_ ?_ G5.out (wl_len2 _ _) Tryd.underlying24 ?_ (wl_one _) ?_); rfl; rfl; exact cells_wide _; intro w10 hw hg hz0; have J5 := bx hw; have J0 := bx (G0.out.grown hg (ne_som HNE.out)); have BJ := bx (BG.out.grown hg BG.out.size (fun k hk => by cases hk; have := LG.out; omega)); clear hw hg hz0))
                go_roundw
                case rel => exact ⟨k + 1, by omega, by go_num, by rw [EP2.out]; exact HV2.out, J0.out, by rw [EP2.out]; exact J5.out, BJ.out⟩
                case measure => simp [intOf]; omega
              · have hh2 := HOV3.out hv2
                have HOO := bx (over_of GD.out (show ¬ pv l < 2 ^ 256 by have := HLE.out; omega))
                rw [hh2]
                clear hv2 hh2
                go_wp2_with ((with_reducible refine wpList_storeB rfl 24 _ _ rfl _ (ints .u64 (wl v)) _ ?_ ?_ V7.out (wl_len2 _ _) Tryd.underlying24 ?_ (wl_one _) ?_); rfl; rfl; exact cells_wide _; intro w9 hw hg hz0; have G7 := bx hw; have G0 := bx (V0.out.grown hg (ne_som L0.out)); have BG := bx (BV.out.grown hg BV.out.size (fun k hk => by cases hk; exact LB.out)); clear hw hg hz0)
                refine NoPanic.normal ?_
                go_wp2_with ((with_reducible refine wpList_storeB rfl 24 _ _ rfl _ (ints .u64 (wl 0)) _ ?_ ?_ G0.out (wl_len2 _ _) Tryd.underlying24 ?_ (wl_one _) ?_); rfl; rfl; exact cells_wide _; intro w10 hw hg hz0; have U9 := bx hw; have B9 := bx (BG.out.grown hg BG.out.size (fun k hk => by cases hk; exact Nat.le_refl _)); clear hw hg hz0)
                exact bodyPost_ret (results_cell_tmp (by rfl) _ (by rfl) U9.out Tryd.underlying24 rfl (cells_wide _)) rfl ⟨by rw [HOO.out.1, HOO.out.2]; rfl, B9.out⟩
          · obtain rfl : k = s.size := by omega
            have HFT : Bx (pW l = pv (l.take s.size) ∧ pE l = 0) := ⟨by
              have e : l.take s.size = l := by rw [← HLEN.out, List.take_length]
              have h := HP.out
              rw [e] at h ⊢
              exact fits_of GD.out h⟩
            generalize pv (l.take s.size) = p at *
            go_wp2_with (first | ((with_reducible refine wpList_loadG 24 _ rfl _ (ints .u64 (wl p)) ?_ ?_ Y5.out Tryd.underlying24 rfl ?_ ?_); rfl; rfl; exact cells_wide _) | ((with_reducible refine wpList_storeB rfl 24 _ _ rfl _ (ints .u64 (wl p)) _ ?_ ?_ Y0.out (wl_len2 _ _) Tryd.underlying24 ?_ (wl_one _) ?_); rfl; rfl; exact cells_wide _; intro w10 hw hg hz0; have U9 := bx hw; have B9 := bx (BY.out.grown hg BY.out.size (fun k hk => by cases hk; exact Nat.le_refl _)); clear hw hg hz0))
            exact bodyPost_ret (results_cell_tmp (by rfl) _ (by rfl) U9.out Tryd.underlying24 rfl (cells_wide _)) rfl ⟨by rw [HFT.out.1, HFT.out.2]; rfl, B9.out⟩
theorem refParse_any (s : ByteArray) (hs : s.size ≤ 500) (w : World) : Calls Tryd.prog 31 #[.string s] w (WP (numsOf s) w) := by
  by_cases h1 : 0 < s.size
  · by_cases h2 : s.size ≤ 80
    · by_cases h3 : (numsOf s).getD 0 0 = 48
      · by_cases h4 : s.size = 1
        · exact refParse_good s h1 h2 (.inr h4) w
        · exact refParse_bad s hs (.inr (.inr ⟨h1, h2, h3, by omega⟩)) w
      · exact refParse_good s h1 h2 (.inl h3) w
    · exact refParse_bad s hs (.inr (.inl (by omega))) w
  · exact refParse_bad s hs (.inl (by omega)) w
end Go.Proofs.YtpgpplpddjjchaaDoor
