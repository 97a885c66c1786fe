/- Merge of the reference, walked. -/
import Derived.Test.YtonkgjengplppaaMergeW
namespace Go.Proofs.Ytonkgjengplppaa
open Go.RowKit
theorem add_split (a b : Dl) : (addE a.p b.p = 0 ∧ addE a.m b.m = 0 ∧ addDE a b = 0 ∧ addDV a b = ⟨addV a.p b.p, addV a.m b.m⟩) ∨ (addE a.p b.p = 4 ∧ addDE a b ≠ 0) ∨ (addE a.p b.p = 0 ∧ addE a.m b.m = 4 ∧ addDE a b ≠ 0) := by
  by_cases h1 : a.p + b.p < 18446744073709551616
  · by_cases h2 : a.m + b.m < 18446744073709551616
    · left; simp only [addE, addDE, addDV, addV, if_pos h1, if_pos h2]; simp
    · right; right; simp only [addE, addDE, if_pos h1, if_neg h2]; decide
  · right; left; simp only [addE, addDE, if_neg h1]; decide
set_option maxRecDepth 20000 in
set_option maxHeartbeats 2000000 in
theorem refMerge_any (A0 Al : Option Addr) (n c0 m cl : Nat) (ps : List Pt) (hn : n ≤ 4096) (hm : m ≤ 4096) (w : World) (hl : LL w Al m ps) :
    Calls Try.prog 37 #[.agg #[.slice A0 n c0], .slice Al m cl] w (MP ps n m w) := by
  obtain ⟨i0, hi0, hz0, hz1, hz2⟩ := info_parts info_dl
  have hmk := fun w => run_make (P := Try.prog) w 61 94 i0 _ Try.underlying61 hi0 hz0 .i64 .i64 n n (by omega) (Int.le_refl _) (by rw [hz2]; omega) (by omega)
  rw [hz1, Int.toNat_natCast, made_flat dc ⟨0, 0⟩ (Value.agg (dc ⟨0, 0⟩).toArray).cells (by simp [Value.cells]) (k := 2) (by rfl) (by omega) n] at hmk
  obtain ⟨cs, hcs⟩ : ∃ cs, cs = (List.replicate n (⟨0, 0⟩ : Dl)).flatMap dc := ⟨_, rfl⟩
  rw [← hcs] at hmk
  have HCS := bx hcs
  have LEN := bx hl.len
  have HLL := bx hl
  clear hcs hi0 hz0 hz1 hz2 hl
  obtain ⟨wB, hwB⟩ : ∃ wB, wB = (w.alloc (.cells #[.slice A0 n c0] 25)).alloc (.cells cs.toArray 94) := ⟨_, rfl⟩
  have HG : Bx (Has wB (w.heap.size + 1) ((List.replicate n (⟨0, 0⟩ : Dl)).flatMap dc)) := ⟨by
    rw [← HCS.out, hwB]; have := Has.new (w.alloc (.cells #[.slice A0 n c0] 25)) cs 94; rwa [alloc_size] at this⟩
  have BB : Bx (Below w.heap.size w wB) := ⟨by rw [hwB]; exact ((Below.refl w.heap.size w).alloc (Nat.le_refl _) _).alloc (by simp) _⟩
  have XT : Bx (Has wB w.heap.size [.slice A0 n c0]) := ⟨by rw [hwB]; exact (Has.new w [.slice A0 n c0] 25).alloc _⟩
  have HWB := bx hwB
  have HM := bx hm
  clear hwB
  go_enter Try.func37, Try.ntmps37
  go_wp2_with fail
  rw [← HWB.out]
  go_loopw [7] (fun i wr => ∃ k : Nat, k ≤ m ∧ i = .int .i64 k ∧ (∀ p ∈ ps.take k, p.n = n) ∧ Has wr w.heap.size [.slice A0 n c0] ∧ Has wr (w.heap.size + 1) ((List.replicate n (⟨0, 0⟩ : Dl)).flatMap dc) ∧ Below w.heap.size w wr) (fun i _ => m - (intOf i).toNat)
  case atStart => exact ⟨0, Nat.zero_le _, rfl, fun p hp => by simp at hp, XT.out, HG.out, BB.out⟩
  case round =>
    obtain ⟨k, hk, rfl, hall, hxt, hxg, hbel⟩ := hrel
    have ALL := bx hall
    have XR := bx hxt
    have GR := bx hxg
    have BR := bx hbel
    clear hall hxt hxg hbel XT HG BB
    by_cases hkm : k < m
    · have hki : (k : Int) < (m : Int) := by omega
      have hk0 : (0 : Int) ≤ (k : Int) := by omega
      have hkl : k < ps.length := by rw [LEN.out]; exact hkm
      obtain ⟨gl, pl, rfl, hgl⟩ := (HLL.out.below BR.out).at_ (by omega)
      have CD := bx (fun w1 (h1 : Cls wr.heap.size wr w1) => run_deltas1 (LL.cell (m := m) (hgl.below h1.out hgl.lt) hkl))
      have CN := bx (fun w1 (h1 : Cls wr.heap.size wr w1) => run_nodes1 ((XR.out.below h1.out XR.out.lt).cell 0))
      have MORE := bx (fun he => pts_more hkl ALL.out he)
      have HIN : Bx (ps[k] ∈ ps) := ⟨List.getElem_mem hkl⟩
      have HKM := bx hkm
      clear hgl
      unfold pv at CD
      generalize ps[k] = p at *
      obtain ⟨A, pn, pc, pds⟩ := p
      simp only at CD
      by_cases he : pn = n
      · subst he
        have hne : ((pn : Int) != (pn : Int)) = false := by simp
        have MO := bx (MORE.out rfl)
        clear MORE
        go_wp2_with fail
        refine region_cls wr.heap.size (by kernel_rfl) (by kernel_rfl) ?_
        repeat (first | go_big_quiet_skip | (go_big_quiet_want; first | (first | ((with_reducible refine quiet_cell 61 _ rfl _ _ ?_ CD.out ?_); rfl; go_big_quiet_on; (simp only [Act.put, List.setIfInBounds_toArray, List.set_cons_succ, List.set_cons_zero])) | ((with_reducible refine quiet_cell 23 _ rfl _ _ ?_ CN.out ?_); rfl; go_big_quiet_on; (simp only [Act.put, List.setIfInBounds_toArray, List.set_cons_succ, List.set_cons_zero]))) | (go_big_quiet_op; first | go_big_quiet_on | ((with_reducible refine ⟨_, fun _ _ => rfl, ?_⟩); go_big_quiet_on))))
        refine wpQuiet_nil ?_
        intro w4 hw4
        have B4 := bx (BR.out.trans (hw4.out.mono BR.out.size))
        have X4 := bx (XR.out.below hw4.out XR.out.lt)
        have G4 := bx (GR.out.below hw4.out GR.out.lt)
        clear hw4
        go_wp2_with fail
        go_roundw
        case rel => exact ⟨k + 1, HKM.out, by go_num, MO.out, X4.out, G4.out, B4.out⟩
        case measure => simp [intOf]; omega
      · have hne : ((pn : Int) != (n : Int)) = true := by rw [bne_iff_ne]; omega
        have HE := bx he
        clear MORE he
        go_wp2_with fail
        refine region_cls wr.heap.size (by kernel_rfl) (by kernel_rfl) ?_
        repeat (first | go_big_quiet_skip | (go_big_quiet_want; first | (first | ((with_reducible refine quiet_cell 61 _ rfl _ _ ?_ CD.out ?_); rfl; go_big_quiet_on; (simp only [Act.put, List.setIfInBounds_toArray, List.set_cons_succ, List.set_cons_zero])) | ((with_reducible refine quiet_cell 23 _ rfl _ _ ?_ CN.out ?_); rfl; go_big_quiet_on; (simp only [Act.put, List.setIfInBounds_toArray, List.set_cons_succ, List.set_cons_zero]))) | (go_big_quiet_op; first | go_big_quiet_on | ((with_reducible refine ⟨_, fun _ _ => rfl, ?_⟩); go_big_quiet_on))))
        refine wpQuiet_nil ?_
        intro w4 hw4
        have B4 := bx (BR.out.trans (hw4.out.mono BR.out.size))
        clear hw4
        go_wp2_with fail
        go_ret2
        exact ⟨.inl ⟨⟨_, HIN.out, HE.out⟩, rfl⟩, B4.out⟩
    · obtain rfl : k = m := by omega
      have ALLP : Bx (∀ p ∈ ps, p.n = n) := ⟨by have := ALL.out; rwa [List.take_of_length_le (by rw [LEN.out]; exact Nat.le_refl _)] at this⟩
      clear ALL
      go_wp2_with fail
      go_loopw [8] (fun i wr => ∃ (j : Nat) (o : List Dl), j ≤ k ∧ i = .int .i64 j ∧ mAll ps n j = some o ∧ o.length = n ∧ D64 o ∧ Has wr (w.heap.size + 1) (o.flatMap dc ++ []) ∧ Below w.heap.size w wr) (fun i _ => k - (intOf i).toNat)
      case atStart => exact ⟨0, _, Nat.zero_le _, rfl, rfl, rep_len n, rep_64 n, by rw [List.append_nil]; exact GR.out, BR.out⟩
      case round =>
        obtain ⟨j, o, hj, rfl, hma, hol, ho64, hog, hbel⟩ := hrel
        have MA := bx hma
        have OL := bx hol
        have O64 := bx ho64
        have OG := bx hog
        have BR := bx hbel
        clear hma hol ho64 hog hbel GR XR
        by_cases hjm : j < k
        · have hji : (j : Int) < (k : Int) := by omega
          have hj0 : (0 : Int) ≤ (j : Int) := by omega
          have hjl : j < ps.length := by rw [LEN.out]; exact hjm
          obtain ⟨gl, pl, rfl, hgl⟩ := HLL.out.at_ (by omega)
          have MS := bx (mAll_step MA.out hjl)
          have MI := bx hjl
          have PN := bx (ALLP.out _ (List.getElem_mem hjl))
          have PR := bx (HLL.out.row _ (List.getElem_mem hjl))
          have P64 := bx (HLL.out.d64 _ (List.getElem_mem hjl))
          have HJ := bx hjm
          have CLS := bx (fun w1 (h1 : Below w.heap.size w w1) => LL.cell (m := k) (hgl.below h1 hgl.lt) hjl)
          clear hgl
          unfold pv at CLS
          generalize ps[j] = p at *
          obtain ⟨A, pn, pc, pds⟩ := p
          simp only at CLS
          have PN' := PN.out
          simp only at PN'
          subst PN'
          have PDL := bx PR.out.1
          simp only at MS P64 PR PDL
          clear PN
          go_wp2_with fail
          go_loopw [9] (fun i wr => ∃ (q : Nat) (x : List Dl), q ≤ pn ∧ i = .int .i64 q ∧ mRow pds q o = some x ∧ x.length = pn ∧ D64 x ∧ Has wr (w.heap.size + 1) (x.flatMap dc ++ []) ∧ Below w.heap.size w wr) (fun i _ => pn - (intOf i).toNat)
          case atStart => exact ⟨0, o, Nat.zero_le _, rfl, rfl, OL.out, O64.out, OG.out, BR.out⟩
          case round =>
            obtain ⟨q, x, hq, rfl, hmr, hxl, hx64, hxg, hbel⟩ := hrel
            have MR := bx hmr
            have XL := bx hxl
            have X64 := bx hx64
            have XG := bx hxg
            have BX := bx hbel
            clear hmr hxl hx64 hxg hbel OL O64 OG BR
            by_cases hqn : q < pn
            · have hqi : (q : Int) < (pn : Int) := by omega
              have hq0 : (0 : Int) ≤ (q : Int) := by omega
              have hqx : Bx (q < x.length) := ⟨by rw [XL.out]; exact hqn⟩
              have hqd : Bx (q < pds.length) := ⟨by have := PDL.out; rw [this]; exact hqn⟩
              obtain ⟨gd, pd, hA, hgd⟩ := (PR.out.below BX.out).2 (by show 0 < pn; omega)
              subst hA
              have CL := bx (fun w1 (h1 : Cls wr.heap.size wr w1) => run_deltas1 (CLS.out w1 (BX.out.trans (h1.out.mono BX.out.size))))
              have CP1 := bx (fun w1 (h1 : Cls wr.heap.size wr w1) => run_u641 (flat_pD (XG.out.below h1.out XG.out.lt) hqx.out))
              have CM1 := bx (fun w1 (h1 : Cls wr.heap.size wr w1) => run_u641 (flat_mD (XG.out.below h1.out XG.out.lt) hqx.out))
              have CP2 := bx (fun w1 (h1 : Cls wr.heap.size wr w1) => run_u641 (flat_pD (hgd.below h1.out hgd.lt) hqd.out))
              have CM2 := bx (fun w1 (h1 : Cls wr.heap.size wr w1) => run_u641 (flat_mD (hgd.below h1.out hgd.lt) hqd.out))
              have HX := X64.out.at hqx.out
              have HD := P64.out.at hqd.out
              have RP := bx (ref_add (x.getD q ⟨0, 0⟩).p (pds.getD q ⟨0, 0⟩).p HX.1.1 HX.1.2 HD.1.1 HD.1.2)
              have RM := bx (ref_add (x.getD q ⟨0, 0⟩).m (pds.getD q ⟨0, 0⟩).m HX.2.1 HX.2.2 HD.2.1 HD.2.2)
              have MY := bx (fun he => mRow_yes MR.out he)
              have MN := bx (fun he => mRow_no MR.out he)
              have ADC := add_split (x.getD q ⟨0, 0⟩) (pds.getD q ⟨0, 0⟩)
              have S64 := bx (X64.out.set (addDV_64 HX HD) q)
              have HQ := bx hqn
              clear hgd hqn HX HD
              generalize addDE (x.getD q ⟨0, 0⟩) (pds.getD q ⟨0, 0⟩) = er at *
              generalize addDV (x.getD q ⟨0, 0⟩) (pds.getD q ⟨0, 0⟩) = dv at *
              generalize (x.getD q ⟨0, 0⟩).p = xp at *
              generalize (x.getD q ⟨0, 0⟩).m = xm at *
              generalize (pds.getD q ⟨0, 0⟩).p = yp at *
              generalize (pds.getD q ⟨0, 0⟩).m = ym at *
              have W0 := bx (Below.refl wr.heap.size wr)
              have hdr : Below wr.heap.size wr wr.drew := (Below.refl _ _).drew
              have DL := bx (fun w1 (h1 : Cls wr.drew.heap.size wr.drew w1) => CL.out w1 (Below.trans hdr h1))
              have DP1 := bx (fun w1 (h1 : Cls wr.drew.heap.size wr.drew w1) => CP1.out w1 (Below.trans hdr h1))
              have DP2 := bx (fun w1 (h1 : Cls wr.drew.heap.size wr.drew w1) => CP2.out w1 (Below.trans hdr h1))
              have DM1 := bx (fun w1 (h1 : Cls wr.drew.drew.heap.size wr.drew.drew w1) => CM1.out w1 (Below.trans hdr.drew h1))
              have DM2 := bx (fun w1 (h1 : Cls wr.drew.drew.heap.size wr.drew.drew w1) => CM2.out w1 (Below.trans hdr.drew h1))
              have DL2 := bx (fun w1 (h1 : Cls wr.drew.drew.heap.size wr.drew.drew w1) => CL.out w1 (Below.trans hdr.drew h1))
              have G2 : Bx (Has wr.drew.drew (w.heap.size + 1) (x.flatMap dc ++ [])) := ⟨XG.out⟩
              have B2 : Bx (Below w.heap.size w wr.drew.drew) := ⟨BX.out.drew.drew⟩
              clear CP1 CP2 CM1 CM2 CL hdr XG BX
              go_wp2_with fail
              refine wp_region_mix2 17 [(0, 0), (0, 1), (0, 2), (0, 3), (0, 4), (0, 5), (0, 6), (0, 7), (0, 8), (0, 9), (0, 10), (0, 11), (0, 12), (2, 13), (1, 14), (1, 15), (1, 16)] (by kernel_rfl) (by kernel_rfl) ?_
              simp only [MixH, List.getD_cons_zero, List.getD_cons_succ, List.drop_succ_cons, List.drop_zero]
              repeat (first | (with_reducible refine wpQuiet_nil ?_) | (first | go_big_quiet_skip | (go_big_quiet_want; first | (first | ((with_reducible refine quiet_cell 61 _ rfl _ _ ?_ DL.out ?_); rfl; go_big_quiet_on; (simp only [Act.put, List.setIfInBounds_toArray, List.set_cons_succ, List.set_cons_zero])) | ((with_reducible refine quiet_cell 35 _ rfl _ _ ?_ DP1.out ?_); rfl; go_big_quiet_on; (simp only [Act.put, List.setIfInBounds_toArray, List.set_cons_succ, List.set_cons_zero])) | ((with_reducible refine quiet_cell 35 _ rfl _ _ ?_ DP2.out ?_); rfl; go_big_quiet_on; (simp only [Act.put, List.setIfInBounds_toArray, List.set_cons_succ, List.set_cons_zero]))) | (go_big_quiet_op; first | go_big_quiet_on | ((with_reducible refine ⟨_, fun _ _ => rfl, ?_⟩); go_big_quiet_on)))))
              refine mix_call (RP.out _) Try.func57 rfl rfl _ _ rfl rfl rfl ?_
              rintro e w5 ⟨rfl, rfl⟩
              refine ⟨_, rfl, Below.refl _ _, ?_⟩
              simp only [Act.put, List.setIfInBounds_toArray, List.set_cons_succ, List.set_cons_zero]
              repeat (first | (with_reducible refine wpQuiet_nil ?_) | (first | go_big_quiet_skip | (go_big_quiet_want; first | fail | (go_big_quiet_op; first | go_big_quiet_on | ((with_reducible refine ⟨_, fun _ _ => rfl, ?_⟩); go_big_quiet_on)))))
              go_wp2_with fail
              refine NoPanic.normal ?_
              go_wp2_with fail
              refine wp_region_mix2 17 [(0, 0), (0, 1), (0, 2), (0, 3), (0, 4), (0, 5), (0, 6), (0, 7), (0, 8), (0, 9), (0, 10), (0, 11), (0, 12), (2, 13), (1, 14), (1, 15), (1, 16)] (by kernel_rfl) (by kernel_rfl) ?_
              simp only [MixH, List.getD_cons_zero, List.getD_cons_succ, List.drop_succ_cons, List.drop_zero]
              repeat (first | (with_reducible refine wpQuiet_nil ?_) | (first | go_big_quiet_skip | (go_big_quiet_want; first | (first | ((with_reducible refine quiet_cell 61 _ rfl _ _ ?_ DL2.out ?_); rfl; go_big_quiet_on; (simp only [Act.put, List.setIfInBounds_toArray, List.set_cons_succ, List.set_cons_zero])) | ((with_reducible refine quiet_cell 35 _ rfl _ _ ?_ DM1.out ?_); rfl; go_big_quiet_on; (simp only [Act.put, List.setIfInBounds_toArray, List.set_cons_succ, List.set_cons_zero])) | ((with_reducible refine quiet_cell 35 _ rfl _ _ ?_ DM2.out ?_); rfl; go_big_quiet_on; (simp only [Act.put, List.setIfInBounds_toArray, List.set_cons_succ, List.set_cons_zero]))) | (go_big_quiet_op; first | go_big_quiet_on | ((with_reducible refine ⟨_, fun _ _ => rfl, ?_⟩); go_big_quiet_on)))))
              refine mix_call (RM.out _) Try.func57 rfl rfl _ _ rfl rfl rfl ?_
              rintro e w5 ⟨rfl, rfl⟩
              refine ⟨_, rfl, Below.refl _ _, ?_⟩
              simp only [Act.put, List.setIfInBounds_toArray, List.set_cons_succ, List.set_cons_zero]
              repeat (first | (with_reducible refine wpQuiet_nil ?_) | (first | go_big_quiet_skip | (go_big_quiet_want; first | fail | (go_big_quiet_op; first | go_big_quiet_on | ((with_reducible refine ⟨_, fun _ _ => rfl, ?_⟩); go_big_quiet_on)))))
              go_wp2_with fail
              refine NoPanic.normal ?_
              have BAD : Bx (er ≠ 0 → mAll ps pn k = none) := ⟨fun he => by
                have h1 := mRow_none (MN.out he) (pn - (q + 1))
                rw [show q + 1 + (pn - (q + 1)) = pn by have := HQ.out; omega, ← MS.out] at h1
                have h2 := mAll_none h1 (k - (j + 1))
                rwa [show j + 1 + (k - (j + 1)) = k by have := HJ.out; omega] at h2⟩
              generalize addE xp yp = e1 at *
              generalize addE xm ym = e2 at *
              generalize addV xp yp = v1 at *
              generalize addV xm ym = v2 at *
              clear DL DL2 DP1 DP2 DM1 DM2 RP RM MN W0
              generalize wr.drew.drew = w9 at *
              rcases ADC with ⟨rfl, rfl, rfl, rfl⟩ | ⟨rfl, he⟩ | ⟨rfl, rfl, he⟩
              · have MY' := bx (MY.out rfl)
                clear MY BAD
                go_wp2_with ((with_reducible refine wpList_storeQ (f := dc) (k := 2) 94 _ _ rfl ?_ (w.heap.size + 1) x q ?_ ⟨v1, v2⟩ ?_ [] G2.out dcs_len hqx.out rfl Try.underlying94 cells_dl2 (dc_one _) ?_); rfl; rfl; rfl; intro w11 hw3 hg3 hz3; have YG := bx hw3; have BY := bx (B2.out.grown hg3 B2.out.size (fun k hk => by cases hk; omega)); clear hw3 hg3 hz3)
                go_roundw
                case rel => exact ⟨q + 1, _, HQ.out, by go_num, MY'.out, by rw [List.length_set, XL.out], S64.out, YG.out, BY.out⟩
                case measure => simp [intOf]; omega
              · have NONE := bx (BAD.out he)
                clear MY BAD he
                go_wp2_with fail
                go_ret2
                exact ⟨.inr (.inl ⟨ALLP.out, NONE.out, rfl⟩), B2.out⟩
              · have NONE := bx (BAD.out he)
                clear MY BAD he
                go_wp2_with fail
                go_ret2
                exact ⟨.inr (.inl ⟨ALLP.out, NONE.out, rfl⟩), B2.out⟩
            · obtain rfl : q = pn := by omega
              have MA' : Bx (mAll ps q (j + 1) = some x) := ⟨by rw [MS.out]; exact MR.out⟩
              go_wp2_with fail
              go_roundw
              case rel => exact ⟨j + 1, x, HJ.out, by go_num, MA'.out, XL.out, X64.out, XG.out, BX.out⟩
              case measure => simp [intOf]; omega
        · obtain rfl : j = k := by omega
          go_wp2_with fail
          go_ret2
          exact ⟨.inr (.inr ⟨_, _, o, ALLP.out, MA.out, O64.out, rfl, OL.out, fun _ => ⟨w.heap.size + 1, [], rfl, OG.out⟩⟩), BR.out⟩
end Go.Proofs.Ytonkgjengplppaa
