/- DeltasVotes, walked. -/
import Derived.Test.YtonkgjengplppaaWExact
import Derived.Test.YtonkgjengplppaaDOne
namespace Go.Proofs.Ytonkgjengplppaa
open Go.RowKit
theorem nb10 {n : Nat} (h : n ≤ 9) : (n : Int) * 1008806316530991104 < 18446744073709551616 := by
  have : (n : Int) * 1008806316530991104 ≤ 9 * 1008806316530991104 := Int.mul_le_mul_of_nonneg_right (by omega) (by decide)
  omega
set_option maxRecDepth 20000 in
set_option maxHeartbeats 1000000 in
theorem deltasVotes_walk (a0 : Option Addr) (n0 c0 : Nat) (l0 : List Int) (a1 : Option Addr) (n1 c1 : Nat) (l1 : List Int) (a2 : Option Addr) (n2 c2 : Nat) (l2 : List Int) (w : World)
    (_ : Fit .i64 l0) (_ : l0.length = n0) (hr0 : Row w w.heap.size 1 a0 n0 (ints .i64 l0)) (hnc0 : n0 ≤ c0) (hcm0 : c0 ≤ maxLen)
    (_ : Fit .i64 l1) (_ : l1.length = n1) (hr1 : Row w w.heap.size 1 a1 n1 (ints .i64 l1)) (hnc1 : n1 ≤ c1) (hcm1 : c1 ≤ maxLen)
    (_ : Fit .i64 l2) (_ : l2.length = n2) (hr2 : Row w w.heap.size 1 a2 n2 (ints .i64 l2)) (hnc2 : n2 ≤ c2) (hcm2 : c2 ≤ maxLen) :
    Calls Try.prog 12 #[.slice a0 n0 c0, .slice a1 n1 c1, .slice a2 n2 c2] w fun e w' => e = .returned (.bool true) ∧ Below w.heap.size w w' := by
  have HB := bx (built_any a0 a1 n0 c0 n1 c1 l0 l1 w hr0 (Nat.le_trans hnc0 hcm0) hr1 (Nat.le_trans hnc1 hcm1))
  have HN2 := bx (fun (n : Nat) (hn : n ≤ 65535) w' (hb : Below w.heap.size w w') => numbers_any w.heap.size a2 n2 c2 l2 n hn w' (hr2.below hb) (Nat.le_trans hnc2 hcm2) hb.size)
  have HV := bx (fun (n : Nat) (hn : n ≤ 100) w' (hb : Below w.heap.size w w') A0 n0 c0 ns h0 hp h9 hbt => votes_any w.heap.size A0 n0 c0 ns a2 n2 c2 l2 n hn w' h0 hp h9 hbt (hr2.below hb) (Nat.le_trans hnc2 hcm2) hb.size)
  clear hr0 hr1 hr2 hnc0 hnc1 hcm0 hcm1 hnc2 hcm2
  go_enter Try.func12, Try.ntmps12
  go_wp2_with fail
  refine HB.out.mono ?_; rintro e w1 ⟨⟨A, c, ns, AL, cl, vs, AE, ne, ce, G, Ab, cb, bs, n, rfl, hbl⟩, hb⟩
  clear HB
  have EX := bx (two_below w1 (.cells #[.slice A ns.length c] 25) (.cells #[.slice AL n cl, .slice AE ne ce] 28))
  have BL2 := bx (hbl.below EX.out)
  have X2 := bx (Bxs.new w1 A ns.length c AL n cl AE ne ce)
  have B2 := bx (hb.trans (EX.out.mono hb.size))
  have M0 := bx hbl.pos
  have M9 := bx hbl.n9
  have M6 := bx hbl.n6
  have WF := bx hbl.wf
  clear hbl hb EX
  go_upto_region 2 with fail
  generalize (w1.alloc (.cells #[.slice A ns.length c] 25)).alloc (.cells #[.slice AL n cl, .slice AE ne ce] 28) = w2 at *
  generalize w1.heap.size = g at *
  go_wp2_with ((with_reducible refine wpList_loadG 25 _ rfl _ [.slice A ns.length c] ?_ ?_ X2.out.t Try.underlying25 rfl ?_ ?_); rfl; rfl; exact cells_tree _)
  refine (HV.out n (by have := M6.out; omega) _ B2.out A ns.length c ns BL2.out.nr M0.out (by have := M9.out; omega) WF.out.bt).mono ?_
  rintro e w3 ⟨AM, cm, us, AF, nf, cf, H, hne, hgb, rfl, hv, hg, hb⟩
  have BL3 := bx (BL2.out.below hb)
  have X3 := bx (X2.out.below hb)
  have B3 := bx (B2.out.trans (hb.mono B2.out.size))
  have V3 := bx hv
  have H3 := bx hg
  have NF := bx hne
  have HB := bx hgb
  clear hb hv hg hne hgb BL2 X2 B2 HV
  have EX := bx (ext_alloc w3 (.cells #[.slice AM n cm, .slice AF nf cf] 28))
  have BL4 := bx (BL3.out.below EX.out)
  have X4 := bx (X3.out.below EX.out)
  have B4 := bx (B3.out.trans (EX.out.mono B3.out.size))
  have V4 := bx (V3.out.below EX.out)
  have H4 := bx (H3.out.below EX.out)
  have Y4 : Bx (Has (w3.alloc (.cells #[.slice AM n cm, .slice AF nf cf] 28)) w3.heap.size [.slice AM n cm, .slice AF nf cf]) := ⟨Has.new w3 _ _⟩
  clear EX BL3 X3 B3 V3 H3
  go_upto_region 3 with fail
  generalize w3.alloc (.cells #[.slice AM n cm, .slice AF nf cf] 28) = w4 at *
  generalize w3.heap.size = gu at *
  go_wp2_with fail
  refine (HN2.out n (by have := M6.out; omega) _ B4.out).mono ?_
  rintro e w5 ⟨Ac, cc, cs, hxl, hxs, rfl, hxo, hb⟩
  have BL5 := bx (BL4.out.below hb)
  have X5 := bx (X4.out.below hb)
  have B5 := bx (B4.out.trans (hb.mono B4.out.size))
  have Y5 := bx (Y4.out.below hb Y4.out.lt)
  have BU5 : Bx (Blt w5 A ns AM us AF nf H Ac cs n) := ⟨M0.out, M9.out, WF.out, M6.out, NF.out, HB.out, hxs, BL5.out.nr, V4.out.below hb, H4.out.below hb, URow.own hxl hxo⟩
  clear hb hxl hxs hxo BL4 X4 B4 Y4 V4 H4 NF HB HN2
  have BL6 : Bx (Blt w5.drew A ns AL vs AE ne G Ab bs n) := ⟨BL5.out.below (Below.refl _ _).drew⟩
  have BU6 : Bx (Blt w5.drew A ns AM us AF nf H Ac cs n) := ⟨BU5.out.below (Below.refl _ _).drew⟩
  have X6 : Bx (Bxs w5.drew g A ns.length c AL n cl AE ne ce) := ⟨X5.out.below (Below.refl _ _).drew⟩
  have Y6 : Bx (Has w5.drew gu [.slice AM n cm, .slice AF nf cf]) := ⟨Y5.out⟩
  have B6 : Bx (Below w.heap.size w w5.drew) := ⟨B5.out.drew⟩
  have CT := bx (Has.cls X6.out.t)
  have CV := bx (Has.cls X6.out.v)
  have CU := bx (Has.cls Y6.out)
  clear BL5 BU5 X5 Y5 B5
  go_wp2_with fail
  refine wp_region_mix3 8 (.steps [(0, 0), (0, 1), (0, 2), (0, 4), (0, 5), (0, 6), (2, 3), (2, 7)] .leaf) (by kernel_rfl) (by kernel_rfl) ?_
  simp only [MixT, MT.steps, stepAt, List.getD_cons_zero, List.getD_cons_succ, List.drop_succ_cons, List.drop_zero]
  generalize w5.drew = w6 at *
  repeat (first | (with_reducible refine wpQuiet_nil ?_) | (first | go_big_quiet_skip | (go_big_quiet_want; first | (first | ((with_reducible refine quiet_loadC 25 _ rfl _ [.slice A ns.length c] ?_ CT.out Try.underlying25 rfl ?_ ?_); rfl; exact cells_tree _; go_big_quiet_on; (simp only [Act.put, List.setIfInBounds_toArray, List.set_cons_succ, List.set_cons_zero])) | ((with_reducible refine quiet_loadC 28 _ rfl _ [.slice AL n cl, .slice AE ne ce] ?_ CV.out Try.underlying28 rfl ?_ ?_); rfl; exact cells_votes _ _; go_big_quiet_on; (simp only [Act.put, List.setIfInBounds_toArray, List.set_cons_succ, List.set_cons_zero])) | ((with_reducible refine quiet_loadC 28 _ rfl _ [.slice AM n cm, .slice AF nf cf] ?_ CU.out Try.underlying28 rfl ?_ ?_); rfl; exact cells_votes _ _; go_big_quiet_on; (simp only [Act.put, List.setIfInBounds_toArray, List.set_cons_succ, List.set_cons_zero]))) | (go_big_quiet_op; first | go_big_quiet_on | ((with_reducible refine ⟨_, fun _ _ => rfl, ?_⟩); go_big_quiet_on)))))
  refine mix_call (BL6.out.direct c cl ce cb) Try.func16 rfl rfl _ _ rfl rfl rfl ?_
  rintro e w7 ⟨A7, c7, rfl, _, hu, hb⟩
  refine ⟨_, rfl, hb, ?_⟩
  have BL7 := bx (BL6.out.below hb)
  have BU7 := bx (BU6.out.below hb)
  have X7 := bx (X6.out.below hb)
  have Y7 := bx (Y6.out.below hb Y6.out.lt)
  have D7 := bx hu
  have B7 := bx (B6.out.trans (hb.mono B6.out.size))
  clear hb hu BL6 BU6 X6 Y6 B6 CT CV CU
  refine mix_call (BU7.out.direct c cm cf cc) Try.func16 rfl rfl _ _ rfl rfl rfl ?_
  rintro e w8 ⟨A8, c8, rfl, _, hu, hb⟩
  refine ⟨_, rfl, hb, ?_⟩
  have BU8 := bx (BU7.out.below hb)
  have X8 := bx (X7.out.below hb)
  have Y8 := bx (Y7.out.below hb Y7.out.lt)
  have D8 := bx (D7.out.below hb)
  have E8 := bx hu
  have B8 := bx (B7.out.trans (hb.mono B7.out.size))
  have UA := bx BL7.out.u64D
  have UB := bx BU8.out.u64D
  have LK := bx WF.out.lk
  have UL : Bx (ns.length = (Go.Proofs.Ytonkgjengplppaa.ups ns).length) := ⟨ups_len.symm⟩
  have SM1 := bx BL7.out.sm.smB
  have SM2 := bx BU8.out.sm.smB
  have ONE := bx (onepass_law LK.out UL.out (b := 1008806316530991104) (by decide) (nb10 M9.out) (dirL_bd (vs := vs) (G := G) SM1.out (m := n) (by rw [BL7.out.ur.1]; exact Nat.le_refl _) (by have := M6.out; omega)) (dirL_bd (vs := us) (G := H) SM2.out (m := n) (by rw [BU8.out.ur.1]; exact Nat.le_refl _) (by have := M6.out; omega)) D8.out.1 E8.out.1)
  clear hb hu BL7 BU7 X7 Y7 B7 D7 SM1 SM2
  have ST := bx (fun w' zs A1 c1 (hz : U64 zs) (hb : Below w8.heap.size w8 w') (h1 : URow w' A1 ns.length zs) => (BU8.out.below hb).sub c c1 hz h1)
  have DR := bx (fun w' (hb : Below w8.heap.size w8 w') => (BU8.out.below hb).refDirect c cm cf cc)
  generalize dirL ns vs G bs n = D1 at *
  generalize dirL ns us H cs n = D2 at *
  simp only [Act.put, List.setIfInBounds_toArray, List.set_cons_succ, List.set_cons_zero]
  have hc9 : w8.cell? ⟨g, 0, none⟩ = some (.slice A ns.length c) := X8.out.t.cell 0
  go_wp2_with fail
  refine NoPanic.normal ?_
  go_upto_region 7 with fail
  have hn9 := M9.out
  have hn4 : ns.length ≤ 4096 := by omega
  have NR := bx (fun w' (hb : Below w8.heap.size w8 w') => (BU8.out.below hb).nr)
  have HM := bx (fun w' A1 A2 c1 c2 (h1 : URow w' A1 ns.length D1) (h2 : URow w' A2 ns.length D2) => moves_any A A1 A2 ns.length c c1 c2 D1 D2 UA.out UB.out hn4 w' h1 h2)
  have HA := bx (fun w' A1 A2 c1 c2 ws ds hw hd (h0 : NRow w' A ns.length ns) (h1 : URow w' A1 ns.length ws) (h2 : DRow w' A2 ns.length ds) => apply_any A A1 A2 ns.length c c1 c2 ns ws ds hw hd WF.out.ups hn4 M0.out w' h0 h1 h2)
  have D64 := bx (mvs_64 UA.out UB.out)
  have AGR := bx (app_agree LK.out UL.out D64.out (subL_64 (Go.Proofs.Ytonkgjengplppaa.ups ns) ns.length D1) (mvs_len D8.out.1 E8.out.1) (subL_len _ _ _))
  have SX64 := bx (subL_64 (Go.Proofs.Ytonkgjengplppaa.ups ns) ns.length D1)
  have SLL := bx (subL_len (Go.Proofs.Ytonkgjengplppaa.ups ns) ns.length D2)
  have RS := bx (fun w' A1 c1 (hb : Below w8.heap.size w8 w') (h1 : URow w' A1 ns.length D2) => (BU8.out.below hb).refSub c c1 UB.out h1)
  clear hn9 hn4
  generalize hL1 : subL (Go.Proofs.Ytonkgjengplppaa.ups ns) ns.length D1 = L1 at *
  generalize hL2 : subL (Go.Proofs.Ytonkgjengplppaa.ups ns) ns.length D2 = L2 at *
  have HL1 := bx hL1
  clear hL1 hL2
  have X9 : Bx (Bxs w8.drew g A ns.length c AL n cl AE ne ce) := ⟨X8.out.below (Below.refl _ _).drew⟩
  have Y9 : Bx (Has w8.drew gu [.slice AM n cm, .slice AF nf cf]) := ⟨Y8.out⟩
  have D9 : Bx (URow w8.drew A7 ns.length D1) := ⟨D8.out⟩
  have E9 : Bx (URow w8.drew A8 ns.length D2) := ⟨E8.out⟩
  have F9 : Bx (Below w8.heap.size w8 w8.drew) := ⟨(Below.refl _ _).drew⟩
  have CT := bx (Has.cls X9.out.t)
  clear X8 Y8 D8 E8 hc9
  go_wp2_with fail
  refine wp_region_mix3 12 (.steps [(0, 0), (0, 1), (0, 2), (0, 4), (0, 5), (0, 6), (2, 3), (2, 7), (2, 8), (1, 9), (1, 10), (1, 11)] .leaf) (by kernel_rfl) (by kernel_rfl) ?_
  simp only [MixT, MT.steps, stepAt, List.getD_cons_zero, List.getD_cons_succ, List.drop_succ_cons, List.drop_zero]
  generalize w8.drew = w9 at *
  repeat (first | (with_reducible refine wpQuiet_nil ?_) | (first | go_big_quiet_skip | (go_big_quiet_want; first | ((with_reducible refine quiet_loadC 25 _ rfl _ [.slice A ns.length c] ?_ CT.out Try.underlying25 rfl ?_ ?_); rfl; exact cells_tree _; go_big_quiet_on; (simp only [Act.put, List.setIfInBounds_toArray, List.set_cons_succ, List.set_cons_zero])) | (go_big_quiet_op; first | go_big_quiet_on | ((with_reducible refine ⟨_, fun _ _ => rfl, ?_⟩); go_big_quiet_on)))))
  refine mix_call (ST.out _ D1 _ c7 UA.out F9.out D9.out) Try.func19 rfl rfl _ _ rfl rfl rfl ?_
  rw [HL1.out]
  rintro e w10 ⟨A10, c10, rfl, _, hu, hb⟩
  refine ⟨_, rfl, hb, ?_⟩
  have Z10 := bx hu
  have X10 := bx (X9.out.below hb)
  have Y10 := bx (Y9.out.below hb Y9.out.lt)
  have D10 := bx (D9.out.below hb)
  have E10 := bx (E9.out.below hb)
  have F10 := bx (F9.out.trans (hb.mono F9.out.size))
  clear hb hu X9 Y9 D9 E9 F9 CT
  refine mix_call (HM.out _ _ _ c7 c8 D10.out E10.out) Try.func30 rfl rfl _ _ rfl rfl rfl ?_
  rintro e w11 ⟨A11, c11, rfl, hd, hb⟩
  refine ⟨_, rfl, hb, ?_⟩
  have Q11 := bx hd
  have Z11 := bx (Z10.out.below hb)
  have X11 := bx (X10.out.below hb)
  have Y11 := bx (Y10.out.below hb Y10.out.lt)
  have F11 := bx (F10.out.trans (hb.mono F10.out.size))
  clear hb hd Z10 X10 Y10 D10 E10 F10
  refine mix_call (HA.out _ A10 A11 c10 c11 _ _ SX64.out D64.out (NR.out _ F11.out) Z11.out Q11.out) Try.func34 rfl rfl _ _ rfl rfl rfl ?_
  rintro e w12 ⟨hres, hb⟩
  rcases hres with ⟨hnone, _⟩ | ⟨x, A12, c12, hsome, hok, rfl, hu⟩
  · obtain ⟨k, hk, h⟩ := AGR.out.1 hnone
    have h2 := ONE.out k hk
    rw [h2] at h; cases h
  · refine ⟨_, rfl, hb, ?_⟩
    have EQ : Bx (x.o = L2) := ⟨list_ext_getD hok.lo SLL.out (fun k hk => by
      have h2 := ONE.out k hk
      have := (AGR.out.2 x hsome k hk).symm.trans h2; injection this)⟩
    rw [EQ.out] at hu
    have U12 := bx hu
    have X12 := bx (X11.out.below hb)
    have Y12 := bx (Y11.out.below hb Y11.out.lt)
    have F12 := bx (F11.out.trans (hb.mono F11.out.size))
    clear hb hu hsome hok EQ Z11 X11 Y11 F11 AGR ONE HM HA Q11
    simp only [Act.put, List.setIfInBounds_toArray, List.set_cons_succ, List.set_cons_zero]
    repeat (first | (with_reducible refine wpQuiet_nil ?_) | (first | go_big_quiet_skip | (go_big_quiet_want; first | fail | (go_big_quiet_op; first | go_big_quiet_on | ((with_reducible refine ⟨_, fun _ _ => rfl, ?_⟩); go_big_quiet_on)))))
    go_wp2_with fail
    refine NoPanic.normal ?_
    have X13 : Bx (Bxs w12.drew g A ns.length c AL n cl AE ne ce) := ⟨X12.out.below (Below.refl _ _).drew⟩
    have Y13 : Bx (Has w12.drew gu [.slice AM n cm, .slice AF nf cf]) := ⟨Y12.out⟩
    have U13 : Bx (URow w12.drew A12 ns.length L2) := ⟨U12.out⟩
    have F13 : Bx (Below w8.heap.size w8 w12.drew) := ⟨F12.out.drew⟩
    have CT := bx (Has.cls X13.out.t)
    have CU := bx (Has.cls Y13.out)
    clear X12 Y12 U12 F12
    go_wp2_with fail
    refine wp_region_mix3 15 (.steps [(0, 0), (0, 1), (0, 2), (0, 3), (0, 4), (0, 5), (0, 6), (0, 7), (2, 8), (2, 9), (2, 10), (1, 11), (1, 12), (2, 13), (1, 14)] .leaf) (by kernel_rfl) (by kernel_rfl) ?_
    simp only [MixT, MT.steps, stepAt, List.getD_cons_zero, List.getD_cons_succ, List.drop_succ_cons, List.drop_zero]
    generalize w12.drew = w13 at *
    repeat (first | (with_reducible refine wpQuiet_nil ?_) | (first | go_big_quiet_skip | (go_big_quiet_want; first | (first | ((with_reducible refine quiet_loadC 25 _ rfl _ [.slice A ns.length c] ?_ CT.out Try.underlying25 rfl ?_ ?_); rfl; exact cells_tree _; go_big_quiet_on; (simp only [Act.put, List.setIfInBounds_toArray, List.set_cons_succ, List.set_cons_zero])) | ((with_reducible refine quiet_loadC 28 _ rfl _ [.slice AM n cm, .slice AF nf cf] ?_ CU.out Try.underlying28 rfl ?_ ?_); rfl; exact cells_votes _ _; go_big_quiet_on; (simp only [Act.put, List.setIfInBounds_toArray, List.set_cons_succ, List.set_cons_zero]))) | (go_big_quiet_op; first | go_big_quiet_on | ((with_reducible refine ⟨_, fun _ _ => rfl, ?_⟩); go_big_quiet_on)))))
    refine mix_call (DR.out _ F13.out) Try.func17 rfl rfl _ _ rfl rfl rfl ?_
    rintro e w14 ⟨A14, c14, rfl, _, hu, hb⟩
    refine ⟨_, rfl, hb, ?_⟩
    have V14 := bx hu
    have U14 := bx (U13.out.below hb)
    have F14 := bx (F13.out.trans (hb.mono F13.out.size))
    clear hb hu X13 Y13 U13 F13 CT CU
    refine mix_call (RS.out _ _ c14 F14.out V14.out) Try.func20 rfl rfl _ _ rfl rfl rfl ?_
    rintro e w15 ⟨A15, c15, rfl, _, hu, hb⟩
    refine ⟨_, rfl, hb, ?_⟩
    have V15 := bx hu
    have U15 := bx (U14.out.below hb)
    have F15 := bx (F14.out.trans (hb.mono F14.out.size))
    clear hb hu V14 U14 F14
    refine mix_call (same_eq (c1 := c12) (c2 := c15) M9.out U15.out V15.out) Try.func18 rfl rfl _ _ rfl rfl rfl ?_
    rintro e w16 ⟨rfl, hb⟩
    refine ⟨_, rfl, hb, ?_⟩
    have B16 := bx (B8.out.trans ((F15.out.trans (hb.mono F15.out.size)).mono B8.out.size))
    clear hb
    simp only [Act.put, List.setIfInBounds_toArray, List.set_cons_succ, List.set_cons_zero]
    repeat (first | (with_reducible refine wpQuiet_nil ?_) | (first | go_big_quiet_skip | (go_big_quiet_want; first | fail | (go_big_quiet_op; first | go_big_quiet_on | ((with_reducible refine ⟨_, fun _ _ => rfl, ?_⟩); go_big_quiet_on)))))
    refine mix_call (awake14_any _) Try.func32 rfl rfl _ _ rfl rfl rfl ?_
    rintro e w17 ⟨rfl, hb⟩
    refine ⟨_, rfl, hb, ?_⟩
    have B17 := bx (B16.out.trans (hb.mono B16.out.size))
    clear hb
    simp only [Act.put, List.setIfInBounds_toArray, List.set_cons_succ, List.set_cons_zero]
    repeat (first | (with_reducible refine wpQuiet_nil ?_) | (first | go_big_quiet_skip | (go_big_quiet_want; first | fail | (go_big_quiet_op; first | go_big_quiet_on | ((with_reducible refine ⟨_, fun _ _ => rfl, ?_⟩); go_big_quiet_on)))))
    go_wp2_with fail
    refine NoPanic.normal ?_
    go_wp2_with fail
    go_ret
    exact ⟨rfl, B17.out⟩
end Go.Proofs.Ytonkgjengplppaa
