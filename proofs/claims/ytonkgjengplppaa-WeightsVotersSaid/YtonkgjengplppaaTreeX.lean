/- A built tree is well-formed: the walk. -/
import Derived.Test.YtonkgjengplppaaTreeW
namespace Go.Proofs.Ytonkgjengplppaa
open Go.RowKit
theorem meas9 {k : Nat} (h : k ≤ 8) : 9 - (intOf (.int .i64 ((k : Int) + 1))).toNat < 9 - (intOf (.int .i64 (k : Int))).toNat := by simp [intOf]; omega
theorem node_len2 {n m : Nd} (h : BkOk n.b) (h2 : BkOk m.b) : (nc n).length = (nc m).length := by rw [nc_len h, nc_len h2]
theorem blk_len0 {b : Bk} (h : BkOk b) : (bc zBlk).length = (bc b).length := by rw [h.len]; rfl
theorem node_len0 {n : Nd} (h : BkOk n.b) : (nc zNode).length = (nc n).length := by rw [nc_len h]; rfl
theorem rootK_nz {k q : Nat} (hk : k ≤ 8) : rootL (wrap64 (1 + wrap64 ((k : Int) * (1 + (q : Int) / 64 % 3)))) ≠ zroot := by
  have h1 : (q : Int) / 64 % 3 = 0 ∨ (q : Int) / 64 % 3 = 1 ∨ (q : Int) / 64 % 3 = 2 := by omega
  have h2 : k = 0 ∨ k = 1 ∨ k = 2 ∨ k = 3 ∨ k = 4 ∨ k = 5 ∨ k = 6 ∨ k = 7 ∨ k = 8 := by omega
  apply rootL_nz
  rcases h1 with h | h | h <;> rw [h] <;> rcases h2 with rfl | rfl | rfl | rfl | rfl | rfl | rfl | rfl | rfl <;> decide +kernel
set_option maxRecDepth 20000 in
set_option maxHeartbeats 2000000 in
theorem tree_any (A : Option Addr) (n c : Nat) (l : List Int) (w : World) (hr : Row w w.heap.size 1 A n (ints .i64 l)) (hn : n ≤ maxLen) :
    Calls Try.prog 27 #[.slice A n c] w (TP w) := by
  have HAT : Bx (∀ (i : Nat), i ≤ 65535 → ∀ w', Below w.heap.size w w' → Calls Try.prog 44 #[.slice A n c, .int .i64 i] w' (AtP i w')) := ⟨fun i hi w' hb => at_any w.heap.size A n c l i hi w' (hr.below hb) hn hb.size⟩
  clear hr hn
  have X2 := bx (Has.new w [.slice none 0 0] 25)
  have B0 := bx (ext_alloc w (.cells #[.slice none 0 0] 25))
  go_enter Try.func27, Try.ntmps27
  go_wp2_with fail
  refine (root_any 1 _).mono ?_; rintro e w1 ⟨rfl, hb⟩
  have X21 := bx (X2.out.below hb X2.out.lt)
  have B1 := bx (B0.out.trans (hb.mono B0.out.size))
  clear hb X2 B0
  go_wp2_with fail
  refine (HAT.out 0 (by omega) _ B1.out).mono ?_; rintro e w2 ⟨⟨k0, hk0, rfl⟩, hb⟩
  have X22 := bx (X21.out.below hb X21.out.lt)
  have B2 := bx (B1.out.trans (hb.mono B1.out.size))
  clear hb X21 B1
  go_wp2_with fail
  refine (root_any _ _).mono ?_; rintro e w3 ⟨rfl, hb⟩
  have X23 := bx (X22.out.below hb X22.out.lt)
  have B3 := bx (B2.out.trans (hb.mono B2.out.size))
  clear hb X22 B2
  have HR1 := bx (rootL_length 1)
  have HR2 := bx (rootL_length (1000 * ((k0 : Int) % 2)))
  have HZ1 := bx (rootL_nz (n := 1) (by decide))
  have HT1 := bx (rootL_bt 1)
  generalize rootL 1 = r1 at *
  generalize rootL (1000 * ((k0 : Int) % 2)) = r2 at *
  go_wp2_with ((with_reducible refine wpList_buildTo rfl 49 _ rfl [(2, .agg (ints .u8 r1).toArray), (4, .agg (ints .u8 r2).toArray)] (bc (mkB 0 r1 zroot r2)) ?_ (built_blk0 HR1.out HR2.out) ?_); rfl)
  have HB0 := bx (mkB_ok (s := 0) HR1.out (show zroot.length = 32 from rfl) HR2.out)
  have HZ0 : Bx ((mkB 0 r1 zroot r2).root ≠ zroot) := ⟨HZ1.out⟩
  have HT0 : Bx (Bt (mkB 0 r1 zroot r2).root) := ⟨HT1.out⟩
  generalize mkB 0 r1 zroot r2 = b0 at *
  refine (HAT.out 1 (by omega) _ B3.out).mono ?_; rintro e w4 ⟨⟨k1, hk1, rfl⟩, hb⟩
  have X24 := bx (X23.out.below hb X23.out.lt)
  have B4 := bx (B3.out.trans (hb.mono B3.out.size))
  clear hb X23 B3 HR1 HR2
  go_wp2_with fail
  have hs0 : 0 ≤ (k1 : Int) % 3 := by omega
  have hs2 : (k1 : Int) % 3 ≤ 2 := by omega
  generalize (k1 : Int) % 3 = s0 at *
  refine (new_any b0 s0 HB0.out _).mono ?_; rintro e w5 ⟨g0, rfl, hg0, hN, hb⟩
  have X25 := bx (X24.out.below hb X24.out.lt)
  have B5 := bx (B4.out.trans (hb.mono B4.out.size))
  have NR5 : Bx (NRow w5 (some ⟨g0, 0, none⟩) 1 [⟨b0, -1, s0⟩]) := ⟨rfl, fun x hx => by simp at hx; subst hx; exact HB0.out, fun _ => ⟨g0, [], rfl, by simpa using hN⟩⟩
  have WF := bx (Wf.one b0 s0 hs0 hs2 HZ0.out HT0.out)
  have HG0 := bx hg0
  have LX := bx X24.out.lt
  clear hb X24 B4 hN hg0 HB0
  have X26 := bx (X25.out.alloc (.cells #[.slice none 0 0] 25))
  have X3 := bx (Has.new w5 [.slice none 0 0] 25)
  have B6 := bx (B5.out.trans ((ext_alloc w5 (.cells #[.slice none 0 0] 25)).mono B5.out.size))
  have L3 := bx (Nat.ne_of_lt X25.out.lt)
  have LB := bx B5.out.size
  clear B5 X25
  go_wp2_with ((with_reducible refine wpList_storeB rfl 25 _ _ rfl _ [.slice (some ⟨g0, 0, none⟩) 1 1] _ ?_ ?_ X3.out rfl Try.underlying25 ?_ (slice_one _ _ _) ?_); rfl; rfl; exact cells_tree _; intro w7 hw hg hz0; have Y3 := bx hw; have Y2 := bx (X26.out.grown hg (ne_som L3.out)); have NR7 := bx (NR5.out.below ((ext_alloc w5 (.cells #[.slice none 0 0] 25)).grown hg (by simp) (fun k hk => by cases hk; exact Nat.le_refl _))); have B7 := bx (B6.out.grown hg B6.out.size (fun k hk => by cases hk; exact LB.out)); clear hw hg hz0)
  have L23 : Bx (w.heap.size < w5.heap.size) := ⟨Nat.lt_of_le_of_ne LB.out L3.out⟩
  have HFR : Bx (∀ ad, (some ⟨g0, 0, none⟩ : Option Addr) = some ad → ad.block ≠ w.heap.size ∧ ad.block ≠ w5.heap.size) := ⟨fun ad h => by
    injection h with h
    subst h
    have h1 := HG0.out
    have h2 := LX.out
    obtain ⟨g, _, e, hh⟩ := NR5.out.2.2 (by decide)
    injection e with e
    injection e with e1
    subst e1
    have h3 := hh.lt
    exact ⟨by show g0 ≠ _; omega, by show g0 ≠ _; omega⟩⟩
  generalize w5.heap.size = g3 at *
  clear NR5 X26 X3 B6 L3 LB
  go_loopw [4] (fun i wr => ∃ (k : Nat) (ns : List Nd) (A' : Option Addr) (c' : Nat), 0 < k ∧ k ≤ 9 ∧ i = .int .i64 k ∧ ns.length = k ∧ Wf ns ∧ Has wr w.heap.size [.slice none 0 0] ∧ Has wr g3 [.slice A' k c'] ∧ NRow wr A' k ns ∧ (∀ ad, A' = some ad → ad.block ≠ w.heap.size ∧ ad.block ≠ g3) ∧ Below w.heap.size w wr) (fun i _ => 9 - (intOf i).toNat)
  case atStart => exact ⟨1, _, _, _, by omega, by omega, rfl, rfl, WF.out, Y2.out, Y3.out, NR7.out, HFR.out, B7.out⟩
  case round =>
    obtain ⟨k, ns, A', c', hk0, hk9, rfl, hlen, hwf, hx2, hx3, hnr, hfr, hbel⟩ := hrel
    have FR := bx hfr
    have Y2' := bx hx2
    have Y3' := bx hx3
    have NR := bx hnr
    have BY := bx hbel
    have HWF := bx hwf
    have HLEN := bx hlen
    have HK100 : Bx (k ≤ 100) := ⟨by omega⟩
    have HKK : Bx (((k : Int) != (k : Int) + 1) = true) := ⟨by rw [bne_iff_ne]; omega⟩
    clear hx2 hx3 hnr hbel hwf hlen hfr WF Y2 Y3 NR7 B7 HFR
    go_wp2_with fail
    refine (HAT.out 2 (by omega) _ BY.out).mono ?_; rintro e w2 ⟨⟨y, hy, rfl⟩, hb⟩
    have Z2 := bx (Y2'.out.below hb Y2'.out.lt)
    have Z3 := bx (Y3'.out.below hb Y3'.out.lt)
    have NR2 := bx (NR.out.below hb)
    have BZ := bx (BY.out.trans (hb.mono BY.out.size))
    clear hb Y2' Y3' NR BY
    by_cases hlt : (k : Int) < 1 + (y : Int) % 9
    · have hk8 : k ≤ 8 := by omega
      go_wp2_with fail
      refine (HAT.out (2 + k) (by omega) _ BZ.out).mono ?_; rintro e w3 ⟨⟨q, hq, rfl⟩, hb⟩
      have V2 := bx (Z2.out.below hb Z2.out.lt)
      have V3 := bx (Z3.out.below hb Z3.out.lt)
      have NR3 := bx (NR2.out.below hb)
      have BV := bx (BZ.out.trans (hb.mono BZ.out.size))
      clear hb Z2 Z3 NR2 BZ
      have hmk : q % k < k := Nat.mod_lt _ hk0
      have hm1 : ((q : Int) % (k : Int)) = ((q % k : Nat) : Int) := by omega
      have hm2 : ((q % k : Nat) : Int) < (k : Int) := by omega
      have hm3 : (0 : Int) ≤ ((q % k : Nat) : Int) := by omega
      have hk00 : ((k : Int) == 0) = false := by rw [beq_eq_false_iff_ne]; omega
      have hml : q % k < ns.length := by rw [HLEN.out]; exact hmk
      obtain ⟨g1, p1, rfl, hg1⟩ := NR3.out.2.2 hk0
      have G1 := bx hg1
      have CN := bx (fun (w5 : World) (h5 : Cls w3.drew.heap.size w3.drew w5) => run_nodes1 (((show Has w3.drew _ _ from V3.out).below h5.out V3.out.lt).cell 0))
      have CM := bx (fun (w5 : World) (h5 : Cls w3.drew.heap.size w3.drew w5) => ((show Has w3.drew _ _ from hg1).below h5.out hg1.lt).rangeP (k := 240) NR3.out.2.1.len (q % k) hml)
      have HPM := bx (NR3.out.2.1 _ (List.getElem_mem hml))
      have HPI : Bx (ns[q % k] ∈ ns) := ⟨List.getElem_mem hml⟩
      generalize ns[q % k] = pm at *
      clear hml hg1
      generalize q % k = m at *
      have D2 : Bx (Has w3.drew w.heap.size [.slice none 0 0]) := ⟨V2.out⟩
      have D3 : Bx (Has w3.drew g3 [.slice (some ⟨g1, 0, none⟩) k c']) := ⟨V3.out⟩
      have D1 : Bx (NRow w3.drew (some ⟨g1, 0, none⟩) k ns) := ⟨NR3.out⟩
      have DB : Bx (Below w.heap.size w w3.drew) := ⟨BV.out.drew⟩
      clear V2 V3 NR3 BV G1
      go_wp2_with fail
      refine wp_region_mix3 8 (.steps [(0, 0), (0, 1), (0, 2), (0, 3), (0, 4), (0, 5), (0, 6), (2, 7)] .leaf) (by kernel_rfl) (by kernel_rfl) ?_
      simp only [MixT, MT.steps, stepAt, List.getD_cons_zero, List.getD_cons_succ, List.drop_succ_cons, List.drop_zero]
      repeat (first | (with_reducible refine wpQuiet_nil ?_) | (first | go_big_quiet_skip | (go_big_quiet_want; first | (first | ((with_reducible refine quiet_cell 23 _ rfl _ _ ?_ CN.out ?_); rfl; go_big_quiet_on; (simp only [Act.put, List.setIfInBounds_toArray, List.set_cons_succ, List.set_cons_zero])) | ((with_reducible refine quiet_loadRng 51 _ rfl g1 (m * 240) (nc pm) ?_ CM.out Try.underlying51 ?_ ?_ ?_); rfl; rfl; exact cells_node HPM.out; go_big_quiet_on; (simp only [Act.put, List.setIfInBounds_toArray, List.set_cons_succ, List.set_cons_zero]))) | (go_big_quiet_op; first | go_big_quiet_on | ((with_reducible refine ⟨_, fun _ _ => rfl, ?_⟩); go_big_quiet_on)))))
      refine mix_run (run_allocZ zero_node rfl) rfl ?_
      refine ⟨ext_alloc _ _, ?_⟩
      have E2 := bx (D2.out.alloc (.cells (nc zNode).toArray 51))
      have E3 := bx (D3.out.alloc (.cells (nc zNode).toArray 51))
      have EB := bx (DB.out.alloc DB.out.size (.cells (nc zNode).toArray 51))
      have P0 := bx (Has.new w3.drew (nc zNode) 51)
      have EX := bx (ext_alloc w3.drew (.cells (nc zNode).toArray 51))
      have NP2 := bx (Nat.ne_of_lt D2.out.lt)
      have NP3 := bx (Nat.ne_of_lt D3.out.lt)
      have LP := bx DB.out.size
      have L23' := bx D3.out.lt
      have NPG : Bx (g1 ≠ w3.drew.heap.size) := ⟨by
        obtain ⟨g, _, e, hh⟩ := D1.out.2.2 hk0
        injection e with e
        injection e with e1
        subst e1
        exact Nat.ne_of_lt hh.lt⟩
      have NPN : Bx (∀ w5, w3.drew.grownBy w5 (some w3.drew.heap.size) → NRow w5 (some ⟨g1, 0, none⟩) k ns) := ⟨fun w5 h5 => D1.out.grown h5 (fun ad h => by
        injection h with h
        subst h
        exact ne_som NPG.out)⟩
      simp only [Act.put, List.setIfInBounds_toArray, List.set_cons_succ, List.set_cons_zero]
      go_wp2_with ((with_reducible refine wpList_storeB rfl 51 _ _ rfl _ (nc pm) _ ?_ ?_ P0.out (node_len0 HPM.out) Try.underlying51 ?_ (nc_one HPM.out) ?_); rfl; rfl; exact cells_node HPM.out; intro w6 hw hg hz0; have P6 := bx hw; have F2 := bx (E2.out.grown hg (ne_som NP2.out)); have F3 := bx (E3.out.grown hg (ne_som NP3.out)); have FN := bx (NPN.out w6 (grown_over_alloc hg)); have FB := bx (EB.out.grown hg EB.out.size (fun k hk => by cases hk; exact LP.out)); clear hw hg hz0)
      refine NoPanic.normal ?_
      clear E2 E3 EB P0 EX D2 D3 D1 DB CN CM NPN
      have hgp : w3.drew.heap.size = w3.heap.size := rfl
      simp only [hgp] at P6 NP2 NP3 LP L23' NPG
      clear hgp
      generalize w3.heap.size = gp at *
      go_upto_if 44 with fail
      go_cut [] from 22 to 115 (fun wx => ∃ pn : Nd, pn ∈ ns ∧ Has wx gp (nc pn) ∧ Has wx w.heap.size [.slice none 0 0] ∧ Has wx g3 [.slice (some ⟨g1, 0, none⟩) k c'] ∧ NRow wx (some ⟨g1, 0, none⟩) k ns ∧ Below w.heap.size w wx)
      case first =>
        have hkl : k - 1 < ns.length := by rw [HLEN.out]; omega
        have hkm : (k : Int) - 1 = ((k - 1 : Nat) : Int) := by omega
        have hkm2 : ((k - 1 : Nat) : Int) < (k : Int) := by omega
        obtain ⟨g1', p1', e1, hgn⟩ := FN.out.2.2 hk0
        injection e1 with e1
        injection e1 with e1
        subst e1
        have RK := bx (hgn.rangeP (k := 240) FN.out.2.1.len (k - 1) hkl)
        have HPK := bx (FN.out.2.1 _ (List.getElem_mem hkl))
        have HPKI : Bx (ns[k - 1] ∈ ns) := ⟨List.getElem_mem hkl⟩
        have hc3 : w6.cell? ⟨g3, 0, none⟩ = some (.slice (some ⟨g1, 0, none⟩) k c') := F3.out.cell 0
        clear hgn
        generalize ns[k - 1] = pk at *
        clear hkl
        generalize k - 1 = k' at *
        have FNP : Bx (∀ w5, w6.grownBy w5 (some gp) → NRow w5 (some ⟨g1, 0, none⟩) k ns) := ⟨fun w5 h5 => FN.out.grown h5 (fun ad h => by
          injection h with h
          subst h
          exact ne_som NPG.out)⟩
        go_wp2_with (first | ((with_reducible refine wpList_loadR 51 _ rfl ?_ g1 (k' * 240) (nc pk) RK.out ?_ Try.underlying51 ?_ ?_ ?_); rfl; rfl; rfl; exact cells_node HPK.out) | ((with_reducible refine wpList_storeB rfl 51 _ _ rfl _ (nc pk) _ ?_ ?_ P6.out (node_len2 HPM.out HPK.out) Try.underlying51 ?_ (nc_one HPK.out) ?_); rfl; rfl; exact cells_node HPK.out; intro w7 hw hg hz0; have P7 := bx hw; have J2 := bx (F2.out.grown hg (ne_som NP2.out)); have J3 := bx (F3.out.grown hg (ne_som NP3.out)); have JN := bx (FNP.out w7 hg); have JB := bx (FB.out.grown hg FB.out.size (fun k hk => by cases hk; exact LP.out)); clear hw hg hz0))
        · go_meet
          case rel => exact ⟨pk, HPKI.out, P7.out, J2.out, J3.out, JN.out, JB.out⟩
        · go_meet
          case rel => exact ⟨pm, HPI.out, P6.out, F2.out, F3.out, FN.out, FB.out⟩
      case rest =>
        obtain ⟨pn, hpn, hp6, hj2, hj3, hjn, hjb⟩ := hcut
        have HPN := bx (hjn.2.1 pn hpn)
        have P7 := bx hp6
        have J2 := bx hj2
        have J3 := bx hj3
        have JN := bx hjn
        have JB := bx hjb
        clear hp6 hj2 hj3 hjn hjb hpn P6 F2 F3 FN FB HPM HPI pm
        go_upto_region 9 with fail
        go_cut [7] from 22 to 115 (fun s7 wx => ∃ (gb : Nat) (bb : Bk), s7 = .pointer (some ⟨gb, 0, none⟩) ∧ BkNz bb ∧ Has wx gb (bc bb) ∧ w.heap.size ≤ gb ∧ w.heap.size ≠ gb ∧ g3 ≠ gb ∧ g1 ≠ gb ∧ gp ≠ gb ∧ Has wx gp (nc pn) ∧ Has wx w.heap.size [.slice none 0 0] ∧ Has wx g3 [.slice (some ⟨g1, 0, none⟩) k c'] ∧ NRow wx (some ⟨g1, 0, none⟩) k ns ∧ Below w.heap.size w wx)
        case first =>
          have CR := bx (fun (w5 : World) (h5 : Cls wc.drew.heap.size wc.drew w5) => range_part 67 ((show Has wc.drew gp (nc pn) from P7.out).below h5.out P7.out.lt).rangeAll (fun j u hu => nc_bc HPN.out (bc_root HPN.out j u hu)))
          have CS := bx (fun (w5 : World) (h5 : Cls wc.drew.heap.size wc.drew w5) => run_u641 ((((show Has wc.drew gp (nc pn) from P7.out).below h5.out P7.out.lt).cell 66).trans (nc_bc HPN.out (bc_slot HPN.out))))
          have HRT := bx HPN.out.root
          go_wp2_with fail
          refine wp_region_mix3 25 (.steps [(0, 0), (0, 1), (0, 2), (0, 3), (0, 4), (0, 5), (0, 6), (0, 8), (0, 9), (0, 10), (0, 11), (0, 12), (0, 13), (0, 14), (0, 15), (0, 16), (0, 17), (0, 18), (0, 19), (0, 20), (0, 21)] (.fork 7 (.fork 22 (.steps [(1, 23), (2, 24)] .leaf) 24 (.steps [(2, 22), (1, 23)] .leaf)) 24 (.steps [(2, 7), (2, 22), (1, 23)] .leaf))) (by kernel_rfl) (by kernel_rfl) ?_
          simp only [MixT, MT.steps, stepAt, List.getD_cons_zero, List.getD_cons_succ, List.drop_succ_cons, List.drop_zero]
          repeat (first | (with_reducible refine wpQuiet_nil ?_) | (first | go_big_quiet_skip | (go_big_quiet_want; first | (first | ((with_reducible refine quiet_cell 35 _ rfl _ _ ?_ CS.out ?_); rfl; go_big_quiet_on; (simp only [Act.put, List.setIfInBounds_toArray, List.set_cons_succ, List.set_cons_zero])) | ((with_reducible refine quiet_loadRng 41 _ rfl gp (0 + 67) (ints .u8 pn.b.root) ?_ CR.out Try.underlying41 ?_ ?_ ?_); rfl; rfl; exact cells_root HRT.out; go_big_quiet_on; (simp only [Act.put, List.setIfInBounds_toArray, List.set_cons_succ, List.set_cons_zero]))) | (go_big_quiet_op; first | go_big_quiet_on | ((with_reducible refine ⟨_, fun _ _ => rfl, ?_⟩); go_big_quiet_on)))))
          have P : Bx (Has wc.drew gp (nc pn)) := ⟨P7.out⟩
          have J2d : Bx (Has wc.drew w.heap.size [.slice none 0 0]) := ⟨J2.out⟩
          have J3d : Bx (Has wc.drew g3 [.slice (some ⟨g1, 0, none⟩) k c']) := ⟨J3.out⟩
          have JNd : Bx (NRow wc.drew (some ⟨g1, 0, none⟩) k ns) := ⟨JN.out⟩
          have JBd : Bx (Below w.heap.size w wc.drew) := ⟨JB.out.drew⟩
          clear P7 J2 J3 JN JB CR CS
          refine ⟨?_, ?_⟩
          · refine mix_call (root_any _ _) Try.func39 rfl rfl _ _ rfl rfl rfl ?_
            rintro e w8 ⟨rfl, hb⟩
            refine ⟨_, rfl, hb, ?_⟩
            have P8 := bx (P.out.below hb P.out.lt)
            have J28 := bx (J2d.out.below hb J2d.out.lt)
            have J38 := bx (J3d.out.below hb J3d.out.lt)
            have JN8 := bx (JNd.out.below hb)
            have JB8 := bx (JBd.out.trans (hb.mono JBd.out.size))
            clear hb P J2d J3d JNd JBd
            refine ⟨?_, ?_⟩
            · refine mix_call (root_any _ _) Try.func39 rfl rfl _ _ rfl rfl rfl ?_
              rintro e w9 ⟨rfl, hb⟩
              refine ⟨_, rfl, hb, ?_⟩
              have P9 := bx (P8.out.below hb P8.out.lt)
              have J29 := bx (J28.out.below hb J28.out.lt)
              have J39 := bx (J38.out.below hb J38.out.lt)
              have JN9 := bx (JN8.out.below hb)
              have JB9 := bx (JB8.out.trans (hb.mono JB8.out.size))
              clear hb P8 J28 J38 JN8 JB8
              simp only [Act.put, List.setIfInBounds_toArray, List.set_cons_succ, List.set_cons_zero]
              repeat (first | (with_reducible refine wpQuiet_nil ?_) | (first | go_big_quiet_skip | (go_big_quiet_want; first | (refine quiet_build 49 _ rfl _ (bc (mkB _ _ _ _)) rfl (built_blk (rootL_length _) HRT.out (rootL_length _) _) ?_; go_big_quiet_on; (simp only [Act.put, List.setIfInBounds_toArray, List.set_cons_succ, List.set_cons_zero])) | (go_big_quiet_op; first | go_big_quiet_on | ((with_reducible refine ⟨_, fun _ _ => rfl, ?_⟩); go_big_quiet_on)))))
              generalize hbb : mkB _ _ _ _ = bb
              have HBB : Bx (BkOk bb) := ⟨by rw [← hbb]; exact mkB_ok (rootL_length _) HRT.out (rootL_length _)⟩
              have HBZ : Bx (BkNz bb) := ⟨HBB.out, by rw [← hbb]; exact rootK_nz hk8, by rw [← hbb]; exact rootL_bt _⟩
              clear hbb
              refine mix_run (run_allocZ zero_blk rfl) rfl ?_
              refine ⟨ext_alloc _ _, ?_⟩
              have hb := ext_alloc w9 (.cells (bc zBlk).toArray 49)
              have G10 := bx (Has.new w9 (bc zBlk) 49)
              have LG := bx JB9.out.size
              have NG2 := bx (Nat.ne_of_lt J29.out.lt)
              have NG3 := bx (Nat.ne_of_lt J39.out.lt)
              have NGP := bx (Nat.ne_of_lt P9.out.lt)
              have NG1 : Bx (g1 ≠ (w9).heap.size) := ⟨by obtain ⟨g, _, e, hh⟩ := JN9.out.2.2 hk0; injection e with e; injection e with e1; subst e1; exact Nat.ne_of_lt hh.lt⟩
              have P10 := bx (P9.out.below hb P9.out.lt)
              have J210 := bx (J29.out.below hb J29.out.lt)
              have J310 := bx (J39.out.below hb J39.out.lt)
              have JN10 := bx (JN9.out.below hb)
              have JB10 := bx (JB9.out.trans (hb.mono JB9.out.size))
              clear hb P9 J29 J39 JN9 JB9
              simp only [Act.put, List.setIfInBounds_toArray, List.set_cons_succ, List.set_cons_zero]
              go_wp2_with ((with_reducible refine wpList_storeB rfl 49 _ _ rfl _ (bc bb) _ ?_ ?_ G10.out (blk_len0 HBB.out) Try.underlying49 ?_ HBB.out.one ?_); rfl; rfl; exact cells_blk HBB.out; intro w20 hw hg hz0; have GZ := bx hw; have PZ := bx (P10.out.grown hg (ne_som NGP.out)); have J2Z := bx (J210.out.grown hg (ne_som NG2.out)); have J3Z := bx (J310.out.grown hg (ne_som NG3.out)); have JNZ := bx (JN10.out.grown hg (fun ad h => by injection h with h; subst h; exact ne_som NG1.out)); have JBZ := bx (JB10.out.grown hg JB10.out.size (fun k hk => by cases hk; exact LG.out)); clear hw hg hz0)
              refine NoPanic.normal ?_
              go_wp2_with fail
              go_meet
              case rel => exact ⟨_, bb, rfl, HBZ.out, GZ.out, LG.out, NG2.out, NG3.out, NG1.out, NGP.out, PZ.out, J2Z.out, J3Z.out, JNZ.out, JBZ.out⟩
            · refine mix_run (run_allocZ zero_blk rfl) rfl ?_
              refine ⟨ext_alloc _ _, ?_⟩
              have hb := ext_alloc w8 (.cells (bc zBlk).toArray 49)
              have G9 := bx (Has.new w8 (bc zBlk) 49)
              have LG := bx JB8.out.size
              have NG2 := bx (Nat.ne_of_lt J28.out.lt)
              have NG3 := bx (Nat.ne_of_lt J38.out.lt)
              have NGP := bx (Nat.ne_of_lt P8.out.lt)
              have NG1 : Bx (g1 ≠ (w8).heap.size) := ⟨by obtain ⟨g, _, e, hh⟩ := JN8.out.2.2 hk0; injection e with e; injection e with e1; subst e1; exact Nat.ne_of_lt hh.lt⟩
              have P9 := bx (P8.out.below hb P8.out.lt)
              have J29 := bx (J28.out.below hb J28.out.lt)
              have J39 := bx (J38.out.below hb J38.out.lt)
              have JN9 := bx (JN8.out.below hb)
              have JB9 := bx (JB8.out.trans (hb.mono JB8.out.size))
              clear hb P8 J28 J38 JN8 JB8
              refine mix_call (root_any _ _) Try.func39 rfl rfl _ _ rfl rfl rfl ?_
              rintro e w9 ⟨rfl, hb⟩
              refine ⟨_, rfl, hb, ?_⟩
              have P10 := bx (P9.out.below hb P9.out.lt)
              have J210 := bx (J29.out.below hb J29.out.lt)
              have J310 := bx (J39.out.below hb J39.out.lt)
              have JN10 := bx (JN9.out.below hb)
              have JB10 := bx (JB9.out.trans (hb.mono JB9.out.size))
              have G10 := bx (G9.out.below hb G9.out.lt)
              clear hb P9 J29 J39 JN9 JB9 G9
              simp only [Act.put, List.setIfInBounds_toArray, List.set_cons_succ, List.set_cons_zero]
              repeat (first | (with_reducible refine wpQuiet_nil ?_) | (first | go_big_quiet_skip | (go_big_quiet_want; first | (refine quiet_build 49 _ rfl _ (bc (mkB _ _ _ _)) rfl (built_blk (rootL_length _) HRT.out (rootL_length _) _) ?_; go_big_quiet_on; (simp only [Act.put, List.setIfInBounds_toArray, List.set_cons_succ, List.set_cons_zero])) | (go_big_quiet_op; first | go_big_quiet_on | ((with_reducible refine ⟨_, fun _ _ => rfl, ?_⟩); go_big_quiet_on)))))
              generalize hbb : mkB _ _ _ _ = bb
              have HBB : Bx (BkOk bb) := ⟨by rw [← hbb]; exact mkB_ok (rootL_length _) HRT.out (rootL_length _)⟩
              have HBZ : Bx (BkNz bb) := ⟨HBB.out, by rw [← hbb]; exact rootK_nz hk8, by rw [← hbb]; exact rootL_bt _⟩
              clear hbb
              go_wp2_with ((with_reducible refine wpList_storeB rfl 49 _ _ rfl _ (bc bb) _ ?_ ?_ G10.out (blk_len0 HBB.out) Try.underlying49 ?_ HBB.out.one ?_); rfl; rfl; exact cells_blk HBB.out; intro w20 hw hg hz0; have GZ := bx hw; have PZ := bx (P10.out.grown hg (ne_som NGP.out)); have J2Z := bx (J210.out.grown hg (ne_som NG2.out)); have J3Z := bx (J310.out.grown hg (ne_som NG3.out)); have JNZ := bx (JN10.out.grown hg (fun ad h => by injection h with h; subst h; exact ne_som NG1.out)); have JBZ := bx (JB10.out.grown hg JB10.out.size (fun k hk => by cases hk; exact LG.out)); clear hw hg hz0)
              refine NoPanic.normal ?_
              go_wp2_with fail
              go_meet
              case rel => exact ⟨_, bb, rfl, HBZ.out, GZ.out, LG.out, NG2.out, NG3.out, NG1.out, NGP.out, PZ.out, J2Z.out, J3Z.out, JNZ.out, JBZ.out⟩
          · refine mix_run (run_allocZ zero_blk rfl) rfl ?_
            refine ⟨ext_alloc _ _, ?_⟩
            have hb := ext_alloc wc.drew (.cells (bc zBlk).toArray 49)
            have G8 := bx (Has.new wc.drew (bc zBlk) 49)
            have LG := bx JBd.out.size
            have NG2 := bx (Nat.ne_of_lt J2d.out.lt)
            have NG3 := bx (Nat.ne_of_lt J3d.out.lt)
            have NGP := bx (Nat.ne_of_lt P.out.lt)
            have NG1 : Bx (g1 ≠ (wc.drew).heap.size) := ⟨by obtain ⟨g, _, e, hh⟩ := JNd.out.2.2 hk0; injection e with e; injection e with e1; subst e1; exact Nat.ne_of_lt hh.lt⟩
            have P8 := bx (P.out.below hb P.out.lt)
            have J28 := bx (J2d.out.below hb J2d.out.lt)
            have J38 := bx (J3d.out.below hb J3d.out.lt)
            have JN8 := bx (JNd.out.below hb)
            have JB8 := bx (JBd.out.trans (hb.mono JBd.out.size))
            clear hb P J2d J3d JNd JBd
            refine mix_call (root_any _ _) Try.func39 rfl rfl _ _ rfl rfl rfl ?_
            rintro e w9 ⟨rfl, hb⟩
            refine ⟨_, rfl, hb, ?_⟩
            have P9 := bx (P8.out.below hb P8.out.lt)
            have J29 := bx (J28.out.below hb J28.out.lt)
            have J39 := bx (J38.out.below hb J38.out.lt)
            have JN9 := bx (JN8.out.below hb)
            have JB9 := bx (JB8.out.trans (hb.mono JB8.out.size))
            have G9 := bx (G8.out.below hb G8.out.lt)
            clear hb P8 J28 J38 JN8 JB8 G8
            refine mix_call (root_any _ _) Try.func39 rfl rfl _ _ rfl rfl rfl ?_
            rintro e w10 ⟨rfl, hb⟩
            refine ⟨_, rfl, hb, ?_⟩
            have P10 := bx (P9.out.below hb P9.out.lt)
            have J210 := bx (J29.out.below hb J29.out.lt)
            have J310 := bx (J39.out.below hb J39.out.lt)
            have JN10 := bx (JN9.out.below hb)
            have JB10 := bx (JB9.out.trans (hb.mono JB9.out.size))
            have G10 := bx (G9.out.below hb G9.out.lt)
            clear hb P9 J29 J39 JN9 JB9 G9
            simp only [Act.put, List.setIfInBounds_toArray, List.set_cons_succ, List.set_cons_zero]
            repeat (first | (with_reducible refine wpQuiet_nil ?_) | (first | go_big_quiet_skip | (go_big_quiet_want; first | (refine quiet_build 49 _ rfl _ (bc (mkB _ _ _ _)) rfl (built_blk (rootL_length _) HRT.out (rootL_length _) _) ?_; go_big_quiet_on; (simp only [Act.put, List.setIfInBounds_toArray, List.set_cons_succ, List.set_cons_zero])) | (go_big_quiet_op; first | go_big_quiet_on | ((with_reducible refine ⟨_, fun _ _ => rfl, ?_⟩); go_big_quiet_on)))))
            generalize hbb : mkB _ _ _ _ = bb
            have HBB : Bx (BkOk bb) := ⟨by rw [← hbb]; exact mkB_ok (rootL_length _) HRT.out (rootL_length _)⟩
            have HBZ : Bx (BkNz bb) := ⟨HBB.out, by rw [← hbb]; exact rootK_nz hk8, by rw [← hbb]; exact rootL_bt _⟩
            clear hbb
            go_wp2_with ((with_reducible refine wpList_storeB rfl 49 _ _ rfl _ (bc bb) _ ?_ ?_ G10.out (blk_len0 HBB.out) Try.underlying49 ?_ HBB.out.one ?_); rfl; rfl; exact cells_blk HBB.out; intro w20 hw hg hz0; have GZ := bx hw; have PZ := bx (P10.out.grown hg (ne_som NGP.out)); have J2Z := bx (J210.out.grown hg (ne_som NG2.out)); have J3Z := bx (J310.out.grown hg (ne_som NG3.out)); have JNZ := bx (JN10.out.grown hg (fun ad h => by injection h with h; subst h; exact ne_som NG1.out)); have JBZ := bx (JB10.out.grown hg JB10.out.size (fun k hk => by cases hk; exact LG.out)); clear hw hg hz0)
            refine NoPanic.normal ?_
            go_wp2_with fail
            go_meet
            case rel => exact ⟨_, bb, rfl, HBZ.out, GZ.out, LG.out, NG2.out, NG3.out, NG1.out, NGP.out, PZ.out, J2Z.out, J3Z.out, JNZ.out, JBZ.out⟩
        case rest =>
          obtain ⟨gb, bb, rfl, hbb, hg, hlg, hn2, hn3, hn1, hnp, hp6, hj2, hj3, hjn, hjb⟩ := hcut
          have HBZ := bx hbb
          have HBB := bx hbb.ok
          have GZ := bx hg
          have LG := bx hlg
          have NG2 := bx hn2
          have NG3 := bx hn3
          have NG1 := bx hn1
          have NGP := bx hnp
          have PZ := bx hp6
          have J2 := bx hj2
          have J3 := bx hj3
          have JN := bx hjn
          have JB := bx hjb
          clear hbb hg hlg hn2 hn3 hn1 hnp hp6 hj2 hj3 hjn hjb P7
          have hfb : ∀ w5, wc.grownBy w5 (some gb) → NRow w5 (some ⟨g1, 0, none⟩) k ns := fun w5 h5 => JN.out.grown h5 (fun ad h => by injection h with h; subst h; exact ne_som NG1.out)
          have HFB := bx hfb
          clear hfb
          go_upto_if 78 with fail
          go_cut [] from 22 to 115 (fun wx => ∃ bb : Bk, BkNz bb ∧ Has wx gb (bc bb) ∧ Has wx gp (nc pn) ∧ Has wx w.heap.size [.slice none 0 0] ∧ Has wx g3 [.slice (some ⟨g1, 0, none⟩) k c'] ∧ NRow wx (some ⟨g1, 0, none⟩) k ns ∧ Below w.heap.size w wx)
          case first =>
            have RP := bx (range_part 131 PZ.out.rangeAll (fun j u hu => nc_bc HPN.out (bc_payload HPN.out j u hu)))
            have HL32 : Bx ((pn.b.rest.take 32).length = 32) := ⟨by rw [List.length_take, HPN.out.rest]; rfl⟩
            have HCL : Bx (Try.prog.cellsOf 41 = (pn.b.rest.take 32).length) := ⟨by rw [HL32.out]; kernel_rfl⟩
            have HOL : Bx ((bb.rest.take 32).length = (pn.b.rest.take 32).length) := ⟨by rw [HL32.out, List.length_take, HBB.out.rest]; rfl⟩
            have GZ2 : Bx (Has wc gb (bhead bb ++ bb.rest.take 32 ++ bb.rest.drop 32)) := ⟨by rw [← bc_parts]; exact GZ.out⟩
            have HON : Bx (∀ u ∈ pn.b.rest.take 32, u.oneCell' = true) := ⟨fun u hu => HPN.out.one2 u (List.mem_of_mem_take hu)⟩
            have HBL := bx (bhead_len HBB.out)
            go_wp2_with (first | ((with_reducible refine wpList_loadR 41 _ rfl ?_ gp (0 + 131) (pn.b.rest.take 32) RP.out ?_ Try.underlying41 ?_ ?_ ?_); rfl; rfl; rfl; exact HCL.out) | ((with_reducible refine wpList_storeM rfl 41 _ _ rfl gb 131 (bhead bb) (bb.rest.take 32) (pn.b.rest.take 32) (bb.rest.drop 32) HBL.out ?_ ?_ GZ2.out HOL.out Try.underlying41 ?_ HON.out ?_); rfl; rfl; exact HCL.out; intro w20 hw hg hz0; rw [← bc_with] at hw; have GY := bx hw; have PY := bx (PZ.out.grown hg (ne_som NGP.out)); have J2Y := bx (J2.out.grown hg (ne_som NG2.out)); have J3Y := bx (J3.out.grown hg (ne_som NG3.out)); have JNY := bx (HFB.out w20 hg); have JBY := bx (JB.out.grown hg JB.out.size (fun k hk => by cases hk; exact LG.out)); clear hw hg hz0))
            · go_meet
              case rel => exact ⟨_, ⟨HBB.out.with HPN.out, HBZ.out.nz, HBZ.out.bt⟩, GY.out, PY.out, J2Y.out, J3Y.out, JNY.out, JBY.out⟩
            · go_meet
              case rel => exact ⟨bb, HBZ.out, GZ.out, PZ.out, J2.out, J3.out, JN.out, JB.out⟩
          case rest =>
            clear HBB HBZ GZ PZ J2 J3 JN JB HFB bb
            obtain ⟨bb, hbb, hg, hp6, hj2, hj3, hjn, hjb⟩ := hcut
            have HBZ := bx hbb
            have HBB := bx hbb.ok
            have GZ := bx hg
            have PZ := bx hp6
            have J2 := bx hj2
            have J3 := bx hj3
            have JN := bx hjn
            have JB := bx hjb
            clear hbb hg hp6 hj2 hj3 hjn hjb
            go_upto_region 12 with fail
            go_cut [8] from 22 to 115 (fun s8 wx => ∃ st : Int, s8 = .int .i64 st ∧ 0 ≤ st ∧ st ≤ 2 ∧ Has wx gb (bc bb) ∧ Has wx gp (nc pn) ∧ Has wx w.heap.size [.slice none 0 0] ∧ Has wx g3 [.slice (some ⟨g1, 0, none⟩) k c'] ∧ NRow wx (some ⟨g1, 0, none⟩) k ns ∧ Below w.heap.size w wx)
            case first =>
              obtain ⟨z, hz⟩ : ∃ z : Nat, (q : Int) / 4096 % 3 = (z : Int) := ⟨((q : Int) / 4096 % 3).toNat, by omega⟩
              have hz3 : z < 3 := by omega
              have h3 := Has.new wc [.int .i64 0, .int .i64 1, .int .i64 2] 3
              have hcz : (wc.alloc (.cells #[.int .i64 0, .int .i64 1, .int .i64 2] 3)).cell? ⟨wc.heap.size, z, none⟩ = some (.int .i64 (z : Int)) := by
                have := h3.cell z
                refine this.trans ?_
                match z, hz3 with
                | 0, _ => rfl
                | 1, _ => rfl
                | 2, _ => rfl
              have hzz : (z : Int) < 3 := by omega
              have hea := ext_alloc wc (.cells #[.int .i64 0, .int .i64 1, .int .i64 2] 3)
              have GA := bx (GZ.out.below hea GZ.out.lt)
              have PA := bx (PZ.out.below hea PZ.out.lt)
              have A2 := bx (J2.out.below hea J2.out.lt)
              have A3 := bx (J3.out.below hea J3.out.lt)
              have AN := bx (JN.out.below hea)
              have AB := bx (JB.out.trans (hea.mono JB.out.size))
              clear h3 hea
              go_wp2_with fail
              go_meet
              case rel => exact ⟨z, rfl, by omega, by omega, GA.out, PA.out, A2.out, A3.out, AN.out, AB.out⟩
            case rest =>
              clear GZ PZ J2 J3 JN JB
              obtain ⟨st1, rfl, hst0, hst2, hg, hp6, hj2, hj3, hjn, hjb⟩ := hcut
              have GZ := bx hg
              have PZ := bx hp6
              have J2 := bx hj2
              have J3 := bx hj3
              have JN := bx hjn
              have JB := bx hjb
              clear hg hp6 hj2 hj3 hjn hjb
              have hpst : wc.cell? ⟨gp, 239, none⟩ = some (.int .i64 pn.st) := (PZ.out.cell 239).trans (nc_st HPN.out)
              go_upto_if 91 with fail
              go_cut [8] from 22 to 115 (fun s8 wx => ∃ st : Int, s8 = .int .i64 st ∧ 0 ≤ st ∧ st ≤ 2 ∧ Has wx gb (bc bb) ∧ Has wx gp (nc pn) ∧ Has wx w.heap.size [.slice none 0 0] ∧ Has wx g3 [.slice (some ⟨g1, 0, none⟩) k c'] ∧ NRow wx (some ⟨g1, 0, none⟩) k ns ∧ Below w.heap.size w wx)
              case first =>
                go_wp2_with fail
                · go_meet
                  case rel => exact ⟨2, rfl, by decide, by decide, GZ.out, PZ.out, J2.out, J3.out, JN.out, JB.out⟩
                · go_meet
                  case rel => exact ⟨0, rfl, by decide, by decide, GZ.out, PZ.out, J2.out, J3.out, JN.out, JB.out⟩
                · go_meet
                  case rel => exact ⟨st1, rfl, hst0, hst2, GZ.out, PZ.out, J2.out, J3.out, JN.out, JB.out⟩
                · go_meet
                  case rel => exact ⟨st1, rfl, hst0, hst2, GZ.out, PZ.out, J2.out, J3.out, JN.out, JB.out⟩
              case rest =>
                have HK8 := bx hk8
                clear GZ PZ J2 J3 JN JB hpst hst0 hst2 st1 hm1 hm2 hm3 hk00 hmk hlt hq hy hk8 hs0 hs2 hk1
                obtain ⟨st1, rfl, hst0, hst2, hg, hp6, hj2, hj3, hjn, hjb⟩ := hcut
                have GZ := bx hg
                have PZ := bx hp6
                have J2 := bx hj2
                have J3 := bx hj3
                have JN := bx hjn
                have JB := bx hjb
                clear hg hp6 hj2 hj3 hjn hjb
                go_wp2_with (first | ((with_reducible refine wpList_loadG 25 _ rfl _ [.slice (some ⟨g1, 0, none⟩) k c'] ?_ ?_ J3.out Try.underlying25 rfl ?_ ?_); rfl; rfl; exact cells_tree _) | ((with_reducible refine wpList_loadG 49 _ rfl _ (bc bb) ?_ ?_ GZ.out Try.underlying49 rfl ?_ ?_); rfl; rfl; exact cells_blk HBB.out))
                refine (insert_any (some ⟨g1, 0, none⟩) k c' ns bb st1 HBB.out hst0 hst2 _ JN.out HK100.out hk0).mono ?_; rintro e w30 ⟨hh, hb⟩
                have I2 := bx (J2.out.below hb J2.out.lt)
                have I3 := bx (J3.out.below hb J3.out.lt)
                have IN := bx (JN.out.below hb)
                have IB := bx (JB.out.trans (hb.mono JB.out.size))
                have LL2 := bx J2.out.lt
                have LL3 := bx J3.out.lt
                clear hb GZ PZ J2 J3 JN JB
                have T2 := bx (I2.out.alloc (.cells #[.slice none 0 0] 25))
                have T3 := bx (I3.out.alloc (.cells #[.slice none 0 0] 25))
                have T9 := bx (Has.new w30 [.slice none 0 0] 25)
                have TB := bx (IB.out.alloc IB.out.size (.cells #[.slice none 0 0] 25))
                have TX := bx (ext_alloc w30 (.cells #[.slice none 0 0] 25))
                rcases hh with ⟨er, her, rfl⟩ | ⟨A7, c7, u, hu, rfl, hnn, hfr, hpar, hslo, hdif⟩
                · have her2 : (er == 0) = false := by rw [beq_eq_false_iff_ne]; exact her
                  have hkk := HKK.out
                  clear her
                  go_upto_if 114 with ((with_reducible refine wpList_storeB rfl 25 _ _ rfl _ [.slice none 0 0] _ ?_ ?_ T9.out rfl Try.underlying25 ?_ (slice_one _ _ _) ?_); rfl; rfl; exact cells_tree _; intro w31 hw hg hz0; have U2 := bx (T2.out.grown hg (ne_som (Nat.ne_of_lt I2.out.lt))); have U3 := bx (T3.out.grown hg (ne_som (Nat.ne_of_lt I3.out.lt))); have UN := bx (IN.out.below ((ext_alloc w30 (.cells #[.slice none 0 0] 25)).grown hg (by simp) (fun k hk => by cases hk; exact Nat.le_refl _))); have UB := bx (TB.out.grown hg TB.out.size (fun k hk => by cases hk; exact IB.out.size)); have hc3 : w31.cell? ⟨g3, 0, none⟩ = some (.slice (some ⟨g1, 0, none⟩) k c') := U3.out.cell 0; clear hw hg hz0)
                  go_upto_region 21 with fail
                  go_step
                  ((with_reducible refine wpList_loadG 25 _ rfl _ [.slice (some ⟨g1, 0, none⟩) k c'] ?_ ?_ U3.out Try.underlying25 rfl ?_ ?_); rfl; rfl; exact cells_tree _)
                  ((with_reducible refine wpList_storeB rfl 25 _ _ rfl _ [.slice (some ⟨g1, 0, none⟩) k c'] _ ?_ ?_ U2.out rfl Try.underlying25 ?_ (slice_one _ _ _) ?_); rfl; rfl; exact cells_tree _; intro w9 hw hg hz0; have U9 := bx hw; have B9 := bx (UB.out.grown hg UB.out.size (fun k hk => by cases hk; exact Nat.le_refl _)); have NR9 := bx (UN.out.grown hg (fun ad h e => (FR.out ad h).1 (by injection e))); clear hw hg hz0)
                  go_step
                  simp only [Act.put, List.setIfInBounds_toArray, List.set_cons_succ, List.set_cons_zero]
                  go_step
                  go_step
                  go_step
                  exact bodyPost_ret (results_cell (by rfl) _ (by rfl) U9.out Try.underlying25 rfl (cells_tree _)) rfl ⟨⟨some ⟨g1, 0, none⟩, c', ns, by rw [HLEN.out]; exact hk0, by rw [HLEN.out]; exact hk9, HWF.out, by rw [HLEN.out], by rw [HLEN.out]; exact NR9.out⟩, B9.out⟩
                · have HU := bx hu
                  have HPAR := bx hpar
                  have HSLO := bx hslo
                  have HDIF := bx hdif
                  have HNN := bx hnn
                  have HFRE := bx hfr
                  have HNL : Bx (0 < ns.length) := ⟨by rw [HLEN.out]; exact hk0⟩
                  have HWF2 := bx (HWF.out.push HNL.out hu hpar hslo hdif hst0 hst2 HBZ.out.nz HBZ.out.bt)
                  clear hpar hslo hdif hnn hfr
                  go_wp2_with (first | ((with_reducible refine wpList_storeB rfl 25 _ _ rfl _ [.slice A7 (k + 1) c7] _ ?_ ?_ T9.out rfl Try.underlying25 ?_ (slice_one _ _ _) ?_); rfl; rfl; exact cells_tree _; intro w31 hw hg hz0; have U9 := bx hw; have U2 := bx (T2.out.grown hg (ne_som (Nat.ne_of_lt I2.out.lt))); have U3 := bx (T3.out.grown hg (ne_som (Nat.ne_of_lt I3.out.lt))); have UN := bx (HNN.out.below ((ext_alloc w30 (.cells #[.slice none 0 0] 25)).grown hg (by simp) (fun k hk => by cases hk; exact Nat.le_refl _))); have UB := bx (TB.out.grown hg TB.out.size (fun k hk => by cases hk; exact IB.out.size)); clear hw hg hz0) | ((with_reducible refine wpList_loadG 25 _ rfl _ [.slice A7 (k + 1) c7] ?_ ?_ U9.out Try.underlying25 rfl ?_ ?_); rfl; rfl; exact cells_tree _) | ((with_reducible refine wpList_storeB rfl 25 _ _ rfl _ [.slice A7 (k + 1) c7] _ ?_ ?_ U3.out rfl Try.underlying25 ?_ (slice_one _ _ _) ?_); rfl; rfl; exact cells_tree _; intro w32 hw hg hz0; have V3 := bx hw; have V2 := bx (U2.out.grown hg (ne_som (Nat.ne_of_lt L23.out))); have VN := bx (UN.out.grown hg (fun ad h e => by injection e with e; have h1 := HFRE.out ad h; have h2 := LL3.out; rw [e] at h1; exact absurd h2 (Nat.not_lt.2 h1))); have VB := bx (UB.out.grown hg UB.out.size (fun k hk => by cases hk; exact Nat.le_of_lt L23.out)); have hc3 : w32.cell? ⟨g3, 0, none⟩ = some (.slice A7 (k + 1) c7) := V3.out.cell 0; clear hw hg hz0))
                  have HK9 : Bx (k + 1 ≤ 9) := ⟨Nat.succ_le_succ HK8.out⟩
                  have HLA : Bx ((ns ++ [(⟨bb, (u : Int), st1⟩ : Nd)]).length = k + 1) := ⟨by rw [List.length_append, HLEN.out]; rfl⟩
                  have HFX : Bx (∀ ad, A7 = some ad → ad.block ≠ w.heap.size ∧ ad.block ≠ g3) := ⟨fun ad h => ⟨Nat.ne_of_gt (Nat.lt_of_lt_of_le LL2.out (HFRE.out ad h)), Nat.ne_of_gt (Nat.lt_of_lt_of_le LL3.out (HFRE.out ad h))⟩⟩
                  go_roundw
                  case rel => exact ⟨k + 1, ns ++ [(⟨bb, (u : Int), st1⟩ : Nd)], A7, c7, Nat.succ_pos _, HK9.out, rfl, HLA.out, HWF2.out, V2.out, V3.out, VN.out, HFX.out, VB.out⟩
                  case measure => exact meas9 HK8.out
    · go_wp2_with (first | ((with_reducible refine wpList_loadG 25 _ rfl _ [.slice A' k c'] ?_ ?_ Z3.out Try.underlying25 rfl ?_ ?_); rfl; rfl; exact cells_tree _) | ((with_reducible refine wpList_storeB rfl 25 _ _ rfl _ [.slice A' k c'] _ ?_ ?_ Z2.out rfl Try.underlying25 ?_ (slice_one _ _ _) ?_); rfl; rfl; exact cells_tree _; intro w9 hw hg hz0; have U9 := bx hw; have B9 := bx (BZ.out.grown hg BZ.out.size (fun k hk => by cases hk; exact Nat.le_refl _)); have NR9 := bx (NR2.out.grown hg (fun ad h e => (FR.out ad h).1 (by injection e))); clear hw hg hz0))
      exact bodyPost_ret (results_cell (by rfl) _ (by rfl) U9.out Try.underlying25 rfl (cells_tree _)) rfl ⟨⟨A', c', ns, by rw [HLEN.out]; exact hk0, by rw [HLEN.out]; exact hk9, HWF.out, by rw [HLEN.out], by rw [HLEN.out]; exact NR9.out⟩, B9.out⟩
end Go.Proofs.Ytonkgjengplppaa
