/- The reference's Apply, walked. -/
import Derived.Test.YtonkgjengplppaaRefApM
import Derived.Test.YtonkgjengplppaaAppW
namespace Go.Proofs.Ytonkgjengplppaa
open Go.RowKit
theorem u64_push {l : List Int} {v : Int} (h : U64 l) (hv : 0 ≤ v ∧ v < 18446744073709551616) : U64 (l ++ [v]) := fun x hx => by
  rcases List.mem_append.1 hx with hx | hx
  · exact h x hx
  · have : x = v := by simpa using hx
    subst this; exact hv
theorem all_push {f : Nat → Option Int} {l : List Int} {k : Nat} {v : Int} (hl : l.length = k) (h : ∀ j, j < k → f j = some (l.getD j 0)) (hv : f k = some v) : ∀ j, j < k + 1 → f j = some ((l ++ [v]).getD j 0) := fun j hj => by
  subst hl
  rcases Nat.lt_or_ge j l.length with h1 | h1
  · rw [h j h1]; simp [List.getD, List.getElem?_append_left h1]
  · obtain rfl : j = l.length := by omega
    rw [hv]; simp [List.getD]
set_option maxRecDepth 20000 in
set_option maxHeartbeats 2000000 in
theorem refApply_any (A0 A1 A2 : Option Addr) (n c0 c1 c2 : Nat) (ns : List Nd) (ws : List Int) (ds : List Dl) (hw : U64 ws) (hd : D64 ds) (hk : Lk (Go.Proofs.Ytonkgjengplppaa.ups ns)) (hn : n ≤ 4096) (w : World) (h0 : NRow w A0 n ns) (h1 : URow w A1 n ws) (h2 : DRow w A2 n ds) :
    Calls Try.prog 35 #[.agg #[.slice A0 n c0], .slice A1 n c1, .slice A2 n c2] w (RAP (Go.Proofs.Ytonkgjengplppaa.ups ns) n ds ws w) := by
  obtain ⟨i0, hi0, hz0, hz1, hz2⟩ := info_parts info_u64
  have HI := bx (show Try.prog.info? 35 = some i0 from hi0)
  have LW := bx h1.1
  have LD := bx h2.1
  have HW := bx hw
  have HD := bx hd
  have R1 := bx h1
  have R2 := bx h2
  have DE := bx (fun (i : Nat) w1 (hb : Below w.heap.size w w1) => desc_any hk A0 n c0 hn i w1 (h0.below hb))
  have hne : ((n : Int) != (n : Int)) = false := by simp
  have X0 := bx (Has.new w [.slice A0 n c0] 25)
  have B0 := bx (ext_alloc w (.cells #[.slice A0 n c0] 25))
  clear h0 h1 h2 hw hd hk hi0
  generalize Go.Proofs.Ytonkgjengplppaa.ups ns = us at *
  go_enter Try.func35, Try.ntmps35
  go_wp2_with fail
  go_loopw [8, 9] (fun s i wr => ∃ (k : Nat) (xs : List Int), k ≤ n ∧ i = .int .i64 k ∧ xs.length = k ∧ U64 xs ∧ (∀ j, j < k → nodeR us n ds ws j = some (xs.getD j 0)) ∧ wr.ownsRow (w.heap.size + 1) 35 1 s k (ints .u64 xs) ∧ Has wr w.heap.size [.slice A0 n c0] ∧ Below w.heap.size w wr) (fun _ i _ => n - (intOf i).toNat)
  case atStart => exact ⟨0, [], Nat.zero_le _, rfl, rfl, fun x hx => by simp at hx, fun j hj => absurd hj (Nat.not_lt_zero _), World.ownsRow_nil _ _ _ _, X0.out, B0.out⟩
  case round =>
    obtain ⟨i, xs, hi, rfl, hxl, hx64, hall, hown, hx, hbel⟩ := hrel
    have XL := bx hxl
    have X64 := bx hx64
    have ALL := bx hall
    have OW := bx hown
    have XR := bx hx
    have BR := bx hbel
    clear hxl hx64 hall hown hx hbel X0 B0
    obtain ⟨A8, c8, hv⟩ := own_slice OW.out
    subst hv
    have hcb : wr.cell? ⟨w.heap.size, 0, none⟩ = some (.slice A0 n c0) := XR.out.cell 0
    by_cases hin : i < n
    · have hini : (i : Int) < (n : Int) := by omega
      have HIN := bx hin
      have HLD := bx (fun j (hj : j ∈ descN us i n) => descN_lt j hj)
      have HLL := descN_len us i n
      go_wp2_with ((with_reducible refine wpList_loadG 25 _ rfl _ [.slice A0 n c0] ?_ ?_ XR.out Try.underlying25 rfl ?_ ?_); rfl; rfl; exact cells_tree _)
      refine (DE.out i _ BR.out).mono ?_; rintro e w1 ⟨A12, c12, rfl, ho, hb⟩
      have X1 := bx (XR.out.below hb XR.out.lt)
      have O1 := bx (own_ext OW.out hb)
      have B1 := bx (BR.out.trans (hb.mono BR.out.size))
      have D12 := bx ho
      have NB := bx (fun h => nodeR_bad (us := us) (n := n) (ds := ds) (ws := ws) (i := i) h)
      have NO := bx (fun h1 h2 => nodeR_ok (us := us) (n := n) (ds := ds) (ws := ws) (i := i) h1 h2)
      clear hb ho XR OW BR hcb
      generalize descN us i n = L at *
      go_wp2_with fail
      go_loopw [10, 11, 13] (fun p m j wi => ∃ k : Nat, k ≤ L.length ∧ j = .int .i64 k ∧ wi.ownsRow w1.heap.size 35 1 p k (ints .u64 (pL ds (L.take k))) ∧ wi.ownsRow w1.heap.size 35 1 m k (ints .u64 (mL ds (L.take k))) ∧ Dis p m ∧ Below w1.heap.size w1 wi) (fun _ _ j _ => L.length - (intOf j).toNat)
      case atStart => exact ⟨0, Nat.zero_le _, rfl, World.ownsRow_nil _ _ _ _, World.ownsRow_nil _ _ _ _, Dis.nil _, Below.refl _ _⟩
      case round =>
        obtain ⟨k, hk, rfl, hop, hom, hdis, hbi⟩ := hrel
        have OP := bx hop
        have OM := bx hom
        have DI := bx hdis
        have BI := bx hbi
        clear hop hom hdis hbi
        obtain ⟨Ap, cp, hv⟩ := own_slice OP.out
        subst hv
        obtain ⟨Am, cm, hv⟩ := own_slice OM.out
        subst hv
        by_cases hkl : k < L.length
        · obtain ⟨g12, c12', p12, hv, _, hh⟩ := own_block D12.out (by omega)
          injection hv with hv1 hv2 hv3
          subst hv1; subst hv3
          have hjn := HLD.out L[k] (List.getElem_mem hkl)
          have hnk : (nats L)[k]? = some ((L[k] : Nat) : Int) := by simp [nats, List.getElem?_map, List.getElem?_eq_getElem hkl]
          have hcx : (ints .i64 (nats L) ++ p12)[k]? = some (.int .i64 ((L[k] : Nat) : Int)) := by
            rw [List.getElem?_append_left (by rw [ints_len, nats_len]; exact hkl), ints, List.getElem?_map, hnk]; rfl
          have CX := bx (fun w5 (h5 : Cls w1.heap.size wr.drew w5) => run_int1 (((hh.below BI.out hh.lt).drew.below h5.out hh.lt).cell k |>.trans hcx))
          obtain ⟨g2, p2, rfl, hg2⟩ := R2.out.2 (by omega)
          have hjd : L[k] < ds.length := by rw [LD.out]; exact hjn
          have hdd := dl_at hjd
          have H2 : ∀ w5, Cls w1.heap.size wr.drew w5 → Has w5 g2 (ds.flatMap dc ++ p2) := fun w5 h5 =>
            ((hg2.below B1.out hg2.lt).below BI.out (Nat.lt_of_lt_of_le hg2.lt B1.out.size)).drew.below h5.out (Nat.lt_of_lt_of_le hg2.lt B1.out.size)
          have CP := bx (fun w5 h5 => run_u641 (flat_cell (H2 w5 h5) hjd 0 (by omega)))
          have CM := bx (fun w5 h5 => run_u641 (flat_cell (H2 w5 h5) hjd 1 (by omega)))
          have PN := bx (pL_next (ds := ds) hkl)
          have MN := bx (mL_next (ds := ds) hkl)
          rw [hdd] at PN MN
          have hj0 : (0 : Int) ≤ ((L[k] : Nat) : Int) := by omega
          have hjni : ((L[k] : Nat) : Int) < (n : Int) := by omega
          have hki : (k : Int) < (L.length : Int) := by omega
          have hk0 : (0 : Int) ≤ (k : Int) := by omega
          have hM1 : k + 1 ≤ maxLen := by unfold maxLen; omega
          have hM2 : (k + 1) * 8 ≤ 140737488355328 := by omega
          have HM1 := bx hM1
          have HM2 := bx hM2
          have HKL := bx hkl
          clear hM1 hM2 H2 hg2 hh hcx hnk hdd hv2
          generalize L[k] = j at *
          go_wp2_with fail
          refine wp_region_mix4 w1.heap.size 22 (.steps [(0, 0), (0, 1), (0, 2), (0, 3), (0, 4), (0, 5), (0, 6), (0, 7), (0, 8), (0, 11), (0, 12), (0, 13), (0, 14), (0, 15), (0, 16), (0, 17), (0, 18), (0, 19)] (.fork 9 (.fork 10 (.steps [(2, 20), (2, 21)] .leaf) 20 (.steps [(2, 10), (2, 21)] .leaf)) 20 (.steps [(2, 9), (2, 10), (2, 21)] .leaf))) (by kernel_rfl) (by kernel_rfl) ?_
          simp only [MixR, MT.steps, stepR, List.getD_cons_zero, List.getD_cons_succ, List.drop_succ_cons, List.drop_zero]
          repeat (first | (with_reducible refine wpQuiet_nil ?_) | (first | go_big_quiet_skip | (go_big_quiet_want; first | (first | ((with_reducible refine quiet_cell 3 _ rfl _ _ ?_ CX.out ?_); rfl; go_big_quiet_on; (simp only [Act.put, List.setIfInBounds_toArray, List.set_cons_succ, List.set_cons_zero])) | ((with_reducible refine quiet_cell 35 _ rfl _ _ ?_ CP.out ?_); rfl; go_big_quiet_on; (simp only [Act.put, List.setIfInBounds_toArray, List.set_cons_succ, List.set_cons_zero])) | ((with_reducible refine quiet_cell 35 _ rfl _ _ ?_ CM.out ?_); rfl; go_big_quiet_on; (simp only [Act.put, List.setIfInBounds_toArray, List.set_cons_succ, List.set_cons_zero]))) | (go_big_quiet_op; first | go_big_quiet_on | ((with_reducible refine ⟨_, fun _ _ => rfl, ?_⟩); go_big_quiet_on)))))
          generalize ds[j].p = pv at *
          generalize ds[j].m = mv at *
          have PR : Bx (Pr w1.heap.size wr.drew (.slice Ap k cp) (.slice Am k cm) k k (pL ds (L.take k)) (mL ds (L.take k))) := ⟨⟨OP.out, OM.out, DI.out⟩⟩
          have BW : Bx (Below w1.heap.size w1 wr.drew) := ⟨BI.out.drew⟩
          have ONE := bx (fun x => one_u64 x)
          clear OP OM DI BI CX CP CM D12 R1 R2
          generalize wr.drew = W0 at *
          refine ⟨?_, ?_⟩
          · (refine mix_run (run_bsU (i := pv) rfl rfl) rfl ?_; refine ⟨(ext_alloc _ _).mono BW.out.size, ?_⟩; have BW1 := bx (BW.out.trans ((ext_alloc W0 (.cells #[.int .u64 pv] 35)).mono BW.out.size)); have PR1 := bx (PR.out.alloc (.cells #[.int .u64 pv] 35)); have G1 := bx (Has.new W0 [.int .u64 pv] 35))
            refine ⟨?_, ?_⟩
            · ((with_reducible refine step_push rfl (.tmp 49) (.tmp 58) 29 rfl i0 _ 8 Try.underlying29 HI.out hz0 hz1 hz2 ?_ ?_ ?_ (apd PR1.out.p) ⟨W0.heap.size, 0, none⟩ 1 1 [.int .u64 pv] ?_ (by omega) (one_len pv) (news_at G1.out) (ONE.out pv) HM1.out HM2.out BW1.out.size ?_); rfl; omega; rfl; rfl; intro v' W2 ho hg hb hd; refine ⟨hb, ?_⟩; have PR2 := bx (PR1.out.pushP ho hg hd); have BW2 := bx (BW1.out.trans hb); have GRP := bx hg; obtain ⟨Ap', cp', rfl⟩ := own_slice ho; clear ho hg hb hd)
              (refine mix_run (run_bsU (i := mv) rfl rfl) rfl ?_; refine ⟨(ext_alloc _ _).mono BW2.out.size, ?_⟩; have BW3 := bx (BW2.out.trans ((ext_alloc W2 (.cells #[.int .u64 mv] 35)).mono BW2.out.size)); have PR3 := bx (PR2.out.alloc (.cells #[.int .u64 mv] 35)); have G3 := bx (Has.new W2 [.int .u64 mv] 35))
              ((with_reducible refine step_push rfl (.tmp 60) (.tmp 69) 29 rfl i0 _ 8 Try.underlying29 HI.out hz0 hz1 hz2 ?_ ?_ ?_ (apd PR3.out.m) ⟨W2.heap.size, 0, none⟩ 1 1 [.int .u64 mv] ?_ (by omega) (one_len mv) (news_at G3.out) (ONE.out mv) HM1.out HM2.out BW3.out.size ?_); rfl; omega; rfl; rfl; intro v' W4 ho hg hb hd; refine ⟨hb, ?_⟩; have PR4 := bx (PR3.out.pushM ho hg hd); have BW4 := bx (BW3.out.trans hb); obtain ⟨Am', cm', rfl⟩ := own_slice ho; clear ho hg hb hd)
              (simp only [Act.put, List.setIfInBounds_toArray, List.set_cons_succ, List.set_cons_zero]; go_wp2_with fail; refine NoPanic.normal ?_; go_wp2_with fail; go_roundw; (case rel => exact ⟨k + 1, HKL.out, by go_num, by rw [PN.out]; exact PR4.out.p, by rw [MN.out]; exact PR4.out.m, PR4.out.d, BW4.out⟩); (case measure => (simp [intOf]; omega)))
            · clear PR BW
              generalize W0.alloc (.cells #[.int .u64 pv] 35) = W1 at *
              (refine mix_run (run_bsU (i := mv) rfl rfl) rfl ?_; refine ⟨(ext_alloc _ _).mono BW1.out.size, ?_⟩; have BW2 := bx (BW1.out.trans ((ext_alloc W1 (.cells #[.int .u64 mv] 35)).mono BW1.out.size)); have PR2 := bx (PR1.out.alloc (.cells #[.int .u64 mv] 35)); have G2 := bx (Has.new W1 [.int .u64 mv] 35))
              have G3 := bx (G1.out.alloc (.cells #[.int .u64 mv] 35))
              have FAR := bx (own_far PR1.out.p (Nat.le_refl _))
              ((with_reducible refine step_push rfl (.tmp 49) (.tmp 58) 29 rfl i0 _ 8 Try.underlying29 HI.out hz0 hz1 hz2 ?_ ?_ ?_ (apd PR2.out.p) ⟨W0.heap.size, 0, none⟩ 1 1 [.int .u64 pv] ?_ (by omega) (one_len pv) (news_at G3.out) (ONE.out pv) HM1.out HM2.out BW2.out.size ?_); rfl; omega; rfl; rfl; intro v' W3 ho hg hb hd; refine ⟨hb, ?_⟩; have PR3 := bx (PR2.out.pushP ho hg hd); have BW3 := bx (BW2.out.trans hb); have GRP := bx hg; obtain ⟨Ap', cp', rfl⟩ := own_slice ho; clear ho hg hb hd)
              have G4 := bx (G2.out.grown GRP.out FAR.out)
              ((with_reducible refine step_push rfl (.tmp 60) (.tmp 69) 29 rfl i0 _ 8 Try.underlying29 HI.out hz0 hz1 hz2 ?_ ?_ ?_ (apd PR3.out.m) ⟨W1.heap.size, 0, none⟩ 1 1 [.int .u64 mv] ?_ (by omega) (one_len mv) (news_at G4.out) (ONE.out mv) HM1.out HM2.out BW3.out.size ?_); rfl; omega; rfl; rfl; intro v' W4 ho hg hb hd; refine ⟨hb, ?_⟩; have PR4 := bx (PR3.out.pushM ho hg hd); have BW4 := bx (BW3.out.trans hb); obtain ⟨Am', cm', rfl⟩ := own_slice ho; clear ho hg hb hd)
              (simp only [Act.put, List.setIfInBounds_toArray, List.set_cons_succ, List.set_cons_zero]; go_wp2_with fail; refine NoPanic.normal ?_; go_wp2_with fail; go_roundw; (case rel => exact ⟨k + 1, HKL.out, by go_num, by rw [PN.out]; exact PR4.out.p, by rw [MN.out]; exact PR4.out.m, PR4.out.d, BW4.out⟩); (case measure => (simp [intOf]; omega)))
          · (refine mix_run (run_bsU (i := mv) rfl rfl) rfl ?_; refine ⟨(ext_alloc _ _).mono BW.out.size, ?_⟩; have BW1 := bx (BW.out.trans ((ext_alloc W0 (.cells #[.int .u64 mv] 35)).mono BW.out.size)); have PR1 := bx (PR.out.alloc (.cells #[.int .u64 mv] 35)); have G1 := bx (Has.new W0 [.int .u64 mv] 35))
            have FAR := bx (own_far PR.out.p (Nat.le_refl _))
            clear PR BW
            generalize W0.alloc (.cells #[.int .u64 mv] 35) = W1 at *
            (refine mix_run (run_bsU (i := pv) rfl rfl) rfl ?_; refine ⟨(ext_alloc _ _).mono BW1.out.size, ?_⟩; have BW2 := bx (BW1.out.trans ((ext_alloc W1 (.cells #[.int .u64 pv] 35)).mono BW1.out.size)); have PR2 := bx (PR1.out.alloc (.cells #[.int .u64 pv] 35)); have G2 := bx (Has.new W1 [.int .u64 pv] 35))
            have G3 := bx (G1.out.alloc (.cells #[.int .u64 pv] 35))
            ((with_reducible refine step_push rfl (.tmp 49) (.tmp 58) 29 rfl i0 _ 8 Try.underlying29 HI.out hz0 hz1 hz2 ?_ ?_ ?_ (apd PR2.out.p) ⟨W1.heap.size, 0, none⟩ 1 1 [.int .u64 pv] ?_ (by omega) (one_len pv) (news_at G2.out) (ONE.out pv) HM1.out HM2.out BW2.out.size ?_); rfl; omega; rfl; rfl; intro v' W3 ho hg hb hd; refine ⟨hb, ?_⟩; have PR3 := bx (PR2.out.pushP ho hg hd); have BW3 := bx (BW2.out.trans hb); have GRP := bx hg; obtain ⟨Ap', cp', rfl⟩ := own_slice ho; clear ho hg hb hd)
            have G4 := bx (G3.out.grown GRP.out FAR.out)
            ((with_reducible refine step_push rfl (.tmp 60) (.tmp 69) 29 rfl i0 _ 8 Try.underlying29 HI.out hz0 hz1 hz2 ?_ ?_ ?_ (apd PR3.out.m) ⟨W0.heap.size, 0, none⟩ 1 1 [.int .u64 mv] ?_ (by omega) (one_len mv) (news_at G4.out) (ONE.out mv) HM1.out HM2.out BW3.out.size ?_); rfl; omega; rfl; rfl; intro v' W4 ho hg hb hd; refine ⟨hb, ?_⟩; have PR4 := bx (PR3.out.pushM ho hg hd); have BW4 := bx (BW3.out.trans hb); obtain ⟨Am', cm', rfl⟩ := own_slice ho; clear ho hg hb hd)
            (simp only [Act.put, List.setIfInBounds_toArray, List.set_cons_succ, List.set_cons_zero]; go_wp2_with fail; refine NoPanic.normal ?_; go_wp2_with fail; go_roundw; (case rel => exact ⟨k + 1, HKL.out, by go_num, by rw [PN.out]; exact PR4.out.p, by rw [MN.out]; exact PR4.out.m, PR4.out.d, BW4.out⟩); (case measure => (simp [intOf]; omega)))
        · have hkk : k = L.length := by omega
          subst hkk
          have HP := bx (OP.out)
          rw [List.take_of_length_le (Nat.le_refl _)] at HP
          have HM := bx (OM.out)
          rw [List.take_of_length_le (Nat.le_refl _)] at HM
          have XI := bx (X1.out.below BI.out X1.out.lt)
          have OI := bx (own_ext O1.out BI.out)
          have B2 := bx (B1.out.trans (BI.out.mono B1.out.size))
          have P64 := bx (pL_64 HD.out L (fun j hj => by rw [LD.out]; exact HLD.out j hj))
          have M64 := bx (mL_64 HD.out L (fun j hj => by rw [LD.out]; exact HLD.out j hj))
          have SP := bx (ref_sum _ Ap L.length cp (pL ds L) wr (URow.own (by simp [pL]) HP.out).row P64.out (by omega))
          have SM := bx (ref_sum _ Am L.length cm (mL ds L) wr (URow.own (by simp [mL]) HM.out).row M64.out (by omega))
          have P0 := bx (sum_nonneg P64.out)
          have M0 := bx (sum_nonneg M64.out)
          have hwi := HW.out.at (k := i) (by rw [LW.out]; exact hin)
          clear OP OM DI HP HM P64 M64 O1 X1 D12
          go_wp2_with fail
          refine SP.out.mono ?_; rintro e w3 ⟨rfl, rfl⟩
          go_wp2_with fail
          refine SM.out.mono ?_; rintro e w3 ⟨rfl, rfl⟩
          have VP := bx (fun h => sumV_ok (l := pL ds L) h)
          have VM := bx (fun h => sumV_ok (l := mL ds L) h)
          have EP := bx (fun h => sumE_ok (l := pL ds L) h)
          have EM := bx (fun h => sumE_ok (l := mL ds L) h)
          have FP' := bx (fun h => sumE_bad (l := pL ds L) h)
          have FM' := bx (fun h => sumE_bad (l := mL ds L) h)
          generalize sumE (pL ds L) = eP at *
          generalize sumE (mL ds L) = eM at *
          generalize sumV (pL ds L) = vP at *
          generalize sumV (mL ds L) = vM at *
          generalize (pL ds L).sum = P at *
          generalize (mL ds L).sum = M at *
          have HIN2 := bx HIN.out
          have hini : (i : Int) < (n : Int) := by have := HIN2.out; omega
          have hi0 : (0 : Int) ≤ (i : Int) := by omega
          by_cases hp : P < 18446744073709551616
          · obtain rfl := EP.out hp
            obtain rfl := (VP.out hp).symm
            by_cases hm : M < 18446744073709551616
            · obtain rfl := EM.out hm
              obtain rfl := (VM.out hm).symm
              have NO' := bx (NO.out hp hm)
              obtain ⟨g1, p1, rfl, hg1⟩ := (R1.out.below B2.out).2 (by have := HIN2.out; omega)
              have hc1 := URow.cell hg1 (k := i) (by rw [LW.out]; exact HIN2.out)
              have hP0 := P0.out
              have hM0 := M0.out
              generalize ws.getD i 0 = x at *
              clear hg1 VP VM EP EM FP' FM' P0 M0 SP SM NB NO
              by_cases hpm : M ≤ P
              · have hpm' : P ≥ M := hpm
                have hd1 : 0 ≤ P - M := by omega
                have hd2 : P - M < 18446744073709551616 := by omega
                have hd3 : (P - M) % 18446744073709551616 = P - M := by omega
                have RA := bx (fun w => ref_add x (P - M) hwi.1 hwi.2 hd1 hd2 w)
                have AV := bx (addV_64 (b := P - M) hwi.1 hd1)
                have AE := addE_cases x (P - M)
                have NO2 := NO'.out
                unfold chgE chgV at NO2
                simp only [if_pos hpm] at NO2
                have NO3 := bx NO2
                clear NO2 NO'
                go_wp2_with fail
                refine (RA.out _).mono ?_; rintro e w3 ⟨rfl, rfl⟩
                generalize addE x (P - M) = er at *
                generalize addV x (P - M) = v at *
                clear RA
                rcases AE with rfl | rfl
                · have NO4 : Bx (nodeR us n ds ws i = some v) := ⟨by have := NO3.out; simpa using this⟩
                  have HM1 : Bx (i + 1 ≤ maxLen) := ⟨by unfold maxLen; omega⟩
                  have HM2 : Bx ((i + 1) * 8 ≤ 140737488355328) := ⟨by omega⟩
                  have SZ : Bx (w.heap.size + 1 ≤ wr.heap.size) := ⟨XI.out.lt⟩
                  clear NO3
                  go_wp2_with (at_builtin; (with_reducible refine wpList_push rfl (.tmp 113) (.tmp 115) 29 rfl (w.heap.size + 1) 35 i0 _ 1 8 Try.underlying29 HI.out hz0 hz1 hz2 ?_ (by omega) _ _ _ ?_ OI.out [.int .u64 v] ?_ ?_ (one_u64 v) HM1.out HM2.out SZ.out ?_); rfl; rfl; rfl; rfl; intro v' w' hown' hg' hbel' _; have HOWN3 := bx hown'; have HB3 := bx (B2.out.trans (hbel'.mono (Nat.le_succ _))); have X3 := bx (XI.out.below hbel' (Nat.lt_succ_self _)); clear hown' hg' hbel')
                  go_roundw
                  case rel => exact ⟨i + 1, xs ++ [v], HIN2.out, by go_num, by rw [List.length_append, XL.out]; rfl, u64_push X64.out AV.out, all_push XL.out ALL.out NO4.out, by rw [ints_push]; exact HOWN3.out, X3.out, HB3.out⟩
                  case measure => simp [intOf]; omega
                · have NO4 : Bx (nodeR us n ds ws i = none) := ⟨by have := NO3.out; simpa using this⟩
                  go_wp2_with fail
                  go_ret2
                  exact ⟨.inl ⟨⟨i, HIN2.out, NO4.out⟩, rfl⟩, B2.out⟩
              · have hpm' : ¬ P ≥ M := hpm
                have hd1 : 0 ≤ M - P := by omega
                have hd2 : M - P < 18446744073709551616 := by omega
                have hd3 : (M - P) % 18446744073709551616 = M - P := by omega
                have RA := bx (fun w => ref_sub x (M - P) hwi.1 hwi.2 hd1 hd2 w)
                have AV := bx (subV_64 (a := x) (b := M - P) hwi.2 hd1)
                have AE := subE_cases x (M - P)
                have NO2 := NO'.out
                unfold chgE chgV at NO2
                simp only [if_neg hpm] at NO2
                have NO3 := bx NO2
                clear NO2 NO'
                go_wp2_with fail
                refine (RA.out _).mono ?_; rintro e w3 ⟨rfl, rfl⟩
                generalize subE x (M - P) = er at *
                generalize subV x (M - P) = v at *
                clear RA
                rcases AE with rfl | rfl
                · have NO4 : Bx (nodeR us n ds ws i = some v) := ⟨by have := NO3.out; simpa using this⟩
                  have HM1 : Bx (i + 1 ≤ maxLen) := ⟨by unfold maxLen; omega⟩
                  have HM2 : Bx ((i + 1) * 8 ≤ 140737488355328) := ⟨by omega⟩
                  have SZ : Bx (w.heap.size + 1 ≤ wr.heap.size) := ⟨XI.out.lt⟩
                  clear NO3
                  go_wp2_with (at_builtin; (with_reducible refine wpList_push rfl (.tmp 113) (.tmp 115) 29 rfl (w.heap.size + 1) 35 i0 _ 1 8 Try.underlying29 HI.out hz0 hz1 hz2 ?_ (by omega) _ _ _ ?_ OI.out [.int .u64 v] ?_ ?_ (one_u64 v) HM1.out HM2.out SZ.out ?_); rfl; rfl; rfl; rfl; intro v' w' hown' hg' hbel' _; have HOWN3 := bx hown'; have HB3 := bx (B2.out.trans (hbel'.mono (Nat.le_succ _))); have X3 := bx (XI.out.below hbel' (Nat.lt_succ_self _)); clear hown' hg' hbel')
                  go_roundw
                  case rel => exact ⟨i + 1, xs ++ [v], HIN2.out, by go_num, by rw [List.length_append, XL.out]; rfl, u64_push X64.out AV.out, all_push XL.out ALL.out NO4.out, by rw [ints_push]; exact HOWN3.out, X3.out, HB3.out⟩
                  case measure => simp [intOf]; omega
                · have NO4 : Bx (nodeR us n ds ws i = none) := ⟨by have := NO3.out; simpa using this⟩
                  go_wp2_with fail
                  go_ret2
                  exact ⟨.inl ⟨⟨i, HIN2.out, NO4.out⟩, rfl⟩, B2.out⟩
            · obtain rfl := FM'.out hm
              have NB' := bx (NB.out (.inr (by first | exact hm | exact Int.not_lt.1 hm)))
              clear VM EM EP VP FP' FM' NB NO
              go_wp2_with fail
              go_ret2
              exact ⟨.inl ⟨⟨i, HIN2.out, NB'.out⟩, rfl⟩, B2.out⟩
          · obtain rfl := FP'.out hp
            have NB' := bx (NB.out (.inl (by first | exact hp | exact Int.not_lt.1 hp)))
            clear VM EM EP VP FP' FM' NB NO
            go_wp2_with fail
            go_ret2
            exact ⟨.inl ⟨⟨i, HIN2.out, NB'.out⟩, rfl⟩, B2.out⟩
    · have hkk : i = n := by omega
      subst hkk
      go_wp2_with fail
      go_ret2
      exact ⟨.inr ⟨A8, c8, xs, XL.out, X64.out, ALL.out, rfl, URow.own XL.out OW.out⟩, BR.out⟩
end Go.Proofs.Ytonkgjengplppaa
