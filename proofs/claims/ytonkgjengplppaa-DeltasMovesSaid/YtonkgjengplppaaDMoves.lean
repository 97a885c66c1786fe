/- DeltasMoves, walked. -/
import Derived.Test.YtonkgjengplppaaAw14
import Derived.Test.YtonkgjengplppaaTreeX
namespace Go.Proofs.Ytonkgjengplppaa
open Go.RowKit
set_option maxRecDepth 20000 in
set_option maxHeartbeats 1000000 in
theorem deltasMoves_walk (a0 : Option Addr) (n0 c0 : Nat) (l0 : List Int) (a1 : Option Addr) (n1 c1 : Nat) (l1 : List Int) (a2 : Option Addr) (n2 c2 : Nat) (l2 : List Int) (w : World)
    (_ : Fit .i64 l0) (_ : l0.length = n0) (hr0 : Row w w.heap.size 1 a0 n0 (ints .i64 l0)) (hnc0 : n0 ≤ c0) (hcm0 : c0 ≤ maxLen)
    (_ : Fit .i64 l1) (_ : l1.length = n1) (hr1 : Row w w.heap.size 1 a1 n1 (ints .i64 l1)) (hnc1 : n1 ≤ c1) (hcm1 : c1 ≤ maxLen)
    (_ : Fit .i64 l2) (_ : l2.length = n2) (hr2 : Row w w.heap.size 1 a2 n2 (ints .i64 l2)) (hnc2 : n2 ≤ c2) (hcm2 : c2 ≤ maxLen) :
    Calls Try.prog 7 #[.slice a0 n0 c0, .slice a1 n1 c1, .slice a2 n2 c2] w fun e w' => e = .returned (.bool true) ∧ Below w.heap.size w w' := by
  have HT := bx (tree_any a0 n0 c0 l0 w hr0 (Nat.le_trans hnc0 hcm0))
  have HN1 := bx (fun (n : Nat) (hn : n ≤ 65535) w' (hb : Below w.heap.size w w') => numbers_any w.heap.size a1 n1 c1 l1 n hn w' (hr1.below hb) (Nat.le_trans hnc1 hcm1) hb.size)
  have HN2 := bx (fun (n : Nat) (hn : n ≤ 65535) w' (hb : Below w.heap.size w w') => numbers_any w.heap.size a2 n2 c2 l2 n hn w' (hr2.below hb) (Nat.le_trans hnc2 hcm2) hb.size)
  clear hr0 hr1 hr2 hnc0 hnc1 hnc2 hcm0 hcm1 hcm2
  go_enter Try.func7, Try.ntmps7
  go_wp2_with fail
  refine HT.out.mono ?_; rintro e w1 ⟨⟨A, c, ns, h0, h9, wf, rfl, hnr⟩, hb⟩
  have B1 := bx hb
  have NR := bx hnr
  have WF := bx wf
  have HN0 := bx h0
  have HN9 := bx h9
  clear hb hnr wf h0 h9
  go_wp2_with fail
  generalize hW : World.alloc w1 _ = w2
  have EX : Bx (Below w1.heap.size w1 w2.drew) := ⟨by rw [← hW]; exact (ext_alloc w1 _).drew⟩
  have X2 : Bx (Has w2.drew w1.heap.size [.slice A ns.length c]) := ⟨by rw [← hW]; exact Has.new w1 _ _⟩
  have N2 := bx (NR.out.below EX.out)
  have B2 := bx (B1.out.trans (EX.out.mono B1.out.size))
  clear hW EX NR B1
  have CN := bx (fun w5 (h5 : Cls w2.drew.heap.size w2.drew w5) => run_nodes1 ((X2.out.below h5.out X2.out.lt).cell 0))
  refine wp_region_mix3 10 (.steps [(0, 0), (0, 1), (0, 2), (0, 3), (0, 5), (0, 6), (0, 7), (0, 8), (2, 4), (2, 9)] .leaf) (by kernel_rfl) (by kernel_rfl) ?_
  simp only [MixT, MT.steps, stepAt, List.getD_cons_zero, List.getD_cons_succ, List.drop_succ_cons, List.drop_zero]
  repeat (first | (with_reducible refine wpQuiet_nil ?_) | (first | go_big_quiet_skip | (go_big_quiet_want; first | ((with_reducible refine quiet_cell 23 _ rfl _ _ ?_ CN.out ?_); rfl; go_big_quiet_on; (simp only [Act.put, List.setIfInBounds_toArray, List.set_cons_succ, List.set_cons_zero])) | (go_big_quiet_op; first | go_big_quiet_on | ((with_reducible refine ⟨_, fun _ _ => rfl, ?_⟩); go_big_quiet_on)))))
  refine mix_call (HN1.out ns.length (by have := HN9.out; omega) _ B2.out) Try.func28 rfl rfl _ _ rfl rfl rfl ?_
  rintro e w3 ⟨A1, c1, xs, hxl, hxs, rfl, hxo, hb⟩
  refine ⟨_, rfl, hb, ?_⟩
  have X3 := bx (X2.out.below hb X2.out.lt)
  have N3 := bx (N2.out.below hb)
  have B3 := bx (B2.out.trans (hb.mono B2.out.size))
  have U1 := bx (URow.own hxl hxo)
  have S1 := bx hxs
  clear hb X2 N2 B2 hxl hxo hxs CN
  refine mix_call (HN2.out ns.length (by have := HN9.out; omega) _ B3.out) Try.func28 rfl rfl _ _ rfl rfl rfl ?_
  rintro e w4 ⟨A2, c2, ys, hxl, hxs, rfl, hxo, hb⟩
  refine ⟨_, rfl, hb, ?_⟩
  have X4 := bx (X3.out.below hb X3.out.lt)
  have N4 := bx (N3.out.below hb)
  have B4 := bx (B3.out.trans (hb.mono B3.out.size))
  have U2 := bx (U1.out.below hb)
  have V2 := bx (URow.own hxl hxo)
  have S2 := bx hxs
  clear hb X3 N3 B3 U1 hxl hxo hxs
  simp only [Act.put, List.setIfInBounds_toArray, List.set_cons_succ, List.set_cons_zero]
  go_wp2_with fail
  refine NoPanic.normal ?_
  have hn4 : ns.length ≤ 4096 := by have := HN9.out; omega
  have HM := bx (fun w' (h1 : URow w' A1 ns.length xs) (h2 : URow w' A2 ns.length ys) => moves_any A A1 A2 ns.length c c1 c2 xs ys S1.out.u64 S2.out.u64 hn4 w' h1 h2)
  have HRM := bx (fun w' (h1 : URow w' A1 ns.length xs) (h2 : URow w' A2 ns.length ys) => refMoves_any A1 A2 ns.length c1 c2 xs ys S1.out.u64 S2.out.u64 hn4 w' h1 h2)
  have HN4 := bx hn4
  clear hn4
  go_wp2_with ((with_reducible refine wpList_loadG 25 _ rfl _ [.slice A ns.length c] ?_ ?_ X4.out Try.underlying25 rfl ?_ ?_); rfl; rfl; exact cells_tree _)
  refine (HM.out _ U2.out V2.out).mono ?_; rintro e w5 ⟨A5, c5, rfl, hd, hb⟩
  have D5 := bx hd
  have B5 := bx (B4.out.trans (hb.mono B4.out.size))
  have U5 := bx (U2.out.below hb)
  have V5 := bx (V2.out.below hb)
  clear hb hd HM X4 N4 B4 U2 V2
  go_wp2_with fail
  refine (HRM.out _ U5.out V5.out).mono ?_; rintro e w6 ⟨A6, c6, rfl, hd, hb⟩
  have D6 := bx (D5.out.below hb)
  have E6 := bx hd
  have B6 := bx (B5.out.trans (hb.mono B5.out.size))
  clear hb hd HRM U5 V5 B5 D5
  go_wp2_with fail
  refine (sameDeltas_any A5 A6 ns.length ns.length c5 c6 _ _ w6 D6.out E6.out HN4.out HN4.out).mono ?_; rintro e w7 ⟨rfl, hb⟩
  rw [decide_eq_true rfl]
  have B7 := bx (B6.out.trans (hb.mono B6.out.size))
  clear hb D6 E6 B6
  go_wp2_with fail
  refine (awake14_any _).mono ?_; rintro e w8 ⟨rfl, hb⟩
  have B8 := bx (B7.out.trans (hb.mono B7.out.size))
  clear hb B7
  go_wp2_with fail
  go_ret
  exact ⟨rfl, B8.out⟩
end Go.Proofs.Ytonkgjengplppaa
