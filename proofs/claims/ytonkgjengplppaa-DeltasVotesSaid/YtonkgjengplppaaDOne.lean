/- DeltasOnePass, walked. -/
import Derived.Test.YtonkgjengplppaaDAppl
import Derived.Test.YtonkgjengplppaaSubR
namespace Go.Proofs.Ytonkgjengplppaa
open Go.RowKit
theorem nat0_bd {l : List Int} {b : Int} (hb : 0 ≤ b) (h : ∀ x ∈ l, 0 ≤ x ∧ x ≤ b) (j : Nat) : 0 ≤ nat0 l j ∧ nat0 l j ≤ b := by
  unfold nat0
  by_cases hj : j < l.length
  · rw [getD_at hj]; exact h _ (List.getElem_mem hj)
  · rw [List.getD, List.getElem?_eq_none (by omega)]; exact ⟨Int.le_refl 0, hb⟩
theorem tot_bd {us : List Int} {l : List Int} {b : Int} (hb : 0 ≤ b) (h : ∀ x ∈ l, 0 ≤ x ∧ x ≤ b) (i n : Nat) : 0 ≤ tot us (nat0 l) i n ∧ tot us (nat0 l) i n ≤ n * b :=
  ⟨own_nonneg n fun j _ => (nat0_bd hb h j).1, own_le hb n fun j _ => (nat0_bd hb h j).2⟩
theorem mv_diff (a b : Int) : (mv a b).p - (mv a b).m = b - a := by
  unfold mv; split
  · show b - a - 0 = _; omega
  · show 0 - (a - b) = _; omega
theorem mv_bd {a b c : Int} (ha : 0 ≤ a ∧ a ≤ c) (hb : 0 ≤ b ∧ b ≤ c) : (0 ≤ (mv a b).p ∧ (mv a b).p ≤ c) ∧ (0 ≤ (mv a b).m ∧ (mv a b).m ≤ c) := by
  unfold mv; split
  · exact ⟨⟨by show 0 ≤ b - a; omega, by show b - a ≤ c; omega⟩, ⟨Int.le_refl 0, by show 0 ≤ c; omega⟩⟩
  · exact ⟨⟨Int.le_refl 0, by show 0 ≤ c; omega⟩, ⟨by show 0 ≤ a - b; omega, by show a - b ≤ c; omega⟩⟩
theorem mvs_getD {xs ys : List Int} {n : Nat} (hx : xs.length = n) (hy : ys.length = n) {j : Nat} (hj : j < n) : (mvs xs ys).getD j ⟨0, 0⟩ = mv (nat0 xs j) (nat0 ys j) := by
  have h : j < (mvs xs ys).length := by rw [mvs_len hx hy]; exact hj
  rw [dl_at h, mvs_at h]; rfl
/-- the moves, applied to the weights of the first list, give those of the second -/
theorem onepass_law {us : List Int} (h : Lk us) {n : Nat} (hn : n = us.length) {b : Int} (hb : 0 ≤ b) (hnb : n * b < 18446744073709551616) {xs ys : List Int} (hx : ∀ x ∈ xs, 0 ≤ x ∧ x ≤ b) (hy : ∀ x ∈ ys, 0 ≤ x ∧ x ≤ b) (lx : xs.length = n) (ly : ys.length = n) :
    ∀ i, i < n → nodeR us n (mvs xs ys) (subL us n xs) i = some ((subL us n ys).getD i 0) := fun i hi => by
  have e1 := pL_sum h (mvs xs ys) i n (by omega)
  have e2 := mL_sum h (mvs xs ys) i n (by omega)
  have c1 : ∀ j, j < n → dP (mvs xs ys) j = (mv (nat0 xs j) (nat0 ys j)).p := fun j hj => by unfold dP; rw [mvs_getD lx ly hj]
  have c2 : ∀ j, j < n → dM (mvs xs ys) j = (mv (nat0 xs j) (nat0 ys j)).m := fun j hj => by unfold dM; rw [mvs_getD lx ly hj]
  have bdP : 0 ≤ own us (i + 1) (dP (mvs xs ys)) i n ∧ own us (i + 1) (dP (mvs xs ys)) i n ≤ n * b :=
    ⟨own_nonneg n fun j hj => by rw [c1 j hj]; exact (mv_bd (nat0_bd hb hx j) (nat0_bd hb hy j)).1.1, own_le hb n fun j hj => by rw [c1 j hj]; exact (mv_bd (nat0_bd hb hx j) (nat0_bd hb hy j)).1.2⟩
  have bdM : 0 ≤ own us (i + 1) (dM (mvs xs ys)) i n ∧ own us (i + 1) (dM (mvs xs ys)) i n ≤ n * b :=
    ⟨own_nonneg n fun j hj => by rw [c2 j hj]; exact (mv_bd (nat0_bd hb hx j) (nat0_bd hb hy j)).2.1, own_le hb n fun j hj => by rw [c2 j hj]; exact (mv_bd (nat0_bd hb hx j) (nat0_bd hb hy j)).2.2⟩
  have hdiff : own us (i + 1) (dP (mvs xs ys)) i n - own us (i + 1) (dM (mvs xs ys)) i n = tot us (nat0 ys) i n - tot us (nat0 xs) i n := by
    unfold tot
    rw [← own_sub, ← own_sub]
    exact own_congr n fun j hj => by rw [c1 j hj, c2 j hj]; exact mv_diff _ _
  have tx := tot_bd (us := us) hb hx i n
  have ty := tot_bd (us := us) hb hy i n
  rw [nodeR_ok (by rw [e1]; omega) (by rw [e2]; omega), e1, e2, subL_at hi, subL_at hi, Int.emod_eq_of_lt tx.1 (by omega), Int.emod_eq_of_lt ty.1 (by omega)]
  generalize own us (i + 1) (dP (mvs xs ys)) i n = P at *
  generalize own us (i + 1) (dM (mvs xs ys)) i n = M at *
  generalize tot us (nat0 xs) i n = X at *
  generalize tot us (nat0 ys) i n = Y at *
  generalize (n : Int) * b = nb at *
  have he : chgE X ⟨P, M⟩ = 0 ∧ chgV X ⟨P, M⟩ = Y := by
    unfold chgE chgV
    by_cases hpm : M ≤ P
    · simp only [if_pos hpm]
      have hs : X + (P - M) = Y := by omega
      unfold addE addV
      rw [hs]
      exact ⟨if_pos (by omega), if_pos (by omega)⟩
    · simp only [if_neg hpm]
      unfold subE subV
      rw [if_neg (by omega), if_neg (by omega)]
      exact ⟨rfl, by omega⟩
  rw [he.1, he.2, if_neg (by decide)]
theorem nb9 {n : Nat} (h : n ≤ 9) : (n : Int) * 72057594037927936 < 18446744073709551616 := by
  have : (n : Int) * 72057594037927936 ≤ 9 * 72057594037927936 := Int.mul_le_mul_of_nonneg_right (by omega) (by decide)
  omega
set_option maxRecDepth 20000 in
set_option maxHeartbeats 1000000 in
theorem deltasOnePass_walk (a0 : Option Addr) (n0 c0 : Nat) (l0 : List Int) (a1 : Option Addr) (n1 c1 : Nat) (l1 : List Int) (a2 : Option Addr) (n2 c2 : Nat) (l2 : List Int) (w : World)
    (_ : Fit .i64 l0) (_ : l0.length = n0) (hr0 : Row w w.heap.size 1 a0 n0 (ints .i64 l0)) (hnc0 : n0 ≤ c0) (hcm0 : c0 ≤ maxLen)
    (_ : Fit .i64 l1) (_ : l1.length = n1) (hr1 : Row w w.heap.size 1 a1 n1 (ints .i64 l1)) (hnc1 : n1 ≤ c1) (hcm1 : c1 ≤ maxLen)
    (_ : Fit .i64 l2) (_ : l2.length = n2) (hr2 : Row w w.heap.size 1 a2 n2 (ints .i64 l2)) (hnc2 : n2 ≤ c2) (hcm2 : c2 ≤ maxLen) :
    Calls Try.prog 9 #[.slice a0 n0 c0, .slice a1 n1 c1, .slice a2 n2 c2] w fun e w' => e = .returned (.bool true) ∧ Below w.heap.size w w' := by
  have HT := bx (tree_any a0 n0 c0 l0 w hr0 (Nat.le_trans hnc0 hcm0))
  have HN1 := bx (fun (n : Nat) (hn : n ≤ 65535) w' (hb : Below w.heap.size w w') => numbers_any w.heap.size a1 n1 c1 l1 n hn w' (hr1.below hb) (Nat.le_trans hnc1 hcm1) hb.size)
  have HN2 := bx (fun (n : Nat) (hn : n ≤ 65535) w' (hb : Below w.heap.size w w') => numbers_any w.heap.size a2 n2 c2 l2 n hn w' (hr2.below hb) (Nat.le_trans hnc2 hcm2) hb.size)
  clear hr0 hr1 hr2 hnc0 hnc1 hnc2 hcm0 hcm1 hcm2
  go_enter Try.func9, Try.ntmps9
  go_wp2_with fail
  refine HT.out.mono ?_; rintro e w1 ⟨⟨A, c, ns, h0, h9, wf, rfl, hnr⟩, hb⟩
  have B1 := bx hb
  have NR := bx hnr
  have WF := bx wf
  have HN0 := bx h0
  have HN9 := bx h9
  clear hb hnr wf h0 h9
  go_wp2_with fail
  generalize hW : World.alloc w1 _ = w2
  have EX : Bx (Below w1.heap.size w1 w2.drew) := ⟨by rw [← hW]; exact (ext_alloc w1 _).drew⟩
  have X2 : Bx (Has w2.drew w1.heap.size [.slice A ns.length c]) := ⟨by rw [← hW]; exact Has.new w1 _ _⟩
  have N2 := bx (NR.out.below EX.out)
  have B2 := bx (B1.out.trans (EX.out.mono B1.out.size))
  clear hW EX NR B1
  have CN := bx (fun w5 (h5 : Cls w2.drew.heap.size w2.drew w5) => run_nodes1 ((X2.out.below h5.out X2.out.lt).cell 0))
  refine wp_region_mix3 10 (.steps [(0, 0), (0, 1), (0, 2), (0, 3), (0, 5), (0, 6), (0, 7), (0, 8), (2, 4), (2, 9)] .leaf) (by kernel_rfl) (by kernel_rfl) ?_
  simp only [MixT, MT.steps, stepAt, List.getD_cons_zero, List.getD_cons_succ, List.drop_succ_cons, List.drop_zero]
  repeat (first | (with_reducible refine wpQuiet_nil ?_) | (first | go_big_quiet_skip | (go_big_quiet_want; first | ((with_reducible refine quiet_cell 23 _ rfl _ _ ?_ CN.out ?_); rfl; go_big_quiet_on; (simp only [Act.put, List.setIfInBounds_toArray, List.set_cons_succ, List.set_cons_zero])) | (go_big_quiet_op; first | go_big_quiet_on | ((with_reducible refine ⟨_, fun _ _ => rfl, ?_⟩); go_big_quiet_on)))))
  refine mix_call (HN1.out ns.length (by have := HN9.out; omega) _ B2.out) Try.func28 rfl rfl _ _ rfl rfl rfl ?_
  rintro e w3 ⟨A1, c1, xs, hxl, hxs, rfl, hxo, hb⟩
  refine ⟨_, rfl, hb, ?_⟩
  have X3 := bx (X2.out.below hb X2.out.lt)
  have N3 := bx (N2.out.below hb)
  have B3 := bx (B2.out.trans (hb.mono B2.out.size))
  have U1 := bx (URow.own hxl hxo)
  have S1 := bx hxs
  clear hb X2 N2 B2 hxl hxo hxs CN
  refine mix_call (HN2.out ns.length (by have := HN9.out; omega) _ B3.out) Try.func28 rfl rfl _ _ rfl rfl rfl ?_
  rintro e w4 ⟨A2, c2, ys, hxl, hxs, rfl, hxo, hb⟩
  refine ⟨_, rfl, hb, ?_⟩
  have X4 := bx (X3.out.below hb X3.out.lt)
  have N4 := bx (N3.out.below hb)
  have B4 := bx (B3.out.trans (hb.mono B3.out.size))
  have U2 := bx (U1.out.below hb)
  have V2 := bx (URow.own hxl hxo)
  have S2 := bx hxs
  clear hb X3 N3 B3 U1 hxl hxo hxs
  simp only [Act.put, List.setIfInBounds_toArray, List.set_cons_succ, List.set_cons_zero]
  go_wp2_with fail
  refine NoPanic.normal ?_
  have hn9 := HN9.out
  have hn4 : ns.length ≤ 4096 := by omega
  have LK := bx WF.out.lk
  have UL : Bx (ns.length = (Go.Proofs.Ytonkgjengplppaa.ups ns).length) := ⟨ups_len.symm⟩
  have ONE := bx (onepass_law LK.out UL.out (by decide) (nb9 hn9) S1.out S2.out U2.out.1 V2.out.1)
  have SE1 := bx (subR_eq LK.out UL.out HN0.out S1.out.u64 U2.out.1)
  have SE2 := bx (subR_eq LK.out UL.out HN0.out S2.out.u64 V2.out.1)
  have ST := bx (fun w' zs A1 c1 (hz : U64 zs) (h0 : NRow w' A ns.length ns) (h1 : URow w' A1 ns.length zs) => subtree_any A A1 ns.length c c1 ns zs hz LK.out hn4 HN0.out w' h0 h1)
  have HM := bx (fun w' (h1 : URow w' A1 ns.length xs) (h2 : URow w' A2 ns.length ys) => moves_any A A1 A2 ns.length c c1 c2 xs ys S1.out.u64 S2.out.u64 hn4 w' h1 h2)
  have HA := bx (fun w' A1 A2 c1 c2 ws ds hw hd (h0 : NRow w' A ns.length ns) (h1 : URow w' A1 ns.length ws) (h2 : DRow w' A2 ns.length ds) => apply_any A A1 A2 ns.length c c1 c2 ns ws ds hw hd WF.out.ups hn4 HN0.out w' h0 h1 h2)
  have D64 := bx (mvs_64 S1.out.u64 S2.out.u64)
  have AGR := bx (app_agree LK.out UL.out D64.out (subL_64 (Go.Proofs.Ytonkgjengplppaa.ups ns) ns.length xs) (mvs_len U2.out.1 V2.out.1) (subL_len _ _ _))
  have HN63 : Bx (ns.length ≤ 9223372036854775807) := ⟨by omega⟩
  have SX64 := bx (subL_64 (Go.Proofs.Ytonkgjengplppaa.ups ns) ns.length xs)
  have SLL := bx (subL_len (Go.Proofs.Ytonkgjengplppaa.ups ns) ns.length ys)
  clear hn9 hn4
  generalize hL1 : subL (Go.Proofs.Ytonkgjengplppaa.ups ns) ns.length xs = L1 at *
  generalize hL2 : subL (Go.Proofs.Ytonkgjengplppaa.ups ns) ns.length ys = L2 at *
  clear hL1 hL2
  have W5 : Bx (Has w4.drew w1.heap.size [.slice A ns.length c]) := ⟨X4.out⟩
  have CT := bx (Has.cls W5.out)
  have N5 : Bx (NRow w4.drew A ns.length ns) := ⟨N4.out⟩
  have U5 : Bx (URow w4.drew A1 ns.length xs) := ⟨U2.out⟩
  have V5 : Bx (URow w4.drew A2 ns.length ys) := ⟨V2.out⟩
  have B5 : Bx (Below w.heap.size w w4.drew) := ⟨B4.out.drew⟩
  clear X4 N4 U2 V2 B4
  go_wp2_with fail
  refine wp_region_mix3 12 (.steps [(0, 0), (0, 1), (0, 2), (0, 4), (0, 5), (0, 6), (2, 3), (2, 7), (2, 8), (1, 9), (1, 10), (1, 11)] .leaf) (by kernel_rfl) (by kernel_rfl) ?_
  simp only [MixT, MT.steps, stepAt, List.getD_cons_zero, List.getD_cons_succ, List.drop_succ_cons, List.drop_zero]
  repeat (first | (with_reducible refine wpQuiet_nil ?_) | (first | go_big_quiet_skip | (go_big_quiet_want; first | ((with_reducible refine quiet_loadC 25 _ rfl _ [.slice A ns.length c] ?_ CT.out Try.underlying25 rfl ?_ ?_); rfl; exact cells_tree _; go_big_quiet_on; (simp only [Act.put, List.setIfInBounds_toArray, List.set_cons_succ, List.set_cons_zero])) | (go_big_quiet_op; first | go_big_quiet_on | ((with_reducible refine ⟨_, fun _ _ => rfl, ?_⟩); go_big_quiet_on)))))
  refine mix_call (ST.out _ _ _ c1 S1.out.u64 N5.out U5.out) Try.func19 rfl rfl _ _ rfl rfl rfl ?_
  rintro e w6 ⟨A6, c6, rfl, _, hu, hb⟩
  refine ⟨_, rfl, hb, ?_⟩
  rw [SE1.out] at hu
  have Z6 := bx hu
  have X6 := bx (W5.out.below hb W5.out.lt)
  have N6 := bx (N5.out.below hb)
  have U6 := bx (U5.out.below hb)
  have V6 := bx (V5.out.below hb)
  have B6 := bx (B5.out.trans (hb.mono B5.out.size))
  clear hb hu W5 N5 U5 V5 B5 CT
  refine mix_call (HM.out _ U6.out V6.out) Try.func30 rfl rfl _ _ rfl rfl rfl ?_
  rintro e w7 ⟨A7, c7, rfl, hd, hb⟩
  refine ⟨_, rfl, hb, ?_⟩
  have D7 := bx hd
  have Z7 := bx (Z6.out.below hb)
  have X7 := bx (X6.out.below hb X6.out.lt)
  have N7 := bx (N6.out.below hb)
  have V7 := bx (V6.out.below hb)
  have B7 := bx (B6.out.trans (hb.mono B6.out.size))
  clear hb hd Z6 X6 N6 U6 V6 B6
  refine mix_call (HA.out _ A6 A7 c6 c7 _ _ SX64.out D64.out N7.out Z7.out D7.out) Try.func34 rfl rfl _ _ rfl rfl rfl ?_
  rintro e w8 ⟨hres, hb⟩
  rcases hres with ⟨hnone, _⟩ | ⟨x, A8, c8, hsome, hok, rfl, hu⟩
  · obtain ⟨k, hk, h⟩ := AGR.out.1 hnone
    rw [ONE.out k hk] at h; cases h
  · refine ⟨_, rfl, hb, ?_⟩
    have EQ : Bx (x.o = L2) := ⟨list_ext_getD hok.lo SLL.out (fun k hk => by have := (AGR.out.2 x hsome k hk).symm.trans (ONE.out k hk); injection this)⟩
    have U8 := bx hu
    have X8 := bx (X7.out.below hb X7.out.lt)
    have N8 := bx (N7.out.below hb)
    have V8 := bx (V7.out.below hb)
    have B8 := bx (B7.out.trans (hb.mono B7.out.size))
    have hc8 : w8.cell? ⟨w1.heap.size, 0, none⟩ = some (.slice A ns.length c) := X8.out.cell 0
    clear hb hu hsome hok Z7 X7 N7 V7 B7 AGR ONE HM HA D7
    simp only [Act.put, List.setIfInBounds_toArray, List.set_cons_succ, List.set_cons_zero]
    repeat (first | (with_reducible refine wpQuiet_nil ?_) | (first | go_big_quiet_skip | (go_big_quiet_want; first | fail | (go_big_quiet_op; first | go_big_quiet_on | ((with_reducible refine ⟨_, fun _ _ => rfl, ?_⟩); go_big_quiet_on)))))
    go_wp2_with fail
    refine NoPanic.normal ?_
    go_wp2_with ((with_reducible refine wpList_loadG 25 _ rfl _ [.slice A ns.length c] ?_ ?_ X8.out Try.underlying25 rfl ?_ ?_); rfl; rfl; exact cells_tree _)
    refine (ST.out _ _ _ c2 S2.out.u64 N8.out V8.out).mono ?_
    rintro e w9 ⟨A9, c9, rfl, _, hu, hb⟩
    rw [SE2.out] at hu
    have Y9 := bx hu
    have U9 := bx (U8.out.below hb)
    have X9 := bx (X8.out.below hb X8.out.lt)
    have B9 := bx (B8.out.trans (hb.mono B8.out.size))
    clear hb hu X8 N8 V8 B8 U8 hc8
    go_wp2_with fail
    refine (sameNumbers_any _ A8 A9 ns.length ns.length c8 c9 _ _ w9 (Nat.le_refl _) U9.out.row Y9.out.row HN63.out HN63.out).mono ?_; rintro e w10 ⟨rfl, hb⟩
    rw [decide_eq_true EQ.out]
    have X10 := bx (X9.out.below hb X9.out.lt)
    have B10 := bx (B9.out.trans (hb.mono B9.out.size))
    have hc10 : w10.cell? ⟨w1.heap.size, 0, none⟩ = some (.slice A ns.length c) := X10.out.cell 0
    clear hb X9 B9
    go_wp2_with fail
    refine (awake14_any _).mono ?_; rintro e w11 ⟨rfl, hb⟩
    have B11 := bx (B10.out.trans (hb.mono B10.out.size))
    clear hb B10
    go_wp2_with fail
    go_ret
    exact ⟨rfl, B11.out⟩
end Go.Proofs.Ytonkgjengplppaa
