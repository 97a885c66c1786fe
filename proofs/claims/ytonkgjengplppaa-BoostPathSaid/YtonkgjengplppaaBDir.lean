/- BoostDirect, walked. -/
import Derived.Test.YtonkgjengplppaaBoostD
import Derived.Test.YtonkgjengplppaaBoostA
import Derived.Test.YtonkgjengplppaaTreeX
namespace Go.Proofs.Ytonkgjengplppaa
open Go.RowKit
theorem and_31 (n : Int) : bits .and .i64 n 31 = n % 32 := and_ones n 5 (by decide)
theorem root_len2 {a b : List Int} (ha : a.length = 32) (hb : b.length = 32) : (ints .u8 a).length = (ints .u8 b).length := by rw [ints_len, ints_len, ha, hb]
set_option maxRecDepth 20000 in
set_option maxHeartbeats 1000000 in
theorem boostDirect_walk (a0 : Option Addr) (n0 c0 : Nat) (l0 : List Int) (a1 : Option Addr) (n1 c1 : Nat) (l1 : List Int) (wh am : Int) (w : World)
    (_ : Fit .i64 l0) (_ : l0.length = n0) (hr0 : Row w w.heap.size 1 a0 n0 (ints .i64 l0)) (hnc0 : n0 ≤ c0) (hcm0 : c0 ≤ maxLen)
    (_ : Fit .i64 l1) (_ : l1.length = n1) (hr1 : Row w w.heap.size 1 a1 n1 (ints .i64 l1)) (hnc1 : n1 ≤ c1) (hcm1 : c1 ≤ maxLen)
    (hwh : (Lit.int .i64 wh).wf = true) (ham : (Lit.int .u64 am).wf = true) :
    Calls Try.prog 13 #[.slice a0 n0 c0, .slice a1 n1 c1, .int .i64 wh, .int .u64 am] w fun e w' => e = .returned (.bool true) ∧ Below w.heap.size w w' := by
  have HT := bx (tree_any a0 n0 c0 l0 w hr0 (Nat.le_trans hnc0 hcm0))
  have HN1 := bx (fun (n : Nat) (hn : n ≤ 65535) w' (hb : Below w.heap.size w w') => numbers_any w.heap.size a1 n1 c1 l1 n hn w' (hr1.below hb) (Nat.le_trans hnc1 hcm1) hb.size)
  clear hr0 hr1 hnc0 hnc1 hcm0 hcm1
  obtain ⟨ham0, ham1⟩ := u64_of_wf ham
  have hz := zroot_lit
  have h31 := and_31 wh
  have h65 := and_65535 (wh / 64)
  clear hwh ham
  go_enter Try.func13, Try.ntmps13
  go_wp2_with fail
  refine HT.out.mono ?_; rintro e w1 ⟨⟨A, c, ns, h0, h9, wf, rfl, hnr⟩, hb⟩
  have B1 := bx hb
  have NR := bx hnr
  have WF := bx wf
  have HN0 := bx h0
  have HN9 := bx h9
  clear hb hnr wf h0 h9
  go_wp2_with fail
  have EX := bx (ext_alloc w1 (.cells #[.slice A ns.length c] 25))
  have X2 : Bx (Has (w1.alloc (.cells #[.slice A ns.length c] 25)) w1.heap.size [.slice A ns.length c]) := ⟨Has.new w1 _ _⟩
  have N2 := bx (NR.out.below EX.out)
  have B2 := bx (B1.out.trans (EX.out.mono B1.out.size))
  clear EX NR B1
  generalize w1.alloc (.cells #[.slice A ns.length c] 25) = w2 at *
  refine (HN1.out ns.length (by have := HN9.out; omega) _ B2.out).mono ?_
  rintro e w3 ⟨A1, c1, xs, hxl, hxs, rfl, hxo, hb⟩
  have X3 := bx (X2.out.below hb X2.out.lt)
  have N3 := bx (N2.out.below hb)
  have B3 := bx (B2.out.trans (hb.mono B2.out.size))
  have U1 := bx (URow.own hxl hxo)
  have S1 := bx hxs
  clear hb X2 N2 B2 hxl hxo hxs
  go_wp2_with fail
  refine (root_any _ _).mono ?_; rintro e w4 ⟨rfl, hb⟩
  have HR4 := bx (rootL_length (wh % 32))
  generalize rootL (wh % 32) = r4 at *
  have X4 := bx (X3.out.below hb X3.out.lt)
  have N4 := bx (N3.out.below hb)
  have B4 := bx (B3.out.trans (hb.mono B3.out.size))
  have U4 := bx (U1.out.below hb)
  clear hb X3 N3 B3 U1
  have EX := bx (ext_alloc w4 (.cells (ints .u8 zroot).toArray 41))
  have HZ : Bx (Has (w4.alloc (.cells (ints .u8 zroot).toArray 41)) w4.heap.size (ints .u8 zroot)) := ⟨Has.new w4 _ _⟩
  have XZ := bx (X4.out.alloc (.cells (ints .u8 zroot).toArray 41))
  have GT : Bx (w1.heap.size < w4.heap.size) := ⟨X4.out.lt⟩
  have hw32 : 0 ≤ wh / 64 % 65536 := by omega
  by_cases hbit : bits .and .i64 wh 32 = 0
  · go_wp2_with ((with_reducible refine wpList_storeB rfl 41 _ _ rfl _ (ints .u8 r4) _ ?_ ?_ HZ.out ?_ Try.underlying41 ?_ (one_ints _ _) ?_); rfl; rfl; exact zroot_len HR4.out; exact cells_root HR4.out; intro w5 hw5 hg5 hz5; have R5 := bx hw5; have X5 := bx (XZ.out.grown hg5 (ne_som (by have := GT.out; omega))); have F5 := bx (EX.out.grown hg5 EX.out.size (fun k hk => by cases hk; exact Nat.le_refl _)); clear hw5 hg5 hz5)
    have hn9 := HN9.out
    have hn0 := HN0.out
    obtain ⟨m, hm⟩ : ∃ m : Nat, (wh / 64 % 65536) % (ns.length : Int) = (m : Int) := ⟨((wh / 64 % 65536) % (ns.length : Int)).toNat, by have := Int.emod_nonneg (wh / 64 % 65536) (show (ns.length : Int) ≠ 0 by omega); omega⟩
    have hmn : (m : Int) < (ns.length : Int) := by rw [← hm]; exact Int.emod_lt_of_pos _ (by omega)
    have htm : (wh / 64 % 65536).tmod (ns.length : Int) = (m : Int) := by rw [Int.tmod_eq_emod_of_nonneg hw32]; exact hm
    have hm0 : (0 : Int) ≤ (m : Int) := by omega
    have hml : m < ns.length := by omega
    have hnz : ((ns.length : Int) == 0) = false := by rw [beq_eq_false_iff_ne]; omega
    have hnz' : ¬ (ns.length : Int) = 0 := by omega
    have N5 := bx (N4.out.below F5.out)
    obtain ⟨g0, p0, hA0, hg0⟩ := N5.out.2.2 hn0
    subst hA0
    have CR := bx (fun w6 (h6 : Cls w5.drew.heap.size w5.drew w6) => (hg0.drew.below h6.out hg0.lt).nodeRoot N5.out.2.1 m hml)
    have CN := bx (fun w6 (h6 : Cls w5.drew.heap.size w5.drew w6) => run_nodes1 ((X5.out.drew.below h6.out X5.out.lt).cell 0))
    have HRM := bx ((N5.out.2.1 _ (List.getElem_mem hml)).root)
    have R5d : Bx (Has w5.drew w4.heap.size (ints .u8 r4)) := ⟨R5.out⟩
    have X5d : Bx (Has w5.drew w1.heap.size [.slice (some ⟨g0, 0, none⟩) ns.length c]) := ⟨X5.out⟩
    have F5d : Bx (Below w4.heap.size w4 w5.drew) := ⟨F5.out.drew⟩
    clear hg0 hm N5 HZ XZ EX hn9 R5 X5 F5
    generalize ns[m].b.root = rm at *
    refine wp_region_mix3 13 (.steps [(0, 0), (0, 1), (0, 2), (0, 3), (0, 4), (0, 5), (0, 6), (0, 7), (0, 8), (0, 9), (0, 10), (0, 11), (0, 12)] .leaf) (by kernel_rfl) (by kernel_rfl) ?_
    simp only [MixT, MT.steps, stepAt, List.getD_cons_zero, List.getD_cons_succ, List.drop_succ_cons, List.drop_zero]
    generalize w5.drew = w5d at *
    repeat (first | (with_reducible refine wpQuiet_nil ?_) | (first | go_big_quiet_skip | (go_big_quiet_want; first | (first | ((with_reducible refine quiet_cell 23 _ rfl _ _ ?_ CN.out ?_); rfl; go_big_quiet_on; (simp only [Act.put, List.setIfInBounds_toArray, List.set_cons_succ, List.set_cons_zero])) | ((with_reducible refine quiet_loadRng 41 _ rfl g0 (m * 240 + 67) (ints .u8 rm) ?_ CR.out Try.underlying41 ?_ ?_ ?_); rfl; rfl; exact cells_root HRM.out; go_big_quiet_on; (simp only [Act.put, List.setIfInBounds_toArray, List.set_cons_succ, List.set_cons_zero]))) | (go_big_quiet_op; first | go_big_quiet_on | ((with_reducible refine ⟨_, fun _ _ => rfl, ?_⟩); go_big_quiet_on)))))
    go_wp2_with ((with_reducible refine wpList_storeB rfl 41 _ _ rfl _ (ints .u8 rm) _ ?_ ?_ R5d.out ?_ Try.underlying41 ?_ (one_ints _ _) ?_); rfl; rfl; exact root_len2 HR4.out HRM.out; exact cells_root HRM.out; intro w6 hw5 hg5 hz5; have R6 := bx hw5; have X6 := bx (X5d.out.grown hg5 (ne_som (by have := GT.out; omega))); have F6 := bx (F5d.out.grown hg5 F5d.out.size (fun k hk => by cases hk; exact Nat.le_refl _)); clear hw5 hg5 hz5)
    refine NoPanic.normal ?_
    clear R5d X5d F5d CR CN
    go_wp2_with fail
    generalize hA0 : (some ⟨g0, 0, none⟩ : Option Addr) = A at *
    clear hA0
    have N7 := bx (N4.out.below F6.out.drew)
    have U7 := bx (U4.out.below F6.out.drew)
    have B7 := bx (B4.out.trans (F6.out.drew.mono B4.out.size))
    have X7 : Bx (Has w6.drew w1.heap.size [.slice A ns.length c]) := ⟨X6.out⟩
    have R7 : Bx (Has w6.drew w4.heap.size (ints .u8 rm)) := ⟨R6.out⟩
    have hn4 : ns.length ≤ 4096 := by have := HN9.out; omega
    have BD := bx (fun w' (h0 : NRow w' A ns.length ns) (h1 : URow w' A1 ns.length xs) => boostDirect_any A A1 ns.length c c1 ns xs S1.out.u64 hn4 HN0.out rm HRM.out (am % 4611686018427387905) (by omega) w' h0 h1)
    have BE := bx (fun w' (h0 : NRow w' A ns.length ns) (h1 : URow w' A1 ns.length xs) => boosted_any A A1 ns.length c c1 ns xs S1.out.u64 hn4 HN0.out rm HRM.out (am % 4611686018427387905) (by omega) w' h0 h1)
    have HN63 : Bx (ns.length ≤ 9223372036854775807) := ⟨by omega⟩
    clear hn4
    go_wp2_with fail
    generalize am % 4611686018427387905 = am2 at *
    refine wp_region_mix3 14 (.steps [(0, 0), (0, 1), (0, 2), (0, 3), (0, 5), (0, 6), (0, 7), (0, 8), (2, 4), (2, 9), (2, 10), (1, 11), (2, 12), (1, 13)] .leaf) (by kernel_rfl) (by kernel_rfl) ?_
    simp only [MixT, MT.steps, stepAt, List.getD_cons_zero, List.getD_cons_succ, List.drop_succ_cons, List.drop_zero]
    generalize w6.drew = w7 at *
    have CT := bx (Has.cls X7.out)
    have CC := bx (Has.cls R7.out)
    repeat (first | (with_reducible refine wpQuiet_nil ?_) | (first | go_big_quiet_skip | (go_big_quiet_want; first | (first | ((with_reducible refine quiet_loadC 25 _ rfl _ [.slice A ns.length c] ?_ CT.out Try.underlying25 rfl ?_ ?_); rfl; exact cells_tree _; go_big_quiet_on; (simp only [Act.put, List.setIfInBounds_toArray, List.set_cons_succ, List.set_cons_zero])) | ((with_reducible refine quiet_loadC 41 _ rfl _ (ints .u8 rm) ?_ CC.out Try.underlying41 rfl ?_ ?_); rfl; exact cells_root HRM.out; go_big_quiet_on; (simp only [Act.put, List.setIfInBounds_toArray, List.set_cons_succ, List.set_cons_zero]))) | (go_big_quiet_op; first | go_big_quiet_on | ((with_reducible refine ⟨_, fun _ _ => rfl, ?_⟩); go_big_quiet_on)))))
    refine mix_call (BD.out _ N7.out U7.out) Try.func40 rfl rfl _ _ rfl rfl rfl ?_
    rintro e w8 ⟨k1, hk1, A8, c8, rfl, _, hu, hb⟩
    refine ⟨_, rfl, hb, ?_⟩
    have N8 := bx (N7.out.below hb)
    have U8 := bx (U7.out.below hb)
    have B8 := bx (B7.out.trans (hb.mono B7.out.size))
    have V8 := bx hu
    have FK1 := bx hk1
    clear hb hu hk1 CT CC
    refine mix_call (BE.out _ N8.out U8.out) Try.func41 rfl rfl _ _ rfl rfl rfl ?_
    rintro e w9 ⟨k2, hk2, A9, c9, rfl, _, hu, hb⟩
    refine ⟨_, rfl, hb, ?_⟩
    have EQ : Bx (boostV ns xs rm am2 k1 = boostV ns xs rm am2 k2) := ⟨by rw [FK1.out.one hk2]⟩
    have V9 := bx (V8.out.below hb)
    have T9 := bx hu
    have B9 := bx (B8.out.trans (hb.mono B8.out.size))
    clear hb hu hk2
    refine mix_call (sameNumbers_any _ A8 A9 ns.length ns.length c8 c9 _ _ w9 (Nat.le_refl _) V9.out.row T9.out.row HN63.out HN63.out) Try.func18 rfl rfl _ _ rfl rfl rfl ?_
    rintro e w10 ⟨rfl, hb⟩
    refine ⟨_, rfl, hb, ?_⟩
    rw [decide_eq_true EQ.out]
    have B10 := bx (B9.out.trans (hb.mono B9.out.size))
    clear hb
    simp only [Act.put, List.setIfInBounds_toArray, List.set_cons_succ, List.set_cons_zero]
    repeat (first | (with_reducible refine wpQuiet_nil ?_) | (first | go_big_quiet_skip | (go_big_quiet_want; first | fail | (go_big_quiet_op; first | go_big_quiet_on | ((with_reducible refine ⟨_, fun _ _ => rfl, ?_⟩); go_big_quiet_on)))))
    refine mix_call (boost_awake _) Try.func42 rfl rfl _ _ rfl rfl rfl ?_
    rintro e w11 ⟨rfl, hb⟩
    refine ⟨_, rfl, hb, ?_⟩
    have B11 := bx (B10.out.trans (hb.mono B10.out.size))
    clear hb
    simp only [Act.put, List.setIfInBounds_toArray, List.set_cons_succ, List.set_cons_zero]
    repeat (first | (with_reducible refine wpQuiet_nil ?_) | (first | go_big_quiet_skip | (go_big_quiet_want; first | fail | (go_big_quiet_op; first | go_big_quiet_on | ((with_reducible refine ⟨_, fun _ _ => rfl, ?_⟩); go_big_quiet_on)))))
    go_wp2_with fail
    refine NoPanic.normal ?_
    go_wp2_with fail
    go_ret
    exact ⟨rfl, B11.out⟩
  · have hbf : (bits .and .i64 wh 32 == 0) = false := by simpa using hbit
    clear hbit
    go_wp2_with ((with_reducible refine wpList_storeB rfl 41 _ _ rfl _ (ints .u8 r4) _ ?_ ?_ HZ.out ?_ Try.underlying41 ?_ (one_ints _ _) ?_); rfl; rfl; exact zroot_len HR4.out; exact cells_root HR4.out; intro w5 hw5 hg5 hz5; have R5 := bx hw5; have X5 := bx (XZ.out.grown hg5 (ne_som (by have := GT.out; omega))); have F5 := bx (EX.out.grown hg5 EX.out.size (fun k hk => by cases hk; exact Nat.le_refl _)); clear hw5 hg5 hz5)
    have N7 := bx (N4.out.below F5.out.drew)
    have U7 := bx (U4.out.below F5.out.drew)
    have B7 := bx (B4.out.trans (F5.out.drew.mono B4.out.size))
    have X7 : Bx (Has w5.drew w1.heap.size [.slice A ns.length c]) := ⟨X5.out⟩
    have R7 : Bx (Has w5.drew w4.heap.size (ints .u8 r4)) := ⟨R5.out⟩
    have hn4 : ns.length ≤ 4096 := by have := HN9.out; omega
    have BD := bx (fun w' (h0 : NRow w' A ns.length ns) (h1 : URow w' A1 ns.length xs) => boostDirect_any A A1 ns.length c c1 ns xs S1.out.u64 hn4 HN0.out r4 HR4.out (am % 4611686018427387905) (by omega) w' h0 h1)
    have BE := bx (fun w' (h0 : NRow w' A ns.length ns) (h1 : URow w' A1 ns.length xs) => boosted_any A A1 ns.length c c1 ns xs S1.out.u64 hn4 HN0.out r4 HR4.out (am % 4611686018427387905) (by omega) w' h0 h1)
    have HN63 : Bx (ns.length ≤ 9223372036854775807) := ⟨by omega⟩
    clear hn4
    go_wp2_with fail
    generalize am % 4611686018427387905 = am2 at *
    refine wp_region_mix3 14 (.steps [(0, 0), (0, 1), (0, 2), (0, 3), (0, 5), (0, 6), (0, 7), (0, 8), (2, 4), (2, 9), (2, 10), (1, 11), (2, 12), (1, 13)] .leaf) (by kernel_rfl) (by kernel_rfl) ?_
    simp only [MixT, MT.steps, stepAt, List.getD_cons_zero, List.getD_cons_succ, List.drop_succ_cons, List.drop_zero]
    generalize w5.drew = w7 at *
    have CT := bx (Has.cls X7.out)
    have CC := bx (Has.cls R7.out)
    repeat (first | (with_reducible refine wpQuiet_nil ?_) | (first | go_big_quiet_skip | (go_big_quiet_want; first | (first | ((with_reducible refine quiet_loadC 25 _ rfl _ [.slice A ns.length c] ?_ CT.out Try.underlying25 rfl ?_ ?_); rfl; exact cells_tree _; go_big_quiet_on; (simp only [Act.put, List.setIfInBounds_toArray, List.set_cons_succ, List.set_cons_zero])) | ((with_reducible refine quiet_loadC 41 _ rfl _ (ints .u8 r4) ?_ CC.out Try.underlying41 rfl ?_ ?_); rfl; exact cells_root HR4.out; go_big_quiet_on; (simp only [Act.put, List.setIfInBounds_toArray, List.set_cons_succ, List.set_cons_zero]))) | (go_big_quiet_op; first | go_big_quiet_on | ((with_reducible refine ⟨_, fun _ _ => rfl, ?_⟩); go_big_quiet_on)))))
    refine mix_call (BD.out _ N7.out U7.out) Try.func40 rfl rfl _ _ rfl rfl rfl ?_
    rintro e w8 ⟨k1, hk1, A8, c8, rfl, _, hu, hb⟩
    refine ⟨_, rfl, hb, ?_⟩
    have N8 := bx (N7.out.below hb)
    have U8 := bx (U7.out.below hb)
    have B8 := bx (B7.out.trans (hb.mono B7.out.size))
    have V8 := bx hu
    have FK1 := bx hk1
    clear hb hu hk1 CT CC
    refine mix_call (BE.out _ N8.out U8.out) Try.func41 rfl rfl _ _ rfl rfl rfl ?_
    rintro e w9 ⟨k2, hk2, A9, c9, rfl, _, hu, hb⟩
    refine ⟨_, rfl, hb, ?_⟩
    have EQ : Bx (boostV ns xs r4 am2 k1 = boostV ns xs r4 am2 k2) := ⟨by rw [FK1.out.one hk2]⟩
    have V9 := bx (V8.out.below hb)
    have T9 := bx hu
    have B9 := bx (B8.out.trans (hb.mono B8.out.size))
    clear hb hu hk2
    refine mix_call (sameNumbers_any _ A8 A9 ns.length ns.length c8 c9 _ _ w9 (Nat.le_refl _) V9.out.row T9.out.row HN63.out HN63.out) Try.func18 rfl rfl _ _ rfl rfl rfl ?_
    rintro e w10 ⟨rfl, hb⟩
    refine ⟨_, rfl, hb, ?_⟩
    rw [decide_eq_true EQ.out]
    have B10 := bx (B9.out.trans (hb.mono B9.out.size))
    clear hb
    simp only [Act.put, List.setIfInBounds_toArray, List.set_cons_succ, List.set_cons_zero]
    repeat (first | (with_reducible refine wpQuiet_nil ?_) | (first | go_big_quiet_skip | (go_big_quiet_want; first | fail | (go_big_quiet_op; first | go_big_quiet_on | ((with_reducible refine ⟨_, fun _ _ => rfl, ?_⟩); go_big_quiet_on)))))
    refine mix_call (boost_awake _) Try.func42 rfl rfl _ _ rfl rfl rfl ?_
    rintro e w11 ⟨rfl, hb⟩
    refine ⟨_, rfl, hb, ?_⟩
    have B11 := bx (B10.out.trans (hb.mono B10.out.size))
    clear hb
    simp only [Act.put, List.setIfInBounds_toArray, List.set_cons_succ, List.set_cons_zero]
    repeat (first | (with_reducible refine wpQuiet_nil ?_) | (first | go_big_quiet_skip | (go_big_quiet_want; first | fail | (go_big_quiet_op; first | go_big_quiet_on | ((with_reducible refine ⟨_, fun _ _ => rfl, ?_⟩); go_big_quiet_on)))))
    go_wp2_with fail
    refine NoPanic.normal ?_
    go_wp2_with fail
    go_ret
    exact ⟨rfl, B11.out⟩
end Go.Proofs.Ytonkgjengplppaa
