/- WeightsExact, walked. -/
import Derived.Test.YtonkgjengplppaaWBuilt
import Derived.Test.YtonkgjengplppaaWDir
import Derived.Test.YtonkgjengplppaaWRef
import Derived.Test.YtonkgjengplppaaSubR
namespace Go.Proofs.Ytonkgjengplppaa
open Go.RowKit
/-- the boxes of a tree and votes -/
structure Bxs (w : World) (g : Nat) (A : Option Addr) (n0 c : Nat) (AL : Option Addr) (n cl : Nat) (AE : Option Addr) (ne ce : Nat) : Prop where
  t : Has w g [.slice A n0 c]
  v : Has w (g + 1) [.slice AL n cl, .slice AE ne ce]
theorem Bxs.below {w w' : World} {g : Nat} {A : Option Addr} {n0 c : Nat} {AL : Option Addr} {n cl : Nat} {AE : Option Addr} {ne ce : Nat} (h : Bxs w g A n0 c AL n cl AE ne ce) (hb : Below w.heap.size w w') : Bxs w' g A n0 c AL n cl AE ne ce :=
  ⟨h.t.below hb h.t.lt, h.v.below hb h.v.lt⟩
theorem Bxs.new (w : World) (A : Option Addr) (n0 c : Nat) (AL : Option Addr) (n cl : Nat) (AE : Option Addr) (ne ce : Nat) : Bxs ((w.alloc (.cells #[.slice A n0 c] 25)).alloc (.cells #[.slice AL n cl, .slice AE ne ce] 28)) w.heap.size A n0 c AL n cl AE ne ce :=
  ⟨(Has.new w [.slice A n0 c] 25).alloc _, has_newAt (alloc_size w _) [.slice AL n cl, .slice AE ne ce] _⟩
theorem two_below (w : World) (a b : Obj) : Below w.heap.size w ((w.alloc a).alloc b) := (ext_alloc w a).alloc (by simp) b
section
variable {w : World} {A : Option Addr} {ns : List Nd} {AL : Option Addr} {vs : List Vt} {AE : Option Addr} {ne : Nat} {G : List Int} {Ab : Option Addr} {bs : List Int} {n : Nat}
theorem Blt.gok (h : Blt w A ns AL vs AE ne G Ab bs n) : GOk G := fun g hg => by have := h.gb g hg; have := h.n6; omega
theorem Blt.u64D (h : Blt w A ns AL vs AE ne G Ab bs n) : U64 (dirL ns vs G bs n) := fun x hx => by
  have := dirL_bd (ns := ns) (vs := vs) (G := G) h.sm.smB (m := n) (by rw [h.ur.1]; exact Nat.le_refl _) (by have := h.n6; omega) x hx
  omega
theorem Blt.direct (h : Blt w A ns AL vs AE ne G Ab bs n) (c0 cl ce cb : Nat) :
    Calls Try.prog 16 #[.agg #[.slice A ns.length c0], .agg #[.slice AL n cl, .slice AE ne ce], .slice Ab n cb] w (UP ns.length (dirL ns vs G bs n) w) :=
  direct_any A AL AE Ab ns.length c0 cl ne ce n cb ns vs G bs h.wf h.gok (by have := h.nen; have := h.n6; omega) h.sm.smB (by have := h.n6; omega) h.pos (by have := h.n9; omega) w h.nr h.vr h.gr h.ur
theorem Blt.refDirect (h : Blt w A ns AL vs AE ne G Ab bs n) (c0 cl ce cb : Nat) :
    Calls Try.prog 17 #[.agg #[.slice A ns.length c0], .agg #[.slice AL n cl, .slice AE ne ce], .slice Ab n cb] w (UP ns.length (dirL ns vs G bs n) w) :=
  refDirect_any A AL AE Ab ns.length c0 cl ne ce n cb ns vs G bs (by have := h.nen; have := h.n6; omega) h.sm.smB (by have := h.n6; omega) (by have := h.n9; omega) w h.nr h.vr h.gr h.ur
theorem Blt.total (h : Blt w A ns AL vs AE ne G Ab bs n) (cl ce cb : Nat) :
    Calls Try.prog 21 #[.agg #[.slice AL n cl, .slice AE ne ce], .slice Ab n cb] w fun e w' => e = .returned (.int .u64 (totV G bs n)) ∧ Below w.heap.size w w' :=
  total_any AL AE Ab n cl ne ce n cb G bs h.gok (by have := h.nen; have := h.n6; omega) h.sm.smB (by have := h.n6; omega) w h.gr h.ur
theorem Blt.refTotal (h : Blt w A ns AL vs AE ne G Ab bs n) (cl ce cb : Nat) :
    Calls Try.prog 22 #[.agg #[.slice AL n cl, .slice AE ne ce], .slice Ab n cb] w fun e w' => e = .returned (.int .u64 (totV G bs n)) ∧ Below w.heap.size w w' :=
  refTotal_any AL AE Ab n cl ne ce n cb G bs (by have := h.nen; have := h.n6; omega) h.sm.smB (by have := h.n6; omega) w h.gr h.ur
theorem ups_l : ns.length = (Go.Proofs.Ytonkgjengplppaa.ups ns).length := ups_len.symm
theorem Blt.sub (h : Blt w A ns AL vs AE ne G Ab bs n) (c0 c1 : Nat) {A1 : Option Addr} {ws : List Int} (hw : U64 ws) (h1 : URow w A1 ns.length ws) :
    Calls Try.prog 19 #[.agg #[.slice A ns.length c0], .slice A1 ns.length c1] w (UP ns.length (subL (Go.Proofs.Ytonkgjengplppaa.ups ns) ns.length ws) w) := by
  have := subtree_any A A1 ns.length c0 c1 ns ws hw h.wf.lk (by have := h.n9; omega) h.pos w h.nr h1
  rwa [subR_eq h.wf.lk ups_l h.pos hw h1.1] at this
theorem Blt.refSub (h : Blt w A ns AL vs AE ne G Ab bs n) (c0 c1 : Nat) {A1 : Option Addr} {ws : List Int} (hw : U64 ws) (h1 : URow w A1 ns.length ws) :
    Calls Try.prog 20 #[.agg #[.slice A ns.length c0], .slice A1 ns.length c1] w (UP ns.length (subL (Go.Proofs.Ytonkgjengplppaa.ups ns) ns.length ws) w) :=
  refSubtree_any A A1 ns.length c0 c1 ns ws hw h.wf.lk (by have := h.n9; omega) w h.nr h1
/-- two equal lists -/
theorem same_eq {A1 A2 : Option Addr} {m c1 c2 : Nat} {xs : List Int} (hm : m ≤ 9) (h1 : URow w A1 m xs) (h2 : URow w A2 m xs) :
    Calls Try.prog 18 #[.slice A1 m c1, .slice A2 m c2] w fun e w' => e = .returned (.bool true) ∧ Below w.heap.size w w' := by
  have := sameNumbers_any _ A1 A2 m m c1 c2 xs xs w (Nat.le_refl _) h1.row h2.row (by omega) (by omega)
  rwa [decide_eq_true rfl] at this
end
set_option maxRecDepth 20000 in
set_option maxHeartbeats 1000000 in
theorem weightsExact_walk (a0 : Option Addr) (n0 c0 : Nat) (l0 : List Int) (a1 : Option Addr) (n1 c1 : Nat) (l1 : List Int) (w : World)
    (_ : Fit .i64 l0) (_ : l0.length = n0) (hr0 : Row w w.heap.size 1 a0 n0 (ints .i64 l0)) (hnc0 : n0 ≤ c0) (hcm0 : c0 ≤ maxLen)
    (_ : Fit .i64 l1) (_ : l1.length = n1) (hr1 : Row w w.heap.size 1 a1 n1 (ints .i64 l1)) (hnc1 : n1 ≤ c1) (hcm1 : c1 ≤ maxLen) :
    Calls Try.prog 3 #[.slice a0 n0 c0, .slice a1 n1 c1] w fun e w' => e = .returned (.bool true) ∧ Below w.heap.size w w' := by
  have HB := bx (built_any a0 a1 n0 c0 n1 c1 l0 l1 w hr0 (Nat.le_trans hnc0 hcm0) hr1 (Nat.le_trans hnc1 hcm1))
  clear hr0 hr1 hnc0 hnc1 hcm0 hcm1
  go_enter Try.func3, Try.ntmps3
  go_wp2_with fail
  refine HB.out.mono ?_; rintro e w1 ⟨⟨A, c, ns, AL, cl, vs, AE, ne, ce, G, Ab, cb, bs, n, rfl, hbl⟩, hb⟩
  clear HB
  have EX := bx (two_below w1 (.cells #[.slice A ns.length c] 25) (.cells #[.slice AL n cl, .slice AE ne ce] 28))
  have BL2 := bx (hbl.below EX.out)
  have X2 := bx (Bxs.new w1 A ns.length c AL n cl AE ne ce)
  have B2 := bx (hb.trans (EX.out.mono hb.size))
  have M9 := bx hbl.n9
  clear hbl hb EX
  go_upto_region 2 with fail
  generalize (w1.alloc (.cells #[.slice A ns.length c] 25)).alloc (.cells #[.slice AL n cl, .slice AE ne ce] 28) = w2 at *
  generalize w1.heap.size = g at *
  go_wp2_with (first | ((with_reducible refine wpList_loadG 25 _ rfl _ [.slice A ns.length c] ?_ ?_ X2.out.t Try.underlying25 rfl ?_ ?_); rfl; rfl; exact cells_tree _) | ((with_reducible refine wpList_loadG 28 _ rfl _ [.slice AL n cl, .slice AE ne ce] ?_ ?_ X2.out.v Try.underlying28 rfl ?_ ?_); rfl; rfl; exact cells_votes _ _))
  refine (BL2.out.direct c cl ce cb).mono ?_; rintro e w3 ⟨A3, c3, rfl, _, hu, hb⟩
  have BL3 := bx (BL2.out.below hb)
  have X3 := bx (X2.out.below hb)
  have D3 := bx hu
  have B3 := bx (B2.out.trans (hb.mono B2.out.size))
  clear hb hu BL2 X2 B2
  go_wp2_with (first | ((with_reducible refine wpList_loadG 25 _ rfl _ [.slice A ns.length c] ?_ ?_ X3.out.t Try.underlying25 rfl ?_ ?_); rfl; rfl; exact cells_tree _) | ((with_reducible refine wpList_loadG 28 _ rfl _ [.slice AL n cl, .slice AE ne ce] ?_ ?_ X3.out.v Try.underlying28 rfl ?_ ?_); rfl; rfl; exact cells_votes _ _))
  refine (BL3.out.refDirect c cl ce cb).mono ?_; rintro e w4 ⟨A4, c4, rfl, _, hu, hb⟩
  have BL4 := bx (BL3.out.below hb)
  have X4 := bx (X3.out.below hb)
  have D4 := bx (D3.out.below hb)
  have E4 := bx hu
  have B4 := bx (B3.out.trans (hb.mono B3.out.size))
  have UD := bx BL4.out.u64D
  clear hb hu BL3 X3 B3 D3
  generalize dirL ns vs G bs n = ds at *
  have BL5 : Bx (Blt w4.drew A ns AL vs AE ne G Ab bs n) := ⟨BL4.out.below (Below.refl _ _).drew⟩
  have X5 : Bx (Bxs w4.drew g A ns.length c AL n cl AE ne ce) := ⟨X4.out.below (Below.refl _ _).drew⟩
  have D5 : Bx (URow w4.drew A3 ns.length ds) := ⟨D4.out⟩
  have E5 : Bx (URow w4.drew A4 ns.length ds) := ⟨E4.out⟩
  have B5 : Bx (Below w.heap.size w w4.drew) := ⟨B4.out.drew⟩
  have CT := bx (Has.cls X5.out.t)
  have CV := bx (Has.cls X5.out.v)
  clear BL4 X4 D4 E4 B4
  go_wp2_with fail
  refine wp_region_mix3 24 (.steps [(0, 0), (0, 1), (2, 2), (1, 3), (0, 4), (0, 5), (0, 7), (0, 8), (2, 6), (2, 9), (2, 10), (1, 11), (1, 12), (0, 13), (0, 14), (0, 16), (0, 17), (2, 15), (2, 18), (1, 19), (1, 20), (1, 21), (2, 22), (1, 23)] .leaf) (by kernel_rfl) (by kernel_rfl) ?_
  simp only [MixT, MT.steps, stepAt, List.getD_cons_zero, List.getD_cons_succ, List.drop_succ_cons, List.drop_zero]
  generalize w4.drew = w5 at *
  repeat (first | (with_reducible refine wpQuiet_nil ?_) | (first | go_big_quiet_skip | (go_big_quiet_want; first | fail | (go_big_quiet_op; first | go_big_quiet_on | ((with_reducible refine ⟨_, fun _ _ => rfl, ?_⟩); go_big_quiet_on)))))
  refine mix_call (same_eq (c1 := c3) (c2 := c4) M9.out D5.out E5.out) Try.func18 rfl rfl _ _ rfl rfl rfl ?_
  rintro e w6 ⟨rfl, hb⟩
  refine ⟨_, rfl, hb, ?_⟩
  have BL6 := bx (BL5.out.below hb)
  have X6 := bx (X5.out.below hb)
  have E6 := bx (E5.out.below hb)
  have B6 := bx (B5.out.trans (hb.mono B5.out.size))
  clear hb BL5 X5 D5 E5 B5 CT CV
  have CT := bx (Has.cls X6.out.t)
  have CV := bx (Has.cls X6.out.v)
  simp only [Act.put, List.setIfInBounds_toArray, List.set_cons_succ, List.set_cons_zero]
  repeat (first | (with_reducible refine wpQuiet_nil ?_) | (first | go_big_quiet_skip | (go_big_quiet_want; first | ((with_reducible refine quiet_loadC 25 _ rfl _ [.slice A ns.length c] ?_ CT.out Try.underlying25 rfl ?_ ?_); rfl; exact cells_tree _; go_big_quiet_on; (simp only [Act.put, List.setIfInBounds_toArray, List.set_cons_succ, List.set_cons_zero])) | (go_big_quiet_op; first | go_big_quiet_on | ((with_reducible refine ⟨_, fun _ _ => rfl, ?_⟩); go_big_quiet_on)))))
  refine mix_call (BL6.out.sub c c4 UD.out E6.out) Try.func19 rfl rfl _ _ rfl rfl rfl ?_
  rintro e w7 ⟨A7, c7, rfl, _, hu, hb⟩
  refine ⟨_, rfl, hb, ?_⟩
  have BL7 := bx (BL6.out.below hb)
  have X7 := bx (X6.out.below hb)
  have E7 := bx (E6.out.below hb)
  have S7 := bx hu
  have B7 := bx (B6.out.trans (hb.mono B6.out.size))
  clear hb hu BL6 X6 E6 B6 CT CV
  refine mix_call (BL7.out.refSub c c4 UD.out E7.out) Try.func20 rfl rfl _ _ rfl rfl rfl ?_
  rintro e w8 ⟨A8, c8, rfl, _, hu, hb⟩
  refine ⟨_, rfl, hb, ?_⟩
  have BL8 := bx (BL7.out.below hb)
  have X8 := bx (X7.out.below hb)
  have S8 := bx (S7.out.below hb)
  have T8 := bx hu
  have B8 := bx (B7.out.trans (hb.mono B7.out.size))
  clear hb hu BL7 X7 E7 B7 S7
  refine mix_call (same_eq (c1 := c7) (c2 := c8) M9.out S8.out T8.out) Try.func18 rfl rfl _ _ rfl rfl rfl ?_
  rintro e w9 ⟨rfl, hb⟩
  refine ⟨_, rfl, hb, ?_⟩
  have BL9 := bx (BL8.out.below hb)
  have X9 := bx (X8.out.below hb)
  have B9 := bx (B8.out.trans (hb.mono B8.out.size))
  clear hb BL8 X8 S8 T8 B8
  have CV := bx (Has.cls X9.out.v)
  simp only [Act.put, List.setIfInBounds_toArray, List.set_cons_succ, List.set_cons_zero]
  repeat (first | (with_reducible refine wpQuiet_nil ?_) | (first | go_big_quiet_skip | (go_big_quiet_want; first | ((with_reducible refine quiet_loadC 28 _ rfl _ [.slice AL n cl, .slice AE ne ce] ?_ CV.out Try.underlying28 rfl ?_ ?_); rfl; exact cells_votes _ _; go_big_quiet_on; (simp only [Act.put, List.setIfInBounds_toArray, List.set_cons_succ, List.set_cons_zero])) | (go_big_quiet_op; first | go_big_quiet_on | ((with_reducible refine ⟨_, fun _ _ => rfl, ?_⟩); go_big_quiet_on)))))
  refine mix_call (BL9.out.total cl ce cb) Try.func21 rfl rfl _ _ rfl rfl rfl ?_
  rintro e w10 ⟨rfl, hb⟩
  refine ⟨_, rfl, hb, ?_⟩
  have BL10 := bx (BL9.out.below hb)
  have B10 := bx (B9.out.trans (hb.mono B9.out.size))
  clear hb BL9 X9 B9 CV
  refine mix_call (BL10.out.refTotal cl ce cb) Try.func22 rfl rfl _ _ rfl rfl rfl ?_
  rintro e w11 ⟨rfl, hb⟩
  refine ⟨_, rfl, hb, ?_⟩
  have B11 := bx (B10.out.trans (hb.mono B10.out.size))
  clear hb BL10 B10
  generalize totV G bs n = z at *
  simp only [Act.put, List.setIfInBounds_toArray, List.set_cons_succ, List.set_cons_zero]
  repeat (first | (with_reducible refine wpQuiet_nil ?_) | (first | go_big_quiet_skip | (go_big_quiet_want; first | fail | (go_big_quiet_op; first | go_big_quiet_on | ((with_reducible refine ⟨_, fun _ _ => rfl, ?_⟩); go_big_quiet_on)))))
  refine mix_call (awake13_any _) Try.func23 rfl rfl _ _ rfl rfl rfl ?_
  rintro e w12 ⟨rfl, hb⟩
  refine ⟨_, rfl, hb, ?_⟩
  have B12 := bx (B11.out.trans (hb.mono B11.out.size))
  clear hb
  simp only [Act.put, List.setIfInBounds_toArray, List.set_cons_succ, List.set_cons_zero]
  repeat (first | (with_reducible refine wpQuiet_nil ?_) | (first | go_big_quiet_skip | (go_big_quiet_want; first | fail | (go_big_quiet_op; first | go_big_quiet_on | ((with_reducible refine ⟨_, fun _ _ => rfl, ?_⟩); go_big_quiet_on)))))
  go_wp2_with fail
  refine NoPanic.normal ?_
  go_wp2_with fail
  go_ret
  exact ⟨rfl, B12.out⟩
end Go.Proofs.Ytonkgjengplppaa
