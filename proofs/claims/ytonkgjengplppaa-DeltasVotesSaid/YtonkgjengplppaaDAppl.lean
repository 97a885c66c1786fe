/- DeltasApplies, walked. -/
import Derived.Test.YtonkgjengplppaaAw14
import Derived.Test.YtonkgjengplppaaTreeX
import Derived.Test.YtonkgjengplppaaDList
import Derived.Test.YtonkgjengplppaaRefApW
import Derived.Test.YtonkgjengplppaaAppLaw
namespace Go.Proofs.Ytonkgjengplppaa
open Go.RowKit
theorem apply_bad (A0 A1 A2 : Option Addr) (n m c0 c1 c2 : Nat) (hm : m ≠ n) (w : World) :
    Calls Try.prog 34 #[.agg #[.slice A0 n c0], .slice A1 n c1, .slice A2 m c2] w fun e w' => e = .returned (.tuple #[.slice none 0 0, .int .i64 2]) ∧ Below w.heap.size w w' := by
  have B := bx (ext_alloc w (.cells #[.slice A0 n c0] 25))
  have h1 : ((n : Int) != (n : Int)) = false := by simp
  have h2 : ((m : Int) != (n : Int)) = true := by rw [bne_iff_ne]; omega
  clear hm
  go_enter Try.func34, Try.ntmps34
  go_wp2_with fail
  go_ret2
  exact ⟨rfl, B.out⟩
theorem refApply_bad (A0 A1 A2 : Option Addr) (n m c0 c1 c2 : Nat) (hm : m ≠ n) (w : World) :
    Calls Try.prog 35 #[.agg #[.slice A0 n c0], .slice A1 n c1, .slice A2 m c2] w fun e w' => e = .returned (.tuple #[.slice none 0 0, .int .i64 2]) ∧ Below w.heap.size w w' := by
  have B := bx (ext_alloc w (.cells #[.slice A0 n c0] 25))
  have h1 : ((n : Int) != (n : Int)) = false := by simp
  have h2 : ((m : Int) != (n : Int)) = true := by rw [bne_iff_ne]; omega
  clear hm
  go_enter Try.func35, Try.ntmps35
  go_wp2_with fail
  go_ret2
  exact ⟨rfl, B.out⟩
/-- two lists of the same numbers are equal -/
theorem list_ext_getD {a b : List Int} {n : Nat} (ha : a.length = n) (hb : b.length = n) (h : ∀ i, i < n → a.getD i 0 = b.getD i 0) : a = b := by
  apply List.ext_getElem (by rw [ha, hb])
  intro i h1 h2
  have := h i (by omega)
  rwa [getD_at h1, getD_at h2] at this
/-- the two answers agree -/
theorem app_agree {us : List Int} (h : Lk us) {n : Nat} (hn : n = us.length) {ds : List Dl} {ws : List Int} (hd : D64 ds) (hw : U64 ws) (hl : ds.length = n) (hwl : ws.length = n) :
    (runA us n ⟨ds, ws⟩ = none → ∃ k, k < n ∧ nodeR us n ds ws k = none) ∧
    (∀ x, runA us n ⟨ds, ws⟩ = some x → ∀ k, k < n → nodeR us n ds ws k = some (x.o.getD k 0)) := by
  rcases app_law h hn hd hl n _ (Nat.le_refl _) (app_start hd hw hl hwl) with ⟨h1, h2⟩ | ⟨y, h1, h2⟩
  · exact ⟨fun _ => h2, fun x hx => (by rw [h1] at hx; cases hx)⟩
  · refine ⟨fun h0 => (by rw [h1] at h0; cases h0), fun x hx k hk => ?_⟩
    rw [h1] at hx; cases hx
    exact h2.r k (Nat.zero_le _) hk
theorem same_nil (c c' : Nat) (w : World) : Calls Try.prog 18 #[.slice none 0 c, .slice none 0 c'] w fun e w' => e = .returned (.bool true) ∧ Below w.heap.size w w' :=
  (sameNumbers_any w.heap.size none none 0 0 c c' [] [] w (Nat.le_refl _) (Row.nil _ _ _ _) (Row.nil _ _ _ _) (by omega) (by omega)).mono fun _ _ h => h
set_option maxRecDepth 20000 in
set_option maxHeartbeats 1000000 in
theorem deltasApplies_walk (a0 : Option Addr) (n0 c0 : Nat) (l0 : List Int) (a1 : Option Addr) (n1 c1 : Nat) (l1 : List Int) (a2 : Option Addr) (n2 c2 : Nat) (l2 : List Int) (ex : Int) (w : World)
    (_ : Fit .i64 l0) (_ : l0.length = n0) (hr0 : Row w w.heap.size 1 a0 n0 (ints .i64 l0)) (hnc0 : n0 ≤ c0) (hcm0 : c0 ≤ maxLen)
    (_ : Fit .i64 l1) (_ : l1.length = n1) (hr1 : Row w w.heap.size 1 a1 n1 (ints .i64 l1)) (hnc1 : n1 ≤ c1) (hcm1 : c1 ≤ maxLen)
    (_ : Fit .i64 l2) (_ : l2.length = n2) (hr2 : Row w w.heap.size 1 a2 n2 (ints .i64 l2)) (hnc2 : n2 ≤ c2) (hcm2 : c2 ≤ maxLen) (_ : (Lit.int .i64 ex).wf = true) :
    Calls Try.prog 8 #[.slice a0 n0 c0, .slice a1 n1 c1, .slice a2 n2 c2, .int .i64 ex] w fun e w' => e = .returned (.bool true) ∧ Below w.heap.size w w' := by
  have HT := bx (tree_any a0 n0 c0 l0 w hr0 (Nat.le_trans hnc0 hcm0))
  have HN1 := bx (fun (n : Nat) (hn : n ≤ 65535) w' (hb : Below w.heap.size w w') => numbers_any w.heap.size a1 n1 c1 l1 n hn w' (hr1.below hb) (Nat.le_trans hnc1 hcm1) hb.size)
  have HL2 := bx (fun (n : Nat) (hn : n ≤ 4096) w' (hb : Below w.heap.size w w') => list_any true w.heap.size a2 n2 c2 l2 n hn w' (hr2.below hb) (Nat.le_trans hnc2 hcm2) hb.size)
  clear hr0 hr1 hr2 hnc0 hnc1 hnc2 hcm0 hcm1 hcm2
  have hand := and_15 ex
  obtain ⟨q, hq, hq1⟩ : ∃ q : Nat, ex % 16 / 15 = (q : Int) ∧ q ≤ 1 := ⟨(ex % 16 / 15).toNat, by omega, by omega⟩
  have hex0 : 0 ≤ ex % 16 := by omega
  have hex1 : ex % 16 ≤ 15 := by omega
  have HQ := bx hq1
  go_enter Try.func8, Try.ntmps8
  go_wp2_with fail
  refine HT.out.mono ?_; rintro e w1 ⟨⟨A, c, ns, h0, h9, wf, rfl, hnr⟩, hb⟩
  have B1 := bx hb
  have NR := bx hnr
  have WF := bx wf
  have HN0 := bx h0
  have HN9 := bx h9
  clear hb hnr wf h0 h9
  go_wp2_with fail
  have EX := bx (ext_alloc w1 (.cells #[.slice A ns.length c] 25))
  have X2 : Bx (Has (w1.alloc (.cells #[.slice A ns.length c] 25)) w1.heap.size [.slice A ns.length c]) := ⟨Has.new w1 _ _⟩
  have N2 := bx (NR.out.below EX.out)
  have B2 := bx (B1.out.trans (EX.out.mono B1.out.size))
  clear EX NR B1
  generalize w1.alloc (.cells #[.slice A ns.length c] 25) = w2 at *
  refine (HN1.out ns.length (by have := HN9.out; omega) _ B2.out).mono ?_
  rintro e w3 ⟨A1, c1, xs, hxl, hxs, rfl, hxo, hb⟩
  have X3 := bx (X2.out.below hb X2.out.lt)
  have N3 := bx (N2.out.below hb)
  have B3 := bx (B2.out.trans (hb.mono B2.out.size))
  have U1 := bx (URow.own hxl hxo)
  have S1 := bx hxs
  have hc3 : w3.cell? ⟨w1.heap.size, 0, none⟩ = some (.slice A ns.length c) := X3.out.cell 0
  clear hb X2 N2 B2 hxl hxo hxs
  have h9 := HN9.out
  have h9i : (ns.length : Int) ≤ 9 := by omega
  have hqi : (q : Int) ≤ 1 := by omega
  go_wp2_with fail
  rw [← Int.natCast_add]
  refine (HL2.out (ns.length + q) (by omega) _ B3.out).mono ?_
  rintro e w4 ⟨A2, c2, ds, hdl, hd64, _, rfl, hdo, hb⟩
  have X4 := bx (X3.out.below hb X3.out.lt)
  have N4 := bx (N3.out.below hb)
  have B4 := bx (B3.out.trans (hb.mono B3.out.size))
  have U4 := bx (U1.out.below hb)
  have DD := bx hd64
  have DR := bx (DRow.own hdl hdo)
  clear hb X3 N3 B3 U1 hdl hdo hd64 hc3 h9i hqi
  rcases (show q = 0 ∨ q = 1 by omega) with rfl | rfl
  · have DR4 : Bx (DRow w4 A2 ns.length ds) := ⟨DR.out⟩
    have HAG := bx (app_agree WF.out.lk (n := ns.length) (by rw [ups_len]) DD.out S1.out.u64 DR4.out.1 U4.out.1)
    have HA := bx (apply_any A A1 A2 ns.length c c1 c2 ns xs ds S1.out.u64 DD.out WF.out.ups (by omega) HN0.out w4 N4.out U4.out DR4.out)
    have HRA := bx (fun w5 (hb : Below w4.heap.size w4 w5) => refApply_any A A1 A2 ns.length c c1 c2 ns xs ds S1.out.u64 DD.out WF.out.lk (by omega) w5 (N4.out.below hb) (U4.out.below hb) (DR4.out.below hb))
    have HN4 : Bx (ns.length ≤ 9223372036854775807) := ⟨by omega⟩
    rw [Nat.add_zero]
    clear h9 hq1
    go_wp2_with ((with_reducible refine wpList_loadG 25 _ rfl _ [.slice A ns.length c] ?_ ?_ X4.out Try.underlying25 rfl ?_ ?_); rfl; rfl; exact cells_tree _)
    refine HA.out.mono ?_; rintro e w5 ⟨hres, hb⟩
    have X5 := bx (X4.out.below hb X4.out.lt)
    have B5 := bx (B4.out.trans (hb.mono B4.out.size))
    have HRB := bx (HRA.out w5 hb)
    have HBB := bx hb
    clear hb HRA HA X4 B4
    rcases hres with ⟨hnone, rfl⟩ | ⟨x, A5, c5, hsome, hok, rfl, hu⟩
    · have HNO := bx (HAG.out.1 hnone)
      clear hnone HAG
      go_wp2_with ((with_reducible refine wpList_loadG 25 _ rfl _ [.slice A ns.length c] ?_ ?_ X5.out Try.underlying25 rfl ?_ ?_); rfl; rfl; exact cells_tree _)
      refine HRB.out.mono ?_; rintro e w6 ⟨hres, hb⟩
      have B6 := bx (B5.out.trans (hb.mono B5.out.size))
      clear hb
      rcases hres with ⟨_, rfl⟩ | ⟨A6, c6, ys, hyl, _, hall, rfl, hu⟩
      · go_wp2_with fail
        refine (same_nil 0 0 _).mono ?_; rintro e w7 ⟨rfl, hb⟩
        have B7 := bx (B6.out.trans (hb.mono B6.out.size))
        clear hb
        go_wp2_with fail
        refine (awake14_any _).mono ?_; rintro e w8 ⟨rfl, hb⟩
        have B8 := bx (B7.out.trans (hb.mono B7.out.size))
        clear hb B7
        go_wp2_with fail
        go_ret
        exact ⟨rfl, B8.out⟩
      · obtain ⟨k, hk, h⟩ := HNO.out
        rw [hall k hk] at h; cases h
    · have HYES := bx (HAG.out.2 x hsome)
      have U5 := bx hu
      have OK5 := bx hok
      clear hsome HAG hu hok
      go_wp2_with ((with_reducible refine wpList_loadG 25 _ rfl _ [.slice A ns.length c] ?_ ?_ X5.out Try.underlying25 rfl ?_ ?_); rfl; rfl; exact cells_tree _)
      refine HRB.out.mono ?_; rintro e w6 ⟨hres, hb⟩
      have B6 := bx (B5.out.trans (hb.mono B5.out.size))
      have U6 := bx (U5.out.below hb)
      clear hb
      rcases hres with ⟨⟨k, hk, h⟩, rfl⟩ | ⟨A6, c6, ys, hyl, _, hall, rfl, hu⟩
      · rw [HYES.out k hk] at h; cases h
      · have V6 := bx hu
        have EQ : Bx (x.o = ys) := ⟨list_ext_getD OK5.out.lo hyl (fun k hk => by have := (HYES.out k hk).symm.trans (hall k hk); injection this)⟩
        have HSM := bx (sameNumbers_any _ A5 A6 ns.length ns.length c5 c6 _ _ w6 (Nat.le_refl _) U6.out.row V6.out.row HN4.out HN4.out)
        clear hu hall
        go_wp2_with fail
        refine HSM.out.mono ?_; rintro e w7 ⟨rfl, hb⟩
        rw [decide_eq_true EQ.out]
        have B7 := bx (B6.out.trans (hb.mono B6.out.size))
        clear hb
        go_wp2_with fail
        refine (awake14_any _).mono ?_; rintro e w8 ⟨rfl, hb⟩
        have B8 := bx (B7.out.trans (hb.mono B7.out.size))
        clear hb B7
        go_wp2_with fail
        go_ret
        exact ⟨rfl, B8.out⟩
  · have HA := bx (apply_bad A A1 A2 ns.length (ns.length + 1) c c1 c2 (by omega))
    have HRA := bx (refApply_bad A A1 A2 ns.length (ns.length + 1) c c1 c2 (by omega))
    clear h9 hq1
    go_wp2_with ((with_reducible refine wpList_loadG 25 _ rfl _ [.slice A ns.length c] ?_ ?_ X4.out Try.underlying25 rfl ?_ ?_); rfl; rfl; exact cells_tree _)
    refine (HA.out _).mono ?_; rintro e w5 ⟨rfl, hb⟩
    have X5 := bx (X4.out.below hb X4.out.lt)
    have B5 := bx (B4.out.trans (hb.mono B4.out.size))
    clear hb
    go_wp2_with ((with_reducible refine wpList_loadG 25 _ rfl _ [.slice A ns.length c] ?_ ?_ X5.out Try.underlying25 rfl ?_ ?_); rfl; rfl; exact cells_tree _)
    refine (HRA.out _).mono ?_; rintro e w6 ⟨rfl, hb⟩
    have B6 := bx (B5.out.trans (hb.mono B5.out.size))
    clear hb
    go_wp2_with fail
    refine (same_nil 0 0 _).mono ?_; rintro e w7 ⟨rfl, hb⟩
    have B7 := bx (B6.out.trans (hb.mono B6.out.size))
    clear hb
    go_wp2_with fail
    refine (awake14_any _).mono ?_; rintro e w8 ⟨rfl, hb⟩
    have B8 := bx (B7.out.trans (hb.mono B7.out.size))
    clear hb B7
    go_wp2_with fail
    go_ret
    exact ⟨rfl, B8.out⟩
end Go.Proofs.Ytonkgjengplppaa
