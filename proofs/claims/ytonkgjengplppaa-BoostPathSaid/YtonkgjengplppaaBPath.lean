/- BoostPath, walked. -/
import Derived.Test.YtonkgjengplppaaBDir
import Derived.Test.YtonkgjengplppaaDOne
namespace Go.Proofs.Ytonkgjengplppaa
open Go.RowKit
theorem own_set {us : List Int} {k u : Nat} {d : List Int} {i : Nat} {v : Int} (hi : i < d.length) : ∀ n, own us k (nat0 (d.set i v)) u n = own us k (nat0 d) u n + if i < n ∧ hat us k i i = u then v - nat0 d i else 0
  | 0 => by simp [own]
  | n + 1 => by
    rw [own, own, own_set hi n]
    by_cases h1 : n = i
    · subst h1
      have e : nat0 (d.set n v) n = v := by unfold nat0; exact getS_eq hi
      rw [e]
      have h0 : ¬ (n < n ∧ hat us k n n = u) := fun h => Nat.lt_irrefl _ h.1
      by_cases h2 : hat us k n n = u
      · have h3 : n < n + 1 ∧ hat us k n n = u := ⟨Nat.lt_succ_self _, h2⟩
        simp only [if_pos h2, if_pos h3, if_neg h0]; omega
      · have h3 : ¬ (n < n + 1 ∧ hat us k n n = u) := fun h => h2 h.2
        simp only [if_neg h2, if_neg h3, if_neg h0]
    · have e : nat0 (d.set i v) n = nat0 d n := by unfold nat0; exact getS_far (by omega)
      rw [e]
      by_cases h3 : i < n ∧ hat us k i i = u
      · have h4 : i < n + 1 ∧ hat us k i i = u := ⟨by omega, h3.2⟩
        simp only [if_pos h3, if_pos h4]; split <;> omega
      · have h4 : ¬ (i < n + 1 ∧ hat us k i i = u) := fun h => h3 ⟨by omega, h.2⟩
        simp only [if_neg h3, if_neg h4]; split <;> omega
/-- a boost raises the ancestors -/
theorem path_law {us : List Int} (h : Lk us) {n : Nat} (hn : n = us.length) (h9 : n ≤ 9) {xs : List Int} (hx : Small xs) (hl : xs.length = n) {a : Int} (ha : 0 ≤ a) (ha2 : a ≤ 4611686018427387904) {i : Nat} (hi : i < n) :
    ∀ k, k < n → (subL us n (xs.set i ((xs.getD i 0 + a) % 18446744073709551616))).getD k 0 = (if isAnc us k i = true then (subL us n xs).getD k 0 + a else (subL us n xs).getD k 0) ∧ 0 ≤ (subL us n xs).getD k 0 ∧ (subL us n xs).getD k 0 + a < 18446744073709551616 := fun k hk => by
  have hxi := hx.u64.at (k := i) (by rw [hl]; exact hi)
  have hxb := nat0_bd (b := 72057594037927936) (by decide) hx i
  have e : (xs.getD i 0 + a) % 18446744073709551616 = xs.getD i 0 + a := by unfold nat0 at hxb; omega
  have t1 := tot_bd (us := us) (b := 72057594037927936) (by decide) hx k n
  have n9 : (n : Int) * 72057594037927936 ≤ 9 * 72057594037927936 := Int.mul_le_mul_of_nonneg_right (by omega) (by decide)
  have st := own_set (us := us) (k := k + 1) (u := k) (d := xs) (i := i) (v := xs.getD i 0 + a) (by rw [hl]; exact hi) n
  have hanc := isAnc_eq h (a := k) (b := i) (by omega)
  unfold anc at hanc
  rw [e, subL_at hk, subL_at hk]
  unfold tot at t1 ⊢
  rw [st, hanc, Int.emod_eq_of_lt t1.1 (by omega)]
  unfold nat0
  unfold nat0 at t1
  by_cases hh : hat us (k + 1) i i = k
  · rw [if_pos ⟨hi, hh⟩, decide_eq_true hh, if_pos rfl, Int.emod_eq_of_lt (by omega) (by omega)]
    refine ⟨by omega, t1.1, by omega⟩
  · rw [if_neg (fun h => hh h.2), decide_eq_false hh, if_neg (by decide), Int.emod_eq_of_lt (by omega) (by omega)]
    refine ⟨by omega, t1.1, by omega⟩
set_option maxRecDepth 20000 in
set_option maxHeartbeats 2000000 in
theorem boostPath_walk (a0 : Option Addr) (n0 c0 : Nat) (l0 : List Int) (a1 : Option Addr) (n1 c1 : Nat) (l1 : List Int) (wh am : Int) (w : World)
    (_ : Fit .i64 l0) (_ : l0.length = n0) (hr0 : Row w w.heap.size 1 a0 n0 (ints .i64 l0)) (hnc0 : n0 ≤ c0) (hcm0 : c0 ≤ maxLen)
    (_ : Fit .i64 l1) (_ : l1.length = n1) (hr1 : Row w w.heap.size 1 a1 n1 (ints .i64 l1)) (hnc1 : n1 ≤ c1) (hcm1 : c1 ≤ maxLen)
    (hwh : (Lit.int .i64 wh).wf = true) (ham : (Lit.int .u64 am).wf = true) :
    Calls Try.prog 14 #[.slice a0 n0 c0, .slice a1 n1 c1, .int .i64 wh, .int .u64 am] w fun e w' => e = .returned (.bool true) ∧ Below w.heap.size w w' := by
  have HT := bx (tree_any a0 n0 c0 l0 w hr0 (Nat.le_trans hnc0 hcm0))
  have HN1 := bx (fun (n : Nat) (hn : n ≤ 65535) w' (hb : Below w.heap.size w w') => numbers_any w.heap.size a1 n1 c1 l1 n hn w' (hr1.below hb) (Nat.le_trans hnc1 hcm1) hb.size)
  clear hr0 hr1 hnc0 hnc1 hcm0 hcm1
  obtain ⟨ham0, ham1⟩ := u64_of_wf ham
  have h65 := and_65535 wh
  clear hwh ham
  go_enter Try.func14, Try.ntmps14
  go_wp2_with fail
  refine HT.out.mono ?_; rintro e w1 ⟨⟨A, c, ns, h0, h9, wf, rfl, hnr⟩, hb⟩
  have B1 := bx hb
  have NR := bx hnr
  have WF := bx wf
  have HN0 := bx h0
  have HN9 := bx h9
  clear hb hnr wf h0 h9
  go_wp2_with fail
  have EX := bx (ext_alloc w1 (.cells #[.slice A ns.length c] 25))
  have X2 : Bx (Has (w1.alloc (.cells #[.slice A ns.length c] 25)) w1.heap.size [.slice A ns.length c]) := ⟨Has.new w1 _ _⟩
  have N2 := bx (NR.out.below EX.out)
  have B2 := bx (B1.out.trans (EX.out.mono B1.out.size))
  clear EX NR B1
  generalize w1.alloc (.cells #[.slice A ns.length c] 25) = w2 at *
  refine (HN1.out ns.length (by have := HN9.out; omega) _ B2.out).mono ?_
  rintro e w3 ⟨A1, c1, xs, hxl, hxs, rfl, hxo, hb⟩
  have X3 := bx (X2.out.below hb X2.out.lt)
  have N3 := bx (N2.out.below hb)
  have B3 := bx (B2.out.trans (hb.mono B2.out.size))
  have U1 := bx (URow.own hxl hxo)
  have S1 := bx hxs
  clear hb X2 N2 B2 hxl hxo hxs
  have hc3 : w3.cell? ⟨w1.heap.size, 0, none⟩ = some (.slice A ns.length c) := X3.out.cell 0
  have hn9 := HN9.out
  have hn0 := HN0.out
  have hw16 : 0 ≤ wh % 65536 := by omega
  obtain ⟨m, hm⟩ : ∃ m : Nat, (wh % 65536) % (ns.length : Int) = (m : Int) := ⟨((wh % 65536) % (ns.length : Int)).toNat, by have := Int.emod_nonneg (wh % 65536) (show (ns.length : Int) ≠ 0 by omega); omega⟩
  have hmn : (m : Int) < (ns.length : Int) := by rw [← hm]; exact Int.emod_lt_of_pos _ (by omega)
  have hm0 : (0 : Int) ≤ (m : Int) := by omega
  have hml : m < ns.length := by omega
  have hnz : ((ns.length : Int) == 0) = false := by rw [beq_eq_false_iff_ne]; omega
  have AB : Bx (0 ≤ am % 4611686018427387905 ∧ am % 4611686018427387905 ≤ 4611686018427387904) := ⟨by omega⟩
  go_wp2_with fail
  generalize am % 4611686018427387905 = a at *
  rw [hm]
  have LK := bx WF.out.lk
  have UL : Bx (ns.length = (Go.Proofs.Ytonkgjengplppaa.ups ns).length) := ⟨ups_len.symm⟩
  have hn4 : ns.length ≤ 4096 := by omega
  have HRM := bx ((N3.out.2.1 _ (List.getElem_mem hml)).root)
  have RNZ := bx (WF.out.nz _ (List.getElem_mem hml))
  have FKM : Bx (FK ns ns[m].b.root m) := ⟨.inr ⟨m, hml, rfl, rfl, fun j hj e => by have := WF.out.diff j m (Nat.lt_trans hj hml) hml e; omega⟩⟩
  have SLX := bx (subR_eq LK.out UL.out HN0.out S1.out.u64 U1.out.1)
  have ST := bx (fun w' zs A1 c1 (hz : U64 zs) (h0 : NRow w' A ns.length ns) (h1 : URow w' A1 ns.length zs) => subtree_any A A1 ns.length c c1 ns zs hz LK.out hn4 HN0.out w' h0 h1)
  have BD := bx (fun w' (h0 : NRow w' A ns.length ns) (h1 : URow w' A1 ns.length xs) => boostDirect_any A A1 ns.length c c1 ns xs S1.out.u64 hn4 HN0.out ns[m].b.root HRM.out a AB.out.1 w' h0 h1)
  have PLW := bx (path_law LK.out UL.out HN9.out S1.out U1.out.1 AB.out.1 AB.out.2 hml)
  have SAT := bx (stAt_eq hml)
  have VYES := bx (fun h => boostV_yes (ns := ns) (ds := xs) (a := a) (i := m) RNZ.out h)
  have VINV := bx (fun h => boostV_inv (ns := ns) (ds := xs) (r := ns[m].b.root) (a := a) (i := m) h)
  have IA := bx (fun k w' (h0 : NRow w' A ns.length ns) => isAnc_any LK.out A ns.length c hn4 k m hml w' h0)
  have XL := bx (subL_len (Go.Proofs.Ytonkgjengplppaa.ups ns) ns.length xs)
  have HML := bx hml
  obtain ⟨g0, p0, hA0, hg0⟩ := N3.out.2.2 hn0
  have CR := bx (fun w6 (h6 : Cls w3.drew.heap.size w3.drew w6) => (hg0.drew.below h6.out hg0.lt).nodeRoot N3.out.2.1 m hml)
  have CN := bx (fun w6 (h6 : Cls w3.drew.heap.size w3.drew w6) => run_nodes1 ((X3.out.drew.below h6.out X3.out.lt).cell 0))
  have X3d : Bx (Has w3.drew w1.heap.size [.slice A ns.length c]) := ⟨X3.out⟩
  have CT := bx (Has.cls X3d.out)
  have N3d : Bx (NRow w3.drew A ns.length ns) := ⟨N3.out⟩
  have U3d : Bx (URow w3.drew A1 ns.length xs) := ⟨U1.out⟩
  have B3d : Bx (Below w.heap.size w w3.drew) := ⟨B3.out.drew⟩
  clear hg0 hc3 X3 N3 U1 B3 hm
  generalize ns[m].b.root = rm at *
  refine wp_region_mix3 16 (.steps [(0, 0), (0, 1), (0, 3), (0, 4), (0, 5), (0, 6), (0, 7), (0, 8), (0, 9), (0, 10), (0, 11), (0, 12), (0, 13), (2, 2), (2, 14), (2, 15)] .leaf) (by kernel_rfl) (by kernel_rfl) ?_
  simp only [MixT, MT.steps, stepAt, List.getD_cons_zero, List.getD_cons_succ, List.drop_succ_cons, List.drop_zero]
  generalize w3.drew = w3d at *
  subst hA0
  repeat (first | (with_reducible refine wpQuiet_nil ?_) | (first | go_big_quiet_skip | (go_big_quiet_want; first | (first | ((with_reducible refine quiet_loadC 25 _ rfl _ [.slice (some ⟨g0, 0, none⟩) ns.length c] ?_ CT.out Try.underlying25 rfl ?_ ?_); rfl; exact cells_tree _; go_big_quiet_on; (simp only [Act.put, List.setIfInBounds_toArray, List.set_cons_succ, List.set_cons_zero])) | ((with_reducible refine quiet_cell 23 _ rfl _ _ ?_ CN.out ?_); rfl; go_big_quiet_on; (simp only [Act.put, List.setIfInBounds_toArray, List.set_cons_succ, List.set_cons_zero])) | ((with_reducible refine quiet_loadRng 41 _ rfl g0 (m * 240 + 67) (ints .u8 rm) ?_ CR.out Try.underlying41 ?_ ?_ ?_); rfl; rfl; exact cells_root HRM.out; go_big_quiet_on; (simp only [Act.put, List.setIfInBounds_toArray, List.set_cons_succ, List.set_cons_zero]))) | (go_big_quiet_op; first | go_big_quiet_on | ((with_reducible refine ⟨_, fun _ _ => rfl, ?_⟩); go_big_quiet_on)))))
  refine mix_call (ST.out _ _ _ c1 S1.out.u64 N3d.out U3d.out) Try.func19 rfl rfl _ _ rfl rfl rfl ?_
  rintro e w5 ⟨A5, c5, rfl, _, hu, hb⟩
  refine ⟨_, rfl, hb, ?_⟩
  rw [SLX.out] at hu
  have Z5 := bx hu
  have X5 := bx (X3d.out.below hb X3d.out.lt)
  have N5 := bx (N3d.out.below hb)
  have U5 := bx (U3d.out.below hb)
  have B5 := bx (B3d.out.trans (hb.mono B3d.out.size))
  clear hb hu CT CN CR X3d N3d U3d B3d
  refine mix_call (BD.out _ N5.out U5.out) Try.func40 rfl rfl _ _ rfl rfl rfl ?_
  rintro e w6 ⟨kk, hkk, A6, c6, rfl, h64, hu, hb⟩
  refine ⟨_, rfl, hb, ?_⟩
  obtain rfl := FKM.out.one hkk
  have V6 := bx hu
  have D64 := bx h64
  have Z6 := bx (Z5.out.below hb)
  have X6 := bx (X5.out.below hb X5.out.lt)
  have N6 := bx (N5.out.below hb)
  have B6 := bx (B5.out.trans (hb.mono B5.out.size))
  have SLY := bx (subR_eq LK.out UL.out HN0.out D64.out V6.out.1)
  have YL := bx (subL_len (Go.Proofs.Ytonkgjengplppaa.ups ns) ns.length (boostV ns xs rm a m))
  clear hb hu h64 Z5 X5 N5 U5 B5 BD hkk
  refine mix_call (ST.out _ _ _ c6 D64.out N6.out V6.out) Try.func19 rfl rfl _ _ rfl rfl rfl ?_
  rintro e w7 ⟨A7, c7, rfl, _, hu, hb⟩
  refine ⟨_, rfl, hb, ?_⟩
  rw [SLY.out] at hu
  have Y7 := bx hu
  have Z7 := bx (Z6.out.below hb)
  have X7 := bx (X6.out.below hb X6.out.lt)
  have N7 := bx (N6.out.below hb)
  have B7 := bx (B6.out.trans (hb.mono B6.out.size))
  have hc7 : w7.cell? ⟨w1.heap.size, 0, none⟩ = some (.slice (some ⟨g0, 0, none⟩) ns.length c) := X7.out.cell 0
  have hne : ((ns.length : Int) != (ns.length : Int)) = false := by simp
  clear hb hu Z6 X6 N6 B6 V6 ST SLY D64
  simp only [Act.put, List.setIfInBounds_toArray, List.set_cons_succ, List.set_cons_zero]
  go_wp2_with fail
  refine NoPanic.normal ?_
  go_wp2_with fail
  go_loopw [14] (fun i wr => ∃ k : Nat, k ≤ ns.length ∧ i = .int .i64 k ∧ Below w7.heap.size w7 wr) (fun i _ => ns.length - (intOf i).toNat)
  case atStart => exact ⟨0, Nat.zero_le _, rfl, Below.refl _ _⟩
  case round =>
    obtain ⟨k, hk, rfl, hbel⟩ := hrel
    have BR := bx hbel
    have ZR := bx (Z7.out.below BR.out)
    have YR := bx (Y7.out.below BR.out)
    have XR := bx (X7.out.below BR.out X7.out.lt)
    have NR := bx (N7.out.below BR.out)
    clear hbel
    by_cases hkn : k < ns.length
    · have hki : (k : Int) < (ns.length : Int) := by omega
      have hk0 : (0 : Int) ≤ (k : Int) := by omega
      obtain ⟨gx, px, rfl, hgx⟩ := ZR.out.2 hn0
      obtain ⟨gy, py, rfl, hgy⟩ := YR.out.2 hn0
      have hcx := URow.cell hgx (k := k) (by rw [XL.out]; exact hkn)
      have hcy0 := fun w' (h : Below wr.heap.size wr w') => URow.cell (hgy.below h hgy.lt) (k := k) (by rw [YL.out]; exact hkn)
      have hcb : wr.cell? ⟨w1.heap.size, 0, none⟩ = some (.slice (some ⟨g0, 0, none⟩) ns.length c) := XR.out.cell 0
      obtain ⟨g0', p0', hA0, hg0⟩ := NR.out.2.2 hn0
      injection hA0 with hA0
      injection hA0 with hA0
      subst hA0
      have hcs := hg0.nodeCell NR.out.2.1 m hml 239 _ (nc_st (NR.out.2.1 _ (List.getElem_mem hml)))
      rw [← SAT.out] at hcs
      have PK := bx (PLW.out k hkn)
      have HKN := bx hkn
      have IAK := bx (IA.out k _ NR.out)
      clear hgx hgy hg0
      have PKO := PK.out
      generalize hxe : (subL (Go.Proofs.Ytonkgjengplppaa.ups ns) ns.length xs).getD k 0 = x at *
      have HXE := bx hxe
      clear hxe PK
      by_cases hst : stAt ns m = 2
      · have hcy := hcy0 wr (Below.refl _ _)
        rw [VINV.out hst, HXE.out] at hcy
        rw [hst] at hcs
        clear hcy0 PKO
        go_wp2_with fail
        go_roundw
        case rel => exact ⟨k + 1, HKN.out, by go_num, BR.out⟩
        case measure => simp [intOf]; omega
      · have hne2 : (stAt ns m != 2) = true := by rw [bne_iff_ne]; exact hst
        have VY := bx (VYES.out hst)
        have PKX := bx PKO
        clear hst PKO
        generalize stAt ns m = st at *
        go_wp2_with ((with_reducible refine wpList_loadG 25 _ rfl _ [.slice (some ⟨g0, 0, none⟩) ns.length c] ?_ ?_ XR.out Try.underlying25 rfl ?_ ?_); rfl; rfl; exact cells_tree _)
        refine IAK.out.mono ?_; rintro e w8 ⟨rfl, hb⟩
        have hcy := hcy0 w8 hb
        have PKO := PKX.out
        rw [VY.out, PKO.1] at hcy
        have B8 := bx (BR.out.trans (hb.mono BR.out.size))
        obtain ⟨_, hx0, hxa⟩ := PKO
        clear hcy0 hb PKX
        have ha0 := AB.out.1
        cases hanc : isAnc (Go.Proofs.Ytonkgjengplppaa.ups ns) k m with
        | true =>
          rw [hanc, if_pos rfl] at hcy
          go_wp2_with fail
          go_roundw
          case rel => exact ⟨k + 1, HKN.out, by go_num, B8.out⟩
          case measure => simp [intOf]; omega
        | false =>
          rw [hanc, if_neg (by decide)] at hcy
          go_wp2_with fail
          go_roundw
          case rel => exact ⟨k + 1, HKN.out, by go_num, B8.out⟩
          case measure => simp [intOf]; omega
    · obtain rfl : k = ns.length := by omega
      have B9 := bx (B7.out.trans (BR.out.mono B7.out.size))
      go_wp2_with fail
      refine (boost_awake _).mono ?_; rintro e w11 ⟨rfl, hb⟩
      have B11 := bx (B9.out.trans (hb.mono B9.out.size))
      clear hb
      go_wp2_with fail
      go_ret
      exact ⟨rfl, B11.out⟩
end Go.Proofs.Ytonkgjengplppaa
