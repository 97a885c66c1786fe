/- WeightsGrow, walked. -/
import Derived.Test.YtonkgjengplppaaWGrowM
import Derived.Test.YtonkgjengplppaaBitsU
namespace Go.Proofs.Ytonkgjengplppaa
open Go.RowKit
theorem and_u65535 (x : Int) (h0 : 0 ≤ x) (h1 : x < 18446744073709551616) : bits .and .u64 x 65535 = x % 65536 := u64_and x 16 (by decide) h0 h1
theorem smB_set {bs : List Int} {i : Nat} {a : Int} (h : Small bs) (hi : i < bs.length) (h0 : 0 ≤ a) (ha : a < 65536) : SmB (bs.set i (bs.getD i 0 + a)) := fun x hx => by
  have hb := h _ (List.getElem_mem hi)
  rcases List.mem_or_eq_of_mem_set hx with hx | rfl
  · have := h x hx; omega
  · rw [getD_at hi]; omega
/-- the balances of a built table, changed -/
theorem Blt.direct2 {w : World} {A : Option Addr} {ns : List Nd} {AL : Option Addr} {vs : List Vt} {AE : Option Addr} {ne : Nat} {G : List Int} {Ab : Option Addr} {bs : List Int} {n : Nat} (h : Blt w A ns AL vs AE ne G Ab bs n) (c0 cl ce cb : Nat) {A' : Option Addr} {bs' : List Int} (hs : SmB bs') (hu : URow w A' n bs') :
    Calls Try.prog 16 #[.agg #[.slice A ns.length c0], .agg #[.slice AL n cl, .slice AE ne ce], .slice A' n cb] w (UP ns.length (dirL ns vs G bs' n) w) :=
  direct_any A AL AE A' ns.length c0 cl ne ce n cb ns vs G bs' h.wf h.gok (by have := h.nen; have := h.n6; omega) hs (by have := h.n6; omega) h.pos (by have := h.n9; omega) w h.nr h.vr h.gr hu
theorem dirL_64 {ns : List Nd} {vs : List Vt} {G bs : List Int} {n : Nat} (hs : SmB bs) (hl : bs.length = n) (h7 : n ≤ 7) : U64 (dirL ns vs G bs n) := fun x hx => by
  have := dirL_bd (ns := ns) (vs := vs) (G := G) hs (m := n) (by omega) h7 x hx
  omega
set_option maxRecDepth 20000 in
set_option maxHeartbeats 1000000 in
theorem weightsGrow_walk (a0 : Option Addr) (n0 c0 : Nat) (l0 : List Int) (a1 : Option Addr) (n1 c1 : Nat) (l1 : List Int) (wh am : Int) (w : World)
    (_ : Fit .i64 l0) (_ : l0.length = n0) (hr0 : Row w w.heap.size 1 a0 n0 (ints .i64 l0)) (hnc0 : n0 ≤ c0) (hcm0 : c0 ≤ maxLen)
    (_ : Fit .i64 l1) (_ : l1.length = n1) (hr1 : Row w w.heap.size 1 a1 n1 (ints .i64 l1)) (hnc1 : n1 ≤ c1) (hcm1 : c1 ≤ maxLen)
    (hwh : (Lit.int .i64 wh).wf = true) (ham : (Lit.int .u64 am).wf = true) :
    Calls Try.prog 6 #[.slice a0 n0 c0, .slice a1 n1 c1, .int .i64 wh, .int .u64 am] w fun e w' => e = .returned (.bool true) ∧ Below w.heap.size w w' := by
  have HB := bx (built_any a0 a1 n0 c0 n1 c1 l0 l1 w hr0 (Nat.le_trans hnc0 hcm0) hr1 (Nat.le_trans hnc1 hcm1))
  obtain ⟨i0, hi0, hz0, hz1, hz2⟩ := info_parts info_u64
  have HI := bx (show Try.prog.info? 35 = some i0 from hi0)
  obtain ⟨ham0, ham1⟩ := u64_of_wf ham
  have h65 := and_65535 wh
  have h65u := and_u65535 am ham0 (by omega)
  clear hr0 hr1 hnc0 hnc1 hcm0 hcm1 hi0 hwh ham
  go_enter Try.func6, Try.ntmps6
  go_wp2_with fail
  refine HB.out.mono ?_; rintro e w1 ⟨⟨A, c, ns, AL, cl, vs, AE, ne, ce, G, Ab, cb, bs, n, rfl, hbl⟩, hb⟩
  clear HB
  have EX := bx (two_below w1 (.cells #[.slice A ns.length c] 25) (.cells #[.slice AL n cl, .slice AE ne ce] 28))
  have BL2 := bx (hbl.below EX.out)
  have X2 := bx (Bxs.new w1 A ns.length c AL n cl AE ne ce)
  have B2 := bx (hb.trans (EX.out.mono hb.size))
  clear hbl hb EX
  go_upto_region 2 with fail
  generalize (w1.alloc (.cells #[.slice A ns.length c] 25)).alloc (.cells #[.slice AL n cl, .slice AE ne ce] 28) = w2 at *
  generalize w1.heap.size = g at *
  have hn6 := BL2.out.n6
  by_cases hn0 : n = 0
  · subst hn0
    go_wp2_with fail
    refine (awake13_any _).mono ?_; rintro e w11 ⟨rfl, hb⟩
    have B11 := bx (B2.out.trans (hb.mono B2.out.size))
    clear hb
    go_wp2_with fail
    go_ret
    exact ⟨rfl, B11.out⟩
  · have HN0 : Bx (0 < n) := ⟨by omega⟩
    obtain ⟨gb, pb, hA, hgb⟩ := BL2.out.ur.2 HN0.out
    subst hA
    have hnz : ((n : Int) == 0) = false := by rw [beq_eq_false_iff_ne]; omega
    have hnz' : ¬ (n : Int) = 0 := by omega
    obtain ⟨m, hm⟩ : ∃ m : Nat, (wh % 65536) % (n : Int) = (m : Int) := ⟨((wh % 65536) % (n : Int)).toNat, by have := Int.emod_nonneg (wh % 65536) (show (n : Int) ≠ 0 by omega); omega⟩
    have hmn : (m : Int) < (n : Int) := by rw [← hm]; exact Int.emod_lt_of_pos _ (by omega)
    have htm : (wh % 65536).tmod (n : Int) = (m : Int) := by rw [Int.tmod_eq_emod_of_nonneg (by omega)]; exact hm
    have hm0 : (0 : Int) ≤ (m : Int) := by omega
    have hml : m < bs.length := by rw [BL2.out.ur.1]; omega
    have HMN : Bx (m < n) := ⟨by omega⟩
    have HL : Bx ((ints .u64 bs).length = n * 1) := ⟨by rw [ints_len, BL2.out.ur.1, Nat.mul_one]⟩
    have ONE := bx (one_ints .u64 bs)
    have HM1 : Bx (0 + n ≤ maxLen) := ⟨by unfold maxLen; omega⟩
    have HM2 : Bx ((0 + n) * 8 ≤ 140737488355328) := ⟨by omega⟩
    have NIL := bx (fun W : World => (apd (World.ownsRow_nil W w2.heap.size 35 1) : Apd W w2.heap.size 35 1 (.slice none 0 0) 0 []))
    have SZ : Bx (w2.heap.size ≤ w2.heap.size) := ⟨Nat.le_refl _⟩
    have NEWS : Bx (∀ j u, (ints .u64 bs)[j]? = some u → w2.cell? ((⟨gb, 0, none⟩ : Addr).add j) = some u) := ⟨fun j u hu => by
      rw [add_at, hgb.cell, Nat.zero_add, List.getElem?_append_left (List.getElem?_eq_some_iff.1 hu).1]; exact hu⟩
    have hbm := (BL2.out.sm _ (List.getElem_mem hml))
    rw [← getD_at hml] at hbm
    have SB' : Bx (SmB (bs.set m (bs.getD m 0 + am % 65536))) := ⟨smB_set BL2.out.sm hml (by omega) (by omega)⟩
    have HML := bx hml
    clear hgb
    go_upto_region 5 with (at_builtin; (with_reducible refine wpList_pushAt rfl (.const (.slice none 0 0)) (.tmp 28) 29 rfl i0 _ 8 Try.underlying29 HI.out hz0 hz1 hz2 ?_ ?_ ?_ (NIL.out _) ⟨gb, 0, none⟩ n cb (ints .u64 bs) ?_ HN0.out HL.out NEWS.out ONE.out HM1.out HM2.out SZ.out ?_); rfl; omega; rfl; rfl; intro v3 w3 hown' _ hbel' _; have HW3 := bx hown'; have HB3 := bx hbel'; clear hown' hbel')
    have HW := HW3.out
    rw [Nat.zero_add, List.nil_append] at HW
    obtain ⟨go, co, po, hv, hgo, hs⟩ := own_block HW HN0.out
    subst hv
    have hc3 := URow.cell hs hml
    have hf3 : w3.frozen? ⟨go, m, none⟩ = false := hs.frozen m
    have G2 := bx (hs.set m (.int .u64 (bs.getD m 0 + am % 65536)))
    rw [set_u _ _ _ _ hml] at G2
    have H4 := bx (HB3.out.grown (grown_setCell w3 go m (.int .u64 (bs.getD m 0 + am % 65536))) HB3.out.size (fun k hk => by cases hk; exact hgo))
    have hsy : (bs.getD m 0 + am % 65536) % 18446744073709551616 = bs.getD m 0 + am % 65536 := by omega
    have SB := bx BL2.out.sm.smB
    have LAW := bx (fun k (hk : k < ns.length) => grow_law (vs := vs) (G := G) BL2.out.wf BL2.out.n9 SB.out SB'.out BL2.out.ur.1 (by have := BL2.out.n6; omega) HMN.out (show 0 ≤ am % 65536 by omega) hk)
    have BL4 := bx (BL2.out.below H4.out)
    have X4 := bx (X2.out.below H4.out)
    have B4 := bx (B2.out.trans (H4.out.mono B2.out.size))
    have UA := bx (dirL_64 (ns := ns) (vs := vs) (G := G) SB.out BL2.out.ur.1 (by have := BL2.out.n6; omega))
    have UB := bx (dirL_64 (ns := ns) (vs := vs) (G := G) SB'.out (show (bs.set m (bs.getD m 0 + am % 65536)).length = n by rw [List.length_set]; exact BL2.out.ur.1) (by have := BL2.out.n6; omega))
    have U4 : Bx (URow (w3.setCell ⟨go, m, none⟩ (.int .u64 (bs.getD m 0 + am % 65536))) (some ⟨go, 0, none⟩) n (bs.set m (bs.getD m 0 + am % 65536))) := ⟨by rw [List.length_set]; exact BL2.out.ur.1, fun _ => ⟨go, po, rfl, G2.out⟩⟩
    have ha0 : 0 ≤ am % 65536 := by omega
    have ha1 : am % 65536 < 65536 := by omega
    clear HW3 HB3 HW H4 G2 hs hgo BL2 X2 B2 hbm HL ONE HM1 HM2 NIL SZ NEWS hm HML
    generalize hbv : bs.set m (bs.getD m 0 + am % 65536) = bs2 at *
    generalize bs.getD m 0 = x at *
    go_upto_region 7 with fail
    generalize w3.setCell ⟨go, m, none⟩ (.int .u64 (x + am % 65536)) = w4 at *
    generalize am % 65536 = y at *
    have BL5 : Bx (Blt w4.drew A ns AL vs AE ne G (some ⟨gb, 0, none⟩) bs n) := ⟨BL4.out.below (Below.refl _ _).drew⟩
    have X5 : Bx (Bxs w4.drew g A ns.length c AL n cl AE ne ce) := ⟨X4.out.below (Below.refl _ _).drew⟩
    have U5 : Bx (URow w4.drew (some ⟨go, 0, none⟩) n bs2) := ⟨U4.out⟩
    have B5 : Bx (Below w.heap.size w w4.drew) := ⟨B4.out.drew⟩
    have CT := bx (Has.cls X5.out.t)
    have CV := bx (Has.cls X5.out.v)
    have SL1 := bx (subL_len (Go.Proofs.Ytonkgjengplppaa.ups ns) ns.length (dirL ns vs G bs n))
    have SL2 := bx (subL_len (Go.Proofs.Ytonkgjengplppaa.ups ns) ns.length (dirL ns vs G bs2 n))
    have S641 := bx (subL_64 (Go.Proofs.Ytonkgjengplppaa.ups ns) ns.length (dirL ns vs G bs n))
    have S642 := bx (subL_64 (Go.Proofs.Ytonkgjengplppaa.ups ns) ns.length (dirL ns vs G bs2 n))
    clear BL4 X4 U4 B4 hc3 hf3 hbv
    go_wp2_with fail
    refine wp_region_mix3 12 (.steps [(0, 0), (0, 1), (0, 2), (0, 3), (0, 6), (0, 7), (0, 8), (0, 9), (2, 4), (2, 5), (2, 10), (2, 11)] .leaf) (by kernel_rfl) (by kernel_rfl) ?_
    simp only [MixT, MT.steps, stepAt, List.getD_cons_zero, List.getD_cons_succ, List.drop_succ_cons, List.drop_zero]
    generalize w4.drew = w5 at *
    repeat (first | (with_reducible refine wpQuiet_nil ?_) | (first | go_big_quiet_skip | (go_big_quiet_want; first | (first | ((with_reducible refine quiet_loadC 25 _ rfl _ [.slice A ns.length c] ?_ CT.out Try.underlying25 rfl ?_ ?_); rfl; exact cells_tree _; go_big_quiet_on; (simp only [Act.put, List.setIfInBounds_toArray, List.set_cons_succ, List.set_cons_zero])) | ((with_reducible refine quiet_loadC 28 _ rfl _ [.slice AL n cl, .slice AE ne ce] ?_ CV.out Try.underlying28 rfl ?_ ?_); rfl; exact cells_votes _ _; go_big_quiet_on; (simp only [Act.put, List.setIfInBounds_toArray, List.set_cons_succ, List.set_cons_zero]))) | (go_big_quiet_op; first | go_big_quiet_on | ((with_reducible refine ⟨_, fun _ _ => rfl, ?_⟩); go_big_quiet_on)))))
    refine mix_call (BL5.out.direct c cl ce cb) Try.func16 rfl rfl _ _ rfl rfl rfl ?_
    rintro e w6 ⟨A6, c6, rfl, _, hu, hb⟩
    refine ⟨_, rfl, hb, ?_⟩
    have BL6 := bx (BL5.out.below hb)
    have X6 := bx (X5.out.below hb)
    have U6 := bx (U5.out.below hb)
    have D6 := bx hu
    have B6 := bx (B5.out.trans (hb.mono B5.out.size))
    clear hb hu BL5 X5 U5 B5 CT CV
    refine mix_call (BL6.out.sub c c6 UA.out D6.out) Try.func19 rfl rfl _ _ rfl rfl rfl ?_
    rintro e w7 ⟨A7, c7, rfl, _, hu, hb⟩
    refine ⟨_, rfl, hb, ?_⟩
    have BL7 := bx (BL6.out.below hb)
    have X7 := bx (X6.out.below hb)
    have U7 := bx (U6.out.below hb)
    have S7 := bx hu
    have B7 := bx (B6.out.trans (hb.mono B6.out.size))
    clear hb hu BL6 X6 U6 B6 D6
    refine mix_call (BL7.out.direct2 c cl ce co SB'.out U7.out) Try.func16 rfl rfl _ _ rfl rfl rfl ?_
    rintro e w8 ⟨A8, c8, rfl, _, hu, hb⟩
    refine ⟨_, rfl, hb, ?_⟩
    have BL8 := bx (BL7.out.below hb)
    have X8 := bx (X7.out.below hb)
    have S8 := bx (S7.out.below hb)
    have D8 := bx hu
    have B8 := bx (B7.out.trans (hb.mono B7.out.size))
    clear hb hu BL7 X7 U7 B7 S7
    refine mix_call (BL8.out.sub c c8 UB.out D8.out) Try.func19 rfl rfl _ _ rfl rfl rfl ?_
    rintro e w9 ⟨A9, c9, rfl, _, hu, hb⟩
    refine ⟨_, rfl, hb, ?_⟩
    have X9 := bx (X8.out.below hb)
    have S9 := bx (S8.out.below hb)
    have T9 := bx hu
    have B9 := bx (B8.out.trans (hb.mono B8.out.size))
    have M0 := bx BL8.out.pos
    have M9 := bx BL8.out.n9
    clear hb hu BL8 X8 S8 B8 D8 UA UB SB SB'
    generalize subL (Go.Proofs.Ytonkgjengplppaa.ups ns) ns.length (dirL ns vs G bs n) = R1 at *
    generalize subL (Go.Proofs.Ytonkgjengplppaa.ups ns) ns.length (dirL ns vs G bs2 n) = R2 at *
    simp only [Act.put, List.setIfInBounds_toArray, List.set_cons_succ, List.set_cons_zero]
    have hc9 : w9.cell? ⟨g, 0, none⟩ = some (.slice A ns.length c) := X9.out.t.cell 0
    go_wp2_with fail
    refine NoPanic.normal ?_
    go_wp2_with fail
    have hn9 := M9.out
    go_loopw [16] (fun i wr => ∃ k : Nat, k ≤ ns.length ∧ i = .int .i64 k ∧ Below w9.heap.size w9 wr) (fun i _ => ns.length - (intOf i).toNat)
    case atStart => exact ⟨0, Nat.zero_le _, rfl, Below.refl _ _⟩
    case round =>
      obtain ⟨k, hk, rfl, hbel⟩ := hrel
      have BR := bx hbel
      clear hbel
      by_cases hkn : k < ns.length
      · have hki : (k : Int) < (ns.length : Int) := by omega
        have hk0 : (0 : Int) ≤ (k : Int) := by omega
        have HKN := bx hkn
        obtain ⟨g7, p7, rfl, hg7⟩ := (S9.out.below BR.out).2 M0.out
        obtain ⟨g8, p8, rfl, hg8⟩ := (T9.out.below BR.out).2 M0.out
        have hc7 := URow.cell hg7 (k := k) (by rw [SL1.out]; exact hkn)
        have hc8 := URow.cell hg8 (k := k) (by rw [SL2.out]; exact hkn)
        obtain ⟨hl1, hl2⟩ := LAW.out k hkn
        have hx1 := S641.out.at (k := k) (by rw [SL1.out]; exact hkn)
        have hx2 := S642.out.at (k := k) (by rw [SL2.out]; exact hkn)
        clear hg7 hg8
        generalize R1.getD k 0 = x1 at *
        generalize R2.getD k 0 = x2 at *
        have hnl : ¬ x2 < x1 := by omega
        have hsub : (x2 - x1) % 18446744073709551616 = x2 - x1 := by omega
        have hwr : IntKind.u64.wrap (x2 - x1) = x2 - x1 := by simp [IntKind.wrap, IntKind.bits, IntKind.signed]; omega
        have hny : ¬ y < x2 - x1 := by omega
        go_wp2_with fail
        go_quiet (fail)
        go_wp2_with fail
        go_roundw
        case rel => exact ⟨k + 1, HKN.out, by go_num, below_dN BR.out _⟩
        case measure => simp [intOf]; omega
      · obtain rfl : k = ns.length := by omega
        go_wp2_with fail
        refine (awake13_any _).mono ?_; rintro e w11 ⟨rfl, hb⟩
        have B11 := bx ((B9.out.trans (BR.out.mono B9.out.size)).trans (hb.mono (Nat.le_trans B9.out.size BR.out.size)))
        clear hb
        go_wp2_with fail
        go_ret
        exact ⟨rfl, B11.out⟩
end Go.Proofs.Ytonkgjengplppaa
