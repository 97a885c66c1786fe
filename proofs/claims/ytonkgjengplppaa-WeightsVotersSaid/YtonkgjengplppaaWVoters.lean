/- WeightsVoters, walked. -/
import Derived.Test.YtonkgjengplppaaWGrow
namespace Go.Proofs.Ytonkgjengplppaa
open Go.RowKit
theorem run_votes1 {w : World} {p : Addr} {v : Value} (hc : w.cell? p = some v) : (Instr.loadAt 26 (.pointer (some p))).run Try.prog w = .ok v w := by
  simp [Instr.loadAt, Instr.sureAddr, loadVar, isAgg, run_underlying Try.underlying26, run_load, hc]
theorem smB_set0 {bs : List Int} {i : Nat} (h : Small bs) : SmB (bs.set i 0) := fun x hx => by
  rcases List.mem_or_eq_of_mem_set hx with hx | rfl
  · have := h x hx; omega
  · omega
section
variable {ns : List Nd} {vs : List Vt} {G bs : List Int} {i n : Nat}
theorem eD_neg (b : Int) (j : Nat) : eD ns vs G i (0 - b) j = - eD ns vs G i b j := by
  unfold eD
  split
  · rfl
  · split <;> omega
/-- without the balance of one validator -/
theorem without_law (hi : i < bs.length) (hin : i < n) {j : Nat} (hj : j < ns.length) :
    (dirL ns vs G bs n).getD j 0 = (dirL ns vs G (bs.set i 0) n).getD j 0 + eD ns vs G i (bs.getD i 0) j := by
  have := dirL_set (ns := ns) (vs := vs) (G := G) (bs := bs) (v := 0) (m := n) (j := j) hi hin hj
  rw [eD_neg] at this
  unfold nat0 at this
  omega
/-- a vote that counts for no node -/
theorem eD_no (b : Int) (h : ∀ j (hj : j < ns.length), ns[j].st = 2 ∨ cnt vs G ns[j].b.root i = false) {j : Nat} (hj : j < ns.length) : eD ns vs G i b j = 0 := by
  rw [eD_at hj]
  rcases h j hj with h | h
  · rw [if_pos h]
  · rw [h]; simp
theorem voteA (h : (vs.getD i zv).1 = false) : ∀ j (hj : j < ns.length), ns[j].st = 2 ∨ cnt vs G ns[j].b.root i = false := fun j _ => .inr (cnt_has h _)
theorem voteB (h : (i : Int) ∈ G) : ∀ j (hj : j < ns.length), ns[j].st = 2 ∨ cnt vs G ns[j].b.root i = false := fun j _ => .inr (cnt_guilty h _)
theorem voteC (h1 : (vs.getD i zv).1 = true) (h2 : (i : Int) ∉ G) (h : ∀ x ∈ ns, x.b.root ≠ (vs.getD i zv).2.2) : ∀ j (hj : j < ns.length), ns[j].st = 2 ∨ cnt vs G ns[j].b.root i = false := fun j hj => .inr (by
  rw [cnt_yes h1 h2]; exact decide_eq_false (fun e => h _ (List.getElem_mem hj) e.symm))
theorem voteD (wf : Wf ns) (h1 : (vs.getD i zv).1 = true) (h2 : (i : Int) ∉ G) {k : Nat} (hk : k < ns.length) (hr : ns[k].b.root = (vs.getD i zv).2.2) (hs : ns[k].st = 2) : ∀ j (hj : j < ns.length), ns[j].st = 2 ∨ cnt vs G ns[j].b.root i = false := fun j hj => by
  by_cases e : j = k
  · subst e; exact .inl hs
  · right
    rw [cnt_yes h1 h2]
    exact decide_eq_false (fun e2 => e (wf.diff j k hj hk (e2.symm.trans hr.symm)))
theorem voteE (wf : Wf ns) (h1 : (vs.getD i zv).1 = true) (h2 : (i : Int) ∉ G) {k : Nat} (hk : k < ns.length) (hr : ns[k].b.root = (vs.getD i zv).2.2) (hs : ns[k].st ≠ 2) (b : Int) {j : Nat} (hj : j < ns.length) : eD ns vs G i b j = if j = k then b else 0 := by
  rw [eD_at hj, cnt_yes h1 h2]
  by_cases e : j = k
  · subst e; rw [if_neg hs, decide_eq_true hr.symm, if_pos rfl, if_pos rfl]
  · rw [if_neg e, decide_eq_false (fun e2 => e (wf.diff j k hj hk (e2.symm.trans hr.symm)))]; simp
end
set_option maxRecDepth 20000 in
set_option maxHeartbeats 1000000 in
theorem weightsVoters_walk (a0 : Option Addr) (n0 c0 : Nat) (l0 : List Int) (a1 : Option Addr) (n1 c1 : Nat) (l1 : List Int) (wh : Int) (w : World)
    (_ : Fit .i64 l0) (_ : l0.length = n0) (hr0 : Row w w.heap.size 1 a0 n0 (ints .i64 l0)) (hnc0 : n0 ≤ c0) (hcm0 : c0 ≤ maxLen)
    (_ : Fit .i64 l1) (_ : l1.length = n1) (hr1 : Row w w.heap.size 1 a1 n1 (ints .i64 l1)) (hnc1 : n1 ≤ c1) (hcm1 : c1 ≤ maxLen)
    (hwh : (Lit.int .i64 wh).wf = true) :
    Calls Try.prog 5 #[.slice a0 n0 c0, .slice a1 n1 c1, .int .i64 wh] w fun e w' => e = .returned (.bool true) ∧ Below w.heap.size w w' := by
  have HB := bx (built_any a0 a1 n0 c0 n1 c1 l0 l1 w hr0 (Nat.le_trans hnc0 hcm0) hr1 (Nat.le_trans hnc1 hcm1))
  obtain ⟨i0, hi0, hz0, hz1, hz2⟩ := info_parts info_u64
  have HI := bx (show Try.prog.info? 35 = some i0 from hi0)
  have h65 := and_65535 wh
  clear hr0 hr1 hnc0 hnc1 hcm0 hcm1 hi0 hwh
  go_enter Try.func5, Try.ntmps5
  go_wp2_with fail
  refine HB.out.mono ?_; rintro e w1 ⟨⟨A, c, ns, AL, cl, vs, AE, ne, ce, G, Ab, cb, bs, n, rfl, hbl⟩, hb⟩
  clear HB
  have EX := bx (two_below w1 (.cells #[.slice A ns.length c] 25) (.cells #[.slice AL n cl, .slice AE ne ce] 28))
  have BL2 := bx (hbl.below EX.out)
  have X2 := bx (Bxs.new w1 A ns.length c AL n cl AE ne ce)
  have B2 := bx (hb.trans (EX.out.mono hb.size))
  clear hbl hb EX
  go_upto_region 2 with fail
  generalize (w1.alloc (.cells #[.slice A ns.length c] 25)).alloc (.cells #[.slice AL n cl, .slice AE ne ce] 28) = w2 at *
  generalize w1.heap.size = g at *
  have hn6 := BL2.out.n6
  by_cases hn0 : n = 0
  · subst hn0
    go_wp2_with fail
    refine (awake13_any _).mono ?_; rintro e w11 ⟨rfl, hb⟩
    have B11 := bx (B2.out.trans (hb.mono B2.out.size))
    clear hb
    go_wp2_with fail
    go_ret
    exact ⟨rfl, B11.out⟩
  · have HN0 : Bx (0 < n) := ⟨by omega⟩
    obtain ⟨gb, pb, hA, hgb⟩ := BL2.out.ur.2 HN0.out
    subst hA
    have hnz : ((n : Int) == 0) = false := by rw [beq_eq_false_iff_ne]; omega
    have hnz' : ¬ (n : Int) = 0 := by omega
    obtain ⟨m, hm⟩ : ∃ m : Nat, (wh % 65536) % (n : Int) = (m : Int) := ⟨((wh % 65536) % (n : Int)).toNat, by have := Int.emod_nonneg (wh % 65536) (show (n : Int) ≠ 0 by omega); omega⟩
    have hmn : (m : Int) < (n : Int) := by rw [← hm]; exact Int.emod_lt_of_pos _ (by omega)
    have htm : (wh % 65536).tmod (n : Int) = (m : Int) := by rw [Int.tmod_eq_emod_of_nonneg (by omega)]; exact hm
    have hm0 : (0 : Int) ≤ (m : Int) := by omega
    have hml : m < bs.length := by rw [BL2.out.ur.1]; omega
    have HMN : Bx (m < n) := ⟨by omega⟩
    have HL : Bx ((ints .u64 bs).length = n * 1) := ⟨by rw [ints_len, BL2.out.ur.1, Nat.mul_one]⟩
    have ONE := bx (one_ints .u64 bs)
    have HM1 : Bx (0 + n ≤ maxLen) := ⟨by unfold maxLen; omega⟩
    have HM2 : Bx ((0 + n) * 8 ≤ 140737488355328) := ⟨by omega⟩
    have NIL := bx (fun W : World => (apd (World.ownsRow_nil W w2.heap.size 35 1) : Apd W w2.heap.size 35 1 (.slice none 0 0) 0 []))
    have SZ : Bx (w2.heap.size ≤ w2.heap.size) := ⟨Nat.le_refl _⟩
    have NEWS : Bx (∀ j u, (ints .u64 bs)[j]? = some u → w2.cell? ((⟨gb, 0, none⟩ : Addr).add j) = some u) := ⟨fun j u hu => by
      rw [add_at, hgb.cell, Nat.zero_add, List.getElem?_append_left (List.getElem?_eq_some_iff.1 hu).1]; exact hu⟩
    have hbm := (BL2.out.sm _ (List.getElem_mem hml))
    rw [← getD_at hml] at hbm
    have SB' : Bx (SmB (bs.set m 0)) := ⟨smB_set0 BL2.out.sm⟩
    have HML := bx hml
    clear hgb
    go_upto_region 6 with (at_builtin; (with_reducible refine wpList_pushAt rfl (.const (.slice none 0 0)) (.tmp 34) 29 rfl i0 _ 8 Try.underlying29 HI.out hz0 hz1 hz2 ?_ ?_ ?_ (NIL.out _) ⟨gb, 0, none⟩ n cb (ints .u64 bs) ?_ HN0.out HL.out NEWS.out ONE.out HM1.out HM2.out SZ.out ?_); rfl; omega; rfl; rfl; intro v3 w3 hown' _ hbel' _; have HW3 := bx hown'; have HB3 := bx hbel'; clear hown' hbel')
    have HW := HW3.out
    rw [Nat.zero_add, List.nil_append] at HW
    obtain ⟨go, co, po, hv, hgo, hs⟩ := own_block HW HN0.out
    subst hv
    have hc3 := URow.cell hs hml
    have hf3 : w3.frozen? ⟨go, m, none⟩ = false := hs.frozen m
    have G2 := bx (hs.set m (.int .u64 0))
    rw [set_u _ _ _ _ hml] at G2
    have H4 := bx (HB3.out.grown (grown_setCell w3 go m (.int .u64 0)) HB3.out.size (fun k hk => by cases hk; exact hgo))
    have SB := bx BL2.out.sm.smB
    have LAW := bx (fun k (hk : k < ns.length) => without_law (vs := vs) (G := G) hml HMN.out hk)
    have BL4 := bx (BL2.out.below H4.out)
    have X4 := bx (X2.out.below H4.out)
    have B4 := bx (B2.out.trans (H4.out.mono B2.out.size))
    have UA := bx (dirL_64 (ns := ns) (vs := vs) (G := G) SB.out BL2.out.ur.1 (by have := BL2.out.n6; omega))
    have UB := bx (dirL_64 (ns := ns) (vs := vs) (G := G) SB'.out (show (bs.set m 0).length = n by rw [List.length_set]; exact BL2.out.ur.1) (by have := BL2.out.n6; omega))
    have U4 : Bx (URow (w3.setCell ⟨go, m, none⟩ (.int .u64 0)) (some ⟨go, 0, none⟩) n (bs.set m 0)) := ⟨by rw [List.length_set]; exact BL2.out.ur.1, fun _ => ⟨go, po, rfl, G2.out⟩⟩
    have hx0 : 0 ≤ bs.getD m 0 ∧ bs.getD m 0 ≤ 72057594037927936 := hbm
    clear HW3 HB3 HW H4 G2 hs hgo BL2 X2 B2 hbm HL ONE HM1 HM2 NIL SZ NEWS hm HML
    have M6 := bx BL4.out.n6
    generalize hbv : bs.set m 0 = bs2 at *
    generalize hbx : bs.getD m 0 = x at *
    have HBX := bx hbx
    clear hbx
    go_upto_region 7 with fail
    generalize w3.setCell ⟨go, m, none⟩ (.int .u64 0) = w4 at *
    have BL5 : Bx (Blt w4.drew A ns AL vs AE ne G (some ⟨gb, 0, none⟩) bs n) := ⟨BL4.out.below (Below.refl _ _).drew⟩
    have X5 : Bx (Bxs w4.drew g A ns.length c AL n cl AE ne ce) := ⟨X4.out.below (Below.refl _ _).drew⟩
    have U5 : Bx (URow w4.drew (some ⟨go, 0, none⟩) n bs2) := ⟨U4.out⟩
    have B5 : Bx (Below w.heap.size w w4.drew) := ⟨B4.out.drew⟩
    have CT := bx (Has.cls X5.out.t)
    have CV := bx (Has.cls X5.out.v)
    clear BL4 X4 U4 B4 hc3 hf3 hbv
    go_wp2_with fail
    refine wp_region_mix3 8 (.steps [(0, 0), (0, 1), (0, 2), (0, 4), (0, 5), (0, 6), (2, 3), (2, 7)] .leaf) (by kernel_rfl) (by kernel_rfl) ?_
    simp only [MixT, MT.steps, stepAt, List.getD_cons_zero, List.getD_cons_succ, List.drop_succ_cons, List.drop_zero]
    generalize w4.drew = w5 at *
    repeat (first | (with_reducible refine wpQuiet_nil ?_) | (first | go_big_quiet_skip | (go_big_quiet_want; first | (first | ((with_reducible refine quiet_loadC 25 _ rfl _ [.slice A ns.length c] ?_ CT.out Try.underlying25 rfl ?_ ?_); rfl; exact cells_tree _; go_big_quiet_on; (simp only [Act.put, List.setIfInBounds_toArray, List.set_cons_succ, List.set_cons_zero])) | ((with_reducible refine quiet_loadC 28 _ rfl _ [.slice AL n cl, .slice AE ne ce] ?_ CV.out Try.underlying28 rfl ?_ ?_); rfl; exact cells_votes _ _; go_big_quiet_on; (simp only [Act.put, List.setIfInBounds_toArray, List.set_cons_succ, List.set_cons_zero]))) | (go_big_quiet_op; first | go_big_quiet_on | ((with_reducible refine ⟨_, fun _ _ => rfl, ?_⟩); go_big_quiet_on)))))
    refine mix_call (BL5.out.direct c cl ce cb) Try.func16 rfl rfl _ _ rfl rfl rfl ?_
    rintro e w6 ⟨A6, c6, rfl, _, hu, hb⟩
    refine ⟨_, rfl, hb, ?_⟩
    have BL6 := bx (BL5.out.below hb)
    have X6 := bx (X5.out.below hb)
    have U6 := bx (U5.out.below hb)
    have D6 := bx hu
    have B6 := bx (B5.out.trans (hb.mono B5.out.size))
    clear hb hu BL5 X5 U5 B5 CT CV
    refine mix_call (BL6.out.direct2 c cl ce co SB'.out U6.out) Try.func16 rfl rfl _ _ rfl rfl rfl ?_
    rintro e w7 ⟨A7, c7, rfl, _, hu, hb⟩
    refine ⟨_, rfl, hb, ?_⟩
    have BL7 := bx (BL6.out.below hb)
    have X7 := bx (X6.out.below hb)
    have D7 := bx (D6.out.below hb)
    have E7 := bx hu
    have B7 := bx (B6.out.trans (hb.mono B6.out.size))
    have M0 := bx BL7.out.pos
    have M9 := bx BL7.out.n9
    have WF := bx BL7.out.wf
    have DL1 := bx D7.out.1
    have DL2 := bx E7.out.1
    clear hb hu BL6 X6 U6 B6 D6 SB SB'
    generalize dirL ns vs G bs n = D1 at *
    generalize dirL ns vs G bs2 n = D2 at *
    simp only [Act.put, List.setIfInBounds_toArray, List.set_cons_succ, List.set_cons_zero]
    have hc9 : w7.cell? ⟨g, 0, none⟩ = some (.slice A ns.length c) := X7.out.t.cell 0
    go_wp2_with fail
    refine NoPanic.normal ?_
    go_upto_region 10 with fail
    obtain ⟨gv, pv, hAv, hgv⟩ := BL7.out.vr.2.2 HN0.out
    have hmv : m < vs.length := by rw [BL7.out.vr.1]; exact HMN.out
    have hvk : vs.getD m zv = vs[m] := by simp [List.getD, List.getElem?_eq_getElem hmv]
    have hvo : (vs.getD m zv).2.2.length = 32 ∧ Bt (vs.getD m zv).2.2 := by rw [hvk]; exact BL7.out.vr.2.1 _ (List.getElem_mem hmv)
    have RV := bx (fun w' (hb : Below w7.heap.size w7 w') => show w'.rangeAt gv (m * 34) (vc (vs.getD m zv)) by rw [hvk]; exact (hgv.below hb hgv.lt).rangeP BL7.out.vr.2.1.len m hmv)
    have VA := bx (fun h => voteA (ns := ns) (vs := vs) (G := G) (i := m) h)
    have VB := bx (fun h => voteB (ns := ns) (vs := vs) (G := G) (i := m) h)
    have VC := bx (fun h1 h2 h => voteC (ns := ns) (vs := vs) (G := G) (i := m) h1 h2 h)
    have VD := bx (fun h1 h2 k hk hr hs => voteD (vs := vs) (G := G) (i := m) WF.out h1 h2 (k := k) hk hr hs)
    have VE := bx (fun h1 h2 k hk hr hs j (hj : j < ns.length) => voteE (vs := vs) (G := G) (i := m) WF.out h1 h2 (k := k) hk hr hs x hj)
    have VN := bx (fun h j (hj : j < ns.length) => eD_no (ns := ns) (vs := vs) (G := G) (i := m) x h hj)
    have HML := bx hml
    have hmvi : (m : Int) < (n : Int) := hmn
    subst hAv
    clear hvk hmv hgv
    generalize hED : eD ns vs G m x = ed at *
    clear hED
    generalize vs.getD m zv = v at *
    obtain ⟨hh, ep, r⟩ := v
    have LR : Bx (r.length = 32) := ⟨hvo.1⟩
    clear hvo
    have X8 : Bx (Bxs w7.drew g A ns.length c (some ⟨gv, 0, none⟩) n cl AE ne ce) := ⟨X7.out.below (Below.refl _ _).drew⟩
    have CT := bx (Has.cls X8.out.t)
    have CS := bx (fun w6 (h6 : Cls w7.drew.heap.size w7.drew w6) => run_votes1 ((X8.out.v.below h6.out X8.out.v.lt).cell 0))
    have CR := bx (fun w6 (h6 : Cls w7.drew.heap.size w7.drew w6) => range_part (ds := ints .u8 r) 2 (RV.out w6 ((Below.refl _ w7).drew.trans h6.out)) (fun j u hu => by rw [Nat.add_comm]; exact hu))
    have FA := bx (fun w' (hb : Below w7.heap.size w7 w') => find_any A ns.length c ns r LR.out w' (BL7.out.below hb).nr (by have := M9.out; omega))
    have H8 : Bx (Below w7.heap.size w7 w7.drew) := ⟨(Below.refl _ _).drew⟩
    clear hc9
    go_wp2_with fail
    refine wp_region_mix3 8 (.steps [(0, 0), (0, 1), (0, 2), (0, 3), (0, 4), (0, 5), (0, 6), (2, 7)] .leaf) (by kernel_rfl) (by kernel_rfl) ?_
    simp only [MixT, MT.steps, stepAt, List.getD_cons_zero, List.getD_cons_succ, List.drop_succ_cons, List.drop_zero]
    generalize w7.drew = w8 at *
    repeat (first | (with_reducible refine wpQuiet_nil ?_) | (first | go_big_quiet_skip | (go_big_quiet_want; first | (first | ((with_reducible refine quiet_loadC 25 _ rfl _ [.slice A ns.length c] ?_ CT.out Try.underlying25 rfl ?_ ?_); rfl; exact cells_tree _; go_big_quiet_on; (simp only [Act.put, List.setIfInBounds_toArray, List.set_cons_succ, List.set_cons_zero])) | ((with_reducible refine quiet_cell 26 _ rfl _ _ ?_ CS.out ?_); rfl; go_big_quiet_on; (simp only [Act.put, List.setIfInBounds_toArray, List.set_cons_succ, List.set_cons_zero])) | ((with_reducible refine quiet_loadRng 41 _ rfl gv (m * 34 + 2) (ints .u8 r) ?_ CR.out Try.underlying41 ?_ ?_ ?_); rfl; rfl; exact cells_root LR.out; go_big_quiet_on; (simp only [Act.put, List.setIfInBounds_toArray, List.set_cons_succ, List.set_cons_zero]))) | (go_big_quiet_op; first | go_big_quiet_on | ((with_reducible refine ⟨_, fun _ _ => rfl, ?_⟩); go_big_quiet_on)))))
    refine mix_call (FA.out _ H8.out) Try.func25 rfl rfl _ _ rfl rfl rfl ?_
    rintro e w9 ⟨⟨k0, rfl, hk0⟩, hb⟩
    refine ⟨_, rfl, hb, ?_⟩
    have F9 := bx (H8.out.trans (hb.mono H8.out.size))
    have X9 := bx (X7.out.below F9.out)
    have B9 := bx (B7.out.trans (F9.out.mono B7.out.size))
    have G9 := bx (BL7.out.gr.below F9.out)
    have N9 := bx (BL7.out.nr.below F9.out)
    have FK := bx hk0
    clear hb hk0 X8 H8 CT CS CR FA
    simp only [Act.put, List.setIfInBounds_toArray, List.set_cons_succ, List.set_cons_zero]
    have hcv0 : w9.cell? ⟨g + 1, 0, none⟩ = some (.slice (some ⟨gv, 0, none⟩) n cl) := X9.out.v.cell 0
    have hcv1 : w9.cell? ⟨g + 1, 1, none⟩ = some (.slice AE ne ce) := X9.out.v.cell 1
    have hct : w9.cell? ⟨g, 0, none⟩ = some (.slice A ns.length c) := X9.out.t.cell 0
    have hch : w9.cell? ⟨gv, m * 34, none⟩ = some (.bool hh) := RV.out w9 F9.out 0 _ rfl
    have HAS := bx (has_any _ AE ne ce G (m : Int) w9 G9.out.row (by have := BL7.out.nen; have := M6.out; omega))
    go_wp2_with fail
    refine NoPanic.normal ?_
    cases hh with
    | false =>
      have EDL : Bx (∀ j, j < ns.length → ed j = 0) := ⟨fun j hj => VN.out (VA.out (by first | rfl | trivial)) j hj⟩
      clear VA VB VC VD VE VN FK HAS
      go_wp2_with fail
      have hn9 := M9.out
      go_loopw [16] (fun i wr => ∃ k : Nat, k ≤ ns.length ∧ i = .int .i64 k ∧ Below w9.heap.size w9 wr) (fun i _ => ns.length - (intOf i).toNat)
      case atStart => exact ⟨0, Nat.zero_le _, rfl, Below.refl _ _⟩
      case round =>
        obtain ⟨k, hk, rfl, hbel⟩ := hrel
        have BR := bx hbel
        clear hbel
        by_cases hkn : k < ns.length
        · have hki : (k : Int) < (ns.length : Int) := by omega
          have hk0 : (0 : Int) ≤ (k : Int) := by omega
          have HKN := bx hkn
          have FW := bx (F9.out.trans (BR.out.mono F9.out.size))
          obtain ⟨g6, p6, hA6, hg6⟩ := (D7.out.below FW.out).2 M0.out
          obtain ⟨g7, p7, hA7, hg7⟩ := (E7.out.below FW.out).2 M0.out
          have hc6 := URow.cell hg6 (k := k) (by rw [DL1.out]; exact hkn)
          have hc7 := URow.cell hg7 (k := k) (by rw [DL2.out]; exact hkn)
          have hlaw := LAW.out k hkn
          rw [EDL.out k hkn] at hlaw
          have hx1 := UA.out.at (k := k) (by rw [DL1.out]; exact hkn)
          have hx2 := UB.out.at (k := k) (by rw [DL2.out]; exact hkn)
          subst hA6; subst hA7
          clear hg6 hg7
          generalize D1.getD k 0 = x1 at *
          generalize D2.getD k 0 = x2 at *
          have hx12 : x1 = x2 := (by omega); clear hlaw
          subst hx12
          go_wp2_with fail
          go_quiet (fail)
          go_wp2_with fail
          go_roundw
          case rel => exact ⟨k + 1, HKN.out, by go_num, below_dN BR.out _⟩
          case measure => simp [intOf]; omega
        · obtain rfl : k = ns.length := by omega
          have B10 := bx (B9.out.trans (BR.out.mono B9.out.size))
          go_wp2_with fail
          refine (awake13_any _).mono ?_; rintro e w11 ⟨rfl, hb⟩
          have B11 := bx (B10.out.trans (hb.mono B10.out.size))
          clear hb
          go_wp2_with fail
          go_ret
          exact ⟨rfl, B11.out⟩
    | true =>
      go_wp2_with fail
      refine HAS.out.mono ?_; rintro e w10 ⟨rfl, rfl⟩
      by_cases hg : (m : Int) ∈ G
      · have EDL : Bx (∀ j, j < ns.length → ed j = 0) := ⟨fun j hj => VN.out (VB.out hg) j hj⟩
        rw [decide_eq_true hg]
        clear hg VA VB VC VD VE VN FK HAS
        go_wp2_with fail
        have hn9 := M9.out
        go_loopw [16] (fun i wr => ∃ k : Nat, k ≤ ns.length ∧ i = .int .i64 k ∧ Below w9.heap.size w9 wr) (fun i _ => ns.length - (intOf i).toNat)
        case atStart => exact ⟨0, Nat.zero_le _, rfl, Below.refl _ _⟩
        case round =>
          obtain ⟨k, hk, rfl, hbel⟩ := hrel
          have BR := bx hbel
          clear hbel
          by_cases hkn : k < ns.length
          · have hki : (k : Int) < (ns.length : Int) := by omega
            have hk0 : (0 : Int) ≤ (k : Int) := by omega
            have HKN := bx hkn
            have FW := bx (F9.out.trans (BR.out.mono F9.out.size))
            obtain ⟨g6, p6, hA6, hg6⟩ := (D7.out.below FW.out).2 M0.out
            obtain ⟨g7, p7, hA7, hg7⟩ := (E7.out.below FW.out).2 M0.out
            have hc6 := URow.cell hg6 (k := k) (by rw [DL1.out]; exact hkn)
            have hc7 := URow.cell hg7 (k := k) (by rw [DL2.out]; exact hkn)
            have hlaw := LAW.out k hkn
            rw [EDL.out k hkn] at hlaw
            have hx1 := UA.out.at (k := k) (by rw [DL1.out]; exact hkn)
            have hx2 := UB.out.at (k := k) (by rw [DL2.out]; exact hkn)
            subst hA6; subst hA7
            clear hg6 hg7
            generalize D1.getD k 0 = x1 at *
            generalize D2.getD k 0 = x2 at *
            have hx12 : x1 = x2 := (by omega); clear hlaw
            subst hx12
            go_wp2_with fail
            go_quiet (fail)
            go_wp2_with fail
            go_roundw
            case rel => exact ⟨k + 1, HKN.out, by go_num, below_dN BR.out _⟩
            case measure => simp [intOf]; omega
          · obtain rfl : k = ns.length := by omega
            have B10 := bx (B9.out.trans (BR.out.mono B9.out.size))
            go_wp2_with fail
            refine (awake13_any _).mono ?_; rintro e w11 ⟨rfl, hb⟩
            have B11 := bx (B10.out.trans (hb.mono B10.out.size))
            clear hb
            go_wp2_with fail
            go_ret
            exact ⟨rfl, B11.out⟩
      · rw [decide_eq_false hg]
        rcases FK.out with ⟨rfl, hno⟩ | ⟨kk, hkk, rfl, hrt, _⟩
        · have EDL : Bx (∀ j, j < ns.length → ed j = 0) := ⟨fun j hj => VN.out (VC.out (by first | rfl | trivial) hg hno) j hj⟩
          clear hg hno VA VB VC VD VE VN FK HAS
          go_wp2_with fail
          have hn9 := M9.out
          go_loopw [16] (fun i wr => ∃ k : Nat, k ≤ ns.length ∧ i = .int .i64 k ∧ Below w9.heap.size w9 wr) (fun i _ => ns.length - (intOf i).toNat)
          case atStart => exact ⟨0, Nat.zero_le _, rfl, Below.refl _ _⟩
          case round =>
            obtain ⟨k, hk, rfl, hbel⟩ := hrel
            have BR := bx hbel
            clear hbel
            by_cases hkn : k < ns.length
            · have hki : (k : Int) < (ns.length : Int) := by omega
              have hk0 : (0 : Int) ≤ (k : Int) := by omega
              have HKN := bx hkn
              have FW := bx (F9.out.trans (BR.out.mono F9.out.size))
              obtain ⟨g6, p6, hA6, hg6⟩ := (D7.out.below FW.out).2 M0.out
              obtain ⟨g7, p7, hA7, hg7⟩ := (E7.out.below FW.out).2 M0.out
              have hc6 := URow.cell hg6 (k := k) (by rw [DL1.out]; exact hkn)
              have hc7 := URow.cell hg7 (k := k) (by rw [DL2.out]; exact hkn)
              have hlaw := LAW.out k hkn
              rw [EDL.out k hkn] at hlaw
              have hx1 := UA.out.at (k := k) (by rw [DL1.out]; exact hkn)
              have hx2 := UB.out.at (k := k) (by rw [DL2.out]; exact hkn)
              subst hA6; subst hA7
              clear hg6 hg7
              generalize D1.getD k 0 = x1 at *
              generalize D2.getD k 0 = x2 at *
              have hx12 : x1 = x2 := (by omega); clear hlaw
              subst hx12
              go_wp2_with fail
              go_quiet (fail)
              go_wp2_with fail
              go_roundw
              case rel => exact ⟨k + 1, HKN.out, by go_num, below_dN BR.out _⟩
              case measure => simp [intOf]; omega
            · obtain rfl : k = ns.length := by omega
              have B10 := bx (B9.out.trans (BR.out.mono B9.out.size))
              go_wp2_with fail
              refine (awake13_any _).mono ?_; rintro e w11 ⟨rfl, hb⟩
              have B11 := bx (B10.out.trans (hb.mono B10.out.size))
              clear hb
              go_wp2_with fail
              go_ret
              exact ⟨rfl, B11.out⟩
        · obtain ⟨gn, pn, hAn, hgn⟩ := N9.out.2.2 M0.out
          have hcs := hgn.nodeCell N9.out.2.1 kk hkk 239 _ (nc_st (N9.out.2.1 _ (List.getElem_mem hkk)))
          have hkki : (kk : Int) < (ns.length : Int) := by omega
          have hkk0 : (0 : Int) ≤ (kk : Int) := by omega
          have hmax : max (kk : Int) 0 = (kk : Int) := by omega
          subst hAn
          clear hgn
          by_cases hst : ns[kk].st = 2
          · have EDL : Bx (∀ j, j < ns.length → ed j = 0) := ⟨fun j hj => VN.out (VD.out (by first | rfl | trivial) hg kk hkk hrt hst) j hj⟩
            rw [hst] at hcs
            clear hg VA VB VC VD VE VN FK HAS hst hrt
            go_wp2_with fail
            have hn9 := M9.out
            go_loopw [16] (fun i wr => ∃ k : Nat, k ≤ ns.length ∧ i = .int .i64 k ∧ Below w9.heap.size w9 wr) (fun i _ => ns.length - (intOf i).toNat)
            case atStart => exact ⟨0, Nat.zero_le _, rfl, Below.refl _ _⟩
            case round =>
              obtain ⟨k, hk, rfl, hbel⟩ := hrel
              have BR := bx hbel
              clear hbel
              by_cases hkn : k < ns.length
              · have hki : (k : Int) < (ns.length : Int) := by omega
                have hk0 : (0 : Int) ≤ (k : Int) := by omega
                have HKN := bx hkn
                have FW := bx (F9.out.trans (BR.out.mono F9.out.size))
                obtain ⟨g6, p6, hA6, hg6⟩ := (D7.out.below FW.out).2 M0.out
                obtain ⟨g7, p7, hA7, hg7⟩ := (E7.out.below FW.out).2 M0.out
                have hc6 := URow.cell hg6 (k := k) (by rw [DL1.out]; exact hkn)
                have hc7 := URow.cell hg7 (k := k) (by rw [DL2.out]; exact hkn)
                have hlaw := LAW.out k hkn
                rw [EDL.out k hkn] at hlaw
                have hx1 := UA.out.at (k := k) (by rw [DL1.out]; exact hkn)
                have hx2 := UB.out.at (k := k) (by rw [DL2.out]; exact hkn)
                subst hA6; subst hA7
                clear hg6 hg7
                generalize D1.getD k 0 = x1 at *
                generalize D2.getD k 0 = x2 at *
                have hx12 : x1 = x2 := (by omega); clear hlaw
                subst hx12
                go_wp2_with fail
                go_quiet (fail)
                go_wp2_with fail
                go_roundw
                case rel => exact ⟨k + 1, HKN.out, by go_num, below_dN BR.out _⟩
                case measure => simp [intOf]; omega
              · obtain rfl : k = ns.length := by omega
                have B10 := bx (B9.out.trans (BR.out.mono B9.out.size))
                go_wp2_with fail
                refine (awake13_any _).mono ?_; rintro e w11 ⟨rfl, hb⟩
                have B11 := bx (B10.out.trans (hb.mono B10.out.size))
                clear hb
                go_wp2_with fail
                go_ret
                exact ⟨rfl, B11.out⟩
          · have EDL : Bx (∀ j, j < ns.length → ed j = if j = kk then x else 0) := ⟨fun j hj => VE.out (by first | rfl | trivial) hg kk hkk hrt hst j hj⟩
            have hstn : (ns[kk].st != 2) = true := by rw [bne_iff_ne]; exact hst
            clear hg VA VB VC VD VE VN FK HAS hst hrt
            generalize ns[kk].st = st at *
            go_wp2_with fail
            have hn9 := M9.out
            go_loopw [16] (fun i wr => ∃ k : Nat, k ≤ ns.length ∧ i = .int .i64 k ∧ Below w9.heap.size w9 wr) (fun i _ => ns.length - (intOf i).toNat)
            case atStart => exact ⟨0, Nat.zero_le _, rfl, Below.refl _ _⟩
            case round =>
              obtain ⟨k, hk, rfl, hbel⟩ := hrel
              have BR := bx hbel
              clear hbel
              by_cases hkn : k < ns.length
              · have hki : (k : Int) < (ns.length : Int) := by omega
                have hk0 : (0 : Int) ≤ (k : Int) := by omega
                have HKN := bx hkn
                have FW := bx (F9.out.trans (BR.out.mono F9.out.size))
                obtain ⟨g6, p6, hA6, hg6⟩ := (D7.out.below FW.out).2 M0.out
                obtain ⟨g7, p7, hA7, hg7⟩ := (E7.out.below FW.out).2 M0.out
                have hc6 := URow.cell hg6 (k := k) (by rw [DL1.out]; exact hkn)
                have hc7 := URow.cell hg7 (k := k) (by rw [DL2.out]; exact hkn)
                have hlaw := LAW.out k hkn
                rw [EDL.out k hkn] at hlaw
                have hx1 := UA.out.at (k := k) (by rw [DL1.out]; exact hkn)
                have hx2 := UB.out.at (k := k) (by rw [DL2.out]; exact hkn)
                subst hA6; subst hA7
                clear hg6 hg7
                generalize D1.getD k 0 = x1 at *
                generalize D2.getD k 0 = x2 at *
                obtain ⟨gq, pq, hAq, hgq⟩ := (BL7.out.below FW.out).ur.2 HN0.out
                cases hAq
                have hcq := URow.cell hgq HML.out
                rw [HBX.out] at hcq
                clear hgq
                by_cases hjk : k = kk
                · subst hjk
                  have hx12 : x1 = x2 + x := (by rw [if_pos rfl] at hlaw; exact hlaw); clear hlaw
                  have hsum : (x2 + x) % 18446744073709551616 = x2 + x := by omega
                  subst hx12
                  go_wp2_with fail
                  go_quiet (fail)
                  go_wp2_with fail
                  go_roundw
                  case rel => exact ⟨k + 1, HKN.out, by go_num, below_dN BR.out _⟩
                  case measure => simp [intOf]; omega
                · have hx12 : x1 = x2 := (by rw [if_neg hjk] at hlaw; omega); clear hlaw
                  have hkkf : ((k : Int) == (kk : Int)) = false := by rw [beq_eq_false_iff_ne]; omega
                  subst hx12
                  go_wp2_with fail
                  go_quiet (fail)
                  go_wp2_with fail
                  go_roundw
                  case rel => exact ⟨k + 1, HKN.out, by go_num, below_dN BR.out _⟩
                  case measure => simp [intOf]; omega
              · obtain rfl : k = ns.length := by omega
                have B10 := bx (B9.out.trans (BR.out.mono B9.out.size))
                go_wp2_with fail
                refine (awake13_any _).mono ?_; rintro e w11 ⟨rfl, hb⟩
                have B11 := bx (B10.out.trans (hb.mono B10.out.size))
                clear hb
                go_wp2_with fail
                go_ret
                exact ⟨rfl, B11.out⟩
end Go.Proofs.Ytonkgjengplppaa
