/- DeltasTogether, walked. -/
import Derived.Test.YtonkgjengplppaaDMerge
import Derived.Test.YtonkgjengplppaaDOne
namespace Go.Proofs.Ytonkgjengplppaa
open Go.RowKit
theorem chg_small {w P M : Int} (hw : 3000 ≤ w ∧ w ≤ 1152921504606846976) (hP : 0 ≤ P ∧ P ≤ 2000) (hM : 0 ≤ M ∧ M ≤ 2000) : chgE w ⟨P, M⟩ = 0 ∧ chgV w ⟨P, M⟩ = w + P - M := by
  unfold chgE chgV
  by_cases hpm : M ≤ P
  · simp only [if_pos hpm]
    unfold addE addV
    exact ⟨if_pos (by omega), by rw [if_pos (by omega)]; omega⟩
  · simp only [if_neg hpm]
    unfold subE subV
    rw [if_neg (by omega), if_neg (by omega)]
    exact ⟨rfl, by omega⟩
/-- small deltas -/
def Sm (ds : List Dl) (b : Int) : Prop := ∀ d ∈ ds, (0 ≤ d.p ∧ d.p ≤ b) ∧ (0 ≤ d.m ∧ d.m ≤ b)
theorem Sm.at {ds : List Dl} {b : Int} (h : Sm ds b) (hb : 0 ≤ b) (j : Nat) : (0 ≤ dP ds j ∧ dP ds j ≤ b) ∧ (0 ≤ dM ds j ∧ dM ds j ≤ b) := by
  unfold dP dM
  by_cases hj : j < ds.length
  · rw [dl_at hj]; exact h _ (List.getElem_mem hj)
  · rw [List.getD, List.getElem?_eq_none (by omega)]; exact ⟨⟨Int.le_refl 0, hb⟩, ⟨Int.le_refl 0, hb⟩⟩
theorem node_small {us : List Int} (h : Lk us) {n : Nat} (hn : n = us.length) (h9 : n ≤ 9) {ds : List Dl} {b : Int} (hb : 0 ≤ b) (hb2 : b ≤ 200) (hd : Sm ds b) {ws : List Int} {i : Nat} (hi : i < n) (hw : 3000 ≤ ws.getD i 0 ∧ ws.getD i 0 ≤ 1152921504606846976) :
    nodeR us n ds ws i = some (ws.getD i 0 + own us (i + 1) (dP ds) i n - own us (i + 1) (dM ds) i n) ∧ (0 ≤ own us (i + 1) (dP ds) i n ∧ own us (i + 1) (dP ds) i n ≤ n * b) ∧ (0 ≤ own us (i + 1) (dM ds) i n ∧ own us (i + 1) (dM ds) i n ≤ n * b) := by
  have e1 := pL_sum h ds i n (by omega)
  have e2 := mL_sum h ds i n (by omega)
  have bP : 0 ≤ own us (i + 1) (dP ds) i n ∧ own us (i + 1) (dP ds) i n ≤ n * b := ⟨own_nonneg n fun j _ => (hd.at hb j).1.1, own_le hb n fun j _ => (hd.at hb j).1.2⟩
  have bM : 0 ≤ own us (i + 1) (dM ds) i n ∧ own us (i + 1) (dM ds) i n ≤ n * b := ⟨own_nonneg n fun j _ => (hd.at hb j).2.1, own_le hb n fun j _ => (hd.at hb j).2.2⟩
  have hnb : (n : Int) * b ≤ 9 * 200 := Int.mul_le_mul (by omega) hb2 hb (by decide)
  have hc := chg_small hw (P := own us (i + 1) (dP ds) i n) (M := own us (i + 1) (dM ds) i n) ⟨bP.1, by omega⟩ ⟨bM.1, by omega⟩
  refine ⟨?_, bP, bM⟩
  rw [nodeR_ok (by rw [e1]; omega) (by rw [e2]; omega), e1, e2, hc.1, hc.2, if_neg (by decide)]
theorem addDE_small {a b : Dl} {x y : Int} (ha : (0 ≤ a.p ∧ a.p ≤ x) ∧ (0 ≤ a.m ∧ a.m ≤ x)) (hb : (0 ≤ b.p ∧ b.p ≤ y) ∧ (0 ≤ b.m ∧ b.m ≤ y)) (hxy : x + y ≤ 1000) : addDE a b = 0 ∧ addDV a b = ⟨a.p + b.p, a.m + b.m⟩ := by
  unfold addDE addDV addE addV
  rw [if_pos (by omega), if_pos (by omega), if_pos (by omega), if_pos (by omega)]
  exact ⟨rfl, rfl⟩
theorem mRow_small {d o : List Dl} {n : Nat} (hd : d.length = n) (ho : o.length = n) (hsd : Sm d 63) (hso : Sm o 63) : ∀ k, k ≤ n → ∃ o', mRow d k o = some o' ∧ o'.length = n ∧
    (∀ j, j < k → o'.getD j ⟨0, 0⟩ = ⟨dP o j + dP d j, dM o j + dM d j⟩) ∧ (∀ j, k ≤ j → o'.getD j ⟨0, 0⟩ = o.getD j ⟨0, 0⟩)
  | 0, _ => ⟨o, rfl, ho, fun j hj => absurd hj (Nat.not_lt_zero _), fun _ _ => rfl⟩
  | k + 1, hk => by
    obtain ⟨o', h1, h2, h3, h4⟩ := mRow_small hd ho hsd hso k (by omega)
    have ek := h4 k (Nat.le_refl _)
    have hs := addDE_small (a := o.getD k ⟨0, 0⟩) (b := d.getD k ⟨0, 0⟩) (hso.at (by decide) k) (hsd.at (by decide) k) (by decide)
    rw [← ek] at hs
    refine ⟨_, mRow_yes h1 hs.1, by rw [List.length_set]; exact h2, fun j hj => ?_, fun j hj => ?_⟩
    · by_cases hjk : j = k
      · subst hjk
        rw [getD_set_eq (by omega), hs.2, ek]; rfl
      · rw [getD_set_far (by omega), h3 j (by omega)]
    · rw [getD_set_far (by omega), h4 j (by omega)]
theorem rep_sm (n : Nat) : Sm (List.replicate n ⟨0, 0⟩) 63 := fun d hd => by rw [List.eq_of_mem_replicate hd]; decide
theorem rep_dP (n j : Nat) : dP (List.replicate n ⟨0, 0⟩) j = 0 ∧ dM (List.replicate n ⟨0, 0⟩) j = 0 := by
  have := (rep_sm n).at (by decide) j
  unfold dP dM
  by_cases hj : j < n
  · rw [dl_at (by simpa using hj)]; simp
  · rw [List.getD, List.getElem?_eq_none (by simpa using hj)]; exact ⟨rfl, rfl⟩
theorem SmallD.sm {ds : List Dl} (h : SmallD ds) : Sm ds 63 := h
theorem dl_ext {a b : List Dl} {n : Nat} (ha : a.length = n) (hb : b.length = n) (h : ∀ j, j < n → a.getD j ⟨0, 0⟩ = b.getD j ⟨0, 0⟩) : a = b := by
  apply List.ext_getElem (by rw [ha, hb])
  intro i h1 h2
  have := h i (by omega)
  rwa [dl_at h1, dl_at h2] at this
/-- two small lists are merged -/
theorem mAll_small {P1 P2 : Pt} {n : Nat} (h1 : P1.ds.length = n) (h2 : P2.ds.length = n) (s1 : Sm P1.ds 63) (s2 : Sm P2.ds 63) :
    ∃ o, mAll [P1, P2] n 2 = some o ∧ o.length = n ∧ (∀ j, dP o j = dP P1.ds j + dP P2.ds j ∧ dM o j = dM P1.ds j + dM P2.ds j) := by
  obtain ⟨o1, a1, a2, a3, _⟩ := mRow_small h1 (rep_len n) s1 (rep_sm n) n (Nat.le_refl _)
  have e1 : o1 = P1.ds := dl_ext a2 h1 fun j hj => by
    rw [a3 j hj, (rep_dP n j).1, (rep_dP n j).2, Int.zero_add, Int.zero_add]; rfl
  subst e1
  obtain ⟨o, b1, b2, b3, _⟩ := mRow_small h2 h1 s2 s1 n (Nat.le_refl _)
  refine ⟨o, ?_, b2, fun j => ?_⟩
  · show ((mAll [P1, P2] n 1).bind _) = _
    rw [show mAll [P1, P2] n 1 = mRow P1.ds n (List.replicate n ⟨0, 0⟩) from rfl, a1]
    exact b1
  · by_cases hj : j < n
    · have := b3 j hj
      unfold dP dM at *
      rw [this]; exact ⟨rfl, rfl⟩
    · unfold dP dM
      rw [List.getD, List.getElem?_eq_none (by omega), List.getD, List.getElem?_eq_none (by omega), List.getD, List.getElem?_eq_none (by omega)]
      exact ⟨rfl, rfl⟩
theorem Sm.mono {ds : List Dl} {b c : Int} (h : Sm ds b) (hbc : b ≤ c) : Sm ds c := fun d hd => by have := h d hd; omega
theorem sm_of_at {ds : List Dl} {b : Int} (h : ∀ j, (0 ≤ dP ds j ∧ dP ds j ≤ b) ∧ (0 ≤ dM ds j ∧ dM ds j ≤ b)) : Sm ds b := fun d hd => by
  obtain ⟨j, hj, rfl⟩ := List.mem_iff_getElem.1 hd
  have := h j
  unfold dP dM at this
  rwa [dl_at hj] at this
/-- one list after the other, or both at once -/
theorem together_law {us : List Int} (h : Lk us) {n : Nat} (hn : n = us.length) (h9 : n ≤ 9) {x y m : List Dl} (hx : Sm x 63) (hy : Sm y 63) (hm : ∀ j, dP m j = dP x j + dP y j ∧ dM m j = dM x j + dM y j)
    {s p : List Int} (hs : ∀ i, i < n → 5000 ≤ s.getD i 0 ∧ s.getD i 0 ≤ 72057594037932936) (hp : ∀ i, i < n → nodeR us n x s i = some (p.getD i 0)) {i : Nat} (hi : i < n) :
    (∃ v, nodeR us n x s i = some v) ∧ (∃ v, nodeR us n y p i = some v) ∧ (∃ v, nodeR us n m s i = some v) ∧ nodeR us n y p i = nodeR us n m s i := by
  have hsi := hs i hi
  obtain ⟨a1, a2, a3⟩ := node_small h hn h9 (by decide) (by decide) hx (ws := s) hi (by omega)
  have hpi := hp i hi
  rw [a1] at hpi
  injection hpi with hpi
  have hnb : (n : Int) * 63 ≤ 567 := by omega
  obtain ⟨b1, b2, b3⟩ := node_small h hn h9 (by decide) (by decide) hy (ws := p) hi (by omega)
  have hm2 : Sm m 126 := sm_of_at fun j => by
    have h1 := hx.at (by decide) j
    have h2 := hy.at (by decide) j
    rw [(hm j).1, (hm j).2]; omega
  obtain ⟨c1, _, _⟩ := node_small h hn h9 (by decide) (by decide) hm2 (ws := s) hi (by omega)
  refine ⟨⟨_, a1⟩, ⟨_, b1⟩, ⟨_, c1⟩, ?_⟩
  rw [b1, c1]
  have e1 : own us (i + 1) (dP m) i n = own us (i + 1) (dP x) i n + own us (i + 1) (dP y) i n := by
    rw [← own_add]; exact own_congr n fun j _ => (hm j).1
  have e2 : own us (i + 1) (dM m) i n = own us (i + 1) (dM x) i n + own us (i + 1) (dM y) i n := by
    rw [← own_add]; exact own_congr n fun j _ => (hm j).2
  rw [e1, e2, ← hpi]
  congr 1; omega
theorem app_yes {us : List Int} (h : Lk us) {n : Nat} (hn : n = us.length) {ds : List Dl} {ws : List Int} (hd : D64 ds) (hw : U64 ws) (hl : ds.length = n) (hwl : ws.length = n) {ns : List Nd} (hns : Go.Proofs.Ytonkgjengplppaa.ups ns = us) {w w' : World} {e : Ending}
    (ha : AppP ns ws ds n w e w') (hy : ∀ i, i < n → ∃ v, nodeR us n ds ws i = some v) :
    ∃ A c o, e = .returned (.tuple #[.slice A n c, .int .i64 0]) ∧ o.length = n ∧ U64 o ∧ (∀ i, i < n → nodeR us n ds ws i = some (o.getD i 0)) ∧ URow w' A n o ∧ Below w.heap.size w w' := by
  obtain ⟨hres, hb⟩ := ha
  obtain ⟨g1, g2⟩ := app_agree h hn hd hw hl hwl
  rw [hns] at hres
  rcases hres with ⟨hnone, _⟩ | ⟨x, A, c, hsome, hok, he, hu⟩
  · obtain ⟨k, hk, hk2⟩ := g1 hnone
    obtain ⟨v, hv⟩ := hy k hk
    rw [hv] at hk2; cases hk2
  · exact ⟨A, c, x.o, he, hok.lo, hok.o, g2 x hsome, hu, hb⟩
theorem set_take {l : List Int} {f : Int → Int} {k : Nat} (hk : k < l.length) : ((l.take k).map f ++ l.drop k).set k (f l[k]) = (l.take (k + 1)).map f ++ l.drop (k + 1) := by
  rw [List.take_succ_eq_append_getElem hk, List.map_append]
  have : ((l.take k).map f).length = k := by simp; omega
  rw [List.set_append, if_neg (by omega), this, Nat.sub_self, List.drop_eq_getElem_cons hk, List.set_cons_zero, List.append_assoc]
  rfl
set_option maxRecDepth 20000 in
set_option maxHeartbeats 1000000 in
theorem deltasTogether_walk (a0 : Option Addr) (n0 c0 : Nat) (l0 : List Int) (a1 : Option Addr) (n1 c1 : Nat) (l1 : List Int) (a2 : Option Addr) (n2 c2 : Nat) (l2 : List Int) (a3 : Option Addr) (n3 c3 : Nat) (l3 : List Int) (w : World)
    (_ : Fit .i64 l0) (_ : l0.length = n0) (hr0 : Row w w.heap.size 1 a0 n0 (ints .i64 l0)) (hnc0 : n0 ≤ c0) (hcm0 : c0 ≤ maxLen)
    (_ : Fit .i64 l1) (_ : l1.length = n1) (hr1 : Row w w.heap.size 1 a1 n1 (ints .i64 l1)) (hnc1 : n1 ≤ c1) (hcm1 : c1 ≤ maxLen)
    (_ : Fit .i64 l2) (_ : l2.length = n2) (hr2 : Row w w.heap.size 1 a2 n2 (ints .i64 l2)) (hnc2 : n2 ≤ c2) (hcm2 : c2 ≤ maxLen)
    (_ : Fit .i64 l3) (_ : l3.length = n3) (hr3 : Row w w.heap.size 1 a3 n3 (ints .i64 l3)) (hnc3 : n3 ≤ c3) (hcm3 : c3 ≤ maxLen) :
    Calls Try.prog 11 #[.slice a0 n0 c0, .slice a1 n1 c1, .slice a2 n2 c2, .slice a3 n3 c3] w fun e w' => e = .returned (.bool true) ∧ Below w.heap.size w w' := by
  have HT := bx (tree_any a0 n0 c0 l0 w hr0 (Nat.le_trans hnc0 hcm0))
  have HN1 := bx (fun (n : Nat) (hn : n ≤ 65535) w' (hb : Below w.heap.size w w') => numbers_any w.heap.size a1 n1 c1 l1 n hn w' (hr1.below hb) (Nat.le_trans hnc1 hcm1) hb.size)
  have HL2 := bx (fun (n : Nat) (hn : n ≤ 4096) w' (hb : Below w.heap.size w w') => list_any false w.heap.size a2 n2 c2 l2 n hn w' (hr2.below hb) (Nat.le_trans hnc2 hcm2) hb.size)
  have HL3 := bx (fun (n : Nat) (hn : n ≤ 4096) w' (hb : Below w.heap.size w w') => list_any false w.heap.size a3 n3 c3 l3 n hn w' (hr3.below hb) (Nat.le_trans hnc3 hcm3) hb.size)
  clear hr0 hr1 hr2 hr3 hnc0 hnc1 hnc2 hnc3 hcm0 hcm1 hcm2 hcm3
  go_enter Try.func11, Try.ntmps11
  go_wp2_with fail
  refine HT.out.mono ?_; rintro e w1 ⟨⟨A, c, ns, h0, h9, wf, rfl, hnr⟩, hb⟩
  have B1 := bx hb
  have NR := bx hnr
  have WF := bx wf
  have HN0 := bx h0
  have HN9 := bx h9
  clear hb hnr wf h0 h9
  go_wp2_with fail
  generalize hW : World.alloc w1 _ = w2
  have EX : Bx (Below w1.heap.size w1 w2.drew) := ⟨by rw [← hW]; exact (ext_alloc w1 _).drew⟩
  have X2 : Bx (Has w2.drew w1.heap.size [.slice A ns.length c]) := ⟨by rw [← hW]; exact Has.new w1 _ _⟩
  have N2 := bx (NR.out.below EX.out)
  have B2 := bx (B1.out.trans (EX.out.mono B1.out.size))
  clear hW EX NR B1
  have CN := bx (fun w5 (h5 : Cls w2.drew.heap.size w2.drew w5) => run_nodes1 ((X2.out.below h5.out X2.out.lt).cell 0))
  refine wp_region_mix3 10 (.steps [(0, 0), (0, 1), (0, 2), (0, 3), (0, 5), (0, 6), (0, 7), (0, 8), (2, 4), (2, 9)] .leaf) (by kernel_rfl) (by kernel_rfl) ?_
  simp only [MixT, MT.steps, stepAt, List.getD_cons_zero, List.getD_cons_succ, List.drop_succ_cons, List.drop_zero]
  repeat (first | (with_reducible refine wpQuiet_nil ?_) | (first | go_big_quiet_skip | (go_big_quiet_want; first | ((with_reducible refine quiet_cell 23 _ rfl _ _ ?_ CN.out ?_); rfl; go_big_quiet_on; (simp only [Act.put, List.setIfInBounds_toArray, List.set_cons_succ, List.set_cons_zero])) | (go_big_quiet_op; first | go_big_quiet_on | ((with_reducible refine ⟨_, fun _ _ => rfl, ?_⟩); go_big_quiet_on)))))
  refine mix_call (HL2.out ns.length (by have := HN9.out; omega) _ B2.out) Try.func33 rfl rfl _ _ rfl rfl rfl ?_
  rintro e w3 ⟨A1, c1, xs, hxl, hx64, hxs, rfl, hxo, hb⟩
  refine ⟨_, rfl, hb, ?_⟩
  have X3 := bx (X2.out.below hb X2.out.lt)
  have N3 := bx (N2.out.below hb)
  have B3 := bx (B2.out.trans (hb.mono B2.out.size))
  have U1 := bx (DRow.own hxl hxo)
  have S1 := bx (hxs rfl).sm
  have D1 := bx hx64
  clear hb X2 N2 B2 hxl hxo hxs hx64 CN
  refine mix_call (HL3.out ns.length (by have := HN9.out; omega) _ B3.out) Try.func33 rfl rfl _ _ rfl rfl rfl ?_
  rintro e w4 ⟨A2, c2, ys, hxl, hx64, hxs, rfl, hxo, hb⟩
  refine ⟨_, rfl, hb, ?_⟩
  have X4 := bx (X3.out.below hb X3.out.lt)
  have N4 := bx (N3.out.below hb)
  have B4 := bx (B3.out.trans (hb.mono B3.out.size))
  have U2 := bx (U1.out.below hb)
  have V2 := bx (DRow.own hxl hxo)
  have S2 := bx (hxs rfl).sm
  have D2 := bx hx64
  have hc4 : w4.cell? ⟨w1.heap.size, 0, none⟩ = some (.slice A ns.length c) := X4.out.cell 0
  clear hb X3 N3 B3 U1 hxl hxo hxs hx64
  simp only [Act.put, List.setIfInBounds_toArray, List.set_cons_succ, List.set_cons_zero]
  go_wp2_with fail
  refine NoPanic.normal ?_
  go_wp2_with fail
  refine (HN1.out ns.length (by have := HN9.out; omega) _ B4.out).mono ?_
  rintro e w5 ⟨As, cs, ss, hsl, hss, rfl, hso, hb⟩
  obtain ⟨gs, cs', ps, hv, hgs, hh⟩ := own_block hso HN0.out
  injection hv with hv1 hv2 hv3
  subst hv1; subst hv3
  have HS := bx hh
  have SS := bx hss
  have SL := bx hsl
  have GS := bx hgs
  have FB := bx hb
  clear hb hh hss hsl hso hgs hc4
  go_wp2_with fail
  go_loopw [13] (fun i wr => ∃ k : Nat, k ≤ ns.length ∧ i = .int .i64 k ∧ Has wr gs (ints .u64 ((ss.take k).map (· + 5000) ++ ss.drop k) ++ ps) ∧ Below w4.heap.size w4 wr) (fun i _ => ns.length - (intOf i).toNat)
  case atStart => exact ⟨0, Nat.zero_le _, rfl, by simpa using HS.out, FB.out⟩
  case round =>
    obtain ⟨k, hk, rfl, hg, hbel⟩ := hrel
    have G := bx hg
    have BR := bx hbel
    clear hg hbel HS FB
    have hk9 := HN9.out
    by_cases hkn : k < ns.length
    · have hki : (k : Int) < (ns.length : Int) := by omega
      have hk0 : (0 : Int) ≤ (k : Int) := by omega
      have hkl : k < ss.length := by rw [SL.out]; exact hkn
      have hlen : ((ss.take k).map (· + 5000) ++ ss.drop k).length = ss.length := by simp; omega
      have hat : ((ss.take k).map (· + 5000) ++ ss.drop k).getD k 0 = ss[k] := by
        have h1 : ((ss.take k).map (· + 5000)).length = k := by simp; omega
        rw [List.getD, List.getElem?_append_right (by omega), h1, Nat.sub_self, List.getElem?_drop, Nat.add_zero, List.getElem?_eq_getElem hkl]; rfl
      have hc := URow.cell G.out (k := k) (by rw [hlen]; exact hkl)
      rw [hat] at hc
      have hf : wr.frozen? ⟨gs, k, none⟩ = false := G.out.frozen k
      have hv := SS.out ss[k] (List.getElem_mem hkl)
      have hw5 : (ss[k] + 5000) % 18446744073709551616 = ss[k] + 5000 := by omega
      have G2 := bx (G.out.set k (.int .u64 (ss[k] + 5000)))
      rw [set_u _ _ _ _ (by rw [hlen]; exact hkl), set_take (f := (· + 5000)) hkl] at G2
      have B2' := bx (BR.out.grown (grown_setCell wr gs k (.int .u64 (ss[k] + 5000))) BR.out.size (fun k hk => by cases hk; exact GS.out))
      have HKN := bx hkn
      clear hat hlen G
      generalize ss[k] = v at *
      go_wp2_with fail
      go_roundw
      case rel => exact ⟨k + 1, HKN.out, by go_num, G2.out, B2'.out⟩
      case measure => simp [intOf]; omega
    · obtain rfl : k = ns.length := by omega
      have hfull : (ss.take ns.length).map (· + 5000) ++ ss.drop ns.length = ss.map (· + 5000) := by
        rw [← SL.out, List.take_length, List.drop_length, List.append_nil]
      rw [hfull] at G
      have SSL : Bx ((ss.map (· + 5000)).length = ns.length) := ⟨by rw [List.length_map, SL.out]⟩
      have SSB : Bx (∀ i, i < ns.length → 5000 ≤ (ss.map (· + 5000)).getD i 0 ∧ (ss.map (· + 5000)).getD i 0 ≤ 72057594037932936) := ⟨fun i hi => by
        rw [getD_at (by rw [SSL.out]; exact hi)]
        simp only [List.getElem_map]
        have hil : i < ss.length := by rw [SL.out]; exact hi
        have := SS.out ss[i] (List.getElem_mem hil)
        omega⟩
      have SS64 : Bx (U64 (ss.map (· + 5000))) := ⟨fun x hx => by
        obtain ⟨y, hy, rfl⟩ := List.mem_map.1 hx
        have := SS.out y hy
        show 0 ≤ y + 5000 ∧ y + 5000 < _; omega⟩
      clear hfull
      generalize ss.map (· + 5000) = s' at *
      have X5 := bx (X4.out.below BR.out X4.out.lt)
      have N5 := bx (N4.out.below BR.out)
      have B5 := bx (B4.out.trans (BR.out.mono B4.out.size))
      have U5 := bx (U2.out.below BR.out)
      have V5 := bx (V2.out.below BR.out)
      have R5 : Bx (URow wr (some ⟨gs, 0, none⟩) ns.length s') := ⟨SSL.out, fun _ => ⟨gs, ps, rfl, G.out⟩⟩
      have hn4 : ns.length ≤ 4096 := by have := HN9.out; omega
      have LK := bx WF.out.lk
      have UL : Bx (ns.length = (Go.Proofs.Ytonkgjengplppaa.ups ns).length) := ⟨ups_len.symm⟩
      have ME := bx (fun w' Al ps m cl hm (hl : LL w' Al m ps) => merge_any A Al ns.length c m cl ps hn4 hm w' hl)
      have HA := bx (fun w' A1 A2 c1 c2 ws ds hw hd (h0 : NRow w' A ns.length ns) (h1 : URow w' A1 ns.length ws) (h2 : DRow w' A2 ns.length ds) => apply_any A A1 A2 ns.length c c1 c2 ns ws ds hw hd WF.out.ups hn4 HN0.out w' h0 h1 h2)
      obtain ⟨mm, hm1, hm2, hm3⟩ := mAll_small (P1 := ⟨A1, ns.length, c1, xs⟩) (P2 := ⟨A2, ns.length, c2, ys⟩) U5.out.1 V5.out.1 S1.out S2.out
      have MA := bx hm1
      have ML := bx hm2
      have MD := bx hm3
      have GOOD : Bx (∀ p ∈ [(⟨A1, ns.length, c1, xs⟩ : Pt), ⟨A2, ns.length, c2, ys⟩], p.n = ns.length) := ⟨fun p hp => by
        simp only [List.mem_cons, List.not_mem_nil, or_false] at hp
        rcases hp with rfl | rfl <;> rfl⟩
      have BX := bx (ext_alloc wr (.cells #[.slice A1 ns.length c1, .slice A2 ns.length c2] 61))
      have LLX := bx (ll_pair (p := ⟨A1, ns.length, c1, xs⟩) (q := ⟨A2, ns.length, c2, ys⟩) (Has.new wr [.slice A1 ns.length c1, .slice A2 ns.length c2] 61) (U5.out.below BX.out) (V5.out.below BX.out) D1.out D2.out)
      have TG := bx (fun p hp i hi => together_law LK.out UL.out HN9.out S1.out S2.out MD.out SSB.out (p := p) hp (i := i) hi)
      have AY := bx (fun i (hi : i < ns.length) => (node_small LK.out UL.out HN9.out (by decide) (by decide) S1.out (ws := s') hi (by have := SSB.out i hi; omega)).1)
      have HN63 : Bx (ns.length ≤ 9223372036854775807) := ⟨by omega⟩
      clear hm1 hm2 hm3 hn4 X4 N4 B4 U2 V2 G
      go_wp2_with ((with_reducible refine wpList_loadG 25 _ rfl _ [.slice A ns.length c] ?_ ?_ X5.out Try.underlying25 rfl ?_ ?_); rfl; rfl; exact cells_tree _)
      refine (ME.out _ _ _ 2 2 (by omega) LLX.out).mono ?_
      intro e w6 h6
      obtain ⟨A6, c6, rfl, hm64, hmr, hb6⟩ := h6.some GOOD.out MA.out
      have FB6 := bx (BX.out.trans (hb6.mono BX.out.size))
      have M6 := bx hmr
      have M64 := bx hm64
      have R6 := bx (R5.out.below FB6.out)
      have N6 := bx (N5.out.below FB6.out)
      have X6 := bx (X5.out.below FB6.out X5.out.lt)
      have U6 := bx (U5.out.below FB6.out)
      have V6 := bx (V5.out.below FB6.out)
      have B6 := bx (B5.out.trans (FB6.out.mono B5.out.size))
      clear hb6 hmr hm64 h6 BX LLX ME
      go_wp2_with ((with_reducible refine wpList_loadG 25 _ rfl _ [.slice A ns.length c] ?_ ?_ X6.out Try.underlying25 rfl ?_ ?_); rfl; rfl; exact cells_tree _)
      refine (HA.out _ _ _ _ _ _ _ SS64.out D1.out N6.out R6.out U6.out).mono ?_
      intro e w7 h7
      obtain ⟨A7, c7, p, rfl, hpl, hp64, hpn, hpu, hb7⟩ := app_yes LK.out UL.out D1.out SS64.out U6.out.1 SSL.out rfl h7 (fun i hi => ⟨_, AY.out i hi⟩)
      have P7 := bx hpu
      have P64 := bx hp64
      have PL := bx hpl
      have TP' := bx (TG.out p hpn)
      have FB7 := bx hb7
      have R7 := bx (R6.out.below FB7.out)
      have N7 := bx (N6.out.below FB7.out)
      have X7 := bx (X6.out.below FB7.out X6.out.lt)
      have V7 := bx (V6.out.below FB7.out)
      have B7 := bx (B6.out.trans (FB7.out.mono B6.out.size))
      have M7 := bx (M6.out.below FB7.out)
      clear hb7 hpu hp64 hpl hpn h7 TG AY
      go_wp2_with ((with_reducible refine wpList_loadG 25 _ rfl _ [.slice A ns.length c] ?_ ?_ X7.out Try.underlying25 rfl ?_ ?_); rfl; rfl; exact cells_tree _)
      refine (HA.out _ _ _ _ _ _ _ P64.out D2.out N7.out P7.out V7.out).mono ?_
      intro e w8 h8
      obtain ⟨A8, c8, qq, rfl, hpl, hp64, hpn, hpu, hb8⟩ := app_yes LK.out UL.out D2.out P64.out V7.out.1 PL.out rfl h8 (fun i hi => (TP'.out i hi).2.1)
      have Q8 := bx hpu
      have QL := bx hpl
      have QN := bx hpn
      have FB8 := bx hb8
      have R8 := bx (R7.out.below FB8.out)
      have N8 := bx (N7.out.below FB8.out)
      have X8 := bx (X7.out.below FB8.out X7.out.lt)
      have B8 := bx (B7.out.trans (FB8.out.mono B7.out.size))
      have M8 := bx (M7.out.below FB8.out)
      clear hb8 hpu hp64 hpl hpn h8
      go_wp2_with ((with_reducible refine wpList_loadG 25 _ rfl _ [.slice A ns.length c] ?_ ?_ X8.out Try.underlying25 rfl ?_ ?_); rfl; rfl; exact cells_tree _)
      refine (HA.out _ _ _ _ _ _ _ SS64.out M64.out N8.out R8.out M8.out).mono ?_
      intro e w9 h9
      obtain ⟨A9, c9, rr, rfl, hpl, hp64, hpn, hpu, hb9⟩ := app_yes LK.out UL.out M64.out SS64.out M8.out.1 SSL.out rfl h9 (fun i hi => (TP'.out i hi).2.2.1)
      have EQ : Bx (qq = rr) := ⟨list_ext_getD QL.out hpl (fun i hi => by
        have := ((QN.out i hi).symm.trans (TP'.out i hi).2.2.2).trans (hpn i hi)
        injection this)⟩
      have T9 := bx hpu
      have Q9 := bx (Q8.out.below hb9)
      have X9 := bx (X8.out.below hb9 X8.out.lt)
      have B9 := bx (B8.out.trans (hb9.mono B8.out.size))
      have hc9 : w9.cell? ⟨w1.heap.size, 0, none⟩ = some (.slice A ns.length c) := X9.out.cell 0
      have HSM := bx (sameNumbers_any _ A8 A9 ns.length ns.length c8 c9 qq rr w9 (Nat.le_refl _) Q9.out.row T9.out.row HN63.out HN63.out)
      clear hb9 hpu hp64 hpl hpn h9
      go_wp2_with fail
      refine HSM.out.mono ?_; rintro e w10 ⟨rfl, hb⟩
      rw [decide_eq_true EQ.out]
      have B10 := bx (B9.out.trans (hb.mono B9.out.size))
      clear hb
      go_wp2_with fail
      refine (awake14_any _).mono ?_; rintro e w11 ⟨rfl, hb⟩
      have B11 := bx (B10.out.trans (hb.mono B10.out.size))
      clear hb B10
      go_wp2_with fail
      go_ret
      exact ⟨rfl, B11.out⟩
end Go.Proofs.Ytonkgjengplppaa
