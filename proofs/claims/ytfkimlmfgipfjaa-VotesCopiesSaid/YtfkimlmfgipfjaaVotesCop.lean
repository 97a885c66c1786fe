/- The walk of VotesCopies. -/
import Derived.Test.YtfkimlmfgipfjaaClone
import Derived.Test.YtfkimlmfgipfjaaSameInts
import Derived.Test.YtfkimlmfgipfjaaVotesAwake
import Derived.Test.YtfkimlmfgipfjaaMasks
namespace Go.Proofs.Ytfkimlmfgipfjaa
open Go.RowKit

theorem vote_field0 (v : Vt) (w : World) : (Instr.field 35 (.agg (vc v).toArray) 0).run Try.prog w = .ok (.bool v.1) w := by
  have h0 : (vc v)[0]? = some (.bool v.1) := rfl
  simp [Instr.field, run_underlying Try.underlying35, asAgg, part, isAgg, run_underlying Try.underlying4, h0]
/-- two casts of a new vote -/
theorem co1 (E : Int) : castN E (rootL 1) (List.replicate 2 zv) [0, 1] = 2 := rfl
theorem co2 (E : Int) : castV E (rootL 1) (List.replicate 2 zv) [0, 1] = [(true, E, rootL 1), (true, E, rootL 1)] := rfl
theorem co3 : vErr [0, 1] ((List.replicate 2 zv).length : Int) = 0 := rfl
theorem co4 (E : Int) : supI [(true, E, rootL 1), (true, E, rootL 1)] (rootL 1) 2 = [0, 1] := by
  have h : backs (true, E, rootL 1) (rootL 1) = true := by simp [backs]
  rw [supI_yes (k := 1) (by exact h), supI_yes (k := 0) (by exact h)]
  rfl

/-- a row of the call's own, with elements, as a block -/
theorem own_block {w : World} {base : Nat} {e : TypeId} {size : Nat} {v : Value} {n : Nat} {xs : List Value} (h : w.ownsRow base e size v n xs) (hn : 0 < n) :
    ∃ g c post, v = .slice (some ⟨g, 0, none⟩) n c ∧ base ≤ g ∧ Has w g (xs ++ post) := by
  rcases h.2 with ⟨h1, h2⟩ | ⟨g, cap, cur, h1, h2, h3, h4, h5, h6, h7⟩
  · omega
  · refine ⟨g, cap, cur.toList.drop (n * size), h1, h2, ⟨e, ?_⟩⟩
    rw [← h7, List.take_append_drop]
    simpa using h3
/-- the first cells of a block are written -/
theorem wpList_storeP {P : Program} {ops : Array Oper} {rest : List Oper} {o : Oper} {a : Act} {w : World} {Q : Exit → Act → World → Prop} (hgd : o.guard = none) (ty : TypeId) (x y : Operand) (ho : o.op = .store ty x y)
    (g : Nat) (cs mid post : List Value) (hx : a.eval x = .pointer (some ⟨g, 0, none⟩)) (hy : a.eval y = .agg cs.toArray) (hg : Has w g (mid ++ post)) (hl : mid.length = cs.length) {d : TypeDesc}
    (hu : P.underlying ty = some d) (hi : P.cellsOf ty = cs.length) (h1 : ∀ u ∈ cs, u.oneCell' = true)
    (h : ∀ w', Has w' g (cs ++ post) → w.grownBy w' (some g) → w'.heap.size = w.heap.size → wpList P ops Q rest (a.put o.dst undef) w') : wpList P ops Q (o :: rest) a w := by
  have ht : w.there g 0 cs.toArray.size := fun j hj => by
    have hj' : j < (mid ++ post).length := by rw [List.length_append, hl]; simp at hj; omega
    rw [Nat.zero_add, hg.cell j, hg.frozen j, List.getElem?_eq_getElem hj']
    exact ⟨rfl, rfl⟩
  refine wpList_store_mid hgd ty x y ho g 0 cs.toArray hx hy ht (by simpa using info_size hu hi) (all_oneCell_toArray h1) ?_
  obtain ⟨q1, q2, q3⟩ := setCells_all g cs mid [] post w hl (by simpa using hg)
  exact h _ (by simpa using q1) (by simpa using q2) (by simpa using q3)
theorem Tab.far {w : World} {g h : Nat} {vs : List Vt} (t : Tab w g h vs) {p : Addr} (hg : g ≠ p.block) (hh : h ≠ p.block) (u : Value) : Tab (w.setCell p u) g h vs := ⟨t.1.far hg u, t.2.1.far hh u, t.2.2⟩

set_option maxRecDepth 20000 in
set_option maxHeartbeats 1000000 in
theorem votesCopies_walk (n : Int) (w : World) (hn : (Lit.int .i64 n).wf = true) :
    Calls Try.prog 6 #[.int .i64 n] w fun e w' => e = .returned (.bool true) ∧ Below w.heap.size w w' := by
  have HK := Lib.hid votes_awake
  have hzv := zv_lit
  have HN := Lib.hid (newTable_any 2 (by omega))
  have HR := Lib.hid root_any
  go_enter Try.func6, Try.ntmps6
  go_wp2_with fail
  refine (HN.out _).mono ?_; rintro e w1 ⟨rfl, ht1, hb1⟩
  have T1 := Lib.hid ht1
  have B1 := Lib.hid hb1
  clear ht1 hb1
  go_wp2_with fail
  refine (HR.out _ _).mono ?_; rintro e w2 ⟨rfl, hb2⟩
  have T2 := Lib.hid (T1.out.below hb2 T1.out.1.lt T1.out.2.1.lt)
  have B2 := Lib.hid (B1.out.trans (hb2.mono B1.out.size))
  clear hb2
  go_wp2_with fail
  have C1 := cast_any (IntKind.u64.wrap (bits BinOp.and IntKind.i64 n 7)) (rootL 1) (rootL_length 1) (some ⟨w2.heap.size, 0, none⟩) 2 2 [0, 1] (w2.alloc (.cells (ints .i64 [0, 1]).toArray 3)) (T2.out.alloc _) (row_new w2 .i64 [0, 1] 3 2 rfl) (fun ad he => by injection he with he; subst he; exact Nat.ne_of_gt T2.out.2.1.lt) (by omega)
  generalize IntKind.u64.wrap (bits BinOp.and IntKind.i64 n 7) = E at *
  refine C1.mono ?_; rintro e w3 hp
  have he : e = .returned (.tuple #[.int .i64 2, .int .i64 0]) := by rw [hp.1, co1, co3]; rfl
  have T3 : Hid (Tab w3 (w.heap.size + 1) w.heap.size [(true, E, rootL 1), (true, E, rootL 1)]) := by have := hp.2.1; rw [co2] at this; exact this
  have B3 := Lib.hid (hp.below (B2.out.alloc B2.out.size _) (Nat.le_refl _) (by have := B2.out.size; simp; omega))
  clear hp C1
  subst he
  go_wp2_with fail
  refine (votes_any w3 T3.out (by simp)).mono ?_; rintro e w4 ⟨v, he, ho, hb4⟩
  obtain ⟨gl, cl, pl, hv, hgl, hbl⟩ := own_block ho (by simp)
  subst hv
  subst he
  have T4 := Lib.hid (T3.out.below hb4 T3.out.1.lt T3.out.2.1.lt)
  have B4 := Lib.hid (B3.out.trans (hb4.mono B3.out.size))
  have L4 := Lib.hid hbl
  have GL := Lib.hid hgl
  clear hb4 ho hbl hgl
  go_wp2_with fail
  refine (HR.out _ _).mono ?_; rintro e w5 ⟨rfl, hb5⟩
  have T5 := Lib.hid (T4.out.below hb5 T4.out.1.lt T4.out.2.1.lt)
  have B5 := Lib.hid (B4.out.trans (hb5.mono B4.out.size))
  have L5 := Lib.hid (L4.out.below hb5 L4.out.lt)
  clear hb5
  go_wp2_with fail
  refine (supporters_any (rootL 1) (rootL_length 1) w5 T5.out (by simp)).mono ?_; rintro e w6 ⟨v, he, ho, hb6⟩
  have hs2 : supI [(true, E, rootL 1), (true, E, rootL 1)] (rootL 1) [(true, E, rootL 1), (true, E, rootL 1)].length = [0, 1] := co4 E
  rw [hs2] at ho
  obtain ⟨gs, cs, ps, hv, hgs, hbs⟩ := own_block ho (by simp)
  subst hv
  subst he
  have T6 := Lib.hid (T5.out.below hb6 T5.out.1.lt T5.out.2.1.lt)
  have B6 := Lib.hid (B5.out.trans (hb6.mono B5.out.size))
  have L6 := Lib.hid (L5.out.below hb6 L5.out.lt)
  have S6 := Lib.hid hbs
  have GS := Lib.hid hgs
  have GLS := Lib.hid (Nat.lt_of_lt_of_le L5.out.lt hgs)
  clear hb6 ho hbs hgs hs2
  have L6' : Hid (Has w6 gl (vc (true, E, rootL 1) ++ (vc (true, E, rootL 1) ++ pl))) := by show Has _ _ _; have := L6.out; simpa using this
  have HL6 : Hid ((vc (true, E, rootL 1)).length = (vc zv).length) := by show _ = _; rw [vc_len (rootL_length 1)]; rfl
  have hN1 : Hid (w.heap.size + 1 < gl) := by show _ < _; have := T3.out.1.lt; have := GL.out; omega
  have hN2 : Hid (w.heap.size + 1 < gs) := by show _ < _; have := hN1.out; have := GLS.out; omega
  have HZ1 := Lib.hid (vc_one zv)
  go_wp2_with ((with_reducible refine wpList_storeP rfl 35 _ _ rfl gl (vc zv) _ _ ?_ ?_ L6'.out HL6.out Try.underlying35 ?_ HZ1.out ?_); rfl; rfl; exact cells_vote rfl; intro w7 hw7 hg7 hz7; have T7 := Lib.hid (T6.out.grown hg7 (ne_some (Nat.ne_of_lt hN1.out)) (ne_some (Nat.ne_of_lt (Nat.lt_of_succ_lt hN1.out)))); have S7 := Lib.hid (S6.out.grown hg7 (ne_some (Nat.ne_of_gt GLS.out))); have B7 := Lib.hid (B6.out.grown hg7 B6.out.size (fun k hk => by cases hk; exact Nat.le_of_lt (Nat.lt_of_succ_lt hN1.out))); have hcs7 : w7.cell? ⟨gs, 0, none⟩ = some (.int .i64 0) := (by rw [S7.out.cell]; rfl); have hfs7 : w7.frozen? ⟨gs, 0, none⟩ = false := S7.out.frozen 0; clear hw7 hg7 hz7)
  have T8 := Lib.hid (T7.out.far (p := ⟨gs, 0, none⟩) (Nat.ne_of_lt hN2.out) (Nat.ne_of_lt (Nat.lt_of_succ_lt hN2.out)) (.int .i64 9))
  have B8 := Lib.hid (B7.out.setCell (p := ⟨gs, 0, none⟩) (Nat.le_of_lt (Nat.lt_of_succ_lt hN2.out)) (.int .i64 9))
  clear hcs7 hfs7
  generalize w7.setCell ⟨gs, 0, none⟩ (.int .i64 9) = w8 at *
  have V1 := Lib.hid (vote_any 0 w8 T8.out)
  have hv1 : voteAt [(true, E, rootL 1), (true, E, rootL 1)] 0 = (true, E, rootL 1) := rfl
  rw [hv1] at V1
  have hf0 : ∀ w : World, (Instr.field 35 (.agg (vc (true, E, rootL 1)).toArray) 0).run Try.prog w = .ok (.bool true) w := fun w => vote_field0 _ w
  clear hv1
  refine V1.out.mono ?_; rintro e w9 ⟨rfl, hb9⟩
  have T9 := Lib.hid (T8.out.below hb9 T8.out.1.lt T8.out.2.1.lt)
  have B9 := Lib.hid (B8.out.trans (hb9.mono B8.out.size))
  clear hb9
  go_wp2_with fail
  refine (HR.out _ _).mono ?_; rintro e x1 ⟨rfl, hb1⟩
  have T10 := Lib.hid (T9.out.below hb1 T9.out.1.lt T9.out.2.1.lt)
  have B10 := Lib.hid (B9.out.trans (hb1.mono B9.out.size))
  clear hb1
  go_wp2_with fail
  refine (supporters_any (rootL 1) (rootL_length 1) x1 T10.out (by simp)).mono ?_; rintro e x2 ⟨v, he, ho, hb2⟩
  have hs2 : supI [(true, E, rootL 1), (true, E, rootL 1)] (rootL 1) [(true, E, rootL 1), (true, E, rootL 1)].length = [0, 1] := co4 E
  rw [hs2] at ho
  obtain ⟨gq, cq, pq, hv, hgq, hbq⟩ := own_block ho (by simp)
  subst hv
  subst he
  have R2 := Lib.hid (Row.own ho)
  have B11 := Lib.hid (B10.out.trans (hb2.mono B10.out.size))
  clear hb2 ho hgq hbq hs2
  go_wp2_with fail
  have SI := Lib.hid (sameInts_any (some ⟨gq, 0, none⟩) (some ⟨x2.heap.size, 0, none⟩) 2 2 cq 2 [0, 1] [0, 1] (x2.alloc (.cells (ints .i64 [0, 1]).toArray 3)) ((R2.out.alloc (Nat.le_refl _) _).more (by simp)) (row_new x2 .i64 [0, 1] 3 2 rfl) (by omega) (by omega))
  rw [decide_eq_true rfl] at SI
  refine SI.out.mono ?_; rintro e x3 ⟨rfl, hb3⟩
  have B12 := Lib.hid ((B11.out.alloc B11.out.size (.cells (ints .i64 [0, 1]).toArray 3)).trans (hb3.mono (B11.out.alloc B11.out.size (.cells (ints .i64 [0, 1]).toArray 3)).size))
  clear hb3
  go_wp2_with fail
  refine (HK.out _).mono ?_; rintro e x4 ⟨rfl, hb4⟩
  have B13 := Lib.hid (B12.out.trans (hb4.mono B12.out.size))
  clear hb4
  go_wp2_with fail
  go_ret
  exact ⟨rfl, B13.out⟩
end Go.Proofs.Ytfkimlmfgipfjaa
