/- Votes: supporters. -/
import Derived.Test.YtfkimlmfgipfjaaCast
import Derived.Test.YtfkimlmfgipfjaaVoteEq
import Derived.Deep.Onto
namespace Go.Proofs.Ytfkimlmfgipfjaa
open Go.RowKit

theorem info_int : (Try.prog.info? 3).map (fun i => (i.zero, i.size, i.bytes)) = some (some (.int .i64 0), 1, 8) := by kernel_rfl
/-- a part of a variable is read -/
theorem wpList_loadR {P : Program} {ops : Array Oper} {rest : List Oper} {op : Oper} {a : Act} {w : World} {Q : Exit → Act → World → Prop} (ty : TypeId) (x : Operand) (ho : op.op = .load ty x)
    (hgd : Region.wanted op (yielded ops a.tmps) = true) (g o : Nat) (cs : List Value) (hr : w.rangeAt g o cs) (hx : a.eval x = .pointer (some ⟨g, o, none⟩)) {d : TypeDesc} (hu : P.underlying ty = some d) (hd : d.isRow = true) (hc : P.cellsOf ty = cs.length)
    (h : wpList P ops Q rest (a.put op.dst (.agg cs.toArray)) w) : wpList P ops Q (op :: rest) a w :=
  wpList_go hgd fun K hK => wp_load_mid ty x ho g o hx cs d hr hu hd (info_size hu hc) (hK _ _ h)
theorem Has.root {w : World} {g : Nat} {v : Vt} (h : Has w g (vc v)) : w.rangeAt g 2 (ints .u8 v.2.2) := fun j u hu => by
  rw [h.cell]
  have : (vc v)[2 + j]? = (ints .u8 v.2.2)[j]? := by
    rw [show vc v = [.bool v.1, .int .u64 v.2.1] ++ ints .u8 v.2.2 from rfl, List.getElem?_append_right (by simp)]
    simp
  rw [this, hu]

/-- whether a vote is for a root -/
def backs (v : Vt) (r : List Int) : Bool := v.1 && decide (v.2.2 = r)
/-- those among the first k validators -/
def supI (vs : List Vt) (r : List Int) (k : Nat) : List Int := ((List.range k).filter fun i => backs (vs.getD i zv) r).map Int.ofNat
theorem supI_yes {vs : List Vt} {r : List Int} {k : Nat} (h : backs (vs.getD k zv) r = true) : supI vs r (k + 1) = supI vs r k ++ [(k : Int)] := by
  simp only [supI, List.range_succ, List.filter_append, List.map_append]
  rw [List.filter_cons, if_pos (by exact h)]
  simp
theorem supI_no {vs : List Vt} {r : List Int} {k : Nat} (h : backs (vs.getD k zv) r = false) : supI vs r (k + 1) = supI vs r k := by
  simp only [supI, List.range_succ, List.filter_append, List.map_append]
  rw [List.filter_cons, if_neg (by rw [h]; simp)]
  simp
theorem supI_len (vs : List Vt) (r : List Int) (k : Nat) : (supI vs r k).length ≤ k := by
  simp only [supI, List.length_map]
  exact Nat.le_trans (List.length_filter_le _ _) (by simp)

def SupPost (l : List Int) (w : World) (e : Ending) (w' : World) : Prop :=
  ∃ v, e = .returned v ∧ w'.ownsRow w.heap.size 3 1 v l.length (ints .i64 l) ∧ Below w.heap.size w w'

set_option maxRecDepth 20000 in
set_option maxHeartbeats 1000000 in
theorem supporters_any {g h : Nat} {vs : List Vt} (r : List Int) (lr : r.length = 32) (w : World) (ht : Tab w g h vs) (hn : vs.length ≤ 1024) :
    Calls Try.prog 17 #[.pointer (some ⟨g, 0, none⟩), .agg (ints .u8 r).toArray] w (SupPost (supI vs r vs.length) w) := by
  obtain ⟨i0, hi0, hz0, hz1, hz2⟩ := info_parts info_int
  have HI := Lib.hid (show Try.prog.info? 3 = some i0 from hi0)
  have hg := ht.1.lt
  have hh := ht.2.1.lt
  have hc : w.cell? ⟨g, 0, none⟩ = some (.slice (some ⟨h, 0, none⟩) vs.length vs.length) := by rw [ht.1.cell]; rfl
  have HT := Lib.hid ht
  have HX := Lib.hid (Has.new w (ints .u8 r) 32)
  have HLR := Lib.hid lr
  obtain ⟨n, hvn⟩ : ∃ n, n = vs.length := ⟨_, rfl⟩
  have HVN := Lib.hid hvn
  rw [← hvn] at hc hn ⊢
  clear ht lr hvn
  go_enter Try.func17, Try.ntmps17
  go_wp2
  go_loopw [5, 13] (fun s i wr => ∃ k : Nat, k ≤ n ∧ i = .int .i64 k ∧ wr.ownsRow (w.heap.size + 1) 3 1 s (supI vs r k).length (ints .i64 (supI vs r k)) ∧ Below (w.heap.size + 1) (w.alloc (.cells (ints .u8 r).toArray 32)) wr) (fun _ i _ => n - (intOf i).toNat)
  case atStart => exact ⟨0, Nat.zero_le _, rfl, ⟨rfl, .inl ⟨rfl, rfl⟩⟩, Below.refl _ _⟩
  case round =>
    obtain ⟨k, hk, rfl, hown, hbel⟩ := hrel
    have HOWN := Lib.hid hown
    have HBEL := Lib.hid hbel
    clear hown hbel
    by_cases hkn : k < n
    · have hkl : k < vs.length := by rw [← HVN.out]; exact hkn
      have T2 := Lib.hid ((HT.out.alloc _).below HBEL.out (Nat.lt_succ_of_lt hg) (Nat.lt_succ_of_lt hh))
      have HTh := Lib.hid T2.out.2.1
      have HTl := Lib.hid T2.out.2.2.1.len
      have hol : Hid (vs[k].2.2.length = 32) := T2.out.2.2.1 _ (List.getElem_mem hkl)
      have hgd : Hid (vs.getD k zv = vs[k]) := by show _ = _; rw [List.getD_eq_getElem?_getD, List.getElem?_eq_getElem hkl]; rfl
      have HZ := Lib.hid (Has.new wr (vc zv) 35)
      have HLL : Hid ((vc zv).length = (vc vs[k]).length) := by show _ = _; rw [vc_len hol.out]; rfl
      have HO1 := Lib.hid (vc_one vs[k])
      have hzv := zv_lit
      have HXR := Lib.hid (HX.out.below HBEL.out (Nat.lt_succ_self _))
      have HNE : Hid (some w.heap.size ≠ some wr.heap.size) := fun e => by injection e with e; have := HBEL.out.size; simp at this; omega
      have HSZ : Hid (w.heap.size + 1 ≤ wr.heap.size) := by show _ ≤ _; have := HBEL.out.size; simpa using this
      have HOB : Hid (u5.ownBlock = none ∨ u5.ownBlock ≠ some wr.heap.size) := .inr (fun e => by have := (HOWN.out.lt _ e).2; omega)
      have hc1 : wr.cell? ⟨g, 0, none⟩ = some (.slice (some ⟨h, 0, none⟩) n n) := by rw [T2.out.1.cell, HVN.out]; rfl
      have hgs : g < wr.heap.size := T2.out.1.lt
      have C1 : Hid (∀ u ∈ [Value.int .i64 (k : Int)], u.oneCell' = true) := by intro u hu; simp at hu; subst hu; rfl
      have HM1 : Hid ((supI vs r k).length + 1 ≤ maxLen) := by have := supI_len vs r k; show _ ≤ _; unfold maxLen; omega
      have HM2 : Hid (((supI vs r k).length + 1) * 8 ≤ 140737488355328) := by have := supI_len vs r k; show _ ≤ _; omega
      cases hb1 : vs[k].1 with
      | false =>
        have HF0 : Hid (∀ (w2 : World) (b : Nat), Has w2 b (vc vs[k]) → w2.cell? ⟨b, 0, none⟩ = some (.bool false)) := fun w2 b hb => by rw [hb.cell, ← hb1]; rfl
        have HN : Hid (supI vs r (k + 1) = supI vs r k) := supI_no (by rw [hgd.out]; unfold backs; rw [hb1]; rfl)
        clear hb1
        go_wp2_with (first | ((with_reducible refine wpList_loadE 35 _ rfl ?_ h vs k ?_ HTh.out HTl.out hkl Try.underlying35 ?_ ?_ ?_); rfl; rfl; rfl; exact cells_vote') | ((with_reducible refine wpList_storeB rfl 35 _ _ rfl _ (vc vs[k]) _ ?_ ?_ HZ.out HLL.out Try.underlying35 ?_ HO1.out ?_); rfl; rfl; exact cells_vote hol.out; intro w2 hw2 hg2 hz2; have hf0 := HF0.out w2 _ hw2; have HW2 := Lib.hid hw2; have HR2 := Lib.hid (Has.root hw2); have HG2 := Lib.hid (grown_over_alloc hg2); have HX2 := Lib.hid (HXR.out.grown (grown_over_alloc hg2) HNE.out); have HOWN2 := Lib.hid (HOWN.out.kept (grown_over_alloc hg2) HOB.out); have HB2 := Lib.hid (HBEL.out.grown (grown_over_alloc hg2) HSZ.out (fun k hk => by cases hk; exact HSZ.out)); have HSZ2 := Lib.hid (Nat.le_trans HSZ.out (grown_over_alloc hg2).size); clear hw2 hg2 hz2) | ((with_reducible refine wpList_loadR 32 _ rfl ?_ wr.heap.size 2 _ HR2.out ?_ Try.underlying32 ?_ ?_ ?_); rfl; rfl; rfl; exact cells_root hol.out) | ((with_reducible refine wpList_loadG 32 _ rfl _ _ ?_ ?_ HX2.out Try.underlying32 ?_ ?_ ?_); rfl; rfl; rfl; exact cells_root HLR.out) | (at_builtin; (with_reducible refine wpList_push rfl (.tmp 26) (.tmp 28) 40 rfl (w.heap.size + 1) 3 i0 _ 1 8 Try.underlying40 HI.out hz0 hz1 hz2 rfl (by omega) _ _ _ ?_ HOWN2.out [.int .i64 k] ?_ rfl C1.out ?_ ?_ ?_ ?_); rfl; rfl; exact HM1.out; exact HM2.out; exact HSZ2.out; intro v' w' hown' hg' hbel' _; have HOWN3 := Lib.hid hown'; have HB3 := Lib.hid (HB2.out.trans hbel'); clear hown' hg' hbel'))
        go_roundw
        case rel => exact ⟨k + 1, by omega, by go_num, by rw [HN.out]; exact HOWN2.out, HB2.out⟩
        case measure => simp [intOf]; omega
      | true =>
        have HF0 : Hid (∀ (w2 : World) (b : Nat), Has w2 b (vc vs[k]) → w2.cell? ⟨b, 0, none⟩ = some (.bool true)) := fun w2 b hb => by rw [hb.cell, ← hb1]; rfl
        by_cases hrr : vs[k].2.2 = r
        · have hq : ∀ w : World, (Op.equalIn 10000 32 (.agg (ints .u8 vs[k].2.2).toArray) (.agg (ints .u8 r).toArray)).run Try.prog w = .ok true w := fun w => by
            have := root_same hol.out HLR.out w
            rwa [decide_eq_true hrr] at this
          have HN : Hid (supI vs r (k + 1) = supI vs r k ++ [(k : Int)]) := supI_yes (by rw [hgd.out]; unfold backs; rw [hb1, decide_eq_true hrr]; rfl)
          clear hb1 hrr
          go_wp2_with (first | ((with_reducible refine wpList_loadE 35 _ rfl ?_ h vs k ?_ HTh.out HTl.out hkl Try.underlying35 ?_ ?_ ?_); rfl; rfl; rfl; exact cells_vote') | ((with_reducible refine wpList_storeB rfl 35 _ _ rfl _ (vc vs[k]) _ ?_ ?_ HZ.out HLL.out Try.underlying35 ?_ HO1.out ?_); rfl; rfl; exact cells_vote hol.out; intro w2 hw2 hg2 hz2; have hf0 := HF0.out w2 _ hw2; have HW2 := Lib.hid hw2; have HR2 := Lib.hid (Has.root hw2); have HG2 := Lib.hid (grown_over_alloc hg2); have HX2 := Lib.hid (HXR.out.grown (grown_over_alloc hg2) HNE.out); have HOWN2 := Lib.hid (HOWN.out.kept (grown_over_alloc hg2) HOB.out); have HB2 := Lib.hid (HBEL.out.grown (grown_over_alloc hg2) HSZ.out (fun k hk => by cases hk; exact HSZ.out)); have HSZ2 := Lib.hid (Nat.le_trans HSZ.out (grown_over_alloc hg2).size); clear hw2 hg2 hz2) | ((with_reducible refine wpList_loadR 32 _ rfl ?_ wr.heap.size 2 _ HR2.out ?_ Try.underlying32 ?_ ?_ ?_); rfl; rfl; rfl; exact cells_root hol.out) | ((with_reducible refine wpList_loadG 32 _ rfl _ _ ?_ ?_ HX2.out Try.underlying32 ?_ ?_ ?_); rfl; rfl; rfl; exact cells_root HLR.out) | (at_builtin; (with_reducible refine wpList_push rfl (.tmp 26) (.tmp 28) 40 rfl (w.heap.size + 1) 3 i0 _ 1 8 Try.underlying40 HI.out hz0 hz1 hz2 rfl (by omega) _ _ _ ?_ HOWN2.out [.int .i64 k] ?_ rfl C1.out ?_ ?_ ?_ ?_); rfl; rfl; exact HM1.out; exact HM2.out; exact HSZ2.out; intro v' w' hown' hg' hbel' _; have HOWN3 := Lib.hid hown'; have HB3 := Lib.hid (HB2.out.trans hbel'); clear hown' hg' hbel'))
          go_roundw
          case rel =>
            refine ⟨k + 1, by omega, by go_num, ?_, HB3.out⟩
            have e1 : ints .i64 (supI vs r k ++ [(k : Int)]) = ints .i64 (supI vs r k) ++ [.int .i64 (k : Int)] := by simp [ints]
            rw [HN.out, List.length_append, e1]
            exact HOWN3.out
          case measure => simp [intOf]; omega
        · have hq : ∀ w : World, (Op.equalIn 10000 32 (.agg (ints .u8 vs[k].2.2).toArray) (.agg (ints .u8 r).toArray)).run Try.prog w = .ok false w := fun w => by
            have := root_same hol.out HLR.out w
            rwa [decide_eq_false hrr] at this
          have HN : Hid (supI vs r (k + 1) = supI vs r k) := supI_no (by rw [hgd.out]; unfold backs; rw [hb1, decide_eq_false hrr]; rfl)
          clear hb1 hrr
          go_wp2_with (first | ((with_reducible refine wpList_loadE 35 _ rfl ?_ h vs k ?_ HTh.out HTl.out hkl Try.underlying35 ?_ ?_ ?_); rfl; rfl; rfl; exact cells_vote') | ((with_reducible refine wpList_storeB rfl 35 _ _ rfl _ (vc vs[k]) _ ?_ ?_ HZ.out HLL.out Try.underlying35 ?_ HO1.out ?_); rfl; rfl; exact cells_vote hol.out; intro w2 hw2 hg2 hz2; have hf0 := HF0.out w2 _ hw2; have HW2 := Lib.hid hw2; have HR2 := Lib.hid (Has.root hw2); have HG2 := Lib.hid (grown_over_alloc hg2); have HX2 := Lib.hid (HXR.out.grown (grown_over_alloc hg2) HNE.out); have HOWN2 := Lib.hid (HOWN.out.kept (grown_over_alloc hg2) HOB.out); have HB2 := Lib.hid (HBEL.out.grown (grown_over_alloc hg2) HSZ.out (fun k hk => by cases hk; exact HSZ.out)); have HSZ2 := Lib.hid (Nat.le_trans HSZ.out (grown_over_alloc hg2).size); clear hw2 hg2 hz2) | ((with_reducible refine wpList_loadR 32 _ rfl ?_ wr.heap.size 2 _ HR2.out ?_ Try.underlying32 ?_ ?_ ?_); rfl; rfl; rfl; exact cells_root hol.out) | ((with_reducible refine wpList_loadG 32 _ rfl _ _ ?_ ?_ HX2.out Try.underlying32 ?_ ?_ ?_); rfl; rfl; rfl; exact cells_root HLR.out) | (at_builtin; (with_reducible refine wpList_push rfl (.tmp 26) (.tmp 28) 40 rfl (w.heap.size + 1) 3 i0 _ 1 8 Try.underlying40 HI.out hz0 hz1 hz2 rfl (by omega) _ _ _ ?_ HOWN2.out [.int .i64 k] ?_ rfl C1.out ?_ ?_ ?_ ?_); rfl; rfl; exact HM1.out; exact HM2.out; exact HSZ2.out; intro v' w' hown' hg' hbel' _; have HOWN3 := Lib.hid hown'; have HB3 := Lib.hid (HB2.out.trans hbel'); clear hown' hg' hbel'))
          go_roundw
          case rel => exact ⟨k + 1, by omega, by go_num, by rw [HN.out]; exact HOWN2.out, HB2.out⟩
          case measure => simp [intOf]; omega
    · have hkk : k = n := by omega
      subst hkk
      go_wp2_with fail
      go_ret
      exact ⟨_, rfl, HOWN.out.mono (Nat.le_succ _), ((Below.refl _ _).alloc (Nat.le_refl _) _).trans (HBEL.out.mono (Nat.le_succ _))⟩
end Go.Proofs.Ytfkimlmfgipfjaa
