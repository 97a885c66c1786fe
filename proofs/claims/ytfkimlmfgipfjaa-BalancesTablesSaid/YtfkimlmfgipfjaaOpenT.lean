/- How a table is opened that is given as an argument. -/
import Derived.Test.YtfkimlmfgipfjaaOpen
import Derived.Test.YtfkimlmfgipfjaaBkSum
namespace Go.Proofs.Ytfkimlmfgipfjaa
open Go.RowKit Go.ChangeShapes Go.WideShapes Go.Deep
set_option maxRecDepth 20000 in
theorem open_table {H : Type} {enc : TypeId × Value → H} {w : World} {base : Nat} {spare : Nat → Bool} {held : Bool} {r : Reach} {b0 : Nat} {v : Value} {d : DataW H} {p : List MemPlace}
    (hv : Value.okWide Try.prog w r b0 55 v) (h : DataW.Trod enc Try.prog w base spare held 55 v d p) :
    ∃ (c : Ck) (A : Option Addr) (n cap : Nat) (l : List Int), v = .agg (tbc c (.slice A n cap)).toArray ∧ c.2.length = 32 ∧ Fit .u64 l ∧ l.length = n ∧ Row w w.heap.size 1 A n (ints .u64 l) ∧ n ≤ cap ∧ cap ≤ maxLen := by
  obtain ⟨cs, rfl, hsz⟩ := okWide_struct Try.underlying55 hv
  obtain ⟨fuel, hf⟩ := h
  obtain ⟨xs, m, _, _, hlen, hxl, hg⟩ := DataW.trod_struct Try.underlying55 hf
  have hl34 : cs.toList.length = 34 := by
    have : Try.prog.cellsOf 55 = 34 := by kernel_rfl
    rw [← this]; exact hlen
  have h0 : DataW.trod enc Try.prog w base spare held m 53 ((cs.toList.drop 0).take (Try.prog.cellsOf 53)) = xs[0]? := hg 0 _ rfl
  have h1 : DataW.trod enc Try.prog w base spare held m 22 ((cs.toList.drop 33).take (Try.prog.cellsOf 22)) = xs[1]? := hg 1 _ rfl
  have hx0 : xs[0]? = some (xs[0]'(by rw [hxl]; decide)) := List.getElem?_eq_getElem _
  have hx1 : xs[1]? = some (xs[1]'(by rw [hxl]; decide)) := List.getElem?_eq_getElem _
  rw [hx0] at h0
  rw [hx1] at h1
  rw [cells_ck33, List.drop_zero] at h0
  rw [show Try.prog.cellsOf 22 = 1 by kernel_rfl] at h1
  -- the checkpoint
  obtain ⟨ys, m2, _, _, hlen2, hyl, hg2⟩ := DataW.trod_struct Try.underlying53 h0
  have q0 : DataW.trod enc Try.prog w base spare held m2 30 (((cs.toList.take 33).drop 0).take (Try.prog.cellsOf 30)) = ys[0]? := hg2 0 _ rfl
  have q1 : DataW.trod enc Try.prog w base spare held m2 32 (((cs.toList.take 33).drop 1).take (Try.prog.cellsOf 32)) = ys[1]? := hg2 1 _ rfl
  have hy0 : ys[0]? = some (ys[0]'(by rw [hyl]; decide)) := List.getElem?_eq_getElem _
  have hy1 : ys[1]? = some (ys[1]'(by rw [hyl]; decide)) := List.getElem?_eq_getElem _
  rw [hy0] at q0
  rw [hy1] at q1
  rw [cellsOf_u64] at q0
  rw [cellsOf_root] at q1
  rw [List.drop_zero] at q0
  obtain ⟨e, e1, _, e3⟩ := DataW.trod_int Try.underlying30 q0
  obtain ⟨rl, r1, r2, _⟩ := cells_ints Try.underlying32 Try.underlying5 cellsOf_u8 cellsOf_root q1
  -- the slice
  obtain ⟨s, hs⟩ : ∃ s, (cs.toList.drop 33).take 1 = [s] := by
    rw [List.drop_eq_getElem_cons (by omega)]; exact ⟨_, rfl⟩
  rw [hs] at h1
  have hsl : ∃ A n cap, s = .slice A n cap := by
    rcases open_ints Try.underlying22 Try.underlying30 cellsOf_u64 h1 with ⟨hcs, _⟩ | ⟨x, l, c, zs, hcs, _⟩
    · exact ⟨none, 0, 0, by simpa using hcs⟩
    · exact ⟨some x, l, c, by simpa using hcs⟩
  obtain ⟨A, n, cap, rfl⟩ := hsl
  obtain ⟨l, w1, w2, w3, w4, w5⟩ := open_row Try.underlying22 Try.underlying30 cellsOf_u64 (⟨_, h1⟩ : DataW.Trod enc Try.prog w base spare held 22 (.slice A n cap) _ _)
  refine ⟨(e, rl), A, n, cap, l, ?_, r2, w1, w2, w3, w4, w5⟩
  have hcat : cs.toList = (cs.toList.take 33) ++ (cs.toList.drop 33) := (List.take_append_drop _ _).symm
  have hd : cs.toList.drop 33 = [.slice A n cap] := by
    rw [← hs, List.take_of_length_le (by rw [List.length_drop]; omega)]
  have h33 : cs.toList.take 33 = ckc (e, rl) := by
    have a1 : ((cs.toList.take 33).take 1) = [.int .u64 e] := e1
    have a2 : ((cs.toList.take 33).drop 1).take 32 = ints .u8 rl := r1
    have a3 : cs.toList.take 33 = (cs.toList.take 33).take 1 ++ (cs.toList.take 33).drop 1 := (List.take_append_drop _ _).symm
    rw [List.take_of_length_le (by simp; omega)] at a2
    rw [a3, a1, a2]; rfl
  have : cs.toList = tbc (e, rl) (.slice A n cap) := by rw [hcat, hd, h33]; rfl
  rw [← this]
end Go.Proofs.Ytfkimlmfgipfjaa
