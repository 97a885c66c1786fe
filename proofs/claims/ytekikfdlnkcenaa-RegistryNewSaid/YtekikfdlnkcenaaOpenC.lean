/- How an argument that is a chain's configuration is opened. -/
import Derived.Test.YtekikfdlnkcenaaOpen
import Derived.Test.YtekikfdlnkcenaaTyB
import Derived.Test.YtekikfdlnkcenaaBitsU
namespace Go.Proofs.Ytekikfdlnkcenaa
open Go.RowKit Go.ChangeShapes Go.WideShapes Go.Deep
section
variable {H : Type} {enc : TypeId × Value → H} {w : World} {base : Nat} {spare : Nat → Bool} {held : Bool}
theorem u_of_wf {n : Int} (h : (Lit.int .u64 n).wf = true) : ∃ u : U, n = (u.n : Int) := by
  have := u64_of_wf h
  exact ⟨⟨n.toNat, by omega⟩, by show n = (n.toNat : Int); omega⟩
theorem f_u64 {m : Nat} {cs : List Value} {y : DataW H × List MemPlace} (q : DataW.trod enc Try.prog w base spare held m 30 cs = some y) : ∃ u : U, cs = [.int .u64 (u.n : Int)] := by
  obtain ⟨e, e1, _, e3⟩ := DataW.trod_int Try.underlying30 q
  obtain ⟨u, rfl⟩ := u_of_wf e3
  exact ⟨u, e1⟩
theorem f_int {m : Nat} {cs : List Value} {y : DataW H × List MemPlace} (q : DataW.trod enc Try.prog w base spare held m 3 cs = some y) : ∃ z : Int, cs = [.int .i64 z] := by
  obtain ⟨e, e1, _, e3⟩ := DataW.trod_int Try.underlying3 q
  exact ⟨e, e1⟩
theorem cut_next {α : Type} (L : List α) (a b c : Nat) (h : a + b = c) : L.drop a = (L.drop a).take b ++ L.drop c := by
  subst h
  rw [← List.drop_drop, List.take_append_drop]
theorem us_of {l : List Int} (h : Fit .u64 l) : ∃ b : List U, ints .u64 l = us b ∧ b.length = l.length := by
  induction l with
  | nil => exact ⟨[], rfl, rfl⟩
  | cons x l ih =>
    obtain ⟨b, hb, hl⟩ := ih (fun y hy => h y (by simp [hy]))
    obtain ⟨u, hu⟩ := u_of_wf (h x (by simp))
    refine ⟨u :: b, ?_, by simp [hl]⟩
    show Value.int .u64 x :: ints .u64 l = Value.int .u64 (u.n : Int) :: us b
    rw [hu, hb]
set_option maxRecDepth 20000 in
theorem open_config {r : Reach} {b0 : Nat} {v : Value} {d : DataW H} {p : List MemPlace}
    (hv : Value.okWide Try.prog w r b0 59 v) (h : DataW.Trod enc Try.prog w base spare held 59 v d p) :
    ∃ (c : Cf) (A : Option Addr) (n cap : Nat) (l : List Int), v = .agg (fl (cfP c ⟨A, n, cap⟩)).toArray ∧ Fit .u64 l ∧ l.length = n ∧ Row w w.heap.size 1 A n (ints .u64 l) ∧ n ≤ cap ∧ cap ≤ maxLen ∧ (A = none → cap = 0) := by
  obtain ⟨cs, rfl, hsz⟩ := okWide_struct Try.underlying59 hv
  obtain ⟨fuel, hf⟩ := h
  obtain ⟨xs, m, _, _, hlen, hxl, hg⟩ := DataW.trod_struct Try.underlying59 hf
  have hl45 : cs.toList.length = 45 := by
    have : Try.prog.cellsOf 59 = 45 := by kernel_rfl
    rw [← this]; exact hlen
  have hL : (Value.agg cs).cells.toList = cs.toList := rfl
  rw [hL] at hg
  obtain ⟨L, hcs⟩ : ∃ L, cs.toList = L := ⟨_, rfl⟩
  have hag : cs = L.toArray := by rw [← hcs]
  rw [hcs] at hg hl45
  have h0 : DataW.trod enc Try.prog w base spare held m 55 ((L.drop 0).take (Try.prog.cellsOf 55)) = xs[0]? := hg 0 _ rfl
  rw [show Try.prog.cellsOf 55 = 6 by kernel_rfl, show xs[0]? = some (xs[0]'(by rw [hxl]; decide)) from List.getElem?_eq_getElem _] at h0
  have h1 : DataW.trod enc Try.prog w base spare held m 30 ((L.drop 6).take (Try.prog.cellsOf 30)) = xs[1]? := hg 1 _ rfl
  rw [show Try.prog.cellsOf 30 = 1 by kernel_rfl, show xs[1]? = some (xs[1]'(by rw [hxl]; decide)) from List.getElem?_eq_getElem _] at h1
  have h2 : DataW.trod enc Try.prog w base spare held m 30 ((L.drop 7).take (Try.prog.cellsOf 30)) = xs[2]? := hg 2 _ rfl
  rw [show Try.prog.cellsOf 30 = 1 by kernel_rfl, show xs[2]? = some (xs[2]'(by rw [hxl]; decide)) from List.getElem?_eq_getElem _] at h2
  have h3 : DataW.trod enc Try.prog w base spare held m 57 ((L.drop 8).take (Try.prog.cellsOf 57)) = xs[3]? := hg 3 _ rfl
  rw [show Try.prog.cellsOf 57 = 4 by kernel_rfl, show xs[3]? = some (xs[3]'(by rw [hxl]; decide)) from List.getElem?_eq_getElem _] at h3
  have h4 : DataW.trod enc Try.prog w base spare held m 33 ((L.drop 12).take (Try.prog.cellsOf 33)) = xs[4]? := hg 4 _ rfl
  rw [show Try.prog.cellsOf 33 = 32 by kernel_rfl, show xs[4]? = some (xs[4]'(by rw [hxl]; decide)) from List.getElem?_eq_getElem _] at h4
  have h5 : DataW.trod enc Try.prog w base spare held m 36 ((L.drop 44).take (Try.prog.cellsOf 36)) = xs[5]? := hg 5 _ rfl
  rw [show Try.prog.cellsOf 36 = 1 by kernel_rfl, show xs[5]? = some (xs[5]'(by rw [hxl]; decide)) from List.getElem?_eq_getElem _] at h5
  obtain ⟨ys, m2, _, _, hlen2, hyl, hg2⟩ := DataW.trod_struct Try.underlying55 h0
  have q0 : DataW.trod enc Try.prog w base spare held m2 3 ((((L.drop 0).take 6).drop 0).take (Try.prog.cellsOf 3)) = ys[0]? := hg2 0 _ rfl
  rw [show Try.prog.cellsOf 3 = 1 by kernel_rfl, show ys[0]? = some (ys[0]'(by rw [hyl]; decide)) from List.getElem?_eq_getElem _] at q0
  have q1 : DataW.trod enc Try.prog w base spare held m2 3 ((((L.drop 0).take 6).drop 1).take (Try.prog.cellsOf 3)) = ys[1]? := hg2 1 _ rfl
  rw [show Try.prog.cellsOf 3 = 1 by kernel_rfl, show ys[1]? = some (ys[1]'(by rw [hyl]; decide)) from List.getElem?_eq_getElem _] at q1
  have q2 : DataW.trod enc Try.prog w base spare held m2 3 ((((L.drop 0).take 6).drop 2).take (Try.prog.cellsOf 3)) = ys[2]? := hg2 2 _ rfl
  rw [show Try.prog.cellsOf 3 = 1 by kernel_rfl, show ys[2]? = some (ys[2]'(by rw [hyl]; decide)) from List.getElem?_eq_getElem _] at q2
  have q3 : DataW.trod enc Try.prog w base spare held m2 3 ((((L.drop 0).take 6).drop 3).take (Try.prog.cellsOf 3)) = ys[3]? := hg2 3 _ rfl
  rw [show Try.prog.cellsOf 3 = 1 by kernel_rfl, show ys[3]? = some (ys[3]'(by rw [hyl]; decide)) from List.getElem?_eq_getElem _] at q3
  have q4 : DataW.trod enc Try.prog w base spare held m2 3 ((((L.drop 0).take 6).drop 4).take (Try.prog.cellsOf 3)) = ys[4]? := hg2 4 _ rfl
  rw [show Try.prog.cellsOf 3 = 1 by kernel_rfl, show ys[4]? = some (ys[4]'(by rw [hyl]; decide)) from List.getElem?_eq_getElem _] at q4
  have q5 : DataW.trod enc Try.prog w base spare held m2 30 ((((L.drop 0).take 6).drop 5).take (Try.prog.cellsOf 30)) = ys[5]? := hg2 5 _ rfl
  rw [show Try.prog.cellsOf 30 = 1 by kernel_rfl, show ys[5]? = some (ys[5]'(by rw [hyl]; decide)) from List.getElem?_eq_getElem _] at q5
  obtain ⟨nl, e0⟩ := f_int q0
  obtain ⟨ol, e1⟩ := f_int q1
  obtain ⟨el, e2⟩ := f_int q2
  obtain ⟨tl, e3⟩ := f_int q3
  obtain ⟨rl, e4⟩ := f_int q4
  obtain ⟨bo, e5⟩ := f_u64 q5
  obtain ⟨spe, e6⟩ := f_u64 h1
  obtain ⟨bp, e7⟩ := f_u64 h2
  obtain ⟨tt, t1, t2, t3⟩ := cells_ints Try.underlying57 Try.underlying30 (by kernel_rfl) (by kernel_rfl) h3
  obtain ⟨gl, g1, g2, g3⟩ := cells_ints Try.underlying33 Try.underlying5 (by kernel_rfl) (by kernel_rfl) h4
  obtain ⟨s, hs⟩ : ∃ s, (L.drop 44).take 1 = [s] := by
    rw [List.drop_eq_getElem_cons (by omega)]; exact ⟨_, rfl⟩
  rw [hs] at h5
  have hsl : ∃ A n cap, s = .slice A n cap ∧ (A = none → cap = 0) := by
    rcases open_ints Try.underlying36 Try.underlying30 (by kernel_rfl) h5 with ⟨hcs, _⟩ | ⟨x, l, c, zs, hcs, _⟩
    · exact ⟨none, 0, 0, by simpa using hcs, fun _ => rfl⟩
    · exact ⟨some x, l, c, by simpa using hcs, fun h => by cases h⟩
  obtain ⟨A, n, cap, rfl, hA⟩ := hsl
  obtain ⟨l, w1, w2, w3, w4, w5⟩ := open_row Try.underlying36 Try.underlying30 (by kernel_rfl) (⟨_, h5⟩ : DataW.Trod enc Try.prog w base spare held 36 (.slice A n cap) _ _)
  refine ⟨⟨nl, ol, el, tl, rl, bo, spe, bp, ⟨tt, t2, fun x hx => by have := u64_of_wf (t3 x hx); omega⟩, ⟨gl, g2, fun x hx => by have := bounds_u8 (g3 x hx); omega⟩⟩, A, n, cap, l, ?_, w1, w2, w3, w4, w5, hA⟩
  have c0 := cut_next L 0 6 6 rfl
  have c1 := cut_next L 6 1 7 rfl
  have c2 := cut_next L 7 1 8 rfl
  have c3 := cut_next L 8 4 12 rfl
  have c4 := cut_next L 12 32 44 rfl
  have c5 := cut_next L 44 1 45 rfl
  have c6 : L.drop 45 = [] := List.drop_eq_nil_of_le (by omega)
  have k0 := cut_next ((L.drop 0).take 6) 0 1 1 rfl
  have k1 := cut_next ((L.drop 0).take 6) 1 1 2 rfl
  have k2 := cut_next ((L.drop 0).take 6) 2 1 3 rfl
  have k3 := cut_next ((L.drop 0).take 6) 3 1 4 rfl
  have k4 := cut_next ((L.drop 0).take 6) 4 1 5 rfl
  have k5 := cut_next ((L.drop 0).take 6) 5 1 6 rfl
  have k6 : ((L.drop 0).take 6).drop 6 = [] := List.drop_eq_nil_of_le (by simp; omega)
  rw [e0, k1, e1, k2, e2, k3, e3, k4, e4, k5, e5, k6] at k0
  rw [List.drop_zero] at c0 k0
  rw [List.drop_zero] at k0
  rw [k0, c1, e6, c2, e7, c3, t1, c4, g1, c5, hs, c6] at c0
  rw [hag, c0]
  rfl
end
end Go.Proofs.Ytekikfdlnkcenaa
