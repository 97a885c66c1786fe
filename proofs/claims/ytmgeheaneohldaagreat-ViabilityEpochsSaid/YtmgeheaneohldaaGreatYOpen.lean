/- How the arguments of a statement are opened: lists of integers, arrays of integers, slices of either. -/
import Derived.Test.YtmgeheaneohldaaGreatYK1
import Derived.ProofKit
import Derived.OpenShut
import Derived.ShutString
import Derived.ChangeOld
import Derived.Deep.Slices
set_option linter.all false
namespace Go.Proofs.YtmgeheaneohldaaGreat
open Go.RowKit Go.ChangeShapes Go.WideShapes Go.Deep

theorem cell_block_lt {w : World} {a : Addr} {v : Value} (h : w.cell? a = some v) : a.block < w.heap.size := by
  rcases Nat.lt_or_ge a.block w.heap.size with hlt | hge
  · exact hlt
  · unfold World.cell? at h
    rw [Array.getElem?_eq_none hge] at h
    simp at h

section
variable {H : Type} {enc : TypeId × Value → H} {P : Program} {w : World} {base : Nat} {spare : Nat → Bool} {held : Bool}

theorem ints_of {k : IntKind} {cs : List Value} (h : ∀ v ∈ cs, ∃ n, v = .int k n ∧ (Lit.int k n).wf = true) : ∃ l, cs = ints k l ∧ Fit k l := by
  induction cs with
  | nil => exact ⟨[], rfl, fun x hx => by simp at hx⟩
  | cons v cs ih =>
    obtain ⟨n, rfl, hn⟩ := h v (by simp)
    obtain ⟨l, rfl, hl⟩ := ih (fun v hv => h v (by simp [hv]))
    exact ⟨n :: l, rfl, fun x hx => by
      rcases List.mem_cons.1 hx with rfl | hx
      · exact hn
      · exact hl x hx⟩

theorem okWide_arr {r : Reach} {b0 : Nat} {n : Nat} {t e : TypeId} {v : Value} (ht : P.underlying t = some (.array n e)) (h : Value.okWide P w r b0 t v) : ∃ cs, v = .agg cs ∧ cs.size = P.cellsOf t := by
  simp only [Value.okWide, ht] at h
  obtain ⟨cs, h1, h2, _⟩ := h
  exact ⟨cs, h1, h2⟩

theorem cells_ints {k : IntKind} {n : Nat} {t e : TypeId} {fuel : Nat} {cs : List Value} {x : DataW H × List MemPlace} (ht : P.underlying t = some (.array n e)) (he : P.underlying e = some (.int k)) (hce : P.cellsOf e = 1) (hct : P.cellsOf t = n)
    (h : DataW.trod enc P w base spare held fuel t cs = some x) : ∃ l, cs = ints k l ∧ l.length = n ∧ Fit k l := by
  obtain ⟨xs, m, _, _, hlen, hxl, hel⟩ := DataW.trod_array ht h
  have hall : ∀ v ∈ cs, ∃ n, v = .int k n ∧ (Lit.int k n).wf = true := by
    intro v hv
    obtain ⟨i, hi, rfl⟩ := List.getElem_of_mem hv
    have h1 := hel i (by omega)
    rw [hce, Nat.mul_one, List.drop_eq_getElem_cons hi, List.take_succ_cons, List.take_zero] at h1
    have hx : xs[i]? = some (xs[i]'(by omega)) := List.getElem?_eq_getElem (by omega)
    rw [hx] at h1
    obtain ⟨n', e1, _, e3⟩ := DataW.trod_int he h1
    exact ⟨n', by simpa using e1, e3⟩
  obtain ⟨l, rfl, hl⟩ := ints_of hall
  exact ⟨l, rfl, by rw [← hct, ← hlen]; simp [ints], hl⟩

/-- an array of integers, given as an argument -/
theorem open_arr {r : Reach} {b0 : Nat} {k : IntKind} {n : Nat} {t e : TypeId} {v : Value} {d : DataW H} {p : List MemPlace} (ht : P.underlying t = some (.array n e)) (he : P.underlying e = some (.int k)) (hce : P.cellsOf e = 1) (hct : P.cellsOf t = n)
    (hv : Value.okWide P w r b0 t v) (h : DataW.Trod enc P w base spare held t v d p) : ∃ l : List Int, v = .agg (ints k l).toArray ∧ l.length = n ∧ Fit k l := by
  obtain ⟨cs, rfl, _⟩ := okWide_arr ht hv
  obtain ⟨fuel, hf⟩ := h
  obtain ⟨l, h1, h2, h3⟩ := cells_ints ht he hce hct hf
  refine ⟨l, ?_, h2, h3⟩
  have : cs.toList = ints k l := h1
  rw [← this]

/-- a slice of integers, given as an argument -/
theorem open_row {k : IntKind} {t e : TypeId} {a : Option Addr} {len cap : Nat} {d : DataW H} {p : List MemPlace} (ht : P.underlying t = some (.slice e)) (he : P.underlying e = some (.int k)) (hce : P.cellsOf e = 1)
    (h : DataW.Trod enc P w base spare held t (.slice a len cap) d p) : ∃ l : List Int, Fit k l ∧ l.length = len ∧ Go.Proofs.YtmgeheaneohldaaGreat.Row w w.heap.size 1 a len (ints k l) ∧ len ≤ cap ∧ cap ≤ maxLen := by
  obtain ⟨fuel, hf⟩ := h
  rcases open_ints ht he hce hf with ⟨hcs, _⟩ | ⟨x, l, c, zs, hcs, _, h1, h2, h3, _, h4, h5⟩
  · simp [Value.cells] at hcs
    obtain ⟨rfl, rfl, rfl⟩ := hcs
    exact ⟨[], fun _ h => by simp at h, rfl, Row.nil _ _ _ _, Nat.le_refl _, Nat.zero_le _⟩
  · simp [Value.cells] at hcs
    obtain ⟨rfl, rfl, rfl⟩ := hcs
    have h3' : len ≤ zs.length := by split at h3 <;> omega
    have hlt : (zs.take len).length = len := by rw [List.length_take]; omega
    refine ⟨zs.take len, fun v hv => h5 v (List.mem_of_mem_take hv), hlt, ⟨by rw [ints, List.length_map, hlt]; omega, fun j u hu => ?_⟩, h1, h2⟩
    unfold ints at hu
    rw [List.getElem?_map] at hu
    have hj : j < len := by
      rcases Nat.lt_or_ge j len with h | h
      · exact h
      · rw [List.getElem?_eq_none (by omega)] at hu; simp at hu
    have hjz : j < zs.length := by omega
    have hc := h4 j hjz
    rw [List.getElem?_take_of_lt hj, List.getElem?_eq_getElem hjz] at hu
    simp only [Option.map_some, Option.some.injEq] at hu
    have hd : zs.getD j 0 = zs[j] := by simp [List.getD_eq_getElem?_getD, List.getElem?_eq_getElem hjz]
    rw [hd, hu] at hc
    have hb := cell_block_lt hc
    rw [Ag0] at hb
    exact ⟨x, rfl, hb, hc⟩

theorem add_of_add (a : Addr) (i j : Nat) : (a.add i).add j = a.add (i + j) := by
  unfold Addr.add
  by_cases hi : i = 0 <;> by_cases hj : j = 0 <;> simp [hi, hj, Nat.add_assoc]

/-- a slice of arrays of m integers each, given as an argument -/
theorem open_rows {k : IntKind} {m : Nat} {t e i : TypeId} {a : Option Addr} {len cap : Nat} {d : DataW H} {p : List MemPlace} (ht : P.underlying t = some (.slice e)) (he : P.underlying e = some (.array m i)) (hi : P.underlying i = some (.int k)) (hci : P.cellsOf i = 1) (hce : P.cellsOf e = m) (hm0 : 0 < m)
    (h : DataW.Trod enc P w base spare held t (.slice a len cap) d p) :
    ∃ ls : List (List Int), (∀ l ∈ ls, l.length = m ∧ Fit k l) ∧ ls.length = len ∧ Go.Proofs.YtmgeheaneohldaaGreat.Row w w.heap.size m a len (ls.flatMap (ints k)) ∧ len ≤ cap ∧ cap ≤ maxLen := by
  obtain ⟨fuel, hf⟩ := h
  rcases open_slice ht hf with ⟨hcs, _⟩ | ⟨x, l, c, q, n, D, Pl, hcs, _, h1, h2, hq, _, hel⟩
  · simp [Value.cells] at hcs
    obtain ⟨rfl, rfl, rfl⟩ := hcs
    exact ⟨[], fun _ h => by simp at h, rfl, Row.nil _ _ _ _, Nat.le_refl _, Nat.zero_le _⟩
  · simp [Value.cells] at hcs
    obtain ⟨rfl, rfl, rfl⟩ := hcs
    have hql : len ≤ q := by split at hq <;> omega
    have hget : ∀ j, j < len → ∃ l : List Int, l.length = m ∧ Fit k l ∧ ∀ o u, (ints k l)[o]? = some u → w.cell? (x.add (j * m + o)) = some u := by
      intro j hj
      obtain ⟨cs', hc, htr⟩ := hel j (by omega)
      obtain ⟨l, rfl, hl, hfit⟩ := cells_ints he hi hci hce htr
      rw [hce] at hc
      obtain ⟨_, hcl, hat⟩ := World.cells?_some hc
      refine ⟨l, hl, hfit, fun o u ho => ?_⟩
      have ho' : o < m := by
        rcases Nat.lt_or_ge o m with h | h
        · exact h
        · rw [List.getElem?_eq_none (by simp [ints, hl]; omega)] at ho; simp at ho
      have := hat o ho'
      rw [← add_of_add, this, ho]
    have hrec : ∀ b, b ≤ len → ∃ ls : List (List Int), (∀ l ∈ ls, l.length = m ∧ Fit k l) ∧ ls.length = b ∧ (ls.flatMap (ints k)).length = b * m ∧ ∀ j u, (ls.flatMap (ints k))[j]? = some u → w.cell? (x.add j) = some u := by
      intro b
      induction b with
      | zero => intro _; exact ⟨[], fun _ h => by simp at h, rfl, by simp, fun j u h => by simp at h⟩
      | succ b ih =>
        intro hb
        obtain ⟨ls, g1, g2, g3, g4⟩ := ih (by omega)
        obtain ⟨l, f1, f2, f3⟩ := hget b (by omega)
        refine ⟨ls ++ [l], fun y hy => ?_, by simp [g2], ?_, fun j u hu => ?_⟩
        · rcases List.mem_append.1 hy with hy | hy
          · exact g1 y hy
          · have : y = l := by simpa using hy
            subst this
            exact ⟨f1, f2⟩
        · rw [List.flatMap_append, List.length_append, g3]
          simp [ints, f1, Nat.add_mul]
        · rw [List.flatMap_append] at hu
          rcases Nat.lt_or_ge j (b * m) with hj | hj
          · rw [List.getElem?_append_left (by omega)] at hu
            exact g4 j u hu
          · rw [List.getElem?_append_right (by omega), g3] at hu
            have := f3 (j - b * m) u (by simpa using hu)
            rwa [show b * m + (j - b * m) = j by omega] at this
    obtain ⟨ls, g1, g2, g3, g4⟩ := hrec len (Nat.le_refl _)
    refine ⟨ls, g1, g2, ⟨g3, fun j u hu => ⟨x, rfl, ?_, g4 j u hu⟩⟩, h1, h2⟩
    have hb := cell_block_lt (g4 j u hu)
    rwa [Ag0] at hb
end
end Go.Proofs.YtmgeheaneohldaaGreat
