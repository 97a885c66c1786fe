/- How the arguments of a statement are opened: lists of integers, arrays of integers, slices of either. -/
import Derived.Test.YtpaihpeoiliioaaGreatKK1
import Derived.ProofKit
import Derived.OpenShut
import Derived.ShutString
import Derived.ChangeOld
import Derived.Deep.Slices
set_option linter.all false
namespace Go.Proofs.YtpaihpeoiliioaaGreat
open Go.RowKit Go.ChangeShapes Go.WideShapes Go.Deep

theorem cell_block_lt {w : World} {a : Addr} {v : Value} (h : w.cell? a = some v) : a.block < w.heap.size := by
  rcases Nat.lt_or_ge a.block w.heap.size with hlt | hge
  · exact hlt
  · unfold World.cell? at h
    rw [Array.getElem?_eq_none hge] at h
    simp at h

section
variable {H : Type} {enc : TypeId × Value → H} {P : Program} {w : World} {base : Nat} {spare : Nat → Bool} {held : Bool}

/-- a slice of integers, given as an argument -/
theorem open_row {k : IntKind} {t e : TypeId} {a : Option Addr} {len cap : Nat} {d : DataW H} {p : List MemPlace} (ht : P.underlying t = some (.slice e)) (he : P.underlying e = some (.int k)) (hce : P.cellsOf e = 1)
    (h : DataW.Trod enc P w base spare held t (.slice a len cap) d p) : ∃ l : List Int, Fit k l ∧ l.length = len ∧ Go.Proofs.YtpaihpeoiliioaaGreat.Row w w.heap.size 1 a len (ints k l) ∧ len ≤ cap ∧ cap ≤ maxLen := by
  obtain ⟨fuel, hf⟩ := h
  rcases open_ints ht he hce hf with ⟨hcs, _⟩ | ⟨x, l, c, zs, hcs, _, h1, h2, h3, _, h4, h5⟩
  · simp [Value.cells] at hcs
    obtain ⟨rfl, rfl, rfl⟩ := hcs
    exact ⟨[], fun _ h => by simp at h, rfl, Row.nil _ _ _ _, Nat.le_refl _, Nat.zero_le _⟩
  · simp [Value.cells] at hcs
    obtain ⟨rfl, rfl, rfl⟩ := hcs
    have h3' : len ≤ zs.length := by split at h3 <;> omega
    have hlt : (zs.take len).length = len := by rw [List.length_take]; omega
    refine ⟨zs.take len, fun v hv => h5 v (List.mem_of_mem_take hv), hlt, ⟨by rw [ints, List.length_map, hlt]; omega, fun j u hu => ?_⟩, h1, h2⟩
    unfold ints at hu
    rw [List.getElem?_map] at hu
    have hj : j < len := by
      rcases Nat.lt_or_ge j len with h | h
      · exact h
      · rw [List.getElem?_eq_none (by omega)] at hu; simp at hu
    have hjz : j < zs.length := by omega
    have hc := h4 j hjz
    rw [List.getElem?_take_of_lt hj, List.getElem?_eq_getElem hjz] at hu
    simp only [Option.map_some, Option.some.injEq] at hu
    have hd : zs.getD j 0 = zs[j] := by simp [List.getD_eq_getElem?_getD, List.getElem?_eq_getElem hjz]
    rw [hd, hu] at hc
    have hb := cell_block_lt hc
    rw [AgG] at hb
    exact ⟨x, rfl, hb, hc⟩

end
end Go.Proofs.YtpaihpeoiliioaaGreat
