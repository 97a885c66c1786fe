/- Laws for walks inside a fence: variables of several cells. -/
import Derived.Test.YtekikfdlnkcenaaGen
import Derived.RangeFuncNested
import Derived.RangeFuncBound
import Derived.RangeFuncCalls
import Derived.RangeFuncLeaves
import Derived.Shelf.Abstract
import Derived.Shelf.RegionOpen
import Derived.OwnWalkIn
import Derived.TacticsInMore
import Derived.LoopNIn
import Derived.LoopIn
import Derived.Sort.MapsRangeIn
import Derived.Sort.KeysCollected
import Derived.Maps.AppendAt
import Derived.Maps.OwnIn
namespace Go.Proofs.Ytekikfdlnkcenaa
open Go.RowKit Go.Maps Go.Sort Go.Shelf
def isAct : Op → Bool
  | .call _ | .defer _ | .nilCheck _ => false
  | _ => true
section
variable {F : Fence} {n : Nat} {P : Program} {ops : Array Oper} {Q : Exit → Act → World → Prop} {rest : List Oper} {o : Oper} {a : Act} {w : World}
theorem wpListIn_run (hg : o.guard = none) (hc : isAct o.op = true) {v : Value} {w' : World} (hr : (execOp a.eval o).run P w = .ok (.value v) w') (hK : wpListIn F n P ops Q rest (a.put o.dst v) w') : wpListIn F n P ops Q (o :: rest) a w :=
  wpListIn_plain hg fun K' hK' => by
    unfold Oper.wpIn
    refine ⟨fun f hf => ?_, ?_⟩
    · unfold Oper.about at hf
      cases ho : o.op <;> rw [ho] at hf hc <;> first | (cases hf; done) | (cases hc; done)
    · rw [Oper.semAt_plain F _ _ (fun c e => by rw [e] at hc; cases hc), hr, Oper.uponIn_value]
      exact hK' _ _ hK
theorem wpListIn_skip (hg : o.guard = none) (hc : isAct o.op = true) {w' : World} (hr : (execOp a.eval o).run P w = .ok .skip w') (hK : wpListIn F n P ops Q rest (a.put o.dst undef) w') : wpListIn F n P ops Q (o :: rest) a w :=
  wpListIn_plain hg fun K' hK' => by
    unfold Oper.wpIn
    refine ⟨fun f hf => ?_, ?_⟩
    · unfold Oper.about at hf
      cases ho : o.op <;> rw [ho] at hf hc <;> first | (cases hf; done) | (cases hc; done)
    · rw [Oper.semAt_plain F _ _ (fun c e => by rw [e] at hc; cases hc), hr, Oper.uponIn_skip]
      exact hK' _ _ hK
/-- a variable is made -/
theorem wpListIn_allocZ (hg : o.guard = none) (ty : TypeId) (cs : List Value) (hz : ∀ w, (zeroValue ty).run P w = .ok (.agg cs.toArray) w) (ho : o.op = .alloc ty)
    (hK : wpListIn F n P ops Q rest (a.put o.dst (.pointer (some ⟨w.heap.size, 0, none⟩))) (w.alloc (.cells cs.toArray ty))) : wpListIn F n P ops Q (o :: rest) a w := by
  refine wpListIn_run hg (by rw [ho]; rfl) (v := .pointer (some ⟨w.heap.size, 0, none⟩)) (w' := w.alloc (.cells cs.toArray ty)) ?_ hK
  unfold execOp
  simp only [ho]
  simp [Instr.alloc, Sem.run_bind, hz, newVar, Value.cells, newRow]
/-- a variable is written whole -/
theorem wpListIn_storeB (hg : o.guard = none) (ty : TypeId) (x y : Operand) (ho : o.op = .store ty x y)
    (g : Nat) (cs old : List Value) (hx : a.eval x = .pointer (some ⟨g, 0, none⟩)) (hy : a.eval y = .agg cs.toArray) (hh : Has w g old) (hl : old.length = cs.length) {d : TypeDesc}
    (hu : P.underlying ty = some d) (hi : P.cellsOf ty = cs.length) (h1 : ∀ u ∈ cs, u.oneCell' = true)
    (hK : ∀ w', Has w' g cs → w.grownBy w' (some g) → w'.heap.size = w.heap.size → wpListIn F n P ops Q rest (a.put o.dst undef) w') : wpListIn F n P ops Q (o :: rest) a w := by
  have ht : w.there g 0 cs.toArray.size := fun j hj => by
    have hj' : j < old.length := by rw [hl]; simpa using hj
    rw [Nat.zero_add, hh.cell j, hh.frozen j, List.getElem?_eq_getElem hj']
    exact ⟨rfl, rfl⟩
  have hr := run_storeAt_mid (P := P) w g 0 ty cs.toArray ht (by simpa using info_size hu hi) (all_oneCell_toArray h1)
  obtain ⟨q1, q2, q3⟩ := setCells_all g cs old [] [] w hl (by simpa using hh)
  refine wpListIn_skip hg (by rw [ho]; rfl) (w' := w.setCells g 0 cs) ?_ (hK _ (by simpa using q1) (by simpa using q2) (by simpa using q3))
  unfold execOp
  simp only [ho, hx, hy, hr, Sem.run_bind, Sem.run_pure, Result.andThen_ok]
/-- a variable is read whole -/
theorem wpListIn_loadB (hg : o.guard = none) (ty : TypeId) (x : Operand) (ho : o.op = .load ty x) (g : Nat) (cs : List Value) (hx : a.eval x = .pointer (some ⟨g, 0, none⟩)) (hh : Has w g cs) {d : TypeDesc}
    (hu : P.underlying ty = some d) (hd : (match d with | .struct _ | .array _ _ => true | _ => false) = true) (hi : P.cellsOf ty = cs.length)
    (hK : wpListIn F n P ops Q rest (a.put o.dst (.agg cs.toArray)) w) : wpListIn F n P ops Q (o :: rest) a w := by
  refine wpListIn_run hg (by rw [ho]; rfl) (v := .agg cs.toArray) (w' := w) ?_ hK
  unfold execOp
  simp only [ho, hx, Instr.loadAt, Instr.sureAddr, Sem.run_bind, Sem.run_pure, Result.andThen_ok, run_loadB hh hu hd hi]
end
end Go.Proofs.Ytekikfdlnkcenaa
