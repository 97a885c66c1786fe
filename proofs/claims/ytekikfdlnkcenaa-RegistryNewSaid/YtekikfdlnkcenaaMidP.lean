/- Rows of elements of several cells in a block that may hold more behind them. -/
import Derived.Test.YtekikfdlnkcenaaMid
namespace Go.Proofs.Ytekikfdlnkcenaa

section
variable {α : Type} {f : α → List Value} {k : Nat}
theorem Has.rangeP {w : World} {g : Nat} {xs : List α} {post : List Value} (h : Has w g (xs.flatMap f ++ post)) (hk : ∀ x ∈ xs, (f x).length = k) (i : Nat) (hi : i < xs.length) : w.rangeAt g (i * k) (f xs[i]) := by
  intro j u hu
  rw [h.cell, flat_split xs i hi, ← flat_pre xs i hi hk, List.append_assoc, List.append_assoc, List.getElem?_append_right (by omega), Nat.add_sub_cancel_left]
  have hj : j < (f xs[i]).length := (List.getElem?_eq_some_iff.1 hu).1
  rw [List.getElem?_append_left hj]
  exact hu
theorem Has.thereP {w : World} {g : Nat} {xs : List α} {post : List Value} (h : Has w g (xs.flatMap f ++ post)) (hk : ∀ x ∈ xs, (f x).length = k) (i : Nat) (hi : i < xs.length) : w.there g (i * k) k := by
  intro j hj
  refine ⟨?_, h.frozen _⟩
  have hl : (f xs[i]).length = k := hk _ (List.getElem_mem hi)
  have := h.rangeP hk i hi j _ (List.getElem?_eq_getElem (by omega))
  rw [this]; rfl
theorem Has.setP {w : World} {g : Nat} {xs : List α} {post : List Value} (h : Has w g (xs.flatMap f ++ post)) (hk : ∀ x ∈ xs, (f x).length = k) (i : Nat) (hi : i < xs.length) (v : α) (hv : (f v).length = k) :
    Has (w.setCells g (i * k) (f v)) g ((xs.set i v).flatMap f ++ post) ∧ w.grownBy (w.setCells g (i * k) (f v)) (some g) ∧ (w.setCells g (i * k) (f v)).heap.size = w.heap.size := by
  have hl : (f xs[i]).length = (f v).length := by rw [hv, hk _ (List.getElem_mem hi)]
  have := setCells_all g (f v) (f xs[i]) ((xs.take i).flatMap f) ((xs.drop (i + 1)).flatMap f ++ post) w hl (by rw [← List.append_assoc, ← flat_split xs i hi]; exact h)
  rw [flat_pre xs i hi hk, ← List.append_assoc, ← flat_set xs i v hi] at this
  exact this
/-- an element is read -/
theorem wpList_loadP {P : Program} {ops : Array Oper} {rest : List Oper} {op : Oper} {a : Act} {w : World} {Q : Exit → Act → World → Prop} (ty : TypeId) (x : Operand) (ho : op.op = .load ty x)
    (hgd : Region.wanted op (yielded ops a.tmps) = true) (g : Nat) (xs : List α) (i : Nat) (hx : a.eval x = .pointer (some ⟨g, i * k, none⟩)) (post : List Value) (hg : Has w g (xs.flatMap f ++ post)) (hk : ∀ x ∈ xs, (f x).length = k)
    (hi : i < xs.length) {d : TypeDesc} (hu : P.underlying ty = some d) (hd : d.isRow = true) (hc : P.cellsOf ty = k)
    (h : wpList P ops Q rest (a.put op.dst (.agg (f xs[i]).toArray)) w) : wpList P ops Q (op :: rest) a w := by
  refine wpList_go hgd fun K hK => wp_load_mid ty x ho g (i * k) hx (f xs[i]) d (hg.rangeP hk i hi) hu hd ?_ (hK _ _ h)
  rw [hk _ (List.getElem_mem hi)]
  exact info_size hu hc
/-- an element is written -/
theorem wpList_storeQ {P : Program} {ops : Array Oper} {rest : List Oper} {op : Oper} {a : Act} {w : World} {Q : Exit → Act → World → Prop} (ty : TypeId) (x y : Operand) (ho : op.op = .store ty x y)
    (hgd : op.guard = none) (g : Nat) (xs : List α) (i : Nat) (hx : a.eval x = .pointer (some ⟨g, i * k, none⟩)) (v : α) (hy : a.eval y = .agg (f v).toArray) (post : List Value) (hg : Has w g (xs.flatMap f ++ post)) (hk : ∀ x ∈ xs, (f x).length = k)
    (hi : i < xs.length) (hv : (f v).length = k) {d : TypeDesc} (hu : P.underlying ty = some d) (hc : P.cellsOf ty = k) (h1 : ∀ u ∈ f v, u.oneCell' = true)
    (h : ∀ w', Has w' g ((xs.set i v).flatMap f ++ post) → w.grownBy w' (some g) → w'.heap.size = w.heap.size → wpList P ops Q rest (a.put op.dst undef) w') : wpList P ops Q (op :: rest) a w := by
  obtain ⟨q1, q2, q3⟩ := hg.setP hk i hi v hv
  refine wpList_store_mid hgd ty x y ho g (i * k) (f v).toArray hx hy ?_ ?_ (all_oneCell_toArray h1) ?_
  · have := hg.thereP hk i hi
    simpa [hv] using this
  · have := info_size hu hc
    simpa [hv] using this
  · have := h _ q1 q2 q3
    simpa using this
end
/-- an element is read, in a region that draws its order -/
theorem quiet_loadP {α : Type} {f : α → List Value} {k : Nat} {P : Program} {C : World → Prop} {op : Oper} {a : Act} {K : Act → Prop} (ty : TypeId) (x : Operand) (ho : op.op = .load ty x)
    (g : Nat) (xs : List α) (i : Nat) (hx : a.eval x = .pointer (some ⟨g, i * k, none⟩)) (post : List Value) (hg : ∀ w, C w → Has w g (xs.flatMap f ++ post)) (hk : ∀ x ∈ xs, (f x).length = k)
    (hi : i < xs.length) {d : TypeDesc} (hu : P.underlying ty = some d) (hd : d.isRow = true) (hc : P.cellsOf ty = k)
    (h : K (a.put op.dst (.agg (f xs[i]).toArray))) : op.quiet P a C K := by
  refine ⟨_, fun w hw => ?_, h⟩
  unfold Oper.quietAt execOp
  have := run_loadVar_mid (P := P) w g (i * k) ty (f xs[i]) d ((hg w hw).rangeP hk i hi) hu hd (by rw [hk _ (List.getElem_mem hi)]; exact info_size hu hc)
  simp only [ho, hx, Instr.loadAt, Instr.sureAddr, Sem.run_bind, Sem.run_pure, Result.andThen_ok, this]
  exact ⟨rfl, rfl⟩
end Go.Proofs.Ytekikfdlnkcenaa
