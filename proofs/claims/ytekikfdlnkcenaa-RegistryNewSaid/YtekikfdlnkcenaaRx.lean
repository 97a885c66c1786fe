/- Rows of the call's own whose elements are read and written in place. -/
import Derived.Test.YtekikfdlnkcenaaMmS
import Derived.Laws.OwnMore
namespace Go.Proofs.Ytekikfdlnkcenaa
open Go.RowKit
theorem own_setCells {base : Nat} {e : TypeId} {size g n cap : Nat} : ∀ (vs mid pre post : List Value) (w : World), mid.length = vs.length → w.ownsRow base e size (.slice (some ⟨g, 0, none⟩) n cap) n (pre ++ mid ++ post) →
    (w.setCells g pre.length vs).ownsRow base e size (.slice (some ⟨g, 0, none⟩) n cap) n (pre ++ vs ++ post) ∧ w.grownBy (w.setCells g pre.length vs) (some g)
  | [], mid, pre, post, w, hl, h => by
    have : mid = [] := List.eq_nil_of_length_eq_zero (by simpa using hl)
    subst this
    exact ⟨h, World.grownBy.refl _ _⟩
  | v :: vs, [], pre, post, w, hl, h => by simp at hl
  | v :: vs, m :: mid, pre, post, w, hl, h => by
    obtain ⟨h1, h2⟩ := h.stored pre.length v
    have e1 : (pre ++ (m :: mid) ++ post).set pre.length v = (pre ++ [v]) ++ mid ++ post := by simp
    rw [e1] at h1
    obtain ⟨q1, q2⟩ := own_setCells vs mid (pre ++ [v]) post _ (by simpa using hl) h1
    have e2 : (pre ++ [v]).length = pre.length + 1 := by simp
    rw [e2] at q1 q2
    refine ⟨?_, grown_trans h2 q2⟩
    have q1' : (w.setCells g pre.length (v :: vs)).ownsRow base e size (.slice (some ⟨g, 0, none⟩) n cap) n (pre ++ [v] ++ vs ++ post) := q1
    simpa using q1'
section
variable {Γ0 Γ : Gam} {w0 w : World} {L : List Ent} {R : List RowE} {Pg : Program} {ops : Array Oper} {rest : List Oper} {op : Oper} {a : Act} {Q : Exit → Act → World → Prop}
/-- where the first row lies, if it has an element -/
theorem MM.rowHd {A : Option Addr} {c : Nat} {e : TypeId} {size n : Nat} {xs : List Value} (M : MM Γ0 w0 Γ w L (⟨.slice A n c, e, size, n, xs⟩ :: R)) (hn : 0 < n) : ∃ g, A = some ⟨g, 0, none⟩ ∧ n ≤ c ∧ c ≤ maxLen := by
  have hr := M.rows _ (List.mem_cons_self ..)
  rcases hr.2 with ⟨h1, h2⟩ | ⟨g, cap, cur, h1, h2, h3, h4, h5, h6, h7⟩
  · simp only at h2; omega
  · simp only at h1
    injection h1 with e1 e2 e3
    subst e1 e3
    exact ⟨g, rfl, h4, h5⟩
/-- the cells of the first row -/
theorem MM.rowCells {g c : Nat} {e : TypeId} {size n : Nat} {pre mid post : List Value} (M : MM Γ0 w0 Γ w L (⟨.slice (some ⟨g, 0, none⟩) n c, e, size, n, pre ++ mid ++ post⟩ :: R)) : w.rangeAt g pre.length mid := fun j u hu => by
  have hr : w.ownsRow w0.heap.size e size (.slice (some ⟨g, 0, none⟩) n c) n (pre ++ mid ++ post) := M.rows _ (List.mem_cons_self ..)
  have hj : j < mid.length := (List.getElem?_eq_some_iff.1 hu).1
  have hl : (pre ++ mid ++ post).length = n * size := hr.1
  simp only [List.length_append] at hl
  rw [hr.cellAt (pre.length + j) (by omega), List.append_assoc, List.getElem?_append_right (by omega), Nat.add_sub_cancel_left, List.getElem?_append_left hj]
  exact hu
/-- cells of the first row are written -/
theorem MM.rowPut {g c : Nat} {e : TypeId} {size n : Nat} {pre mid post vs : List Value} (M : MM Γ0 w0 Γ w L (⟨.slice (some ⟨g, 0, none⟩) n c, e, size, n, pre ++ mid ++ post⟩ :: R)) (hl : mid.length = vs.length) :
    w.there g pre.length vs.length ∧ MM Γ0 w0 Γ (w.setCells g pre.length vs) L (⟨.slice (some ⟨g, 0, none⟩) n c, e, size, n, pre ++ vs ++ post⟩ :: R) := by
  have hr : w.ownsRow w0.heap.size e size (.slice (some ⟨g, 0, none⟩) n c) n (pre ++ mid ++ post) := M.rows _ (List.mem_cons_self ..)
  have hlen : (pre ++ mid ++ post).length = n * size := hr.1
  simp only [List.length_append] at hlen
  obtain ⟨q1, q2⟩ := own_setCells vs mid pre post w hl hr
  refine ⟨fun j hj => ?_, M.rowGrow (v' := .slice (some ⟨g, 0, none⟩) n c) (by simpa [Value.ownBlock] using q2) q1 (.inl rfl)⟩
  rw [hr.cellAt (pre.length + j) (by omega), hr.frozenAt, List.getElem?_eq_getElem (by simp; omega)]
  exact ⟨rfl, rfl⟩
/-- element i of the first row is read -/
theorem MM.rowGet {α : Type} {f : α → List Value} {k : Nat} {g c : Nat} {e : TypeId} {n : Nat} {X : List α} (M : MM Γ0 w0 Γ w L (⟨.slice (some ⟨g, 0, none⟩) n c, e, k, n, X.flatMap f⟩ :: R)) (hk : ∀ x ∈ X, (f x).length = k) (i : Nat) (hi : i < X.length) :
    w.rangeAt g (i * k) (f X[i]) := by
  rw [flat_split X i hi] at M
  have := M.rowCells
  rw [flat_pre X i hi hk] at this
  exact this
/-- element i of the first row is written -/
theorem MM.rowSet {α : Type} {f : α → List Value} {k : Nat} {g c : Nat} {e : TypeId} {n : Nat} {X : List α} (M : MM Γ0 w0 Γ w L (⟨.slice (some ⟨g, 0, none⟩) n c, e, k, n, X.flatMap f⟩ :: R)) (hk : ∀ x ∈ X, (f x).length = k) (i : Nat) (hi : i < X.length) (v : α) (hv : (f v).length = k) :
    w.there g (i * k) k ∧ MM Γ0 w0 Γ (w.setCells g (i * k) (f v)) L (⟨.slice (some ⟨g, 0, none⟩) n c, e, k, n, (X.set i v).flatMap f⟩ :: R) := by
  rw [flat_split X i hi] at M
  obtain ⟨q1, q2⟩ := M.rowPut (vs := f v) (by rw [hv, hk _ (List.getElem_mem hi)])
  rw [flat_pre X i hi hk, ← flat_set X i v hi] at q2
  rw [flat_pre X i hi hk, hv] at q1
  exact ⟨q1, q2⟩
/-- element i of the first row is written, in text order -/
theorem wpList_stE {α : Type} {f : α → List Value} {k : Nat} {g c : Nat} {e : TypeId} {n : Nat} {X : List α} (M : MM Γ0 w0 Γ w L (⟨.slice (some ⟨g, 0, none⟩) n c, e, k, n, X.flatMap f⟩ :: R)) (hk : ∀ x ∈ X, (f x).length = k) (i : Nat) (hi : i < X.length) (v : α) (hv : (f v).length = k) (h1 : One (f v)) {ty : TypeId} {x y : Operand} (ho : op.op = .store ty x y) (hgd : op.guard = none) (hx : a.eval x = .pointer (some ⟨g, i * k, none⟩))
    (hy : a.eval y = .agg (f v).toArray) (rt : RowT Pg ty k) (h : ∀ w', MM Γ0 w0 Γ w' L (⟨.slice (some ⟨g, 0, none⟩) n c, e, k, n, (X.set i v).flatMap f⟩ :: R) → wpList Pg ops Q rest (a.put op.dst undef) w') : wpList Pg ops Q (op :: rest) a w := by
  obtain ⟨d, hu, hd⟩ := rt.ex
  obtain ⟨q1, q2⟩ := M.rowSet hk i hi v hv
  refine wpList_store_mid hgd ty x y ho g (i * k) (f v).toArray hx hy (by simpa [hv] using q1) (by rw [List.size_toArray, hv]; exact info_size hu rt.n) (all_oneCell_toArray h1) ?_
  simpa using h _ q2
/-- the same, in a region that draws its order -/
theorem mix_stE {α : Type} {f : α → List Value} {k : Nat} {g c : Nat} {e : TypeId} {n : Nat} {X : List α} (M : MM Γ0 w0 Γ w L (⟨.slice (some ⟨g, 0, none⟩) n c, e, k, n, X.flatMap f⟩ :: R)) (hk : ∀ x ∈ X, (f x).length = k) (i : Nat) (hi : i < X.length) (v : α) (hv : (f v).length = k) (h1 : One (f v)) {opsA : Array Oper} {ts : Array Value} {K : Act → World → Prop} {E : Prop} {ty : TypeId} {x y : Operand} (ho : op.op = .store ty x y) (hx : a.eval x = .pointer (some ⟨g, i * k, none⟩))
    (hy : a.eval y = .agg (f v).toArray) (rt : RowT Pg ty k) (hw : Region.wanted op (yielded opsA ts) = true) (h : ∀ w', MM Γ0 w0 Γ w' L (⟨.slice (some ⟨g, 0, none⟩) n c, e, k, n, (X.set i v).flatMap f⟩ :: R) → K (a.put op.dst undef) w') : if Region.wanted op (yielded opsA ts) = true then op.wp Pg a w K Q else E := by
  rw [if_pos hw]
  obtain ⟨d, hu, hd⟩ := rt.ex
  obtain ⟨q1, q2⟩ := M.rowSet hk i hi v hv
  exact wp_store_mid ty x y ho g (i * k) (f v).toArray hx hy (by simpa [hv] using q1) (by rw [List.size_toArray, hv]; exact info_size hu rt.n) (all_oneCell_toArray h1) (by simpa using h _ q2)
/-- a cell of the first row is written, in a region that draws its order -/
theorem mix_stC {g c : Nat} {e : TypeId} {n : Nat} {xs : List Value} (M : MM Γ0 w0 Γ w L (⟨.slice (some ⟨g, 0, none⟩) n c, e, 1, n, xs⟩ :: R)) (i : Nat) (hi : i < xs.length) (v : Value) (hv : v.oneCell' = true) (hc : v.cells = #[v]) {opsA : Array Oper} {ts : Array Value} {K : Act → World → Prop} {E : Prop} {ty : TypeId} {x y : Operand} (ho : op.op = .store ty x y) (hx : a.eval x = .pointer (some ⟨g, i, none⟩))
    (hy : a.eval y = v) (ot : OneT Pg ty) (hw : Region.wanted op (yielded opsA ts) = true) (h : ∀ w', MM Γ0 w0 Γ w' L (⟨.slice (some ⟨g, 0, none⟩) n c, e, 1, n, xs.set i v⟩ :: R) → K (a.put op.dst undef) w') : if Region.wanted op (yielded opsA ts) = true then op.wp Pg a w K Q else E := by
  rw [if_pos hw]
  have e0 : xs = xs.take i ++ [xs[i]] ++ xs.drop (i + 1) := by simp
  have M' := M
  rw [e0] at M'
  obtain ⟨q1, q2⟩ := M'.rowPut (vs := [v]) rfl
  have hl : (xs.take i).length = i := by rw [List.length_take]; omega
  rw [hl] at q1 q2
  have e1 : xs.take i ++ [v] ++ xs.drop (i + 1) = xs.set i v := by rw [List.set_eq_take_append_cons_drop, if_pos hi]; simp
  rw [e1] at q2
  have hr := run_store1 (Pg := Pg) ot q1 hv hc
  unfold Oper.wp execOp
  simp only [ho, hx, hy, hr, Sem.run_bind, Sem.run_pure, Result.andThen_ok, Oper.upon]
  exact h _ q2
/-- element i is read -/
theorem wpList_ldE {α : Type} {f : α → List Value} {k : Nat} {g c : Nat} {e : TypeId} {n : Nat} {X : List α} (M : MM Γ0 w0 Γ w L (⟨.slice (some ⟨g, 0, none⟩) n c, e, k, n, X.flatMap f⟩ :: R)) (hk : ∀ x ∈ X, (f x).length = k) (i : Nat) (hi : i < X.length) {ty : TypeId} {x : Operand} (ho : op.op = .load ty x) (hgd : Region.wanted op (yielded ops a.tmps) = true) (hx : a.eval x = .pointer (some ⟨g, i * k, none⟩)) (rt : RowT Pg ty k)
    (h : wpList Pg ops Q rest (a.put op.dst (.agg (f X[i]).toArray)) w) : wpList Pg ops Q (op :: rest) a w := wpList_ranged ho hgd hx rt ⟨M.rowGet hk i hi, hk _ (List.getElem_mem hi)⟩ h
end
theorem addr_add2 (a : Addr) (i j : Nat) : (a.add i).add j = a.add (i + j) := by
  unfold Addr.add
  by_cases hi : i = 0 <;> by_cases hj : j = 0 <;> simp [hi, hj, Nat.add_assoc]
/-- a slice that came in, of elements of k cells, wherever it lies -/
theorem Row.elem {α : Type} {f : α → List Value} {k : Nat} {w : World} {B : Nat} {A : Option Addr} {n : Nat} {X : List α} (h : Row w B k A n (X.flatMap f)) (hk : ∀ x ∈ X, (f x).length = k) (h0 : 0 < k) (i : Nat) (hi : i < X.length) :
    ∃ ad : Addr, A = some ad ∧ ad.block < B ∧ ∀ j u, (f X[i])[j]? = some u → w.cell? ((ad.add (i * k)).add j) = some u := by
  have hfl : ∀ j, j < k → (X.flatMap f)[i * k + j]? = (f X[i])[j]? := fun j hj => flat_get X hk i j hi hj
  have hlen : (f X[i]).length = k := hk _ (List.getElem_mem hi)
  have h00 : (X.flatMap f)[i * k + 0]? = some ((f X[i])[0]'(by omega)) := by rw [hfl 0 h0, List.getElem?_eq_getElem]
  obtain ⟨ad, e, hb, _⟩ := h.2 _ _ h00
  refine ⟨ad, e, hb, fun j u hu => ?_⟩
  have hj : j < k := by have := (List.getElem?_eq_some_iff.1 hu).1; omega
  obtain ⟨ad', e', _, hc⟩ := h.2 (i * k + j) u (by rw [hfl j hj]; exact hu)
  rw [e] at e'
  injection e' with e'
  subst e'
  rw [addr_add2]; exact hc
end Go.Proofs.Ytekikfdlnkcenaa
