/- Rows of elements of several cells in one block: an element is read, an element is written. -/
import Derived.Test.YtekikfdlnkcenaaCore
import Derived.Laws.MakeOwn
namespace Go.Proofs.Ytekikfdlnkcenaa

section
variable {α : Type} {f : α → List Value} {k : Nat}
theorem flat_len : ∀ (xs : List α), (∀ x ∈ xs, (f x).length = k) → (xs.flatMap f).length = xs.length * k
  | [], _ => by simp
  | x :: xs, h => by
    rw [List.flatMap_cons, List.length_append, h x (by simp), flat_len xs (fun y hy => h y (by simp [hy])), List.length_cons, Nat.succ_mul]
    omega
theorem flat_split : ∀ (xs : List α) (i : Nat) (hi : i < xs.length), xs.flatMap f = (xs.take i).flatMap f ++ f xs[i] ++ (xs.drop (i + 1)).flatMap f
  | x :: xs, 0, _ => by simp
  | x :: xs, i + 1, hi => by
    have := flat_split xs i (by simpa using hi)
    simp only [List.flatMap_cons, List.take_succ_cons, List.drop_succ_cons, List.getElem_cons_succ, this, List.append_assoc]
theorem flat_set : ∀ (xs : List α) (i : Nat) (v : α), i < xs.length → (xs.set i v).flatMap f = (xs.take i).flatMap f ++ f v ++ (xs.drop (i + 1)).flatMap f
  | x :: xs, 0, v, _ => by simp
  | x :: xs, i + 1, v, hi => by
    have := flat_set xs i v (by simpa using hi)
    simp only [List.set_cons_succ, List.flatMap_cons, List.take_succ_cons, List.drop_succ_cons, this, List.append_assoc]
theorem flat_pre (xs : List α) (i : Nat) (hi : i < xs.length) (hk : ∀ x ∈ xs, (f x).length = k) : ((xs.take i).flatMap f).length = i * k := by
  rw [flat_len _ (fun x hx => hk x (List.mem_of_mem_take hx)), List.length_take, Nat.min_eq_left (Nat.le_of_lt hi)]

theorem flat_get (xs : List α) (hk : ∀ x ∈ xs, (f x).length = k) (i j : Nat) (hi : i < xs.length) (hj : j < k) : (xs.flatMap f)[i * k + j]? = (f xs[i])[j]? := by
  rw [flat_split xs i hi, ← flat_pre xs i hi hk, List.append_assoc, List.getElem?_append_right (by omega), Nat.add_sub_cancel_left, List.getElem?_append_left (by rw [hk _ (List.getElem_mem hi)]; exact hj)]
/-- zero elements, as 'make' lays them -/
theorem made_flat (f : α → List Value) (x : α) (z : Array Value) (hz : z.toList = f x) (hk : (f x).length = k) (h0 : 0 < k) (n : Nat) : madeCells z (n * k) = ((List.replicate n x).flatMap f).toArray := by
  have hs : z.size = k := by rw [← hk, ← hz]; simp
  have hall : ∀ y ∈ List.replicate n x, (f y).length = k := fun y hy => by rw [List.eq_of_mem_replicate hy]; exact hk
  apply Array.ext
  · rw [size_madeCells, List.size_toArray, flat_len _ hall]; simp
  · intro j h1 h2
    rw [size_madeCells] at h1
    have hi : j / k < n := Nat.div_lt_of_lt_mul (by rw [Nat.mul_comm]; exact h1)
    have hm : j % k < k := Nat.mod_lt _ h0
    have hg := flat_get (f := f) (List.replicate n x) hall (j / k) (j % k) (by simpa using hi) hm
    have hj : j / k * k + j % k = j := by rw [Nat.mul_comm]; exact Nat.div_add_mod j k
    rw [hj] at hg
    have h3 : ((List.replicate n x).flatMap f).toArray[j] = ((List.replicate n x).flatMap f)[j]'(by simpa using h2) := by simp
    have h4 : (madeCells z (n * k))[j]'(by rw [size_madeCells]; exact h1) = z[j % z.size]! := by simp [madeCells]
    rw [h3, h4]
    have h5 := (List.getElem?_eq_getElem (l := (List.replicate n x).flatMap f) (by simpa using h2)).symm.trans hg
    have h6 : j % k < (f x).length := by omega
    simp only [List.getElem_replicate] at h5
    rw [List.getElem?_eq_getElem h6] at h5
    injection h5 with h5
    rw [h5, hs, getElem!_pos z (j % k) (by omega)]
    have : z[j % k]'(by omega) = z.toList[j % k]'(by simp; omega) := by simp
    rw [this]
    simp only [hz]

theorem Has.range {w : World} {g : Nat} {xs : List α} (h : Has w g (xs.flatMap f)) (hk : ∀ x ∈ xs, (f x).length = k) (i : Nat) (hi : i < xs.length) : w.rangeAt g (i * k) (f xs[i]) := by
  intro j u hu
  rw [h.cell, flat_split xs i hi, ← flat_pre xs i hi hk, List.append_assoc, List.getElem?_append_right (by omega), Nat.add_sub_cancel_left]
  have hj : j < (f xs[i]).length := (List.getElem?_eq_some_iff.1 hu).1
  rw [List.getElem?_append_left hj]
  exact hu
theorem Has.thereE {w : World} {g : Nat} {xs : List α} (h : Has w g (xs.flatMap f)) (hk : ∀ x ∈ xs, (f x).length = k) (i : Nat) (hi : i < xs.length) : w.there g (i * k) k := by
  intro j hj
  refine ⟨?_, h.frozen _⟩
  have := h.range hk i hi j
  have hl : (f xs[i]).length = k := hk _ (List.getElem_mem hi)
  have := this _ (List.getElem?_eq_getElem (by omega))
  rw [this]; rfl
theorem Has.setE {w : World} {g : Nat} {xs : List α} (h : Has w g (xs.flatMap f)) (hk : ∀ x ∈ xs, (f x).length = k) (i : Nat) (hi : i < xs.length) (v : α) (hv : (f v).length = k) :
    Has (w.setCells g (i * k) (f v)) g ((xs.set i v).flatMap f) ∧ w.grownBy (w.setCells g (i * k) (f v)) (some g) ∧ (w.setCells g (i * k) (f v)).heap.size = w.heap.size := by
  have hl : (f xs[i]).length = (f v).length := by rw [hv, hk _ (List.getElem_mem hi)]
  have := setCells_all g (f v) (f xs[i]) ((xs.take i).flatMap f) ((xs.drop (i + 1)).flatMap f) w hl (by rw [← flat_split xs i hi]; exact h)
  rw [flat_pre xs i hi hk, ← flat_set xs i v hi] at this
  exact this

/-- an element is read -/
theorem wpList_loadE {P : Program} {ops : Array Oper} {rest : List Oper} {op : Oper} {a : Act} {w : World} {Q : Exit → Act → World → Prop} (ty : TypeId) (x : Operand) (ho : op.op = .load ty x)
    (hgd : Region.wanted op (yielded ops a.tmps) = true) (g : Nat) (xs : List α) (i : Nat) (hx : a.eval x = .pointer (some ⟨g, i * k, none⟩)) (hg : Has w g (xs.flatMap f)) (hk : ∀ x ∈ xs, (f x).length = k)
    (hi : i < xs.length) {d : TypeDesc} (hu : P.underlying ty = some d) (hd : d.isRow = true) (hc : P.cellsOf ty = k)
    (h : wpList P ops Q rest (a.put op.dst (.agg (f xs[i]).toArray)) w) : wpList P ops Q (op :: rest) a w := by
  refine wpList_go hgd fun K hK => wp_load_mid ty x ho g (i * k) hx (f xs[i]) d (hg.range hk i hi) hu hd ?_ (hK _ _ h)
  rw [hk _ (List.getElem_mem hi)]
  exact info_size hu hc

/-- an element is written -/
theorem wpList_storeE {P : Program} {ops : Array Oper} {rest : List Oper} {op : Oper} {a : Act} {w : World} {Q : Exit → Act → World → Prop} (ty : TypeId) (x y : Operand) (ho : op.op = .store ty x y)
    (hgd : op.guard = none) (g : Nat) (xs : List α) (i : Nat) (hx : a.eval x = .pointer (some ⟨g, i * k, none⟩)) (v : α) (hy : a.eval y = .agg (f v).toArray) (hg : Has w g (xs.flatMap f)) (hk : ∀ x ∈ xs, (f x).length = k)
    (hi : i < xs.length) (hv : (f v).length = k) {d : TypeDesc} (hu : P.underlying ty = some d) (hc : P.cellsOf ty = k) (h1 : ∀ u ∈ f v, u.oneCell' = true)
    (h : ∀ w', Has w' g ((xs.set i v).flatMap f) → w.grownBy w' (some g) → w'.heap.size = w.heap.size → wpList P ops Q rest (a.put op.dst undef) w') : wpList P ops Q (op :: rest) a w := by
  obtain ⟨q1, q2, q3⟩ := hg.setE hk i hi v hv
  refine wpList_store_mid hgd ty x y ho g (i * k) (f v).toArray hx hy ?_ ?_ (all_oneCell_toArray h1) ?_
  · have := hg.thereE hk i hi
    simpa [hv] using this
  · have := info_size hu hc
    simpa [hv] using this
  · have := h _ q1 q2 q3
    simpa using this
end

/-- an element is read, in a region that draws its order -/
theorem quiet_loadE {α : Type} {f : α → List Value} {k : Nat} {P : Program} {C : World → Prop} {op : Oper} {a : Act} {K : Act → Prop} (ty : TypeId) (x : Operand) (ho : op.op = .load ty x)
    (g : Nat) (xs : List α) (i : Nat) (hx : a.eval x = .pointer (some ⟨g, i * k, none⟩)) (hg : ∀ w, C w → Has w g (xs.flatMap f)) (hk : ∀ x ∈ xs, (f x).length = k)
    (hi : i < xs.length) {d : TypeDesc} (hu : P.underlying ty = some d) (hd : d.isRow = true) (hc : P.cellsOf ty = k)
    (h : K (a.put op.dst (.agg (f xs[i]).toArray))) : op.quiet P a C K := by
  refine ⟨_, fun w hw => ?_, h⟩
  unfold Oper.quietAt execOp
  have := run_loadVar_mid (P := P) w g (i * k) ty (f xs[i]) d ((hg w hw).range hk i hi) hu hd (by rw [hk _ (List.getElem_mem hi)]; exact info_size hu hc)
  simp only [ho, hx, Instr.loadAt, Instr.sureAddr, Sem.run_bind, Sem.run_pure, Result.andThen_ok, this]
  exact ⟨rfl, rfl⟩

/-- a part of several cells goes into a value that is built -/
theorem fold_set (n : Nat) : ∀ (l mid pre post : List Value) (k : Nat), mid.length = l.length → n + k = pre.length →
    (l.zipIdx k).foldl (fun (cs : Array Value) x => cs.setIfInBounds (n + x.2) x.1) (pre ++ mid ++ post).toArray = (pre ++ l ++ post).toArray
  | [], mid, pre, post, k, hm, hk => by
    obtain rfl : mid = [] := List.eq_nil_of_length_eq_zero (by simpa using hm)
    rfl
  | v :: l, [], pre, post, k, hm, hk => by simp at hm
  | v :: l, m :: mid, pre, post, k, hm, hk => by
    have := fold_set n l mid (pre ++ [v]) post (k + 1) (by simpa using hm) (by simp; omega)
    simp only [List.zipIdx_cons, List.foldl_cons]
    rw [hk]
    have e : (pre ++ m :: mid ++ post).toArray.setIfInBounds pre.length v = (pre ++ [v] ++ mid ++ post).toArray := by simp
    rw [e, this]
    simp
end Go.Proofs.Ytekikfdlnkcenaa
