/- Rows of elements of several cells, before and behind a sort. -/
import Derived.Test.YtekikfdlnkcenaaGen
import Derived.Shelf.GgSortFunc.RowK
import Derived.Shelf.GgSortFunc.InsertionK
namespace Go.Proofs.Ytekikfdlnkcenaa
open Go.RowKit Go.Sort
theorem flatK_len {α : Type} {enc : α → List Value} {k : Nat} (hk : ∀ x, (enc x).length = k) : ∀ l : List α, (l.flatMap enc).length = l.length * k
  | [] => by simp
  | x :: l => by rw [List.flatMap_cons, List.length_append, flatK_len hk l, hk, List.length_cons, Nat.succ_mul]; omega
section
variable {α : Type} [Inhabited α] {enc : α → List Value} {k : Nat}
theorem flatK_get (hk : ∀ x, (enc x).length = k) : ∀ (l : List α) (t : Nat), t < l.length * k → (l.flatMap enc)[t]? = ((enc (l.getD (t / k) default)))[t % k]?
  | [], t, h => by simp at h
  | x :: l, t, h => by
    have k0 : 0 < k := by rcases Nat.eq_zero_or_pos k with h0 | h0; · subst h0; simp at h
                          · exact h0
    rw [List.flatMap_cons]
    by_cases ht : t < k
    · rw [List.getElem?_append_left (by rw [hk]; exact ht), Nat.div_eq_of_lt ht, Nat.mod_eq_of_lt ht]; rfl
    · obtain ⟨u, rfl⟩ : ∃ u, t = u + k := ⟨t - k, by omega⟩
      rw [List.getElem?_append_right (by rw [hk]; omega), hk, Nat.add_sub_cancel, Nat.add_div_right _ k0, Nat.add_mod_right]
      rw [flatK_get hk l u (by rw [List.length_cons, Nat.succ_mul] at h; omega)]; rfl
theorem flatK_list (hk : ∀ x, (enc x).length = k) (d : List α) : (flatK enc k d.toArray).toList = d.flatMap enc := by
  apply List.ext_getElem?
  intro t
  by_cases ht : t < d.length * k
  · have k0 : 0 < k := by rcases Nat.eq_zero_or_pos k with h0 | h0; · subst h0; simp at ht
                          · exact h0
    have hs : t < (flatK enc k d.toArray).size := by simpa using ht
    rw [flatK_get hk d t ht, Array.getElem?_toList, Array.getElem?_eq_getElem hs, ← getElem!_pos _ t hs, get_flatK enc k d.toArray t (by simpa using ht)]
    have hd : t / k < d.length := (Nat.div_lt_iff_lt_mul k0).2 ht
    have e : d.toArray[t / k]! = d.getD (t / k) default := by
      rw [getElem!_pos _ _ (by simpa using hd)]
      simp [List.getD, List.getElem?_eq_getElem hd]
    rw [e]
    have hm : t % k < (enc (d.getD (t / k) default)).length := by rw [hk]; exact Nat.mod_lt _ k0
    rw [List.getElem?_eq_getElem hm, getElem!_pos (enc (d.getD (t / k) default)) (t % k) hm]
  · rw [List.getElem?_eq_none (by simpa using ht), List.getElem?_eq_none (by rw [flatK_len hk]; omega)]
theorem holdsK_of_block (hk : ∀ x, (enc x).length = k) {w : World} {g : Nat} {cur : Array Value} {e : TypeId} {d : List α} (hb : w.heap[g]? = some (.cells cur e (0, 0))) (ht : cur.toList.take (d.length * k) = d.flatMap enc) : HoldsK enc k w g 0 d.toArray := by
  intro j hj
  have hj' : j < d.length * k := by simpa using hj
  refine ⟨?_, by simp [World.frozen?, hb]⟩
  have h1 : (cur.toList.take (d.length * k))[j]? = (flatK enc k d.toArray).toList[j]? := by rw [ht, flatK_list hk]
  rw [List.getElem?_take_of_lt hj'] at h1
  simp only [World.cell?, hb, Nat.zero_add]
  simp only [Option.isSome_none, Bool.false_eq_true, if_false]
  rw [← Array.getElem?_toList, h1, Array.getElem?_toList, Array.getElem?_eq_getElem hj, ← getElem!_pos _ j hj]
  rfl
theorem heap_sortedK {w : World} {g n : Nat} {os : Array Obj} {cur : Array Value} {e : TypeId} {fr : Nat × Nat} (d : Array α) (hb : w.heap[g]? = some (.cells cur e fr)) :
    (sortWorldK enc k w g 0 n d os).heap[g]? = some (.cells (putCells id 0 (flatK enc k d) cur) e fr) := by
  have hg : g < w.heap.size := (Array.getElem?_eq_some_iff.1 hb).1
  unfold sortWorldK putRowK
  rw [heap_grow_old _ _ (by simpa using hg)]
  simp [putRow, mapBlock, Sort.ahead, Array.getElem?_modify, hb, onCells]
theorem grownBy_sortedK {w : World} {g n : Nat} {os : Array Obj} (d : Array α) : w.grownBy (sortWorldK enc k w g 0 n d os) (some g) := by
  unfold sortWorldK putRowK
  refine ⟨rfl, rfl, rfl, by simp, fun k hk hne => ?_⟩
  rw [heap_grow_old _ _ (by simpa using hk)]
  have : g ≠ k := fun e => hne (by rw [e])
  simp [putRow, mapBlock, Sort.ahead, Array.getElem?_modify, this]
theorem take_putCellsK (cur : Array Value) (F : Array Value) (h : F.size ≤ cur.size) : (putCells id 0 F cur).toList.take F.size = F.toList := by
  apply List.ext_getElem?
  intro j
  by_cases hj : j < F.size
  · rw [List.getElem?_take_of_lt hj, Array.getElem?_toList]
    simp [putCells, hj, show j < cur.size by omega]
  · rw [List.getElem?_take_eq_none (by omega), List.getElem?_eq_none (by simp; omega)]
/-- behind the sort the same slice owns the other list -/
theorem ownsRow_sortedK (hk : ∀ x, (enc x).length = k) {w : World} {base g cap n : Nat} {e : TypeId} {os : Array Obj} {cur : Array Value} {ss ts : List α} (hl : ts.length = ss.length) (hbase : base ≤ g) (hb : w.heap[g]? = some (.cells cur e (0, 0)))
    (h1 : ss.length ≤ cap) (h2 : cap ≤ maxLen) (h3 : cur.size = cap * k) :
    (sortWorldK enc k w g 0 n ts.toArray os).ownsRow base e k (.slice (some ⟨g, 0, none⟩) ss.length cap) ss.length (ts.flatMap enc) := by
  have hsz : (flatK enc k ts.toArray).size = ss.length * k := by simp [hl]
  refine ⟨by rw [flatK_len hk, hl], .inr ⟨g, cap, _, rfl, hbase, heap_sortedK _ hb, h1, h2, by simp [putCells, h3], ?_⟩⟩
  rw [← flatK_list hk, ← hsz]
  exact take_putCellsK _ _ (by rw [hsz, h3]; exact Nat.mul_le_mul_right _ h1)
end
end Go.Proofs.Ytekikfdlnkcenaa
