/- The reference's Insert and New. -/
import Derived.Test.YtonkgjengplppaaNodesB
import Derived.Test.YtonkgjengplppaaMix3
namespace Go.Proofs.Ytonkgjengplppaa
open Go.RowKit

theorem own_ext {w w' : World} {base : Nat} {e : TypeId} {size : Nat} {v : Value} {n : Nat} {xs : List Value} (h : w.ownsRow base e size v n xs) (hb : Below w.heap.size w w') : w'.ownsRow base e size v n xs := by
  refine ⟨h.1, ?_⟩
  rcases h.2 with h1 | ⟨g, cap, cur, h1, h2, h3, h4⟩
  · exact .inl h1
  · exact .inr ⟨g, cap, cur, h1, h2, by rw [hb.block g (Array.getElem?_eq_some_iff.1 h3).1]; exact h3, h4⟩
theorem own_slice {w : World} {base : Nat} {e : TypeId} {size : Nat} {v : Value} {n : Nat} {xs : List Value} (h : w.ownsRow base e size v n xs) : ∃ A c, v = .slice A n c := by
  rcases h.2 with ⟨h1, h2⟩ | ⟨g, cap, cur, h1, _⟩
  · subst h2; exact ⟨none, 0, h1⟩
  · exact ⟨_, _, h1⟩
/-- a row of the call's own, with elements, as a block -/
theorem own_block {w : World} {base : Nat} {e : TypeId} {size : Nat} {v : Value} {n : Nat} {xs : List Value} (h : w.ownsRow base e size v n xs) (hn : 0 < n) :
    ∃ g c post, v = .slice (some ⟨g, 0, none⟩) n c ∧ base ≤ g ∧ Has w g (xs ++ post) := by
  rcases h.2 with ⟨h1, h2⟩ | ⟨g, cap, cur, h1, h2, h3, h4, h5, h6, h7⟩
  · omega
  · refine ⟨g, cap, cur.toList.drop (n * size), h1, h2, ⟨e, ?_⟩⟩
    rw [← h7, List.take_append_drop]
    simpa using h3
theorem mix_run {P : Program} {ops : Array Oper} {o : Oper} {a : Act} {w w' : World} {K : Act → World → Prop} {Q : Exit → Act → World → Prop} {E : Prop} {v : Value}
    (hr : (execOp a.eval o).run P w = .ok (.value v) w') (hw : Region.wanted o (yielded ops a.tmps) = true) (hk : K (a.put o.dst v) w') : if Region.wanted o (yielded ops a.tmps) = true then o.wp P a w K Q else E := by
  rw [if_pos hw]
  unfold Oper.wp
  rw [hr, Oper.upon_value]
  exact hk
theorem Has.cls {w : World} {g : Nat} {cs : List Value} (h : Has w g cs) : ∀ w', Cls w.heap.size w w' → Has w' g cs := fun _ hw => h.below hw.out h.lt
theorem ext_alloc (w : World) (o : Obj) : Below w.heap.size w (w.alloc o) := (Below.refl _ _).alloc (Nat.le_refl _) o
theorem alloc_size (w : World) (o : Obj) : (w.alloc o).heap.size = w.heap.size + 1 := by simp
theorem ne_som {a b : Nat} (h : a ≠ b) : some a ≠ some b := fun e => h (by injection e)
theorem run_sliceTo {P : Program} (w : World) (t e : TypeId) (len : Nat) (parts : Array (Nat × Value)) (cells : Array Value) (hu : P.underlying t = some (.slice e)) (hf : P.builtSlice e len parts.toList = some cells) :
    (Instr.buildSlice t len parts).run P w = .ok (.slice (some ⟨w.heap.size, 0, none⟩) len len) (w.alloc (.cells cells e)) := by
  unfold Program.builtSlice at hf
  cases hie : P.info? e with
  | none => simp [hie] at hf
  | some ie =>
    simp only [hie] at hf
    cases hz : ie.zero with
    | none => simp [hz] at hf
    | some z =>
      simp only [hz] at hf
      by_cases hc : len * ie.size > 2 ^ 24 ∨ len * ie.size = 0
      · simp [hc] at hf
      · rw [if_neg hc] at hf
        exact run_buildSlice w t e len parts cells ie z hu hie hz (fun h' => hc (Or.inl h')) (fun h' => hc (Or.inr h')) hf
theorem bs_fill (ps : List (Nat × Value)) : Try.prog.builtSlice 51 1 ps = Instr.fill (fun i => some (i * 240, 240)) (nc zNode).toArray ps := by kernel_rfl
theorem built_slice1 {n : Nd} (h : BkOk n.b) : Try.prog.builtSlice 51 1 [(0, .agg (nc n).toArray)] = some (nc n).toArray := by
  rw [bs_fill]
  have e0 : nc zNode = [] ++ nc zNode ++ [] := by simp
  rw [e0, fill_part _ [] (nc zNode) [] (nc n) 0 _ _ (by rw [nc_len h]; rfl) rfl (by rw [nc_len h]; rfl)]
  simp [Instr.fill]
theorem run_bs1 {o : Oper} {a : Act} {w : World} {x : Operand} {n : Nd} (h : BkOk n.b) (ho : o.op = .buildSlice 23 1 #[(0, x)]) (hx : a.eval x = .agg (nc n).toArray) :
    (execOp a.eval o).run Try.prog w = .ok (.value (.slice (some ⟨w.heap.size, 0, none⟩) 1 1)) (w.alloc (.cells (nc n).toArray 51)) := by
  have e : (#[(0, x)].map fun (i, x) => (i, a.eval x)) = #[(0, .agg (nc n).toArray)] := by
    apply Array.ext'
    rw [Array.toList_map]
    show [(0, a.eval x)] = _
    rw [hx]
  have := run_sliceTo (P := Try.prog) w 23 51 1 #[(0, .agg (nc n).toArray)] _ Try.underlying23 (built_slice1 h)
  unfold execOp
  simp only [ho, e, this, Sem.run_bind, Result.andThen_ok]
  rfl
theorem info_node : (Try.prog.info? 51).map (fun i => (i.zero.map (·.cells.size), i.size, i.bytes)) = some (some 240, 240, 352) := by kernel_rfl
end Go.Proofs.Ytonkgjengplppaa
