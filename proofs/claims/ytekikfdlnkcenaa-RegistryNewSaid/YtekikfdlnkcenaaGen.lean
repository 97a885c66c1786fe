/- Rows, blocks and calls: what is not about a type of its own. -/
import Derived.Test.YtekikfdlnkcenaaMidP
import Derived.Test.YtekikfdlnkcenaaMix3
import Derived.Great.Walk
namespace Go.Proofs.Ytekikfdlnkcenaa
open Go.RowKit
theorem own_ext {w w' : World} {base : Nat} {e : TypeId} {size : Nat} {v : Value} {n : Nat} {xs : List Value} (h : w.ownsRow base e size v n xs) (hb : Below w.heap.size w w') : w'.ownsRow base e size v n xs := by
  refine ⟨h.1, ?_⟩
  rcases h.2 with h1 | ⟨g, cap, cur, h1, h2, h3, h4⟩
  · exact .inl h1
  · exact .inr ⟨g, cap, cur, h1, h2, by rw [hb.block g (Array.getElem?_eq_some_iff.1 h3).1]; exact h3, h4⟩
theorem own_slice {w : World} {base : Nat} {e : TypeId} {size : Nat} {v : Value} {n : Nat} {xs : List Value} (h : w.ownsRow base e size v n xs) : ∃ A c, v = .slice A n c := by
  rcases h.2 with ⟨h1, h2⟩ | ⟨g, cap, cur, h1, _⟩
  · subst h2; exact ⟨none, 0, h1⟩
  · exact ⟨_, _, h1⟩
/-- a row of the call's own, with elements, as a block -/
theorem own_block {w : World} {base : Nat} {e : TypeId} {size : Nat} {v : Value} {n : Nat} {xs : List Value} (h : w.ownsRow base e size v n xs) (hn : 0 < n) :
    ∃ g c post, v = .slice (some ⟨g, 0, none⟩) n c ∧ base ≤ g ∧ Has w g (xs ++ post) := by
  rcases h.2 with ⟨h1, h2⟩ | ⟨g, cap, cur, h1, h2, h3, h4, h5, h6, h7⟩
  · omega
  · refine ⟨g, cap, cur.toList.drop (n * size), h1, h2, ⟨e, ?_⟩⟩
    rw [← h7, List.take_append_drop]
    simpa using h3
theorem mix_run {P : Program} {ops : Array Oper} {o : Oper} {a : Act} {w w' : World} {K : Act → World → Prop} {Q : Exit → Act → World → Prop} {E : Prop} {v : Value}
    (hr : (execOp a.eval o).run P w = .ok (.value v) w') (hw : Region.wanted o (yielded ops a.tmps) = true) (hk : K (a.put o.dst v) w') : if Region.wanted o (yielded ops a.tmps) = true then o.wp P a w K Q else E := by
  rw [if_pos hw]
  unfold Oper.wp
  rw [hr, Oper.upon_value]
  exact hk
theorem Has.cls {w : World} {g : Nat} {cs : List Value} (h : Has w g cs) : ∀ w', Cls w.heap.size w w' → Has w' g cs := fun _ hw => h.below hw.out h.lt
theorem ext_alloc (w : World) (o : Obj) : Below w.heap.size w (w.alloc o) := (Below.refl _ _).alloc (Nat.le_refl _) o
theorem alloc_size (w : World) (o : Obj) : (w.alloc o).heap.size = w.heap.size + 1 := by simp
theorem ne_som {a b : Nat} (h : a ≠ b) : some a ≠ some b := fun e => h (by injection e)
theorem run_sliceTo {P : Program} (w : World) (t e : TypeId) (len : Nat) (parts : Array (Nat × Value)) (cells : Array Value) (hu : P.underlying t = some (.slice e)) (hf : P.builtSlice e len parts.toList = some cells) :
    (Instr.buildSlice t len parts).run P w = .ok (.slice (some ⟨w.heap.size, 0, none⟩) len len) (w.alloc (.cells cells e)) := by
  unfold Program.builtSlice at hf
  cases hie : P.info? e with
  | none => simp [hie] at hf
  | some ie =>
    simp only [hie] at hf
    cases hz : ie.zero with
    | none => simp [hz] at hf
    | some z =>
      simp only [hz] at hf
      by_cases hc : len * ie.size > 2 ^ 24 ∨ len * ie.size = 0
      · simp [hc] at hf
      · rw [if_neg hc] at hf
        exact run_buildSlice w t e len parts cells ie z hu hie hz (fun h' => hc (Or.inl h')) (fun h' => hc (Or.inr h')) hf
theorem own_mono {w : World} {base base' : Nat} {e : TypeId} {size : Nat} {v : Value} {n : Nat} {xs : List Value} (h : w.ownsRow base e size v n xs) (hb : base' ≤ base) : w.ownsRow base' e size v n xs := by
  refine ⟨h.1, ?_⟩
  rcases h.2 with h1 | ⟨g, cap, cur, h1, h2, h3⟩
  · exact .inl h1
  · exact .inr ⟨g, cap, cur, h1, Nat.le_trans hb h2, h3⟩
theorem has_newAt {w : World} {g : Nat} (hg : w.heap.size = g) (cs : List Value) (t : TypeId) : Has (w.alloc (.cells cs.toArray t)) g cs := hg ▸ Has.new w cs t
/-- a slice is written into a cell -/
theorem wpList_storeS {P : Program} {ops : Array Oper} {rest : List Oper} {op : Oper} {a : Act} {w : World} {Q : Exit → Act → World → Prop} (hgd : op.guard = none) (ty : TypeId) (x y : Operand) (ho : op.op = .store ty x y)
    (g i : Nat) (A : Option Addr) (n c : Nat) (cs : List Value) (hx : a.eval x = .pointer (some ⟨g, i, none⟩)) (hy : a.eval y = .slice A n c) (hg : Has w g cs) (hi : i < cs.length) {d : TypeDesc} (hu : P.underlying ty = some d) (hc : P.cellsOf ty = 1)
    (h : ∀ w', Has w' g (cs.set i (.slice A n c)) → w.grownBy w' (some g) → wpList P ops Q rest (a.put op.dst undef) w') : wpList P ops Q (op :: rest) a w := by
  have ht : w.there g i (#[Value.slice A n c] : Array Value).size := fun j hj => by
    have hj0 : j = 0 := by simpa using hj
    subst hj0
    rw [Nat.add_zero, hg.cell i, hg.frozen i, List.getElem?_eq_getElem hi]
    exact ⟨rfl, rfl⟩
  have hr : (Instr.storeAt ty (.pointer (some ⟨g, i, none⟩)) (.slice A n c)).run P w = .ok () (w.setCells g i [.slice A n c]) :=
    run_storeAt_mid (P := P) w g i ty #[.slice A n c] ht (info_size hu hc) (all_oneCell_toArray (cs := [Value.slice A n c]) (fun u hu => by simp at hu; subst hu; rfl))
  refine wpList_plain hgd fun K hK => ?_
  unfold Oper.wp execOp
  simp only [ho, hx, hy, hr, Sem.run_bind, Sem.run_pure, Result.andThen_ok, Oper.upon]
  exact hK _ _ (h _ (hg.set i _) (grown_setCell w g i _))
/-- a root is written into a vote -/
theorem one_ints (k : IntKind) (l : List Int) : ∀ u ∈ ints k l, u.oneCell' = true := fun u hu => by
  obtain ⟨x, _, rfl⟩ := List.mem_map.1 hu
  rfl
theorem one_u64 (i : Int) : ∀ u ∈ [Value.int .u64 i], u.oneCell' = true := fun u hu => by simp at hu; subst hu; rfl
theorem one_i64 (i : Int) : ∀ u ∈ [Value.int .i64 i], u.oneCell' = true := fun u hu => by simp at hu; subst hu; rfl
theorem Has.cast {w : World} {g : Nat} {cs ds : List Value} (h : Has w g cs) (e : cs = ds) : Has w g ds := e ▸ h
theorem Has.inj {w : World} {g : Nat} {a b : List Value} (h1 : Has w g a) (h2 : Has w g b) : a = b := by
  obtain ⟨t, h1⟩ := h1
  obtain ⟨t', h2⟩ := h2
  rw [h1] at h2
  injection h2 with h2
  injection h2 with h2
  exact congrArg Array.toList h2
theorem getD_at {l : List Int} {k : Nat} (hk : k < l.length) : l.getD k 0 = l[k] := by simp [List.getD, List.getElem?_eq_getElem hk]
theorem ints_push (k : IntKind) (l : List Int) (x : Int) : ints k (l ++ [x]) = ints k l ++ [.int k x] := by simp [ints]
theorem ints_len (k : IntKind) (l : List Int) : (ints k l).length = l.length := by simp [ints]
theorem own_grown {w w' : World} {base : Nat} {e : TypeId} {size : Nat} {v : Value} {n : Nat} {xs : List Value} (h : w.ownsRow base e size v n xs) {row : Option Nat} (hg : w.grownBy w' row) (hne : ∀ g, v.ownBlock = some g → row ≠ some g) : w'.ownsRow base e size v n xs := by
  refine ⟨h.1, ?_⟩
  rcases h.2 with h1 | ⟨g, cap, cur, h1, h2, h3, h4⟩
  · exact .inl h1
  · refine .inr ⟨g, cap, cur, h1, h2, ?_, h4⟩
    rw [hg.block g (Array.getElem?_eq_some_iff.1 h3).1 (fun e => hne g (by rw [h1]; rfl) e.symm)]; exact h3
theorem own_lt {w : World} {base : Nat} {e : TypeId} {size : Nat} {v : Value} {n : Nat} {xs : List Value} (h : w.ownsRow base e size v n xs) {g : Nat} (hg : v.ownBlock = some g) : base ≤ g ∧ g < w.heap.size := h.lt g hg
theorem apd {w : World} {base : Nat} {e : TypeId} {size n : Nat} {v : Value} {xs : List Value} (h : w.ownsRow base e size v n xs) : Apd w base e size v n xs := .inl h
end Go.Proofs.Ytekikfdlnkcenaa
