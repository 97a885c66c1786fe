/- Steps of a walk over the call's memory: slices that are made and appended to; results that lie in memory. -/
import Derived.Test.YtekikfdlnkcenaaMmW
import Derived.Test.YtekikfdlnkcenaaMix
import Derived.Laws.AppendOwnNone
namespace Go.Proofs.Ytekikfdlnkcenaa
open Go.RowKit
/-- a type of slices: its elements' type, size, bytes -/
structure ElT (Pg : Program) (t e : TypeId) (size bytes : Nat) : Prop where
  ht : Pg.underlying t = some (.slice e)
  hi : ∃ i z, Pg.info? e = some i ∧ i.zero = some z ∧ i.size = size ∧ i.bytes = bytes ∧ z.cells.size = size
  pos : 0 < size
  small : size ≤ 16777216
theorem elT_of {Pg : Program} {t e : TypeId} {size bytes : Nat} (ht : Pg.underlying t = some (.slice e)) (h : (Pg.info? e).map (fun i => (i.zero.map (·.cells.size), i.size, i.bytes)) = some (some size, size, bytes)) (pos : 0 < size) (small : size ≤ 16777216) : ElT Pg t e size bytes := by
  refine ⟨ht, ?_, pos, small⟩
  cases hi : Pg.info? e with
  | none => rw [hi] at h; cases h
  | some i =>
    rw [hi] at h
    simp only [Option.map_some, Option.some.injEq, Prod.mk.injEq] at h
    obtain ⟨h1, h2, h3⟩ := h
    cases hz : i.zero with
    | none => rw [hz] at h1; cases h1
    | some z =>
      rw [hz] at h1
      exact ⟨i, z, rfl, hz, h2, h3, by simpa using h1⟩
theorem bs_one {Pg : Program} {t e : TypeId} {size bytes : Nat} (el : ElT Pg t e size bytes) {v : Value} {cs : List Value} (hv : v.cells = cs.toArray) (hl : cs.length = size) : Pg.builtSlice e 1 [(0, v)] = some cs.toArray := by
  obtain ⟨i, z, h1, h2, h3, h4, h5⟩ := el.hi
  have hp := el.pos
  have hs := el.small
  unfold Program.builtSlice
  rw [h1]
  simp only [h2]
  rw [if_neg (by rw [h3]; omega)]
  have hZ : ((Array.range (1 * i.size)).map (z.cells[· % z.cells.size]!)).size = size := by simp [h3]
  generalize (Array.range (1 * i.size)).map (z.cells[· % z.cells.size]!) = Z at *
  have hm : Z.toList.length = cs.length := by simp [hl, hZ]
  have e0 : Z = ([] ++ Z.toList ++ []).toArray := by simp
  have hfold : v.cells.zipIdx.foldl (fun c (x : Value × Nat) => c.setIfInBounds (0 + x.2) x.1) (([] : List Value) ++ Z.toList ++ []).toArray = (([] : List Value) ++ cs ++ []).toArray := by
    have := fold_set ([] : List Value).length cs Z.toList [] [] 0 hm (by simp)
    rw [hv, ← Array.foldl_toList, Array.toList_zipIdx]
    exact this
  rw [Instr.fill]
  simp only [Nat.zero_mul]
  rw [if_neg (by simp [hv, hl, h3, hZ]), e0, hfold]
  simp [Instr.fill]
section
variable {Γ0 Γ : Gam} {w0 w : World} {L : List Ent} {R : List RowE} {Pg : Program} {ops : Array Oper} {rest : List Oper} {op : Oper} {a : Act} {Q : Exit → Act → World → Prop}
/-- a slice of one element is laid -/
theorem run_bs {t e : TypeId} {size bytes : Nat} (el : ElT Pg t e size bytes) {x : Operand} {v : Value} {cs : List Value} (ho : op.op = .buildSlice t 1 #[(0, x)]) (hx : a.eval x = v) (hv : v.cells = cs.toArray) (hl : cs.length = size) :
    (execOp a.eval op).run Pg w = .ok (.value (.slice (some ⟨w.heap.size, 0, none⟩) 1 1)) (w.alloc (.cells cs.toArray e)) := by
  have e1 : (#[(0, x)].map fun (i, x) => (i, a.eval x)) = #[(0, v)] := by
    apply Array.ext'
    rw [Array.toList_map]
    show [(0, a.eval x)] = _
    rw [hx]
  have := run_sliceTo (P := Pg) w t e 1 #[(0, v)] _ el.ht (bs_one el hv hl)
  unfold execOp
  simp only [ho, e1, this, Sem.run_bind, Result.andThen_ok]
  rfl
theorem wpList_bs {t e : TypeId} {size bytes : Nat} (M : MM Γ0 w0 Γ w L R) (el : ElT Pg t e size bytes) {P : List (List Value)} {ls : List Nat} {x : Operand} {v : Value} (ho : op.op = .buildSlice t 1 #[(0, x)]) (hgd : op.guard = none) (hx : a.eval x = v) (hv : v.cells = (fl P).toArray) (hl : P.map List.length = ls) (hs : ls.sum = size)
    (h : ∀ w' g, MM Γ0 w0 Γ w' (⟨g, P, ls⟩ :: L) R → (Below w.heap.size w w' ∧ g = w.heap.size) → wpList Pg ops Q rest (a.put op.dst (.slice (some ⟨g, 0, none⟩) 1 1)) w') : wpList Pg ops Q (op :: rest) a w :=
  wpList_plain hgd fun K hK => by
    unfold Oper.wp
    rw [run_bs el ho hx hv (by rw [fl_len hl, hs]), Oper.upon_value]
    exact hK _ _ (h _ _ (M.alloc hl rfl e) ⟨ext_alloc _ _, rfl⟩)
theorem wpList_bsF (M : MM Γ0 w0 Γ w L R) {t e : TypeId} (hu : Pg.underlying t = some (.slice e)) (ps : List (Nat × Value)) (P : List (List Value)) {ls : List Nat} {n : Nat} {parts : Array (Nat × Operand)} (ho : op.op = .buildSlice t n parts) (hgd : op.guard = none)
    (hps : parts.toList.map (fun x => (x.1, a.eval x.2)) = ps) (hf : Pg.builtSlice e n ps = some (fl P).toArray) (hl : P.map List.length = ls)
    (h : ∀ w' g, MM Γ0 w0 Γ w' (⟨g, P, ls⟩ :: L) R → (Below w.heap.size w w' ∧ g = w.heap.size) → wpList Pg ops Q rest (a.put op.dst (.slice (some ⟨g, 0, none⟩) n n)) w') : wpList Pg ops Q (op :: rest) a w :=
  wpList_plain hgd fun K hK => by
    have e1 : (parts.map fun (i, x) => (i, a.eval x)) = ps.toArray := Array.ext' (by rw [Array.toList_map]; exact hps)
    have hr := run_sliceTo (P := Pg) w t e n ps.toArray _ hu hf
    unfold Oper.wp execOp
    simp only [ho, e1, hr, Sem.run_bind, Result.andThen_ok]
    exact hK _ _ (h _ _ (M.alloc hl rfl e) ⟨ext_alloc _ _, rfl⟩)
/-- a cell of a block is written -/
theorem wpList_stc {ty : TypeId} (ot : OneT Pg ty) {g i : Nat} {cs : List Value} (hh : Has w g cs) (hi : i < cs.length) (v : Value) {x y : Operand} (ho : op.op = .store ty x y) (hgd : op.guard = none) (hx : a.eval x = .pointer (some ⟨g, i, none⟩)) (hy : a.eval y = v) (hv : v.oneCell' = true) (hc : v.cells = #[v])
    (h : ∀ w', Has w' g (cs.set i v) → w.grownBy w' (some g) → wpList Pg ops Q rest (a.put op.dst undef) w') : wpList Pg ops Q (op :: rest) a w := by
  have ht : w.there g i 1 := fun j hj => by
    have hj0 : j = 0 := by omega
    subst hj0
    rw [Nat.add_zero, hh.cell i, hh.frozen i, List.getElem?_eq_getElem hi]
    exact ⟨rfl, rfl⟩
  have hr := run_store1 (Pg := Pg) ot ht hv hc
  refine wpList_plain hgd fun K hK => ?_
  unfold Oper.wp execOp
  simp only [ho, hx, hy, hr, Sem.run_bind, Sem.run_pure, Result.andThen_ok, Oper.upon]
  exact hK _ _ (h _ (hh.set i v) (grown_setCell w g i v))
/-- m elements are appended to the first row -/
theorem run_pushR {t e : TypeId} {size bytes : Nat} (el : ElT Pg t e size bytes) {v : Value} {n : Nat} {xs : List Value} (M : MM Γ0 w0 Γ w L (⟨v, e, size, n, xs⟩ :: R)) (ty : TypeId) (A : Option Addr) (m c : Nat) (news : List Value)
    (hnews : Row w w.heap.size size A m news) (hA : A = none → c = 0) (h1 : One news) (h63 : n + m ≤ maxLen) (hbytes : (n + m) * bytes ≤ 140737488355328) :
    ∃ v' w', (Builtin.append_ #[t, t] ty #[v, .slice A m c]).run Pg w = .ok v' w' ∧ MM Γ0 w0 Γ w' L (⟨v', e, size, n + m, xs ++ news⟩ :: R) := by
  obtain ⟨i, z, hi, hz, hsz, hby, hzs⟩ := el.hi
  have hown := M.rows _ (List.mem_cons_self ..)
  cases A with
  | some ad =>
    have hn : ∀ j u, news[j]? = some u → w.cell? (ad.add j) = some u := fun j u hu => by
      obtain ⟨ad', e, _, h⟩ := hnews.2 j u hu
      cases e; exact h
    obtain ⟨v', w', q1, q2, q3, _, q5⟩ := run_append_own_at (P := Pg) w w0.heap.size t ty e i z size bytes el.ht hi hz hsz hby hzs el.pos v n xs hown ad m c news hnews.1 hn h1 h63 hbytes M.ext.bel.size
    refine ⟨v', w', q1, M.rowGrow q3 q2 ?_⟩
    rcases q5 with q5 | q5
    · exact .inl q5
    · exact .inr (.inl q5)
  | none =>
    have hm : m = 0 := by
      rcases Nat.eq_zero_or_pos m with h0 | h0
      · exact h0
      · have hpos := el.pos
        have hl := hnews.1
        have : 0 < m * size := Nat.mul_pos h0 hpos
        obtain ⟨ad, e, _⟩ := hnews.2 0 (news[0]'(by omega)) (List.getElem?_eq_getElem (by omega))
        cases e
    subst hm
    obtain rfl := hA rfl
    have hnil : news = [] := List.eq_nil_of_length_eq_zero (by have := hnews.1; simpa using this)
    subst hnil
    exact ⟨v, w, run_append_owned_none (P := Pg) (w := w) w0.heap.size t ty e i size el.ht hi v n xs hown, by simpa using M⟩
theorem MM.frz {A : Option Addr} {c : Nat} {e : TypeId} {size n : Nat} {xs : List Value} (M : MM Γ0 w0 Γ w L (⟨.slice A n c, e, size, n, xs⟩ :: R)) : ∃ Γ', CapOk A n c ∧ SlG Γ' A n xs ∧ Le Γ Γ' ∧ MM Γ0 w0 Γ' w L R := by
  obtain ⟨A', c', Γ', e, h1, h2, h3, h4⟩ := M.freeze
  injection e with e1 e2 e3
  subst e1; subst e3
  exact ⟨Γ', h1, h2, h3, h4⟩
theorem row_of_HL {g : Nat} {P : List (List Value)} {ls : List Nat} (H : HL w g P ls) {m size : Nat} (hs : ls.sum = m * size) : Row w w.heap.size size (some ⟨g, 0, none⟩) m (fl P) :=
  ⟨by rw [fl_len H.len, hs], fun j u hu => ⟨_, rfl, H.has.lt, by rw [add_at, H.has.cell, Nat.zero_add]; exact hu⟩⟩
theorem wpList_pushR {t e : TypeId} {size bytes : Nat} {v : Value} {n : Nat} {xs : List Value} (M : MM Γ0 w0 Γ w L (⟨v, e, size, n, xs⟩ :: R)) (el : ElT Pg t e size bytes) {s x : Operand} {A : Option Addr} {m c : Nat} {news : List Value}
    (hnews : Row w w.heap.size size A m news) (hA : A = none → c = 0) (h1 : One news) (h63 : n + m ≤ maxLen) (hbytes : (n + m) * bytes ≤ 140737488355328)
    (ho : op.op = .call { callee := .builtin .append, args := #[s, x], argTypes := #[t, t] }) (hgd : op.guard = none) (hs : a.eval s = v) (hx : a.eval x = .slice A m c)
    (h : ∀ A' c' w', MM Γ0 w0 Γ w' L (⟨.slice A' (n + m) c', e, size, n + m, xs ++ news⟩ :: R) → wpList Pg ops Q rest (a.put op.dst (.slice A' (n + m) c')) w') : wpList Pg ops Q (op :: rest) a w := by
  obtain ⟨v', w', hr, hM⟩ := run_pushR el M op.type A m c news hnews hA h1 h63 hbytes
  obtain ⟨A', c', e1⟩ := own_slice (hM.rows _ (List.mem_cons_self ..))
  simp only at e1
  subst e1
  refine wpList_plain hgd fun K hK => ?_
  unfold Oper.wp execOp
  simp only [ho, resolve, invoke, builtin, Sem.run_bind, Sem.run_pure, Result.andThen_ok, List.map_toArray, List.map_cons, List.map_nil, hs, hx, hr]
  exact hK _ _ (h A' c' w' hM)
/-- the element that was just laid is appended -/
theorem wpList_pushE {t e : TypeId} {size bytes : Nat} {v : Value} {n : Nat} {xs : List Value} {g : Nat} {P : List (List Value)} {ls : List Nat} (M : MM Γ0 w0 Γ w (⟨g, P, ls⟩ :: L) (⟨v, e, size, n, xs⟩ :: R)) (el : ElT Pg t e size bytes) {s x : Operand}
    (hls : ls.sum = size) (h1 : One (fl P)) (h63 : n + 1 ≤ maxLen) (hbytes : (n + 1) * bytes ≤ 140737488355328)
    (ho : op.op = .call { callee := .builtin .append, args := #[s, x], argTypes := #[t, t] }) (hgd : op.guard = none) (hs : a.eval s = v) (hx : a.eval x = .slice (some ⟨g, 0, none⟩) 1 1)
    (h : ∀ A' c' w', MM Γ0 w0 Γ w' L (⟨.slice A' (n + 1) c', e, size, n + 1, xs ++ fl P⟩ :: R) → wpList Pg ops Q rest (a.put op.dst (.slice A' (n + 1) c')) w') : wpList Pg ops Q (op :: rest) a w :=
  wpList_pushR M el (row_of_HL M.at0 (by rw [hls, Nat.one_mul])) (fun h => by cases h) h1 h63 hbytes ho hgd hs hx fun A' c' w' hM => h A' c' w' hM.tail
/-- a call whose value is one in all worlds of the class -/
theorem quiet_call {C : World → Prop} {K : Act → Prop} {f : FuncId} {fn : Func} {args : Array Value} {v : Value} (hc : ∀ w', C w' → Calls Pg f args w' fun e w'' => e = .returned v ∧ C w'') (hf : Pg.funcs[f]? = some fn) (hn : (fn.name == "runtime.NumGoroutine") = false) (hb : fn.body.isNone = false)
    {xs : Array Operand} {ts : Array TypeId} (ho : op.op = .call { callee := .value (.func f), args := xs, argTypes := ts }) (hargs0 : xs.toList.map a.eval = args.toList) (hk : K (a.put op.dst v)) : op.quiet Pg a C K := by
  have hargs : xs.map a.eval = args := Array.ext' (by rw [Array.toList_map]; exact hargs0)
  refine ⟨v, fun w' hw => ?_, hk⟩
  unfold Oper.quietAt execOp
  have hev : a.eval (.func f) = .func (.func f) #[] #[] := rfl
  simp only [ho, resolve, Sem.run_bind, Sem.run_pure, Result.andThen_ok, hargs, hev, Deferred.ofValue, invoke, Array.append_empty, Array.empty_append, run_enter hf hn hb, Oper.quietUpon]
  exact ⟨trivial, hc w' hw⟩
theorem quietE {W : World} {f : FuncId} {args : Array Value} {v : Value} (h : ∀ w', Cls W.heap.size W w' → Calls Pg f args w' fun e w'' => e = .returned v ∧ Ext Γ w' Γ w'') : ∀ w', Cls W.heap.size W w' → Calls Pg f args w' fun e w'' => e = .returned v ∧ Cls W.heap.size W w'' :=
  fun w' hw => (h w' hw).mono fun _ _ ⟨he, hx⟩ => ⟨he, Below.trans hw (hx.bel.mono (Below.size hw))⟩
theorem quietB {W : World} {f : FuncId} {args : Array Value} {v : Value} (h : ∀ w', Cls W.heap.size W w' → Calls Pg f args w' fun e w'' => e = .returned v ∧ Below w'.heap.size w' w'') : ∀ w', Cls W.heap.size W w' → Calls Pg f args w' fun e w'' => e = .returned v ∧ Cls W.heap.size W w'' :=
  fun w' hw => (h w' hw).mono fun _ _ ⟨he, hx⟩ => ⟨he, Below.trans hw (hx.mono (Below.size hw))⟩
theorem results_L {fn : Func} {p : Tmp} {ty : TypeId} (h : fn.results = #[.cell p ty]) (tmps : Array Value) {g n : Nat} {P : List (List Value)} {ls : List Nat} (H : HL w g P ls) (hp : tmps.getD p undef = .pointer (some ⟨g, 0, none⟩)) (rt : RowT Pg ty n) (hn : ls.sum = n) :
    (results fn tmps).run Pg w = .ok (.agg (fl P).toArray) w := by
  obtain ⟨d, hu, hd⟩ := rt.ex
  exact results_cell h tmps hp H.has hu (by cases d <;> first | rfl | cases hd) (by rw [rt.n, fl_len H.len, hn])
theorem results_Lt {fn : Func} {p q : Tmp} {ty : TypeId} (h : fn.results = #[.cell p ty, .tmp q]) (tmps : Array Value) {g n : Nat} {P : List (List Value)} {ls : List Nat} (H : HL w g P ls) (hp : tmps.getD p undef = .pointer (some ⟨g, 0, none⟩)) (rt : RowT Pg ty n) (hn : ls.sum = n) :
    (results fn tmps).run Pg w = .ok (.tuple #[.agg (fl P).toArray, tmps.getD q undef]) w := by
  obtain ⟨d, hu, hd⟩ := rt.ex
  exact results_cell_tmp h tmps hp H.has hu (by cases d <;> first | rfl | cases hd) (by rw [rt.n, fl_len H.len, hn])
end
end Go.Proofs.Ytekikfdlnkcenaa
