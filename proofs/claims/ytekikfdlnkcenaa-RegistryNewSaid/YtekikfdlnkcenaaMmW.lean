/- Steps of a walk over the call's memory. -/
import Derived.Test.YtekikfdlnkcenaaMm
namespace Go.Proofs.Ytekikfdlnkcenaa
open Go.RowKit
def One (cs : List Value) : Prop := ∀ u ∈ cs, u.oneCell' = true
theorem One.nil : One [] := fun _ h => by cases h
theorem One.cons {P : List (List Value)} {x : List Value} (h : One x) (k : One (fl P)) : One (fl (x :: P)) := fun u hu => by
  rw [fl_cons] at hu
  exact (List.mem_append.1 hu).elim (h u) (k u)
theorem One.ints (k : IntKind) (l : List Int) : One (ints k l) := one_ints k l
theorem One.v {v : Value} (h : v.oneCell' = true) : One [v] := fun u hu => by
  have : u = v := by simpa using hu
  subst this; exact h
theorem HL.part {w : World} {g o n k j : Nat} {P : List (List Value)} {ls : List Nat} (h : HL w g P ls) (hf : findPart ls o n = some (k, j)) : w.rangeAt g o (fl ((P.drop k).take j)) ∧ (fl ((P.drop k).take j)).length = n := by
  obtain ⟨pre, post, e, hp, hn, _⟩ := findPart_spec h.len hf
  refine ⟨fun i u hu => ?_, hn⟩
  rw [h.has.cell, e, ← hp]
  exact cut_mid i u hu
theorem take1 {P : List (List Value)} {k : Nat} {p : List Value} (h : P[k]? = some p) : (P.drop k).take 1 = [p] := by
  obtain ⟨hk, e⟩ := List.getElem?_eq_some_iff.1 h
  rw [List.drop_eq_getElem_cons hk, e]; rfl
theorem HL.part1 {w : World} {g o n k : Nat} {P : List (List Value)} {ls : List Nat} {p : List Value} (h : HL w g P ls) (hf : findPart ls o n = some (k, 1)) (hp : P[k]? = some p) : w.rangeAt g o p ∧ p.length = n := by
  have := h.part hf
  rw [take1 hp] at this
  exact this
theorem HL.cell1 {w : World} {g o k : Nat} {P : List (List Value)} {ls : List Nat} {v : Value} (h : HL w g P ls) (hf : findPart ls o 1 = some (k, 1)) (hp : P[k]? = some [v]) : w.cell? ⟨g, o, none⟩ = some v := (h.part1 hf hp).1 0 v rfl
/-- a part of a row that stays -/
structure CL (w : World) (g base : Nat) (P : List (List Value)) (ls : List Nat) : Prop where
  has : w.rangeAt g base (fl P)
  len : P.map List.length = ls
theorem CL.of {Γ : Gam} {w : World} {g base : Nat} {P : List (List Value)} {ls : List Nat} (h : Chk Γ g base (fl P)) (hl : P.map List.length = ls) (ok : Ok Γ w) : CL w g base P ls := ⟨h.range ok, hl⟩
theorem CL.part {w : World} {g base o n k j : Nat} {P : List (List Value)} {ls : List Nat} (h : CL w g base P ls) (hf : findPart ls o n = some (k, j)) : w.rangeAt g (base + o) (fl ((P.drop k).take j)) ∧ (fl ((P.drop k).take j)).length = n := by
  obtain ⟨pre, post, e, hp, hn, _⟩ := findPart_spec h.len hf
  refine ⟨fun i u hu => ?_, hn⟩
  have := h.has (o + i) u (by rw [e, ← hp]; exact cut_mid i u hu)
  rw [Nat.add_assoc]
  exact this
theorem CL.part1 {w : World} {g base o n k : Nat} {P : List (List Value)} {ls : List Nat} {p : List Value} (h : CL w g base P ls) (hf : findPart ls o n = some (k, 1)) (hp : P[k]? = some p) : w.rangeAt g (base + o) p ∧ p.length = n := by
  have := h.part hf
  rw [take1 hp] at this
  exact this
theorem CL.cell1 {w : World} {g base o k : Nat} {P : List (List Value)} {ls : List Nat} {v : Value} (h : CL w g base P ls) (hf : findPart ls o 1 = some (k, 1)) (hp : P[k]? = some [v]) : w.cell? ⟨g, base + o, none⟩ = some v := (h.part1 hf hp).1 0 v rfl
theorem quiet_loadRg {P : Program} {C : World → Prop} {op : Oper} {a : Act} {K : Act → Prop} (ty : TypeId) (x : Operand) (ho : op.op = .load ty x)
    (g o : Nat) (cs : List Value) (hx : a.eval x = .pointer (some ⟨g, o, none⟩)) (hr : ∀ w, C w → w.rangeAt g o cs)
    {d : TypeDesc} (hu : P.underlying ty = some d) (hd : d.isRow = true) (hc : P.cellsOf ty = cs.length)
    (h : K (a.put op.dst (.agg cs.toArray))) : op.quiet P a C K := by
  refine ⟨_, fun w hw => ?_, h⟩
  unfold Oper.quietAt execOp
  have := run_loadVar_mid (P := P) w g o ty cs d (hr w hw) hu hd (info_size hu hc)
  simp only [ho, hx, Instr.loadAt, Instr.sureAddr, Sem.run_bind, Sem.run_pure, Result.andThen_ok, this]
  exact ⟨rfl, rfl⟩
section
variable {Γ0 Γ : Gam} {w0 w : World} {L : List Ent} {R : List RowE} {Pg : Program} {ops : Array Oper} {rest : List Oper} {op : Oper} {a : Act} {Q : Exit → Act → World → Prop}
theorem wpList_ranged {ty : TypeId} {x : Operand} {g o n : Nat} {p : List Value} (ho : op.op = .load ty x) (hgd : Region.wanted op (yielded ops a.tmps) = true) (hx : a.eval x = .pointer (some ⟨g, o, none⟩)) (rt : RowT Pg ty n) (hr : w.rangeAt g o p ∧ p.length = n)
    (h : wpList Pg ops Q rest (a.put op.dst (.agg p.toArray)) w) : wpList Pg ops Q (op :: rest) a w := by
  obtain ⟨d, hu, hd⟩ := rt.ex
  exact wpList_go hgd fun K hK => wp_load_mid ty x ho g o hx p d hr.1 hu hd (info_size hu (by rw [rt.n, hr.2])) (hK _ _ h)
theorem wpList_celled {ty : TypeId} {x : Operand} {g o : Nat} {v : Value} (ho : op.op = .load ty x) (hgd : Region.wanted op (yielded ops a.tmps) = true) (hx : a.eval x = .pointer (some ⟨g, o, none⟩)) (ot : OneT Pg ty) (hc : w.cell? ⟨g, o, none⟩ = some v)
    (h : wpList Pg ops Q rest (a.put op.dst v) w) : wpList Pg ops Q (op :: rest) a w :=
  wpList_go hgd fun K hK => by
    unfold Oper.wp execOp
    simp only [ho, hx, run_load1 ot hc, Sem.run_bind, Sem.run_pure, Result.andThen_ok, Oper.upon_value]
    exact hK _ _ h
/-- one part of a variable is read -/
theorem wpList_ldp {g : Nat} {P : List (List Value)} {ls : List Nat} (H : HL w g P ls) {ty : TypeId} {x : Operand} {o n k : Nat} {p : List Value} (ho : op.op = .load ty x) (hgd : Region.wanted op (yielded ops a.tmps) = true) (hx : a.eval x = .pointer (some ⟨g, o, none⟩)) (rt : RowT Pg ty n)
    (hf : findPart ls o n = some (k, 1)) (hp : P[k]? = some p) (h : wpList Pg ops Q rest (a.put op.dst (.agg p.toArray)) w) : wpList Pg ops Q (op :: rest) a w := wpList_ranged ho hgd hx rt (H.part1 hf hp) h
/-- several parts of a variable are read -/
theorem wpList_lds {g : Nat} {P : List (List Value)} {ls : List Nat} (H : HL w g P ls) {ty : TypeId} {x : Operand} {o n k j : Nat} (ho : op.op = .load ty x) (hgd : Region.wanted op (yielded ops a.tmps) = true) (hx : a.eval x = .pointer (some ⟨g, o, none⟩)) (rt : RowT Pg ty n)
    (hf : findPart ls o n = some (k, j)) (h : wpList Pg ops Q rest (a.put op.dst (.agg (fl ((P.drop k).take j)).toArray)) w) : wpList Pg ops Q (op :: rest) a w := wpList_ranged ho hgd hx rt (H.part hf) h
/-- a cell of a variable is read -/
theorem wpList_ld1 {g : Nat} {P : List (List Value)} {ls : List Nat} (H : HL w g P ls) {ty : TypeId} {x : Operand} {o k : Nat} {v : Value} (ho : op.op = .load ty x) (hgd : Region.wanted op (yielded ops a.tmps) = true) (hx : a.eval x = .pointer (some ⟨g, o, none⟩)) (ot : OneT Pg ty)
    (hf : findPart ls o 1 = some (k, 1)) (hp : P[k]? = some [v]) (h : wpList Pg ops Q rest (a.put op.dst v) w) : wpList Pg ops Q (op :: rest) a w := wpList_celled ho hgd hx ot (H.cell1 hf hp) h
/-- the same, of a row that stays: at its head, behind it -/
theorem wpList_rdp {g base : Nat} {P : List (List Value)} {ls : List Nat} (H : CL w g base P ls) {ty : TypeId} {x : Operand} {o n k : Nat} {p : List Value} (ho : op.op = .load ty x) (hgd : Region.wanted op (yielded ops a.tmps) = true) (hx : a.eval x = .pointer (some ⟨g, base + o, none⟩)) (rt : RowT Pg ty n)
    (hf : findPart ls o n = some (k, 1)) (hp : P[k]? = some p) (h : wpList Pg ops Q rest (a.put op.dst (.agg p.toArray)) w) : wpList Pg ops Q (op :: rest) a w := wpList_ranged ho hgd hx rt (H.part1 hf hp) h
theorem wpList_rds {g base : Nat} {P : List (List Value)} {ls : List Nat} (H : CL w g base P ls) {ty : TypeId} {x : Operand} {o n k j : Nat} (ho : op.op = .load ty x) (hgd : Region.wanted op (yielded ops a.tmps) = true) (hx : a.eval x = .pointer (some ⟨g, base + o, none⟩)) (rt : RowT Pg ty n)
    (hf : findPart ls o n = some (k, j)) (h : wpList Pg ops Q rest (a.put op.dst (.agg (fl ((P.drop k).take j)).toArray)) w) : wpList Pg ops Q (op :: rest) a w := wpList_ranged ho hgd hx rt (H.part hf) h
theorem wpList_rd1 {g base : Nat} {P : List (List Value)} {ls : List Nat} (H : CL w g base P ls) {ty : TypeId} {x : Operand} {o k : Nat} {v : Value} (ho : op.op = .load ty x) (hgd : Region.wanted op (yielded ops a.tmps) = true) (hx : a.eval x = .pointer (some ⟨g, base + o, none⟩)) (ot : OneT Pg ty)
    (hf : findPart ls o 1 = some (k, 1)) (hp : P[k]? = some [v]) (h : wpList Pg ops Q rest (a.put op.dst v) w) : wpList Pg ops Q (op :: rest) a w := wpList_celled ho hgd hx ot (H.cell1 hf hp) h
theorem wpList_rdp0 {g base : Nat} {P : List (List Value)} {ls : List Nat} (H : CL w g base P ls) {ty : TypeId} {x : Operand} {n : Nat} {p : List Value} (ho : op.op = .load ty x) (hgd : Region.wanted op (yielded ops a.tmps) = true) (hx : a.eval x = .pointer (some ⟨g, base, none⟩)) (rt : RowT Pg ty n)
    (hf : findPart ls 0 n = some (0, 1)) (hp : P[0]? = some p) (h : wpList Pg ops Q rest (a.put op.dst (.agg p.toArray)) w) : wpList Pg ops Q (op :: rest) a w := wpList_ranged (o := base + 0) ho hgd hx rt (H.part1 hf hp) h
theorem wpList_rds0 {g base : Nat} {P : List (List Value)} {ls : List Nat} (H : CL w g base P ls) {ty : TypeId} {x : Operand} {n j : Nat} (ho : op.op = .load ty x) (hgd : Region.wanted op (yielded ops a.tmps) = true) (hx : a.eval x = .pointer (some ⟨g, base, none⟩)) (rt : RowT Pg ty n)
    (hf : findPart ls 0 n = some (0, j)) (h : wpList Pg ops Q rest (a.put op.dst (.agg (fl (P.take j)).toArray)) w) : wpList Pg ops Q (op :: rest) a w := wpList_ranged (o := base + 0) ho hgd hx rt (H.part hf) h
theorem wpList_rd10 {g base : Nat} {P : List (List Value)} {ls : List Nat} (H : CL w g base P ls) {ty : TypeId} {x : Operand} {v : Value} (ho : op.op = .load ty x) (hgd : Region.wanted op (yielded ops a.tmps) = true) (hx : a.eval x = .pointer (some ⟨g, base, none⟩)) (ot : OneT Pg ty)
    (hf : findPart ls 0 1 = some (0, 1)) (hp : P[0]? = some [v]) (h : wpList Pg ops Q rest (a.put op.dst v) w) : wpList Pg ops Q (op :: rest) a w := wpList_celled (o := base + 0) ho hgd hx ot (H.cell1 hf hp) h
/-- a variable is laid -/
theorem wpList_box {ty : TypeId} {x : Operand} {P : List (List Value)} {ls : List Nat} (M : MM Γ0 w0 Γ w L R) (ho : op.op = .box ty x) (hgd : op.guard = none) (hx : a.eval x = .agg (fl P).toArray) (hl : P.map List.length = ls)
    (h : ∀ w' g, MM Γ0 w0 Γ w' (⟨g, P, ls⟩ :: L) R → (Below w.heap.size w w' ∧ g = w.heap.size) → wpList Pg ops Q rest (a.put op.dst (.pointer (some ⟨g, 0, none⟩))) w') : wpList Pg ops Q (op :: rest) a w :=
  wpList_plain hgd fun K hK => by
    have hr : (execOp a.eval op).run Pg w = .ok (.value (.pointer (some ⟨w.heap.size, 0, none⟩))) (w.alloc (.cells (fl P).toArray ty)) := by
      unfold execOp
      simp only [ho, hx]
      simp [Instr.box, Sem.run_bind, newVar, Value.cells, newRow]
    unfold Oper.wp
    rw [hr, Oper.upon_value]
    exact hK _ _ (h _ _ (M.alloc hl rfl ty) ⟨ext_alloc _ _, rfl⟩)
theorem wpList_box1 {ty : TypeId} {x : Operand} {v : Value} (M : MM Γ0 w0 Γ w L R) (ho : op.op = .box ty x) (hgd : op.guard = none) (hx : a.eval x = v) (hv : v.cells = #[v])
    (h : ∀ w' g, MM Γ0 w0 Γ w' (⟨g, [[v]], [1]⟩ :: L) R → (Below w.heap.size w w' ∧ g = w.heap.size) → wpList Pg ops Q rest (a.put op.dst (.pointer (some ⟨g, 0, none⟩))) w') : wpList Pg ops Q (op :: rest) a w :=
  wpList_plain hgd fun K hK => by
    have hr : (execOp a.eval op).run Pg w = .ok (.value (.pointer (some ⟨w.heap.size, 0, none⟩))) (w.alloc (.cells #[v] ty)) := by
      unfold execOp
      simp only [ho, hx]
      simp [Instr.box, Sem.run_bind, newVar, hv, newRow]
    unfold Oper.wp
    rw [hr, Oper.upon_value]
    exact hK _ _ (h _ _ (M.alloc (P := [[v]]) rfl rfl ty) ⟨ext_alloc _ _, rfl⟩)
/-- the zero value of a type, by parts -/
structure ZeroT (Pg : Program) (ty : TypeId) (Z : List (List Value)) (ls : List Nat) : Prop where
  run : ∀ w, (zeroValue ty).run Pg w = .ok (.agg (fl Z).toArray) w
  len : Z.map List.length = ls
theorem wpList_alc {ty : TypeId} {Z : List (List Value)} {ls : List Nat} (M : MM Γ0 w0 Γ w L R) (ho : op.op = .alloc ty) (hgd : op.guard = none) (zt : ZeroT Pg ty Z ls)
    (h : ∀ w' g, MM Γ0 w0 Γ w' (⟨g, Z, ls⟩ :: L) R → (Below w.heap.size w w' ∧ g = w.heap.size) → wpList Pg ops Q rest (a.put op.dst (.pointer (some ⟨g, 0, none⟩))) w') : wpList Pg ops Q (op :: rest) a w :=
  wpList_plain hgd fun K hK => by
    have hr : (execOp a.eval op).run Pg w = .ok (.value (.pointer (some ⟨w.heap.size, 0, none⟩))) (w.alloc (.cells (fl Z).toArray ty)) := by
      unfold execOp
      simp only [ho]
      simp [Instr.alloc, Sem.run_bind, zt.run, newVar, Value.cells, newRow]
    unfold Oper.wp
    rw [hr, Oper.upon_value]
    exact hK _ _ (h _ _ (M.alloc zt.len rfl ty) ⟨ext_alloc _ _, rfl⟩)
/-- parts of variable i are written -/
theorem MM.put {i g o n k j : Nat} {P Q' : List (List Value)} {ls : List Nat} (M : MM Γ0 w0 Γ w L R) (hi : L[i]? = some ⟨g, P, ls⟩) (hf : findPart ls o n = some (k, j)) (hQ : Q'.map List.length = (ls.drop k).take j) :
    w.there g o (fl Q').length ∧ (fl Q').length = n ∧ w.grownBy (w.setCells g o (fl Q')) (some g) ∧ MM Γ0 w0 Γ (w.setCells g o (fl Q')) (L.set i ⟨g, P.take k ++ Q' ++ P.drop (k + j), ls⟩) R := by
  have hm : (⟨g, P, ls⟩ : Ent) ∈ L := List.mem_of_getElem? hi
  have hh := M.has _ hm
  have hl := M.len _ hm
  simp only at hh hl
  obtain ⟨pre, post, e, hp, hn, hq⟩ := findPart_spec hl hf
  have hn' : (fl Q').length = n := by
    rw [fl_len hQ, ← fl_len (map_take_len (map_drop_len hl k) j), hn]
  have hlen : (fl ((P.drop k).take j)).length = (fl Q').length := by rw [hn, hn']
  rw [e] at hh
  obtain ⟨q1, q2, q3⟩ := setCells_all g (fl Q') _ pre post w hlen hh
  rw [hp] at q1 q2 q3
  refine ⟨fun t ht => ?_, hn', q2, M.write hi q2 (by rw [hq]; exact q1) ?_⟩
  · rw [hh.cell, hh.frozen, ← hp, List.append_assoc, List.getElem?_append_right (by omega), Nat.add_sub_cancel_left, List.getElem?_append_left (by omega), List.getElem?_eq_getElem (by omega)]
    exact ⟨rfl, rfl⟩
  · rw [List.map_append, List.map_append, hQ, map_take_len hl, map_drop_len hl, List.append_assoc, ← List.drop_drop, List.take_append_drop, List.take_append_drop]
theorem wpList_sts {g : Nat} {P : List (List Value)} {ls : List Nat} (M : MM Γ0 w0 Γ w L R) (i : Nat) (Q' P' : List (List Value)) (hi : L[i]? = some ⟨g, P, ls⟩) {ty : TypeId} {x y : Operand} {o n k j : Nat} (ho : op.op = .store ty x y) (hgd : op.guard = none) (hx : a.eval x = .pointer (some ⟨g, o, none⟩))
    (hy : a.eval y = .agg (fl Q').toArray) (rt : RowT Pg ty n) (hf : findPart ls o n = some (k, j)) (hQ : Q'.map List.length = (ls.drop k).take j) (h1 : One (fl Q')) (hP : P.take k ++ Q' ++ P.drop (k + j) = P')
    (h : ∀ w', MM Γ0 w0 Γ w' (L.set i ⟨g, P', ls⟩) R → w.grownBy w' (some g) → wpList Pg ops Q rest (a.put op.dst undef) w') : wpList Pg ops Q (op :: rest) a w := by
  subst hP
  obtain ⟨d, hu, hd⟩ := rt.ex
  obtain ⟨q1, q2, q4, q3⟩ := M.put hi hf hQ
  refine wpList_store_mid hgd ty x y ho g o (fl Q').toArray hx hy (by simpa using q1) (by rw [List.size_toArray, q2]; exact info_size hu rt.n) (all_oneCell_toArray h1) ?_
  simpa using h _ q3 q4
theorem run_store1 {ty : TypeId} (ot : OneT Pg ty) {g o : Nat} {v : Value} (ht : w.there g o 1) (hv : v.oneCell' = true) (hc : v.cells = #[v]) : (Instr.storeAt ty (.pointer (some ⟨g, o, none⟩)) v).run Pg w = .ok () (w.setCells g o [v]) := by
  obtain ⟨d, hu, hd⟩ := ot.ex
  have hi := info_size hu ot.n
  have hs := run_storeVar_mid (P := Pg) w g o ty #[v] (by simpa using ht) (by simpa using hi) (by simp [hv])
  have e : (storeVar ty ⟨g, o, none⟩ v) = storeVar ty ⟨g, o, none⟩ (.agg #[v]) := by unfold storeVar; rw [hc]; rfl
  simp only [Instr.storeAt, Instr.sureAddr, Sem.run_bind, Sem.run_pure, Result.andThen_ok, e, hs]
/-- a cell of variable i is written -/
theorem wpList_st1 {g : Nat} {P : List (List Value)} {ls : List Nat} (M : MM Γ0 w0 Γ w L R) (i : Nat) (v : Value) (P' : List (List Value)) (hi : L[i]? = some ⟨g, P, ls⟩) {ty : TypeId} {x y : Operand} {o k : Nat} (ho : op.op = .store ty x y) (hgd : op.guard = none) (hx : a.eval x = .pointer (some ⟨g, o, none⟩))
    (hy : a.eval y = v) (ot : OneT Pg ty) (hf : findPart ls o 1 = some (k, 1)) (hk : (ls.drop k).take 1 = [1]) (hv : v.oneCell' = true) (hc : v.cells = #[v]) (hP : P.take k ++ [[v]] ++ P.drop (k + 1) = P')
    (h : ∀ w', MM Γ0 w0 Γ w' (L.set i ⟨g, P', ls⟩) R → w.grownBy w' (some g) → wpList Pg ops Q rest (a.put op.dst undef) w') : wpList Pg ops Q (op :: rest) a w := by
  subst hP
  obtain ⟨q1, q2, q4, q3⟩ := M.put (Q' := [[v]]) hi hf hk.symm
  have hr := run_store1 (Pg := Pg) ot (g := g) (o := o) (by simpa [fl] using q1) hv hc
  refine wpList_plain hgd fun K hK => ?_
  unfold Oper.wp execOp
  simp only [ho, hx, hy, hr, Sem.run_bind, Sem.run_pure, Result.andThen_ok, Oper.upon]
  exact hK _ _ (h _ q3 q4)
/-- reading in a region that draws its order -/
theorem quiet_ranged {C : World → Prop} {K : Act → Prop} {ty : TypeId} {x : Operand} {g o n : Nat} {p : List Value} (ho : op.op = .load ty x) (hx : a.eval x = .pointer (some ⟨g, o, none⟩)) (rt : RowT Pg ty n) (hr : ∀ w', C w' → w'.rangeAt g o p) (hn : p.length = n)
    (h : K (a.put op.dst (.agg p.toArray))) : op.quiet Pg a C K := by
  obtain ⟨d, hu, hd⟩ := rt.ex
  exact quiet_loadRg ty x ho g o p hx hr hu hd (by rw [rt.n, hn]) h
theorem quiet_celled {C : World → Prop} {K : Act → Prop} {ty : TypeId} {x : Operand} {g o : Nat} {v : Value} (ho : op.op = .load ty x) (hx : a.eval x = .pointer (some ⟨g, o, none⟩)) (ot : OneT Pg ty) (hc : ∀ w', C w' → w'.cell? ⟨g, o, none⟩ = some v)
    (h : K (a.put op.dst v)) : op.quiet Pg a C K := by
  refine ⟨_, fun w hw => ?_, h⟩
  unfold Oper.quietAt execOp
  simp only [ho, hx, run_load1 ot (hc w hw), Sem.run_bind, Sem.run_pure, Result.andThen_ok]
  exact ⟨rfl, rfl⟩
theorem HL.cls {g : Nat} {P : List (List Value)} {ls : List Nat} (H : HL w g P ls) : ∀ w', Cls w.heap.size w w' → HL w' g P ls := fun _ h => H.below h.out
theorem CL.cls {g base : Nat} {P : List (List Value)} {ls : List Nat} (h : Chk Γ g base (fl P)) (hl : P.map List.length = ls) (ok : Ok Γ w) : ∀ w', Cls w.heap.size w w' → CL w' g base P ls := fun _ hb => CL.of h hl (ok.below hb.out)
theorem quiet_ldp {C : World → Prop} {K : Act → Prop} {g : Nat} {P : List (List Value)} {ls : List Nat} (H : ∀ w', C w' → HL w' g P ls) (H0 : P.map List.length = ls) {ty : TypeId} {x : Operand} {o n k : Nat} {p : List Value} (ho : op.op = .load ty x) (hx : a.eval x = .pointer (some ⟨g, o, none⟩)) (rt : RowT Pg ty n)
    (hf : findPart ls o n = some (k, 1)) (hp : P[k]? = some p) (h : K (a.put op.dst (.agg p.toArray))) : op.quiet Pg a C K :=
  quiet_ranged ho hx rt (fun w' hw => ((H w' hw).part1 hf hp).1) (by obtain ⟨_, _, _, _, hn, _⟩ := findPart_spec H0 hf; rw [take1 hp] at hn; exact hn) h
theorem quiet_lds {C : World → Prop} {K : Act → Prop} {g : Nat} {P : List (List Value)} {ls : List Nat} (H : ∀ w', C w' → HL w' g P ls) (H0 : P.map List.length = ls) {ty : TypeId} {x : Operand} {o n k j : Nat} (ho : op.op = .load ty x) (hx : a.eval x = .pointer (some ⟨g, o, none⟩)) (rt : RowT Pg ty n)
    (hf : findPart ls o n = some (k, j)) (h : K (a.put op.dst (.agg (fl ((P.drop k).take j)).toArray))) : op.quiet Pg a C K :=
  quiet_ranged ho hx rt (fun w' hw => ((H w' hw).part hf).1) (by obtain ⟨_, _, _, _, hn, _⟩ := findPart_spec H0 hf; exact hn) h
theorem quiet_ld1 {C : World → Prop} {K : Act → Prop} {g : Nat} {P : List (List Value)} {ls : List Nat} (H : ∀ w', C w' → HL w' g P ls) {ty : TypeId} {x : Operand} {o k : Nat} {v : Value} (ho : op.op = .load ty x) (hx : a.eval x = .pointer (some ⟨g, o, none⟩)) (ot : OneT Pg ty)
    (hf : findPart ls o 1 = some (k, 1)) (hp : P[k]? = some [v]) (h : K (a.put op.dst v)) : op.quiet Pg a C K := quiet_celled ho hx ot (fun w' hw => (H w' hw).cell1 hf hp) h
theorem quiet_rdp {C : World → Prop} {K : Act → Prop} {g base : Nat} {P : List (List Value)} {ls : List Nat} (H : ∀ w', C w' → CL w' g base P ls) (H0 : P.map List.length = ls) {ty : TypeId} {x : Operand} {o n k : Nat} {p : List Value} (ho : op.op = .load ty x) (hx : a.eval x = .pointer (some ⟨g, base + o, none⟩)) (rt : RowT Pg ty n)
    (hf : findPart ls o n = some (k, 1)) (hp : P[k]? = some p) (h : K (a.put op.dst (.agg p.toArray))) : op.quiet Pg a C K :=
  quiet_ranged ho hx rt (fun w' hw => ((H w' hw).part1 hf hp).1) (by obtain ⟨_, _, _, _, hn, _⟩ := findPart_spec H0 hf; rw [take1 hp] at hn; exact hn) h
theorem quiet_rds {C : World → Prop} {K : Act → Prop} {g base : Nat} {P : List (List Value)} {ls : List Nat} (H : ∀ w', C w' → CL w' g base P ls) (H0 : P.map List.length = ls) {ty : TypeId} {x : Operand} {o n k j : Nat} (ho : op.op = .load ty x) (hx : a.eval x = .pointer (some ⟨g, base + o, none⟩)) (rt : RowT Pg ty n)
    (hf : findPart ls o n = some (k, j)) (h : K (a.put op.dst (.agg (fl ((P.drop k).take j)).toArray))) : op.quiet Pg a C K :=
  quiet_ranged ho hx rt (fun w' hw => ((H w' hw).part hf).1) (by obtain ⟨_, _, _, _, hn, _⟩ := findPart_spec H0 hf; exact hn) h
theorem quiet_rd1 {C : World → Prop} {K : Act → Prop} {g base : Nat} {P : List (List Value)} {ls : List Nat} (H : ∀ w', C w' → CL w' g base P ls) {ty : TypeId} {x : Operand} {o k : Nat} {v : Value} (ho : op.op = .load ty x) (hx : a.eval x = .pointer (some ⟨g, base + o, none⟩)) (ot : OneT Pg ty)
    (hf : findPart ls o 1 = some (k, 1)) (hp : P[k]? = some [v]) (h : K (a.put op.dst v)) : op.quiet Pg a C K := quiet_celled ho hx ot (fun w' hw => (H w' hw).cell1 hf hp) h
theorem quiet_rdp0 {C : World → Prop} {K : Act → Prop} {g base : Nat} {P : List (List Value)} {ls : List Nat} (H : ∀ w', C w' → CL w' g base P ls) (H0 : P.map List.length = ls) {ty : TypeId} {x : Operand} {n : Nat} {p : List Value} (ho : op.op = .load ty x) (hx : a.eval x = .pointer (some ⟨g, base, none⟩)) (rt : RowT Pg ty n)
    (hf : findPart ls 0 n = some (0, 1)) (hp : P[0]? = some p) (h : K (a.put op.dst (.agg p.toArray))) : op.quiet Pg a C K :=
  quiet_ranged (o := base + 0) ho hx rt (fun w' hw => ((H w' hw).part1 hf hp).1) (by obtain ⟨_, _, _, _, hn, _⟩ := findPart_spec H0 hf; rw [take1 hp] at hn; exact hn) h
theorem quiet_rds0 {C : World → Prop} {K : Act → Prop} {g base : Nat} {P : List (List Value)} {ls : List Nat} (H : ∀ w', C w' → CL w' g base P ls) (H0 : P.map List.length = ls) {ty : TypeId} {x : Operand} {n j : Nat} (ho : op.op = .load ty x) (hx : a.eval x = .pointer (some ⟨g, base, none⟩)) (rt : RowT Pg ty n)
    (hf : findPart ls 0 n = some (0, j)) (h : K (a.put op.dst (.agg (fl (P.take j)).toArray))) : op.quiet Pg a C K :=
  quiet_ranged (o := base + 0) ho hx rt (fun w' hw => ((H w' hw).part hf).1) (by obtain ⟨_, _, _, _, hn, _⟩ := findPart_spec H0 hf; exact hn) h
theorem quiet_rd10 {C : World → Prop} {K : Act → Prop} {g base : Nat} {P : List (List Value)} {ls : List Nat} (H : ∀ w', C w' → CL w' g base P ls) {ty : TypeId} {x : Operand} {v : Value} (ho : op.op = .load ty x) (hx : a.eval x = .pointer (some ⟨g, base, none⟩)) (ot : OneT Pg ty)
    (hf : findPart ls 0 1 = some (0, 1)) (hp : P[0]? = some [v]) (h : K (a.put op.dst v)) : op.quiet Pg a C K := quiet_celled (o := base + 0) ho hx ot (fun w' hw => (H w' hw).cell1 hf hp) h
end
end Go.Proofs.Ytekikfdlnkcenaa
