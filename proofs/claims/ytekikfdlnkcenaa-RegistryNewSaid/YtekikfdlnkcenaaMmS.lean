/- Slices of slices, in regions that draw their order; steps of such regions over the call's memory. -/
import Derived.Test.YtekikfdlnkcenaaMmP
import Derived.Test.YtekikfdlnkcenaaMix6
import Derived.DataElems
namespace Go.Proofs.Ytekikfdlnkcenaa
open Go.RowKit
/-- the address of a part of a slice -/
def cutA (A : Option Addr) (c l size : Nat) : Option Addr := if c = l then A else A.map (·.add (l * size))
theorem cutA_zero (A : Option Addr) (c size : Nat) : cutA A c 0 size = A := by
  unfold cutA
  split
  · rfl
  · cases A with
    | none => rfl
    | some a => simp [Addr.add]
theorem Row.cut {w : World} {B size n : Nat} {A : Option Addr} {xs : List Value} (h : Row w B size A n xs) {c k : Nat} (hk : k ≤ n) (hc : n ≤ c) : Row w B size (cutA A c k size) (n - k) (xs.drop (k * size)) := by
  refine ⟨by rw [List.length_drop, h.1, Nat.sub_mul], fun j u hu => ?_⟩
  rw [List.getElem?_drop] at hu
  have hlt := (List.getElem?_eq_some_iff.1 hu).1
  rw [h.1] at hlt
  obtain ⟨ad, rfl, hb, hcell⟩ := h.2 _ u hu
  have hne : ¬ c = k := fun e => by
    have : n = k := by omega
    subst this
    omega
  refine ⟨ad.add (k * size), by unfold cutA; rw [if_neg hne]; rfl, by rw [add_block]; exact hb, by rw [Addr.add_add]; exact hcell⟩
theorem Row.take {w : World} {B size n : Nat} {A : Option Addr} {xs : List Value} (h : Row w B size A n xs) {k : Nat} (hk : k ≤ n) : Row w B size A k (xs.take (k * size)) := by
  refine ⟨by rw [List.length_take, h.1, Nat.min_eq_left (Nat.mul_le_mul_right _ hk)], fun j u hu => ?_⟩
  rw [List.getElem?_take] at hu
  split at hu
  · exact h.2 j u hu
  · cases hu
theorem cutA_none {A : Option Addr} {n c k size : Nat} (h : CapOk A n c) (e : cutA A c k size = none) : c - k = 0 := by
  unfold cutA at e
  split at e
  · omega
  · cases A with
    | none => have := h.nil rfl; omega
    | some a => cases e
section
variable {Γ0 Γ : Gam} {w0 w : World} {L : List Ent} {R : List RowE} {Pg : Program} {ops : Array Oper} {rest : List Oper} {op : Oper} {a : Act} {Q : Exit → Act → World → Prop}
theorem elem_of {t e : TypeId} {size bytes : Nat} (el : ElT Pg t e size bytes) : Pg.underlying t = some (.slice (Pg.elem t)) ∧ Pg.elem t = e := by
  have h : Pg.elem t = e := by simp [Program.elem, el.ht]
  rw [h]; exact ⟨el.ht, rfl⟩
theorem run_slL {t e : TypeId} {size bytes : Nat} (el : ElT Pg t e size bytes) (A : Option Addr) (n c k : Nat) (hk : k ≤ n) (w : World) : (Instr.sliceAt t (.slice A n c) (some (.int .i64 k)) none none).run Pg w = .ok (.slice (cutA A c k size) (n - k) (c - k)) w := by
  obtain ⟨h1, h2⟩ := elem_of el
  obtain ⟨i, z, hi, hz, hs, _⟩ := el.hi
  rw [run_sliceAt_slice w t _ _ _ _ h1, run_slice_l w t A n c h1 .i64 k (by omega) (by omega), h2, run_sizeOf w hi]
  have hcs : Pg.cellsOf e = size := by simp [Program.cellsOf, hi, hs]
  simp only [Result.andThen_ok, sliced, Int.toNat_natCast, hcs, cutA]
theorem run_slH {t e : TypeId} {size bytes : Nat} (el : ElT Pg t e size bytes) (A : Option Addr) (n c k : Nat) (hk : k ≤ c) (w : World) : (Instr.sliceAt t (.slice A n c) none (some (.int .i64 k)) none).run Pg w = .ok (.slice A k c) w := by
  obtain ⟨h1, h2⟩ := elem_of el
  obtain ⟨i, z, hi, hz, hs, _⟩ := el.hi
  rw [run_sliceAt_slice w t _ _ _ _ h1, run_slice_h w t A n c h1 .i64 k (by omega) (by omega), h2, run_sizeOf w hi]
  have := cutA_zero A c size
  unfold cutA at this
  have hcs : Pg.cellsOf e = size := by simp [Program.cellsOf, hi, hs]
  simp only [Result.andThen_ok, sliced, Int.toNat_natCast, hcs, Nat.sub_zero, this]
theorem quiet_slL {C : World → Prop} {K : Act → Prop} {t e : TypeId} {size bytes : Nat} (el : ElT Pg t e size bytes) {x lo : Operand} {A : Option Addr} {n c k : Nat} (ho2 : op.op = .slice t x (some lo) none none) (hx : a.eval x = .slice A n c) (hlo : a.eval lo = .int .i64 k) (hk : k ≤ n)
    (h : K (a.put op.dst (.slice (cutA A c k size) (n - k) (c - k)))) : op.quiet Pg a C K := by
  refine ⟨_, fun w hw => ?_, h⟩
  unfold Oper.quietAt execOp
  simp only [ho2, hx, Option.map_some, Option.map_none, hlo, run_slL el A n c k hk, Sem.run_bind, Sem.run_pure, Result.andThen_ok]
  exact ⟨rfl, rfl⟩
theorem quiet_slH {C : World → Prop} {K : Act → Prop} {t e : TypeId} {size bytes : Nat} (el : ElT Pg t e size bytes) {x hi : Operand} {A : Option Addr} {n c k : Nat} (ho : op.op = .slice t x none (some hi) none) (hx : a.eval x = .slice A n c) (hhi : a.eval hi = .int .i64 k) (hk : k ≤ c)
    (h : K (a.put op.dst (.slice A k c))) : op.quiet Pg a C K := by
  refine ⟨_, fun w hw => ?_, h⟩
  unfold Oper.quietAt execOp
  simp only [ho, hx, Option.map_some, Option.map_none, hhi, run_slH el A n c k hk, Sem.run_bind, Sem.run_pure, Result.andThen_ok]
  exact ⟨rfl, rfl⟩
/-- a row begins with m elements -/
theorem run_push0 {t e : TypeId} {size bytes : Nat} (el : ElT Pg t e size bytes) (M : MM Γ0 w0 Γ w L R) (ty : TypeId) (A : Option Addr) (m c : Nat) (news : List Value)
    (hnews : Row w w.heap.size size A m news) (hA : A = none → c = 0) (h1 : One news) (h63 : m ≤ maxLen) (hbytes : m * bytes ≤ 140737488355328) :
    ∃ A' c' w', (Builtin.append_ #[t, t] ty #[.slice none 0 0, .slice A m c]).run Pg w = .ok (.slice A' m c') w' ∧ MM Γ0 w0 Γ w' L (⟨.slice A' m c', e, size, m, news⟩ :: R) ∧ Below w.heap.size w w' := by
  have MS := MM.start M.ext.ok
  obtain ⟨v', w', hr, hM⟩ := run_pushR el (MS.row0 e size) ty A m c news hnews hA h1 (by omega) (by simpa using hbytes)
  simp only [Nat.zero_add, List.nil_append] at hM
  obtain ⟨A', c', e1⟩ := own_slice (hM.rows _ (List.mem_cons_self ..))
  simp only at e1
  subst e1
  exact ⟨A', c', w', hr, M.rowNew hM.ext.bel (hM.rows _ (List.mem_cons_self ..)), hM.ext.bel⟩
theorem exec_append {t : TypeId} {s x : Operand} {v u r : Value} {w' : World} (ho : op.op = .call { callee := .builtin .append, args := #[s, x], argTypes := #[t, t] }) (hs : a.eval s = v) (hx : a.eval x = u)
    (hr : (Builtin.append_ #[t, t] op.type #[v, u]).run Pg w = .ok r w') : (execOp a.eval op).run Pg w = .ok (.value r) w' := by
  unfold execOp
  simp only [ho, resolve, invoke, builtin, Sem.run_bind, Sem.run_pure, Result.andThen_ok, List.map_toArray, List.map_cons, List.map_nil, hs, hx, hr]
theorem mix_run5 {ts : Array Value} {w' : World} {K : Act → World → Prop} {E : Prop} {v : Value} (hr : (execOp a.eval op).run Pg w = .ok (.value v) w') (hw : Region.wanted op (yielded ops ts) = true) (hk : K (a.put op.dst v) w') :
    if Region.wanted op (yielded ops ts) = true then op.wp Pg a w K Q else E := by
  rw [if_pos hw]
  unfold Oper.wp
  rw [hr, Oper.upon_value]
  exact hk
theorem mix_call5 {ts : Array Value} {K : Act → World → Prop} {E : Prop} {f : FuncId} {fn : Func} {args : Array Value} {Post : Ending → World → Prop}
    (hc : Calls Pg f args w Post) (hf : Pg.funcs[f]? = some fn) (hn : (fn.name == "runtime.NumGoroutine") = false) (hb : fn.body.isNone = false) (xs : Array Operand) (tt : Array TypeId)
    (ho : op.op = .call { callee := .value (.func f), args := xs, argTypes := tt }) (hargs0 : xs.toList.map a.eval = args.toList) (hw : Region.wanted op (yielded ops ts) = true)
    (hk : ∀ e w', Post e w' → ∃ v, e = .returned v ∧ K (a.put op.dst v) w') : if Region.wanted op (yielded ops ts) = true then op.wp Pg a w K Q else E := by
  rw [if_pos hw]
  have hargs : xs.map a.eval = args := Array.ext' (by rw [Array.toList_map]; exact hargs0)
  unfold Oper.wp execOp
  have hev : a.eval (.func f) = .func (.func f) #[] #[] := rfl
  simp only [ho, resolve, Sem.run_bind, Sem.run_pure, Result.andThen_ok, hargs, hev, Deferred.ofValue, invoke, Array.append_empty, Array.empty_append, run_enter hf hn hb, Oper.upon]
  refine Calls.mono hc ?_
  intro e w' hp
  obtain ⟨v, rfl, hK⟩ := hk e w' hp
  exact hK
end
end Go.Proofs.Ytekikfdlnkcenaa
