/- Loads whose value is known by another name. -/
import Derived.Test.YtekikfdlnkcenaaStM
namespace Go.Proofs.Ytekikfdlnkcenaa
open Go.RowKit
section
variable {Γ0 Γ : Gam} {w0 w : World} {L : List Ent} {R : List RowE} {Pg : Program} {ops : Array Oper} {rest : List Oper} {op : Oper} {a : Act} {Q : Exit → Act → World → Prop}
theorem wpList_ld1e {g : Nat} {P : List (List Value)} {ls : List Nat} (H : HL w g P ls) {v v' : Value} (hv : v = v') {ty : TypeId} {x : Operand} {o k : Nat} (ho : op.op = .load ty x) (hgd : Region.wanted op (yielded ops a.tmps) = true) (hx : a.eval x = .pointer (some ⟨g, o, none⟩)) (ot : OneT Pg ty)
    (hf : findPart ls o 1 = some (k, 1)) (hp : P[k]? = some [v]) (h : wpList Pg ops Q rest (a.put op.dst v') w) : wpList Pg ops Q (op :: rest) a w := wpList_ld1 H ho hgd hx ot hf hp (hv ▸ h)
theorem quiet_ld1e {C : World → Prop} {K : Act → Prop} {g : Nat} {P : List (List Value)} {ls : List Nat} (H : ∀ w', C w' → HL w' g P ls) {v v' : Value} (hv : v = v') {ty : TypeId} {x : Operand} {o k : Nat} (ho : op.op = .load ty x) (hx : a.eval x = .pointer (some ⟨g, o, none⟩)) (ot : OneT Pg ty)
    (hf : findPart ls o 1 = some (k, 1)) (hp : P[k]? = some [v]) (h : K (a.put op.dst v')) : op.quiet Pg a C K := quiet_ld1 H ho hx ot hf hp (hv ▸ h)
end
theorem region_clsM {P : Program} {id : Nat} {Q : Exit → Act → World → Prop} {a : Act} {W : World} {l : List Oper} {Γ0 Γ : Gam} {w0 : World} {L : List Ent} {R : List RowE} (_ : MM Γ0 w0 Γ W L R) (hm : P.follows .mixedOrders = true) (hB : Region.lexB .any l.toArray = true)
    (h : wpQuiet P l.toArray (Cls W.heap.size W) (fun a' => ∀ w', Cls W.heap.size W w' → Q .normal a' w') l a) : (Code.region id l.toArray true).wp P Q a W := region_cls W.heap.size hm hB h
/-- what holds wherever the rows that stay lie -/
theorem clsE {W : World} {Γ0 Γ : Gam} {w0 : World} {L : List Ent} {R : List RowE} {C : World → Prop} (M : MM Γ0 w0 Γ W L R) (h : ∀ w', Ok Γ w' → C w') : ∀ w', Cls W.heap.size W w' → C w' := fun w' hw => h w' (M.ext.ok.below hw.out)
section
variable {Γ0 Γ : Gam} {w0 w : World} {L : List Ent} {R : List RowE} {Pg : Program} {ops : Array Oper} {rest : List Oper} {op : Oper} {a : Act} {Q : Exit → Act → World → Prop}
theorem wpList_bs1 {t e : TypeId} {bytes : Nat} (M : MM Γ0 w0 Γ w L R) (el : ElT Pg t e 1 bytes) {x : Operand} {v : Value} (ho : op.op = .buildSlice t 1 #[(0, x)]) (hgd : op.guard = none) (hx : a.eval x = v) (hv : v.cells = #[v])
    (h : ∀ w' g, MM Γ0 w0 Γ w' (⟨g, [[v]], [1]⟩ :: L) R → (Below w.heap.size w w' ∧ g = w.heap.size) → wpList Pg ops Q rest (a.put op.dst (.slice (some ⟨g, 0, none⟩) 1 1)) w') : wpList Pg ops Q (op :: rest) a w :=
  wpList_bs M el (P := [[v]]) ho hgd hx hv rfl rfl h
end
/-- field i of a struct type: its place and type -/
def FldT (Pg : Program) (t : TypeId) (i o : Nat) (ft : TypeId) : Prop := ∃ fs f, Pg.underlying t = some (.struct fs) ∧ fs[i]? = some f ∧ f.type = ft ∧ f.offset = o
theorem info_of {Pg : Program} {t : TypeId} {d : TypeDesc} (h : Pg.underlying t = some d) : ∃ i, Pg.info? t = some i := by
  cases e : Pg.info? t with
  | some i => exact ⟨i, rfl⟩
  | none => rw [Program.underlying, e] at h; cases h
section
variable {Pg : Program} {t ft : TypeId} {i o n : Nat}
theorem run_fieldR (fd : FldT Pg t i o ft) (rt : RowT Pg ft n) {cs pre mid post : List Value} (e : cs = pre ++ mid ++ post) (hp : pre.length = o) (hm : mid.length = n) (w : World) : (Instr.field t (.agg cs.toArray) i).run Pg w = .ok (.agg mid.toArray) w := by
  obtain ⟨fs, f, hu, hf, rfl, rfl⟩ := fd
  obtain ⟨d, hd, hr⟩ := rt.ex
  obtain ⟨inf, hi⟩ := info_of hd
  have hagg : (isAgg f.type).run Pg w = .ok true w := by
    cases d <;> first | (simp [TypeDesc.isRow] at hr; done) | simp [isAgg, run_underlying hd]
  have hs : (sizeOf f.type).run Pg w = .ok n w := by
    have : Pg.cellsOf f.type = n := rt.n
    simp only [Program.cellsOf, hi] at this
    simp [sizeOf, run_typeInfo w hi]
    simpa using this
  have hx : List.take n (List.drop f.offset cs) = mid := by
    subst e
    rw [← hp, ← hm, List.append_assoc, List.drop_left, List.take_left]
  simp [Instr.field, run_underlying hu, hf, asAgg, part, hagg, hs, hx]
theorem run_field1 (fd : FldT Pg t i o ft) (ot : OneT Pg ft) {cs : List Value} {v : Value} (e : cs[o]? = some v) (w : World) : (Instr.field t (.agg cs.toArray) i).run Pg w = .ok v w := by
  obtain ⟨fs, f, hu, hf, rfl, rfl⟩ := fd
  obtain ⟨d, hd, hr⟩ := ot.ex
  have hagg : (isAgg f.type).run Pg w = .ok false w := by
    cases d <;> first | (simp [TypeDesc.isRow] at hr; done) | simp [isAgg, run_underlying hd]
  simp [Instr.field, run_underlying hu, hf, asAgg, part, hagg, e]
theorem fl_at {P : List (List Value)} {ls : List Nat} (hl : P.map List.length = ls) {o k : Nat} {v : Value} (hf : findPart ls o 1 = some (k, 1)) (hp : P[k]? = some [v]) : (fl P)[o]? = some v := by
  obtain ⟨pre, post, e, h1, h2, _⟩ := findPart_spec hl hf
  rw [take1 hp] at e
  rw [e, ← h1]
  simp [fl]
end
section
variable {Γ0 Γ : Gam} {w0 w : World} {L : List Ent} {R : List RowE} {Pg : Program} {ops : Array Oper} {rest : List Oper} {op : Oper} {a : Act} {Q : Exit → Act → World → Prop}
theorem wpList_fdR {t ft : TypeId} {i o n k j : Nat} {x : Operand} {P : List (List Value)} {ls : List Nat} (fd : FldT Pg t i o ft) (ho : op.op = .field t x i) (hgd : Region.wanted op (yielded ops a.tmps) = true) (hx : a.eval x = .agg (fl P).toArray) (hl : P.map List.length = ls) (rt : RowT Pg ft n)
    (hf : findPart ls o n = some (k, j)) (h : wpList Pg ops Q rest (a.put op.dst (.agg (fl ((P.drop k).take j)).toArray)) w) : wpList Pg ops Q (op :: rest) a w := by
  obtain ⟨pre, post, e, h1, h2, _⟩ := findPart_spec hl hf
  refine wpList_go hgd fun K hK => ?_
  unfold Oper.wp execOp
  simp only [ho, hx, run_fieldR fd rt e h1 h2 w, Sem.run_bind, Sem.run_pure, Result.andThen_ok, Oper.upon]
  exact hK _ _ h
theorem wpList_fd1 {t ft : TypeId} {i o k : Nat} {x : Operand} {v : Value} {P : List (List Value)} {ls : List Nat} (fd : FldT Pg t i o ft) (ho : op.op = .field t x i) (hgd : Region.wanted op (yielded ops a.tmps) = true) (hx : a.eval x = .agg (fl P).toArray) (hl : P.map List.length = ls) (ot : OneT Pg ft)
    (hf : findPart ls o 1 = some (k, 1)) (hp : P[k]? = some [v]) (h : wpList Pg ops Q rest (a.put op.dst v) w) : wpList Pg ops Q (op :: rest) a w := by
  refine wpList_go hgd fun K hK => ?_
  unfold Oper.wp execOp
  simp only [ho, hx, run_field1 fd ot (fl_at hl hf hp) w, Sem.run_bind, Sem.run_pure, Result.andThen_ok, Oper.upon]
  exact hK _ _ h
end
theorem quiet_fd1 {Pg : Program} {C : World → Prop} {K : Act → Prop} {op : Oper} {a : Act} {t ft : TypeId} {i o k : Nat} {x : Operand} {v : Value} {P : List (List Value)} {ls : List Nat} (fd : FldT Pg t i o ft) (ho : op.op = .field t x i) (hx : a.eval x = .agg (fl P).toArray) (hl : P.map List.length = ls) (ot : OneT Pg ft)
    (hf : findPart ls o 1 = some (k, 1)) (hp : P[k]? = some [v]) (h : K (a.put op.dst v)) : op.quiet Pg a C K := by
  refine ⟨_, fun w hw => ?_, h⟩
  unfold Oper.quietAt execOp
  simp only [ho, hx, run_field1 fd ot (fl_at hl hf hp) w, Sem.run_bind, Sem.run_pure, Result.andThen_ok]
  exact ⟨rfl, rfl⟩
theorem quiet_fdR {Pg : Program} {C : World → Prop} {K : Act → Prop} {op : Oper} {a : Act} {t ft : TypeId} {i o n k j : Nat} {x : Operand} {P : List (List Value)} {ls : List Nat} (fd : FldT Pg t i o ft) (ho : op.op = .field t x i) (hx : a.eval x = .agg (fl P).toArray) (hl : P.map List.length = ls) (rt : RowT Pg ft n)
    (hf : findPart ls o n = some (k, j)) (h : K (a.put op.dst (.agg (fl ((P.drop k).take j)).toArray))) : op.quiet Pg a C K := by
  obtain ⟨pre, post, e, h1, h2, _⟩ := findPart_spec hl hf
  refine ⟨_, fun w hw => ?_, h⟩
  unfold Oper.quietAt execOp
  simp only [ho, hx, run_fieldR fd rt e h1 h2 w, Sem.run_bind, Sem.run_pure, Result.andThen_ok]
  exact ⟨rfl, rfl⟩
theorem wpList_bldG {P : Program} {ops : Array Oper} {rest : List Oper} {o : Oper} {a : Act} {w : World} {Q : Exit → Act → World → Prop} (hgd : Region.wanted o (yielded ops a.tmps) = true) (t : TypeId) (parts : Array (Nat × Operand)) (ho : o.op = .build t parts)
    (ps : List (Nat × Value)) (cells : List Value) (hps : parts.toList.map (fun x => (x.1, a.eval x.2)) = ps) (hf : P.built t ps = some cells.toArray) (h : wpList P ops Q rest (a.put o.dst (.agg cells.toArray)) w) : wpList P ops Q (o :: rest) a w :=
  wpList_go hgd fun K hK => by
    have e : (parts.map fun (i, x) => (i, a.eval x)) = ps.toArray := Array.ext' (by rw [Array.toList_map]; exact hps)
    have := run_build (P := P) w t ps.toArray cells.toArray hf
    unfold Oper.wp execOp
    simp only [ho, e, this, Sem.run_bind, Result.andThen_ok]
    exact hK _ _ h
/-- part of a row that stays, with its lengths -/
structure Fz (Γ : Gam) (g base : Nat) (P : List (List Value)) (ls : List Nat) : Prop where
  chk : Chk Γ g base (fl P)
  len : P.map List.length = ls
theorem Fz.mono {Γ Γ' : Gam} {g base : Nat} {P : List (List Value)} {ls : List Nat} (h : Fz Γ g base P ls) (hl : Le Γ Γ') : Fz Γ' g base P ls := ⟨h.chk.mono hl, h.len⟩
theorem Fz.cls {Γ : Gam} {g base : Nat} {P : List (List Value)} {ls : List Nat} {w : World} (h : Fz Γ g base P ls) (ok : Ok Γ w) : ∀ w', Cls w.heap.size w w' → CL w' g base P ls := CL.cls h.chk h.len ok
theorem Fz.cl {Γ : Gam} {g base : Nat} {P : List (List Value)} {ls : List Nat} {w : World} (h : Fz Γ g base P ls) (ok : Ok Γ w) : CL w g base P ls := CL.of h.chk h.len ok
theorem len1 (v : Value) : ([[v]] : List (List Value)).map List.length = [1] := rfl
theorem lenR (r : Rt) : ([rc r] : List (List Value)).map List.length = [32] := by simp [rc_len]
theorem lenW (r : Wd) : ([wc r] : List (List Value)).map List.length = [4] := by simp [wc_len]
theorem sl_eq {s : Sl} {A : Option Addr} (h : s.A = A) : s.v = .slice A s.n s.c := by rw [← h]
theorem elInt : ElT Try.prog 22 3 1 8 := elT_of Try.underlying22 (by kernel_rfl) (by decide) (by decide)
theorem fdCp0 : FldT Try.prog 35 0 0 30 := ⟨_, _, Try.underlying35, rfl, rfl, rfl⟩
end Go.Proofs.Ytekikfdlnkcenaa
