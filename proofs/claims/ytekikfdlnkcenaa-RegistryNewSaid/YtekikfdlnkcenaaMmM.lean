/- Slices that are made at a length, whose cells are written. -/
import Derived.Test.YtekikfdlnkcenaaMmE
import Derived.Test.YtekikfdlnkcenaaMmS
namespace Go.Proofs.Ytekikfdlnkcenaa
open Go.RowKit
structure MkT (Pg : Program) (t e : TypeId) (size bytes : Nat) (zs : List Value) : Prop where
  ht : Pg.underlying t = some (.slice e)
  hi : ∃ i z, Pg.info? e = some i ∧ i.zero = some z ∧ z.cells = zs.toArray ∧ i.size = size ∧ i.bytes = bytes
  len : zs.length = size
  pos : 0 < size
theorem mkT_of {Pg : Program} {t e : TypeId} {size bytes : Nat} {zs : List Value} (ht : Pg.underlying t = some (.slice e)) (h : (Pg.info? e).map (fun i => (i.zero.map (·.cells), i.size, i.bytes)) = some (some zs.toArray, size, bytes)) (hl : zs.length = size) (pos : 0 < size) : MkT Pg t e size bytes zs := by
  refine ⟨ht, ?_, hl, pos⟩
  cases hi : Pg.info? e with
  | none => rw [hi] at h; cases h
  | some i =>
    rw [hi] at h
    simp only [Option.map_some, Option.some.injEq, Prod.mk.injEq] at h
    obtain ⟨h1, h2, h3⟩ := h
    cases hz : i.zero with
    | none => rw [hz] at h1; cases h1
    | some z =>
      rw [hz] at h1
      exact ⟨i, z, rfl, hz, by simpa using h1, h2, h3⟩
def reps (n : Nat) (zs : List Value) : List Value := (List.replicate n zs).flatMap id
theorem reps_len (n : Nat) (zs : List Value) : (reps n zs).length = n * zs.length := by
  unfold reps
  rw [flat_len (k := zs.length) _ (fun x hx => by rw [List.eq_of_mem_replicate hx]; rfl)]
  simp
theorem reps_one (n : Nat) (z : Value) : reps n [z] = List.replicate n z := by
  unfold reps
  induction n with
  | zero => rfl
  | succ n ih => rw [List.replicate_succ, List.flatMap_cons, ih, List.replicate_succ]; rfl
section
variable {Γ0 Γ : Gam} {w0 w : World} {L : List Ent} {R : List RowE} {Pg : Program} {ops : Array Oper} {rest : List Oper} {op : Oper} {a : Act} {Q : Exit → Act → World → Prop}
theorem wpList_mk {t e : TypeId} {size bytes : Nat} {zs : List Value} (M : MM Γ0 w0 Γ w L R) (mk : MkT Pg t e size bytes zs) (n : Nat) (hb : bytes * n ≤ 281474976710656) (h63 : n ≤ 9223372036854775807) {x y : Operand} {k1 k2 : IntKind} (ho : op.op = .makeSlice t x y) (hgd : op.guard = none) (hx : a.eval x = .int k1 (n : Int)) (hy : a.eval y = .int k2 (n : Int))
    (h : ∀ w' g, MM Γ0 w0 Γ w' (⟨g, [reps n zs], [n * size]⟩ :: L) R → (Below w.heap.size w w' ∧ g = w.heap.size) → wpList Pg ops Q rest (a.put op.dst (.slice (some ⟨g, 0, none⟩) n n)) w') : wpList Pg ops Q (op :: rest) a w := by
  obtain ⟨i, z, hi, hz, hc, hs, hby⟩ := mk.hi
  have hb' : (i.bytes : Int) * (n : Int) ≤ 281474976710656 := by
    have h : ((i.bytes * n : Nat) : Int) ≤ 281474976710656 := by rw [hby]; omega
    rwa [Int.natCast_mul] at h
  have hr := run_make (P := Pg) w t e i z mk.ht hi hz k1 k2 n n (by omega) (Int.le_refl _) hb' (by omega)
  have hm : madeCells z.cells (n * i.size) = (fl [reps n zs]).toArray := by
    rw [hs]
    exact made_flat id zs z.cells (by rw [hc]; rfl) mk.len mk.pos n
  simp only [Int.toNat_natCast, hm] at hr
  refine wpList_plain hgd fun K hK => ?_
  unfold Oper.wp execOp
  simp only [ho, hx, hy, hr, Sem.run_bind, Sem.run_pure, Result.andThen_ok, Oper.upon_value]
  exact hK _ _ (h _ _ (M.alloc (by simp [reps_len, mk.len]) rfl e) ⟨ext_alloc _ _, rfl⟩)
/-- cell k of a row of cells is read -/
theorem wpList_ldk {g k m : Nat} {cs : List Value} {v : Value} (H : HL w g [cs] [m]) (hv : cs[k]? = some v) {ty : TypeId} {x : Operand} (ho : op.op = .load ty x) (hgd : Region.wanted op (yielded ops a.tmps) = true) (hx : a.eval x = .pointer (some ⟨g, k, none⟩)) (ot : OneT Pg ty)
    (h : wpList Pg ops Q rest (a.put op.dst v) w) : wpList Pg ops Q (op :: rest) a w := wpList_celled ho hgd hx ot (by rw [H.has.cell]; exact hv) h
theorem quiet_ldk {C : World → Prop} {K : Act → Prop} {g k m : Nat} {cs : List Value} {v : Value} (H : ∀ w', C w' → HL w' g [cs] [m]) (hv : cs[k]? = some v) {ty : TypeId} {x : Operand} (ho : op.op = .load ty x) (hx : a.eval x = .pointer (some ⟨g, k, none⟩)) (ot : OneT Pg ty)
    (h : K (a.put op.dst v)) : op.quiet Pg a C K := quiet_celled ho hx ot (fun w' hw => by rw [(H w' hw).has.cell]; exact hv) h
theorem quiet_ldc {C : World → Prop} {K : Act → Prop} {g k : Nat} {cs : List Value} {v : Value} (H : ∀ w', C w' → Has w' g cs) (hv : cs[k]? = some v) {ty : TypeId} {x : Operand} (ho : op.op = .load ty x) (hx : a.eval x = .pointer (some ⟨g, k, none⟩)) (ot : OneT Pg ty)
    (h : K (a.put op.dst v)) : op.quiet Pg a C K := quiet_celled ho hx ot (fun w' hw => by rw [(H w' hw).cell]; exact hv) h
/-- a cell of a variable is written, in a region that draws its order -/
theorem mix_stc {g k : Nat} {P P' : List (List Value)} {ls : List Nat} (M : MM Γ0 w0 Γ w L R) (i : Nat) (v : Value) {opsA : Array Oper} {ts : Array Value} {K : Act → World → Prop} {E : Prop} (hi : L[i]? = some ⟨g, P, ls⟩) (hk : k < (fl P).length) (hP : fl P' = (fl P).set k v) (hl : P'.map List.length = ls) {ty : TypeId} {x y : Operand} (ho : op.op = .store ty x y) (hx : a.eval x = .pointer (some ⟨g, k, none⟩)) (hy : a.eval y = v) (ot : OneT Pg ty) (hv : v.oneCell' = true) (hc : v.cells = #[v])
    (hw : Region.wanted op (yielded opsA ts) = true) (h : ∀ w', MM Γ0 w0 Γ w' (L.set i ⟨g, P', ls⟩) R → K (a.put op.dst undef) w') : if Region.wanted op (yielded opsA ts) = true then op.wp Pg a w K Q else E := by
  rw [if_pos hw]
  have hh := M.has _ (List.mem_of_getElem? hi)
  simp only at hh
  have ht : w.there g k 1 := fun j hj => by
    have hj0 : j = 0 := by omega
    subst hj0
    rw [Nat.add_zero, hh.cell k, hh.frozen k, List.getElem?_eq_getElem hk]
    exact ⟨rfl, rfl⟩
  have hr := run_store1 (Pg := Pg) ot ht hv hc
  unfold Oper.wp execOp
  simp only [ho, hx, hy, hr, Sem.run_bind, Sem.run_pure, Result.andThen_ok, Oper.upon]
  exact h _ (M.write (P' := P') hi (grown_setCell w g k v) (by rw [hP]; exact hh.set k v) hl)
/-- cell k of a row of cells is written -/
theorem wpList_stk {g k m : Nat} {cs : List Value} (M : MM Γ0 w0 Γ w L R) (i : Nat) (v : Value) (hi : L[i]? = some ⟨g, [cs], [m]⟩) (hk : k < cs.length) {ty : TypeId} {x y : Operand} (ho : op.op = .store ty x y) (hgd : op.guard = none) (hx : a.eval x = .pointer (some ⟨g, k, none⟩)) (hy : a.eval y = v) (ot : OneT Pg ty) (hv : v.oneCell' = true) (hc : v.cells = #[v])
    (h : ∀ w', MM Γ0 w0 Γ w' (L.set i ⟨g, [cs.set k v], [m]⟩) R → wpList Pg ops Q rest (a.put op.dst undef) w') : wpList Pg ops Q (op :: rest) a w := by
  have hm := M.len _ (List.mem_of_getElem? hi)
  exact wpList_stc ot (M.has _ (List.mem_of_getElem? hi)) hk v ho hgd hx hy hv hc fun w' hh hg => h w' (M.write (P' := [cs.set k v]) hi hg hh (by simpa using hm))
/-- a row of the call's own is looked at as a variable -/
theorem MM.rowL {A : Option Addr} {c : Nat} {e : TypeId} {size n : Nat} {xs : List Value} (M : MM Γ0 w0 Γ w L (⟨.slice A n c, e, size, n, xs⟩ :: R)) (hn : 0 < n) :
    ∃ (g : Nat) (rest : List Value), A = some ⟨g, 0, none⟩ ∧ CapOk A n c ∧ MM Γ0 w0 Γ w (⟨g, [xs, rest], [xs.length, rest.length]⟩ :: L) R := by
  have hr := M.rows _ (List.mem_cons_self ..)
  have ho := M.roff _ (List.mem_cons_self ..)
  have M1 := M.rtail
  rcases hr.2 with ⟨h1, h2⟩ | ⟨g, cap, cur, h1, h2, h3, h4, h5, h6, h7⟩
  · simp only at h2; omega
  · simp only at h1 h3 h6 h7
    injection h1 with e1 e2 e3
    subst e1 e3
    obtain ⟨hof, hL⟩ := ho g rfl
    have hh : Has w g (xs ++ cur.toList.drop (n * size)) := ⟨e, by rw [← h7, List.take_append_drop]; simpa using h3⟩
    refine ⟨g, cur.toList.drop (n * size), rfl, ⟨h4, h5, fun h => by cases h⟩, ⟨M1.ext, fun p hp => ?_, fun p hp => ?_, fun p hp => ?_, fun p hp => ?_, List.pairwise_cons.2 ⟨fun q hq e => hL q hq e.symm, M1.nd⟩, M1.rows, fun r hr' k hk => ⟨(M1.roff r hr' k hk).1, fun p hp => ?_⟩, M1.rnd⟩⟩
    · rcases List.mem_cons.1 hp with rfl | hp
      · exact hh
      · exact M1.has p hp
    · rcases List.mem_cons.1 hp with rfl | hp
      · rfl
      · exact M1.len p hp
    · rcases List.mem_cons.1 hp with rfl | hp
      · exact hof
      · exact M1.off p hp
    · rcases List.mem_cons.1 hp with rfl | hp
      · exact h2
      · exact M1.lo p hp
    · rcases List.mem_cons.1 hp with rfl | hp
      · intro e'
        simp only at e'
        subst e'
        exact (List.pairwise_cons.1 M.rnd).1 r hr' g rfl hk
      · exact (M1.roff r hr' k hk).2 p hp
/-- a variable stays from now on -/
theorem MM.frzL {g : Nat} {P : List (List Value)} {ls : List Nat} (M : MM Γ0 w0 Γ w (⟨g, P, ls⟩ :: L) R) : ∃ Γ', Γ' g = some (fl P) ∧ Le Γ Γ' ∧ MM Γ0 w0 Γ' w L R := by
  have hn := M.off ⟨g, P, ls⟩ (List.mem_cons_self ..)
  have hlo := M.lo ⟨g, P, ls⟩ (List.mem_cons_self ..)
  have hh := M.has ⟨g, P, ls⟩ (List.mem_cons_self ..)
  simp only at hn hlo hh
  have hnew : ∀ k, k ≠ g → Γ.add g (fl P) k = Γ k := fun k hk => by simp [Gam.add, hk]
  have M1 := M.tail
  refine ⟨Γ.add g (fl P), by simp [Gam.add], le_add hn, ⟨M.ext.le.trans (le_add hn), fun k cs ek => ?_, fun k ek hk => ?_, M.ext.bel⟩, M1.has, M1.len, fun p hp => ?_, M1.lo, M1.nd, M1.rows, fun r hr k hk => ⟨?_, (M1.roff r hr k hk).2⟩, M1.rnd⟩
  · by_cases hkg : k = g
    · subst hkg
      simp only [Gam.add, if_true, Option.some.injEq] at ek
      subst ek
      exact ⟨[], by simpa using hh⟩
    · rw [hnew k hkg] at ek; exact M.ext.ok k cs ek
  · rw [hnew k (by omega)]; exact M.ext.new k ek hk
  · rw [hnew p.g (fun e => (List.pairwise_cons.1 M.nd).1 p hp e.symm)]; exact M1.off p hp
  · rw [hnew k (fun e => (M.roff r hr k hk).2 ⟨g, P, ls⟩ (List.mem_cons_self ..) e.symm)]; exact (M1.roff r hr k hk).1
theorem MM.frzS {g m : Nat} (n : Nat) {cs : List Value} (M : MM Γ0 w0 Γ w (⟨g, [cs], [m]⟩ :: L) R) : ∃ Γ', SlG Γ' (some ⟨g, 0, none⟩) n cs ∧ Le Γ Γ' ∧ MM Γ0 w0 Γ' w L R := by
  obtain ⟨Γ', h1, h2, h3⟩ := M.frzL
  exact ⟨Γ', fun _ => ⟨g, [], rfl, by simpa [fl] using h1⟩, h2, h3⟩
end
section
variable {Γ0 Γ : Gam} {w0 w : World} {L : List Ent} {R : List RowE} {Pg : Program} {op : Oper} {a : Act} {Q : Exit → Act → World → Prop}
theorem exec_alc {ty : TypeId} {Z : List (List Value)} {ls : List Nat} (ho : op.op = .alloc ty) (zt : ZeroT Pg ty Z ls) : (execOp a.eval op).run Pg w = .ok (.value (.pointer (some ⟨w.heap.size, 0, none⟩))) (w.alloc (.cells (fl Z).toArray ty)) := by
  unfold execOp
  simp only [ho]
  simp [Instr.alloc, Sem.run_bind, zt.run, newVar, Value.cells, newRow]
/-- a store in a region that draws its order -/
theorem mix_sts {g : Nat} {P : List (List Value)} {ls : List Nat} (M : MM Γ0 w0 Γ w L R) (i : Nat) (Q' P' : List (List Value)) {opsA : Array Oper} {ts : Array Value} {K : Act → World → Prop} {E : Prop} (hi : L[i]? = some ⟨g, P, ls⟩) {ty : TypeId} {x y : Operand} {o n k j : Nat} (ho : op.op = .store ty x y) (hx : a.eval x = .pointer (some ⟨g, o, none⟩))
    (hy : a.eval y = .agg (fl Q').toArray) (rt : RowT Pg ty n) (hf : findPart ls o n = some (k, j)) (hQ : Q'.map List.length = (ls.drop k).take j) (h1 : One (fl Q')) (hP : P.take k ++ Q' ++ P.drop (k + j) = P') (hw : Region.wanted op (yielded opsA ts) = true)
    (h : ∀ w', MM Γ0 w0 Γ w' (L.set i ⟨g, P', ls⟩) R → K (a.put op.dst undef) w') : if Region.wanted op (yielded opsA ts) = true then op.wp Pg a w K Q else E := by
  rw [if_pos hw]
  subst hP
  obtain ⟨d, hu, hd⟩ := rt.ex
  obtain ⟨q1, q2, q4, q3⟩ := M.put hi hf hQ
  exact wp_store_mid ty x y ho g o (fl Q').toArray hx hy (by simpa using q1) (by rw [List.size_toArray, q2]; exact info_size hu rt.n) (all_oneCell_toArray h1) (by simpa using h _ q3)
theorem mix_st1 {g : Nat} {P : List (List Value)} {ls : List Nat} (M : MM Γ0 w0 Γ w L R) (i : Nat) (v : Value) (P' : List (List Value)) {opsA : Array Oper} {ts : Array Value} {K : Act → World → Prop} {E : Prop} (hi : L[i]? = some ⟨g, P, ls⟩) {ty : TypeId} {x y : Operand} {o k : Nat} (ho : op.op = .store ty x y) (hx : a.eval x = .pointer (some ⟨g, o, none⟩))
    (hy : a.eval y = v) (ot : OneT Pg ty) (hf : findPart ls o 1 = some (k, 1)) (hk : (ls.drop k).take 1 = [1]) (hv : v.oneCell' = true) (hc : v.cells = #[v]) (hP : P.take k ++ [[v]] ++ P.drop (k + 1) = P') (hw : Region.wanted op (yielded opsA ts) = true)
    (h : ∀ w', MM Γ0 w0 Γ w' (L.set i ⟨g, P', ls⟩) R → K (a.put op.dst undef) w') : if Region.wanted op (yielded opsA ts) = true then op.wp Pg a w K Q else E := by
  rw [if_pos hw]
  subst hP
  obtain ⟨q1, q2, q4, q3⟩ := M.put (Q' := [[v]]) hi hf hk.symm
  have hr := run_store1 (Pg := Pg) ot (g := g) (o := o) (by simpa [fl] using q1) hv hc
  unfold Oper.wp execOp
  simp only [ho, hx, hy, hr, Sem.run_bind, Sem.run_pure, Result.andThen_ok, Oper.upon]
  exact h _ q3
end
theorem mkBool : MkT Try.prog 75 4 1 1 [.bool false] := mkT_of Try.underlying75 (by kernel_rfl) rfl (by decide)
theorem mkInt : MkT Try.prog 22 3 1 8 [.int .i64 0] := mkT_of Try.underlying22 (by kernel_rfl) rfl (by decide)
theorem mkU64 : MkT Try.prog 36 30 1 8 [.int .u64 0] := mkT_of Try.underlying36 (by kernel_rfl) rfl (by decide)
end Go.Proofs.Ytekikfdlnkcenaa
