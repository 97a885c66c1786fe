/- New books and registrations, walked. -/
import Derived.Test.YtekikfdlnkcenaaBkC
namespace Go.Proofs.Ytekikfdlnkcenaa
open Go.RowKit Go.Maps
theorem run_int1 {w : World} {p : Addr} {v : Value} (hc : w.cell? p = some v) : (Instr.loadAt 3 (.pointer (some p))).run Try.prog w = .ok v w := by
  simp [Instr.loadAt, Instr.sureAddr, loadVar, isAgg, run_underlying Try.underlying3, run_load, hc]
theorem quiet_len {P : Program} {C : World → Prop} {o : Oper} {a : Act} {K : Act → Prop} (x : Operand) (t : TypeId) (ho : o.op = .call { callee := .builtin .len, args := #[x], argTypes := #[t] }) (xv v : Value) (hx : a.eval x = xv)
    (hr : ∀ w, C w → (Builtin.len_ #[t] o.type #[xv]).run P w = .ok v w) (hk : K (a.put o.dst v)) : o.quiet P a C K := by
  refine ⟨_, fun w hw => ?_, hk⟩
  unfold Oper.quietAt execOp
  simp [ho, resolve, invoke, builtin, hx, hr w hw, Result.andThen]
  exact ⟨rfl, rfl⟩
theorem wpList_loadR {P : Program} {ops : Array Oper} {rest : List Oper} {op : Oper} {a : Act} {w : World} {Q : Exit → Act → World → Prop} (ty : TypeId) (x : Operand) (ho : op.op = .load ty x)
    (hgd : Region.wanted op (yielded ops a.tmps) = true) (g o : Nat) (cs : List Value) (hr : w.rangeAt g o cs) (hx : a.eval x = .pointer (some ⟨g, o, none⟩)) {d : TypeDesc} (hu : P.underlying ty = some d) (hd : d.isRow = true) (hc : P.cellsOf ty = cs.length)
    (h : wpList P ops Q rest (a.put op.dst (.agg cs.toArray)) w) : wpList P ops Q (op :: rest) a w :=
  wpList_go hgd fun K hK => wp_load_mid ty x ho g o hx cs d hr hu hd (info_size hu hc) (hK _ _ h)
theorem quiet_loadRng {P : Program} {C : World → Prop} {op : Oper} {a : Act} {K : Act → Prop} (ty : TypeId) (x : Operand) (ho : op.op = .load ty x)
    (g o : Nat) (cs : List Value) (hx : a.eval x = .pointer (some ⟨g, o, none⟩)) (hr : ∀ w, C w → w.rangeAt g o cs)
    {d : TypeDesc} (hu : P.underlying ty = some d) (hd : d.isRow = true) (hc : P.cellsOf ty = cs.length)
    (h : K (a.put op.dst (.agg cs.toArray))) : op.quiet P a C K := by
  refine ⟨_, fun w hw => ?_, h⟩
  unfold Oper.quietAt execOp
  have := run_loadVar_mid (P := P) w g o ty cs d (hr w hw) hu hd (info_size hu hc)
  simp only [ho, hx, Instr.loadAt, Instr.sureAddr, Sem.run_bind, Sem.run_pure, Result.andThen_ok, this]
  exact ⟨rfl, rfl⟩
theorem _root_.Go.RowKit.Below.kp {w w' : World} (M : Nat) (h : Below w.heap.size w w') : w.grownBy w' (some M) := ⟨h.os, h.tape, h.output, h.size, fun k hk _ => h.block k hk⟩
theorem below_kp {w w' : World} {B M : Nat} (h : w.grownBy w' (some M)) (hB : B ≤ M) (hs : B ≤ w.heap.size) : Below B w w' :=
  ⟨h.os, h.tape, h.output, h.size, fun k hk => h.block k (Nat.lt_of_lt_of_le hk hs) (fun e => by injection e with e; omega)⟩
theorem kp_trans {a b c : World} {M : Nat} (h : a.grownBy b (some M)) (k : b.grownBy c (some M)) : a.grownBy c (some M) :=
  ⟨k.os.trans h.os, k.tape.trans h.tape, k.output.trans h.output, Nat.le_trans h.size k.size, fun i hi hne => (k.block i (Nat.lt_of_lt_of_le hi h.size) hne).trans (h.block i hi hne)⟩
/-- an update of a map, at the operation -/
theorem wpList_upd {P : Program} {w : World} {ops : Array Oper} {rest : List Oper} {o : Oper} {a : Act} {Q : Exit → Act → World → Prop}
    (hg : o.guard = none) (m x v : Operand) (t : TypeId) (hop : o.op = Op.mapUpdate t m x v) (b : Nat) (key val : Value) (hm : a.eval m = .map (some b)) (hx : a.eval x = key) (hv : a.eval v = val)
    {w' : World} (hrun : (Instr.mapUpdate t (.map (some b)) key val).run P w = .ok () w') (hK : wpList P ops Q rest (a.put o.dst undef) w') : wpList P ops Q (o :: rest) a w := by
  refine wpList_plain hg fun K' hK' => ?_
  unfold Oper.wp
  simp [execOp, hop, hm, hx, hv, hrun, Result.andThen]
  exact hK' _ _ hK
/-- what NewBook answers -/
def NbP (v lim : Int) (w : World) (e : Ending) (w' : World) : Prop :=
  (((v < 0 ∨ 1024 < v ∨ lim < 1 ∨ 64 < lim) ∧ e = .returned (.tuple #[.pointer none, .int .i64 3])) ∨
   (((0 ≤ v ∧ v ≤ 1024) ∧ 1 ≤ lim ∧ lim ≤ 64) ∧ ∃ B M, w.heap.size ≤ M ∧ w.heap.size ≤ B ∧ e = .returned (.tuple #[.pointer (some ⟨B, 0, none⟩), .int .i64 0]) ∧ ∀ P, Bk P w' B M v lim [])) ∧ Below w.heap.size w w'
set_option maxRecDepth 20000 in
set_option maxHeartbeats 1000000 in
theorem newBook_any (v lim : Int) (w : World) :
    Calls Try.prog 8 #[.int .i64 v, .int .i64 lim] w (NbP v lim w) := by
  have hmm := @run_makeMap Try.prog
  go_enter Try.func8, Try.ntmps8
  by_cases h1 : v < 0
  · go_wp2_with fail
    go_ret2
    exact ⟨.inl ⟨.inl h1, rfl⟩, Below.refl _ _⟩
  · by_cases h2 : 1024 < v
    · go_wp2_with fail
      go_ret2
      exact ⟨.inl ⟨.inr (.inl h2), rfl⟩, Below.refl _ _⟩
    · by_cases h3 : lim < 1
      · go_wp2_with fail
        go_ret2
        exact ⟨.inl ⟨.inr (.inr (.inl h3)), rfl⟩, Below.refl _ _⟩
      · by_cases h4 : 64 < lim
        · go_wp2_with fail
          go_ret2
          exact ⟨.inl ⟨.inr (.inr (.inr h4)), rfl⟩, Below.refl _ _⟩
        · go_wp2_with fail
          go_ret2
          have E1 := ext_alloc w (.map #[] 0)
          have E2 := E1.alloc E1.size (.cells #[.int .i64 v, .int .i64 lim, .map (some w.heap.size)] 83)
          refine ⟨.inr ⟨⟨⟨by omega, by omega⟩, by omega, by omega⟩, w.heap.size + 1, w.heap.size, Nat.le_refl _, Nat.le_succ _, rfl, fun P => ⟨has_newAt (alloc_size w _) [.int .i64 v, .int .i64 lim, .map (some w.heap.size)] _, ?_⟩⟩, E2⟩
          exact (BkMap.made P w).below (B := 0) (ext_alloc _ _)
/-- the error number of a registration -/
def regE (T : List Tb) (c : Ck) (xs : List Int) (v lim : Int) : Int :=
  if valE xs xs.length v ≠ 0 then valE xs xs.length v else if (look T c).isSome = true then 9 else if lim ≤ T.length then 11 else 0
/-- the tables behind a registration -/
def regT (T : List Tb) (c : Ck) (xs : List Int) (v lim : Int) : List Tb := if regE T c xs v lim = 0 then T ++ [(c, xs)] else T
/-- what Register answers -/
def RgP (P : Nat → Prop) (B M : Nat) (T : List Tb) (c : Ck) (xs : List Int) (v lim : Int) (w : World) (e : Ending) (w' : World) : Prop :=
  e = .returned (.int .i64 (regE T c xs v lim)) ∧ Bk P w' B M v lim (regT T c xs v lim) ∧ w.grownBy w' (some M)
theorem reg_bad {T : List Tb} {c : Ck} {xs : List Int} {v lim : Int} (h : valE xs xs.length v ≠ 0) : regE T c xs v lim = valE xs xs.length v ∧ regT T c xs v lim = T := by
  have e : regE T c xs v lim = valE xs xs.length v := if_pos h
  exact ⟨e, by unfold regT; rw [e, if_neg h]⟩
theorem reg_dup {T : List Tb} {c : Ck} {xs : List Int} {v lim : Int} (h : valE xs xs.length v = 0) (h2 : (look T c).isSome = true) : regE T c xs v lim = 9 ∧ regT T c xs v lim = T := by
  have e : regE T c xs v lim = 9 := by unfold regE; rw [if_neg (fun h' => h' h), if_pos h2]
  exact ⟨e, by unfold regT; rw [e, if_neg (by decide)]⟩
theorem reg_full {T : List Tb} {c : Ck} {xs : List Int} {v lim : Int} (h : valE xs xs.length v = 0) (h2 : (look T c).isSome = false) (h3 : lim ≤ T.length) : regE T c xs v lim = 11 ∧ regT T c xs v lim = T := by
  have e : regE T c xs v lim = 11 := by unfold regE; rw [if_neg (fun h' => h' h), if_neg (by rw [h2]; decide), if_pos h3]
  exact ⟨e, by unfold regT; rw [e, if_neg (by decide)]⟩
theorem reg_ok {T : List Tb} {c : Ck} {xs : List Int} {v lim : Int} (h : valE xs xs.length v = 0) (h2 : (look T c).isSome = false) (h3 : ¬ lim ≤ T.length) : regE T c xs v lim = 0 ∧ regT T c xs v lim = T ++ [(c, xs)] := by
  have e : regE T c xs v lim = 0 := by unfold regE; rw [if_neg (fun h' => h' h), if_neg (by rw [h2]; decide), if_neg h3]
  exact ⟨e, by unfold regT; rw [e, if_pos rfl]⟩
theorem tb_range {w : World} {g : Nat} {c : Ck} {s : Value} (h : Has w g (tbc c s)) : w.rangeAt g 0 (ckc c) := fun j u hu => by
  rw [Nat.zero_add, h.cell]
  unfold tbc
  rw [List.getElem?_append_left (List.getElem?_eq_some_iff.1 hu).1]; exact hu
theorem valE_le {xs : List Int} {n v : Int} : valE xs n v = 0 ∨ valE xs n v = 2 ∨ valE xs n v = 4 := by
  unfold valE; split
  · split
    · exact .inl rfl
    · exact .inr (.inr rfl)
  · exact .inr (.inl rfl)
set_option maxRecDepth 20000 in
set_option maxHeartbeats 1000000 in
theorem register_any {P : Nat → Prop} (B M : Nat) (v lim : Int) (hlim : lim ≤ 64) (T : List Tb) (c : Ck) (hc : CkOk c) (BR : Nat) (A : Option Addr) (cap : Nat) (xs : List Int) (hu : U64 xs) (hn : xs.length ≤ 65535) (hA : A = none → cap = 0) (w : World) (h : Bk P w B M v lim T) (hP : ∀ g, w.heap.size ≤ g → P g) (hBR : BR ≤ w.heap.size) (hr : Row w BR 1 A xs.length (ints .u64 xs)) :
    Calls Try.prog 13 #[.pointer (some ⟨B, 0, none⟩), .agg (tbc c (.slice A xs.length cap)).toArray] w (RgP P B M T c xs v lim w) := by
  have HC := bx hc
  have HCR := bx hc.r
  have XT := bx (Has.new w (tbc c (.slice A xs.length cap)) 38)
  have ET := bx (ext_alloc w (.cells (tbc c (.slice A xs.length cap)).toArray 38))
  generalize hw0 : w.alloc (.cells (tbc c (.slice A xs.length cap)).toArray 38) = w0 at *
  have HW0 := bx hw0
  have HB := bx (h.below ET.out)
  have VA := bx (fun w' (hb : Below w0.heap.size w0 w') => validate_any BR c hc.r A xs.length cap v xs w' (Nat.le_trans hBR (Nat.le_trans ET.out.size hb.size)) (hr.below ((ET.out.mono hBR).trans (hb.mono (Nat.le_trans hBR ET.out.size)))) hu (by omega))
  have CP := bx (fun w' (hb : Below w0.heap.size w0 w') => copyTable_any BR c hc.r A xs.length cap xs hn w' (Nat.le_trans hBR (Nat.le_trans ET.out.size hb.size)) (hr.below ((ET.out.mono hBR).trans (hb.mono (Nat.le_trans hBR ET.out.size)))) hA)
  have RB := bx (fun h => reg_bad (T := T) (c := c) (xs := xs) (v := v) (lim := lim) h)
  have RD := bx (fun h h2 => reg_dup (T := T) (c := c) (xs := xs) (v := v) (lim := lim) h h2)
  have RF := bx (fun h h2 h3 => reg_full (T := T) (c := c) (xs := xs) (v := v) (lim := lim) h h2 h3)
  have RO := bx (fun h h2 h3 => reg_ok (T := T) (c := c) (xs := xs) (v := v) (lim := lim) h h2 h3)
  have HU := bx hu
  have HP := bx hP
  clear h hBR hr hu hc hA hP
  have B1 : Bx (Bk P w0.drew B M v lim T) := ⟨HB.out.below (Below.refl _ _).drew⟩
  have X1 : Bx (Has w0.drew w.heap.size (tbc c (.slice A xs.length cap))) := ⟨XT.out⟩
  have F1 : Bx (Below w0.heap.size w0 w0.drew) := ⟨(Below.refl _ _).drew⟩
  have CT := bx (Has.cls X1.out)
  have CI := bx (fun w6 (h6 : Cls w0.drew.heap.size w0.drew w6) => run_int1 ((B1.out.b.below h6.out B1.out.b.lt).cell 0))
  generalize hV : valE xs xs.length v = V at *
  go_enter Try.func13, Try.ntmps13
  go_upto_region 1 with fail
  clear hw0
  go_wp2_with fail
  refine wp_region_mix3 6 (.steps [(0, 0), (0, 1), (0, 2), (0, 3), (0, 4), (2, 5)] .leaf) (by kernel_rfl) (by kernel_rfl) ?_
  simp only [MixT, MT.steps, stepAt, List.getD_cons_zero, List.getD_cons_succ, List.drop_succ_cons, List.drop_zero]
  repeat (first | (with_reducible refine wpQuiet_nil ?_) | (first | go_big_quiet_skip | (go_big_quiet_want; first | (first | ((with_reducible refine quiet_loadC 38 _ rfl _ (tbc c (.slice A xs.length cap)) ?_ CT.out Try.underlying38 rfl ?_ ?_); rfl; exact cells_tb HCR.out _; go_big_quiet_on; (simp only [Act.put, List.setIfInBounds_toArray, List.set_cons_succ, List.set_cons_zero])) | ((with_reducible refine quiet_cell 3 _ rfl _ _ ?_ CI.out ?_); rfl; go_big_quiet_on; (simp only [Act.put, List.setIfInBounds_toArray, List.set_cons_succ, List.set_cons_zero]))) | (go_big_quiet_op; first | go_big_quiet_on | ((with_reducible refine ⟨_, fun _ _ => rfl, ?_⟩); go_big_quiet_on)))))
  refine mix_call (VA.out _ F1.out) Try.func39 rfl rfl _ _ rfl rfl rfl ?_
  rintro e w2 ⟨rfl, hb⟩
  refine ⟨_, rfl, hb, ?_⟩
  have B2 := bx (B1.out.below hb)
  have X2 := bx (X1.out.below hb X1.out.lt)
  have F2 := bx (F1.out.trans (hb.mono F1.out.size))
  clear hb B1 X1 F1 CT CI VA HB XT
  simp only [Act.put, List.setIfInBounds_toArray, List.set_cons_succ, List.set_cons_zero]
  go_wp2_with fail
  refine NoPanic.normal ?_
  by_cases hV0 : V = 0
  · subst hV0
    have KN := bx (known_any B M v lim T c HC.out w2 B2.out)
    have TR := bx (tb_range X2.out)
    go_wp2_with ((with_reducible refine wpList_loadR 35 _ rfl ?_ w.heap.size 0 (ckc c) TR.out ?_ Try.underlying35 ?_ ?_ ?_); rfl; rfl; rfl; exact cells_ck HCR.out)
    refine KN.out.mono ?_; rintro e w3 ⟨rfl, hb⟩
    have B3 := bx (B2.out.below hb)
    have X3 := bx (X2.out.below hb X2.out.lt)
    have F3 := bx (F2.out.trans (hb.mono F2.out.size))
    clear hb KN TR B2 X2 F2
    generalize hfd : (look T c).isSome = fd at *
    have HFD := bx hfd
    clear hfd
    cases fd with
    | true =>
      obtain ⟨e1, e2⟩ := RD.out (by first | rfl | trivial) (by first | rfl | trivial)
      have R1 := bx e1
      have R2 := bx e2
      clear e1 e2
      go_wp2_with fail
      go_ret
      exact ⟨by rw [R1.out]; rfl, by rw [R2.out]; exact B3.out, (ET.out.trans (F3.out.mono ET.out.size)).kp M⟩
    | false =>
      have B4 : Bx (Bk P w3.drew B M v lim T) := ⟨B3.out.below (Below.refl _ _).drew⟩
      have X4 : Bx (Has w3.drew w.heap.size (tbc c (.slice A xs.length cap))) := ⟨X3.out⟩
      have F4 : Bx (Below w0.heap.size w0 w3.drew) := ⟨F3.out.drew⟩
      have CM := bx (fun w6 (h6 : Cls w3.drew.heap.size w3.drew w6) => run_map1 ((B4.out.b.below h6.out B4.out.b.lt).cell 2))
      have CI := bx (fun w6 (h6 : Cls w3.drew.heap.size w3.drew w6) => run_int1 ((B4.out.b.below h6.out B4.out.b.lt).cell 1))
      have CN := bx (fun w6 (h6 : Cls w3.drew.heap.size w3.drew w6) => (B4.out.below h6.out).m.len 3)
      clear B3 X3 F3
      go_wp2_with fail
      refine wp_region_mix3 10 (.steps [(0, 0), (0, 1), (0, 2), (0, 3), (0, 4), (0, 5), (0, 6), (0, 7), (0, 8), (1, 9)] .leaf) (by kernel_rfl) (by kernel_rfl) ?_
      simp only [MixT, MT.steps, stepAt, List.getD_cons_zero, List.getD_cons_succ, List.drop_succ_cons, List.drop_zero]
      repeat (first | (with_reducible refine wpQuiet_nil ?_) | (first | go_big_quiet_skip | (go_big_quiet_want; first | (first | ((with_reducible refine quiet_cell 81 _ rfl _ _ ?_ CM.out ?_); rfl; go_big_quiet_on; (simp only [Act.put, List.setIfInBounds_toArray, List.set_cons_succ, List.set_cons_zero])) | ((with_reducible refine quiet_cell 3 _ rfl _ _ ?_ CI.out ?_); rfl; go_big_quiet_on; (simp only [Act.put, List.setIfInBounds_toArray, List.set_cons_succ, List.set_cons_zero])) | ((with_reducible refine quiet_len _ 81 rfl _ _ ?_ CN.out ?_); rfl; go_big_quiet_on; (simp only [Act.put, List.setIfInBounds_toArray, List.set_cons_succ, List.set_cons_zero]))) | (go_big_quiet_op; first | go_big_quiet_on | ((with_reducible refine ⟨_, fun _ _ => rfl, ?_⟩); go_big_quiet_on)))))
      clear CM CI CN
      generalize w3.drew = w4 at *
      go_wp2_with fail
      refine NoPanic.normal ?_
      by_cases hfull : lim ≤ (T.length : Int)
      · obtain ⟨e1, e2⟩ := RF.out (by first | rfl | trivial) (by first | rfl | trivial) (by omega)
        have R1 := bx e1
        have R2 := bx e2
        clear e1 e2
        go_wp2_with fail
        go_ret
        exact ⟨by rw [R1.out]; rfl, by rw [R2.out]; exact B4.out, (ET.out.trans (F4.out.mono ET.out.size)).kp M⟩
      · obtain ⟨e1, e2⟩ := RO.out (by first | rfl | trivial) (by first | rfl | trivial) (by omega)
        have R1 := bx e1
        have R2 := bx e2
        have hlt : (T.length : Int) < lim := by omega
        have TL : Bx (T.length < maxLen) := ⟨by unfold maxLen; omega⟩
        have LN : Bx (look T c = none) := ⟨by
          have := HFD.out
          cases hl : look T c with
          | none => rfl
          | some b => rw [hl] at this; simp at this⟩
        clear e1 e2 hfull
        have B5 : Bx (Bk P w4.drew B M v lim T) := ⟨B4.out.below (Below.refl _ _).drew⟩
        have X5 : Bx (Has w4.drew w.heap.size (tbc c (.slice A xs.length cap))) := ⟨X4.out⟩
        have F5 : Bx (Below w0.heap.size w0 w4.drew) := ⟨F4.out.drew⟩
        have CM := bx (fun w6 (h6 : Cls w4.drew.heap.size w4.drew w6) => run_map1 ((B5.out.b.below h6.out B5.out.b.lt).cell 2))
        have CT := bx (Has.cls X5.out)
        have CR := bx (fun w6 (h6 : Cls w4.drew.heap.size w4.drew w6) => tb_range (X5.out.below h6.out X5.out.lt))
        clear B4 X4 F4
        go_wp2_with fail
        refine wp_region_mix3 8 (.steps [(0, 0), (0, 1), (0, 2), (0, 3), (0, 4), (0, 5), (0, 6), (2, 7)] .leaf) (by kernel_rfl) (by kernel_rfl) ?_
        simp only [MixT, MT.steps, stepAt, List.getD_cons_zero, List.getD_cons_succ, List.drop_succ_cons, List.drop_zero]
        repeat (first | (with_reducible refine wpQuiet_nil ?_) | (first | go_big_quiet_skip | (go_big_quiet_want; first | (first | ((with_reducible refine quiet_cell 81 _ rfl _ _ ?_ CM.out ?_); rfl; go_big_quiet_on; (simp only [Act.put, List.setIfInBounds_toArray, List.set_cons_succ, List.set_cons_zero])) | ((with_reducible refine quiet_loadRng 35 _ rfl w.heap.size 0 (ckc c) ?_ CR.out Try.underlying35 ?_ ?_ ?_); rfl; rfl; exact cells_ck HCR.out; go_big_quiet_on; (simp only [Act.put, List.setIfInBounds_toArray, List.set_cons_succ, List.set_cons_zero])) | ((with_reducible refine quiet_loadC 38 _ rfl _ (tbc c (.slice A xs.length cap)) ?_ CT.out Try.underlying38 rfl ?_ ?_); rfl; exact cells_tb HCR.out _; go_big_quiet_on; (simp only [Act.put, List.setIfInBounds_toArray, List.set_cons_succ, List.set_cons_zero]))) | (go_big_quiet_op; first | go_big_quiet_on | ((with_reducible refine ⟨_, fun _ _ => rfl, ?_⟩); go_big_quiet_on)))))
        refine mix_call (CP.out _ F5.out) Try.func41 rfl rfl _ _ rfl rfl rfl ?_
        rintro e w6 ⟨A6, c6, rfl, hu6, hn6, hf6, hb⟩
        refine ⟨_, rfl, hb, ?_⟩
        have B6 := bx (B5.out.below hb)
        have F6 := bx (F5.out.trans (hb.mono F5.out.size))
        obtain ⟨w7, hrun, hm7, hg7⟩ := B6.out.m.put HC.out HU.out LN.out TL.out hu6 hn6 (fun ad e => HP.out _ (Nat.le_trans ET.out.size (Nat.le_trans F5.out.size (hf6 ad e))))
        have HRUN := bx hrun
        have M7 := bx hm7
        have BB := bx (B6.out.b.grown hg7 (ne_som (B6.out.m.ne B6.out.b)))
        have KP := bx (kp_trans ((ET.out.trans (F6.out.mono ET.out.size)).kp M) hg7)
        clear hrun hm7 hg7
        simp only [Act.put, List.setIfInBounds_toArray, List.set_cons_succ, List.set_cons_zero]
        go_wp2_with ((with_reducible refine wpList_upd rfl _ _ _ 81 rfl M (.agg (ckc c).toArray) (.agg (tbc c (.slice A6 xs.length c6)).toArray) ?_ ?_ ?_ HRUN.out ?_); rfl; rfl; rfl)
        refine NoPanic.normal ?_
        go_wp2_with fail
        go_ret
        exact ⟨by rw [R1.out]; rfl, by rw [R2.out]; exact ⟨BB.out, M7.out⟩, KP.out⟩
  · have hVf : (V != 0) = true := by rw [bne_iff_ne]; exact hV0
    obtain ⟨e1, e2⟩ := RB.out hV0
    have R1 := bx e1
    have R2 := bx e2
    clear e1 e2 hV0
    go_wp2_with fail
    go_ret
    exact ⟨by rw [R1.out]; rfl, by rw [R2.out]; exact B2.out, (ET.out.trans (F2.out.mono ET.out.size)).kp M⟩
end Go.Proofs.Ytekikfdlnkcenaa
