/- Known, Balance and Total of a book, walked. -/
import Derived.Test.YtekikfdlnkcenaaBkMap
namespace Go.Proofs.Ytekikfdlnkcenaa
open Go.RowKit Go.Maps
theorem quiet_lookup {P : Program} {C : World → Prop} {o : Oper} {a : Act} {K : Act → Prop} (t : TypeId) (m x : Operand) (c : Bool) (ho : o.op = .lookup t m x c) (mv key v : Value) (hm : a.eval m = mv) (hx : a.eval x = key)
    (hr : ∀ w, C w → (Instr.lookup t mv key c).run P w = .ok v w) (hk : K (a.put o.dst v)) : o.quiet P a C K := by
  refine ⟨_, fun w hw => ?_, hk⟩
  unfold Oper.quietAt execOp
  simp only [ho, hm, hx, hr w hw, Sem.run_bind, Sem.run_pure, Result.andThen_ok]
  exact ⟨rfl, rfl⟩
theorem quiet_cell {P : Program} {C : World → Prop} {o : Oper} {a : Act} {K : Act → Prop} (ty : TypeId) (x : Operand) (ho : o.op = .load ty x) (p : Addr) (v : Value)
    (hx : a.eval x = .pointer (some p)) (hr : ∀ w, C w → (Instr.loadAt ty (.pointer (some p))).run P w = .ok v w) (hk : K (a.put o.dst v)) : o.quiet P a C K := by
  refine ⟨_, fun w hw => ?_, hk⟩
  unfold Oper.quietAt execOp
  simp only [ho, hx, hr w hw, Sem.run_bind, Sem.run_pure, Result.andThen_ok]
  exact ⟨rfl, rfl⟩
theorem run_map1 {w : World} {p : Addr} {v : Value} (hc : w.cell? p = some v) : (Instr.loadAt 81 (.pointer (some p))).run Try.prog w = .ok v w := by
  simp [Instr.loadAt, Instr.sureAddr, loadVar, isAgg, run_underlying Try.underlying81, run_load, hc]
theorem run_allocZ {P : Program} {ty : TypeId} {cs : List Value} (hz : ∀ w, (zeroValue ty).run P w = .ok (.agg cs.toArray) w) {o : Oper} {a : Act} {w : World} (ho : o.op = .alloc ty) :
    (execOp a.eval o).run P w = .ok (.value (.pointer (some ⟨w.heap.size, 0, none⟩))) (w.alloc (.cells cs.toArray ty)) := by
  unfold execOp
  simp only [ho]
  simp [Instr.alloc, Sem.run_bind, hz, newVar, Value.cells, newRow]
theorem wpList_allocZ {P : Program} {ops : Array Oper} {rest : List Oper} {o : Oper} {a : Act} {w : World} {Q : Exit → Act → World → Prop} (hg : o.guard = none) (ty : TypeId) (cs : List Value) (hz : ∀ w, (zeroValue ty).run P w = .ok (.agg cs.toArray) w)
    (ho : o.op = .alloc ty) (h : wpList P ops Q rest (a.put o.dst (.pointer (some ⟨w.heap.size, 0, none⟩))) (w.alloc (.cells cs.toArray ty))) : wpList P ops Q (o :: rest) a w :=
  wpList_plain hg fun K hK => by
    unfold Oper.wp
    rw [run_allocZ hz ho, Oper.upon_value]
    exact hK _ _ h
theorem tbc_one (c : Ck) (A : Option Addr) (n cap : Nat) : ∀ u ∈ tbc c (.slice A n cap), u.oneCell' = true := fun u hu => by
  simp only [tbc, ckc, List.mem_append, List.mem_cons, List.not_mem_nil, or_false] at hu
  rcases hu with (rfl | hu) | rfl
  · rfl
  · exact one_ints _ _ u hu
  · rfl
theorem cells_tb {c : Ck} (h : c.2.length = 32) (s : Value) : Try.prog.cellsOf 38 = (tbc c s).length := by rw [tbc_len h]; kernel_rfl
theorem zt_len {c : Ck} (h : c.2.length = 32) (s : Value) : zt.length = (tbc c s).length := by rw [tbc_len h]; rfl
set_option maxRecDepth 20000 in
set_option maxHeartbeats 1000000 in
theorem known_any {P : Nat → Prop} (B M : Nat) (v lim : Int) (T : List Tb) (c : Ck) (hc : CkOk c) (w : World) (h : Bk P w B M v lim T) :
    Calls Try.prog 40 #[.pointer (some ⟨B, 0, none⟩), .agg (ckc c).toArray] w fun e w' => e = .returned (.bool (look T c).isSome) ∧ Below w.heap.size w w' := by
  have HC := bx hc
  have XK := bx (Has.new w (ckc c) 35)
  have EK := bx (ext_alloc w (.cells (ckc c).toArray 35))
  have HB := bx (h.below EK.out)
  obtain ⟨ck, A, cap, hck, _, hrun⟩ := HB.out.m.read hc
  have HCK := bx hck
  generalize hn : (bal T c).length = n at *
  generalize (look T c).isSome = fd at *
  have GM := bx (HB.out.m.lt)
  have CM := bx (fun w6 (h6 : Cls (w.alloc (.cells (ckc c).toArray 35)).drew.heap.size (w.alloc (.cells (ckc c).toArray 35)).drew w6) => run_map1 ((HB.out.b.drew.below h6.out HB.out.b.lt).cell 2))
  have CK := bx (Has.cls XK.out.drew)
  have CL := bx (fun w6 (h6 : Cls (w.alloc (.cells (ckc c).toArray 35)).drew.heap.size (w.alloc (.cells (ckc c).toArray 35)).drew w6) => (hrun w6 (h6.out.block M GM.out)).1)
  clear h hc hn hck hrun
  go_enter Try.func40, Try.ntmps40
  go_wp2_with fail
  refine wp_region_mix3 10 (.steps [(0, 0), (0, 1), (0, 2), (0, 3), (0, 4), (0, 5), (1, 6), (1, 7), (1, 8), (2, 9)] .leaf) (by kernel_rfl) (by kernel_rfl) ?_
  simp only [MixT, MT.steps, stepAt, List.getD_cons_zero, List.getD_cons_succ, List.drop_succ_cons, List.drop_zero]
  repeat (first | (with_reducible refine wpQuiet_nil ?_) | (first | go_big_quiet_skip | (go_big_quiet_want; first | (first | ((with_reducible refine quiet_cell 81 _ rfl _ _ ?_ CM.out ?_); rfl; go_big_quiet_on; (simp only [Act.put, List.setIfInBounds_toArray, List.set_cons_succ, List.set_cons_zero])) | ((with_reducible refine quiet_loadC 35 _ rfl _ (ckc c) ?_ CK.out Try.underlying35 rfl ?_ ?_); rfl; exact cells_ck HC.out.r; go_big_quiet_on; (simp only [Act.put, List.setIfInBounds_toArray, List.set_cons_succ, List.set_cons_zero])) | ((with_reducible refine quiet_lookup 81 _ _ _ rfl _ _ _ ?_ ?_ CL.out ?_); rfl; rfl; go_big_quiet_on; (simp only [Act.put, List.setIfInBounds_toArray, List.set_cons_succ, List.set_cons_zero]))) | (go_big_quiet_op; first | go_big_quiet_on | ((with_reducible refine ⟨_, fun _ _ => rfl, ?_⟩); go_big_quiet_on)))))
  clear CM CK CL
  refine mix_run (run_allocZ zero_table rfl) rfl ?_
  refine ⟨ext_alloc _ _, ?_⟩
  generalize hw0 : w.alloc (.cells (ckc c).toArray 35) = w0 at *
  have X0 := bx (Has.new w0.drew zt 38)
  have E0 := bx (EK.out.drew.trans ((ext_alloc w0.drew (.cells zt.toArray 38)).mono (EK.out.drew).size))
  have SZ : Bx (w.heap.size ≤ w0.heap.size) := ⟨EK.out.size⟩
  simp only [Act.put, List.setIfInBounds_toArray, List.set_cons_succ, List.set_cons_zero]
  go_wp2_with ((with_reducible refine wpList_storeB rfl 38 _ _ rfl _ (tbc ck (.slice A n cap)) _ ?_ ?_ X0.out (zt_len HCK.out _) Try.underlying38 (cells_tb HCK.out _) (tbc_one _ _ _ _) ?_); rfl; rfl; intro w2 hw hg hz; have X2 := bx hw; have B2 := bx (E0.out.grown hg E0.out.size (fun k hk => by cases hk; exact SZ.out)); clear hw hg hz)
  refine NoPanic.normal ?_
  go_wp2_with fail
  go_ret
  exact ⟨rfl, B2.out⟩
/-- the balance of a validator at a checkpoint -/
def balV (T : List Tb) (c : Ck) (x : Int) : Int := if 0 ≤ x ∧ x < (bal T c).length then (bal T c).getD x.toNat 0 else 0
theorem bal_none {T : List Tb} {c : Ck} (h : (look T c).isSome = false) : bal T c = [] := by
  unfold bal
  cases hl : look T c with
  | none => rfl
  | some b => rw [hl] at h; cases h
set_option maxRecDepth 20000 in
set_option maxHeartbeats 1000000 in
theorem balance_any {P : Nat → Prop} (B M : Nat) (v lim : Int) (T : List Tb) (c : Ck) (hc : CkOk c) (x : Int) (hn9 : (bal T c).length ≤ 65535) (w : World) (h : Bk P w B M v lim T) :
    Calls Try.prog 44 #[.pointer (some ⟨B, 0, none⟩), .agg (ckc c).toArray, .int .i64 x] w fun e w' => e = .returned (.int .u64 (balV T c x)) ∧ Below w.heap.size w w' := by
  have HC := bx hc
  have XK := bx (Has.new w (ckc c) 35)
  have EK := bx (ext_alloc w (.cells (ckc c).toArray 35))
  have HB := bx (h.below EK.out)
  obtain ⟨ck, A, cap, hck, hur, hrun⟩ := HB.out.m.read hc
  have HCK := bx hck
  have UR := bx hur
  have LB := bx hur.1
  have FD := bx (fun h => bal_none (T := T) (c := c) h)
  have GM := bx (HB.out.m.lt)
  have CM := bx (fun w6 (h6 : Cls (w.alloc (.cells (ckc c).toArray 35)).drew.heap.size (w.alloc (.cells (ckc c).toArray 35)).drew w6) => run_map1 ((HB.out.b.drew.below h6.out HB.out.b.lt).cell 2))
  have CK := bx (Has.cls XK.out.drew)
  have CL := bx (fun w6 (h6 : Cls (w.alloc (.cells (ckc c).toArray 35)).drew.heap.size (w.alloc (.cells (ckc c).toArray 35)).drew w6) => (hrun w6 (h6.out.block M GM.out)).1)
  clear h hc hck hrun hur
  have V0 := bx (fun (hx : ¬ (0 ≤ x ∧ x < ((bal T c).length : Int))) => show balV T c x = 0 from if_neg hx)
  have V1 := bx (fun (k : Nat) (hx : x = (k : Int)) (hk : k < (bal T c).length) => show balV T c x = (bal T c).getD k 0 by unfold balV; rw [if_pos ⟨by omega, by omega⟩, hx, Int.toNat_natCast])
  generalize bal T c = bs at *
  generalize balV T c x = V at *
  obtain ⟨n, hn⟩ : ∃ n, bs.length = n := ⟨_, rfl⟩
  have LN := bx hn
  rw [hn] at UR V0 CL hn9
  clear hn
  generalize (look T c).isSome = fd at *
  go_enter Try.func44, Try.ntmps44
  go_wp2_with fail
  refine wp_region_mix3 10 (.steps [(0, 0), (0, 1), (0, 2), (0, 3), (0, 4), (0, 5), (1, 6), (1, 7), (1, 8), (2, 9)] .leaf) (by kernel_rfl) (by kernel_rfl) ?_
  simp only [MixT, MT.steps, stepAt, List.getD_cons_zero, List.getD_cons_succ, List.drop_succ_cons, List.drop_zero]
  repeat (first | (with_reducible refine wpQuiet_nil ?_) | (first | go_big_quiet_skip | (go_big_quiet_want; first | (first | ((with_reducible refine quiet_cell 81 _ rfl _ _ ?_ CM.out ?_); rfl; go_big_quiet_on; (simp only [Act.put, List.setIfInBounds_toArray, List.set_cons_succ, List.set_cons_zero])) | ((with_reducible refine quiet_loadC 35 _ rfl _ (ckc c) ?_ CK.out Try.underlying35 rfl ?_ ?_); rfl; exact cells_ck HC.out.r; go_big_quiet_on; (simp only [Act.put, List.setIfInBounds_toArray, List.set_cons_succ, List.set_cons_zero])) | ((with_reducible refine quiet_lookup 81 _ _ _ rfl _ _ _ ?_ ?_ CL.out ?_); rfl; rfl; go_big_quiet_on; (simp only [Act.put, List.setIfInBounds_toArray, List.set_cons_succ, List.set_cons_zero]))) | (go_big_quiet_op; first | go_big_quiet_on | ((with_reducible refine ⟨_, fun _ _ => rfl, ?_⟩); go_big_quiet_on)))))
  clear CM CK CL
  refine mix_run (run_allocZ zero_table rfl) rfl ?_
  refine ⟨ext_alloc _ _, ?_⟩
  generalize hw0 : w.alloc (.cells (ckc c).toArray 35) = w0 at *
  have X0 := bx (Has.new w0.drew zt 38)
  have E0 := bx (ext_alloc w0.drew (.cells zt.toArray 38))
  have U0 : Bx (Below w0.heap.size w0 w0.drew) := ⟨(Below.refl _ _).drew⟩
  simp only [Act.put, List.setIfInBounds_toArray, List.set_cons_succ, List.set_cons_zero]
  go_wp2_with ((with_reducible refine wpList_storeB rfl 38 _ _ rfl _ (tbc ck (.slice A n cap)) _ ?_ ?_ X0.out (zt_len HCK.out _) Try.underlying38 (cells_tb HCK.out _) (tbc_one _ _ _ _) ?_); rfl; rfl; intro w2 hw hg hz; have X2 := bx hw; have B2 := bx (U0.out.trans (E0.out.grown hg E0.out.size (fun k hk => by cases hk; exact Nat.le_refl _))); clear hw hg hz)
  refine NoPanic.normal ?_
  have hcs : w2.cell? ⟨w0.heap.size, 33, none⟩ = some (.slice A n cap) := (X2.out.cell 33).trans (tbc_slice HCK.out _)
  have UR2 := bx (UR.out.below B2.out)
  have BW := bx (EK.out.trans (B2.out.mono EK.out.size))
  clear hw0
  cases fd with
  | false =>
    have HN : Bx (V = 0) := ⟨V0.out (by
      have h1 := FD.out (by first | rfl | trivial)
      have h2 := LN.out
      rw [h1] at h2
      rintro ⟨h3, h4⟩
      simp at h2
      omega)⟩
    go_wp2_with fail
    go_ret
    exact ⟨by rw [HN.out]; rfl, BW.out⟩
  | true =>
    by_cases hx0 : x < 0
    · have HN : Bx (V = 0) := ⟨V0.out (by omega)⟩
      go_wp2_with fail
      go_ret
      exact ⟨by rw [HN.out]; rfl, BW.out⟩
    · by_cases hxn : x < (n : Int)
      · obtain ⟨k, rfl⟩ : ∃ k : Nat, x = (k : Int) := ⟨x.toNat, by omega⟩
        have hkl : k < bs.length := by rw [LN.out]; omega
        obtain ⟨g, post, rfl, hg⟩ := UR2.out.2 (by omega)
        have hcc := URow.cell hg hkl
        have hk0 : (0 : Int) ≤ (k : Int) := by omega
        have HV := bx (V1.out k rfl hkl)
        clear hg hkl hx0
        generalize bs.getD k 0 = y at *
        go_wp2_with fail
        go_ret
        exact ⟨by rw [HV.out]; rfl, BW.out⟩
      · have hge : (n : Int) ≤ x := by omega
        have HN : Bx (V = 0) := ⟨V0.out (by omega)⟩
        go_wp2_with fail
        go_ret
        exact ⟨by rw [HN.out]; rfl, BW.out⟩
theorem run_field_tb {c : Ck} (h : c.2.length = 32) (A : Option Addr) (n cap : Nat) (w : World) : (Instr.field 38 (.agg (tbc c (.slice A n cap)).toArray) 1).run Try.prog w = .ok (.slice A n cap) w := by
  have h33 := tbc_slice h (.slice A n cap)
  simp [Instr.field, run_underlying Try.underlying38, asAgg, part, isAgg, run_underlying Try.underlying36, h33, go_sem]
theorem quiet_field {P : Program} {C : World → Prop} {o : Oper} {a : Act} {K : Act → Prop} (t : TypeId) (x : Operand) (i : Nat) (ho : o.op = .field t x i) (xv v : Value) (hx : a.eval x = xv)
    (hr : ∀ w, (Instr.field t xv i).run P w = .ok v w) (hk : K (a.put o.dst v)) : o.quiet P a C K := by
  refine ⟨_, fun w hw => ?_, hk⟩
  unfold Oper.quietAt execOp
  simp only [ho, hx, hr w, Sem.run_bind, Sem.run_pure, Result.andThen_ok]
  exact ⟨rfl, rfl⟩
set_option maxRecDepth 20000 in
set_option maxHeartbeats 1000000 in
theorem total_any {P : Nat → Prop} (B M : Nat) (v lim : Int) (T : List Tb) (c : Ck) (hc : CkOk c) (hn9 : (bal T c).length ≤ 65535) (hu : U64 (bal T c)) (w : World) (h : Bk P w B M v lim T) :
    Calls Try.prog 45 #[.pointer (some ⟨B, 0, none⟩), .agg (ckc c).toArray] w fun e w' => e = .returned (.int .u64 (totV (bal T c))) ∧ Below w.heap.size w w' := by
  have HC := bx hc
  have XK := bx (Has.new w (ckc c) 35)
  have EK := bx (ext_alloc w (.cells (ckc c).toArray 35))
  have HB := bx (h.below EK.out)
  obtain ⟨ck, A, cap, hck, hur, hrun⟩ := HB.out.m.read hc
  have HCK := bx hck
  have UR := bx hur
  have UU := bx hu
  have HN9 := bx hn9
  have GM := bx (HB.out.m.lt)
  have CM := bx (fun w6 (h6 : Cls (w.alloc (.cells (ckc c).toArray 35)).drew.heap.size (w.alloc (.cells (ckc c).toArray 35)).drew w6) => run_map1 ((HB.out.b.drew.below h6.out HB.out.b.lt).cell 2))
  have CK := bx (Has.cls XK.out.drew)
  have CL := bx (fun w6 (h6 : Cls (w.alloc (.cells (ckc c).toArray 35)).drew.heap.size (w.alloc (.cells (ckc c).toArray 35)).drew w6) => (hrun w6 (h6.out.block M GM.out)).2)
  have CF := bx (fun w6 => run_field_tb hck A (bal T c).length cap w6)
  clear h hc hck hrun hur hu hn9
  generalize hbs : bal T c = bs at *
  clear hbs
  go_enter Try.func45, Try.ntmps45
  go_wp2_with fail
  refine wp_region_mix3 11 (.steps [(0, 0), (0, 1), (0, 2), (0, 3), (0, 4), (0, 5), (0, 6), (2, 7), (1, 8), (1, 9), (1, 10)] .leaf) (by kernel_rfl) (by kernel_rfl) ?_
  simp only [MixT, MT.steps, stepAt, List.getD_cons_zero, List.getD_cons_succ, List.drop_succ_cons, List.drop_zero]
  repeat (first | (with_reducible refine wpQuiet_nil ?_) | (first | go_big_quiet_skip | (go_big_quiet_want; first | (first | ((with_reducible refine quiet_cell 81 _ rfl _ _ ?_ CM.out ?_); rfl; go_big_quiet_on; (simp only [Act.put, List.setIfInBounds_toArray, List.set_cons_succ, List.set_cons_zero])) | ((with_reducible refine quiet_loadC 35 _ rfl _ (ckc c) ?_ CK.out Try.underlying35 rfl ?_ ?_); rfl; exact cells_ck HC.out.r; go_big_quiet_on; (simp only [Act.put, List.setIfInBounds_toArray, List.set_cons_succ, List.set_cons_zero])) | ((with_reducible refine quiet_lookup 81 _ _ _ rfl _ _ _ ?_ ?_ CL.out ?_); rfl; rfl; go_big_quiet_on; (simp only [Act.put, List.setIfInBounds_toArray, List.set_cons_succ, List.set_cons_zero])) | ((with_reducible refine quiet_field 38 _ 1 rfl _ _ ?_ CF.out ?_); rfl; go_big_quiet_on; (simp only [Act.put, List.setIfInBounds_toArray, List.set_cons_succ, List.set_cons_zero]))) | (go_big_quiet_op; first | go_big_quiet_on | ((with_reducible refine ⟨_, fun _ _ => rfl, ?_⟩); go_big_quiet_on)))))
  have B0 := bx (UR.out.below ((Below.refl _ (w.alloc (.cells (ckc c).toArray 35))).drew))
  refine mix_call (k_sum_any _ A bs.length cap bs _ B0.out.row UU.out (by have := HN9.out; omega)) Try.func77 rfl rfl _ _ rfl rfl rfl ?_
  rintro e w1 ⟨rfl, rfl⟩
  refine ⟨_, rfl, Cls.refl _ _, ?_⟩
  have EW := bx (EK.out.drew)
  clear CM CK CL CF HB
  simp only [Act.put, List.setIfInBounds_toArray, List.set_cons_succ, List.set_cons_zero]
  repeat (first | (with_reducible refine wpQuiet_nil ?_) | (first | go_big_quiet_skip | (go_big_quiet_want; first | fail | (go_big_quiet_op; first | go_big_quiet_on | ((with_reducible refine ⟨_, fun _ _ => rfl, ?_⟩); go_big_quiet_on)))))
  go_wp2_with fail
  refine NoPanic.normal ?_
  go_wp2_with fail
  go_ret
  exact ⟨rfl, EW.out⟩
end Go.Proofs.Ytekikfdlnkcenaa
