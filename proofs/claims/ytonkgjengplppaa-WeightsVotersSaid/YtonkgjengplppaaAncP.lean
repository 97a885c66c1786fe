/- Path, IsAncestor and Descendants of the reference, walked. -/
import Derived.Test.YtonkgjengplppaaAncW
namespace Go.Proofs.Ytonkgjengplppaa
open Go.RowKit
theorem bsI (i : Int) : Try.prog.builtSlice 3 1 [(0, .int .i64 i)] = some #[.int .i64 i] := by kernel_rfl
theorem run_bsI {o : Oper} {a : Act} {w : World} {x : Operand} {i : Int} (ho : o.op = .buildSlice 22 1 #[(0, x)]) (hx : a.eval x = .int .i64 i) :
    (execOp a.eval o).run Try.prog w = .ok (.value (.slice (some ⟨w.heap.size, 0, none⟩) 1 1)) (w.alloc (.cells #[.int .i64 i] 3)) := by
  have e : (#[(0, x)].map fun (i, x) => (i, a.eval x)) = #[(0, .int .i64 i)] := by
    apply Array.ext'
    rw [Array.toList_map]
    show [(0, a.eval x)] = _
    rw [hx]
  have := run_sliceTo (P := Try.prog) w 22 3 1 #[(0, .int .i64 i)] _ Try.underlying22 (bsI i)
  unfold execOp
  simp only [ho, e, this, Sem.run_bind, Result.andThen_ok]
  rfl
theorem one_i64 (i : Int) : ∀ u ∈ [Value.int .i64 i], u.oneCell' = true := fun u hu => by simp at hu; subst hu; rfl
/-- a list of indexes, in a row of its own -/
def NatsP (l : List Nat) (w : World) (e : Ending) (w' : World) : Prop :=
  ∃ (A : Option Addr) (c : Nat), e = .returned (.slice A l.length c) ∧ w'.ownsRow w.heap.size 3 1 (.slice A l.length c) l.length (ints .i64 (nats l)) ∧ Below w.heap.size w w'
theorem own_row {w : World} {base : Nat} {e : TypeId} {A : Option Addr} {n c : Nat} {k : IntKind} {l : List Int} (h : w.ownsRow base e 1 (.slice A n c) n (ints k l)) : Row w w.heap.size 1 A n (ints k l) := Row.own h
def pathN (us : List Int) (j : Nat) : List Nat := pathF us j j
theorem pathN_zero (us : List Int) : pathN us 0 = [0] := rfl
theorem pathN_pos {us : List Int} (h : Lk us) {j u : Nat} (hj : j < us.length) (h0 : 0 < j) (hu : us.getD j 0 = u) (huj : u < j) : pathN us j = pathN us u ++ [j] := by
  obtain ⟨k, rfl⟩ : ∃ k, j = k + 1 := ⟨j - 1, by omega⟩
  unfold pathN
  rw [pathF, if_neg (by omega), hu, Int.toNat_natCast, path_fuel h k u u (by omega) (by omega) (Nat.le_refl _)]
theorem pathN_len {us : List Int} (h : Lk us) : ∀ j, j < us.length → (pathN us j).length ≤ j + 1
  | j, hj => by
    rcases Nat.eq_zero_or_pos j with h0 | h0
    · subst h0; simp [pathN_zero]
    · obtain ⟨u, hu, e⟩ := h.up hj h0
      rw [pathN_pos h hj h0 e hu]
      have := pathN_len h u (by omega)
      simp; omega
theorem nats_push (l : List Nat) (j : Nat) : nats (l ++ [j]) = nats l ++ [(j : Int)] := by simp [nats]
theorem own_new (w : World) (cs : List Value) (t : TypeId) (n : Nat) (hl : cs.length = n) (hm : n ≤ maxLen) : (w.alloc (.cells cs.toArray t)).ownsRow w.heap.size t 1 (.slice (some ⟨w.heap.size, 0, none⟩) n n) n cs :=
  ⟨by rw [hl, Nat.mul_one], .inr ⟨w.heap.size, n, cs.toArray, rfl, Nat.le_refl _, heap_alloc_new w _, Nat.le_refl _, hm, by simp [hl], by rw [Nat.mul_one, ← hl]; simp⟩⟩
set_option maxRecDepth 20000 in
set_option maxHeartbeats 800000 in
theorem path_any {ns : List Nd} (hk : Lk (Go.Proofs.Ytonkgjengplppaa.ups ns)) (A : Option Addr) (n c : Nat) (hn : n ≤ 4096) : ∀ (i : Nat), i < n → ∀ (w : World), NRow w A n ns →
    Calls Try.prog 62 #[.agg #[.slice A n c], .int .i64 i] w (NatsP (pathN (Go.Proofs.Ytonkgjengplppaa.ups ns) i) w) := by
  intro i
  induction i using Nat.strongRecOn with
  | _ i ih =>
    intro hi w h
    have HD : Bx (inB i n = true) := ⟨decide_eq_true ⟨by omega, by omega⟩⟩
    obtain ⟨i0, hi0, hz0, hz1, hz2⟩ := info_parts info_int
    have HI := bx (show Try.prog.info? 3 = some i0 from hi0)
    have ONE := bx (one_i64 i)
    have ONEL : Bx ([Value.int .i64 i].length = 1 * 1) := ⟨rfl⟩
    clear hi0
    have LN := bx h.1
    have HROW := bx h
    have X0 := bx (Has.new w [.slice A n c] 25)
    have B0 := bx (ext_alloc w (.cells #[.slice A n c] 25))
    clear h
    rcases Nat.eq_zero_or_pos i with h0 | h0
    · subst h0
      clear ih
      have HD : Bx (inB 0 n = true) := ⟨HD.out⟩
      rw [show ((0 : Nat) : Int) = 0 from rfl]
      go_enter Try.func62, Try.ntmps62
      go_wp2_with fail
      refine (is_any A n c _ _).mono ?_; rintro e w1 ⟨rfl, hb⟩
      rw [HD.out]
      have B1 := bx (B0.out.trans (hb.mono B0.out.size))
      clear hb
      go_wp2_with fail
      go_ret
      have O := own_new w1 (ints .i64 (nats [0])) 3 1 rfl (by unfold maxLen; omega)
      exact ⟨_, _, rfl, own_mono O B1.out.size, B1.out.trans ((ext_alloc _ _).mono B1.out.size)⟩
    · obtain ⟨u, hu, e⟩ := hk.up (by rw [ups_len, LN.out]; exact hi) h0
      have HP := bx (pathN_pos hk (by rw [ups_len, LN.out]; exact hi) h0 e hu)
      have IH := bx (ih u hu (by omega))
      rw [ups_at (by rw [LN.out]; exact hi)] at e
      have hin : (i : Int) < (n : Int) := by omega
      have hi0 : 0 ≤ (i : Int) := by omega
      have hne : ((i : Int) == 0) = false := by rw [beq_eq_false_iff_ne]; omega
      have HIL : Bx (i < ns.length) := ⟨by rw [LN.out]; exact hi⟩
      have HPL := pathN_len hk u (by rw [ups_len, LN.out]; omega)
      have HM1 : Bx ((pathN (Go.Proofs.Ytonkgjengplppaa.ups ns) u).length + 1 ≤ maxLen) := ⟨by unfold maxLen; omega⟩
      have HM2 : Bx (((pathN (Go.Proofs.Ytonkgjengplppaa.ups ns) u).length + 1) * 8 ≤ 140737488355328) := ⟨by omega⟩
      clear ih hk HPL
      go_enter Try.func62, Try.ntmps62
      go_wp2_with ((with_reducible refine wpList_loadG 25 _ rfl _ [.slice A n c] ?_ ?_ X0.out Try.underlying25 rfl ?_ ?_); rfl; rfl; exact cells_tree _)
      refine (is_any A n c _ _).mono ?_; rintro e1 w1 ⟨rfl, hb⟩
      rw [HD.out]
      have B1 := bx (B0.out.trans (hb.mono B0.out.size))
      have X1 := bx (X0.out.below hb X0.out.lt)
      clear hb X0 B0
      go_wp2_with fail
      obtain ⟨g0, p0, rfl, hg0⟩ := (HROW.out.below B1.out).2.2 (by omega)
      have G0 : Bx (Has w1.drew g0 (ns.flatMap nc ++ p0)) := ⟨hg0⟩
      clear hg0
      have X2 : Bx (Has w1.drew w.heap.size [.slice (some ⟨g0, 0, none⟩) n c]) := ⟨X1.out⟩
      have B2 : Bx (Below w.heap.size w w1.drew) := ⟨B1.out.drew⟩
      have N2 : Bx (NRow w1.drew (some ⟨g0, 0, none⟩) n ns) := ⟨HROW.out.below B2.out⟩
      have CU := bx (fun w5 (h5 : Cls w1.drew.heap.size w1.drew w5) => run_int1 ((G0.out.below h5.out G0.out.lt).nodeCell HROW.out.2.1 i HIL.out 238 _ (nc_up (HROW.out.2.1 _ (List.getElem_mem HIL.out)))))
      have CN := bx (fun w5 (h5 : Cls w1.drew.heap.size w1.drew w5) => run_nodes1 ((X2.out.below h5.out X2.out.lt).cell 0))
      have CT := bx (Has.cls X2.out)
      rw [e] at CU
      clear e
      refine wp_region_mix3 10 (.steps [(0, 0), (0, 1), (0, 2), (0, 3), (0, 4), (0, 5), (0, 6), (0, 8)] (.fork 7 (.steps [(2, 9)] .leaf) 9 (.steps [(2, 7)] .leaf))) (by kernel_rfl) (by kernel_rfl) ?_
      simp only [MixT, MT.steps, stepAt, List.getD_cons_zero, List.getD_cons_succ, List.drop_succ_cons, List.drop_zero]
      repeat (first | (with_reducible refine wpQuiet_nil ?_) | (first | go_big_quiet_skip | (go_big_quiet_want; first | (first | ((with_reducible refine quiet_loadC 25 _ rfl _ [.slice (some ⟨g0, 0, none⟩) n c] ?_ CT.out Try.underlying25 rfl ?_ ?_); rfl; exact cells_tree _; go_big_quiet_on; (simp only [Act.put, List.setIfInBounds_toArray, List.set_cons_succ, List.set_cons_zero])) | ((with_reducible refine quiet_cell 3 _ rfl _ _ ?_ CU.out ?_); rfl; go_big_quiet_on; (simp only [Act.put, List.setIfInBounds_toArray, List.set_cons_succ, List.set_cons_zero])) | ((with_reducible refine quiet_cell 23 _ rfl _ _ ?_ CN.out ?_); rfl; go_big_quiet_on; (simp only [Act.put, List.setIfInBounds_toArray, List.set_cons_succ, List.set_cons_zero]))) | (go_big_quiet_op; first | go_big_quiet_on | ((with_reducible refine ⟨_, fun _ _ => rfl, ?_⟩); go_big_quiet_on)))))
      refine ⟨?_, ?_⟩
      · refine mix_call (IH.out _ N2.out) Try.func62 rfl rfl _ _ rfl rfl rfl ?_
        rintro e w5 ⟨A5, c5, rfl, ho, hb⟩
        refine ⟨_, rfl, hb, ?_⟩
        have O5 := bx ho
        have B5 := bx (B2.out.trans (hb.mono B2.out.size))
        clear hb ho X2 G0 CT CU CN X1 B1 N2
        refine mix_run (run_bsI (i := (i : Int)) rfl rfl) rfl ?_
        refine ⟨ext_alloc _ _, ?_⟩
        have AP : Bx (Apd (w5.alloc (.cells #[.int .i64 i] 3)) w.heap.size 3 1 _ _ _) := ⟨(Apd.alloc (.inl (own_mono O5.out B2.out.size)) _)⟩
        have NC := bx (new_cells w5 [.int .i64 i] 3)
        have B6 := bx (B5.out.trans ((ext_alloc w5 (.cells #[.int .i64 i] 3)).mono B5.out.size))
        clear O5 B5
        simp only [Act.put, List.setIfInBounds_toArray, List.set_cons_succ, List.set_cons_zero]
        generalize (pathN (Go.Proofs.Ytonkgjengplppaa.ups ns) u) = L at *
        go_wp2_with (at_builtin; (with_reducible refine wpList_pushAt rfl (.tmp 19) (.tmp 21) 22 rfl i0 _ 8 Try.underlying22 HI.out hz0 hz1 hz2 ?_ ?_ ?_ AP.out ⟨w5.heap.size, 0, none⟩ 1 1 [.int .i64 i] ?_ (by omega) ONEL.out NC.out ONE.out HM1.out HM2.out B6.out.size ?_); rfl; omega; rfl; rfl; intro v' w' hown' _ hbel' _; have HW := bx hown'; have HB1 := bx (B6.out.trans hbel'); clear hown' hbel')
        refine NoPanic.normal ?_
        go_wp2_with fail
        go_ret
        have hw := HW.out
        rw [HP.out]
        obtain ⟨A6, c6, rfl⟩ := own_slice hw
        exact ⟨A6, c6, by simp, by rw [nats_push, ints_push, List.length_append]; exact hw, HB1.out⟩
      · refine mix_run (run_bsI (i := (i : Int)) rfl rfl) rfl ?_
        refine ⟨ext_alloc _ _, ?_⟩
        have BX := bx (ext_alloc w1.drew (.cells #[.int .i64 i] 3))
        have G9 := bx (Has.new w1.drew [.int .i64 i] 3)
        refine mix_call (IH.out _ (N2.out.below BX.out)) Try.func62 rfl rfl _ _ rfl rfl rfl ?_
        rintro e w5 ⟨A5, c5, rfl, ho, hb⟩
        refine ⟨_, rfl, hb, ?_⟩
        have B5 := bx (B2.out.trans ((BX.out.trans (hb.mono BX.out.size)).mono B2.out.size))
        have AP : Bx (Apd w5 w.heap.size 3 1 _ _ _) := ⟨.inl (own_mono ho (Nat.le_trans B2.out.size BX.out.size))⟩
        have NC : Bx (∀ j u, [Value.int .i64 i][j]? = some u → w5.cell? ((⟨w1.drew.heap.size, 0, none⟩ : Addr).add j) = some u) := ⟨fun j u hu => by
          rw [add_at, Nat.zero_add, (G9.out.below hb G9.out.lt).cell]; exact hu⟩
        clear hb ho X2 G0 CT CU CN X1 B1 N2 BX G9
        generalize (pathN (Go.Proofs.Ytonkgjengplppaa.ups ns) u) = L at *
        simp only [Act.put, List.setIfInBounds_toArray, List.set_cons_succ, List.set_cons_zero]
        go_wp2_with (at_builtin; (with_reducible refine wpList_pushAt rfl (.tmp 19) (.tmp 21) 22 rfl i0 _ 8 Try.underlying22 HI.out hz0 hz1 hz2 ?_ ?_ ?_ AP.out ⟨w1.drew.heap.size, 0, none⟩ 1 1 [.int .i64 i] ?_ (by omega) ONEL.out NC.out ONE.out HM1.out HM2.out B5.out.size ?_); rfl; omega; rfl; rfl; intro v' w' hown' _ hbel' _; have HW := bx hown'; have HB1 := bx (B5.out.trans hbel'); clear hown' hbel')
        refine NoPanic.normal ?_
        go_wp2_with fail
        go_ret
        have hw := HW.out
        rw [HP.out]
        obtain ⟨A6, c6, rfl⟩ := own_slice hw
        exact ⟨A6, c6, by simp, by rw [nats_push, ints_push, List.length_append]; exact hw, HB1.out⟩
end Go.Proofs.Ytonkgjengplppaa
