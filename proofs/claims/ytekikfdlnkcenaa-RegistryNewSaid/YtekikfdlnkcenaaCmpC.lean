/- Checkpoints in order: the comparison. -/
import Derived.Test.YtekikfdlnkcenaaSeqC
import Derived.Test.YtekikfdlnkcenaaLaysR
import Derived.Deep.CutRange
import Derived.Shelf.SlSortCmp.NoneTotal
namespace Go.Proofs.Ytekikfdlnkcenaa
open Go.RowKit Go.Maps Go.Sort Go.Shelf
theorem run_u641 {w : World} {p : Addr} {v : Value} (hc : w.cell? p = some v) : (Instr.loadAt 30 (.pointer (some p))).run Try.prog w = .ok v w := by
  simp [Instr.loadAt, Instr.sureAddr, loadVar, isAgg, run_underlying Try.underlying30, run_load, hc]
theorem ck_rootAt {w : World} {g : Nat} {c : Ck} (h : Has w g (ckc c)) : w.rangeAt g 1 (ints .u8 c.2) := fun j u hu => by
  rw [h.cell, ckc, Nat.add_comm 1 j]; exact hu
theorem bsI2 (i j : Int) : Try.prog.builtSlice 3 2 [(0, .int .i64 i), (1, .int .i64 j)] = some #[.int .i64 i, .int .i64 j] := by kernel_rfl
theorem run_bsI2 {o : Oper} {a : Act} {w : World} {x y : Operand} {i j : Int} (ho : o.op = .buildSlice 22 2 #[(0, x), (1, y)]) (hx : a.eval x = .int .i64 i) (hy : a.eval y = .int .i64 j) :
    (execOp a.eval o).run Try.prog w = .ok (.value (.slice (some ⟨w.heap.size, 0, none⟩) 2 2)) (w.alloc (.cells #[.int .i64 i, .int .i64 j] 3)) := by
  have e : (#[(0, x), (1, y)].map fun (i, x) => (i, a.eval x)) = #[(0, .int .i64 i), (1, .int .i64 j)] := by
    apply Array.ext'
    rw [Array.toList_map]
    show [(0, a.eval x), (1, a.eval y)] = _
    rw [hx, hy]
  have := run_sliceTo (P := Try.prog) w 22 3 2 #[(0, .int .i64 i), (1, .int .i64 j)] _ Try.underlying22 (bsI2 i j)
  unfold execOp
  simp only [ho, e, this, Sem.run_bind, Result.andThen_ok]
  rfl
theorem bt_fit {r : List Int} (h : Bt r) : Fit .u8 r := fun x hx => wf_u8 (h x hx)
def cmpU (x y : Int) : Int := if x < y then -1 else if y < x then 1 else 0
theorem isNaN_u64 (x : Int) (w : World) : Calls Try.prog 127 #[.int .u64 x] w fun e w' => e = .returned (.bool false) ∧ w' = w := by
  go_enter Try.func127, Try.ntmps127
  go_wp2
  go_ret
  exact ⟨by simp, rfl⟩
theorem cmpU_any (x y : Int) (w : World) : Calls Try.prog 109 #[.int .u64 x, .int .u64 y] w fun e w' => e = .returned (.int .i64 (cmpU x y)) ∧ w' = w := by
  go_enter Try.func109, Try.ntmps109
  go_wp2_with (go_at_call 127; refine (isNaN_u64 _ _).mono ?_; rintro e w' ⟨rfl, hw⟩; rw [hw])
  all_goals (go_ret; refine ⟨?_, rfl⟩; unfold cmpU; (repeat' split) <;> first | rfl | (exfalso; omega))
/-- the first that is not zero -/
def orI (a b : Int) : Int := if a = 0 then b else a
theorem or_any (a b : Int) (g : Nat) (w : World) (h : Has w g [.int .i64 a, .int .i64 b]) : Calls Try.prog 108 #[.slice (some ⟨g, 0, none⟩) 2 2] w fun e w' => e = .returned (.int .i64 (orI a b)) ∧ Lays w w' := by
  have c0 : w.cell? ⟨g, 0, none⟩ = some (.int .i64 a) := (h.cell 0)
  have c1 : w.cell? ⟨g, 1, none⟩ = some (.int .i64 b) := (h.cell 1)
  clear h
  go_enter Try.func108, Try.ntmps108
  go_wp2
  refine wp_loop_rounds 3 ?_
  rw [rounds_succ]
  go_wp2
  · have h0 : a ≠ 0 := by simp_all
    go_ret
    exact ⟨by unfold orI; rw [if_neg h0]; rfl, Lays.refl _⟩
  · have h0 : a = 0 := by simp_all
    rw [rounds_succ]
    go_wp2
    · go_ret
      exact ⟨by unfold orI; rw [if_pos h0]; rfl, Lays.refl _⟩
    · have h1 : b = 0 := by simp_all
      rw [rounds_succ]
      go_wp2
      go_ret
      exact ⟨by unfold orI; rw [if_pos h0, h1]; rfl, Lays.refl _⟩
/-- checkpoints by epoch, then by root -/
def cmpCk (a b : Ck) : Int := orI (cmpU a.1 b.1) (cmpI a.2 b.2)
set_option maxRecDepth 20000 in
set_option maxHeartbeats 1000000 in
theorem checkpoints_any (a b : Ck) (ha : CkOk a) (hb : CkOk b) (w : World) : Calls Try.prog 82 #[.agg (ckc a).toArray, .agg (ckc b).toArray] w fun e w' => e = .returned (.int .i64 (cmpCk a b)) ∧ Lays w w' := by
  have X1 := bx ((Has.new w (ckc a) 35).alloc (.cells (ckc b).toArray 35))
  have X2 : Bx (Has ((w.alloc (.cells (ckc a).toArray 35)).alloc (.cells (ckc b).toArray 35)) (w.heap.size + 1) (ckc b)) := ⟨has_newAt (alloc_size w _) _ _⟩
  have HA := bx ha
  have HB := bx hb
  have A1 := bx (fun w6 (h6 : Cls ((w.alloc (.cells (ckc a).toArray 35)).alloc (.cells (ckc b).toArray 35)).drew.heap.size ((w.alloc (.cells (ckc a).toArray 35)).alloc (.cells (ckc b).toArray 35)).drew w6) => run_u641 (p := ⟨w.heap.size, 0, none⟩) (v := .int .u64 a.1) ((X1.out.drew.below h6.out X1.out.lt).cell 0))
  have A2 := bx (fun w6 (h6 : Cls ((w.alloc (.cells (ckc a).toArray 35)).alloc (.cells (ckc b).toArray 35)).drew.heap.size ((w.alloc (.cells (ckc a).toArray 35)).alloc (.cells (ckc b).toArray 35)).drew w6) => ck_rootAt (X1.out.drew.below h6.out X1.out.lt))
  have B1 := bx (fun w6 (h6 : Cls ((w.alloc (.cells (ckc a).toArray 35)).alloc (.cells (ckc b).toArray 35)).drew.heap.size ((w.alloc (.cells (ckc a).toArray 35)).alloc (.cells (ckc b).toArray 35)).drew w6) => run_u641 (p := ⟨w.heap.size + 1, 0, none⟩) (v := .int .u64 b.1) ((X2.out.drew.below h6.out X2.out.lt).cell 0))
  have B2 := bx (fun w6 (h6 : Cls ((w.alloc (.cells (ckc a).toArray 35)).alloc (.cells (ckc b).toArray 35)).drew.heap.size ((w.alloc (.cells (ckc a).toArray 35)).alloc (.cells (ckc b).toArray 35)).drew w6) => ck_rootAt (X2.out.drew.below h6.out X2.out.lt))
  clear ha hb
  have L0 := bx (((Lays.refl w).alloc (.cells (ckc a).toArray 35)).alloc (.cells (ckc b).toArray 35))
  go_enter Try.func82, Try.ntmps82
  go_upto_region 1 with fail
  refine wp_region_mix3 11 (.steps [(0, 0), (0, 1), (0, 2), (0, 3), (0, 5), (0, 6), (0, 7), (0, 8), (2, 4), (2, 9), (2, 10)] .leaf) (by kernel_rfl) (by kernel_rfl) ?_
  simp only [MixT, MT.steps, stepAt, List.getD_cons_zero, List.getD_cons_succ, List.drop_succ_cons, List.drop_zero]
  repeat (first | (with_reducible refine wpQuiet_nil ?_) | (first | go_big_quiet_skip | (go_big_quiet_want; first | (first | ((with_reducible refine quiet_cell 30 _ rfl _ _ ?_ A1.out ?_); rfl; go_big_quiet_on; (simp only [Act.put, List.setIfInBounds_toArray, List.set_cons_succ, List.set_cons_zero])) | ((with_reducible refine quiet_cell 30 _ rfl _ _ ?_ B1.out ?_); rfl; go_big_quiet_on; (simp only [Act.put, List.setIfInBounds_toArray, List.set_cons_succ, List.set_cons_zero])) | ((with_reducible refine quiet_loadRng 33 _ rfl _ _ (ints .u8 a.2) ?_ A2.out Try.underlying33 rfl ?_ ?_); rfl; (rw [cellsOf_root, ints_len]; exact HA.out.r.symm); go_big_quiet_on; (simp only [Act.put, List.setIfInBounds_toArray, List.set_cons_succ, List.set_cons_zero])) | ((with_reducible refine quiet_loadRng 33 _ rfl _ _ (ints .u8 b.2) ?_ B2.out Try.underlying33 rfl ?_ ?_); rfl; (rw [cellsOf_root, ints_len]; exact HB.out.r.symm); go_big_quiet_on; (simp only [Act.put, List.setIfInBounds_toArray, List.set_cons_succ, List.set_cons_zero]))) | (go_big_quiet_op; first | go_big_quiet_on | ((with_reducible refine ⟨_, fun _ _ => rfl, ?_⟩); go_big_quiet_on)))))
  clear A1 A2 B1 B2 X1 X2
  have L1 := bx L0.out.drew
  refine mix_call (cmpU_any a.1 b.1 _) Try.func109 rfl rfl _ _ rfl rfl rfl ?_
  rintro e w1 ⟨rfl, rfl⟩
  refine ⟨_, rfl, Cls.refl _ _, ?_⟩
  refine mix_call (compare_lays (bt_fit HA.out.b) (bt_fit HB.out.b) HA.out.r HB.out.r _) Try.func18 rfl rfl _ _ rfl rfl rfl ?_
  rintro e w2 ⟨rfl, hl⟩
  have L2 := bx (L1.out.trans hl)
  refine ⟨_, rfl, hl.below, ?_⟩
  clear hl
  refine mix_run (run_bsI2 (i := cmpU a.1 b.1) (j := cmpI a.2 b.2) rfl rfl rfl) rfl ?_
  refine ⟨ext_alloc _ _, ?_⟩
  have OR := bx (or_any (cmpU a.1 b.1) (cmpI a.2 b.2) _ _ (Has.new w2 [.int .i64 (cmpU a.1 b.1), .int .i64 (cmpI a.2 b.2)] 3))
  simp only [Act.put, List.setIfInBounds_toArray, List.set_cons_succ, List.set_cons_zero]
  go_wp2_with (go_at_call 108; refine OR.out.mono ?_; rintro e w3 ⟨rfl, hl⟩; have L3 := bx ((L2.out.alloc _).trans hl); clear hl)
  refine NoPanic.normal ?_
  go_wp2_with fail
  go_ret
  exact ⟨rfl, L3.out⟩
/-! the order -/
theorem cmpI_vals : ∀ (a b : List Int), cmpI a b = -1 ∨ cmpI a b = 0 ∨ cmpI a b = 1
  | [], _ => .inr (.inl rfl)
  | _ :: _, [] => .inr (.inl rfl)
  | x :: xs, y :: ys => by
    unfold cmpI
    by_cases h1 : x < y
    · rw [if_pos h1]; exact .inl rfl
    · rw [if_neg h1]
      by_cases h2 : y < x
      · rw [if_pos h2]; exact .inr (.inr rfl)
      · rw [if_neg h2]; exact cmpI_vals xs ys
theorem cmpI_zero : ∀ (a b : List Int), a.length = b.length → cmpI a b = 0 → a = b
  | [], [], _, _ => rfl
  | [], _ :: _, h, _ => by simp at h
  | _ :: _, [], h, _ => by simp at h
  | x :: xs, y :: ys, h, he => by
    unfold cmpI at he
    by_cases h1 : x < y
    · rw [if_pos h1] at he; omega
    · rw [if_neg h1] at he
      by_cases h2 : y < x
      · rw [if_pos h2] at he; omega
      · rw [if_neg h2] at he
        rw [cmpI_zero xs ys (by simpa using h) he, show x = y by omega]
theorem cmpI_self : ∀ a : List Int, cmpI a a = 0
  | [] => rfl
  | x :: xs => by unfold cmpI; rw [if_neg (by omega), if_neg (by omega)]; exact cmpI_self xs
theorem cmpI_flip : ∀ a b : List Int, cmpI b a = - cmpI a b
  | [], [] => rfl
  | [], _ :: _ => rfl
  | _ :: _, [] => rfl
  | x :: xs, y :: ys => by
    unfold cmpI
    by_cases h1 : x < y
    · rw [if_pos h1, if_neg (show ¬ y < x by omega), if_pos h1]; rfl
    · by_cases h2 : y < x
      · simp [h1, h2]
      · rw [if_neg h1, if_neg h2, if_neg h2, if_neg h1]; exact cmpI_flip xs ys
theorem cmpI_trans : ∀ a b c : List Int, a.length = b.length → b.length = c.length → cmpI a b ≤ 0 → cmpI b c ≤ 0 → cmpI a c ≤ 0
  | [], _, _, _, _, _, _ => by simp [cmpI]
  | _ :: _, [], _, h, _, _, _ => by simp at h
  | _ :: _, _ :: _, [], _, h, _, _ => by simp at h
  | x :: xs, y :: ys, z :: zs, h1, h2, ha, hb => by
    unfold cmpI at ha hb ⊢
    by_cases a1 : x < y
    · by_cases b1 : y < z
      · rw [if_pos (show x < z by omega)]; decide
      · rw [if_neg b1] at hb
        by_cases b2 : z < y
        · rw [if_pos b2] at hb; omega
        · rw [if_pos (show x < z by omega)]; decide
    · rw [if_neg a1] at ha
      by_cases a2 : y < x
      · rw [if_pos a2] at ha; omega
      · rw [if_neg a2] at ha
        by_cases b1 : y < z
        · rw [if_pos (show x < z by omega)]; decide
        · rw [if_neg b1] at hb
          by_cases b2 : z < y
          · rw [if_pos b2] at hb; omega
          · rw [if_neg b2] at hb
            rw [if_neg (show ¬ x < z by omega), if_neg (show ¬ z < x by omega)]
            exact cmpI_trans xs ys zs (by simpa using h1) (by simpa using h2) ha hb
theorem cmpU_eq (x y : Int) : cmpU x y = cmpI [x] [y] := by unfold cmpU cmpI; rfl
theorem cmpCk_eq (a b : Ck) : cmpCk a b = cmpI (a.1 :: a.2) (b.1 :: b.2) := by
  unfold cmpCk orI cmpU
  rw [cmpI]
  by_cases h1 : a.1 < b.1
  · rw [if_pos h1, if_pos h1]; rfl
  · rw [if_neg h1, if_neg h1]
    by_cases h2 : b.1 < a.1
    · rw [if_pos h2, if_pos h2]; rfl
    · rw [if_neg h2, if_neg h2]; rfl
/-- an order of lists of one length -/
theorem swo_of {α : Type} (f : α → List Int) (n : Nat) (hf : ∀ x, (f x).length = n) : SWO (ltOf fun x y : α => cmpI (f x) (f y)) where
  irrefl x := by show decide (cmpI (f x) (f x) < 0) = false; rw [cmpI_self]; rfl
  trans x y z h1 h2 := by
    unfold ltOf at *
    simp only [decide_eq_true_eq] at *
    have l1 := cmpI_trans (f x) (f y) (f z) (by rw [hf, hf]) (by rw [hf, hf]) (by omega) (by omega)
    rcases Int.lt_or_eq_of_le l1 with h | h
    · exact h
    · have e := cmpI_zero _ _ (by rw [hf, hf]) h
      rw [e, cmpI_flip] at h1
      omega
  ntrans x y z h1 h2 := by
    unfold ltOf at *
    simp only [decide_eq_false_iff_not] at *
    have := cmpI_trans (f z) (f y) (f x) (by rw [hf, hf]) (by rw [hf, hf]) (by rw [cmpI_flip]; omega) (by rw [cmpI_flip]; omega)
    rw [cmpI_flip] at this
    omega
theorem tot_of {α : Type} (f : α → List Int) (n : Nat) (hf : ∀ x, (f x).length = n) (hi : ∀ x y, f x = f y → x = y) (x y : α) (h1 : ltOf (fun x y : α => cmpI (f x) (f y)) x y = false) (h2 : ltOf (fun x y : α => cmpI (f x) (f y)) y x = false) : x = y := by
  unfold ltOf at *
  simp only [decide_eq_false_iff_not] at *
  rw [cmpI_flip] at h2
  exact hi _ _ (cmpI_zero _ _ (by rw [hf, hf]) (by omega))
def flC (x : CkS) : List Int := x.c.1 :: x.c.2
theorem flC_len (x : CkS) : (flC x).length = 33 := by simp [flC, x.ok.r]
theorem flC_inj (x y : CkS) (h : flC x = flC y) : x = y := CkS.ext' (by
  injection h with h1 h2
  exact Prod.ext h1 h2)
def cmpS (x y : CkS) : Int := cmpI (flC x) (flC y)
end Go.Proofs.Ytekikfdlnkcenaa
