/- slices.Compact at roots. -/
import Derived.Test.YtekikfdlnkcenaaRsL
namespace Go.Proofs.Ytekikfdlnkcenaa
open Go.RowKit Go.Sort
theorem elRt' : ElT Try.prog 46 33 32 32 := elT_of Try.underlying46 (by kernel_rfl) (by decide) (by decide)
theorem rts_len (X : List Rt) : (rts X).length = X.length * 32 := flat_len X fun x _ => rc_len x
section
variable {Γ0 Γ : Gam} {w0 w : World} {L : List Ent} {R : List RowE} {Pg : Program} {ops : Array Oper} {rest : List Oper} {op : Oper} {a : Act} {Q : Exit → Act → World → Prop}
theorem MM.rootAt {g c n : Nat} {X : List Rt} (M : MM Γ0 w0 Γ w L (⟨.slice (some ⟨g, 0, none⟩) n c, 33, 32, n, rts X⟩ :: R)) (i : Nat) (hi : i < X.length) : ∀ w', Cls w.heap.size w w' → w'.rangeAt g (i * 32) (rc X[i]) := fun w' h => by
  have M' := M.below h.out
  exact M'.rowGet (f := rc) (fun x _ => rc_len x) i hi
theorem run_clear_gen {P : Program} (w w' : World) (t e ty : TypeId) (z : Value) (ht : P.underlying t = some (.slice e)) (hv : ∀ w, (zeroValue e).run P w = .ok z w) (b o n c : Nat) (hn : 0 < n) (vs : List Value) (hz : (Builtin.zeroCells z.cells n).toList = vs)
    (hst : (storeCells ⟨b, o, none⟩ vs).run P w = .ok () w') : (Builtin.clear_ #[t] ty #[.slice (some ⟨b, o, none⟩) n c]).run P w = .ok (.tuple #[]) w' := by
  obtain ⟨m, rfl⟩ : ∃ m, n = m + 1 := ⟨n - 1, by omega⟩
  simp [Builtin.clear_, run_underlying ht, hv, hz, hst]
/-- clear -/
theorem clear_roots {n c m k : Nat} {g : Nat} {X : List Rt} (M : MM Γ0 w0 Γ w L (⟨.slice (some ⟨g, 0, none⟩) n c, 33, 32, n, rts X⟩ :: R)) (hn : X.length = n) (hk : k + m = n) (hm : 0 < m) (ty : TypeId) (c' : Nat) :
    ∃ w', (Builtin.clear_ #[46] ty #[.slice (some ⟨g, k * 32, none⟩) m c']).run Try.prog w = .ok (.tuple #[]) w' ∧ MM Γ0 w0 Γ w' L (⟨.slice (some ⟨g, 0, none⟩) n c, 33, 32, n, rts (X.take k ++ List.replicate m r0)⟩ :: R) := by
  have e0 : rts X = rts (X.take k) ++ rts (X.drop k) ++ [] := by rw [List.append_nil]; unfold rts; rw [← List.flatMap_append, List.take_append_drop]
  rw [e0] at M
  have hz : (Builtin.zeroCells (Value.agg (rc r0).toArray).cells m).toList = rts (List.replicate m r0) := by
    have h1 := made_flat rc r0 (rc r0).toArray (by simp) (rc_len r0) (by decide) m
    show (Builtin.zeroCells (rc r0).toArray m).toList = _
    have h2 : Builtin.zeroCells (rc r0).toArray m = madeCells (rc r0).toArray (m * 32) := by
      unfold Builtin.zeroCells madeCells
      rw [List.size_toArray, rc_len]
    rw [h2, h1]; rfl
  have hlen : (rts (X.drop k)).length = (rts (List.replicate m r0)).length := by rw [rts_len, rts_len, List.length_drop, List.length_replicate]; congr 1; omega
  obtain ⟨q1, q2⟩ := M.rowPut hlen
  have hp : (rts (X.take k)).length = k * 32 := by rw [rts_len, List.length_take]; congr 1; omega
  rw [hp] at q1 q2
  have hst := run_storeCells_cells (P := Try.prog) g (k * 32) (rts (List.replicate m r0)) 0 w (fun j hj => by rw [Nat.add_zero]; exact (q1 j hj).1) (fun j hj => by rw [Nat.add_zero]; exact (q1 j hj).2) (by
    intro v hv
    unfold rts at hv
    obtain ⟨x, _, hx⟩ := List.mem_flatMap.1 hv
    exact rc_one x v hx)
  rw [Nat.add_zero] at hst
  refine ⟨w.setCells g (k * 32) (rts (List.replicate m r0)), ?_, ?_⟩
  · exact run_clear_gen w _ _ _ ty _ Try.underlying46 zero_rt g (k * 32) m c' hm _ hz hst
  · have e1 : rts (X.take k ++ List.replicate m r0) = rts (X.take k) ++ rts (List.replicate m r0) ++ [] := by rw [List.append_nil]; unfold rts; rw [List.flatMap_append]
    rw [e1]; exact q2
theorem wpList_clearR {n c m k : Nat} {g : Nat} {X : List Rt} (M : MM Γ0 w0 Γ w L (⟨.slice (some ⟨g, 0, none⟩) n c, 33, 32, n, rts X⟩ :: R)) (hn : X.length = n) (hk : k + m = n) (hm : 0 < m) (hgd : op.guard = none) (x : Operand) (ho : op.op = .call { callee := .builtin .clear, args := #[x], argTypes := #[46] }) (c' : Nat) (hx : a.eval x = .slice (some ⟨g, k * 32, none⟩) m c')
    (h : ∀ w', MM Γ0 w0 Γ w' L (⟨.slice (some ⟨g, 0, none⟩) n c, 33, 32, n, rts (X.take k ++ List.replicate m r0)⟩ :: R) → wpList Try.prog ops Q rest (a.put op.dst (.tuple #[])) w') : wpList Try.prog ops Q (op :: rest) a w := by
  obtain ⟨w', hr, hM⟩ := clear_roots M hn hk hm op.type c'
  refine wpList_plain hgd fun K hK => ?_
  unfold Oper.wp execOp
  simp only [ho, resolve, invoke, builtin, Sem.run_bind, Sem.run_pure, Result.andThen_ok, List.map_toArray, List.map_cons, List.map_nil, hx, hr]
  exact hK _ _ (h w' hM)
end
set_option maxRecDepth 20000 in
set_option maxHeartbeats 1000000 in
theorem compactR_any {Γ0 Γ : Gam} {w0 w : World} {L : List Ent} {R : List RowE} (A : Option Addr) (n c : Nat) (X : List Rt) (hn : X.length = n) (hn5 : n ≤ 65535) (hM : MM Γ0 w0 Γ w L (⟨.slice A n c, 33, 32, n, rts X⟩ :: R)) :
    Calls Try.prog 51 #[.slice A n c] w fun e w' => ∃ Y : List Rt, e = .returned (.slice A (cptR X n).length c) ∧ MM Γ0 w0 Γ w' L (⟨.slice A n c, 33, 32, n, rts Y⟩ :: R) ∧ Y.take (cptR X n).length = cptR X n := by
  have M := bx hM
  have HN := bx hn
  clear hM
  by_cases h2 : n < 2
  · have hni : (n : Int) < 2 := by omega
    have HC : Bx (cptR X n = X) := ⟨by
      rw [cptR_all X n (by omega) (fun j h0 h1 => by omega), List.take_of_length_le (by omega)]⟩
    go_enter Try.func51, Try.ntmps51
    go_wp2_with fail
    go_ret
    exact ⟨X, by rw [HC.out, HN.out]; rfl, M.out, by rw [HC.out]; exact List.take_length ..⟩
  · obtain ⟨g, rfl, hnc, _⟩ := M.out.rowHd (by omega)
    have hni : ¬ (n : Int) < 2 := by omega
    have CAP := bx hnc
    clear hnc
    go_enter Try.func51, Try.ntmps51
    go_wp2_with fail
    go_loopw [3] (fun s wr => ∃ p : Nat, p + 1 ≤ n ∧ s = .int .i64 ((p : Int) + 1) ∧ (∀ j, 0 < j → j < p + 1 → X[j]? ≠ X[j - 1]?) ∧ MM Γ0 w0 Γ wr L (⟨.slice (some ⟨g, 0, none⟩) n c, 33, 32, n, rts X⟩ :: R)) (fun s _ => n - (intOf s).toNat)
    case atStart => exact ⟨0, by omega, rfl, fun j h0 h1 => by omega, M.out⟩
    case round =>
      obtain ⟨p, hp, rfl, hno, hM⟩ := hrel
      clear M
      have M := bx hM
      have HNO := bx hno
      clear hM hno
      by_cases hpn : p + 1 < n
      · have hpi : (p : Int) + 1 < (n : Int) := by omega
        have hp0 : (0 : Int) ≤ (p : Int) := by omega
        have hl1 : p + 1 < X.length := by omega
        have hl0 : p < X.length := by omega
        have HS := bx (rt_same X[p + 1] X[p])
        have HE := bx (show decide (X[p + 1] = X[p]) = decide (X[p + 1]? = X[p]?) by rw [decide_eq_decide, List.getElem?_eq_getElem hl1, List.getElem?_eq_getElem hl0, Option.some.injEq])
        generalize hd : decide (X[p + 1] = X[p]) = d at *
        cases d with
        | true =>
          have R1 := bx (M.out.rootAt (p + 1) hl1)
          have R0 := bx (M.out.rootAt p hl0)
          have hq := HS.out
          have HC1 : Bx (cptR X (p + 1) = X.take (p + 1)) := ⟨cptR_all X (p + 1) (by omega) HNO.out⟩
          have HC2 : Bx (cptR X (p + 2) = X.take (p + 1)) := ⟨by
            rw [← HC1.out]
            show (if 0 < p + 1 ∧ X[p + 1]? = X[p + 1 - 1]? then cptR X (p + 1) else _) = _
            rw [if_pos ⟨Nat.succ_pos _, of_decide_eq_true HE.out.symm⟩]⟩
          go_wp2_with fail
          refine region_cls wr.heap.size (by kernel_rfl) (by kernel_rfl) ?_
          repeat (first | go_big_quiet_skip | (go_big_quiet_want; first | (first | ((with_reducible apply quiet_ranged); rfl; rfl; exact rtRoot; exact R1.out; exact rc_len _; go_big_quiet_on; (simp only [Act.put, List.setIfInBounds_toArray, List.set_cons_succ, List.set_cons_zero])) | ((with_reducible apply quiet_ranged); rfl; rfl; exact rtRoot; exact R0.out; exact rc_len _; go_big_quiet_on; (simp only [Act.put, List.setIfInBounds_toArray, List.set_cons_succ, List.set_cons_zero]))) | (go_big_quiet_op; first | go_big_quiet_on | ((with_reducible refine ⟨_, fun _ _ => rfl, ?_⟩); go_big_quiet_on))))
          refine wpQuiet_nil ?_; intro w4 hw4; have M' := M.out.below hw4.out; (clear M; have M := bx M'; clear M'); clear hw4
          clear R1 R0 HS HE
          have hc1 : ¬ c = p + 1 := by have := CAP.out; omega
          have hc2 : p + 1 < c := by have := CAP.out; omega
          have hc3 : ((p : Int) + 1) ≤ (c : Int) := by omega
          obtain ⟨m, hm⟩ : ∃ m, p + 1 + m = n := ⟨n - (p + 1), by omega⟩
          have HM := bx hm
          have hnm : n - (p + 1) = m := by omega
          go_wp2_with fail
          have HL1 : Bx ((cptR X (p + 2)).length = p + 1) := ⟨by rw [HC2.out, List.length_take]; omega⟩
          have hpn' : p + 1 < n := hpn
          clear hd hq hnm hm hpi hpn
          go_loopw [3, 5] (fun s3 s5 wr => ∃ (q kk : Nat) (Y : List Rt), q + 1 ≤ m ∧ s5 = .int .i64 ((q : Int) + 1) ∧ s3 = .int .i64 (kk : Int) ∧ kk = (cptR X (p + q + 2)).length ∧ kk ≤ p + 1 + q ∧ Y.length = n ∧ Y.take kk = cptR X (p + q + 2) ∧ (∀ j, p + 1 + q ≤ j → Y[j]? = X[j]?) ∧ MM Γ0 w0 Γ wr L (⟨.slice (some ⟨g, 0, none⟩) n c, 33, 32, n, rts Y⟩ :: R)) (fun _ s5 _ => m - (intOf s5).toNat)
          case atStart => exact ⟨0, p + 1, X, by have := HM.out; omega, rfl, by go_num, HL1.out.symm, by omega, HN.out, HC2.out.symm, fun _ _ => rfl, M.out⟩
          case round =>
            obtain ⟨q, kk, Y, hq, rfl, rfl, hkk, hkq, hYn, hYt, hYr, hM⟩ := hrel
            clear M
            have M := bx hM
            have HYT := bx hYt
            have HYR := bx hYr
            have HKK := bx hkk
            have HYN := bx hYn
            have HMn := HM.out
            clear hM hYt hYr hkk
            by_cases hqm : q + 1 < m
            · have hqi : (q : Int) + 1 < (m : Int) := by omega
              have hq0 : (0 : Int) ≤ (q : Int) := by omega
              have hk0 : (0 : Int) ≤ (kk : Int) := by omega
              have hkn : (kk : Int) < (n : Int) := by omega
              have hl1 : p + 1 + (q + 1) < Y.length := by omega
              have hl0 : p + 1 + q < Y.length := by omega
              have hkl : kk < Y.length := by omega
              have R1 : Bx (∀ w', Cls wr.heap.size wr w' → w'.rangeAt g ((p + 1) * 32 + (q + 1) * 32) (rc Y[p + 1 + (q + 1)])) := ⟨by rw [← Nat.add_mul]; exact M.out.rootAt _ hl1⟩
              have R0 : Bx (∀ w', Cls wr.heap.size wr w' → w'.rangeAt g ((p + 1) * 32 + q * 32) (rc Y[p + 1 + q])) := ⟨by rw [← Nat.add_mul]; exact M.out.rootAt _ hl0⟩
              have HS := bx (rt_same Y[p + 1 + (q + 1)] Y[p + 1 + q])
              have HX1 : Bx (X[p + q + 2]? = some Y[p + 1 + (q + 1)]) := ⟨by rw [show p + q + 2 = p + 1 + (q + 1) by omega, ← HYR.out _ (by omega)]; exact List.getElem?_eq_getElem hl1⟩
              have HX0 : Bx (X[p + q + 2 - 1]? = some Y[p + 1 + q]) := ⟨by rw [show p + q + 2 - 1 = p + 1 + q by omega, ← HYR.out _ (by omega)]; exact List.getElem?_eq_getElem hl0⟩
              have CE : Bx (Y[p + 1 + (q + 1)] = Y[p + 1 + q] → cptR X (p + q + 3) = cptR X (p + q + 2)) := ⟨fun e => by
                show (if 0 < p + q + 2 ∧ X[p + q + 2]? = X[p + q + 2 - 1]? then _ else _) = _
                rw [if_pos ⟨by omega, by rw [HX1.out, HX0.out, e]⟩]⟩
              have CN : Bx (Y[p + 1 + (q + 1)] ≠ Y[p + 1 + q] → cptR X (p + q + 3) = cptR X (p + q + 2) ++ [Y[p + 1 + (q + 1)]]) := ⟨fun e => by
                show (if 0 < p + q + 2 ∧ X[p + q + 2]? = X[p + q + 2 - 1]? then _ else cptR X (p + q + 2) ++ (X[p + q + 2]?).toList) = _
                rw [if_neg (fun h => e (by have h2 := h.2; rw [HX1.out, HX0.out] at h2; exact Option.some.inj h2)), HX1.out]; rfl⟩
              have YS := bx (fun (x : Rt) => show (Y.set kk x).take (kk + 1) = Y.take kk ++ [x] by
                rw [List.take_succ_eq_append_getElem (by rw [List.length_set]; exact hkl), List.take_set_of_le (Nat.le_refl _), List.getElem_set_self])
              have YR := bx (fun (x : Rt) (j : Nat) (hj : p + 1 + (q + 1) ≤ j) => show (Y.set kk x)[j]? = X[j]? by
                rw [List.getElem?_set_ne (by omega)]; exact HYR.out j (by omega))
              clear HX1 HX0
              generalize Y[p + 1 + (q + 1)] = x1 at *
              generalize Y[p + 1 + q] = x0 at *
              by_cases he : x1 = x0
              · have hqq := HS.out
                rw [decide_eq_true he] at hqq
                have CE' := bx (CE.out he)
                clear he CE CN HS
                go_wp2_with fail
                refine region_cls wr.heap.size (by kernel_rfl) (by kernel_rfl) ?_
                repeat (first | go_big_quiet_skip | (go_big_quiet_want; first | (first | ((with_reducible apply quiet_ranged); rfl; rfl; exact rtRoot; exact R1.out; exact rc_len _; go_big_quiet_on; (simp only [Act.put, List.setIfInBounds_toArray, List.set_cons_succ, List.set_cons_zero])) | ((with_reducible apply quiet_ranged); rfl; rfl; exact rtRoot; exact R0.out; exact rc_len _; go_big_quiet_on; (simp only [Act.put, List.setIfInBounds_toArray, List.set_cons_succ, List.set_cons_zero]))) | (go_big_quiet_op; first | go_big_quiet_on | ((with_reducible refine ⟨_, fun _ _ => rfl, ?_⟩); go_big_quiet_on))))
                refine wpQuiet_nil ?_; intro w4 hw4; have M' := M.out.below hw4.out; (clear M; have M := bx M'; clear M'); clear hw4
                go_wp2_with fail
                go_roundw
                case rel => exact ⟨q + 1, kk, Y, by omega, by go_num, rfl, by rw [show p + (q + 1) + 2 = p + q + 3 by omega, CE'.out]; exact HKK.out, by omega, HYN.out, by rw [show p + (q + 1) + 2 = p + q + 3 by omega, CE'.out]; exact HYT.out, fun j hj => HYR.out j (by omega), M.out⟩
                case measure => simp [intOf]; omega
              · have hqq := HS.out
                rw [decide_eq_false he] at hqq
                have CN' := bx (CN.out he)
                clear he CE CN HS
                go_wp2_with fail
                refine region_cls wr.heap.size (by kernel_rfl) (by kernel_rfl) ?_
                repeat (first | go_big_quiet_skip | (go_big_quiet_want; first | (first | ((with_reducible apply quiet_ranged); rfl; rfl; exact rtRoot; exact R1.out; exact rc_len _; go_big_quiet_on; (simp only [Act.put, List.setIfInBounds_toArray, List.set_cons_succ, List.set_cons_zero])) | ((with_reducible apply quiet_ranged); rfl; rfl; exact rtRoot; exact R0.out; exact rc_len _; go_big_quiet_on; (simp only [Act.put, List.setIfInBounds_toArray, List.set_cons_succ, List.set_cons_zero]))) | (go_big_quiet_op; first | go_big_quiet_on | ((with_reducible refine ⟨_, fun _ _ => rfl, ?_⟩); go_big_quiet_on))))
                refine wpQuiet_nil ?_
                intro w4 hw4
                have R2 : Bx (w4.rangeAt g ((p + 1) * 32 + (q + 1) * 32) (rc x1)) := ⟨R1.out w4 hw4⟩
                have M' := M.out.below hw4.out
                (clear M; have M := bx M'; clear M')
                clear hw4 R1 R0
                go_wp2_with (first | (with_reducible refine wpList_ranged rfl rfl rfl rtRoot ⟨R2.out, rc_len _⟩ ?_) | ((with_reducible apply wpList_stE M.out (fun x _ => rc_len x) kk hkl x1 (rc_len x1) (rc_one x1)); rfl; rfl; rfl; rfl; exact rtRoot; intro w' M'; (clear M; have M := bx M'; clear M')))
                go_roundw
                case rel => exact ⟨q + 1, kk + 1, Y.set kk x1, by omega, by go_num, by go_num, by rw [show p + (q + 1) + 2 = p + q + 3 by omega, CN'.out, List.length_append, ← HKK.out]; rfl, by omega, by rw [List.length_set]; exact HYN.out, by rw [show p + (q + 1) + 2 = p + q + 3 by omega, CN'.out, YS.out, HYT.out], fun j hj => YR.out x1 j (by omega), M.out⟩
                case measure => simp [intOf]; omega
            · obtain rfl : q + 1 = m := by omega
              have hk0 : (0 : Int) ≤ (kk : Int) := by omega
              have hkn : (kk : Int) ≤ (n : Int) := by omega
              have hk1 : ¬ c = kk := by have := CAP.out; omega
              have hk2 : kk < c := by have := CAP.out; omega
              have hk3 : (kk : Int) ≤ (c : Int) := by omega
              obtain ⟨t, ht⟩ : ∃ t, kk + t = n := ⟨n - kk, by omega⟩
              have ht0 : 0 < t := by omega
              have htn : n - kk = t := by omega
              have HE : Bx (p + q + 2 = n) := ⟨by omega⟩
              rw [HE.out] at HKK HYT
              have HT := bx ht
              obtain ⟨w9, hclr, hM9⟩ := clear_roots M.out HYN.out HT.out ht0 0 (c - kk)
              have M9 := bx hM9
              clear hM9
              go_wp2_with fail
              go_ret
              exact ⟨Y.take kk ++ List.replicate t r0, by rw [← HKK.out]; rfl, M9.out, by rw [← HKK.out, List.take_left' (by rw [List.length_take, HYN.out]; omega)]; exact HYT.out⟩
        | false =>
          have R1 := bx (M.out.rootAt (p + 1) hl1)
          have R0 := bx (M.out.rootAt p hl0)
          have hq := HS.out
          go_wp2_with fail
          refine region_cls wr.heap.size (by kernel_rfl) (by kernel_rfl) ?_
          repeat (first | go_big_quiet_skip | (go_big_quiet_want; first | (first | ((with_reducible apply quiet_ranged); rfl; rfl; exact rtRoot; exact R1.out; exact rc_len _; go_big_quiet_on; (simp only [Act.put, List.setIfInBounds_toArray, List.set_cons_succ, List.set_cons_zero])) | ((with_reducible apply quiet_ranged); rfl; rfl; exact rtRoot; exact R0.out; exact rc_len _; go_big_quiet_on; (simp only [Act.put, List.setIfInBounds_toArray, List.set_cons_succ, List.set_cons_zero]))) | (go_big_quiet_op; first | go_big_quiet_on | ((with_reducible refine ⟨_, fun _ _ => rfl, ?_⟩); go_big_quiet_on))))
          refine wpQuiet_nil ?_; intro w4 hw4; have M' := M.out.below hw4.out; (clear M; have M := bx M'; clear M'); clear hw4
          clear R1 R0 HS
          go_wp2_with fail
          go_roundw
          case rel => exact ⟨p + 1, by omega, by go_num, fun j h0 h1 => by
            rcases Nat.lt_or_eq_of_le (Nat.le_of_lt_succ h1) with h | h
            · exact HNO.out j h0 h
            · subst h; exact of_decide_eq_false HE.out.symm, M.out⟩
          case measure => simp [intOf]; omega
      · obtain rfl : p + 1 = n := by omega
        have HC : Bx (cptR X (p + 1) = X) := ⟨by rw [cptR_all X (p + 1) (by omega) HNO.out, List.take_of_length_le (by omega)]⟩
        go_wp2_with fail
        go_ret
        exact ⟨X, by rw [HC.out, HN.out]; rfl, M.out, by rw [HC.out]; exact List.take_length ..⟩
end Go.Proofs.Ytekikfdlnkcenaa
