/- Roots: slices.Index, slices.Contains, slices.MaxFunc; Contains of the reference. -/
import Derived.Test.YtekikfdlnkcenaaRsL
import Derived.Test.YtekikfdlnkcenaaMmE
import Derived.Test.YtekikfdlnkcenaaTbF
namespace Go.Proofs.Ytekikfdlnkcenaa
open Go.RowKit Go.Sort
/-- the roots of a slice, wherever it lies -/
def RtRow (w : World) (A : Option Addr) (n : Nat) (X : List Rt) : Prop := X.length = n ∧ Row w w.heap.size 32 A n (X.flatMap rc)
theorem RtRow.below {w w' : World} {A : Option Addr} {n : Nat} {X : List Rt} (h : RtRow w A n X) (hb : Below w.heap.size w w') : RtRow w' A n X := ⟨h.1, (h.2.below hb).more hb.size⟩
theorem RtRow.at {w : World} {A : Option Addr} {n : Nat} {X : List Rt} (h : RtRow w A n X) (i : Nat) (hi : i < X.length) : ∃ ad : Addr, A = some ad ∧ ∀ w', Cls w.heap.size w w' → ∀ j u, (rc X[i])[j]? = some u → w'.cell? ((ad.add (i * 32)).add j) = some u := by
  obtain ⟨ad, e, hb, hc⟩ := h.2.elem (f := rc) (fun x _ => rc_len x) (by decide) i hi
  refine ⟨ad, e, fun w' hw j u hu => ?_⟩
  rw [hw.out.cell (by rw [add_block, add_block]; exact hb)]
  exact hc j u hu
theorem quiet_ldA {C : World → Prop} {K : Act → Prop} {op : Oper} {a : Act} {x : Operand} {ad : Addr} {r : Rt} (ho : op.op = .load 33 x) (hx : a.eval x = .pointer (some ad)) (hr : ∀ w', C w' → ∀ j u, (rc r)[j]? = some u → w'.cell? (ad.add j) = some u)
    (h : K (a.put op.dst (.agg (rc r).toArray))) : op.quiet Try.prog a C K := by
  refine ⟨_, fun w hw => ?_, h⟩
  have := run_ldA (P := Try.prog) w ad 33 (rc r) _ (hr w hw) Try.underlying33 rfl (info_size Try.underlying33 (cells_rt r))
  unfold Oper.quietAt execOp
  simp only [ho, hx, Instr.loadAt, Instr.sureAddr, Sem.run_bind, Sem.run_pure, Result.andThen_ok, this]
  exact ⟨rfl, rfl⟩
theorem wpList_ldAr {w : World} {ops : Array Oper} {rest : List Oper} {op : Oper} {a : Act} {Q : Exit → Act → World → Prop} {x : Operand} {ad : Addr} {r : Rt} (hr : ∀ j u, (rc r)[j]? = some u → w.cell? (ad.add j) = some u) (ho : op.op = .load 33 x) (hgd : Region.wanted op (yielded ops a.tmps) = true) (hx : a.eval x = .pointer (some ad))
    (h : wpList Try.prog ops Q rest (a.put op.dst (.agg (rc r).toArray)) w) : wpList Try.prog ops Q (op :: rest) a w :=
  wpList_go hgd fun K hK => by
    have := run_ldA (P := Try.prog) w ad 33 (rc r) _ hr Try.underlying33 rfl (info_size Try.underlying33 (cells_rt r))
    unfold Oper.wp execOp
    simp only [ho, hx, Instr.loadAt, Instr.sureAddr, Sem.run_bind, Sem.run_pure, Result.andThen_ok, this, Oper.upon]
    exact hK _ _ h
theorem ztRt : ZeroT Try.prog 33 [rc r0] [32] := ⟨fun w => by have := zero_rt w; simpa [fl] using this, by simp [rc_len]⟩
theorem and_find {X : List Rt} {p : Rt → Bool} : (0 ≤ idxI p X) ↔ ∃ x ∈ X, p x = true := by
  rcases idxI_cases p X with ⟨h1, h2⟩ | ⟨k, hk, h1, h2, _⟩
  · rw [h1]
    exact ⟨fun h => by omega, fun ⟨x, hx, hp⟩ => by rw [h2 x hx] at hp; cases hp⟩
  · rw [h1]
    exact ⟨fun _ => ⟨_, List.getElem_mem hk, h2⟩, fun _ => Int.natCast_nonneg k⟩
set_option maxRecDepth 20000 in
set_option maxHeartbeats 1000000 in
theorem indexR_any (A : Option Addr) (n c : Nat) (X : List Rt) (r : Rt) (hn5 : n ≤ 65535) (w : World) (h : RtRow w A n X) :
    Calls Try.prog 88 #[.slice A n c, .agg (rc r).toArray] w fun e w' => e = .returned (.int .i64 (idxI (fun x => decide (r = x)) X)) ∧ Below w.heap.size w w' := by
  have M := bx (MM.start (ok_g0 w))
  have HR := bx h
  have LN := bx h.1
  clear h
  change Calls Try.prog _ #[_, .agg (fl [rc r]).toArray] _ _
  go_enter Try.func88, Try.ntmps88
  go_wp2_with ((with_reducible apply wpList_box M.out); rfl; rfl; rfl; exact lenR r; intro w' g M' hb'; (clear M; have M := bx M'; clear M'); clear hb')
  go_loopw [8] (fun i wr => ∃ k : Nat, k ≤ n ∧ i = .int .i64 k ∧ (∀ j (hj : j < X.length), j < k → decide (r = X[j]) = false) ∧ MM g0 w g0 wr [⟨g, [rc r], [32]⟩] []) (fun i _ => n - (intOf i).toNat)
  case atStart => exact ⟨0, Nat.zero_le _, rfl, fun j _ hj => absurd hj (Nat.not_lt_zero _), M.out⟩
  case round =>
    obtain ⟨k, hk, rfl, hno, hM⟩ := hrel
    clear M
    have M := bx hM
    have HNO := bx hno
    clear hM hno
    by_cases hkn : k < n
    · have hkl : k < X.length := by rw [LN.out]; exact hkn
      obtain ⟨ad, rfl, hc⟩ := (HR.out.below M.out.ext.bel).at k hkl
      have QC := bx hc
      have QM := bx M.out.at0.cls
      have HS := bx (rt_same r X[k])
      have FND := bx (fun e => idxI_some (p := fun x => decide (r = x)) hkl (fun j hj => HNO.out j (Nat.lt_trans hj hkl) hj) e)
      have NXT := bx (fun (e : decide (r = X[k]) = false) j (hj : j < X.length) (hjk : j < k + 1) => (Nat.lt_or_eq_of_le (Nat.le_of_lt_succ hjk)).elim (HNO.out j hj) (fun h => by subst h; exact e))
      have hki : (k : Int) < (n : Int) := by omega
      have hk0 : 0 ≤ (k : Int) := by omega
      clear hc
      generalize X[k] = y at *
      have hq := HS.out
      cases he : decide (r = y) with
      | true =>
        rw [he] at hq
        have HE := bx he
        clear he
        go_wp2_with fail
        refine region_cls wr.heap.size (by kernel_rfl) (by kernel_rfl) ?_
        repeat (first | go_big_quiet_skip | (go_big_quiet_want; first | (first | ((with_reducible apply quiet_ldp QM.out (lenR _)); rfl; rfl; (first | exact rtRoot | exact rtCk | exact rtTb); rfl; rfl; go_big_quiet_on; (simp only [Act.put, List.setIfInBounds_toArray, List.set_cons_succ, List.set_cons_zero])) | ((with_reducible apply quiet_ld1 QM.out); rfl; rfl; (first | exact otInt | exact otU64 | exact otU64s); rfl; rfl; go_big_quiet_on; (simp only [Act.put, List.setIfInBounds_toArray, List.set_cons_succ, List.set_cons_zero])) | ((with_reducible apply quiet_lds QM.out (lenR _)); rfl; rfl; (first | exact rtRoot | exact rtCk | exact rtTb); rfl; (try simp only [Nat.reduceAdd, List.drop_zero, cut_cp, cut_tb, cut_tb_c]); go_big_quiet_on; (simp only [Act.put, List.setIfInBounds_toArray, List.set_cons_succ, List.set_cons_zero])) | ((with_reducible apply quiet_ldA); rfl; rfl; exact QC.out; go_big_quiet_on; (simp only [Act.put, List.setIfInBounds_toArray, List.set_cons_succ, List.set_cons_zero]))) | (go_big_quiet_op; first | go_big_quiet_on | ((with_reducible refine ⟨_, fun _ _ => rfl, ?_⟩); go_big_quiet_on))))
        refine wpQuiet_nil ?_; intro w4 hw4; have M' := M.out.below hw4.out; (clear M; have M := bx M'; clear M'); clear hw4
        go_wp2_with fail
        go_ret
        exact ⟨by rw [FND.out HE.out]; rfl, M.out.ext.bel⟩
      | false =>
        rw [he] at hq
        have HE := bx he
        clear he
        go_wp2_with fail
        refine region_cls wr.heap.size (by kernel_rfl) (by kernel_rfl) ?_
        repeat (first | go_big_quiet_skip | (go_big_quiet_want; first | (first | ((with_reducible apply quiet_ldp QM.out (lenR _)); rfl; rfl; (first | exact rtRoot | exact rtCk | exact rtTb); rfl; rfl; go_big_quiet_on; (simp only [Act.put, List.setIfInBounds_toArray, List.set_cons_succ, List.set_cons_zero])) | ((with_reducible apply quiet_ld1 QM.out); rfl; rfl; (first | exact otInt | exact otU64 | exact otU64s); rfl; rfl; go_big_quiet_on; (simp only [Act.put, List.setIfInBounds_toArray, List.set_cons_succ, List.set_cons_zero])) | ((with_reducible apply quiet_lds QM.out (lenR _)); rfl; rfl; (first | exact rtRoot | exact rtCk | exact rtTb); rfl; (try simp only [Nat.reduceAdd, List.drop_zero, cut_cp, cut_tb, cut_tb_c]); go_big_quiet_on; (simp only [Act.put, List.setIfInBounds_toArray, List.set_cons_succ, List.set_cons_zero])) | ((with_reducible apply quiet_ldA); rfl; rfl; exact QC.out; go_big_quiet_on; (simp only [Act.put, List.setIfInBounds_toArray, List.set_cons_succ, List.set_cons_zero]))) | (go_big_quiet_op; first | go_big_quiet_on | ((with_reducible refine ⟨_, fun _ _ => rfl, ?_⟩); go_big_quiet_on))))
        refine wpQuiet_nil ?_; intro w4 hw4; have M' := M.out.below hw4.out; (clear M; have M := bx M'; clear M'); clear hw4
        go_wp2_with fail
        go_roundw
        case rel => exact ⟨k + 1, by omega, by go_num, NXT.out HE.out, M.out⟩
        case measure => simp [intOf]; omega
    · obtain rfl : k = n := by omega
      have HRs := bx (idxI_none (p := fun x => decide (r = x)) (fun j hj => HNO.out j hj (by rw [← LN.out]; exact hj)))
      go_wp2_with fail
      go_ret
      exact ⟨by rw [HRs.out]; rfl, M.out.ext.bel⟩
theorem has_dec {X : List Rt} {r : Rt} : decide ((0 : Int) ≤ idxI (fun x => decide (r = x)) X) = decide (r ∈ X) := by
  rw [decide_eq_decide, and_find]
  exact ⟨fun ⟨x, hx, h⟩ => by have := of_decide_eq_true h; subst this; exact hx, fun h => ⟨r, h, decide_eq_true rfl⟩⟩
set_option maxRecDepth 20000 in
set_option maxHeartbeats 1000000 in
theorem slContainsR_any (A : Option Addr) (n c : Nat) (X : List Rt) (r : Rt) (hn5 : n ≤ 65535) (w : World) (h : RtRow w A n X) :
    Calls Try.prog 53 #[.slice A n c, .agg (rc r).toArray] w fun e w' => e = .returned (.bool (decide (r ∈ X))) ∧ Below w.heap.size w w' := by
  have M := bx (MM.start (ok_g0 w))
  have HR := bx h
  clear h
  rw [← has_dec]
  change Calls Try.prog _ #[_, .agg (fl [rc r]).toArray] _ _
  go_enter Try.func53, Try.ntmps53
  go_wp2_with (first | ((with_reducible apply wpList_box M.out); rfl; rfl; rfl; exact lenR r; intro w' g M' hb'; (clear M; have M := bx M'; clear M'); clear hb') | ((with_reducible apply wpList_ldp M.out.at0); rfl; rfl; rfl; (first | exact rtRoot | exact rtCk | exact rtTb); rfl; rfl) | ((with_reducible apply wpList_ld1 M.out.at0); rfl; rfl; rfl; (first | exact otInt | exact otU64 | exact otU64s); rfl; rfl) | ((with_reducible apply wpList_lds M.out.at0); rfl; rfl; rfl; (first | exact rtRoot | exact rtCk | exact rtTb); rfl; (try simp only [Nat.reduceAdd, List.drop_zero, cut_cp, cut_tb, cut_tb_c])))
  refine (indexR_any A n c X r hn5 _ (HR.out.below M.out.ext.bel)).mono ?_; rintro e w1 ⟨rfl, hb⟩
  have M' := M.out.below hb
  (clear M; have M := bx M'; clear M')
  clear hb
  obtain ⟨v, hv0⟩ : ∃ v, idxI (fun x => decide (r = x)) X = v := ⟨_, rfl⟩
  have LV := bx hv0
  rw [hv0]
  clear hv0
  by_cases hv : 0 ≤ v
  · go_wp2_with fail
    go_ret
    exact ⟨by rw [LV.out]; simp [hv], M.out.ext.bel⟩
  · go_wp2_with fail
    go_ret
    exact ⟨by rw [LV.out]; simp [hv], M.out.ext.bel⟩
set_option maxRecDepth 20000 in
set_option maxHeartbeats 1000000 in
theorem containsR_any (A : Option Addr) (n c : Nat) (X : List Rt) (r : Rt) (hn5 : n ≤ 65535) (w : World) (h : RtRow w A n X) :
    Calls Try.prog 19 #[.slice A n c, .agg (rc r).toArray] w fun e w' => e = .returned (.bool (decide (r ∈ X))) ∧ Below w.heap.size w w' := by
  have M := bx (MM.start (ok_g0 w))
  have HR := bx h
  clear h
  change Calls Try.prog _ #[_, .agg (fl [rc r]).toArray] _ _
  go_enter Try.func19, Try.ntmps19
  go_wp2_with (first | ((with_reducible apply wpList_box M.out); rfl; rfl; rfl; exact lenR r; intro w' g M' hb'; (clear M; have M := bx M'; clear M'); clear hb') | ((with_reducible apply wpList_ldp M.out.at0); rfl; rfl; rfl; (first | exact rtRoot | exact rtCk | exact rtTb); rfl; rfl) | ((with_reducible apply wpList_ld1 M.out.at0); rfl; rfl; rfl; (first | exact otInt | exact otU64 | exact otU64s); rfl; rfl) | ((with_reducible apply wpList_lds M.out.at0); rfl; rfl; rfl; (first | exact rtRoot | exact rtCk | exact rtTb); rfl; (try simp only [Nat.reduceAdd, List.drop_zero, cut_cp, cut_tb, cut_tb_c])))
  refine (slContainsR_any A n c X r hn5 _ (HR.out.below M.out.ext.bel)).mono ?_; rintro e w1 ⟨rfl, hb⟩
  have M' := M.out.below hb
  (clear M; have M := bx M'; clear M')
  clear hb
  go_wp2_with fail
  go_ret
  exact ⟨rfl, M.out.ext.bel⟩
set_option maxRecDepth 20000 in
set_option maxHeartbeats 1000000 in
theorem refContainsR_any (A : Option Addr) (n c : Nat) (X : List Rt) (r : Rt) (hn5 : n ≤ 65535) (w : World) (h : RtRow w A n X) :
    Calls Try.prog 21 #[.slice A n c, .agg (rc r).toArray] w fun e w' => e = .returned (.bool (decide (r ∈ X))) ∧ Below w.heap.size w w' := by
  have M := bx (MM.start (ok_g0 w))
  have HR := bx h
  have LN := bx h.1
  clear h
  change Calls Try.prog _ #[_, .agg (fl [rc r]).toArray] _ _
  go_enter Try.func21, Try.ntmps21
  go_wp2_with ((with_reducible apply wpList_box M.out); rfl; rfl; rfl; exact lenR r; intro w' g M' hb'; (clear M; have M := bx M'; clear M'); clear hb')
  go_loopw [5] (fun i wr => ∃ k : Nat, k ≤ n ∧ i = .int .i64 k ∧ (∀ j (hj : j < X.length), j < k → X[j] ≠ r) ∧ MM g0 w g0 wr [⟨g, [rc r], [32]⟩] []) (fun i _ => n - (intOf i).toNat)
  case atStart => exact ⟨0, Nat.zero_le _, rfl, fun j _ hj => absurd hj (Nat.not_lt_zero _), M.out⟩
  case round =>
    obtain ⟨k, hk, rfl, hno, hM⟩ := hrel
    clear M
    have M := bx hM
    have HNO := bx hno
    clear hM hno
    by_cases hkn : k < n
    · have hkl : k < X.length := by rw [LN.out]; exact hkn
      obtain ⟨ad, rfl, hc⟩ := (HR.out.below M.out.ext.bel).at k hkl
      have QC := bx hc
      have QM := bx M.out.at0.cls
      have HS := bx (rt_same X[k] r)
      have FND := bx (fun (e : X[k] = r) => show decide (r ∈ X) = true from decide_eq_true (e ▸ List.getElem_mem hkl))
      have NXT := bx (fun (e : X[k] ≠ r) j (hj : j < X.length) (hjk : j < k + 1) => (Nat.lt_or_eq_of_le (Nat.le_of_lt_succ hjk)).elim (HNO.out j hj) (fun h => by subst h; exact e))
      have hki : (k : Int) < (n : Int) := by omega
      have hk0 : 0 ≤ (k : Int) := by omega
      clear hc
      generalize X[k] = y at *
      have hq := HS.out
      by_cases he : y = r
      · rw [decide_eq_true he] at hq
        have HE := bx he
        clear he
        go_wp2_with fail
        refine region_cls wr.heap.size (by kernel_rfl) (by kernel_rfl) ?_
        repeat (first | go_big_quiet_skip | (go_big_quiet_want; first | (first | ((with_reducible apply quiet_ldp QM.out (lenR _)); rfl; rfl; (first | exact rtRoot | exact rtCk | exact rtTb); rfl; rfl; go_big_quiet_on; (simp only [Act.put, List.setIfInBounds_toArray, List.set_cons_succ, List.set_cons_zero])) | ((with_reducible apply quiet_ld1 QM.out); rfl; rfl; (first | exact otInt | exact otU64 | exact otU64s); rfl; rfl; go_big_quiet_on; (simp only [Act.put, List.setIfInBounds_toArray, List.set_cons_succ, List.set_cons_zero])) | ((with_reducible apply quiet_lds QM.out (lenR _)); rfl; rfl; (first | exact rtRoot | exact rtCk | exact rtTb); rfl; (try simp only [Nat.reduceAdd, List.drop_zero, cut_cp, cut_tb, cut_tb_c]); go_big_quiet_on; (simp only [Act.put, List.setIfInBounds_toArray, List.set_cons_succ, List.set_cons_zero])) | ((with_reducible apply quiet_ldA); rfl; rfl; exact QC.out; go_big_quiet_on; (simp only [Act.put, List.setIfInBounds_toArray, List.set_cons_succ, List.set_cons_zero]))) | (go_big_quiet_op; first | go_big_quiet_on | ((with_reducible refine ⟨_, fun _ _ => rfl, ?_⟩); go_big_quiet_on))))
        refine wpQuiet_nil ?_; intro w4 hw4; have M' := M.out.below hw4.out; (clear M; have M := bx M'; clear M'); clear hw4
        go_wp2_with fail
        go_ret
        exact ⟨by rw [FND.out HE.out]; rfl, M.out.ext.bel⟩
      · rw [decide_eq_false he] at hq
        have HE := bx he
        clear he
        go_wp2_with fail
        refine region_cls wr.heap.size (by kernel_rfl) (by kernel_rfl) ?_
        repeat (first | go_big_quiet_skip | (go_big_quiet_want; first | (first | ((with_reducible apply quiet_ldp QM.out (lenR _)); rfl; rfl; (first | exact rtRoot | exact rtCk | exact rtTb); rfl; rfl; go_big_quiet_on; (simp only [Act.put, List.setIfInBounds_toArray, List.set_cons_succ, List.set_cons_zero])) | ((with_reducible apply quiet_ld1 QM.out); rfl; rfl; (first | exact otInt | exact otU64 | exact otU64s); rfl; rfl; go_big_quiet_on; (simp only [Act.put, List.setIfInBounds_toArray, List.set_cons_succ, List.set_cons_zero])) | ((with_reducible apply quiet_lds QM.out (lenR _)); rfl; rfl; (first | exact rtRoot | exact rtCk | exact rtTb); rfl; (try simp only [Nat.reduceAdd, List.drop_zero, cut_cp, cut_tb, cut_tb_c]); go_big_quiet_on; (simp only [Act.put, List.setIfInBounds_toArray, List.set_cons_succ, List.set_cons_zero])) | ((with_reducible apply quiet_ldA); rfl; rfl; exact QC.out; go_big_quiet_on; (simp only [Act.put, List.setIfInBounds_toArray, List.set_cons_succ, List.set_cons_zero]))) | (go_big_quiet_op; first | go_big_quiet_on | ((with_reducible refine ⟨_, fun _ _ => rfl, ?_⟩); go_big_quiet_on))))
        refine wpQuiet_nil ?_; intro w4 hw4; have M' := M.out.below hw4.out; (clear M; have M := bx M'; clear M'); clear hw4
        go_wp2_with fail
        go_roundw
        case rel => exact ⟨k + 1, by omega, by go_num, NXT.out HE.out, M.out⟩
        case measure => simp [intOf]; omega
    · obtain rfl : k = n := by omega
      have HRs : Bx (decide (r ∈ X) = false) := ⟨decide_eq_false (fun h => by
        obtain ⟨j, hj, e⟩ := List.getElem_of_mem h
        exact HNO.out j hj (by rw [← LN.out]; exact hj) e)⟩
      go_wp2_with fail
      go_ret
      exact ⟨by rw [HRs.out]; rfl, M.out.ext.bel⟩
end Go.Proofs.Ytekikfdlnkcenaa
