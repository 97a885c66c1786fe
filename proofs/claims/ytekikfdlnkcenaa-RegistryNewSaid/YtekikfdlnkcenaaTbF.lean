/- FindTable of the reference, walked. -/
import Derived.Test.YtekikfdlnkcenaaTyA
namespace Go.Proofs.Ytekikfdlnkcenaa
open Go.RowKit
/-- the first place at which something holds, from place k on; -1 if there is none -/
def idxI {α : Type} (p : α → Bool) (T : List α) : Int := match T.findIdx? p with | some i => (i : Int) | none => -1
theorem idxI_none {α : Type} {p : α → Bool} {T : List α} (h : ∀ j (hj : j < T.length), p T[j] = false) : idxI p T = -1 := by
  have : T.findIdx? p = none := List.findIdx?_eq_none_iff.2 fun x hx => by
    obtain ⟨j, hj, rfl⟩ := List.getElem_of_mem hx
    exact h j hj
  unfold idxI; rw [this]
theorem idxI_some {α : Type} {p : α → Bool} {T : List α} {k : Nat} (hk : k < T.length) (h : ∀ j (hj : j < k), p (T[j]'(by omega)) = false) (hp : p T[k] = true) : idxI p T = (k : Int) := by
  have : T.findIdx? p = some k := List.findIdx?_eq_some_iff_getElem.2 ⟨hk, hp, fun j hj => by rw [h j hj]; simp⟩
  unfold idxI; rw [this]
theorem idxI_cases {α : Type} (p : α → Bool) (T : List α) : (idxI p T = -1 ∧ ∀ x ∈ T, p x = false) ∨ ∃ k, ∃ hk : k < T.length, idxI p T = (k : Int) ∧ p T[k] = true ∧ ∀ j (hj : j < k), p (T[j]'(by omega)) = false := by
  unfold idxI
  cases h : T.findIdx? p with
  | none => exact .inl ⟨rfl, fun x hx => (List.findIdx?_eq_none_iff.1 h) x hx⟩
  | some k =>
    obtain ⟨hk, h1, h2⟩ := List.findIdx?_eq_some_iff_getElem.1 h
    exact .inr ⟨k, hk, rfl, h1, fun j hj => by simpa using h2 j hj⟩
set_option maxRecDepth 20000 in
set_option maxHeartbeats 1000000 in
theorem findTable_any (Γ : Gam) (A : Option Addr) (n c : Nat) (T : List Tbl) (x : Cp) (hn : n ≤ 65535) (w : World) (ok : Ok Γ w) (h : TsG Γ A n T) :
    Calls Try.prog 37 #[.slice A n c, .agg (fl (cpP x)).toArray] w fun e w' => e = .returned (.int .i64 (idxI (fun t => decide (t.c = x)) T)) ∧ Ext Γ w Γ w' := by
  have M := bx (MM.start ok)
  have HT := bx h
  have LN := bx h.1
  clear h ok
  go_enter Try.func37, Try.ntmps37
  go_wp2_with ((with_reducible apply wpList_box M.out); rfl; rfl; rfl; exact cpP_len x; intro w' g M' hb'; (clear M; have M := bx M'; clear M'); clear hb')
  go_loopw [5] (fun i wr => ∃ k : Nat, k ≤ n ∧ i = .int .i64 k ∧ (∀ j (hj : j < T.length), j < k → decide (T[j].c = x) = false) ∧ MM Γ w Γ wr [⟨g, cpP x, [1, 32]⟩] []) (fun i _ => n - (intOf i).toNat)
  case atStart => exact ⟨0, Nat.zero_le _, rfl, fun j _ hj => absurd hj (Nat.not_lt_zero _), M.out⟩
  case round =>
    obtain ⟨k, hk, rfl, hno, hM⟩ := hrel
    clear M
    have M := bx hM
    have HNO := bx hno
    clear hM hno
    by_cases hkn : k < n
    · have hkl : k < T.length := by rw [LN.out]; exact hkn
      obtain ⟨gt, s, rfl, hst, hc⟩ := HT.out.at k hkn
      have QM := bx M.out.at0.cls
      have QC := bx (CL.cls hc (tbP_len _ _) M.out.ext.ok)
      have HS := bx (cp_same T[k].c x)
      have FND := bx (fun e => idxI_some (p := fun t => decide (t.c = x)) hkl (fun j hj => HNO.out j (Nat.lt_trans hj hkl) hj) e)
      have NXT := bx (fun (e : decide (T[k].c = x) = false) j (hj : j < T.length) (hjk : j < k + 1) => (Nat.lt_or_eq_of_le (Nat.le_of_lt_succ hjk)).elim (HNO.out j hj) (fun h => by subst h; exact e))
      have hki : (k : Int) < (n : Int) := by omega
      have hk0 : 0 ≤ (k : Int) := by omega
      generalize T[k].c = tc at *
      have hq := HS.out
      cases he : decide (tc = x) with
      | true =>
        rw [he] at hq
        have HE := bx he
        clear he
        go_wp2_with fail
        refine region_cls wr.heap.size (by kernel_rfl) (by kernel_rfl) ?_
        repeat (first | go_big_quiet_skip | (go_big_quiet_want; first | (first | ((with_reducible apply quiet_ldp QM.out (cpP_len _)); rfl; rfl; (first | exact rtRoot | exact rtCk | exact rtTb); rfl; rfl; go_big_quiet_on; (simp only [Act.put, List.setIfInBounds_toArray, List.set_cons_succ, List.set_cons_zero])) | ((with_reducible apply quiet_ld1 QM.out); rfl; rfl; (first | exact otInt | exact otU64 | exact otU64s); rfl; rfl; go_big_quiet_on; (simp only [Act.put, List.setIfInBounds_toArray, List.set_cons_succ, List.set_cons_zero])) | ((with_reducible apply quiet_lds QM.out (cpP_len _)); rfl; rfl; (first | exact rtRoot | exact rtCk | exact rtTb); rfl; (try simp only [Nat.reduceAdd, List.drop_zero, cut_cp, cut_tb, cut_tb_c]); go_big_quiet_on; (simp only [Act.put, List.setIfInBounds_toArray, List.set_cons_succ, List.set_cons_zero])) | ((with_reducible apply quiet_rdp QC.out (tbP_len _ _)); rfl; rfl; (first | exact rtRoot | exact rtCk | exact rtTb); rfl; rfl; go_big_quiet_on; (simp only [Act.put, List.setIfInBounds_toArray, List.set_cons_succ, List.set_cons_zero])) | ((with_reducible apply quiet_rd1 QC.out); rfl; rfl; (first | exact otInt | exact otU64 | exact otU64s); rfl; rfl; go_big_quiet_on; (simp only [Act.put, List.setIfInBounds_toArray, List.set_cons_succ, List.set_cons_zero])) | ((with_reducible apply quiet_rds QC.out (tbP_len _ _)); rfl; rfl; (first | exact rtRoot | exact rtCk | exact rtTb); rfl; (try simp only [Nat.reduceAdd, List.drop_zero, cut_cp, cut_tb, cut_tb_c]); go_big_quiet_on; (simp only [Act.put, List.setIfInBounds_toArray, List.set_cons_succ, List.set_cons_zero])) | ((with_reducible apply quiet_rdp0 QC.out (tbP_len _ _)); rfl; rfl; (first | exact rtRoot | exact rtCk | exact rtTb); rfl; rfl; go_big_quiet_on; (simp only [Act.put, List.setIfInBounds_toArray, List.set_cons_succ, List.set_cons_zero])) | ((with_reducible apply quiet_rd10 QC.out); rfl; rfl; (first | exact otInt | exact otU64 | exact otU64s); rfl; rfl; go_big_quiet_on; (simp only [Act.put, List.setIfInBounds_toArray, List.set_cons_succ, List.set_cons_zero])) | ((with_reducible apply quiet_rds0 QC.out (tbP_len _ _)); rfl; rfl; (first | exact rtRoot | exact rtCk | exact rtTb); rfl; (try simp only [Nat.reduceAdd, List.drop_zero, cut_cp, cut_tb, cut_tb_c]); go_big_quiet_on; (simp only [Act.put, List.setIfInBounds_toArray, List.set_cons_succ, List.set_cons_zero]))) | (go_big_quiet_op; first | go_big_quiet_on | ((with_reducible refine ⟨_, fun _ _ => rfl, ?_⟩); go_big_quiet_on))))
        refine wpQuiet_nil ?_
        intro w4 hw4
        have M4 := bx (M.out.below hw4.out)
        clear hw4
        go_wp2_with fail
        go_ret
        exact ⟨by rw [FND.out HE.out]; rfl, M4.out.ext⟩
      | false =>
        rw [he] at hq
        have HE := bx he
        clear he
        go_wp2_with fail
        refine region_cls wr.heap.size (by kernel_rfl) (by kernel_rfl) ?_
        repeat (first | go_big_quiet_skip | (go_big_quiet_want; first | (first | ((with_reducible apply quiet_ldp QM.out (cpP_len _)); rfl; rfl; (first | exact rtRoot | exact rtCk | exact rtTb); rfl; rfl; go_big_quiet_on; (simp only [Act.put, List.setIfInBounds_toArray, List.set_cons_succ, List.set_cons_zero])) | ((with_reducible apply quiet_ld1 QM.out); rfl; rfl; (first | exact otInt | exact otU64 | exact otU64s); rfl; rfl; go_big_quiet_on; (simp only [Act.put, List.setIfInBounds_toArray, List.set_cons_succ, List.set_cons_zero])) | ((with_reducible apply quiet_lds QM.out (cpP_len _)); rfl; rfl; (first | exact rtRoot | exact rtCk | exact rtTb); rfl; (try simp only [Nat.reduceAdd, List.drop_zero, cut_cp, cut_tb, cut_tb_c]); go_big_quiet_on; (simp only [Act.put, List.setIfInBounds_toArray, List.set_cons_succ, List.set_cons_zero])) | ((with_reducible apply quiet_rdp QC.out (tbP_len _ _)); rfl; rfl; (first | exact rtRoot | exact rtCk | exact rtTb); rfl; rfl; go_big_quiet_on; (simp only [Act.put, List.setIfInBounds_toArray, List.set_cons_succ, List.set_cons_zero])) | ((with_reducible apply quiet_rd1 QC.out); rfl; rfl; (first | exact otInt | exact otU64 | exact otU64s); rfl; rfl; go_big_quiet_on; (simp only [Act.put, List.setIfInBounds_toArray, List.set_cons_succ, List.set_cons_zero])) | ((with_reducible apply quiet_rds QC.out (tbP_len _ _)); rfl; rfl; (first | exact rtRoot | exact rtCk | exact rtTb); rfl; (try simp only [Nat.reduceAdd, List.drop_zero, cut_cp, cut_tb, cut_tb_c]); go_big_quiet_on; (simp only [Act.put, List.setIfInBounds_toArray, List.set_cons_succ, List.set_cons_zero])) | ((with_reducible apply quiet_rdp0 QC.out (tbP_len _ _)); rfl; rfl; (first | exact rtRoot | exact rtCk | exact rtTb); rfl; rfl; go_big_quiet_on; (simp only [Act.put, List.setIfInBounds_toArray, List.set_cons_succ, List.set_cons_zero])) | ((with_reducible apply quiet_rd10 QC.out); rfl; rfl; (first | exact otInt | exact otU64 | exact otU64s); rfl; rfl; go_big_quiet_on; (simp only [Act.put, List.setIfInBounds_toArray, List.set_cons_succ, List.set_cons_zero])) | ((with_reducible apply quiet_rds0 QC.out (tbP_len _ _)); rfl; rfl; (first | exact rtRoot | exact rtCk | exact rtTb); rfl; (try simp only [Nat.reduceAdd, List.drop_zero, cut_cp, cut_tb, cut_tb_c]); go_big_quiet_on; (simp only [Act.put, List.setIfInBounds_toArray, List.set_cons_succ, List.set_cons_zero]))) | (go_big_quiet_op; first | go_big_quiet_on | ((with_reducible refine ⟨_, fun _ _ => rfl, ?_⟩); go_big_quiet_on))))
        refine wpQuiet_nil ?_
        intro w4 hw4
        have M4 := bx (M.out.below hw4.out)
        clear hw4
        go_wp2_with fail
        go_roundw
        case rel => exact ⟨k + 1, by omega, by go_num, NXT.out HE.out, M4.out⟩
        case measure => simp [intOf]; omega
    · obtain rfl : k = n := by omega
      have HR := bx (idxI_none (p := fun t => decide (t.c = x)) (fun j hj => HNO.out j hj (by rw [← LN.out]; exact hj)))
      go_wp2_with fail
      go_ret
      exact ⟨by rw [HR.out]; rfl, M.out.ext⟩
end Go.Proofs.Ytekikfdlnkcenaa
