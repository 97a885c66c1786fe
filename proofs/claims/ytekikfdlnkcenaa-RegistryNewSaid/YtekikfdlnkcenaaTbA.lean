/- AddTable of the reference, walked. -/
import Derived.Test.YtekikfdlnkcenaaTbD
import Derived.Test.YtekikfdlnkcenaaCmpR
import Derived.Test.YtekikfdlnkcenaaMmS
namespace Go.Proofs.Ytekikfdlnkcenaa
open Go.RowKit
/-- a table takes its place -/
def addT (T : List Tbl) (t : Tbl) : List Tbl := T.takeWhile (fun x => decide (cmpCp x.c t.c < 0)) ++ t :: T.dropWhile (fun x => decide (cmpCp x.c t.c < 0))
theorem while_at {α : Type} {p : α → Bool} : ∀ {T : List α} {k : Nat}, k ≤ T.length → (∀ j (hj : j < T.length), j < k → p T[j] = true) → (∀ h : k < T.length, p T[k] = false) → T.takeWhile p = T.take k ∧ T.dropWhile p = T.drop k
  | [], k, hk, _, _ => by simp
  | x :: T, 0, _, _, h => by
    have := h (Nat.succ_pos _)
    simp only [List.getElem_cons_zero] at this
    simp [List.takeWhile_cons, List.dropWhile_cons, this]
  | x :: T, k + 1, hk, h1, h2 => by
    have h0 := h1 0 (Nat.succ_pos _) (Nat.succ_pos _)
    simp only [List.getElem_cons_zero] at h0
    obtain ⟨e1, e2⟩ := while_at (T := T) (k := k) (by simpa using hk) (fun j hj hjk => h1 (j + 1) (Nat.succ_lt_succ hj) (Nat.succ_lt_succ hjk)) (fun h => h2 (Nat.succ_lt_succ h))
    simp [List.takeWhile_cons, List.dropWhile_cons, h0, e1, e2]
theorem addT_at {T : List Tbl} {t : Tbl} {k : Nat} (hk : k ≤ T.length) (h1 : ∀ j (hj : j < T.length), j < k → cmpCp T[j].c t.c < 0) (h2 : ∀ h : k < T.length, ¬ cmpCp T[k].c t.c < 0) : addT T t = T.take k ++ t :: T.drop k := by
  obtain ⟨e1, e2⟩ := while_at (p := fun x => decide (cmpCp x.c t.c < 0)) hk (fun j hj hjk => decide_eq_true (h1 j hj hjk)) (fun h => decide_eq_false (h2 h))
  unfold addT
  rw [e1, e2]
theorem flat_take {α : Type} {f : α → List Value} {k : Nat} (X : List α) (h : ∀ x ∈ X, (f x).length = k) (i : Nat) : (X.flatMap f).take (i * k) = (X.take i).flatMap f := by
  rcases Nat.lt_or_ge i X.length with hi | hi
  · rw [flat_split X i hi, List.append_assoc, ← flat_pre X i hi h, List.take_left]
  · rw [List.take_of_length_le hi, List.take_of_length_le]
    rw [flat_len X h]; exact Nat.mul_le_mul_right _ hi
theorem flat_drop {α : Type} {f : α → List Value} {k : Nat} (X : List α) (h : ∀ x ∈ X, (f x).length = k) (i : Nat) : (X.flatMap f).drop (i * k) = (X.drop i).flatMap f := by
  have h1 := List.take_append_drop (i * k) (X.flatMap f)
  rw [flat_take X h i] at h1
  have h2 : X.flatMap f = (X.take i).flatMap f ++ (X.drop i).flatMap f := by rw [← List.flatMap_append, List.take_append_drop]
  exact List.append_cancel_left (h1.trans h2)
theorem flat_one {α : Type} {f : α → List Value} {X : List α} (h : ∀ x ∈ X, One (f x)) : One (X.flatMap f) := fun u hu => by
  obtain ⟨x, hx, hu⟩ := List.mem_flatMap.1 hu
  exact h x hx u hu
theorem All2.left {α β : Type} {r : α → β → Prop} {X : List α} {T : List β} (h : All2 r X T) {p : α → Prop} (hp : ∀ a b, r a b → p a) : ∀ x ∈ X, p x := fun x hx => by
  obtain ⟨i, hi, rfl⟩ := List.getElem_of_mem hx
  exact hp _ _ (h.2 i hi (h.1 ▸ hi))
theorem add_fin {Γ Γ1 Γ' : Gam} {w w' : World} {X : List (Cp × Value)} {T : List Tbl} {t : Tbl} {s1 : Value} {k n : Nat} {A6 : Option Addr} {c6 : Nat} (hX : All2 (TbG Γ) X T) (hs : TbG Γ1 (t.c, s1) t) (l1 : Le Γ Γ1) (l2 : Le Γ1 Γ') (he : addT T t = T.take k ++ t :: T.drop k) (hn : T.length = n) (hk : k ≤ n)
    (h1 : CapOk A6 (k + 1 + (n - k)) c6) (h2 : SlG Γ' A6 (k + 1 + (n - k)) ((X.flatMap tbx).take (k * 34) ++ fl (tbP t.c s1) ++ (X.flatMap tbx).drop (k * 34))) (h4 : Ext Γ w Γ' w') :
    TsP Γ w (addT T t) (.returned (.slice A6 (k + 1 + (n - k)) c6)) w' := by
  have hl : (addT T t).length = k + 1 + (n - k) := by rw [he]; simp [hn]; omega
  refine ⟨A6, c6, Γ', by rw [hl], by rw [hl]; exact h1, ⟨rfl, X.take k ++ [(t.c, s1)] ++ X.drop k, ?_, ?_⟩, h4⟩
  · have e : addT T t = (T.take k ++ [t]) ++ T.drop k := by rw [he]; simp
    rw [e]
    exact (((hX.take k).imp fun _ _ h => h.mono (l1.trans l2)).app (All2.one (hs.mono l2))).app ((hX.drop k).imp fun _ _ h => h.mono (l1.trans l2))
  · rw [hl]
    rw [flat_take X (fun x _ => tb_len _ _), flat_drop X (fun x _ => tb_len _ _)] at h2
    simpa using h2
set_option maxRecDepth 20000 in
set_option maxHeartbeats 1000000 in
theorem addTable_any (Γ : Gam) (A : Option Addr) (n c : Nat) (T : List Tbl) (t : Tbl) (s : Value) (hn : n ≤ 65535) (hb : t.b.length ≤ 65535) (w : World) (ok : Ok Γ w) (h : TsG Γ A n T) (hcap : CapOk A n c) (ht : TbG Γ (t.c, s) t) :
    Calls Try.prog 38 #[.slice A n c, .agg (fl (tbP t.c s)).toArray] w (TsP Γ w (addT T t)) := by
  have M := bx (MM.start ok)
  have HT := bx h
  have HC := bx hcap
  have HB := bx hb
  obtain ⟨As, ks, hs, hsc, hsr⟩ := ht.s
  simp only at hs
  subst hs
  have HTC := bx hsc
  have HTR := bx (fun (Γ' : Gam) (w' : World) (hl : Le Γ Γ') (o : Ok Γ' w') => (hsr.mono hl).row (size := 1) (by rw [us_len, Nat.mul_one]) o)
  obtain ⟨X, hX, hS⟩ := h.2
  have HX := bx hX
  have HTb := bx ht
  have LN := bx h.1
  have HL : Bx ((X.flatMap tbx).length = n * 34) := ⟨by rw [flat_len X (fun x _ => tb_len _ _), hX.1, LN.out]⟩
  have HOX : Bx (∀ x ∈ X, One (tbx x)) := ⟨hX.left fun _ _ h => tbx_one h⟩
  have HO : Bx (∀ k, One ((X.flatMap tbx).take (k * 34))) := ⟨fun k u hu => flat_one HOX.out u (List.mem_of_mem_take hu)⟩
  have HO2 : Bx (∀ k, One ((X.flatMap tbx).drop (k * 34))) := ⟨fun k u hu => flat_one HOX.out u (List.mem_of_mem_drop hu)⟩
  clear h hcap hb ht hsc hsr hX ok
  go_enter Try.func38, Try.ntmps38
  go_wp2_with ((with_reducible apply wpList_box M.out); rfl; rfl; rfl; exact tbP_len _ _; intro w' g M' hb'; (clear M; have M := bx M'; clear M'); clear hb')
  go_loopw [5] (fun i wr => ∃ k : Nat, k ≤ n ∧ i = .int .i64 k ∧ (∀ j (hj : j < T.length), j < k → cmpCp T[j].c t.c < 0) ∧ MM Γ w Γ wr [⟨g, tbP t.c (.slice As t.b.length ks), [1, 32, 1]⟩] []) (fun i _ => n - (intOf i).toNat)
  case atStart => exact ⟨0, Nat.zero_le _, rfl, fun j _ hj => absurd hj (Nat.not_lt_zero _), M.out⟩
  case round =>
    obtain ⟨k, hk, rfl, hlow, hM⟩ := hrel
    clear M
    have M := bx hM
    have HLOW := bx hlow
    clear hM hlow
    have hTk : ∀ h : k < T.length, k < n := fun h => by rw [LN.out] at h; exact h
    by_cases hkn : k < n
    · have hkl : k < T.length := by rw [LN.out]; exact hkn
      obtain ⟨g1, s1, rfl, hst, hc1⟩ := HT.out.at k hkn
      have QM := bx M.out.at0.cls
      have Q1 := bx (CL.cls hc1 (tbP_len _ _) M.out.ext.ok)
      have CC := bx (fun w1 (_ : Cls wr.heap.size wr w1) => refCmpCp_any T[k].c t.c w1)
      have NX := bx (fun (e : cmpCp T[k].c t.c < 0) j (hj : j < T.length) (hjk : j < k + 1) => (Nat.lt_or_eq_of_le (Nat.le_of_lt_succ hjk)).elim (HLOW.out j hj) (fun h => by subst h; exact e))
      have AT := bx (fun (e : ¬ cmpCp T[k].c t.c < 0) => addT_at (Nat.le_of_lt hkl) HLOW.out (fun _ => e))
      have hki : (k : Int) < (n : Int) := by omega
      have hk0 : 0 ≤ (k : Int) := by omega
      clear hst hc1
      generalize T[k].c = tc at *
      generalize cmpCp tc t.c = v at *
      by_cases hv : v < 0
      · go_wp2_with fail
        refine region_cls wr.heap.size (by kernel_rfl) (by kernel_rfl) ?_
        repeat (first | go_big_quiet_skip | (go_big_quiet_want; first | (first | ((with_reducible apply quiet_ldp QM.out (tbP_len _ _)); rfl; rfl; (first | exact rtRoot | exact rtCk | exact rtTb); rfl; rfl; go_big_quiet_on; (simp only [Act.put, List.setIfInBounds_toArray, List.set_cons_succ, List.set_cons_zero])) | ((with_reducible apply quiet_ld1 QM.out); rfl; rfl; (first | exact otInt | exact otU64 | exact otU64s); rfl; rfl; go_big_quiet_on; (simp only [Act.put, List.setIfInBounds_toArray, List.set_cons_succ, List.set_cons_zero])) | ((with_reducible apply quiet_lds QM.out (tbP_len _ _)); rfl; rfl; (first | exact rtRoot | exact rtCk | exact rtTb); rfl; (try simp only [Nat.reduceAdd, List.drop_zero, cut_cp, cut_tb, cut_tb_c]); go_big_quiet_on; (simp only [Act.put, List.setIfInBounds_toArray, List.set_cons_succ, List.set_cons_zero])) | ((with_reducible apply quiet_rdp Q1.out (tbP_len _ _)); rfl; rfl; (first | exact rtRoot | exact rtCk | exact rtTb); rfl; rfl; go_big_quiet_on; (simp only [Act.put, List.setIfInBounds_toArray, List.set_cons_succ, List.set_cons_zero])) | ((with_reducible apply quiet_rd1 Q1.out); rfl; rfl; (first | exact otInt | exact otU64 | exact otU64s); rfl; rfl; go_big_quiet_on; (simp only [Act.put, List.setIfInBounds_toArray, List.set_cons_succ, List.set_cons_zero])) | ((with_reducible apply quiet_rds Q1.out (tbP_len _ _)); rfl; rfl; (first | exact rtRoot | exact rtCk | exact rtTb); rfl; (try simp only [Nat.reduceAdd, List.drop_zero, cut_cp, cut_tb, cut_tb_c]); go_big_quiet_on; (simp only [Act.put, List.setIfInBounds_toArray, List.set_cons_succ, List.set_cons_zero])) | ((with_reducible apply quiet_rdp0 Q1.out (tbP_len _ _)); rfl; rfl; (first | exact rtRoot | exact rtCk | exact rtTb); rfl; rfl; go_big_quiet_on; (simp only [Act.put, List.setIfInBounds_toArray, List.set_cons_succ, List.set_cons_zero])) | ((with_reducible apply quiet_rd10 Q1.out); rfl; rfl; (first | exact otInt | exact otU64 | exact otU64s); rfl; rfl; go_big_quiet_on; (simp only [Act.put, List.setIfInBounds_toArray, List.set_cons_succ, List.set_cons_zero])) | ((with_reducible apply quiet_rds0 Q1.out (tbP_len _ _)); rfl; rfl; (first | exact rtRoot | exact rtCk | exact rtTb); rfl; (try simp only [Nat.reduceAdd, List.drop_zero, cut_cp, cut_tb, cut_tb_c]); go_big_quiet_on; (simp only [Act.put, List.setIfInBounds_toArray, List.set_cons_succ, List.set_cons_zero])) | ((refine quiet_call (quietB CC.out) Try.func75 rfl rfl rfl ?_ ?_); rfl; go_big_quiet_on; (simp only [Act.put, List.setIfInBounds_toArray, List.set_cons_succ, List.set_cons_zero]))) | (go_big_quiet_op; first | go_big_quiet_on | ((with_reducible refine ⟨_, fun _ _ => rfl, ?_⟩); go_big_quiet_on))))
        refine wpQuiet_nil ?_; intro w4 hw4; have M' := M.out.below hw4.out; (clear M; have M := bx M'; clear M'); clear hw4
        go_wp2_with fail
        go_roundw
        case rel => exact ⟨k + 1, by omega, by go_num, NX.out (by assumption), M.out⟩
        case measure => simp [intOf]; omega
      · have AT' := bx (AT.out hv)
        have hkle : k ≤ n := hk
        clear AT NX
        go_wp2_with fail
        refine region_cls wr.heap.size (by kernel_rfl) (by kernel_rfl) ?_
        repeat (first | go_big_quiet_skip | (go_big_quiet_want; first | (first | ((with_reducible apply quiet_ldp QM.out (tbP_len _ _)); rfl; rfl; (first | exact rtRoot | exact rtCk | exact rtTb); rfl; rfl; go_big_quiet_on; (simp only [Act.put, List.setIfInBounds_toArray, List.set_cons_succ, List.set_cons_zero])) | ((with_reducible apply quiet_ld1 QM.out); rfl; rfl; (first | exact otInt | exact otU64 | exact otU64s); rfl; rfl; go_big_quiet_on; (simp only [Act.put, List.setIfInBounds_toArray, List.set_cons_succ, List.set_cons_zero])) | ((with_reducible apply quiet_lds QM.out (tbP_len _ _)); rfl; rfl; (first | exact rtRoot | exact rtCk | exact rtTb); rfl; (try simp only [Nat.reduceAdd, List.drop_zero, cut_cp, cut_tb, cut_tb_c]); go_big_quiet_on; (simp only [Act.put, List.setIfInBounds_toArray, List.set_cons_succ, List.set_cons_zero])) | ((with_reducible apply quiet_rdp Q1.out (tbP_len _ _)); rfl; rfl; (first | exact rtRoot | exact rtCk | exact rtTb); rfl; rfl; go_big_quiet_on; (simp only [Act.put, List.setIfInBounds_toArray, List.set_cons_succ, List.set_cons_zero])) | ((with_reducible apply quiet_rd1 Q1.out); rfl; rfl; (first | exact otInt | exact otU64 | exact otU64s); rfl; rfl; go_big_quiet_on; (simp only [Act.put, List.setIfInBounds_toArray, List.set_cons_succ, List.set_cons_zero])) | ((with_reducible apply quiet_rds Q1.out (tbP_len _ _)); rfl; rfl; (first | exact rtRoot | exact rtCk | exact rtTb); rfl; (try simp only [Nat.reduceAdd, List.drop_zero, cut_cp, cut_tb, cut_tb_c]); go_big_quiet_on; (simp only [Act.put, List.setIfInBounds_toArray, List.set_cons_succ, List.set_cons_zero])) | ((with_reducible apply quiet_rdp0 Q1.out (tbP_len _ _)); rfl; rfl; (first | exact rtRoot | exact rtCk | exact rtTb); rfl; rfl; go_big_quiet_on; (simp only [Act.put, List.setIfInBounds_toArray, List.set_cons_succ, List.set_cons_zero])) | ((with_reducible apply quiet_rd10 Q1.out); rfl; rfl; (first | exact otInt | exact otU64 | exact otU64s); rfl; rfl; go_big_quiet_on; (simp only [Act.put, List.setIfInBounds_toArray, List.set_cons_succ, List.set_cons_zero])) | ((with_reducible apply quiet_rds0 Q1.out (tbP_len _ _)); rfl; rfl; (first | exact rtRoot | exact rtCk | exact rtTb); rfl; (try simp only [Nat.reduceAdd, List.drop_zero, cut_cp, cut_tb, cut_tb_c]); go_big_quiet_on; (simp only [Act.put, List.setIfInBounds_toArray, List.set_cons_succ, List.set_cons_zero])) | ((refine quiet_call (quietB CC.out) Try.func75 rfl rfl rfl ?_ ?_); rfl; go_big_quiet_on; (simp only [Act.put, List.setIfInBounds_toArray, List.set_cons_succ, List.set_cons_zero]))) | (go_big_quiet_op; first | go_big_quiet_on | ((with_reducible refine ⟨_, fun _ _ => rfl, ?_⟩); go_big_quiet_on))))
        refine wpQuiet_nil ?_; intro w4 hw4; have M' := M.out.below hw4.out; (clear M; have M := bx M'; clear M'); clear hw4
        clear Q1 QM CC
        ((go_wp2_with fail); refine wp_region_mix6 [7, 11] (.steps [(1, 0), (1, 1), (1, 2), (0, 4), (1, 8), (1, 9), (1, 10), (2, 3), (2, 5), (2, 6), (3, 7), (3, 11), (1, 12)] .leaf) (by kernel_rfl) (by kernel_rfl) ?_; simp only [MixT6, MT.steps, stepAt, List.getD_cons_zero, List.getD_cons_succ]; have M' := M.out.drew; (clear M; have M := bx M'; clear M'); have QM := bx M.out.at0.cls; (repeat (first | (with_reducible refine wpQuiet_nil ?_) | (first | go_big_quiet_skip | (go_big_quiet_want; first | (first | ((with_reducible apply quiet_ldp QM.out (tbP_len _ _)); rfl; rfl; (first | exact rtRoot | exact rtCk | exact rtTb); rfl; rfl; go_big_quiet_on; (simp only [Act.put, List.setIfInBounds_toArray, List.set_cons_succ, List.set_cons_zero])) | ((with_reducible apply quiet_ld1 QM.out); rfl; rfl; (first | exact otInt | exact otU64 | exact otU64s); rfl; rfl; go_big_quiet_on; (simp only [Act.put, List.setIfInBounds_toArray, List.set_cons_succ, List.set_cons_zero])) | ((with_reducible apply quiet_lds QM.out (tbP_len _ _)); rfl; rfl; (first | exact rtRoot | exact rtCk | exact rtTb); rfl; (try simp only [Nat.reduceAdd, List.drop_zero, cut_cp, cut_tb, cut_tb_c]); go_big_quiet_on; (simp only [Act.put, List.setIfInBounds_toArray, List.set_cons_succ, List.set_cons_zero])) | ((refine quiet_slH elTb rfl rfl rfl ?_ ?_); (have := HC.out.le; omega); go_big_quiet_on; (simp only [Act.put, List.setIfInBounds_toArray, List.set_cons_succ, List.set_cons_zero])) | ((refine quiet_slL elTb rfl rfl rfl ?_ ?_); omega; go_big_quiet_on; (simp only [Act.put, List.setIfInBounds_toArray, List.set_cons_succ, List.set_cons_zero]))) | (go_big_quiet_op; first | go_big_quiet_on | ((with_reducible refine ⟨_, fun _ _ => rfl, ?_⟩); go_big_quiet_on)))))); clear QM; obtain ⟨A1, c1, w1, hr, hM, hb⟩ := run_push0 elTb M.out 27 (some ⟨g1, 0, none⟩) k c _ (((hS.mono M.out.ext.le).row HL.out M.out.ext.ok).take (size := 34) hk) HC.out.nil (HO.out _) (by unfold maxLen; omega) (by omega); refine mix_run5 (exec_append rfl rfl rfl hr) rfl ?_; refine ⟨hb, ?_⟩; clear M; have M := bx hM; clear hM hr hb; simp only [Act.put, List.setIfInBounds_toArray, List.set_cons_succ, List.set_cons_zero]; refine mix_call5 (refCopy_any _ t.c t.b HB.out _ _ _ M.out.ext.ok (HTR.out _ _ M.out.ext.le M.out.ext.ok) HTC.out.nil) Try.func76 rfl rfl _ _ rfl rfl rfl ?_; rintro e w2 ⟨s1, Γ1, rfl, hs1, hx⟩; refine ⟨_, rfl, hx.bel, ?_⟩; have M' := M.out.call hx; (clear M; have M := bx M'; clear M'); have HS1 := bx hs1; clear hs1 hx; simp only [Act.put, List.setIfInBounds_toArray, List.set_cons_succ, List.set_cons_zero]; refine mix_run5 (run_bs elTb rfl rfl (v := .agg (fl (tbP t.c s1)).toArray) (cs := fl (tbP t.c s1)) rfl (tb_len _ _)) rfl ?_; refine ⟨ext_alloc _ _, ?_⟩; have M' := M.out.alloc (tbP_len t.c s1) rfl 38; (clear M; have M := bx M'; clear M'); simp only [Act.put, List.setIfInBounds_toArray, List.set_cons_succ, List.set_cons_zero]; obtain ⟨v5, w5, hr, hM⟩ := run_pushR elTb M.out 27 _ 1 1 _ (row_of_HL M.out.at0 (m := 1) (size := 34) rfl) (fun h => by cases h) (tbx_one HS1.out) (by unfold maxLen; omega) (by omega); refine mix_run5 (exec_append rfl rfl rfl hr) rfl ?_; have M' := hM.tail; (clear M; have M := bx M'; clear M'); clear hr hM; simp only [Act.put, List.setIfInBounds_toArray, List.set_cons_succ, List.set_cons_zero]; obtain ⟨v6, w6, hr, hM⟩ := run_pushR elTb M.out 27 (cutA (some ⟨g1, 0, none⟩) c k 34) (n - k) (c - k) _ (((hS.mono M.out.ext.le).row HL.out M.out.ext.ok).cut (size := 34) hk HC.out.le) (cutA_none HC.out) (HO2.out _) (by unfold maxLen; omega) (by omega); refine mix_run5 (exec_append rfl rfl rfl hr) rfl ?_; have M' := hM; (clear M; have M := bx M'; clear M'); clear hr hM; simp only [Act.put, List.setIfInBounds_toArray, List.set_cons_succ, List.set_cons_zero]; (repeat (first | (first | go_big_quiet_skip | (go_big_quiet_want; first | fail | (go_big_quiet_op; first | go_big_quiet_on | ((with_reducible refine ⟨_, fun _ _ => rfl, ?_⟩); go_big_quiet_on)))) | (with_reducible refine wpQuiet_nil ?_))); refine NoPanic.normal ?_; (go_wp2_with fail); go_ret; (obtain ⟨A6, c6, e6⟩ := own_slice (M.out.rows _ (List.mem_cons_self ..)); simp only at e6; subst e6; obtain ⟨Γ', h1, h2, h3, h4⟩ := M.out.frz; exact add_fin HX.out HS1.out M.out.ext.le h3 AT'.out LN.out (by omega) h1 h2 h4.ext))
    · obtain rfl : k = n := by omega
      have AT' := bx (addT_at (T := T) (t := t) (k := k) (by rw [LN.out]; exact hk) HLOW.out (fun h => absurd (hTk h) hkn))
      have QM := bx M.out.at0.cls
      go_wp2_with fail
      refine region_cls wr.heap.size (by kernel_rfl) (by kernel_rfl) ?_
      repeat (first | go_big_quiet_skip | (go_big_quiet_want; first | (first | ((with_reducible apply quiet_ldp QM.out (tbP_len _ _)); rfl; rfl; (first | exact rtRoot | exact rtCk | exact rtTb); rfl; rfl; go_big_quiet_on; (simp only [Act.put, List.setIfInBounds_toArray, List.set_cons_succ, List.set_cons_zero])) | ((with_reducible apply quiet_ld1 QM.out); rfl; rfl; (first | exact otInt | exact otU64 | exact otU64s); rfl; rfl; go_big_quiet_on; (simp only [Act.put, List.setIfInBounds_toArray, List.set_cons_succ, List.set_cons_zero])) | ((with_reducible apply quiet_lds QM.out (tbP_len _ _)); rfl; rfl; (first | exact rtRoot | exact rtCk | exact rtTb); rfl; (try simp only [Nat.reduceAdd, List.drop_zero, cut_cp, cut_tb, cut_tb_c]); go_big_quiet_on; (simp only [Act.put, List.setIfInBounds_toArray, List.set_cons_succ, List.set_cons_zero]))) | (go_big_quiet_op; first | go_big_quiet_on | ((with_reducible refine ⟨_, fun _ _ => rfl, ?_⟩); go_big_quiet_on))))
      refine wpQuiet_nil ?_; intro w4 hw4; have M' := M.out.below hw4.out; (clear M; have M := bx M'; clear M'); clear hw4
      clear QM
      ((go_wp2_with fail); refine wp_region_mix6 [7, 11] (.steps [(1, 0), (1, 1), (1, 2), (0, 4), (1, 8), (1, 9), (1, 10), (2, 3), (2, 5), (2, 6), (3, 7), (3, 11), (1, 12)] .leaf) (by kernel_rfl) (by kernel_rfl) ?_; simp only [MixT6, MT.steps, stepAt, List.getD_cons_zero, List.getD_cons_succ]; have M' := M.out.drew; (clear M; have M := bx M'; clear M'); have QM := bx M.out.at0.cls; (repeat (first | (with_reducible refine wpQuiet_nil ?_) | (first | go_big_quiet_skip | (go_big_quiet_want; first | (first | ((with_reducible apply quiet_ldp QM.out (tbP_len _ _)); rfl; rfl; (first | exact rtRoot | exact rtCk | exact rtTb); rfl; rfl; go_big_quiet_on; (simp only [Act.put, List.setIfInBounds_toArray, List.set_cons_succ, List.set_cons_zero])) | ((with_reducible apply quiet_ld1 QM.out); rfl; rfl; (first | exact otInt | exact otU64 | exact otU64s); rfl; rfl; go_big_quiet_on; (simp only [Act.put, List.setIfInBounds_toArray, List.set_cons_succ, List.set_cons_zero])) | ((with_reducible apply quiet_lds QM.out (tbP_len _ _)); rfl; rfl; (first | exact rtRoot | exact rtCk | exact rtTb); rfl; (try simp only [Nat.reduceAdd, List.drop_zero, cut_cp, cut_tb, cut_tb_c]); go_big_quiet_on; (simp only [Act.put, List.setIfInBounds_toArray, List.set_cons_succ, List.set_cons_zero])) | ((refine quiet_slH elTb rfl rfl rfl ?_ ?_); (have := HC.out.le; omega); go_big_quiet_on; (simp only [Act.put, List.setIfInBounds_toArray, List.set_cons_succ, List.set_cons_zero])) | ((refine quiet_slL elTb rfl rfl rfl ?_ ?_); omega; go_big_quiet_on; (simp only [Act.put, List.setIfInBounds_toArray, List.set_cons_succ, List.set_cons_zero]))) | (go_big_quiet_op; first | go_big_quiet_on | ((with_reducible refine ⟨_, fun _ _ => rfl, ?_⟩); go_big_quiet_on)))))); clear QM; obtain ⟨A1, c1, w1, hr, hM, hb⟩ := run_push0 elTb M.out 27 A k c _ (((hS.mono M.out.ext.le).row HL.out M.out.ext.ok).take (size := 34) hk) HC.out.nil (HO.out _) (by unfold maxLen; omega) (by omega); refine mix_run5 (exec_append rfl rfl rfl hr) rfl ?_; refine ⟨hb, ?_⟩; clear M; have M := bx hM; clear hM hr hb; simp only [Act.put, List.setIfInBounds_toArray, List.set_cons_succ, List.set_cons_zero]; refine mix_call5 (refCopy_any _ t.c t.b HB.out _ _ _ M.out.ext.ok (HTR.out _ _ M.out.ext.le M.out.ext.ok) HTC.out.nil) Try.func76 rfl rfl _ _ rfl rfl rfl ?_; rintro e w2 ⟨s1, Γ1, rfl, hs1, hx⟩; refine ⟨_, rfl, hx.bel, ?_⟩; have M' := M.out.call hx; (clear M; have M := bx M'; clear M'); have HS1 := bx hs1; clear hs1 hx; simp only [Act.put, List.setIfInBounds_toArray, List.set_cons_succ, List.set_cons_zero]; refine mix_run5 (run_bs elTb rfl rfl (v := .agg (fl (tbP t.c s1)).toArray) (cs := fl (tbP t.c s1)) rfl (tb_len _ _)) rfl ?_; refine ⟨ext_alloc _ _, ?_⟩; have M' := M.out.alloc (tbP_len t.c s1) rfl 38; (clear M; have M := bx M'; clear M'); simp only [Act.put, List.setIfInBounds_toArray, List.set_cons_succ, List.set_cons_zero]; obtain ⟨v5, w5, hr, hM⟩ := run_pushR elTb M.out 27 _ 1 1 _ (row_of_HL M.out.at0 (m := 1) (size := 34) rfl) (fun h => by cases h) (tbx_one HS1.out) (by unfold maxLen; omega) (by omega); refine mix_run5 (exec_append rfl rfl rfl hr) rfl ?_; have M' := hM.tail; (clear M; have M := bx M'; clear M'); clear hr hM; simp only [Act.put, List.setIfInBounds_toArray, List.set_cons_succ, List.set_cons_zero]; obtain ⟨v6, w6, hr, hM⟩ := run_pushR elTb M.out 27 (cutA A c k 34) (k - k) (c - k) _ (((hS.mono M.out.ext.le).row HL.out M.out.ext.ok).cut (size := 34) hk HC.out.le) (cutA_none HC.out) (HO2.out _) (by unfold maxLen; omega) (by omega); refine mix_run5 (exec_append rfl rfl rfl hr) rfl ?_; have M' := hM; (clear M; have M := bx M'; clear M'); clear hr hM; simp only [Act.put, List.setIfInBounds_toArray, List.set_cons_succ, List.set_cons_zero]; (repeat (first | (first | go_big_quiet_skip | (go_big_quiet_want; first | fail | (go_big_quiet_op; first | go_big_quiet_on | ((with_reducible refine ⟨_, fun _ _ => rfl, ?_⟩); go_big_quiet_on)))) | (with_reducible refine wpQuiet_nil ?_))); refine NoPanic.normal ?_; (go_wp2_with fail); go_ret; (obtain ⟨A6, c6, e6⟩ := own_slice (M.out.rows _ (List.mem_cons_self ..)); simp only at e6; subst e6; obtain ⟨Γ', h1, h2, h3, h4⟩ := M.out.frz; exact add_fin HX.out HS1.out M.out.ext.le h3 AT'.out LN.out (by omega) h1 h2 h4.ext))
end Go.Proofs.Ytekikfdlnkcenaa
