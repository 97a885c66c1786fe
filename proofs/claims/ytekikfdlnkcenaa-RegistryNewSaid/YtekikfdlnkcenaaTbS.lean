/- Tables copied by the program; tables compared. -/
import Derived.Test.YtekikfdlnkcenaaTbC
import Derived.Test.YtekikfdlnkcenaaSameN
namespace Go.Proofs.Ytekikfdlnkcenaa
open Go.RowKit
set_option maxRecDepth 20000 in
set_option maxHeartbeats 1000000 in
theorem copyTb_any (Γ : Gam) (c : Cp) (b : List U) (hb : b.length ≤ 65535) (A : Option Addr) (k : Nat) (w : World) (ok : Ok Γ w) (h : Row w w.heap.size 1 A b.length (us b)) (hA : A = none → k = 0) :
    Calls Try.prog 41 #[.agg (fl (tbP c (.slice A b.length k))).toArray] w (CTb Γ w ⟨c, b⟩) := by
  have M := bx (MM.start ok)
  have HR := bx h
  have HA := bx hA
  have HB := bx hb
  clear h ok hA hb
  go_enter Try.func41, Try.ntmps41
  go_wp2_with (first | ((with_reducible apply wpList_box M.out); rfl; rfl; rfl; exact tbP_len _ _; intro w' g M' hb'; (clear M; have M := bx M'; clear M'); clear hb') | ((with_reducible apply wpList_alc M.out); rfl; rfl; exact ztTb; intro w' g M' hb'; (clear M; have M := bx M'; clear M'); clear hb') | ((with_reducible apply wpList_ldp M.out.at1); rfl; rfl; rfl; (first | exact rtRoot | exact rtCk | exact rtTb); rfl; rfl) | ((with_reducible apply wpList_ld1 M.out.at1); rfl; rfl; rfl; (first | exact otInt | exact otU64 | exact otU64s); rfl; rfl) | ((with_reducible apply wpList_lds M.out.at1); rfl; rfl; rfl; (first | exact rtRoot | exact rtCk | exact rtTb); rfl; (try simp only [Nat.reduceAdd, List.drop_zero, cut_cp, cut_tb, cut_tb_c])))
  refine (cloneU_any _ A b.length k _ HB.out _ (Nat.le_refl _) ((us_ints b) ▸ (HR.out.below M.out.ext.bel |>.more M.out.ext.bel.size)) HA.out).mono ?_; rintro e w1 ⟨A1, c1, rfl, ho, hb1⟩
  have M' := M.out.rowNew hb1 ho
  rw [← us_ints] at M'
  (clear M; have M := bx M'; clear M')
  clear ho hb1
  go_wp2_with (first | ((with_reducible apply wpList_ldp M.out.at1); rfl; rfl; rfl; (first | exact rtRoot | exact rtCk | exact rtTb); rfl; rfl) | ((with_reducible apply wpList_ld1 M.out.at1); rfl; rfl; rfl; (first | exact otInt | exact otU64 | exact otU64s); rfl; rfl) | ((with_reducible apply wpList_lds M.out.at1); rfl; rfl; rfl; (first | exact rtRoot | exact rtCk | exact rtTb); rfl; (try simp only [Nat.reduceAdd, List.drop_zero, cut_cp, cut_tb, cut_tb_c])) | ((with_reducible apply wpList_st1 M.out 1 (.slice A1 b.length c1) (tbP c (.slice A1 b.length c1))); rfl; rfl; rfl; rfl; rfl; (first | exact otInt | exact otU64 | exact otU64s); rfl; rfl; rfl; rfl; rfl; intro w' M' hg'; (simp only [List.set_cons_zero, List.set_cons_succ] at M'); (clear M; have M := bx M'; clear M'); clear hg') | ((with_reducible apply wpList_sts M.out 0 (tbP c (.slice A1 b.length c1)) (tbP c (.slice A1 b.length c1))); rfl; rfl; rfl; rfl; rfl; (first | exact rtRoot | exact rtCk | exact rtTb); rfl; exact tbP_len _ _; exact tb_one _ _ _ _; rfl; intro w' M' hg'; (simp only [List.set_cons_zero, List.set_cons_succ] at M'); (clear M; have M := bx M'; clear M'); clear hg'))
  obtain ⟨Γ', h1, h2, h3, h4⟩ := M.out.frz
  exact bodyPost_ret (results_L (by rfl) _ h4.at0 (by rfl) rtTb rfl) rfl ⟨_, Γ', rfl, ⟨rfl, _, _, rfl, h1, h2⟩, h4.ext⟩
theorem us_inj {a b : List U} : (a.map fun x => (x.n : Int)) = (b.map fun x => (x.n : Int)) ↔ a = b := by
  constructor
  · intro h
    exact (List.map_inj_right (fun x y e => U.ext' (Int.ofNat.inj e))).1 h
  · rintro rfl; rfl
set_option maxRecDepth 20000 in
set_option maxHeartbeats 1000000 in
theorem sameTb_any (Γ : Gam) (t t' : Tbl) (s s' : Value) (hb : t.b.length ≤ 65535) (hb' : t'.b.length ≤ 65535) (w : World) (ok : Ok Γ w) (h : TbG Γ (t.c, s) t) (h' : TbG Γ (t'.c, s') t') :
    Calls Try.prog 79 #[.agg (fl (tbP t.c s)).toArray, .agg (fl (tbP t'.c s')).toArray] w fun e w' => e = .returned (.bool (decide (t = t'))) ∧ Ext Γ w Γ w' := by
  have M := bx (MM.start ok)
  obtain ⟨A, k, hs, hA, hr⟩ := h.s
  obtain ⟨A', k', hs', hA', hr'⟩ := h'.s
  simp only at hs hs'
  subst hs; subst hs'
  have HR := bx hr
  have HR' := bx hr'
  have HB := bx hb
  have HB' := bx hb'
  have HS := bx (cp_same t.c t'.c)
  have HD : Bx (decide (t = t') = (decide (t.c = t'.c) && decide ((t.b.map fun x => (x.n : Int)) = (t'.b.map fun x => (x.n : Int))))) := ⟨by
    rw [show decide ((t.b.map fun x => (x.n : Int)) = (t'.b.map fun x => (x.n : Int))) = decide (t.b = t'.b) from by rw [decide_eq_decide]; exact us_inj, Bool.eq_iff_iff]
    simp only [decide_eq_true_eq, Bool.and_eq_true]
    exact ⟨fun e => by rw [e]; exact ⟨rfl, rfl⟩, fun ⟨e1, e2⟩ => by cases t; cases t'; simp only at e1 e2; rw [e1, e2]⟩⟩
  clear h h' hA hA' hr hr' hb hb' ok
  rw [HD.out]
  have hq := HS.out
  cases he : decide (t.c = t'.c) with
  | true =>
    rw [he] at hq
    have HE := bx he
    clear he
    go_enter Try.func79, Try.ntmps79
    go_wp2_with (first | ((with_reducible apply wpList_box M.out); rfl; rfl; rfl; exact tbP_len _ _; intro w' g M' hb'; (clear M; have M := bx M'; clear M'); clear hb') | ((with_reducible apply wpList_ldp M.out.at0); rfl; rfl; rfl; (first | exact rtRoot | exact rtCk | exact rtTb); rfl; rfl) | ((with_reducible apply wpList_ld1 M.out.at0); rfl; rfl; rfl; (first | exact otInt | exact otU64 | exact otU64s); rfl; rfl) | ((with_reducible apply wpList_lds M.out.at0); rfl; rfl; rfl; (first | exact rtRoot | exact rtCk | exact rtTb); rfl; (try simp only [Nat.reduceAdd, List.drop_zero, cut_cp, cut_tb, cut_tb_c])) | ((with_reducible apply wpList_ldp M.out.at1); rfl; rfl; rfl; (first | exact rtRoot | exact rtCk | exact rtTb); rfl; rfl) | ((with_reducible apply wpList_ld1 M.out.at1); rfl; rfl; rfl; (first | exact otInt | exact otU64 | exact otU64s); rfl; rfl) | ((with_reducible apply wpList_lds M.out.at1); rfl; rfl; rfl; (first | exact rtRoot | exact rtCk | exact rtTb); rfl; (try simp only [Nat.reduceAdd, List.drop_zero, cut_cp, cut_tb, cut_tb_c])))
    refine (sameNumbers_any _ A A' t.b.length t'.b.length k k' (t.b.map fun x => (x.n : Int)) (t'.b.map fun x => (x.n : Int)) _ (Nat.le_refl _) ((us_ints t.b) ▸ HR.out.row (size := 1) (by rw [us_len, Nat.mul_one]) M.out.ext.ok) ((us_ints t'.b) ▸ HR'.out.row (size := 1) (by rw [us_len, Nat.mul_one]) M.out.ext.ok) (by have := HB.out; omega) (by have := HB'.out; omega)).mono ?_; rintro e w1 ⟨rfl, hb1⟩
    have M' := M.out.below hb1
    (clear M; have M := bx M'; clear M')
    clear hb1
    go_wp2_with fail
    go_ret
    exact ⟨rfl, M.out.ext⟩
  | false =>
    rw [he] at hq
    have HE := bx he
    clear he
    go_enter Try.func79, Try.ntmps79
    go_wp2_with (first | ((with_reducible apply wpList_box M.out); rfl; rfl; rfl; exact tbP_len _ _; intro w' g M' hb'; (clear M; have M := bx M'; clear M'); clear hb') | ((with_reducible apply wpList_ldp M.out.at0); rfl; rfl; rfl; (first | exact rtRoot | exact rtCk | exact rtTb); rfl; rfl) | ((with_reducible apply wpList_ld1 M.out.at0); rfl; rfl; rfl; (first | exact otInt | exact otU64 | exact otU64s); rfl; rfl) | ((with_reducible apply wpList_lds M.out.at0); rfl; rfl; rfl; (first | exact rtRoot | exact rtCk | exact rtTb); rfl; (try simp only [Nat.reduceAdd, List.drop_zero, cut_cp, cut_tb, cut_tb_c])) | ((with_reducible apply wpList_ldp M.out.at1); rfl; rfl; rfl; (first | exact rtRoot | exact rtCk | exact rtTb); rfl; rfl) | ((with_reducible apply wpList_ld1 M.out.at1); rfl; rfl; rfl; (first | exact otInt | exact otU64 | exact otU64s); rfl; rfl) | ((with_reducible apply wpList_lds M.out.at1); rfl; rfl; rfl; (first | exact rtRoot | exact rtCk | exact rtTb); rfl; (try simp only [Nat.reduceAdd, List.drop_zero, cut_cp, cut_tb, cut_tb_c])))
    go_ret
    exact ⟨rfl, M.out.ext⟩
theorem take_more' {α : Type} {a b : List α} {k : Nat} (ha : k < a.length) (hb : k < b.length) (h : a.take k = b.take k) (he : a[k] = b[k]) : a.take (k + 1) = b.take (k + 1) := by
  rw [List.take_succ_eq_append_getElem ha, List.take_succ_eq_append_getElem hb, h, he]
set_option maxRecDepth 20000 in
set_option maxHeartbeats 1000000 in
theorem sameTbs_any (Γ : Gam) (A A' : Option Addr) (n n' c c' : Nat) (T T' : List Tbl) (hn : n ≤ 65535) (hn' : n' ≤ 65535) (hb : ∀ t ∈ T, t.b.length ≤ 65535) (hb' : ∀ t ∈ T', t.b.length ≤ 65535) (w : World) (ok : Ok Γ w) (h : TsG Γ A n T) (h' : TsG Γ A' n' T') :
    Calls Try.prog 42 #[.slice A n c, .slice A' n' c'] w fun e w' => e = .returned (.bool (decide (T = T'))) ∧ Ext Γ w Γ w' := by
  have M := bx (MM.start ok)
  have HT := bx h
  have HT' := bx h'
  have HB := bx hb
  have HB' := bx hb'
  clear h h' ok hb hb'
  by_cases hnn : n = n'
  · subst hnn
    go_enter Try.func42, Try.ntmps42
    go_wp2_with fail
    go_loopw [5] (fun i wr => ∃ k : Nat, k ≤ n ∧ i = .int .i64 k ∧ T.take k = T'.take k ∧ MM Γ w Γ wr [] []) (fun i _ => n - (intOf i).toNat)
    case atStart => exact ⟨0, Nat.zero_le _, rfl, rfl, M.out⟩
    case round =>
      obtain ⟨k, hk, rfl, htk, hM⟩ := hrel
      clear M
      have M := bx hM
      have HTK := bx htk
      clear hM htk
      by_cases hkn : k < n
      · have hka : k < T.length := by rw [HT.out.1]; exact hkn
        have hkb : k < T'.length := by rw [HT'.out.1]; exact hkn
        obtain ⟨g1, s1, rfl, hs1, hc1⟩ := HT.out.at k hkn
        obtain ⟨g2, s2, rfl, hs2, hc2⟩ := HT'.out.at k hkn
        have Q1 := bx (CL.cls hc1 (tbP_len _ _) M.out.ext.ok)
        have Q2 := bx (CL.cls hc2 (tbP_len _ _) M.out.ext.ok)
        have NX := bx (fun e => take_more' hka hkb HTK.out e)
        have NE := bx (show T[k] ≠ T'[k] → decide (T = T') = false from fun e => decide_eq_false (fun h => by subst h; exact e rfl))
        have SM := bx (fun w1 (h1 : Cls wr.heap.size wr w1) => sameTb_any Γ T[k] T'[k] s1 s2 (HB.out _ (List.getElem_mem hka)) (HB'.out _ (List.getElem_mem hkb)) w1 (M.out.ext.ok.below h1.out) hs1 hs2)
        have hki : (k : Int) < (n : Int) := by omega
        have hk0 : 0 ≤ (k : Int) := by omega
        clear hs1 hs2 hc1 hc2
        generalize T[k] = t1 at *
        generalize T'[k] = t2 at *
        by_cases he : t1 = t2
        · subst he
          rw [show decide (t1 = t1) = true from decide_eq_true rfl] at SM
          go_wp2_with fail
          refine region_cls wr.heap.size (by kernel_rfl) (by kernel_rfl) ?_
          repeat (first | go_big_quiet_skip | (go_big_quiet_want; first | (first | ((with_reducible apply quiet_rdp Q1.out (tbP_len _ _)); rfl; rfl; (first | exact rtRoot | exact rtCk | exact rtTb); rfl; rfl; go_big_quiet_on; (simp only [Act.put, List.setIfInBounds_toArray, List.set_cons_succ, List.set_cons_zero])) | ((with_reducible apply quiet_rd1 Q1.out); rfl; rfl; (first | exact otInt | exact otU64 | exact otU64s); rfl; rfl; go_big_quiet_on; (simp only [Act.put, List.setIfInBounds_toArray, List.set_cons_succ, List.set_cons_zero])) | ((with_reducible apply quiet_rds Q1.out (tbP_len _ _)); rfl; rfl; (first | exact rtRoot | exact rtCk | exact rtTb); rfl; (try simp only [Nat.reduceAdd, List.drop_zero, cut_cp, cut_tb, cut_tb_c]); go_big_quiet_on; (simp only [Act.put, List.setIfInBounds_toArray, List.set_cons_succ, List.set_cons_zero])) | ((with_reducible apply quiet_rdp0 Q1.out (tbP_len _ _)); rfl; rfl; (first | exact rtRoot | exact rtCk | exact rtTb); rfl; rfl; go_big_quiet_on; (simp only [Act.put, List.setIfInBounds_toArray, List.set_cons_succ, List.set_cons_zero])) | ((with_reducible apply quiet_rd10 Q1.out); rfl; rfl; (first | exact otInt | exact otU64 | exact otU64s); rfl; rfl; go_big_quiet_on; (simp only [Act.put, List.setIfInBounds_toArray, List.set_cons_succ, List.set_cons_zero])) | ((with_reducible apply quiet_rds0 Q1.out (tbP_len _ _)); rfl; rfl; (first | exact rtRoot | exact rtCk | exact rtTb); rfl; (try simp only [Nat.reduceAdd, List.drop_zero, cut_cp, cut_tb, cut_tb_c]); go_big_quiet_on; (simp only [Act.put, List.setIfInBounds_toArray, List.set_cons_succ, List.set_cons_zero])) | ((with_reducible apply quiet_rdp Q2.out (tbP_len _ _)); rfl; rfl; (first | exact rtRoot | exact rtCk | exact rtTb); rfl; rfl; go_big_quiet_on; (simp only [Act.put, List.setIfInBounds_toArray, List.set_cons_succ, List.set_cons_zero])) | ((with_reducible apply quiet_rd1 Q2.out); rfl; rfl; (first | exact otInt | exact otU64 | exact otU64s); rfl; rfl; go_big_quiet_on; (simp only [Act.put, List.setIfInBounds_toArray, List.set_cons_succ, List.set_cons_zero])) | ((with_reducible apply quiet_rds Q2.out (tbP_len _ _)); rfl; rfl; (first | exact rtRoot | exact rtCk | exact rtTb); rfl; (try simp only [Nat.reduceAdd, List.drop_zero, cut_cp, cut_tb, cut_tb_c]); go_big_quiet_on; (simp only [Act.put, List.setIfInBounds_toArray, List.set_cons_succ, List.set_cons_zero])) | ((with_reducible apply quiet_rdp0 Q2.out (tbP_len _ _)); rfl; rfl; (first | exact rtRoot | exact rtCk | exact rtTb); rfl; rfl; go_big_quiet_on; (simp only [Act.put, List.setIfInBounds_toArray, List.set_cons_succ, List.set_cons_zero])) | ((with_reducible apply quiet_rd10 Q2.out); rfl; rfl; (first | exact otInt | exact otU64 | exact otU64s); rfl; rfl; go_big_quiet_on; (simp only [Act.put, List.setIfInBounds_toArray, List.set_cons_succ, List.set_cons_zero])) | ((with_reducible apply quiet_rds0 Q2.out (tbP_len _ _)); rfl; rfl; (first | exact rtRoot | exact rtCk | exact rtTb); rfl; (try simp only [Nat.reduceAdd, List.drop_zero, cut_cp, cut_tb, cut_tb_c]); go_big_quiet_on; (simp only [Act.put, List.setIfInBounds_toArray, List.set_cons_succ, List.set_cons_zero])) | ((refine quiet_call (quietE SM.out) Try.func79 rfl rfl rfl ?_ ?_); rfl; go_big_quiet_on; (simp only [Act.put, List.setIfInBounds_toArray, List.set_cons_succ, List.set_cons_zero]))) | (go_big_quiet_op; first | go_big_quiet_on | ((with_reducible refine ⟨_, fun _ _ => rfl, ?_⟩); go_big_quiet_on))))
          refine wpQuiet_nil ?_; intro w4 hw4; have M' := M.out.below hw4.out; (clear M; have M := bx M'; clear M'); clear hw4
          go_wp2_with fail
          go_roundw
          case rel => exact ⟨k + 1, by omega, by go_num, NX.out (by first | rfl | trivial), M.out⟩
          case measure => simp [intOf]; omega
        · rw [show decide (t1 = t2) = false from decide_eq_false he] at SM
          have NE' := bx (NE.out he)
          clear he NE
          go_wp2_with fail
          refine region_cls wr.heap.size (by kernel_rfl) (by kernel_rfl) ?_
          repeat (first | go_big_quiet_skip | (go_big_quiet_want; first | (first | ((with_reducible apply quiet_rdp Q1.out (tbP_len _ _)); rfl; rfl; (first | exact rtRoot | exact rtCk | exact rtTb); rfl; rfl; go_big_quiet_on; (simp only [Act.put, List.setIfInBounds_toArray, List.set_cons_succ, List.set_cons_zero])) | ((with_reducible apply quiet_rd1 Q1.out); rfl; rfl; (first | exact otInt | exact otU64 | exact otU64s); rfl; rfl; go_big_quiet_on; (simp only [Act.put, List.setIfInBounds_toArray, List.set_cons_succ, List.set_cons_zero])) | ((with_reducible apply quiet_rds Q1.out (tbP_len _ _)); rfl; rfl; (first | exact rtRoot | exact rtCk | exact rtTb); rfl; (try simp only [Nat.reduceAdd, List.drop_zero, cut_cp, cut_tb, cut_tb_c]); go_big_quiet_on; (simp only [Act.put, List.setIfInBounds_toArray, List.set_cons_succ, List.set_cons_zero])) | ((with_reducible apply quiet_rdp0 Q1.out (tbP_len _ _)); rfl; rfl; (first | exact rtRoot | exact rtCk | exact rtTb); rfl; rfl; go_big_quiet_on; (simp only [Act.put, List.setIfInBounds_toArray, List.set_cons_succ, List.set_cons_zero])) | ((with_reducible apply quiet_rd10 Q1.out); rfl; rfl; (first | exact otInt | exact otU64 | exact otU64s); rfl; rfl; go_big_quiet_on; (simp only [Act.put, List.setIfInBounds_toArray, List.set_cons_succ, List.set_cons_zero])) | ((with_reducible apply quiet_rds0 Q1.out (tbP_len _ _)); rfl; rfl; (first | exact rtRoot | exact rtCk | exact rtTb); rfl; (try simp only [Nat.reduceAdd, List.drop_zero, cut_cp, cut_tb, cut_tb_c]); go_big_quiet_on; (simp only [Act.put, List.setIfInBounds_toArray, List.set_cons_succ, List.set_cons_zero])) | ((with_reducible apply quiet_rdp Q2.out (tbP_len _ _)); rfl; rfl; (first | exact rtRoot | exact rtCk | exact rtTb); rfl; rfl; go_big_quiet_on; (simp only [Act.put, List.setIfInBounds_toArray, List.set_cons_succ, List.set_cons_zero])) | ((with_reducible apply quiet_rd1 Q2.out); rfl; rfl; (first | exact otInt | exact otU64 | exact otU64s); rfl; rfl; go_big_quiet_on; (simp only [Act.put, List.setIfInBounds_toArray, List.set_cons_succ, List.set_cons_zero])) | ((with_reducible apply quiet_rds Q2.out (tbP_len _ _)); rfl; rfl; (first | exact rtRoot | exact rtCk | exact rtTb); rfl; (try simp only [Nat.reduceAdd, List.drop_zero, cut_cp, cut_tb, cut_tb_c]); go_big_quiet_on; (simp only [Act.put, List.setIfInBounds_toArray, List.set_cons_succ, List.set_cons_zero])) | ((with_reducible apply quiet_rdp0 Q2.out (tbP_len _ _)); rfl; rfl; (first | exact rtRoot | exact rtCk | exact rtTb); rfl; rfl; go_big_quiet_on; (simp only [Act.put, List.setIfInBounds_toArray, List.set_cons_succ, List.set_cons_zero])) | ((with_reducible apply quiet_rd10 Q2.out); rfl; rfl; (first | exact otInt | exact otU64 | exact otU64s); rfl; rfl; go_big_quiet_on; (simp only [Act.put, List.setIfInBounds_toArray, List.set_cons_succ, List.set_cons_zero])) | ((with_reducible apply quiet_rds0 Q2.out (tbP_len _ _)); rfl; rfl; (first | exact rtRoot | exact rtCk | exact rtTb); rfl; (try simp only [Nat.reduceAdd, List.drop_zero, cut_cp, cut_tb, cut_tb_c]); go_big_quiet_on; (simp only [Act.put, List.setIfInBounds_toArray, List.set_cons_succ, List.set_cons_zero])) | ((refine quiet_call (quietE SM.out) Try.func79 rfl rfl rfl ?_ ?_); rfl; go_big_quiet_on; (simp only [Act.put, List.setIfInBounds_toArray, List.set_cons_succ, List.set_cons_zero]))) | (go_big_quiet_op; first | go_big_quiet_on | ((with_reducible refine ⟨_, fun _ _ => rfl, ?_⟩); go_big_quiet_on))))
          refine wpQuiet_nil ?_; intro w4 hw4; have M' := M.out.below hw4.out; (clear M; have M := bx M'; clear M'); clear hw4
          go_wp2_with fail
          go_ret
          exact ⟨by rw [NE'.out]; rfl, M.out.ext⟩
      · obtain rfl : k = n := by omega
        have he : T = T' := by
          have h1 : T.take k = T := List.take_of_length_le (by rw [HT.out.1]; exact Nat.le_refl _)
          have h2 : T'.take k = T' := List.take_of_length_le (by rw [HT'.out.1]; exact Nat.le_refl _)
          rw [← h1, ← h2]; exact HTK.out
        have HD : Bx (decide (T = T') = true) := ⟨decide_eq_true he⟩
        clear he
        go_wp2_with fail
        go_ret
        exact ⟨by rw [HD.out]; rfl, M.out.ext⟩
  · have hne' : ((n : Int) != (n' : Int)) = true := by simp; omega
    have HD : Bx (decide (T = T') = false) := ⟨decide_eq_false (fun e => hnn (by rw [← HT.out.1, ← HT'.out.1, e]))⟩
    go_enter Try.func42, Try.ntmps42
    go_wp2_with fail
    go_ret
    exact ⟨by rw [HD.out]; rfl, M.out.ext⟩
end Go.Proofs.Ytekikfdlnkcenaa
