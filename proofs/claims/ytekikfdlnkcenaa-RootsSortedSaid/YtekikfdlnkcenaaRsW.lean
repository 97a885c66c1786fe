/- RootsLists and RootsSorted, walked. -/
import Derived.Test.YtekikfdlnkcenaaRsF
import Derived.Test.YtekikfdlnkcenaaQRoots
namespace Go.Proofs.Ytekikfdlnkcenaa
open Go.RowKit Go.Sort
theorem rts_of : ∀ {ls : List (List Int)}, (∀ l ∈ ls, l.length = 32 ∧ Fit .u8 l) → ∃ X : List Rt, ls.flatMap (ints .u8) = X.flatMap rc ∧ X.length = ls.length
  | [], _ => ⟨[], rfl, rfl⟩
  | l :: ls, h => by
    obtain ⟨X, e, hl⟩ := rts_of (ls := ls) (fun y hy => h y (by simp [hy]))
    obtain ⟨h1, h2⟩ := h l (by simp)
    refine ⟨⟨l, h1, fit_u8 h2⟩ :: X, ?_, by simp [hl]⟩
    rw [List.flatMap_cons, List.flatMap_cons, e]; rfl
theorem rootsAt {Γ : Gam} {A : Option Addr} {U : List Rt} (h : SlG Γ A U.length (rts U)) (i : Nat) (hi : i < U.length) : ∃ g, A = some ⟨g, 0, none⟩ ∧ Fz Γ g (i * 32) [rc U[i]] [32] := by
  obtain ⟨g, h1, h2⟩ := SlG.at (f := rc) (k := 32) h (fun x _ => rc_len x) rfl i hi
  exact ⟨g, h1, by simpa [fl] using h2, lenR _⟩
theorem rsU_nil {X : List Rt} (h : X = []) : rsU X = [] := by subst h; rfl
theorem rsU_ne {X : List Rt} (h : X ≠ []) : rsU X ≠ [] := fun e => by
  obtain ⟨x, hx⟩ := List.exists_mem_of_ne_nil X h
  have := ((rsU_law X).2 x).2 hx
  rw [e] at this; cases this
theorem rsU_last {X : List Rt} {m : Rt} (hm : m ∈ X) (hx : ∀ x ∈ X, cmpRt x m ≤ 0) (p : Nat) (hp : (rsU X).length = p + 1) : (rsU X)[p]'(by omega) = m := by
  have hne : rsU X ≠ [] := fun e => by rw [e] at hp; cases hp
  have h1 := AscR.last (rsU_law X).1 hne (((rsU_law X).2 m).2 hm)
  have e1 : (rsU X).getLast hne = (rsU X)[p]'(by omega) := by rw [List.getLast_eq_getElem]; congr 1; omega
  rw [e1] at h1
  have h2 := hx _ (((rsU_law X).2 _).1 (List.getElem_mem (show p < (rsU X).length by omega)))
  have h3 := cmpRt_flip m ((rsU X)[p]'(by omega))
  exact (cmpRt_zero (by omega)).symm
set_option maxRecDepth 20000 in
set_option maxHeartbeats 1000000 in
theorem rootsLists_walk (A0 : Option Addr) (n0 c0 : Nat) (ls : List (List Int)) (rl : List Int) (w : World) (hf : ∀ l ∈ ls, l.length = 32 ∧ Fit .u8 l) (hl : ls.length = n0) (hr : Row w w.heap.size 32 A0 n0 (ls.flatMap (ints .u8))) (hc : n0 ≤ c0) (hm : c0 ≤ maxLen) (hr1 : rl.length = 32) (hr2 : Fit .u8 rl) :
    Calls Try.prog 5 #[.slice A0 n0 c0, .agg (ints .u8 rl).toArray] w fun e w' => e = .returned (.bool true) ∧ Below w.heap.size w w' := by
  obtain ⟨X, eX, hXl⟩ := rts_of hf
  rw [eX] at hr
  have HR : Bx (RtRow w A0 n0 X) := ⟨⟨by rw [hXl, hl], hr⟩⟩
  have hn63 : n0 ≤ 9223372036854775807 := by unfold maxLen at hm; omega
  obtain ⟨r, er⟩ : ∃ r : Rt, rl = r.l := ⟨⟨rl, hr1, fit_u8 hr2⟩, rfl⟩
  subst er
  clear hf hl hr hc hm hr1 hr2 eX hXl
  have M := bx (MM.start (ok_g0 w))
  change Calls Try.prog _ #[_, .agg (fl [rc r]).toArray] _ _
  by_cases hbig : 60 < n0
  · have hbi : (60 : Int) < (n0 : Int) := by omega
    go_enter Try.func5, Try.ntmps5
    go_wp2_with ((with_reducible apply wpList_box M.out); rfl; rfl; rfl; exact lenR r; intro w' g M' hb'; (clear M; have M := bx M'; clear M'); clear hb')
    refine (Rr.roots_awake _).mono ?_; rintro e w9 ⟨rfl, hb⟩; have M' := M.out.below hb; (clear M; have M := bx M'; clear M'); clear hb
    go_wp2_with fail
    go_ret
    exact ⟨rfl, M.out.ext.bel⟩
  · have hbi : ¬ (60 : Int) < (n0 : Int) := by omega
    have hn5 : n0 ≤ 65535 := by omega
    go_enter Try.func5, Try.ntmps5
    go_wp2_with ((with_reducible apply wpList_box M.out); rfl; rfl; rfl; exact lenR r; intro w' g M' hb'; (clear M; have M := bx M'; clear M'); clear hb')
    obtain ⟨g3, hg3⟩ : ∃ x, x = g := ⟨_, rfl⟩
    subst hg3
    refine (sortR_any g0 A0 n0 c0 X hn5 _ M.out.ext.ok (HR.out.below M.out.ext.bel)).mono ?_; rintro e w1 ⟨A1, c1, Γ1, rfl, _, hs1, hx⟩
    have M' := M.out.call hx
    (clear M; have M := bx M'; clear M')
    have S1 := bx hs1
    clear hx hs1
    go_wp2_with fail
    refine (refSortR_any Γ1 A0 n0 c0 X hn5 _ M.out.ext.ok (HR.out.below M.out.ext.bel)).mono ?_; rintro e w2 ⟨A2, c2, Γ2, rfl, _, hs2, hx⟩
    have M' := M.out.call hx
    (clear M; have M := bx M'; clear M')
    have S2 := bx hs2
    have S1' := bx (S1.out.mono hx.le)
    clear S1 hx hs2
    have HLE : Bx ((rsU X).length ≤ 60) := ⟨by have := rsU_len X; rw [HR.out.1] at this; omega⟩
    have UNIL := bx (fun h => rsU_nil (X := X) h)
    have UNE : Bx (∀ m, m ∈ X → rsU X ≠ []) := ⟨fun m hm => rsU_ne (fun e => by rw [e] at hm; cases hm)⟩
    obtain ⟨U, hU⟩ : ∃ U, rsU X = U := ⟨_, rfl⟩
    have LST : Bx (∀ m, m ∈ X → (∀ x ∈ X, cmpRt x m ≤ 0) → ∀ p (hp : p < U.length), U.length = p + 1 → U[p] = m) := ⟨fun m hm hx p _ hl => by
      subst hU
      exact rsU_last hm hx p hl⟩
    rw [hU] at S1' S2 HLE UNIL UNE ⊢
    clear hU
    have hle := HLE.out
    go_wp2_with fail
    have QM := bx M.out.at0.cls
    have C1 := bx (fun w' (h : Cls w2.heap.size w2 w') => containsR_any A0 n0 c0 X r hn5 w' (HR.out.below (M.out.ext.bel.trans (h.out.mono M.out.ext.bel.size))))
    have C2 := bx (fun w' (h : Cls w2.heap.size w2 w') => refContainsR_any A0 n0 c0 X r hn5 w' (HR.out.below (M.out.ext.bel.trans (h.out.mono M.out.ext.bel.size))))
    generalize decide (r ∈ X) = hasR at *
    refine region_cls w2.heap.size (by kernel_rfl) (by kernel_rfl) ?_
    repeat (first | go_big_quiet_skip | (go_big_quiet_want; first | (first | ((with_reducible apply quiet_ldp QM.out (lenR _)); rfl; rfl; (first | exact rtRoot | exact rtCk | exact rtTb); rfl; rfl; go_big_quiet_on; (simp only [Act.put, List.setIfInBounds_toArray, List.set_cons_succ, List.set_cons_zero])) | ((with_reducible apply quiet_ld1 QM.out); rfl; rfl; (first | exact otInt | exact otU64 | exact otU64s); rfl; rfl; go_big_quiet_on; (simp only [Act.put, List.setIfInBounds_toArray, List.set_cons_succ, List.set_cons_zero])) | ((with_reducible apply quiet_lds QM.out (lenR _)); rfl; rfl; (first | exact rtRoot | exact rtCk | exact rtTb); rfl; (try simp only [Nat.reduceAdd, List.drop_zero, cut_cp, cut_tb, cut_tb_c]); go_big_quiet_on; (simp only [Act.put, List.setIfInBounds_toArray, List.set_cons_succ, List.set_cons_zero])) | ((refine quiet_call (quietB C1.out) Try.func19 rfl rfl rfl ?_ ?_); rfl; go_big_quiet_on; (simp only [Act.put, List.setIfInBounds_toArray, List.set_cons_succ, List.set_cons_zero])) | ((refine quiet_call (quietB C2.out) Try.func21 rfl rfl rfl ?_ ?_); rfl; go_big_quiet_on; (simp only [Act.put, List.setIfInBounds_toArray, List.set_cons_succ, List.set_cons_zero]))) | (go_big_quiet_op; first | go_big_quiet_on | ((with_reducible refine ⟨_, fun _ _ => rfl, ?_⟩); go_big_quiet_on))))
    refine wpQuiet_nil ?_; intro w4 hw4; have M' := M.out.below hw4.out; (clear M; have M := bx M'; clear M'); clear hw4
    clear QM C1 C2
    go_wp2_with fail
    go_loopw [7] (fun i wr => ∃ k : Nat, k ≤ U.length ∧ i = .int .i64 k ∧ MM g0 w Γ2 wr [⟨g3, [rc r], [32]⟩] []) (fun i _ => U.length - (intOf i).toNat)
    case atStart => exact ⟨0, Nat.zero_le _, rfl, M.out⟩
    case round =>
      obtain ⟨k, hk, rfl, hM⟩ := hrel
      clear M
      have M := bx hM
      clear hM
      by_cases hkn : k < U.length
      · obtain ⟨ga, rfl, hfa⟩ := rootsAt S1'.out k hkn
        obtain ⟨gb, rfl, hfb⟩ := rootsAt S2.out k hkn
        have FA := bx hfa
        have FB := bx hfb
        have hki : (k : Int) < (U.length : Int) := by omega
        have hk0 : 0 ≤ (k : Int) := by omega
        clear hfa hfb
        have hq := rt_same U[k] U[k]
        rw [decide_eq_true rfl] at hq
        generalize U[k] = u at *
        go_wp2_with fail
        refine region_cls wr.heap.size (by kernel_rfl) (by kernel_rfl) ?_
        repeat (first | go_big_quiet_skip | (go_big_quiet_want; first | (first | ((with_reducible apply quiet_rdp (FA.out.cls M.out.ext.ok) FA.out.len); rfl; rfl; (first | exact rtRoot | exact rtCk | exact rtTb); rfl; rfl; go_big_quiet_on; (simp only [Act.put, List.setIfInBounds_toArray, List.set_cons_succ, List.set_cons_zero])) | ((with_reducible apply quiet_rd1 (FA.out.cls M.out.ext.ok)); rfl; rfl; (first | exact otInt | exact otU64 | exact otU64s); rfl; rfl; go_big_quiet_on; (simp only [Act.put, List.setIfInBounds_toArray, List.set_cons_succ, List.set_cons_zero])) | ((with_reducible apply quiet_rds (FA.out.cls M.out.ext.ok) FA.out.len); rfl; rfl; (first | exact rtRoot | exact rtCk | exact rtTb); rfl; (try simp only [Nat.reduceAdd, List.drop_zero, cut_cp, cut_tb, cut_tb_c]); go_big_quiet_on; (simp only [Act.put, List.setIfInBounds_toArray, List.set_cons_succ, List.set_cons_zero])) | ((with_reducible apply quiet_rdp0 (FA.out.cls M.out.ext.ok) FA.out.len); rfl; rfl; (first | exact rtRoot | exact rtCk | exact rtTb); rfl; rfl; go_big_quiet_on; (simp only [Act.put, List.setIfInBounds_toArray, List.set_cons_succ, List.set_cons_zero])) | ((with_reducible apply quiet_rd10 (FA.out.cls M.out.ext.ok)); rfl; rfl; (first | exact otInt | exact otU64 | exact otU64s); rfl; rfl; go_big_quiet_on; (simp only [Act.put, List.setIfInBounds_toArray, List.set_cons_succ, List.set_cons_zero])) | ((with_reducible apply quiet_rds0 (FA.out.cls M.out.ext.ok) FA.out.len); rfl; rfl; (first | exact rtRoot | exact rtCk | exact rtTb); rfl; (try simp only [Nat.reduceAdd, List.drop_zero, cut_cp, cut_tb, cut_tb_c]); go_big_quiet_on; (simp only [Act.put, List.setIfInBounds_toArray, List.set_cons_succ, List.set_cons_zero])) | ((with_reducible apply quiet_rdp (FB.out.cls M.out.ext.ok) FB.out.len); rfl; rfl; (first | exact rtRoot | exact rtCk | exact rtTb); rfl; rfl; go_big_quiet_on; (simp only [Act.put, List.setIfInBounds_toArray, List.set_cons_succ, List.set_cons_zero])) | ((with_reducible apply quiet_rd1 (FB.out.cls M.out.ext.ok)); rfl; rfl; (first | exact otInt | exact otU64 | exact otU64s); rfl; rfl; go_big_quiet_on; (simp only [Act.put, List.setIfInBounds_toArray, List.set_cons_succ, List.set_cons_zero])) | ((with_reducible apply quiet_rds (FB.out.cls M.out.ext.ok) FB.out.len); rfl; rfl; (first | exact rtRoot | exact rtCk | exact rtTb); rfl; (try simp only [Nat.reduceAdd, List.drop_zero, cut_cp, cut_tb, cut_tb_c]); go_big_quiet_on; (simp only [Act.put, List.setIfInBounds_toArray, List.set_cons_succ, List.set_cons_zero])) | ((with_reducible apply quiet_rdp0 (FB.out.cls M.out.ext.ok) FB.out.len); rfl; rfl; (first | exact rtRoot | exact rtCk | exact rtTb); rfl; rfl; go_big_quiet_on; (simp only [Act.put, List.setIfInBounds_toArray, List.set_cons_succ, List.set_cons_zero])) | ((with_reducible apply quiet_rd10 (FB.out.cls M.out.ext.ok)); rfl; rfl; (first | exact otInt | exact otU64 | exact otU64s); rfl; rfl; go_big_quiet_on; (simp only [Act.put, List.setIfInBounds_toArray, List.set_cons_succ, List.set_cons_zero])) | ((with_reducible apply quiet_rds0 (FB.out.cls M.out.ext.ok) FB.out.len); rfl; rfl; (first | exact rtRoot | exact rtCk | exact rtTb); rfl; (try simp only [Nat.reduceAdd, List.drop_zero, cut_cp, cut_tb, cut_tb_c]); go_big_quiet_on; (simp only [Act.put, List.setIfInBounds_toArray, List.set_cons_succ, List.set_cons_zero]))) | (go_big_quiet_op; first | go_big_quiet_on | ((with_reducible refine ⟨_, fun _ _ => rfl, ?_⟩); go_big_quiet_on))))
        refine wpQuiet_nil ?_; intro w4 hw4; have M' := M.out.below hw4.out; (clear M; have M := bx M'; clear M'); clear hw4
        go_wp2_with fail
        go_roundw
        case rel => exact ⟨k + 1, by omega, by go_num, M.out⟩
        case measure => simp [intOf]; omega
      · obtain rfl : U.length = k := by omega
        go_wp2_with fail
        refine (greatestR_any A0 n0 c0 X hn5 _ (HR.out.below M.out.ext.bel)).mono ?_; rintro e w4 ⟨hg, hb⟩
        have M' := M.out.below hb
        (clear M; have M := bx M'; clear M')
        clear hb
        rcases hg with ⟨hX, rfl⟩ | ⟨m, rfl, hm, hmx⟩
        · have hU := UNIL.out hX
          subst hU
          have hq := rt_same r0 r0
          rw [decide_eq_true rfl] at hq
          clear hX
          go_wp2_with (first | ((with_reducible apply wpList_alc M.out); rfl; rfl; exact ztRt; intro w' g M' hb'; (clear M; have M := bx M'; clear M'); clear hb') | ((with_reducible apply wpList_sts M.out 0 [rc r0] [rc r0]); rfl; rfl; rfl; rfl; rfl; (first | exact rtRoot | exact rtCk | exact rtTb); rfl; exact lenR _; exact rc_one _; rfl; intro w' M' hg'; (simp only [List.set_cons_zero, List.set_cons_succ] at M'); (clear M; have M := bx M'; clear M'); clear hg') | ((with_reducible refine wpList_bldG rfl 33 _ rfl [] (rc r0) ?_ (by kernel_rfl) ?_); rfl) | ((with_reducible apply wpList_ldp M.out.at0); rfl; rfl; rfl; (first | exact rtRoot | exact rtCk | exact rtTb); rfl; rfl) | ((with_reducible apply wpList_ld1 M.out.at0); rfl; rfl; rfl; (first | exact otInt | exact otU64 | exact otU64s); rfl; rfl) | ((with_reducible apply wpList_lds M.out.at0); rfl; rfl; rfl; (first | exact rtRoot | exact rtCk | exact rtTb); rfl; (try simp only [Nat.reduceAdd, List.drop_zero, cut_cp, cut_tb, cut_tb_c])))
          refine (Rr.roots_awake _).mono ?_; rintro e w9 ⟨rfl, hb⟩; have M' := M.out.below hb; (clear M; have M := bx M'; clear M'); clear hb
          go_wp2_with fail
          go_ret
          exact ⟨rfl, M.out.ext.bel⟩
        · have hne := UNE.out m hm
          obtain ⟨p, hp⟩ : ∃ p, U.length = p + 1 := ⟨U.length - 1, by have := List.length_pos_iff.2 hne; omega⟩
          have hpl : p < U.length := by omega
          have hLm := LST.out m hm hmx p hpl hp
          obtain ⟨gb, rfl, hfb⟩ := rootsAt S2.out p hpl
          rw [hLm] at hfb
          have FB := bx hfb
          have hq := rt_same m m
          rw [decide_eq_true rfl] at hq
          have HP := bx hp
          have hp0 : (0 : Int) ≤ (p : Int) := by omega
          have hp60 : (p : Int) < 60 := by omega
          clear hfb hLm hne hm hmx hpl hkn hk hle
          rw [HP.out]
          go_wp2_with (first | ((with_reducible apply wpList_alc M.out); rfl; rfl; exact ztRt; intro w' g M' hb'; (clear M; have M := bx M'; clear M'); clear hb') | ((with_reducible apply wpList_sts M.out 0 [rc m] [rc m]); rfl; rfl; rfl; rfl; rfl; (first | exact rtRoot | exact rtCk | exact rtTb); rfl; exact lenR _; exact rc_one _; rfl; intro w' M' hg'; (simp only [List.set_cons_zero, List.set_cons_succ] at M'); (clear M; have M := bx M'; clear M'); clear hg'))
          have QM := bx M.out.at0.cls
          refine region_cls w'.heap.size (by kernel_rfl) (by kernel_rfl) ?_
          repeat (first | go_big_quiet_skip | (go_big_quiet_want; first | (first | ((with_reducible apply quiet_ldp QM.out (lenR _)); rfl; rfl; (first | exact rtRoot | exact rtCk | exact rtTb); rfl; rfl; go_big_quiet_on; (simp only [Act.put, List.setIfInBounds_toArray, List.set_cons_succ, List.set_cons_zero])) | ((with_reducible apply quiet_ld1 QM.out); rfl; rfl; (first | exact otInt | exact otU64 | exact otU64s); rfl; rfl; go_big_quiet_on; (simp only [Act.put, List.setIfInBounds_toArray, List.set_cons_succ, List.set_cons_zero])) | ((with_reducible apply quiet_lds QM.out (lenR _)); rfl; rfl; (first | exact rtRoot | exact rtCk | exact rtTb); rfl; (try simp only [Nat.reduceAdd, List.drop_zero, cut_cp, cut_tb, cut_tb_c]); go_big_quiet_on; (simp only [Act.put, List.setIfInBounds_toArray, List.set_cons_succ, List.set_cons_zero])) | ((with_reducible apply quiet_rdp (FB.out.cls M.out.ext.ok) FB.out.len); rfl; rfl; (first | exact rtRoot | exact rtCk | exact rtTb); rfl; rfl; go_big_quiet_on; (simp only [Act.put, List.setIfInBounds_toArray, List.set_cons_succ, List.set_cons_zero])) | ((with_reducible apply quiet_rd1 (FB.out.cls M.out.ext.ok)); rfl; rfl; (first | exact otInt | exact otU64 | exact otU64s); rfl; rfl; go_big_quiet_on; (simp only [Act.put, List.setIfInBounds_toArray, List.set_cons_succ, List.set_cons_zero])) | ((with_reducible apply quiet_rds (FB.out.cls M.out.ext.ok) FB.out.len); rfl; rfl; (first | exact rtRoot | exact rtCk | exact rtTb); rfl; (try simp only [Nat.reduceAdd, List.drop_zero, cut_cp, cut_tb, cut_tb_c]); go_big_quiet_on; (simp only [Act.put, List.setIfInBounds_toArray, List.set_cons_succ, List.set_cons_zero])) | ((with_reducible apply quiet_rdp0 (FB.out.cls M.out.ext.ok) FB.out.len); rfl; rfl; (first | exact rtRoot | exact rtCk | exact rtTb); rfl; rfl; go_big_quiet_on; (simp only [Act.put, List.setIfInBounds_toArray, List.set_cons_succ, List.set_cons_zero])) | ((with_reducible apply quiet_rd10 (FB.out.cls M.out.ext.ok)); rfl; rfl; (first | exact otInt | exact otU64 | exact otU64s); rfl; rfl; go_big_quiet_on; (simp only [Act.put, List.setIfInBounds_toArray, List.set_cons_succ, List.set_cons_zero])) | ((with_reducible apply quiet_rds0 (FB.out.cls M.out.ext.ok) FB.out.len); rfl; rfl; (first | exact rtRoot | exact rtCk | exact rtTb); rfl; (try simp only [Nat.reduceAdd, List.drop_zero, cut_cp, cut_tb, cut_tb_c]); go_big_quiet_on; (simp only [Act.put, List.setIfInBounds_toArray, List.set_cons_succ, List.set_cons_zero])) | ((refine quiet_call (quietB (fun w1 _ => Rr.roots_awake w1)) Try.func16 rfl rfl rfl ?_ ?_); rfl; go_big_quiet_on; (simp only [Act.put, List.setIfInBounds_toArray, List.set_cons_succ, List.set_cons_zero]))) | (go_big_quiet_op; first | go_big_quiet_on | ((with_reducible refine ⟨_, fun _ _ => rfl, ?_⟩); go_big_quiet_on))))
          refine wpQuiet_nil ?_; intro w4 hw4; have M' := M.out.below hw4.out; (clear M; have M := bx M'; clear M'); clear hw4
          go_wp2_with fail
          go_ret
          exact ⟨rfl, M.out.ext.bel⟩
end Go.Proofs.Ytekikfdlnkcenaa
