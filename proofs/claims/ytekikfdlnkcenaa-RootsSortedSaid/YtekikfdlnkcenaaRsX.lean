/- RootsSorted, walked. -/
import Derived.Test.YtekikfdlnkcenaaRsW
namespace Go.Proofs.Ytekikfdlnkcenaa
open Go.RowKit Go.Sort
set_option maxRecDepth 20000 in
set_option maxHeartbeats 1000000 in
theorem rootsSorted_walk (A0 : Option Addr) (n0 c0 : Nat) (ls : List (List Int)) (w : World) (hf : ∀ l ∈ ls, l.length = 32 ∧ Fit .u8 l) (hl : ls.length = n0) (hr : Row w w.heap.size 32 A0 n0 (ls.flatMap (ints .u8))) (hc : n0 ≤ c0) (hm : c0 ≤ maxLen) :
    Calls Try.prog 4 #[.slice A0 n0 c0] w fun e w' => e = .returned (.bool true) ∧ Below w.heap.size w w' := by
  obtain ⟨X, eX, hXl⟩ := rts_of hf
  rw [eX] at hr
  have HR : Bx (RtRow w A0 n0 X) := ⟨⟨by rw [hXl, hl], hr⟩⟩
  have hn63 : n0 ≤ 9223372036854775807 := by unfold maxLen at hm; omega
  clear hf hl hr hc hm eX hXl
  have M := bx (MM.start (ok_g0 w))
  by_cases hbig : 60 < n0
  · have hbi : (60 : Int) < (n0 : Int) := by omega
    go_enter Try.func4, Try.ntmps4
    go_wp2_with fail
    refine (Rr.roots_awake _).mono ?_; rintro e w9 ⟨rfl, hb⟩; have M' := M.out.below hb; (clear M; have M := bx M'; clear M'); clear hb
    go_wp2_with fail
    go_ret
    exact ⟨rfl, M.out.ext.bel⟩
  · have hbi : ¬ (60 : Int) < (n0 : Int) := by omega
    have hn5 : n0 ≤ 65535 := by omega
    have HN0 := bx hn5
    go_enter Try.func4, Try.ntmps4
    go_wp2_with fail
    refine (sortR_any g0 A0 n0 c0 X hn5 _ M.out.ext.ok (HR.out.below M.out.ext.bel)).mono ?_; rintro e w1 ⟨A1, c1, Γ1, rfl, _, hs1, hx⟩
    have M' := M.out.call hx
    (clear M; have M := bx M'; clear M')
    have hlu : (rsU X).length ≤ n0 := by have := rsU_len X; rw [HR.out.1] at this; exact this
    have HS := bx (sortR_any Γ1 A1 (rsU X).length c1 (rsU X) (by omega) w1 M.out.ext.ok ⟨rfl, hs1.row (size := 32) (rts_len _) M.out.ext.ok⟩)
    rw [rsU_idem] at HS
    have S1 := bx hs1
    have MEM := bx (rsU_law X).2
    have ASC := bx (rsU_law X).1
    clear hx hs1
    obtain ⟨U, hU⟩ : ∃ U, rsU X = U := ⟨_, rfl⟩
    rw [hU] at S1 HS MEM ASC hlu ⊢
    clear hU
    go_wp2_with fail
    refine HS.out.mono ?_; rintro e w2 ⟨A2, c2, Γ2, rfl, _, hs2, hx⟩
    have M' := M.out.call hx
    (clear M; have M := bx M'; clear M')
    have S2 := bx hs2
    have S1' := bx (S1.out.mono hx.le)
    clear S1 HS hx hs2
    have hli : ¬ (n0 : Int) < (U.length : Int) := by omega
    have hlu6 : U.length ≤ 60 := by omega
    have hd1 : decide ((n0 : Int) < (U.length : Int)) = false := decide_eq_false hli
    have hd2 : decide (n0 < U.length) = false := decide_eq_false (by omega)
    have CON := bx (fun (x : Rt) w' (h : Below w.heap.size w w') => containsR_any A0 n0 c0 X x hn5 w' (HR.out.below h))
    clear hlu
    go_wp2_with fail
    go_loopw [5] (fun i wr => ∃ k : Nat, k ≤ U.length ∧ i = .int .i64 k ∧ MM g0 w Γ2 wr [] []) (fun i _ => U.length - (intOf i).toNat)
    case atStart => exact ⟨0, Nat.zero_le _, rfl, M.out⟩
    case round =>
      obtain ⟨k, hk, rfl, hM⟩ := hrel
      clear M
      have M := bx hM
      clear hM
      by_cases hkn : k < U.length
      · obtain ⟨ga, rfl, hfa⟩ := rootsAt S1'.out k hkn
        obtain ⟨gb, rfl, hfb⟩ := rootsAt S2.out k hkn
        have FA := bx hfa
        have FB := bx hfb
        have hki : (k : Int) < (U.length : Int) := by omega
        have hk0 : 0 ≤ (k : Int) := by omega
        have HU := bx ((MEM.out _).1 (List.getElem_mem hkn))
        have CK := bx (fun w' (h : Cls wr.heap.size wr w') => CON.out U[k] w' (M.out.ext.bel.trans (h.out.mono M.out.ext.bel.size)))
        rw [decide_eq_true HU.out] at CK
        clear hfa hfb
        rcases Nat.eq_zero_or_pos k with hk00 | hk00
        · subst hk00
          have hq := rt_same U[0] U[0]
          rw [decide_eq_true rfl] at hq
          generalize U[0] = u at *
          go_wp2_with fail
          refine region_cls wr.heap.size (by kernel_rfl) (by kernel_rfl) ?_
          repeat (first | go_big_quiet_skip | (go_big_quiet_want; first | (first | ((with_reducible apply quiet_rdp (FA.out.cls M.out.ext.ok) FA.out.len); rfl; rfl; (first | exact rtRoot | exact rtCk | exact rtTb); rfl; rfl; go_big_quiet_on; (simp only [Act.put, List.setIfInBounds_toArray, List.set_cons_succ, List.set_cons_zero])) | ((with_reducible apply quiet_rd1 (FA.out.cls M.out.ext.ok)); rfl; rfl; (first | exact otInt | exact otU64 | exact otU64s); rfl; rfl; go_big_quiet_on; (simp only [Act.put, List.setIfInBounds_toArray, List.set_cons_succ, List.set_cons_zero])) | ((with_reducible apply quiet_rds (FA.out.cls M.out.ext.ok) FA.out.len); rfl; rfl; (first | exact rtRoot | exact rtCk | exact rtTb); rfl; (try simp only [Nat.reduceAdd, List.drop_zero, cut_cp, cut_tb, cut_tb_c]); go_big_quiet_on; (simp only [Act.put, List.setIfInBounds_toArray, List.set_cons_succ, List.set_cons_zero])) | ((with_reducible apply quiet_rdp0 (FA.out.cls M.out.ext.ok) FA.out.len); rfl; rfl; (first | exact rtRoot | exact rtCk | exact rtTb); rfl; rfl; go_big_quiet_on; (simp only [Act.put, List.setIfInBounds_toArray, List.set_cons_succ, List.set_cons_zero])) | ((with_reducible apply quiet_rd10 (FA.out.cls M.out.ext.ok)); rfl; rfl; (first | exact otInt | exact otU64 | exact otU64s); rfl; rfl; go_big_quiet_on; (simp only [Act.put, List.setIfInBounds_toArray, List.set_cons_succ, List.set_cons_zero])) | ((with_reducible apply quiet_rds0 (FA.out.cls M.out.ext.ok) FA.out.len); rfl; rfl; (first | exact rtRoot | exact rtCk | exact rtTb); rfl; (try simp only [Nat.reduceAdd, List.drop_zero, cut_cp, cut_tb, cut_tb_c]); go_big_quiet_on; (simp only [Act.put, List.setIfInBounds_toArray, List.set_cons_succ, List.set_cons_zero])) | ((with_reducible apply quiet_rdp (FB.out.cls M.out.ext.ok) FB.out.len); rfl; rfl; (first | exact rtRoot | exact rtCk | exact rtTb); rfl; rfl; go_big_quiet_on; (simp only [Act.put, List.setIfInBounds_toArray, List.set_cons_succ, List.set_cons_zero])) | ((with_reducible apply quiet_rd1 (FB.out.cls M.out.ext.ok)); rfl; rfl; (first | exact otInt | exact otU64 | exact otU64s); rfl; rfl; go_big_quiet_on; (simp only [Act.put, List.setIfInBounds_toArray, List.set_cons_succ, List.set_cons_zero])) | ((with_reducible apply quiet_rds (FB.out.cls M.out.ext.ok) FB.out.len); rfl; rfl; (first | exact rtRoot | exact rtCk | exact rtTb); rfl; (try simp only [Nat.reduceAdd, List.drop_zero, cut_cp, cut_tb, cut_tb_c]); go_big_quiet_on; (simp only [Act.put, List.setIfInBounds_toArray, List.set_cons_succ, List.set_cons_zero])) | ((with_reducible apply quiet_rdp0 (FB.out.cls M.out.ext.ok) FB.out.len); rfl; rfl; (first | exact rtRoot | exact rtCk | exact rtTb); rfl; rfl; go_big_quiet_on; (simp only [Act.put, List.setIfInBounds_toArray, List.set_cons_succ, List.set_cons_zero])) | ((with_reducible apply quiet_rd10 (FB.out.cls M.out.ext.ok)); rfl; rfl; (first | exact otInt | exact otU64 | exact otU64s); rfl; rfl; go_big_quiet_on; (simp only [Act.put, List.setIfInBounds_toArray, List.set_cons_succ, List.set_cons_zero])) | ((with_reducible apply quiet_rds0 (FB.out.cls M.out.ext.ok) FB.out.len); rfl; rfl; (first | exact rtRoot | exact rtCk | exact rtTb); rfl; (try simp only [Nat.reduceAdd, List.drop_zero, cut_cp, cut_tb, cut_tb_c]); go_big_quiet_on; (simp only [Act.put, List.setIfInBounds_toArray, List.set_cons_succ, List.set_cons_zero])) | ((refine quiet_call (quietB CK.out) Try.func19 rfl rfl rfl ?_ ?_); rfl; go_big_quiet_on; (simp only [Act.put, List.setIfInBounds_toArray, List.set_cons_succ, List.set_cons_zero]))) | (go_big_quiet_op; first | go_big_quiet_on | ((with_reducible refine ⟨_, fun _ _ => rfl, ?_⟩); go_big_quiet_on))))
          refine wpQuiet_nil ?_; intro w4 hw4; have M' := M.out.below hw4.out; (clear M; have M := bx M'; clear M'); clear hw4
          go_wp2_with fail
          go_roundw
          case rel => exact ⟨1, by omega, by go_num, M.out⟩
          case measure => simp [intOf]; omega
        · obtain ⟨p, rfl⟩ : ∃ p, k = p + 1 := ⟨k - 1, by omega⟩
          have ecast : ((p + 1 : Nat) : Int) = (p : Int) + 1 := by omega
          rw [ecast] at hki hk0 ⊢
          obtain ⟨gc, ec, hfc⟩ := rootsAt S1'.out p (by omega)
          cases ec
          have FC := bx hfc
          have HLT := bx (List.pairwise_iff_getElem.1 ASC.out p (p + 1) (by omega) hkn (by omega))
          have CC := bx (fun w1 (_ : Cls wr.heap.size wr w1) => cmpRt_any U[p] U[p + 1] w1)
          have hp0 : (0 : Int) ≤ (p : Int) := by omega
          have hp1 : (0 : Int) < (p : Int) + 1 := by omega
          have hp60 : (p : Int) < 60 := by omega
          clear hfc
          have hq := rt_same U[p + 1] U[p + 1]
          rw [decide_eq_true rfl] at hq
          generalize U[p + 1] = u at *
          generalize U[p] = t at *
          have hv0 := HLT.out
          generalize cmpRt t u = v at *
          have hvd : decide ((0 : Int) ≤ v) = false := decide_eq_false (by omega)
          go_wp2_with fail
          refine region_cls wr.heap.size (by kernel_rfl) (by kernel_rfl) ?_
          repeat (first | go_big_quiet_skip | (go_big_quiet_want; first | (first | ((with_reducible apply quiet_rdp (FA.out.cls M.out.ext.ok) FA.out.len); rfl; rfl; (first | exact rtRoot | exact rtCk | exact rtTb); rfl; rfl; go_big_quiet_on; (simp only [Act.put, List.setIfInBounds_toArray, List.set_cons_succ, List.set_cons_zero])) | ((with_reducible apply quiet_rd1 (FA.out.cls M.out.ext.ok)); rfl; rfl; (first | exact otInt | exact otU64 | exact otU64s); rfl; rfl; go_big_quiet_on; (simp only [Act.put, List.setIfInBounds_toArray, List.set_cons_succ, List.set_cons_zero])) | ((with_reducible apply quiet_rds (FA.out.cls M.out.ext.ok) FA.out.len); rfl; rfl; (first | exact rtRoot | exact rtCk | exact rtTb); rfl; (try simp only [Nat.reduceAdd, List.drop_zero, cut_cp, cut_tb, cut_tb_c]); go_big_quiet_on; (simp only [Act.put, List.setIfInBounds_toArray, List.set_cons_succ, List.set_cons_zero])) | ((with_reducible apply quiet_rdp0 (FA.out.cls M.out.ext.ok) FA.out.len); rfl; rfl; (first | exact rtRoot | exact rtCk | exact rtTb); rfl; rfl; go_big_quiet_on; (simp only [Act.put, List.setIfInBounds_toArray, List.set_cons_succ, List.set_cons_zero])) | ((with_reducible apply quiet_rd10 (FA.out.cls M.out.ext.ok)); rfl; rfl; (first | exact otInt | exact otU64 | exact otU64s); rfl; rfl; go_big_quiet_on; (simp only [Act.put, List.setIfInBounds_toArray, List.set_cons_succ, List.set_cons_zero])) | ((with_reducible apply quiet_rds0 (FA.out.cls M.out.ext.ok) FA.out.len); rfl; rfl; (first | exact rtRoot | exact rtCk | exact rtTb); rfl; (try simp only [Nat.reduceAdd, List.drop_zero, cut_cp, cut_tb, cut_tb_c]); go_big_quiet_on; (simp only [Act.put, List.setIfInBounds_toArray, List.set_cons_succ, List.set_cons_zero])) | ((with_reducible apply quiet_rdp (FB.out.cls M.out.ext.ok) FB.out.len); rfl; rfl; (first | exact rtRoot | exact rtCk | exact rtTb); rfl; rfl; go_big_quiet_on; (simp only [Act.put, List.setIfInBounds_toArray, List.set_cons_succ, List.set_cons_zero])) | ((with_reducible apply quiet_rd1 (FB.out.cls M.out.ext.ok)); rfl; rfl; (first | exact otInt | exact otU64 | exact otU64s); rfl; rfl; go_big_quiet_on; (simp only [Act.put, List.setIfInBounds_toArray, List.set_cons_succ, List.set_cons_zero])) | ((with_reducible apply quiet_rds (FB.out.cls M.out.ext.ok) FB.out.len); rfl; rfl; (first | exact rtRoot | exact rtCk | exact rtTb); rfl; (try simp only [Nat.reduceAdd, List.drop_zero, cut_cp, cut_tb, cut_tb_c]); go_big_quiet_on; (simp only [Act.put, List.setIfInBounds_toArray, List.set_cons_succ, List.set_cons_zero])) | ((with_reducible apply quiet_rdp0 (FB.out.cls M.out.ext.ok) FB.out.len); rfl; rfl; (first | exact rtRoot | exact rtCk | exact rtTb); rfl; rfl; go_big_quiet_on; (simp only [Act.put, List.setIfInBounds_toArray, List.set_cons_succ, List.set_cons_zero])) | ((with_reducible apply quiet_rd10 (FB.out.cls M.out.ext.ok)); rfl; rfl; (first | exact otInt | exact otU64 | exact otU64s); rfl; rfl; go_big_quiet_on; (simp only [Act.put, List.setIfInBounds_toArray, List.set_cons_succ, List.set_cons_zero])) | ((with_reducible apply quiet_rds0 (FB.out.cls M.out.ext.ok) FB.out.len); rfl; rfl; (first | exact rtRoot | exact rtCk | exact rtTb); rfl; (try simp only [Nat.reduceAdd, List.drop_zero, cut_cp, cut_tb, cut_tb_c]); go_big_quiet_on; (simp only [Act.put, List.setIfInBounds_toArray, List.set_cons_succ, List.set_cons_zero])) | ((with_reducible apply quiet_rdp (FC.out.cls M.out.ext.ok) FC.out.len); rfl; rfl; (first | exact rtRoot | exact rtCk | exact rtTb); rfl; rfl; go_big_quiet_on; (simp only [Act.put, List.setIfInBounds_toArray, List.set_cons_succ, List.set_cons_zero])) | ((with_reducible apply quiet_rd1 (FC.out.cls M.out.ext.ok)); rfl; rfl; (first | exact otInt | exact otU64 | exact otU64s); rfl; rfl; go_big_quiet_on; (simp only [Act.put, List.setIfInBounds_toArray, List.set_cons_succ, List.set_cons_zero])) | ((with_reducible apply quiet_rds (FC.out.cls M.out.ext.ok) FC.out.len); rfl; rfl; (first | exact rtRoot | exact rtCk | exact rtTb); rfl; (try simp only [Nat.reduceAdd, List.drop_zero, cut_cp, cut_tb, cut_tb_c]); go_big_quiet_on; (simp only [Act.put, List.setIfInBounds_toArray, List.set_cons_succ, List.set_cons_zero])) | ((with_reducible apply quiet_rdp0 (FC.out.cls M.out.ext.ok) FC.out.len); rfl; rfl; (first | exact rtRoot | exact rtCk | exact rtTb); rfl; rfl; go_big_quiet_on; (simp only [Act.put, List.setIfInBounds_toArray, List.set_cons_succ, List.set_cons_zero])) | ((with_reducible apply quiet_rd10 (FC.out.cls M.out.ext.ok)); rfl; rfl; (first | exact otInt | exact otU64 | exact otU64s); rfl; rfl; go_big_quiet_on; (simp only [Act.put, List.setIfInBounds_toArray, List.set_cons_succ, List.set_cons_zero])) | ((with_reducible apply quiet_rds0 (FC.out.cls M.out.ext.ok) FC.out.len); rfl; rfl; (first | exact rtRoot | exact rtCk | exact rtTb); rfl; (try simp only [Nat.reduceAdd, List.drop_zero, cut_cp, cut_tb, cut_tb_c]); go_big_quiet_on; (simp only [Act.put, List.setIfInBounds_toArray, List.set_cons_succ, List.set_cons_zero])) | ((refine quiet_call (quietB CC.out) Try.func18 rfl rfl rfl ?_ ?_); rfl; go_big_quiet_on; (simp only [Act.put, List.setIfInBounds_toArray, List.set_cons_succ, List.set_cons_zero])) | ((refine quiet_call (quietB CK.out) Try.func19 rfl rfl rfl ?_ ?_); rfl; go_big_quiet_on; (simp only [Act.put, List.setIfInBounds_toArray, List.set_cons_succ, List.set_cons_zero]))) | (go_big_quiet_op; first | go_big_quiet_on | ((with_reducible refine ⟨_, fun _ _ => rfl, ?_⟩); go_big_quiet_on))))
          refine wpQuiet_nil ?_; intro w4 hw4; have M' := M.out.below hw4.out; (clear M; have M := bx M'; clear M'); clear hw4
          go_wp2_with fail
          go_roundw
          case rel => exact ⟨p + 2, by omega, by go_num, M.out⟩
          case measure => simp [intOf]; omega
      · obtain rfl : U.length = k := by omega
        clear CON
        go_wp2_with fail
        go_loopw [6] (fun i wr => ∃ k : Nat, k ≤ n0 ∧ i = .int .i64 k ∧ MM g0 w Γ2 wr [] []) (fun i _ => n0 - (intOf i).toNat)
        case atStart => exact ⟨0, Nat.zero_le _, rfl, M.out⟩
        case round =>
          obtain ⟨k, hk, rfl, hM⟩ := hrel
          clear M
          have M := bx hM
          clear hM
          by_cases hkn : k < n0
          · have hkl : k < X.length := by rw [HR.out.1]; exact hkn
            obtain ⟨ad, rfl, hc⟩ := (HR.out.below M.out.ext.bel).at k hkl
            have hki : (k : Int) < (n0 : Int) := by omega
            have hk0 : 0 ≤ (k : Int) := by omega
            have HU := bx ((MEM.out _).2 (List.getElem_mem hkl))
            have LX : Bx (∀ j u, (rc X[k])[j]? = some u → wr.cell? ((ad.add (k * 32)).add j) = some u) := ⟨hc wr (Below.refl _ _)⟩
            clear hc
            generalize X[k] = x at *
            go_wp2_with (first | ((with_reducible apply wpList_ldAr LX.out); rfl; rfl; rfl))
            refine (containsR_any A1 U.length c1 U x (by omega) _ ⟨rfl, S1'.out.row (size := 32) (rts_len _) M.out.ext.ok⟩).mono ?_; rintro e w4 ⟨rfl, hb⟩
            rw [decide_eq_true HU.out]
            have M' := M.out.below hb
            (clear M; have M := bx M'; clear M')
            clear hb
            go_wp2_with fail
            go_roundw
            case rel => exact ⟨k + 1, by omega, by go_num, M.out⟩
            case measure => simp [intOf]; omega
          · obtain rfl : n0 = k := by omega
            go_wp2_with fail
            refine (Rr.roots_awake _).mono ?_; rintro e w9 ⟨rfl, hb⟩; have M' := M.out.below hb; (clear M; have M := bx M'; clear M'); clear hb
            go_wp2_with fail
            go_ret
            exact ⟨rfl, M.out.ext.bel⟩
end Go.Proofs.Ytekikfdlnkcenaa
