/- BalancesRegisters: the tables that are built. -/
import Derived.Test.YtekikfdlnkcenaaBCopy
import Derived.Test.YtekikfdlnkcenaaBkE
import Derived.Test.YtekikfdlnkcenaaRx
import Derived.Test.YtekikfdlnkcenaaMmE
import Derived.Test.YtekikfdlnkcenaaMix7
namespace Go.Proofs.Ytekikfdlnkcenaa
open Go.RowKit Go.Maps
theorem built_tbC (c : Cp) : Try.prog.built 38 [(0, .agg (fl (cpP c)).toArray)] = some (fl (tbP c (.slice none 0 0))).toArray := built_tb0 (c := oldC c) c.r.len
/-- a table in memory that stays -/
def TabP (Γ : Gam) (w : World) (e : Ending) (w' : World) : Prop := ∃ (c : Cp) (b : List U) (A : Option Addr) (k : Nat) (Γ' : Gam), e = .returned (.agg (fl (tbP c (.slice A b.length k))).toArray) ∧ CapOk A b.length k ∧ SlG Γ' A b.length (us b) ∧ b.length ≤ 4 ∧ Ext Γ w Γ' w'
theorem and63 (x : Int) : ∃ m : U, bits .and .i64 x 63 = (m.n : Int) ∧ m.n < 64 := by
  have h := and_ones x 6 (by decide)
  have h' : bits .and .i64 x 63 = x % 64 := h
  have h0 : 0 ≤ x % 64 := Int.emod_nonneg _ (by decide)
  have h1 : x % 64 < 64 := Int.emod_lt_of_pos _ (by decide)
  exact ⟨⟨(x % 64).toNat, by omega⟩, by rw [h']; exact (Int.toNat_of_nonneg h0).symm, by simp only; omega⟩
theorem and1 (x : Int) : ∃ m : U, bits .and .i64 x 1 = (m.n : Int) ∧ m.n < 2 := by
  have h := and_ones x 1 (by decide)
  have h' : bits .and .i64 x 1 = x % 2 := h
  have h0 : 0 ≤ x % 2 := Int.emod_nonneg _ (by decide)
  have h1 : x % 2 < 2 := Int.emod_lt_of_pos _ (by decide)
  exact ⟨⟨(x % 2).toNat, by omega⟩, by rw [h']; exact (Int.toNat_of_nonneg h0).symm, by simp only; omega⟩
def uMax : U := ⟨4611686018427387904, by decide⟩
theorem us_set (b : List U) (i : Nat) (x : U) : (us b).set i (.int .u64 (x.n : Int)) = us (b.set i x) := by simp [us, U.v, List.map_set]
theorem us_snoc (b : List U) (x : U) : us (b ++ [x]) = us b ++ [.int .u64 (x.n : Int)] := by simp [us, U.v]
set_option maxRecDepth 20000 in
set_option maxHeartbeats 1000000 in
theorem table_any (Γ : Gam) (kk : Int) (hk0 : 0 ≤ kk) (hk1 : kk < 16777216) (n : Nat) (hn : n ≤ 3) (w : World) (ok : Ok Γ w) :
    Calls Try.prog 11 #[.int .i64 kk, .int .i64 (n : Int)] w (TabP Γ w) := by
  have M := bx (MM.start ok)
  have BT := bx (fun c => built_tbC c)
  clear ok
  go_enter Try.func11, Try.ntmps11
  go_upto_region 1 with ((with_reducible apply wpList_alc M.out); rfl; rfl; exact ztTb; intro w' g M' hb'; (clear M; have M := bx M'; clear M'); clear hb')
  obtain ⟨g4, hg4⟩ : ∃ x, x = g := ⟨_, rfl⟩
  subst hg4
  go_wp2_with fail
  refine (checkpoint_any kk _).mono ?_; rintro e w2 ⟨c, rfl, hb⟩
  have M' := M.out.below hb
  (clear M; have M := bx M'; clear M')
  clear hb
  by_cases hc : (bits .and .i64 (kk / 8) 15 == 15) = true
  · go_wp2_with (first | ((with_reducible refine wpList_buildTo rfl 38 _ rfl [(0, .agg (fl (cpP c)).toArray)] (fl (tbP c (.slice none 0 0))) ?_ (BT.out c) ?_); rfl) | ((with_reducible apply wpList_alc M.out); rfl; rfl; exact ztTb; intro w' g M' hb'; (clear M; have M := bx M'; clear M'); clear hb') | ((with_reducible apply wpList_sts M.out 0 (tbP c (.slice none 0 0)) (tbP c (.slice none 0 0))); rfl; rfl; rfl; rfl; rfl; (first | exact rtRoot | exact rtCk | exact rtTb); rfl; exact tbP_len _ _; exact tb_one _ _ _ _; rfl; intro w' M' hg'; (simp only [List.set_cons_zero, List.set_cons_succ] at M'); (clear M; have M := bx M'; clear M'); clear hg'))
    obtain ⟨g5, hg5⟩ : ∃ x, x = g := ⟨_, rfl⟩
    subst hg5
    go_loopw [6] (fun i wr => ∃ (k : Nat) (b : List U) (A : Option Addr) (cp : Nat), k ≤ (n + 1) ∧ i = .int .i64 k ∧ b.length = k ∧ MM Γ w Γ wr [⟨g5, tbP c (.slice A k cp), [1, 32, 1]⟩, ⟨g4, tbP cp0 (.slice none 0 0), [1, 32, 1]⟩] [⟨.slice A k cp, 30, 1, k, us b⟩]) (fun i _ => (n + 1) - (intOf i).toNat)
    case atStart => exact ⟨0, [], none, 0, Nat.zero_le _, rfl, rfl, M.out.row0 _ _⟩
    case round =>
      obtain ⟨k, b, A, cp, hk, rfl, hbl, hM⟩ := hrel
      clear M
      have M := bx hM
      have HBL := bx hbl
      clear hM hbl
      by_cases hkn : k < (n + 1)
      · have hki : (k : Int) < (((n + 1) : Nat) : Int) := by omega
        have hk0 : (0 : Int) ≤ (k : Int) := by omega
        have hk4 : k + 1 ≤ 4 := by omega
        obtain ⟨m, hm, hm1⟩ := and63 (kk / 2 ^ (4 + k))
        have hm2 : (m.n : Int) < 64 := by omega
        have hm0 : (0 : Int) ≤ (m.n : Int) := by omega
        go_upto_region 7 with fail
        go_wp2_with (first | ((with_reducible apply wpList_ldp M.out.at0); rfl; rfl; rfl; (first | exact rtRoot | exact rtCk | exact rtTb); rfl; rfl) | ((with_reducible apply wpList_ld1 M.out.at0); rfl; rfl; rfl; (first | exact otInt | exact otU64 | exact otU64s); rfl; rfl) | ((with_reducible apply wpList_lds M.out.at0); rfl; rfl; rfl; (first | exact rtRoot | exact rtCk | exact rtTb); rfl; (try simp only [Nat.reduceAdd, List.drop_zero, cut_cp, cut_tb, cut_tb_c])) | ((with_reducible apply wpList_bs1 M.out elU64); rfl; rfl; rfl; rfl; intro w' g M' hb'; (clear M; have M := bx M'; clear M'); clear hb') | (at_builtin; (with_reducible apply wpList_pushE M.out elU64); rfl; exact One.v rfl; (unfold maxLen; omega); omega; rfl; rfl; rfl; rfl; intro A' c' w' M'; (clear M; have M := bx M'; clear M')) | ((with_reducible apply wpList_st1 M.out 0 (.slice A' (k + 1) c') (tbP c (.slice A' (k + 1) c'))); rfl; rfl; rfl; rfl; rfl; (first | exact otInt | exact otU64 | exact otU64s); rfl; rfl; rfl; rfl; rfl; intro w' M' hg'; (simp only [List.set_cons_zero, List.set_cons_succ] at M'); (clear M; have M := bx M'; clear M'); clear hg'))
        go_roundw
        case rel => exact ⟨k + 1, b ++ [m], A', c', by omega, by go_num, by rw [List.length_append, HBL.out]; rfl, by rw [us_snoc]; exact M.out⟩
        case measure => simp [intOf]; omega
      · obtain rfl : (n + 1) = k := by omega
        obtain ⟨m, hm, hm1⟩ := and1 (kk / 8192)
        have hm2 : (m.n : Int) < 2 := by omega
        have hm0 : (0 : Int) ≤ (m.n : Int) := by omega
        go_upto_region 8 with fail
        by_cases hd : (bits .and .i64 (kk / 256) 31 == 31) = true
        · by_cases h1n : 1 < (n + 1)
          · have h1i : (1 : Int) < (((n + 1) : Nat) : Int) := by omega
            obtain ⟨gr, rfl, _, _⟩ := M.out.rowHd (by omega)
            have HL2 : Bx (2 ≤ (us b).length) := ⟨by rw [us_len, HBL.out]; omega⟩
            go_wp2_with (first | ((with_reducible apply wpList_ldp M.out.at0); rfl; rfl; rfl; (first | exact rtRoot | exact rtCk | exact rtTb); rfl; rfl) | ((with_reducible apply wpList_ld1 M.out.at0); rfl; rfl; rfl; (first | exact otInt | exact otU64 | exact otU64s); rfl; rfl) | ((with_reducible apply wpList_lds M.out.at0); rfl; rfl; rfl; (first | exact rtRoot | exact rtCk | exact rtTb); rfl; (try simp only [Nat.reduceAdd, List.drop_zero, cut_cp, cut_tb, cut_tb_c])))
            refine wp_region_mix7 (fun w' => HL w' g5 (tbP c (.slice (some ⟨gr, 0, none⟩) ((n + 1)) cp)) [1, 32, 1]) (.steps [(1, 0), (0, 1), (1, 2), (0, 3), (1, 4), (1, 5), (1, 6), (1, 7), (1, 8), (3, 9), (1, 10), (3, 11)] .leaf) (by kernel_rfl) (by kernel_rfl) M.out.drew.at0 ?_
            simp only [MixT7, MT.steps, stepI, List.getD_cons_zero, List.getD_cons_succ]
            have M' := M.out.drew
            (clear M; have M := bx M'; clear M')
            simp only [Act.put, List.setIfInBounds_toArray, List.set_cons_succ, List.set_cons_zero]
            repeat (first | (with_reducible refine wpQuiet_nil ?_) | (first | go_big_quiet_skip | (go_big_quiet_want; first | (first | ((with_reducible apply quiet_ldp (fun _ h => h) (tbP_len _ _)); rfl; rfl; (first | exact rtRoot | exact rtCk | exact rtTb); rfl; rfl; go_big_quiet_on; (simp only [Act.put, List.setIfInBounds_toArray, List.set_cons_succ, List.set_cons_zero])) | ((with_reducible apply quiet_ld1 (fun _ h => h)); rfl; rfl; (first | exact otInt | exact otU64 | exact otU64s); rfl; rfl; go_big_quiet_on; (simp only [Act.put, List.setIfInBounds_toArray, List.set_cons_succ, List.set_cons_zero])) | ((with_reducible apply quiet_lds (fun _ h => h) (tbP_len _ _)); rfl; rfl; (first | exact rtRoot | exact rtCk | exact rtTb); rfl; (try simp only [Nat.reduceAdd, List.drop_zero, cut_cp, cut_tb, cut_tb_c]); go_big_quiet_on; (simp only [Act.put, List.setIfInBounds_toArray, List.set_cons_succ, List.set_cons_zero]))) | (go_big_quiet_op; first | go_big_quiet_on | ((with_reducible refine ⟨_, fun _ _ => rfl, ?_⟩); go_big_quiet_on)))))
            refine mix_stC M.out 0 (by have := HL2.out; omega) (.int .u64 4611686018427387904) rfl rfl rfl rfl rfl otU64 rfl ?_
            intro w7 M'
            (clear M; have M := bx M'; clear M')
            simp only [Act.put, List.setIfInBounds_toArray, List.set_cons_succ, List.set_cons_zero]
            refine ⟨M.out.at0, ?_⟩
            repeat (first | (with_reducible refine wpQuiet_nil ?_) | (first | go_big_quiet_skip | (go_big_quiet_want; first | fail | (go_big_quiet_op; first | go_big_quiet_on | ((with_reducible refine ⟨_, fun _ _ => rfl, ?_⟩); go_big_quiet_on)))))
            refine mix_stC M.out 1 (by rw [List.length_set]; have := HL2.out; omega) (.int .u64 (m.n : Int)) rfl rfl rfl rfl rfl otU64 rfl ?_
            intro w8 M'
            (clear M; have M := bx M'; clear M')
            have M' := M.out
            rw [show (us b).set 0 (.int .u64 4611686018427387904) = us (b.set 0 uMax) from us_set b 0 uMax, us_set] at M'
            (clear M; have M := bx M'; clear M')
            simp only [Act.put, List.setIfInBounds_toArray, List.set_cons_succ, List.set_cons_zero]
            refine ⟨M.out.at0, ?_⟩
            refine NoPanic.normal ?_
            go_wp2_with (first | ((with_reducible apply wpList_ldp M.out.at0); rfl; rfl; rfl; (first | exact rtRoot | exact rtCk | exact rtTb); rfl; rfl) | ((with_reducible apply wpList_ld1 M.out.at0); rfl; rfl; rfl; (first | exact otInt | exact otU64 | exact otU64s); rfl; rfl) | ((with_reducible apply wpList_lds M.out.at0); rfl; rfl; rfl; (first | exact rtRoot | exact rtCk | exact rtTb); rfl; (try simp only [Nat.reduceAdd, List.drop_zero, cut_cp, cut_tb, cut_tb_c])) | ((with_reducible apply wpList_sts M.out 1 (tbP c (.slice (some ⟨gr, 0, none⟩) ((n + 1)) cp)) (tbP c (.slice (some ⟨gr, 0, none⟩) ((n + 1)) cp))); rfl; rfl; rfl; rfl; rfl; (first | exact rtRoot | exact rtCk | exact rtTb); rfl; exact tbP_len _ _; exact tb_one _ _ _ _; rfl; intro w' M' hg'; (simp only [List.set_cons_zero, List.set_cons_succ] at M'); (clear M; have M := bx M'; clear M'); clear hg'))
            obtain ⟨Γ', h1, h2, h3, h4⟩ := M.out.frz
            have HL : ((b.set 0 uMax).set 1 m).length = (n + 1) := by rw [List.length_set, List.length_set, HBL.out]
            exact bodyPost_ret (results_L (by rfl) _ h4.at1 (by rfl) rtTb rfl) rfl ⟨c, (b.set 0 uMax).set 1 m, _, cp, Γ', by rw [HL], by rw [HL]; exact h1, by rw [HL]; exact h2, by omega, h4.ext⟩
          · have h1i : ¬ (1 : Int) < (((n + 1) : Nat) : Int) := by omega
            go_wp2_with (first | ((with_reducible apply wpList_ldp M.out.at0); rfl; rfl; rfl; (first | exact rtRoot | exact rtCk | exact rtTb); rfl; rfl) | ((with_reducible apply wpList_ld1 M.out.at0); rfl; rfl; rfl; (first | exact otInt | exact otU64 | exact otU64s); rfl; rfl) | ((with_reducible apply wpList_lds M.out.at0); rfl; rfl; rfl; (first | exact rtRoot | exact rtCk | exact rtTb); rfl; (try simp only [Nat.reduceAdd, List.drop_zero, cut_cp, cut_tb, cut_tb_c])) | ((with_reducible apply wpList_sts M.out 1 (tbP c (.slice A ((n + 1)) cp)) (tbP c (.slice A ((n + 1)) cp))); rfl; rfl; rfl; rfl; rfl; (first | exact rtRoot | exact rtCk | exact rtTb); rfl; exact tbP_len _ _; exact tb_one _ _ _ _; rfl; intro w' M' hg'; (simp only [List.set_cons_zero, List.set_cons_succ] at M'); (clear M; have M := bx M'; clear M'); clear hg'))
            obtain ⟨Γ', h1, h2, h3, h4⟩ := M.out.frz
            have HL := HBL.out
            exact bodyPost_ret (results_L (by rfl) _ h4.at1 (by rfl) rtTb rfl) rfl ⟨c, b, A, cp, Γ', by rw [HL], by rw [HL]; exact h1, by rw [HL]; exact h2, by omega, h4.ext⟩
        · have hd' : (bits .and .i64 (kk / 256) 31 == 31) = false := by simpa using hd
          go_wp2_with (first | ((with_reducible apply wpList_ldp M.out.at0); rfl; rfl; rfl; (first | exact rtRoot | exact rtCk | exact rtTb); rfl; rfl) | ((with_reducible apply wpList_ld1 M.out.at0); rfl; rfl; rfl; (first | exact otInt | exact otU64 | exact otU64s); rfl; rfl) | ((with_reducible apply wpList_lds M.out.at0); rfl; rfl; rfl; (first | exact rtRoot | exact rtCk | exact rtTb); rfl; (try simp only [Nat.reduceAdd, List.drop_zero, cut_cp, cut_tb, cut_tb_c])) | ((with_reducible apply wpList_sts M.out 1 (tbP c (.slice A ((n + 1)) cp)) (tbP c (.slice A ((n + 1)) cp))); rfl; rfl; rfl; rfl; rfl; (first | exact rtRoot | exact rtCk | exact rtTb); rfl; exact tbP_len _ _; exact tb_one _ _ _ _; rfl; intro w' M' hg'; (simp only [List.set_cons_zero, List.set_cons_succ] at M'); (clear M; have M := bx M'; clear M'); clear hg'))
          obtain ⟨Γ', h1, h2, h3, h4⟩ := M.out.frz
          have HL := HBL.out
          exact bodyPost_ret (results_L (by rfl) _ h4.at1 (by rfl) rtTb rfl) rfl ⟨c, b, A, cp, Γ', by rw [HL], by rw [HL]; exact h1, by rw [HL]; exact h2, by omega, h4.ext⟩
  · have hc' : (bits .and .i64 (kk / 8) 15 == 15) = false := by simpa using hc
    go_wp2_with (first | ((with_reducible refine wpList_buildTo rfl 38 _ rfl [(0, .agg (fl (cpP c)).toArray)] (fl (tbP c (.slice none 0 0))) ?_ (BT.out c) ?_); rfl) | ((with_reducible apply wpList_alc M.out); rfl; rfl; exact ztTb; intro w' g M' hb'; (clear M; have M := bx M'; clear M'); clear hb') | ((with_reducible apply wpList_sts M.out 0 (tbP c (.slice none 0 0)) (tbP c (.slice none 0 0))); rfl; rfl; rfl; rfl; rfl; (first | exact rtRoot | exact rtCk | exact rtTb); rfl; exact tbP_len _ _; exact tb_one _ _ _ _; rfl; intro w' M' hg'; (simp only [List.set_cons_zero, List.set_cons_succ] at M'); (clear M; have M := bx M'; clear M'); clear hg'))
    obtain ⟨g5, hg5⟩ : ∃ x, x = g := ⟨_, rfl⟩
    subst hg5
    go_loopw [6] (fun i wr => ∃ (k : Nat) (b : List U) (A : Option Addr) (cp : Nat), k ≤ n ∧ i = .int .i64 k ∧ b.length = k ∧ MM Γ w Γ wr [⟨g5, tbP c (.slice A k cp), [1, 32, 1]⟩, ⟨g4, tbP cp0 (.slice none 0 0), [1, 32, 1]⟩] [⟨.slice A k cp, 30, 1, k, us b⟩]) (fun i _ => n - (intOf i).toNat)
    case atStart => exact ⟨0, [], none, 0, Nat.zero_le _, rfl, rfl, M.out.row0 _ _⟩
    case round =>
      obtain ⟨k, b, A, cp, hk, rfl, hbl, hM⟩ := hrel
      clear M
      have M := bx hM
      have HBL := bx hbl
      clear hM hbl
      by_cases hkn : k < n
      · have hki : (k : Int) < ((n : Nat) : Int) := by omega
        have hk0 : (0 : Int) ≤ (k : Int) := by omega
        have hk4 : k + 1 ≤ 4 := by omega
        obtain ⟨m, hm, hm1⟩ := and63 (kk / 2 ^ (4 + k))
        have hm2 : (m.n : Int) < 64 := by omega
        have hm0 : (0 : Int) ≤ (m.n : Int) := by omega
        go_upto_region 7 with fail
        go_wp2_with (first | ((with_reducible apply wpList_ldp M.out.at0); rfl; rfl; rfl; (first | exact rtRoot | exact rtCk | exact rtTb); rfl; rfl) | ((with_reducible apply wpList_ld1 M.out.at0); rfl; rfl; rfl; (first | exact otInt | exact otU64 | exact otU64s); rfl; rfl) | ((with_reducible apply wpList_lds M.out.at0); rfl; rfl; rfl; (first | exact rtRoot | exact rtCk | exact rtTb); rfl; (try simp only [Nat.reduceAdd, List.drop_zero, cut_cp, cut_tb, cut_tb_c])) | ((with_reducible apply wpList_bs1 M.out elU64); rfl; rfl; rfl; rfl; intro w' g M' hb'; (clear M; have M := bx M'; clear M'); clear hb') | (at_builtin; (with_reducible apply wpList_pushE M.out elU64); rfl; exact One.v rfl; (unfold maxLen; omega); omega; rfl; rfl; rfl; rfl; intro A' c' w' M'; (clear M; have M := bx M'; clear M')) | ((with_reducible apply wpList_st1 M.out 0 (.slice A' (k + 1) c') (tbP c (.slice A' (k + 1) c'))); rfl; rfl; rfl; rfl; rfl; (first | exact otInt | exact otU64 | exact otU64s); rfl; rfl; rfl; rfl; rfl; intro w' M' hg'; (simp only [List.set_cons_zero, List.set_cons_succ] at M'); (clear M; have M := bx M'; clear M'); clear hg'))
        go_roundw
        case rel => exact ⟨k + 1, b ++ [m], A', c', by omega, by go_num, by rw [List.length_append, HBL.out]; rfl, by rw [us_snoc]; exact M.out⟩
        case measure => simp [intOf]; omega
      · obtain rfl : n = k := by omega
        obtain ⟨m, hm, hm1⟩ := and1 (kk / 8192)
        have hm2 : (m.n : Int) < 2 := by omega
        have hm0 : (0 : Int) ≤ (m.n : Int) := by omega
        go_upto_region 8 with fail
        by_cases hd : (bits .and .i64 (kk / 256) 31 == 31) = true
        · by_cases h1n : 1 < n
          · have h1i : (1 : Int) < ((n : Nat) : Int) := by omega
            obtain ⟨gr, rfl, _, _⟩ := M.out.rowHd (by omega)
            have HL2 : Bx (2 ≤ (us b).length) := ⟨by rw [us_len, HBL.out]; omega⟩
            go_wp2_with (first | ((with_reducible apply wpList_ldp M.out.at0); rfl; rfl; rfl; (first | exact rtRoot | exact rtCk | exact rtTb); rfl; rfl) | ((with_reducible apply wpList_ld1 M.out.at0); rfl; rfl; rfl; (first | exact otInt | exact otU64 | exact otU64s); rfl; rfl) | ((with_reducible apply wpList_lds M.out.at0); rfl; rfl; rfl; (first | exact rtRoot | exact rtCk | exact rtTb); rfl; (try simp only [Nat.reduceAdd, List.drop_zero, cut_cp, cut_tb, cut_tb_c])))
            refine wp_region_mix7 (fun w' => HL w' g5 (tbP c (.slice (some ⟨gr, 0, none⟩) (n) cp)) [1, 32, 1]) (.steps [(1, 0), (0, 1), (1, 2), (0, 3), (1, 4), (1, 5), (1, 6), (1, 7), (1, 8), (3, 9), (1, 10), (3, 11)] .leaf) (by kernel_rfl) (by kernel_rfl) M.out.drew.at0 ?_
            simp only [MixT7, MT.steps, stepI, List.getD_cons_zero, List.getD_cons_succ]
            have M' := M.out.drew
            (clear M; have M := bx M'; clear M')
            simp only [Act.put, List.setIfInBounds_toArray, List.set_cons_succ, List.set_cons_zero]
            repeat (first | (with_reducible refine wpQuiet_nil ?_) | (first | go_big_quiet_skip | (go_big_quiet_want; first | (first | ((with_reducible apply quiet_ldp (fun _ h => h) (tbP_len _ _)); rfl; rfl; (first | exact rtRoot | exact rtCk | exact rtTb); rfl; rfl; go_big_quiet_on; (simp only [Act.put, List.setIfInBounds_toArray, List.set_cons_succ, List.set_cons_zero])) | ((with_reducible apply quiet_ld1 (fun _ h => h)); rfl; rfl; (first | exact otInt | exact otU64 | exact otU64s); rfl; rfl; go_big_quiet_on; (simp only [Act.put, List.setIfInBounds_toArray, List.set_cons_succ, List.set_cons_zero])) | ((with_reducible apply quiet_lds (fun _ h => h) (tbP_len _ _)); rfl; rfl; (first | exact rtRoot | exact rtCk | exact rtTb); rfl; (try simp only [Nat.reduceAdd, List.drop_zero, cut_cp, cut_tb, cut_tb_c]); go_big_quiet_on; (simp only [Act.put, List.setIfInBounds_toArray, List.set_cons_succ, List.set_cons_zero]))) | (go_big_quiet_op; first | go_big_quiet_on | ((with_reducible refine ⟨_, fun _ _ => rfl, ?_⟩); go_big_quiet_on)))))
            refine mix_stC M.out 0 (by have := HL2.out; omega) (.int .u64 4611686018427387904) rfl rfl rfl rfl rfl otU64 rfl ?_
            intro w7 M'
            (clear M; have M := bx M'; clear M')
            simp only [Act.put, List.setIfInBounds_toArray, List.set_cons_succ, List.set_cons_zero]
            refine ⟨M.out.at0, ?_⟩
            repeat (first | (with_reducible refine wpQuiet_nil ?_) | (first | go_big_quiet_skip | (go_big_quiet_want; first | fail | (go_big_quiet_op; first | go_big_quiet_on | ((with_reducible refine ⟨_, fun _ _ => rfl, ?_⟩); go_big_quiet_on)))))
            refine mix_stC M.out 1 (by rw [List.length_set]; have := HL2.out; omega) (.int .u64 (m.n : Int)) rfl rfl rfl rfl rfl otU64 rfl ?_
            intro w8 M'
            (clear M; have M := bx M'; clear M')
            have M' := M.out
            rw [show (us b).set 0 (.int .u64 4611686018427387904) = us (b.set 0 uMax) from us_set b 0 uMax, us_set] at M'
            (clear M; have M := bx M'; clear M')
            simp only [Act.put, List.setIfInBounds_toArray, List.set_cons_succ, List.set_cons_zero]
            refine ⟨M.out.at0, ?_⟩
            refine NoPanic.normal ?_
            go_wp2_with (first | ((with_reducible apply wpList_ldp M.out.at0); rfl; rfl; rfl; (first | exact rtRoot | exact rtCk | exact rtTb); rfl; rfl) | ((with_reducible apply wpList_ld1 M.out.at0); rfl; rfl; rfl; (first | exact otInt | exact otU64 | exact otU64s); rfl; rfl) | ((with_reducible apply wpList_lds M.out.at0); rfl; rfl; rfl; (first | exact rtRoot | exact rtCk | exact rtTb); rfl; (try simp only [Nat.reduceAdd, List.drop_zero, cut_cp, cut_tb, cut_tb_c])) | ((with_reducible apply wpList_sts M.out 1 (tbP c (.slice (some ⟨gr, 0, none⟩) (n) cp)) (tbP c (.slice (some ⟨gr, 0, none⟩) (n) cp))); rfl; rfl; rfl; rfl; rfl; (first | exact rtRoot | exact rtCk | exact rtTb); rfl; exact tbP_len _ _; exact tb_one _ _ _ _; rfl; intro w' M' hg'; (simp only [List.set_cons_zero, List.set_cons_succ] at M'); (clear M; have M := bx M'; clear M'); clear hg'))
            obtain ⟨Γ', h1, h2, h3, h4⟩ := M.out.frz
            have HL : ((b.set 0 uMax).set 1 m).length = n := by rw [List.length_set, List.length_set, HBL.out]
            exact bodyPost_ret (results_L (by rfl) _ h4.at1 (by rfl) rtTb rfl) rfl ⟨c, (b.set 0 uMax).set 1 m, _, cp, Γ', by rw [HL], by rw [HL]; exact h1, by rw [HL]; exact h2, by omega, h4.ext⟩
          · have h1i : ¬ (1 : Int) < ((n : Nat) : Int) := by omega
            go_wp2_with (first | ((with_reducible apply wpList_ldp M.out.at0); rfl; rfl; rfl; (first | exact rtRoot | exact rtCk | exact rtTb); rfl; rfl) | ((with_reducible apply wpList_ld1 M.out.at0); rfl; rfl; rfl; (first | exact otInt | exact otU64 | exact otU64s); rfl; rfl) | ((with_reducible apply wpList_lds M.out.at0); rfl; rfl; rfl; (first | exact rtRoot | exact rtCk | exact rtTb); rfl; (try simp only [Nat.reduceAdd, List.drop_zero, cut_cp, cut_tb, cut_tb_c])) | ((with_reducible apply wpList_sts M.out 1 (tbP c (.slice A (n) cp)) (tbP c (.slice A (n) cp))); rfl; rfl; rfl; rfl; rfl; (first | exact rtRoot | exact rtCk | exact rtTb); rfl; exact tbP_len _ _; exact tb_one _ _ _ _; rfl; intro w' M' hg'; (simp only [List.set_cons_zero, List.set_cons_succ] at M'); (clear M; have M := bx M'; clear M'); clear hg'))
            obtain ⟨Γ', h1, h2, h3, h4⟩ := M.out.frz
            have HL := HBL.out
            exact bodyPost_ret (results_L (by rfl) _ h4.at1 (by rfl) rtTb rfl) rfl ⟨c, b, A, cp, Γ', by rw [HL], by rw [HL]; exact h1, by rw [HL]; exact h2, by omega, h4.ext⟩
        · have hd' : (bits .and .i64 (kk / 256) 31 == 31) = false := by simpa using hd
          go_wp2_with (first | ((with_reducible apply wpList_ldp M.out.at0); rfl; rfl; rfl; (first | exact rtRoot | exact rtCk | exact rtTb); rfl; rfl) | ((with_reducible apply wpList_ld1 M.out.at0); rfl; rfl; rfl; (first | exact otInt | exact otU64 | exact otU64s); rfl; rfl) | ((with_reducible apply wpList_lds M.out.at0); rfl; rfl; rfl; (first | exact rtRoot | exact rtCk | exact rtTb); rfl; (try simp only [Nat.reduceAdd, List.drop_zero, cut_cp, cut_tb, cut_tb_c])) | ((with_reducible apply wpList_sts M.out 1 (tbP c (.slice A (n) cp)) (tbP c (.slice A (n) cp))); rfl; rfl; rfl; rfl; rfl; (first | exact rtRoot | exact rtCk | exact rtTb); rfl; exact tbP_len _ _; exact tb_one _ _ _ _; rfl; intro w' M' hg'; (simp only [List.set_cons_zero, List.set_cons_succ] at M'); (clear M; have M := bx M'; clear M'); clear hg'))
          obtain ⟨Γ', h1, h2, h3, h4⟩ := M.out.frz
          have HL := HBL.out
          exact bodyPost_ret (results_L (by rfl) _ h4.at1 (by rfl) rtTb rfl) rfl ⟨c, b, A, cp, Γ', by rw [HL], by rw [HL]; exact h1, by rw [HL]; exact h2, by omega, h4.ext⟩
theorem usAt {Γ : Gam} {A : Option Addr} {l : List U} (h : SlG Γ A l.length (us l)) (i : Nat) (hi : i < l.length) : ∃ g, A = some ⟨g, 0, none⟩ ∧ Chk Γ g i (fl [[.int .u64 (l[i].n : Int)]]) := by
  have e : us l = l.flatMap fun x => [U.v x] := by
    unfold us
    induction l with
    | nil => rfl
    | cons x l ih => simp [List.flatMap_cons, ← List.map_eq_flatMap]
  rw [e] at h
  obtain ⟨g, e1, hc⟩ := h.at (k := 1) (f := fun x : U => [U.v x]) (fun x _ => rfl) rfl i hi
  refine ⟨g, e1, ?_⟩
  rw [Nat.mul_one] at hc
  exact hc
/-- the balances of one table -/
theorem same_sum {b : List U} {j : Nat} (hj : j < b.length) : ((b.map fun x => (x.n : Int)).take (j + 1)).sum = ((b.map fun x => (x.n : Int)).take j).sum + (b[j].n : Int) := by
  rw [k_sum_take_succ (by simpa using hj)]; simp
structure TInv (n : Nat) (T : List Tbl) : Prop where
  asc : Asc T
  ok : ∀ t ∈ T, t.b.length = n ∧ (t.b.map fun x => (x.n : Int)).sum ≤ 4611686018427387904
set_option maxRecDepth 20000 in
set_option maxHeartbeats 1000000 in
theorem same_any {P : Nat → Prop} (Γ : Gam) (B Mb : Nat) (n : Nat) (lim : Int) (T : List Tbl) (hT : T.length ≤ 64) (hI : TInv n T) (hn : n ≤ 3) (A : Option Addr) (c : Nat) (w : World) (ok : Ok Γ w) (h : Bk P w B Mb (n : Int) lim (T.map oldT)) (ht : TsG Γ A T.length T) :
    Calls Try.prog 14 #[.pointer (some ⟨B, 0, none⟩), .slice A T.length c, .int .i64 (n : Int)] w fun e w' => e = .returned (.bool true) ∧ Below w.heap.size w w' := by
  have M := bx (MM.start ok)
  have HK := bx h
  have HT := bx ht
  have HI := bx hI
  have HN := bx hn
  have HTL := bx hT
  have TBL := bx (fun w' (hb : Below w.heap.size w w') o => tables_any Γ B Mb (n : Int) lim T (by omega) (fun t ht => by have := (hI.ok t ht).1; omega) hI.asc w' o (h.below hb))
  have SMT := bx (fun Γ' A' c' w' (o : Ok Γ' w') (h' : TsG Γ' A' T.length T) (h2 : TsG Γ' A T.length T) => sameTbs_any Γ' A' A T.length T.length c' c T T (by omega) (by omega) (fun t ht => by have := (hI.ok t ht).1; omega) (fun t ht => by have := (hI.ok t ht).1; omega) w' o h' h2)
  rw [decide_eq_true (rfl : T = T)] at SMT
  clear h ht hI ok hT
  go_enter Try.func14, Try.ntmps14
  go_wp2_with fail
  refine (TBL.out _ M.out.ext.bel M.out.ext.ok).mono ?_; rintro e w1 ⟨A1, c1, Γ1, rfl, _, ht1, hx1⟩
  have M1 := bx (MM.start hx1.ok)
  go_wp2_with fail
  refine (SMT.out Γ1 A1 c1 _ M1.out.ext.ok ht1 (HT.out.mono hx1.le)).mono ?_; rintro e w2 ⟨rfl, hx2⟩
  have M' := (M.out.below hx1.bel).below (hx2.bel)
  (clear M; have M := bx M'; clear M')
  clear M1 ht1 hx1 hx2 TBL SMT
  go_wp2_with fail
  go_loopw [7] (fun i wr => ∃ k : Nat, k ≤ 8 ∧ i = .int .i64 k ∧ MM Γ w Γ wr [] []) (fun i _ => 8 - (intOf i).toNat)
  case atStart => exact ⟨0, Nat.zero_le _, rfl, M.out⟩
  case round =>
    obtain ⟨k, hk, rfl, hM⟩ := hrel
    clear M
    have M := bx hM
    clear hM
    by_cases hkn : k < 8
    · have hki : (k : Int) < 8 := by omega
      have hk0 : (0 : Int) ≤ (k : Int) := by omega
      go_wp2_with fail
      refine (checkpoint_any (k : Int) _).mono ?_; rintro e w3 ⟨ck, rfl, hb⟩
      have M' := M.out.below hb
      (clear M; have M := bx M'; clear M')
      clear hb
      go_wp2_with (first | ((with_reducible apply wpList_alc M.out); rfl; rfl; exact ztCk; intro w' g M' hb'; (clear M; have M := bx M'; clear M'); clear hb') | ((with_reducible apply wpList_sts M.out 0 (cpP ck) (cpP ck)); rfl; rfl; rfl; rfl; rfl; (first | exact rtRoot | exact rtCk | exact rtTb); rfl; exact cpP_len _; exact cp_one _; rfl; intro w' M' hg'; (simp only [List.set_cons_zero, List.set_cons_succ] at M'); (clear M; have M := bx M'; clear M'); clear hg') | ((with_reducible apply wpList_ldp M.out.at0); rfl; rfl; rfl; (first | exact rtRoot | exact rtCk | exact rtTb); rfl; rfl) | ((with_reducible apply wpList_ld1 M.out.at0); rfl; rfl; rfl; (first | exact otInt | exact otU64 | exact otU64s); rfl; rfl) | ((with_reducible apply wpList_lds M.out.at0); rfl; rfl; rfl; (first | exact rtRoot | exact rtCk | exact rtTb); rfl; (try simp only [Nat.reduceAdd, List.drop_zero, cut_cp, cut_tb, cut_tb_c])))
      obtain ⟨g8, hg8⟩ : ∃ x, x = g := ⟨_, rfl⟩
      subst hg8
      refine (findTable_any Γ A T.length c T ck (by have := HTL.out; omega) _ M.out.ext.ok HT.out).mono ?_; rintro e w4 ⟨rfl, hx⟩
      have M' := M.out.call hx
      (clear M; have M := bx M'; clear M')
      clear hx
      have BSI : Bx (∃ bs : List Int, bal (T.map oldT) (oldC ck) = bs ∧ ((findT T ck = -1 ∧ bs = []) ∨ ∃ i, ∃ hi : i < T.length, findT T ck = (i : Int) ∧ T[i].c = ck ∧ bs = T[i].b.map fun x => (x.n : Int))) := ⟨by
        refine ⟨_, rfl, ?_⟩
        rcases idxI_cases (fun t : Tbl => decide (t.c = ck)) T with ⟨h1, _⟩ | ⟨i, hi, h1, h2, _⟩
        · exact .inl ⟨h1, bal_none' (by unfold findT; rw [h1]; decide)⟩
        · have h3 : T[i].c = ck := by simpa using h2
          exact .inr ⟨i, hi, h1, h3, by rw [← h3]; exact bal_old HI.out.asc (List.getElem_mem hi)⟩⟩
      change Bx _ at M
      have KN := bx (fun w' h => known_any (P := P) B Mb (n : Int) lim (T.map oldT) (oldC ck) (oldC_ok ck) w' h)
      rw [look_old] at KN
      obtain ⟨bs, hbs, hcase⟩ := BSI.out
      have BA := bx (fun (v : Int) (w' : World) (hl : bs.length ≤ 65535) h => balance_any (P := P) B Mb (n : Int) lim (T.map oldT) (oldC ck) (oldC_ok ck) v (by rw [hbs]; exact hl) w' h)
      have BV : Bx (∀ v : Int, balV (T.map oldT) (oldC ck) v = if 0 ≤ v ∧ v < (bs.length : Int) then bs.getD v.toNat 0 else 0) := ⟨fun v => by unfold balV; rw [hbs]⟩
      have TO := bx (fun (w' : World) (hl : bs.length ≤ 65535) (hu : U64 bs) h => total_any (P := P) B Mb (n : Int) lim (T.map oldT) (oldC ck) (oldC_ok ck) (by rw [hbs]; exact hl) (by rw [hbs]; exact hu) w' h)
      rw [hbs] at TO
      have HBK := bx (fun w' (hb : Below w.heap.size w w') => HK.out.below hb)
      clear BSI hbs
      change Bx (∀ w', _ → Calls Try.prog _ _ w' _) at KN
      generalize hfi : idxI (fun t : Tbl => decide (t.c = ck)) T = fi
      have hfi' : findT T ck = fi := hfi
      rw [hfi'] at KN hcase
      clear hfi hfi'
      rcases hcase with ⟨rfl, rfl⟩ | ⟨i, hi, rfl, hc, hbs⟩
      · rw [show decide ((0 : Int) ≤ -1) = false from rfl] at KN
        have HB0 := bx (fun (v : Int) => (BV.out v).trans (if_neg (by simp only [List.length_nil]; omega)))
        clear BV
        go_wp2_with (first | ((with_reducible apply wpList_ldp M.out.at0); rfl; rfl; rfl; (first | exact rtRoot | exact rtCk | exact rtTb); rfl; rfl) | ((with_reducible apply wpList_ld1 M.out.at0); rfl; rfl; rfl; (first | exact otInt | exact otU64 | exact otU64s); rfl; rfl) | ((with_reducible apply wpList_lds M.out.at0); rfl; rfl; rfl; (first | exact rtRoot | exact rtCk | exact rtTb); rfl; (try simp only [Nat.reduceAdd, List.drop_zero, cut_cp, cut_tb, cut_tb_c])))
        refine (KN.out _ (HBK.out _ M.out.ext.bel)).mono ?_; rintro e w5 ⟨rfl, hb⟩
        have M' := M.out.below hb
        (clear M; have M := bx M'; clear M')
        clear hb KN
        go_wp2_with fail
        go_loopw [10, 11, 12] (fun s v y wr => ∃ q : Nat, q ≤ n + 2 ∧ v = .int .i64 ((q : Int) - 1) ∧ s = .int .u64 0 ∧ MM Γ w Γ wr [⟨g8, cpP ck, [1, 32]⟩] []) (fun _ v _ _ => ((n : Int) + 1 - intOf v).toNat)
        case atStart => exact ⟨0, Nat.zero_le _, rfl, rfl, M.out⟩
        case round =>
          obtain ⟨q, hq, rfl, rfl, hM⟩ := hrel
          clear M
          have M := bx hM
          clear hM
          obtain ⟨v, hv⟩ : ∃ v : Int, (q : Int) - 1 = v := ⟨_, rfl⟩
          rw [hv]
          by_cases hqn : q < n + 2
          · have hvn : v ≤ (n : Int) := by omega
            have hv1 : -1 ≤ v := by omega
            have HV := bx hv
            have HQ := bx hqn
            have HB0' := bx (HB0.out v)
            clear hv hqn
            go_wp2_with (first | ((with_reducible apply wpList_ldp M.out.at0); rfl; rfl; rfl; (first | exact rtRoot | exact rtCk | exact rtTb); rfl; rfl) | ((with_reducible apply wpList_ld1 M.out.at0); rfl; rfl; rfl; (first | exact otInt | exact otU64 | exact otU64s); rfl; rfl) | ((with_reducible apply wpList_lds M.out.at0); rfl; rfl; rfl; (first | exact rtRoot | exact rtCk | exact rtTb); rfl; (try simp only [Nat.reduceAdd, List.drop_zero, cut_cp, cut_tb, cut_tb_c])))
            refine (BA.out v _ (Nat.zero_le _) (HBK.out _ M.out.ext.bel)).mono ?_; rintro e w6 ⟨rfl, hb⟩
            rw [HB0'.out]
            have M' := M.out.below hb
            (clear M; have M := bx M'; clear M')
            clear hb
            go_wp2_with fail
            go_roundw
            case rel => exact ⟨q + 1, by have := HQ.out; omega, by rw [← HV.out]; go_num, rfl, M.out⟩
            case measure => have := HV.out; have := HQ.out; simp [intOf]; omega
          · have hvn : ¬ v ≤ (n : Int) := by omega
            go_wp2_with (first | ((with_reducible apply wpList_ldp M.out.at0); rfl; rfl; rfl; (first | exact rtRoot | exact rtCk | exact rtTb); rfl; rfl) | ((with_reducible apply wpList_ld1 M.out.at0); rfl; rfl; rfl; (first | exact otInt | exact otU64 | exact otU64s); rfl; rfl) | ((with_reducible apply wpList_lds M.out.at0); rfl; rfl; rfl; (first | exact rtRoot | exact rtCk | exact rtTb); rfl; (try simp only [Nat.reduceAdd, List.drop_zero, cut_cp, cut_tb, cut_tb_c])))
            refine (TO.out _ (Nat.zero_le _) (fun x hx => by cases hx) (HBK.out _ M.out.ext.bel)).mono ?_; rintro e w6 ⟨rfl, hb⟩
            rw [show totV [] = 0 from rfl]
            have M' := M.out.below hb
            (clear M; have M := bx M'; clear M')
            clear hb
            go_wp2_with fail
            go_roundw
            case rel => exact ⟨k + 1, by omega, by go_num, M.out.tail⟩
            case measure => simp [intOf]; omega
      · rw [show decide ((0 : Int) ≤ (i : Int)) = true from decide_eq_true (Int.natCast_nonneg i)] at KN
        obtain ⟨gt, st, eA, htb, hch⟩ := HT.out.at i hi
        subst eA
        have hib := HI.out.ok _ (List.getElem_mem hi)
        obtain ⟨As, ks, es, _, hsl⟩ := htb.s
        simp only at es
        subst es
        rw [← hc] at M
        have HCH := bx hch
        have HSL := bx hsl
        have HLB := bx hib.1
        have HSM := bx hib.2
        have HBSL : Bx (bs.length = n) := ⟨by rw [hbs, List.length_map, hib.1]⟩
        have hi0 : (0 : Int) ≤ (i : Int) := Int.natCast_nonneg i
        have hiT : (i : Int) < (T.length : Int) := by omega
        have HIT := bx hi
        rw [hc] at M HCH
        generalize T[i] = t at *
        have HBS := bx hbs
        have ECK : t.c = ck := hc
        clear hch hsl hib htb hc hbs hi
        go_wp2_with (first | ((with_reducible apply wpList_ldp M.out.at0); rfl; rfl; rfl; (first | exact rtRoot | exact rtCk | exact rtTb); rfl; rfl) | ((with_reducible apply wpList_ld1 M.out.at0); rfl; rfl; rfl; (first | exact otInt | exact otU64 | exact otU64s); rfl; rfl) | ((with_reducible apply wpList_lds M.out.at0); rfl; rfl; rfl; (first | exact rtRoot | exact rtCk | exact rtTb); rfl; (try simp only [Nat.reduceAdd, List.drop_zero, cut_cp, cut_tb, cut_tb_c])))
        refine (KN.out _ (HBK.out _ M.out.ext.bel)).mono ?_; rintro e w5 ⟨rfl, hb⟩
        have M' := M.out.below hb
        (clear M; have M := bx M'; clear M')
        clear hb KN
        have HS0 : Bx (∀ v : Int, v ≤ 0 → (bs.take v.toNat).sum = 0) := ⟨fun v hv => by rw [show v.toNat = 0 by omega]; rfl⟩
        have HSS : Bx (∀ v : Nat, v < n → ∃ y : U, t.b[v]? = some y ∧ (bs.take (v + 1)).sum = (bs.take v).sum + (y.n : Int) ∧ 0 ≤ (bs.take v).sum ∧ (bs.take v).sum + (y.n : Int) ≤ 4611686018427387904 ∧ balV (T.map oldT) (oldC ck) (v : Int) = (y.n : Int)) := ⟨fun v hv => by
          have hvl : v < t.b.length := by rw [HLB.out]; exact hv
          refine ⟨t.b[v], List.getElem?_eq_getElem hvl, ?_, ?_, ?_, ?_⟩
          · rw [HBS.out]; exact same_sum hvl
          · rw [HBS.out]; exact k_sum_nonneg (fun x hx => (u_u64 t.b) x (List.mem_of_mem_take hx))
          · rw [HBS.out, ← same_sum hvl]
            exact Int.le_trans (k_sum_take_le (u_u64 t.b) _) HSM.out
          · rw [BV.out, if_pos ⟨Int.natCast_nonneg v, by rw [HBSL.out]; omega⟩, HBS.out]
            simp [List.getD, List.getElem?_eq_getElem hvl]⟩
        have HBO : Bx (∀ v : Int, v < 0 ∨ (n : Int) ≤ v → balV (T.map oldT) (oldC ck) v = 0) := ⟨fun v hv => by rw [BV.out, if_neg]; rw [HBSL.out]; omega⟩
        have HTO : Bx (totV bs = (bs.take n).sum) := ⟨by
          have h1 : bs.take n = bs := List.take_of_length_le (by rw [HBSL.out]; exact Nat.le_refl _)
          have h2 := HSM.out
          rw [← HBS.out] at h2
          rw [h1]; exact if_pos h2⟩
        have HUU : Bx (U64 bs) := ⟨by rw [HBS.out]; exact u_u64 _⟩
        have HTK : Bx (∀ v : Int, (n : Int) ≤ v → (bs.take v.toNat).sum = (bs.take n).sum) := ⟨fun v hv => by
          rw [List.take_of_length_le (by rw [HBSL.out]; omega), List.take_of_length_le (by rw [HBSL.out]; exact Nat.le_refl _)]⟩
        clear BV HSM
        go_wp2_with fail
        go_loopw [10, 11, 12] (fun s v y wr => ∃ q : Nat, q ≤ n + 2 ∧ v = .int .i64 ((q : Int) - 1) ∧ s = .int .u64 (bs.take (((q : Int) - 1).toNat)).sum ∧ MM Γ w Γ wr [⟨g8, cpP ck, [1, 32]⟩] []) (fun _ v _ _ => ((n : Int) + 1 - intOf v).toNat)
        case atStart => exact ⟨0, Nat.zero_le _, rfl, by rw [HS0.out _ (by decide)], M.out⟩
        case round =>
          obtain ⟨q, hq, rfl, rfl, hM⟩ := hrel
          clear M
          have M := bx hM
          clear hM
          obtain ⟨v, hv⟩ : ∃ v : Int, (q : Int) - 1 = v := ⟨_, rfl⟩
          rw [hv]
          have HV := bx hv
          by_cases hqn : q < n + 2
          · have hvn : v ≤ (n : Int) := by omega
            have HQ := bx hqn
            have hv1 : -1 ≤ v := by omega
            by_cases hv0 : v < 0
            · have HB0' := bx (HBO.out v (.inl hv0))
              have hz := HS0.out v (by omega)
              have HN' : Bx ((bs.take ((((q + 1 : Nat) : Int) - 1).toNat)).sum = 0) := ⟨HS0.out _ (by omega)⟩
              rw [hz]
              clear hv hqn hz
              go_wp2_with (first | ((with_reducible apply wpList_ldp M.out.at0); rfl; rfl; rfl; (first | exact rtRoot | exact rtCk | exact rtTb); rfl; rfl) | ((with_reducible apply wpList_ld1 M.out.at0); rfl; rfl; rfl; (first | exact otInt | exact otU64 | exact otU64s); rfl; rfl) | ((with_reducible apply wpList_lds M.out.at0); rfl; rfl; rfl; (first | exact rtRoot | exact rtCk | exact rtTb); rfl; (try simp only [Nat.reduceAdd, List.drop_zero, cut_cp, cut_tb, cut_tb_c])))
              refine (BA.out v _ (by rw [HBSL.out]; have := HN.out; omega) (HBK.out _ M.out.ext.bel)).mono ?_; rintro e w6 ⟨rfl, hb⟩
              rw [HB0'.out]
              have M' := M.out.below hb
              (clear M; have M := bx M'; clear M')
              clear hb
              go_wp2_with fail
              go_roundw
              case rel => exact ⟨q + 1, by have := HQ.out; omega, by rw [← HV.out]; go_num, by rw [HN'.out], M.out⟩
              case measure => have := HV.out; have := HQ.out; simp [intOf]; omega
            · by_cases hvn2 : v < (n : Int)
              · obtain ⟨vn, rfl⟩ : ∃ vn : Nat, v = (vn : Int) := ⟨v.toNat, by omega⟩
                obtain ⟨y, hy, h1, h2, h3, h4⟩ := HSS.out vn (by omega)
                have hyl : vn < t.b.length := by rw [HLB.out]; omega
                obtain ⟨gs, eAs, hcy⟩ := usAt HSL.out vn hyl
                subst eAs
                rw [(List.getElem?_eq_some_iff.1 hy).2] at hcy
                have HCY := bx hcy
                have HN' : Bx ((bs.take ((((q + 1 : Nat) : Int) - 1).toNat)).sum = (bs.take vn).sum + (y.n : Int)) := ⟨by rw [← h1, show ((((q + 1 : Nat) : Int) - 1).toNat) = vn + 1 by omega]⟩
                rw [Int.toNat_natCast]
                have HB0' := bx h4
                have hlb : (vn : Int) < (t.b.length : Int) := by omega
                have hvv0 : (0 : Int) ≤ (vn : Int) := Int.natCast_nonneg vn
                have hy0 : (0 : Int) ≤ (y.n : Int) := Int.natCast_nonneg _
                clear hv hqn hy h1 h4 hyl hcy hv0
                generalize (bs.take vn).sum = z at *
                go_wp2_with (first | ((with_reducible apply wpList_ldp M.out.at0); rfl; rfl; rfl; (first | exact rtRoot | exact rtCk | exact rtTb); rfl; rfl) | ((with_reducible apply wpList_ld1 M.out.at0); rfl; rfl; rfl; (first | exact otInt | exact otU64 | exact otU64s); rfl; rfl) | ((with_reducible apply wpList_lds M.out.at0); rfl; rfl; rfl; (first | exact rtRoot | exact rtCk | exact rtTb); rfl; (try simp only [Nat.reduceAdd, List.drop_zero, cut_cp, cut_tb, cut_tb_c])) | ((with_reducible apply wpList_rdp (CL.of HCH.out (tbP_len _ _) M.out.ext.ok)); rfl; rfl; rfl; (first | exact rtRoot | exact rtCk | exact rtTb); rfl; rfl) | ((with_reducible apply wpList_rd1 (CL.of HCH.out (tbP_len _ _) M.out.ext.ok)); rfl; rfl; rfl; (first | exact otInt | exact otU64 | exact otU64s); rfl; rfl) | ((with_reducible apply wpList_rds (CL.of HCH.out (tbP_len _ _) M.out.ext.ok)); rfl; rfl; rfl; (first | exact rtRoot | exact rtCk | exact rtTb); rfl; (try simp only [Nat.reduceAdd, List.drop_zero, cut_cp, cut_tb, cut_tb_c])) | ((with_reducible apply wpList_rdp0 (CL.of HCH.out (tbP_len _ _) M.out.ext.ok)); rfl; rfl; rfl; (first | exact rtRoot | exact rtCk | exact rtTb); rfl; rfl) | ((with_reducible apply wpList_rd10 (CL.of HCH.out (tbP_len _ _) M.out.ext.ok)); rfl; rfl; rfl; (first | exact otInt | exact otU64 | exact otU64s); rfl; rfl) | ((with_reducible apply wpList_rds0 (CL.of HCH.out (tbP_len _ _) M.out.ext.ok)); rfl; rfl; rfl; (first | exact rtRoot | exact rtCk | exact rtTb); rfl; (try simp only [Nat.reduceAdd, List.drop_zero, cut_cp, cut_tb, cut_tb_c])) | ((with_reducible apply wpList_rdp (CL.of HCY.out rfl M.out.ext.ok)); rfl; rfl; rfl; (first | exact rtRoot | exact rtCk | exact rtTb); rfl; rfl) | ((with_reducible apply wpList_rd1 (CL.of HCY.out rfl M.out.ext.ok)); rfl; rfl; rfl; (first | exact otInt | exact otU64 | exact otU64s); rfl; rfl) | ((with_reducible apply wpList_rds (CL.of HCY.out rfl M.out.ext.ok)); rfl; rfl; rfl; (first | exact rtRoot | exact rtCk | exact rtTb); rfl; (try simp only [Nat.reduceAdd, List.drop_zero, cut_cp, cut_tb, cut_tb_c])) | ((with_reducible apply wpList_rdp0 (CL.of HCY.out rfl M.out.ext.ok)); rfl; rfl; rfl; (first | exact rtRoot | exact rtCk | exact rtTb); rfl; rfl) | ((with_reducible apply wpList_rd10 (CL.of HCY.out rfl M.out.ext.ok)); rfl; rfl; rfl; (first | exact otInt | exact otU64 | exact otU64s); rfl; rfl) | ((with_reducible apply wpList_rds0 (CL.of HCY.out rfl M.out.ext.ok)); rfl; rfl; rfl; (first | exact rtRoot | exact rtCk | exact rtTb); rfl; (try simp only [Nat.reduceAdd, List.drop_zero, cut_cp, cut_tb, cut_tb_c])))
                go_wp2_with (first | ((with_reducible apply wpList_ldp M.out.at0); rfl; rfl; rfl; (first | exact rtRoot | exact rtCk | exact rtTb); rfl; rfl) | ((with_reducible apply wpList_ld1 M.out.at0); rfl; rfl; rfl; (first | exact otInt | exact otU64 | exact otU64s); rfl; rfl) | ((with_reducible apply wpList_lds M.out.at0); rfl; rfl; rfl; (first | exact rtRoot | exact rtCk | exact rtTb); rfl; (try simp only [Nat.reduceAdd, List.drop_zero, cut_cp, cut_tb, cut_tb_c])))
                refine (BA.out (vn : Int) _ (by rw [HBSL.out]; have := HN.out; omega) (HBK.out _ M.out.ext.bel)).mono ?_; rintro e w6 ⟨rfl, hb⟩
                rw [HB0'.out]
                have M' := M.out.below hb
                (clear M; have M := bx M'; clear M')
                clear hb
                go_wp2_with fail
                go_roundw
                case rel => exact ⟨q + 1, by have := HQ.out; omega, by rw [← HV.out]; go_num, by rw [HN'.out], M.out⟩
                case measure => have := HV.out; have := HQ.out; simp [intOf]; omega
              · have hvv : v = (n : Int) := by omega
                have HB0' := bx (HBO.out v (.inr (by omega)))
                have hz := HTK.out v (by omega)
                have HN' : Bx ((bs.take ((((q + 1 : Nat) : Int) - 1).toNat)).sum = (bs.take n).sum) := ⟨HTK.out _ (by omega)⟩
                have HZ : Bx (0 ≤ (bs.take n).sum ∧ (bs.take n).sum < 18446744073709551616) := ⟨k_sum_nonneg (fun x hx => HUU.out x (List.mem_of_mem_take hx)), by
                  have := HTO.out
                  unfold totV at this
                  split at this <;> omega⟩
                obtain ⟨hz0, hz1⟩ := HZ.out
                rw [hz]
                clear hv hqn hz hvv
                generalize (bs.take n).sum = z at *
                go_wp2_with (first | ((with_reducible apply wpList_ldp M.out.at0); rfl; rfl; rfl; (first | exact rtRoot | exact rtCk | exact rtTb); rfl; rfl) | ((with_reducible apply wpList_ld1 M.out.at0); rfl; rfl; rfl; (first | exact otInt | exact otU64 | exact otU64s); rfl; rfl) | ((with_reducible apply wpList_lds M.out.at0); rfl; rfl; rfl; (first | exact rtRoot | exact rtCk | exact rtTb); rfl; (try simp only [Nat.reduceAdd, List.drop_zero, cut_cp, cut_tb, cut_tb_c])))
                refine (BA.out v _ (by rw [HBSL.out]; have := HN.out; omega) (HBK.out _ M.out.ext.bel)).mono ?_; rintro e w6 ⟨rfl, hb⟩
                rw [HB0'.out]
                have M' := M.out.below hb
                (clear M; have M := bx M'; clear M')
                clear hb
                go_wp2_with fail
                go_roundw
                case rel => exact ⟨q + 1, by have := HQ.out; omega, by rw [← HV.out]; go_num, by rw [HN'.out], M.out⟩
                case measure => have := HV.out; have := HQ.out; simp [intOf]; omega
          · have hvn : ¬ v ≤ (n : Int) := by omega
            have hz := HTK.out v (by omega)
            rw [hz]
            clear hv hz
            go_wp2_with (first | ((with_reducible apply wpList_ldp M.out.at0); rfl; rfl; rfl; (first | exact rtRoot | exact rtCk | exact rtTb); rfl; rfl) | ((with_reducible apply wpList_ld1 M.out.at0); rfl; rfl; rfl; (first | exact otInt | exact otU64 | exact otU64s); rfl; rfl) | ((with_reducible apply wpList_lds M.out.at0); rfl; rfl; rfl; (first | exact rtRoot | exact rtCk | exact rtTb); rfl; (try simp only [Nat.reduceAdd, List.drop_zero, cut_cp, cut_tb, cut_tb_c])))
            refine (TO.out _ (by rw [HBSL.out]; have := HN.out; omega) HUU.out (HBK.out _ M.out.ext.bel)).mono ?_; rintro e w6 ⟨rfl, hb⟩
            rw [HTO.out]
            have M' := M.out.below hb
            (clear M; have M := bx M'; clear M')
            clear hb
            generalize (bs.take n).sum = z at *
            go_wp2_with fail
            go_roundw
            case rel => exact ⟨k + 1, by omega, by go_num, M.out.tail⟩
            case measure => simp [intOf]; omega
    · obtain rfl : 8 = k := by omega
      go_wp2_with fail
      go_ret
      exact ⟨rfl, M.out.ext.bel⟩
theorem stay_old (T : List Tbl) (e : Nat) : stayT (e : Int) (T.map oldT) = (dropT T e).map oldT := by
  unfold stayT dropT
  rw [List.filter_map]
  congr 1
  refine List.filter_congr fun t _ => ?_
  show (!decide ((t.c.e.n : Int) < (e : Int))) = decide (e ≤ t.c.e.n)
  by_cases h : e ≤ t.c.e.n
  · rw [decide_eq_true h, decide_eq_false (by omega)]; rfl
  · rw [decide_eq_false h, decide_eq_true (by omega)]; rfl
theorem TInv.drop {n : Nat} {T : List Tbl} (h : TInv n T) (e : Nat) : TInv n (dropT T e) := ⟨h.asc.filter _, fun t ht => h.ok t (List.mem_filter.1 ht).1⟩
theorem tbE_zero {b : List U} {v : Int} (h : tbE b v = 0) : (b.length : Int) = v ∧ (b.map fun x => (x.n : Int)).sum ≤ 4611686018427387904 := by
  unfold tbE valE at h
  split at h
  · rename_i h1
    split at h
    · rename_i h2; exact ⟨h1, h2⟩
    · cases h
  · cases h
theorem TInv.reg {n : Nat} {T : List Tbl} (h : TInv n T) (t : Tbl) (lim : Int) : TInv n (regM T t (n : Int) lim).2 := by
  refine ⟨regM_asc h.asc t _ _, fun x hx => ?_⟩
  unfold regM at hx
  split at hx
  · exact h.ok x hx
  · rename_i h0
    split at hx
    · exact h.ok x hx
    · split at hx
      · exact h.ok x hx
      · rcases List.mem_append.1 ((addT_perm T t).mem_iff.1 hx) with h1 | h1
        · exact h.ok x h1
        · have : x = t := by simpa using h1
          subst this
          have h2 := tbE_zero (Decidable.not_not.1 h0)
          exact ⟨by omega, h2.2⟩
theorem regM_len {n : Nat} {T : List Tbl} (t : Tbl) (v lim : Int) (hl : (T.length : Int) ≤ lim) : ((regM T t v lim).2.length : Int) ≤ lim := by
  unfold regM
  split
  · exact hl
  · split
    · exact hl
    · split
      · exact hl
      · rename_i h3
        rw [(addT_perm T t).length_eq, List.length_append]
        simp only [List.length_cons, List.length_nil]
        omega
theorem and_mask24 (x : Int) : ∃ m : Nat, bits .and .i64 x 16777215 = (m : Int) ∧ m < 16777216 := by
  have h' : bits .and .i64 x 16777215 = x % 16777216 := and_ones x 24 (by decide)
  have h0 : 0 ≤ x % 16777216 := Int.emod_nonneg _ (by decide)
  have h1 : x % 16777216 < 16777216 := Int.emod_lt_of_pos _ (by decide)
  exact ⟨(x % 16777216).toNat, by rw [h', Int.toNat_of_nonneg h0], by omega⟩
theorem and3 (x : Int) : ∃ m : Nat, bits .and .i64 x 3 = (m : Int) ∧ m ≤ 3 := by
  have h' : bits .and .i64 x 3 = x % 4 := and_ones x 2 (by decide)
  have h0 : 0 ≤ x % 4 := Int.emod_nonneg _ (by decide)
  have h1 : x % 4 < 4 := Int.emod_lt_of_pos _ (by decide)
  exact ⟨(x % 4).toNat, by rw [h', Int.toNat_of_nonneg h0], by omega⟩
set_option maxRecDepth 20000 in
set_option maxHeartbeats 1000000 in
theorem balancesRegisters_walk (A0 : Option Addr) (n0 c0 : Nat) (l : List Int) (n lim : Int) (w : World) (hf : Fit .i64 l) (hl : l.length = n0) (hr : Row w w.heap.size 1 A0 n0 (ints .i64 l)) (hc : n0 ≤ c0) (hm : c0 ≤ maxLen) (hn : (Lit.int .i64 n).wf = true) (hlim : (Lit.int .i64 lim).wf = true) :
    Calls Try.prog 3 #[.slice A0 n0 c0, .int .i64 n, .int .i64 lim] w fun e w' => e = .returned (.bool true) ∧ Below w.heap.size w w' := by
  clear hn hlim hf
  obtain ⟨v, hv, hv3⟩ := and3 n
  obtain ⟨m, hm1, hm3⟩ := and3 lim
  have M := bx (MM.start (ok_g0 w))
  have HR := bx hr
  have HL := bx hl
  have hn0 : (n0 : Int) ≤ 9223372036854775807 := by unfold maxLen at hm; omega
  have hv0 : (0 : Int) ≤ (v : Int) := by omega
  have hv4 : (v : Int) ≤ 3 := by omega
  have hm0 : (0 : Int) ≤ (m : Int) := by omega
  have hm4 : (m : Int) ≤ 3 := by omega
  clear hr hl hc hm
  go_enter Try.func3, Try.ntmps3
  go_wp2_with fail
  refine (newBook_any (v : Int) (1 + (m : Int)) _).mono ?_; rintro e w1 ⟨hcase, hb⟩
  rcases hcase with ⟨h, _⟩ | ⟨_, B, Mb, hM, hB, rfl, hbk⟩
  · exfalso; omega
  · have M' := M.out.below hb
    (clear M; have M := bx M'; clear M')
    have K := bx (hbk fun _ => True)
    have HMb := bx hM
    clear hb hbk hM hB
    go_wp2_with fail
    go_loopw [9, 10] (fun s i wr => ∃ (k : Nat) (T : List Tbl) (A : Option Addr) (c : Nat) (Γ : Gam), k ≤ 12 ∧ i = .int .i64 k ∧ s = .slice A T.length c ∧ CapOk A T.length c ∧ TsG Γ A T.length T ∧ TInv v T ∧ (T.length : Int) ≤ 1 + (m : Int) ∧ Bk (fun _ => True) wr B Mb (v : Int) (1 + (m : Int)) (T.map oldT) ∧ MM g0 w Γ wr [] []) (fun _ i _ => 12 - (intOf i).toNat)
    case atStart => exact ⟨0, [], none, 0, g0, Nat.zero_le _, rfl, rfl, ⟨Nat.le_refl _, Nat.zero_le _, fun _ => rfl⟩, ⟨rfl, [], All2.nil, fun h => absurd h (Nat.lt_irrefl _)⟩, ⟨List.Pairwise.nil, fun t h => by cases h⟩, by simp only [List.length_nil]; omega, K.out, M.out⟩
    case round =>
      obtain ⟨k, T, A, c, Γ, hk, rfl, rfl, hcap, hts, hI, hTl, hK, hM⟩ := hrel
      clear M K
      have M := bx hM
      have K := bx hK
      have HC := bx hcap
      have HT := bx hts
      have HI := bx hI
      have hT4 : T.length ≤ 4 := by omega
      clear hM hK hcap hts hI
      by_cases hk12 : k < 12
      · by_cases hkn : k < n0
        · have hki : (k : Int) < (n0 : Int) := by omega
          have hk0 : (0 : Int) ≤ (k : Int) := by omega
          have hkc : (k : Int) < 12 := by omega
          have hkl : k < l.length := by rw [HL.out]; exact hkn
          obtain ⟨ad, rfl, _, hcell⟩ := (HR.out.below M.out.ext.bel).at_ (k := k) (u := .int .i64 l[k]) (by unfold ints; rw [List.getElem?_map, List.getElem?_eq_getElem hkl]; rfl)
          obtain ⟨kk, hkk, hkk1⟩ := and_mask24 l[k]
          have hkk0 : (0 : Int) ≤ (kk : Int) := by omega
          have hkk2 : (kk : Int) < 16777216 := by omega
          generalize l[k] = x at *
          by_cases hd : (bits .and .i64 ((kk : Int) / 1048576) 3 == 3) = true
          · obtain ⟨e3, he3, he4⟩ := and3 (kk : Int)
            have hee0 : (0 : Int) ≤ (e3 : Int) := by omega
            have hee1 : (e3 : Int) ≤ 3 := by omega
            go_wp2_with fail
            refine (dropTables_any Γ A T.length c T e3 (by omega) _ M.out.ext.ok HT.out).mono ?_; rintro e w2 ⟨A2, c2, Γ2, rfl, hc2, ht2, hx⟩
            have M' := M.out.call hx
            (clear M; have M := bx M'; clear M')
            have K' := K.out.below hx.bel
            clear K
            have K := bx K'
            have HC2 := bx hc2
            have HT2 := bx ht2
            clear K' hx hc2 ht2
            go_wp2_with fail
            refine (dropBk_any B Mb (v : Int) (1 + (m : Int)) (T.map oldT) (by rw [List.length_map]; omega) ⟨e3, by omega⟩ _ K.out).mono ?_; rintro e w3 ⟨rfl, hk3, hg⟩
            rw [stay_old] at hk3
            have HLN : Bx (((T.map oldT).length : Int) - ((stayT (e3 : Int) (T.map oldT)).length : Int) = (T.length : Int) - ((dropT T e3).length : Int)) := ⟨by rw [stay_old, List.length_map, List.length_map]⟩
            have M' := M.out.map hg HMb.out (no_cells K.out.m)
            (clear M; have M := bx M'; clear M')
            clear K
            have K := bx hk3
            have hdl := dropT_len T e3
            have HI2 := bx (HI.out.drop e3)
            clear hk3 hg
            simp only [HLN.out]
            have hd0 : (0 : Int) ≤ ((dropT T e3).length : Int) := Int.natCast_nonneg _
            have hd1 : ((dropT T e3).length : Int) ≤ (T.length : Int) := by omega
            have hd2 : (T.length : Int) ≤ 4 := by omega
            have HTl := bx hTl
            clear hTl
            generalize hTd : dropT T e3 = T2 at *
            clear hTd
            go_wp2_with fail
            refine (same_any Γ2 B Mb v (1 + (m : Int)) T2 (by omega) HI2.out hv3 A2 c2 _ M.out.ext.ok K.out HT2.out).mono ?_; rintro e w4 ⟨rfl, hb⟩
            have M' := M.out.below hb
            (clear M; have M := bx M'; clear M')
            have K' := K.out.below hb
            clear K
            have K := bx K'
            clear K' hb
            go_wp2_with fail
            go_roundw
            case rel => exact ⟨k + 1, T2, A2, c2, Γ2, by omega, by go_num, rfl, HC2.out, HT2.out, HI2.out, by have := HTl.out; omega, K.out, M.out⟩
            case measure => simp [intOf]; omega
          · have hd' : (bits .and .i64 ((kk : Int) / 1048576) 3 == 3) = false := by simpa using hd
            clear hd
            go_wp2_with fail
            refine (table_any Γ (kk : Int) hkk0 hkk2 v hv3 _ M.out.ext.ok).mono ?_; rintro e w2 ⟨ct, bt, At, kt, Γ2, rfl, hct, hst, hbt, hx⟩
            have M' := M.out.call hx
            (clear M; have M := bx M'; clear M')
            have K' := K.out.below hx.bel
            clear K
            have K := bx K'
            have HCT := bx hct
            have HST := bx hst
            have HT2 := bx (HT.out.mono hx.le)
            have HTl := bx hTl
            have HBT := bx hbt
            clear K' hx hct hst hd' hkk hcell hbt hTl hkl
            have HKS := bx (And.intro hk12 (And.intro hT4 (And.intro hv3 hm3)))
            clear hT4 hkk0 hkk1 hkk2 hkc hk0 hki hv3 hv4 hm3 hm4 hk12 hkn hv hm1 hm0 hv0 hn0 hk
            have M2 := M
            clear M
            have M := bx (MM.start M2.out.ext.ok)
            go_wp2_with (first | ((with_reducible apply wpList_alc M.out); rfl; rfl; exact ztTb; intro w' g M' hb'; (clear M; have M := bx M'; clear M'); clear hb') | ((with_reducible apply wpList_sts M.out 0 (tbP ct (.slice At bt.length kt)) (tbP ct (.slice At bt.length kt))); rfl; rfl; rfl; rfl; rfl; (first | exact rtRoot | exact rtCk | exact rtTb); rfl; exact tbP_len _ _; exact tb_one _ _ _ _; rfl; intro w' M' hg'; (simp only [List.set_cons_zero, List.set_cons_succ] at M'); (clear M; have M := bx M'; clear M'); clear hg') | ((with_reducible apply wpList_ldp M.out.at0); rfl; rfl; rfl; (first | exact rtRoot | exact rtCk | exact rtTb); rfl; rfl) | ((with_reducible apply wpList_ld1 M.out.at0); rfl; rfl; rfl; (first | exact otInt | exact otU64 | exact otU64s); rfl; rfl) | ((with_reducible apply wpList_lds M.out.at0); rfl; rfl; rfl; (first | exact rtRoot | exact rtCk | exact rtTb); rfl; (try simp only [Nat.reduceAdd, List.drop_zero, cut_cp, cut_tb, cut_tb_c])))
            refine (refRegister_any Γ2 A T.length c T ⟨ct, bt⟩ (.slice At bt.length kt) (v : Int) (1 + (m : Int)) (by have := HKS.out.2.1; omega) (by have := HBT.out; simp only; omega) _ M.out.ext.ok HT2.out HC.out ⟨rfl, _, _, rfl, HCT.out, HST.out⟩).mono ?_; rintro e w3 ⟨A3, c3, Γ3, rfl, hc3, ht3, hx⟩
            have M' := M.out.call hx
            (clear M; have M := bx M'; clear M')
            have HC3 := bx hc3
            have HT3 := bx ht3
            have HS3 := bx (HST.out.mono hx.le)
            clear hx hc3 ht3
            have HI3 := bx (HI.out.reg ⟨ct, bt⟩ (1 + (m : Int)))
            have HL3 := bx (regM_len (n := v) ⟨ct, bt⟩ (v : Int) (1 + (m : Int)) HTl.out)
            go_wp2_with (first | ((with_reducible apply wpList_ldp M.out.at0); rfl; rfl; rfl; (first | exact rtRoot | exact rtCk | exact rtTb); rfl; rfl) | ((with_reducible apply wpList_ld1 M.out.at0); rfl; rfl; rfl; (first | exact otInt | exact otU64 | exact otU64s); rfl; rfl) | ((with_reducible apply wpList_lds M.out.at0); rfl; rfl; rfl; (first | exact rtRoot | exact rtCk | exact rtTb); rfl; (try simp only [Nat.reduceAdd, List.drop_zero, cut_cp, cut_tb, cut_tb_c])))
            have K' := K.out.below M.out.ext.bel
            clear K
            have K := bx K'
            clear K'
            refine (registerN_any B Mb (v : Int) (1 + (m : Int)) (by have := HKS.out.2.2.2; omega) T ⟨ct, bt⟩ At kt (by have := HBT.out; simp only; omega) _ K.out (fun _ _ => trivial) (HS3.out.row (size := 1) (by rw [us_len, Nat.mul_one]) M.out.ext.ok) HCT.out.nil).mono ?_; rintro e w4 ⟨rfl, hk4, hg⟩
            have M3 := (M2.out.call M.out.ext).map hg HMb.out (no_cells K.out.m)
            clear M M2 K
            have M := bx M3
            have K := bx hk4
            clear M3 hk4 hg
            generalize regM T ⟨ct, bt⟩ (v : Int) (1 + (m : Int)) = r at *
            obtain ⟨r1, T3⟩ := r
            simp only at HC3 HT3 HI3 HL3 K ⊢
            have hT3 : T3.length ≤ 4 := by have := HL3.out; have := HKS.out.2.2.2; omega
            have hv3 := HKS.out.2.2.1
            go_wp2_with fail
            refine (same_any Γ3 B Mb v (1 + (m : Int)) T3 (by omega) HI3.out hv3 A3 c3 _ M.out.ext.ok K.out HT3.out).mono ?_; rintro e w5 ⟨rfl, hb⟩
            have M' := M.out.below hb
            (clear M; have M := bx M'; clear M')
            have K' := K.out.below hb
            clear K
            have K := bx K'
            clear K' hb
            have hk12 := HKS.out.1
            go_wp2_with fail
            go_roundw
            case rel => exact ⟨k + 1, T3, A3, c3, Γ3, by omega, by go_num, rfl, HC3.out, HT3.out, HI3.out, HL3.out, K.out, M.out⟩
            case measure => simp [intOf]; omega
        · have hki : ¬ (k : Int) < (n0 : Int) := by omega
          go_wp2_with fail
          refine (awake7_any _).mono ?_; rintro e w9 ⟨rfl, hb⟩
          have M' := M.out.below hb
          (clear M; have M := bx M'; clear M')
          clear hb
          go_wp2_with fail
          go_ret
          exact ⟨rfl, M.out.ext.bel⟩
      · have hki : ¬ (k : Int) < 12 := by omega
        go_wp2_with fail
        all_goals
          refine (awake7_any _).mono ?_; rintro e w9 ⟨rfl, hb⟩
          have M' := M.out.below hb
          (clear M; have M := bx M'; clear M')
          clear hb
          go_wp2_with fail
          go_ret
          exact ⟨rfl, M.out.ext.bel⟩
end Go.Proofs.Ytekikfdlnkcenaa
