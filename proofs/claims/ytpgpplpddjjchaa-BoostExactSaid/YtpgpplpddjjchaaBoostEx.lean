/- The walk of BoostExact. -/
import Derived.Test.YtpgpplpddjjchaaBoostA
import Derived.Test.YtpgpplpddjjchaaWideS
namespace Go.Proofs.Ytpgpplpddjjchaa
open Go.RowKit

theorem wl_small {x : Nat} (h : x < 18446744073709551616) : #[Value.int .u64 (x : Int), .int .u64 0, .int .u64 0, .int .u64 0] = (ints .u64 (wl x)).toArray := by
  have e : (2 : Nat) ^ 64 = 18446744073709551616 := rfl
  have h0 : limb x 0 = (x : Int) := by unfold limb; rw [Nat.mul_zero, Nat.pow_zero, Nat.div_one, Nat.mod_eq_of_lt (by rw [e]; exact h)]
  have hj : ∀ j, 0 < j → limb x j = 0 := fun j hj => by
    unfold limb
    have : 2 ^ 64 ≤ 2 ^ (64 * j) := Nat.pow_le_pow_right (by decide) (by omega)
    rw [Nat.div_eq_of_lt (by omega)]; rfl
  unfold wl
  rw [h0, hj 1 (by omega), hj 2 (by omega), hj 3 (by omega)]
  rfl
theorem wl_set {x : Nat} (h : x < 18446744073709551616) : (ints .u64 (wl 0)).set 0 (.int .u64 (x : Int)) = ints .u64 (wl x) := by
  have := wl_small h
  have e : (ints .u64 (wl 0)).set 0 (.int .u64 (x : Int)) = [Value.int .u64 (x : Int), .int .u64 0, .int .u64 0, .int .u64 0] := rfl
  exact e.trans (congrArg Array.toList this)
theorem ok_small {m : Nat} (h : m < 2 ^ 256) : okW m = m ∧ erW m = 0 := ⟨if_pos h, if_pos h⟩
set_option maxRecDepth 20000 in
set_option maxHeartbeats 1000000 in
theorem boostExact_walk (s p t : Int) (w : World) (ws : (Lit.int .u64 s).wf = true) (wp : (Lit.int .u64 p).wf = true) (wt : (Lit.int .u64 t).wf = true) :
    Calls Try.prog 6 #[.int .u64 s, .int .u64 p, .int .u64 t] w fun e w' => e = .returned (.bool true) ∧ Below w.heap.size w w' := by
  obtain ⟨s0, s1⟩ := u64_of_wf ws
  obtain ⟨p0, p1⟩ := u64_of_wf wp
  obtain ⟨t0, t1⟩ := u64_of_wf wt
  clear ws wp wt
  obtain ⟨S, hS⟩ : ∃ S : Nat, 1 + s % 64 = (S : Int) := ⟨(1 + s % 64).toNat, by omega⟩
  obtain ⟨P, hP⟩ : ∃ P : Nat, p % 101 = (P : Int) := ⟨(p % 101).toNat, by omega⟩
  obtain ⟨T, hT⟩ : ∃ T : Nat, t % 4611686018427387905 = (T : Int) := ⟨(t % 4611686018427387905).toNat, by omega⟩
  have hS1 : 1 ≤ S := by omega
  have hS2 : S ≤ 64 := by omega
  have hP2 : P ≤ 100 := by omega
  have hT2 : T ≤ 4611686018427387904 := by omega
  obtain ⟨X, hX⟩ : ∃ X, X = T / S := ⟨_, rfl⟩
  have hX2 : X ≤ 4611686018427387904 := by rw [hX]; exact Nat.le_trans (Nat.div_le_self _ _) hT2
  have hXe : (T : Int) / (S : Int) = (X : Int) := by rw [hX, Int.natCast_ediv]
  have hXP : X * P ≤ 461168601842738790400 := Nat.le_trans (Nat.mul_le_mul hX2 hP2) (by decide)
  obtain ⟨N, hN⟩ : ∃ N, N = X * P / 100 := ⟨_, rfl⟩
  have hN2 : N ≤ 4611686018427387904 := by omega
  have HAM : Bx (amt S P T = (N : Int) ∧ amtE S P T = 0) := by
    have hok : amtOk S P T := ⟨by omega, by omega, by omega, by omega⟩
    refine ⟨?_, ?_⟩
    · unfold amt; rw [if_pos hok, hXe, hN, Int.natCast_ediv, Int.natCast_mul]; rfl
    · unfold amtE; rw [if_pos hok]
  have hz := wz_lit
  have hl1 := wl_set (x := X) (by omega)
  have hl2 := wl_set (x := N) (by omega)
  have hl3 : (ints .u64 (wl 0)).set 0 (.int .u64 ((N : Int) + 1)) = ints .u64 (wl (N + 1)) := wl_set (x := N + 1) (by omega)
  have b256 : (461168601842738790400 : Nat) < 2 ^ 256 := by decide +kernel
  have M1 := bx (mulSmall_any X P (by omega) (by omega))
  have M2 := bx (mulSmall_any N 100 (by omega) (by omega))
  have M3 := bx (mulSmall_any (N + 1) 100 (by omega) (by omega))
  have O1 := bx (ok_small (m := X * P) (by omega))
  have O2 := bx (ok_small (m := N * 100) (by omega))
  have O3 := bx (ok_small (m := (N + 1) * 100) (by omega))
  have hle : N * 100 ≤ X * P := by omega
  have hlt : X * P < (N + 1) * 100 := by omega
  have D1 := bx (refCompare_any (N * 100) (X * P) (by omega) (by omega))
  have D2 := bx (refCompare_any (X * P) ((N + 1) * 100) (by omega) (by omega))
  have hD1 : cmpW (N * 100) (X * P) = -1 ∨ cmpW (N * 100) (X * P) = 0 := by
    unfold cmpW
    by_cases h : N * 100 < X * P
    · left; rw [if_pos h]
    · right; rw [if_neg h, if_neg (by omega)]
  have hD2 : cmpW (X * P) ((N + 1) * 100) = -1 := by unfold cmpW; rw [if_pos hlt]
  rw [hD2] at D2
  have HS1 : (S : Int) ≥ 1 := by omega
  clear hle hlt hD2 b256 hN hX hXP
  generalize X * P = A at *
  generalize hBe : N * 100 = B at *
  generalize hCe : (N + 1) * 100 = C at *
  clear hBe hCe
  have hSe : IntKind.u64.wrap (1 + s % 64) = (S : Int) := by rw [hS]; exact u64_in (by omega) (by omega)
  go_enter Try.func6, Try.ntmps6
  go_wp2_with fail
  refine (amount_any _ S P T _ rfl rfl (by omega) (by omega) (by omega) (by omega) (by omega) (by omega)).mono ?_; rintro e w1 ⟨he, hb1⟩
  rw [HAM.out.1, HAM.out.2] at he
  subst he
  have B1 := bx hb1
  rw [hP, hT]
  clear hb1 hS hP hT s0 s1 p0 p1 t0 t1 hSe
  have Z1 := bx (Has.new w1 (ints .u64 (wl 0)) 37)
  go_wp2_with fail
  refine (M1.out _).mono ?_; rintro e w2 ⟨he, hb2⟩
  rw [O1.out.1, O1.out.2] at he
  subst he
  have B2 := bx (B1.out.trans (hb2.mono B1.out.size))
  have Z2 := bx (Has.new w2 (ints .u64 (wl 0)) 37)
  clear hb2
  go_wp2_with ((with_reducible refine wpList_storeB rfl 37 _ _ rfl _ (ints .u64 (wl A)) _ ?_ ?_ Z2.out (wl_len2 _ _) Try.underlying37 ?_ (wl_one _) ?_); rfl; rfl; exact cells_wide _; intro w3 hw hg hz0; have G := grown_over_alloc hg; have F9 := bx hw; have B3 := bx (B2.out.grown G B2.out.size (fun k hk => by cases hk; exact B2.out.size)); clear G; clear hw hg hz0)
  refine (M2.out _).mono ?_; rintro e w4 ⟨he, hb4⟩
  rw [O2.out.1, O2.out.2] at he
  subst he
  have B4 := bx (B3.out.trans (hb4.mono B3.out.size))
  have F94 := bx (F9.out.below hb4 F9.out.lt)
  have N94 : Bx (w2.heap.size ≠ w4.heap.size) := ⟨Nat.ne_of_lt F94.out.lt⟩
  have Z4 := bx (Has.new w4 (ints .u64 (wl 0)) 37)
  clear hb4
  go_wp2_with ((with_reducible refine wpList_storeB rfl 37 _ _ rfl _ (ints .u64 (wl B)) _ ?_ ?_ Z4.out (wl_len2 _ _) Try.underlying37 ?_ (wl_one _) ?_); rfl; rfl; exact cells_wide _; intro w5 hw hg hz0; have G := grown_over_alloc hg; have F11 := bx hw; have F95 := bx (F94.out.grown G (ne_som N94.out)); have B5 := bx (B4.out.grown G B4.out.size (fun k hk => by cases hk; exact B4.out.size)); clear G; clear hw hg hz0)
  refine (M3.out _).mono ?_; rintro e w6 ⟨he, hb6⟩
  rw [O3.out.1, O3.out.2] at he
  subst he
  have B6 := bx (B5.out.trans (hb6.mono B5.out.size))
  have F96 := bx (F95.out.below hb6 F95.out.lt)
  have F116 := bx (F11.out.below hb6 F11.out.lt)
  have N96 : Bx (w2.heap.size ≠ w6.heap.size) := ⟨Nat.ne_of_lt F96.out.lt⟩
  have N116 : Bx (w4.heap.size ≠ w6.heap.size) := ⟨Nat.ne_of_lt F116.out.lt⟩
  have Z6 := bx (Has.new w6 (ints .u64 (wl 0)) 37)
  clear hb6
  go_wp2_with (first | ((with_reducible refine wpList_storeB rfl 37 _ _ rfl _ (ints .u64 (wl C)) _ ?_ ?_ Z6.out (wl_len2 _ _) Try.underlying37 ?_ (wl_one _) ?_); rfl; rfl; exact cells_wide _; intro w7 hw hg hz0; have G := grown_over_alloc hg; have F13 := bx hw; have F97 := bx (F96.out.grown G (ne_som N96.out)); have F117 := bx (F116.out.grown G (ne_som N116.out)); have B7 := bx (B6.out.grown G B6.out.size (fun k hk => by cases hk; exact B6.out.size)); clear G; clear hw hg hz0) | ((with_reducible refine wpList_loadG 37 _ rfl _ (ints .u64 (wl B)) ?_ ?_ F117.out Try.underlying37 rfl ?_ ?_); rfl; rfl; exact cells_wide _) | ((with_reducible refine wpList_loadG 37 _ rfl _ (ints .u64 (wl A)) ?_ ?_ F97.out Try.underlying37 rfl ?_ ?_); rfl; rfl; exact cells_wide _))
  refine (D1.out _).mono ?_; rintro e w8 ⟨rfl, hb8⟩
  have B8 := bx (B7.out.trans (hb8.mono B7.out.size))
  have F98 := bx (F97.out.below hb8 F97.out.lt)
  have F138 := bx (F13.out.below hb8 F13.out.lt)
  clear hb8
  rcases hD1 with hD | hD
  all_goals
    rw [hD]
    go_wp2_with (first | ((with_reducible refine wpList_loadG 37 _ rfl _ (ints .u64 (wl A)) ?_ ?_ F98.out Try.underlying37 rfl ?_ ?_); rfl; rfl; exact cells_wide _) | ((with_reducible refine wpList_loadG 37 _ rfl _ (ints .u64 (wl C)) ?_ ?_ F138.out Try.underlying37 rfl ?_ ?_); rfl; rfl; exact cells_wide _))
    refine (D2.out _).mono ?_; rintro e w9 ⟨rfl, hb9⟩
    have B9 := bx (B8.out.trans (hb9.mono B8.out.size))
    clear hb9
    go_wp2_with fail
    refine (boost_awake _).mono ?_; rintro e w10 ⟨rfl, hb10⟩
    have B10 := bx (B9.out.trans (hb10.mono B9.out.size))
    clear hb10
    go_wp2_with fail
    go_ret
    exact ⟨rfl, B10.out⟩
end Go.Proofs.Ytpgpplpddjjchaa
