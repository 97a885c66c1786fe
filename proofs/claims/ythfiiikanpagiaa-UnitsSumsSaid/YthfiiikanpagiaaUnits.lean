/- Contracts of the functions of units and of their references: checked sums, differences and products, epochs and slots. -/
import Derived.Test.YthfiiikanpagiaaRows
import Derived.Test.YthfiiikanpagiaaShelf
import Derived.WalkKit
import Derived.WalkLawsBesides
import Derived.Outline
import Derived.Handy
import Derived.Lib.Hide
import Derived.Laws.Externs
import Derived.Shelf.Spec.BitsCarry
namespace Go.Proofs.Ythfiiikanpagiaa
open Go.RowKit

theorem run_add64 (x y c : Nat) (hc : c ≤ 1) (w : World) :
    (callFunc 37 #[.int .u64 x, .int .u64 y, .int .u64 c]).run Try.prog w =
      .ok (.value (.tuple #[.int .u64 (((x + y + c) % 18446744073709551616 : Nat) : Int), .int .u64 (((x + y + c) / 18446744073709551616 : Nat) : Int)])) w := by
  rw [run_callFunc_extern Try.func37 (by kernel_rfl) (by kernel_rfl) (by kernel_rfl) (e := add64Entry) (by kernel_rfl), Go.run_add64 x y c (by omega) (by omega) (by omega) (by omega)]
  simp only [Result.andThen]
  congr 5 <;> omega
theorem run_add64_zero (x y : Nat) (w : World) :
    (callFunc 37 #[.int .u64 x, .int .u64 y, .int .u64 0]).run Try.prog w =
      .ok (.value (.tuple #[.int .u64 (((x + y) % 18446744073709551616 : Nat) : Int), .int .u64 (((x + y) / 18446744073709551616 : Nat) : Int)])) w :=
  run_add64 x y 0 (Nat.zero_le _) w

/-- a checked sum: the value, and the error number -/
def addV (a b : Int) : Int := if a + b < 18446744073709551616 then a + b else 0
def addE (a b : Int) : Int := if a + b < 18446744073709551616 then 0 else 4
/-- a checked difference -/
def subV (a b : Int) : Int := if a < b then 0 else a - b
def subE (a b : Int) : Int := if a < b then 4 else 0
/-- a checked product -/
def mulV (a b : Int) : Int := if a * b < 18446744073709551616 then a * b else 0
def mulE (a b : Int) : Int := if a * b < 18446744073709551616 then 0 else 4
/-- a number of slots per epoch is allowed -/
def fitsB (p : Int) : Bool := decide (1 ≤ p ∧ p ≤ 64)
/-- the epoch of a slot -/
def epV (n p : Int) : Int := if fitsB p = true then n / p else 0
def epE (p : Int) : Int := if fitsB p = true then 0 else 3
def stV (n p : Int) : Int := if fitsB p = true then mulV n p else 0
def stE (n p : Int) : Int := if fitsB p = true then mulE n p else 3
def isB (n p : Int) : Bool := fitsB p && decide (n % p = 0)

theorem ref_add (a b : Int) (ha : 0 ≤ a) (ha' : a < 18446744073709551616) (hb : 0 ≤ b) (hb' : b < 18446744073709551616) (w : World) :
    Calls Try.prog 27 #[.int .u64 a, .int .u64 b] w fun e w' => e = .returned (.tuple #[.int .u64 (addV a b), .int .i64 (addE a b)]) ∧ w = w' := by
  go_enter Try.func27, Try.ntmps27
  go_wp2
  · have h : 18446744073709551615 - b < a := by assumption
    go_ret2
    unfold addV addE
    rw [if_neg (by omega), if_neg (by omega)]
    exact ⟨rfl, rfl⟩
  · have h : a ≤ 18446744073709551615 - b := by assumption
    go_ret2
    unfold addV addE
    rw [if_pos (by omega), if_pos (by omega)]
    exact ⟨rfl, rfl⟩

theorem add_any (a b : Int) (ha : 0 ≤ a) (ha' : a < 18446744073709551616) (hb : 0 ≤ b) (hb' : b < 18446744073709551616) (w : World) :
    Calls Try.prog 26 #[.int .u64 a, .int .u64 b] w fun e w' => e = .returned (.tuple #[.int .u64 (addV a b), .int .i64 (addE a b)]) ∧ w = w' := by
  by_cases h : a + b < 18446744073709551616
  · have hr : ∀ w : World, (callFunc 37 #[.int .u64 a, .int .u64 b, .int .u64 0]).run Try.prog w = .ok (.value (.tuple #[.int .u64 (addV a b), .int .u64 0])) w := by
      intro w
      obtain ⟨m, rfl⟩ := Int.eq_ofNat_of_zero_le ha
      obtain ⟨n, rfl⟩ := Int.eq_ofNat_of_zero_le hb
      rw [run_add64_zero, Nat.mod_eq_of_lt (by omega), Nat.div_eq_of_lt (by omega), addV, if_pos h]; rfl
    have he : addE a b = 0 := by rw [addE, if_pos h]
    rw [he]
    clear he h
    go_enter Try.func26, Try.ntmps26
    go_wp2
    go_ret2
    exact ⟨rfl, rfl⟩
  · have hr : ∀ w : World, (callFunc 37 #[.int .u64 a, .int .u64 b, .int .u64 0]).run Try.prog w = .ok (.value (.tuple #[.int .u64 (a + b - 18446744073709551616), .int .u64 1])) w := by
      intro w
      obtain ⟨m, rfl⟩ := Int.eq_ofNat_of_zero_le ha
      obtain ⟨n, rfl⟩ := Int.eq_ofNat_of_zero_le hb
      rw [run_add64_zero, show (m + n) / 18446744073709551616 = 1 by omega, show (((m + n) % 18446744073709551616 : Nat) : Int) = (m : Int) + (n : Int) - 18446744073709551616 by omega]; rfl
    have he : addE a b = 4 := by rw [addE, if_neg h]
    have hv : addV a b = 0 := by rw [addV, if_neg h]
    rw [he, hv]
    clear he h hv
    go_enter Try.func26, Try.ntmps26
    go_wp2
    go_ret2
    exact ⟨rfl, rfl⟩

theorem sub_any (a b : Int) (ha : 0 ≤ a) (ha' : a < 18446744073709551616) (hb : 0 ≤ b) (hb' : b < 18446744073709551616) (w : World) :
    Calls Try.prog 28 #[.int .u64 a, .int .u64 b] w fun e w' => e = .returned (.tuple #[.int .u64 (subV a b), .int .i64 (subE a b)]) ∧ w = w' := by
  unfold subV subE
  by_cases h : a < b
  · rw [if_pos h, if_pos h]
    go_enter Try.func28, Try.ntmps28
    go_wp2
    go_ret2
    exact ⟨rfl, rfl⟩
  · rw [if_neg h, if_neg h]
    go_enter Try.func28, Try.ntmps28
    go_wp2
    go_ret2
    exact ⟨rfl, rfl⟩

theorem ref_sub (a b : Int) (ha : 0 ≤ a) (ha' : a < 18446744073709551616) (hb : 0 ≤ b) (hb' : b < 18446744073709551616) (w : World) :
    Calls Try.prog 29 #[.int .u64 a, .int .u64 b] w fun e w' => e = .returned (.tuple #[.int .u64 (subV a b), .int .i64 (subE a b)]) ∧ w = w' := by
  unfold subV subE
  by_cases h : a < b
  · rw [if_pos h, if_pos h]
    go_enter Try.func29, Try.ntmps29
    go_wp2
    go_ret2
    exact ⟨rfl, rfl⟩
  · rw [if_neg h, if_neg h]
    go_enter Try.func29, Try.ntmps29
    go_wp2
    go_ret2
    exact ⟨rfl, rfl⟩

theorem mul_any (a b : Int) (ha : 0 ≤ a) (ha' : a < 18446744073709551616) (hb : 0 ≤ b) (hb' : b < 18446744073709551616) (w : World) :
    Calls Try.prog 30 #[.int .u64 a, .int .u64 b] w fun e w' => e = .returned (.tuple #[.int .u64 (mulV a b), .int .i64 (mulE a b)]) ∧ w = w' := by
  obtain ⟨m, rfl⟩ := Int.eq_ofNat_of_zero_le ha
  obtain ⟨n, rfl⟩ := Int.eq_ofNat_of_zero_le hb
  have hc := Try.bits_Mul64 m n (by omega) (by omega)
  have hmn : ((m : Int) * (n : Int)) = ((m * n : Nat) : Int) := (Int.natCast_mul m n).symm
  unfold mulV mulE
  rw [hmn]
  clear hmn
  generalize m * n = q at *
  by_cases h : q < 18446744073709551616
  · rw [if_pos (by omega), if_pos (by omega)]
    have hq0 : q / 18446744073709551616 = 0 := Nat.div_eq_of_lt h
    have hq1 : q % 18446744073709551616 = q := Nat.mod_eq_of_lt h
    rw [hq0, hq1] at hc
    have HC := Lib.hid hc
    clear hq0 hq1 hc
    go_enter Try.func30, Try.ntmps30
    go_wp2_with (go_at_call 38; refine (HC.out _).mono ?_; rintro e w' ⟨rfl, rfl⟩)
    go_ret2
    exact ⟨rfl, rfl⟩
  · rw [if_neg (by omega), if_neg (by omega)]
    have hq : 1 ≤ q / 18446744073709551616 := by omega
    have HC := Lib.hid hc
    clear hc
    generalize q / 18446744073709551616 = hi at *
    generalize q % 18446744073709551616 = lo at *
    have hb : (((hi : Nat) : Int) == 0) = false := by rw [beq_eq_false_iff_ne]; omega
    go_enter Try.func30, Try.ntmps30
    go_wp2_with (go_at_call 38; refine (HC.out _).mono ?_; rintro e w' ⟨rfl, rfl⟩)
    go_ret2
    exact ⟨rfl, rfl⟩

theorem fits_any (p : Int) (hp : 0 ≤ p) (hp' : p < 18446744073709551616) (w : World) :
    Calls Try.prog 35 #[.int .u64 p] w fun e w' => e = .returned (.bool (fitsB p)) ∧ w = w' := by
  unfold fitsB
  by_cases h : 1 ≤ p
  · by_cases h' : p ≤ 64
    · rw [decide_eq_true ⟨h, h'⟩]
      go_enter Try.func35, Try.ntmps35
      go_wp2
      go_ret
      exact ⟨rfl, rfl⟩
    · rw [decide_eq_false (by omega)]
      go_enter Try.func35, Try.ntmps35
      go_wp2
      go_ret
      exact ⟨rfl, rfl⟩
  · rw [decide_eq_false (by omega)]
    go_enter Try.func35, Try.ntmps35
    go_wp2
    go_ret
    exact ⟨rfl, rfl⟩

theorem ref_epochs (p : Int) (hp : 0 ≤ p) (hp' : p < 18446744073709551616) (w : World) :
    Calls Try.prog 36 #[.int .u64 p] w fun e w' => e = .returned (.bool (fitsB p)) ∧ w = w' := by
  unfold fitsB
  by_cases h : 1 ≤ p
  · by_cases h' : p ≤ 64
    · rw [decide_eq_true ⟨h, h'⟩]
      go_enter Try.func36, Try.ntmps36
      go_wp2
      go_ret
      exact ⟨rfl, rfl⟩
    · rw [decide_eq_false (by omega)]
      go_enter Try.func36, Try.ntmps36
      go_wp2
      go_ret
      exact ⟨rfl, rfl⟩
  · rw [decide_eq_false (by omega)]
    go_enter Try.func36, Try.ntmps36
    go_wp2
    go_ret
    exact ⟨rfl, rfl⟩

theorem mul_le (a b : Int) (hb : 1 ≤ b) : 18446744073709551615 / b < a ↔ ¬ a * b < 18446744073709551616 := by
  rw [Int.ediv_lt_iff_lt_mul (by omega)]
  omega

theorem ref_mul (a b : Int) (ha : 0 ≤ a) (ha' : a < 18446744073709551616) (hb : 0 ≤ b) (hb' : b < 18446744073709551616) (w : World) :
    Calls Try.prog 31 #[.int .u64 a, .int .u64 b] w fun e w' => e = .returned (.tuple #[.int .u64 (mulV a b), .int .i64 (mulE a b)]) ∧ w = w' := by
  by_cases h0 : b = 0
  · subst h0
    have hv : mulV a 0 = 0 := by unfold mulV; simp
    have he : mulE a 0 = 0 := by unfold mulE; simp
    rw [hv, he]
    clear hv he
    go_enter Try.func31, Try.ntmps31
    go_wp2
    go_ret2
    exact ⟨by simp, rfl⟩
  · have hb1 : 1 ≤ b := by omega
    have hle := mul_le a b hb1
    have hbn : (b != 0) = true := by simp [h0]
    have hm0 : 0 ≤ a * b := Int.mul_nonneg ha hb
    by_cases h : 18446744073709551615 / b < a
    · have h1 := hle.1 h
      have hv : mulV a b = 0 := by unfold mulV; rw [if_neg h1]
      have he : mulE a b = 4 := by unfold mulE; rw [if_neg h1]
      rw [hv, he]
      clear hv he hle h1
      go_enter Try.func31, Try.ntmps31
      go_wp2
      go_ret2
      exact ⟨rfl, rfl⟩
    · have h1 : a * b < 18446744073709551616 := by
        by_cases g : a * b < 18446744073709551616
        · exact g
        · exact absurd (hle.2 g) h
      have hv : mulV a b = a * b := by unfold mulV; rw [if_pos h1]
      have he : mulE a b = 0 := by unfold mulE; rw [if_pos h1]
      rw [hv, he]
      clear hv he hle
      go_enter Try.func31, Try.ntmps31
      go_wp2
      go_ret2
      exact ⟨rfl, rfl⟩

theorem epochOf_any (n p : Int) (hn : 0 ≤ n) (hn' : n < 18446744073709551616) (hp : 0 ≤ p) (hp' : p < 18446744073709551616) (w : World) :
    Calls Try.prog 20 #[.int .u64 n, .int .u64 p] w fun e w' => e = .returned (.tuple #[.int .u64 (epV n p), .int .i64 (epE p)]) ∧ w = w' := by
  have HC := Lib.hid (fits_any p hp hp')
  unfold epV epE
  by_cases h : fitsB p = true
  · rw [if_pos h, if_pos h]
    have h1 : 1 ≤ p := (of_decide_eq_true h).1
    go_enter Try.func20, Try.ntmps20
    go_wp2_with (go_at_call 35; refine (HC.out _).mono ?_; rintro e w' ⟨rfl, rfl⟩)
    go_ret2
    exact ⟨rfl, rfl⟩
  · rw [if_neg h, if_neg h]
    have h' : fitsB p = false := by simpa using h
    clear h
    go_enter Try.func20, Try.ntmps20
    go_wp2_with (go_at_call 35; refine (HC.out _).mono ?_; rintro e w' ⟨rfl, rfl⟩)
    go_ret2
    exact ⟨rfl, rfl⟩

theorem ref_epochOf (n p : Int) (hn : 0 ≤ n) (hn' : n < 18446744073709551616) (hp : 0 ≤ p) (hp' : p < 18446744073709551616) (w : World) :
    Calls Try.prog 21 #[.int .u64 n, .int .u64 p] w fun e w' => e = .returned (.tuple #[.int .u64 (epV n p), .int .i64 (epE p)]) ∧ w = w' := by
  have HC := Lib.hid (ref_epochs p hp hp')
  unfold epV epE
  by_cases h : fitsB p = true
  · rw [if_pos h, if_pos h]
    have h1 : 1 ≤ p := (of_decide_eq_true h).1
    go_enter Try.func21, Try.ntmps21
    go_wp2_with (go_at_call 36; refine (HC.out _).mono ?_; rintro e w' ⟨rfl, rfl⟩)
    go_ret2
    exact ⟨rfl, rfl⟩
  · rw [if_neg h, if_neg h]
    have h' : fitsB p = false := by simpa using h
    clear h
    go_enter Try.func21, Try.ntmps21
    go_wp2_with (go_at_call 36; refine (HC.out _).mono ?_; rintro e w' ⟨rfl, rfl⟩)
    go_ret2
    exact ⟨rfl, rfl⟩

theorem startOf_any (n p : Int) (hn : 0 ≤ n) (hn' : n < 18446744073709551616) (hp : 0 ≤ p) (hp' : p < 18446744073709551616) (w : World) :
    Calls Try.prog 22 #[.int .u64 n, .int .u64 p] w fun e w' => e = .returned (.tuple #[.int .u64 (stV n p), .int .i64 (stE n p)]) ∧ w = w' := by
  have HC := Lib.hid (fits_any p hp hp')
  have HM := Lib.hid (mul_any n p hn hn' hp hp')
  unfold stV stE
  by_cases h : fitsB p = true
  · rw [if_pos h, if_pos h]
    go_enter Try.func22, Try.ntmps22
    go_wp2_with (first | (go_at_call 35; refine (HC.out _).mono ?_; rintro e w' ⟨rfl, rfl⟩) | (go_at_call 30; refine (HM.out _).mono ?_; rintro e w' ⟨rfl, rfl⟩))
    go_ret2
    exact ⟨rfl, rfl⟩
  · rw [if_neg h, if_neg h]
    have h' : fitsB p = false := by simpa using h
    clear h
    go_enter Try.func22, Try.ntmps22
    go_wp2_with (go_at_call 35; refine (HC.out _).mono ?_; rintro e w' ⟨rfl, rfl⟩)
    go_ret2
    exact ⟨rfl, rfl⟩

theorem ref_startOf (n p : Int) (hn : 0 ≤ n) (hn' : n < 18446744073709551616) (hp : 0 ≤ p) (hp' : p < 18446744073709551616) (w : World) :
    Calls Try.prog 23 #[.int .u64 n, .int .u64 p] w fun e w' => e = .returned (.tuple #[.int .u64 (stV n p), .int .i64 (stE n p)]) ∧ w = w' := by
  have HC := Lib.hid (ref_epochs p hp hp')
  have HM := Lib.hid (ref_mul n p hn hn' hp hp')
  unfold stV stE
  by_cases h : fitsB p = true
  · rw [if_pos h, if_pos h]
    go_enter Try.func23, Try.ntmps23
    go_wp2_with (first | (go_at_call 36; refine (HC.out _).mono ?_; rintro e w' ⟨rfl, rfl⟩) | (go_at_call 31; refine (HM.out _).mono ?_; rintro e w' ⟨rfl, rfl⟩))
    go_ret2
    exact ⟨rfl, rfl⟩
  · rw [if_neg h, if_neg h]
    have h' : fitsB p = false := by simpa using h
    clear h
    go_enter Try.func23, Try.ntmps23
    go_wp2_with (go_at_call 36; refine (HC.out _).mono ?_; rintro e w' ⟨rfl, rfl⟩)
    go_ret2
    exact ⟨rfl, rfl⟩

theorem isStart_any (n p : Int) (hn : 0 ≤ n) (hn' : n < 18446744073709551616) (hp : 0 ≤ p) (hp' : p < 18446744073709551616) (w : World) :
    Calls Try.prog 24 #[.int .u64 n, .int .u64 p] w fun e w' => e = .returned (.bool (isB n p)) ∧ w = w' := by
  have HC := Lib.hid (fits_any p hp hp')
  unfold isB
  by_cases h : fitsB p = true
  · have h1 : 1 ≤ p := (of_decide_eq_true h).1
    go_enter Try.func24, Try.ntmps24
    go_wp2_with (go_at_call 35; refine (HC.out _).mono ?_; rintro e w' ⟨rfl, rfl⟩)
    go_ret
    exact ⟨by simp [h]; rfl, rfl⟩
  · have h' : fitsB p = false := by simpa using h
    clear h
    go_enter Try.func24, Try.ntmps24
    go_wp2_with (go_at_call 35; refine (HC.out _).mono ?_; rintro e w' ⟨rfl, rfl⟩)
    go_ret
    exact ⟨by simp [h'], rfl⟩

theorem ref_isStart (n p : Int) (hn : 0 ≤ n) (hn' : n < 18446744073709551616) (hp : 0 ≤ p) (hp' : p < 18446744073709551616) (w : World) :
    Calls Try.prog 25 #[.int .u64 n, .int .u64 p] w fun e w' => e = .returned (.bool (isB n p)) ∧ w = w' := by
  have HC := Lib.hid (ref_epochs p hp hp')
  unfold isB
  by_cases h : fitsB p = true
  · have h1 : 1 ≤ p := (of_decide_eq_true h).1
    go_enter Try.func25, Try.ntmps25
    go_wp2_with (go_at_call 36; refine (HC.out _).mono ?_; rintro e w' ⟨rfl, rfl⟩)
    go_ret
    exact ⟨by simp [h]; rfl, rfl⟩
  · have h' : fitsB p = false := by simpa using h
    clear h
    go_enter Try.func25, Try.ntmps25
    go_wp2_with (go_at_call 36; refine (HC.out _).mono ?_; rintro e w' ⟨rfl, rfl⟩)
    go_ret
    exact ⟨by simp [h'], rfl⟩

theorem units_awake (w : World) : Calls Try.prog 17 #[] w fun e w' => e = .returned (.bool true) ∧ w = w' := by
  have H1 := Lib.hid (fun w => epochOf_any 9 4 (by omega) (by omega) (by omega) (by omega) w)
  have H2 := Lib.hid (fun w => isStart_any 8 4 (by omega) (by omega) (by omega) (by omega) w)
  have H3 := Lib.hid (fun w => isStart_any 9 4 (by omega) (by omega) (by omega) (by omega) w)
  have e1 : epV 9 4 = 2 := by decide
  have e2 : epE 4 = 0 := by decide
  have e3 : isB 8 4 = true := by decide
  have e4 : isB 9 4 = false := by decide
  rw [e1, e2] at H1
  rw [e3] at H2
  rw [e4] at H3
  clear e1 e2 e3 e4
  go_enter Try.func17, Try.ntmps17
  go_wp2_with fail
  refine (H1.out _).mono ?_; rintro e w' ⟨rfl, rfl⟩
  go_wp2_with fail
  refine (H2.out _).mono ?_; rintro e w' ⟨rfl, rfl⟩
  go_wp2_with fail
  refine (H3.out _).mono ?_; rintro e w' ⟨rfl, rfl⟩
  go_wp2_with fail
  go_ret
  exact ⟨rfl, rfl⟩
end Go.Proofs.Ythfiiikanpagiaa
