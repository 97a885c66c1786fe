/- Plain laws of a long division by digits of 32 bits. -/
import Derived.WalkKit
namespace Go.Proofs.Ytonkgjengplppaa
set_option linter.unusedSectionVars false
/-- one digit of a long division: what the estimate satisfies -/
structure Est (yn1 yn0 u un1 q r : Int) : Prop where
  eq : q * yn1 + r = u
  r0 : 0 ≤ r
  rB : r < 4294967296
  up : (u * 4294967296 + un1) / (yn1 * 4294967296 + yn0) ≤ q
  q0 : 0 ≤ q
  qB : q ≤ 4294967297

section
variable {yn1 yn0 u un1 q r : Int} (h1 : 2147483648 ≤ yn1) (h1' : yn1 < 4294967296) (h0 : 0 ≤ yn0) (h0' : yn0 < 4294967296) (hu0 : 0 ≤ u) (hu : u < yn1 * 4294967296 + yn0) (hn0 : 0 ≤ un1) (hn : un1 < 4294967296)
include h1 h1' h0 h0' hu0 hu hn0 hn

theorem Est.init : Est yn1 yn0 u un1 (u / yn1) (u - (u / yn1) * yn1) := by
  have hp : 0 < yn1 := by omega
  have e : yn1 * (u / yn1) + u % yn1 = u := Int.mul_ediv_add_emod u yn1
  have m0 := Int.emod_nonneg u (b := yn1) (by omega)
  have m1 := Int.emod_lt_of_pos u hp
  have e' : (u / yn1) * yn1 = yn1 * (u / yn1) := Int.mul_comm _ _
  have hy : 0 < yn1 * 4294967296 + yn0 := by omega
  refine ⟨by omega, by omega, by omega, ?_, Int.ediv_nonneg hu0 (by omega), ?_⟩
  · refine (Int.le_ediv_iff_mul_le hp).2 ?_
    generalize hQ : (u * 4294967296 + un1) / (yn1 * 4294967296 + yn0) = Q
    have hQ0 : 0 ≤ Q := by rw [← hQ]; exact Int.ediv_nonneg (by omega) (by omega)
    have h2 : Q * (yn1 * 4294967296 + yn0) ≤ u * 4294967296 + un1 := by rw [← hQ]; exact Int.ediv_mul_le _ (by omega)
    rw [Int.mul_add, ← Int.mul_assoc] at h2
    have h3 : 0 ≤ Q * yn0 := Int.mul_nonneg hQ0 h0
    omega
  · have : u / yn1 < 4294967298 := by
      refine Int.ediv_lt_of_lt_mul hp ?_
      omega
    omega
theorem Est.done (h : Est yn1 yn0 u un1 q r) (hle : q * (yn1 * 4294967296 + yn0) ≤ u * 4294967296 + un1) : q = (u * 4294967296 + un1) / (yn1 * 4294967296 + yn0) := by
  have hy : 0 < yn1 * 4294967296 + yn0 := by omega
  have := (Int.le_ediv_iff_mul_le hy).2 hle
  have := h.up
  omega
theorem Est.prod (h : Est yn1 yn0 u un1 q r) : q * (yn1 * 4294967296 + yn0) = (u - r) * 4294967296 + q * yn0 := by
  have := h.eq
  rw [Int.mul_add, ← Int.mul_assoc]
  omega
theorem Est.stop (h : Est yn1 yn0 u un1 q r) (hc : q * yn0 ≤ 4294967296 * r + un1) : q = (u * 4294967296 + un1) / (yn1 * 4294967296 + yn0) := by
  refine h.done h1 h1' h0 h0' hu0 hu hn0 hn ?_
  rw [h.prod h1 h1' h0 h0' hu0 hu hn0 hn]
  omega
theorem Est.lt : (u * 4294967296 + un1) / (yn1 * 4294967296 + yn0) < 4294967296 := by
  refine Int.ediv_lt_of_lt_mul (by omega) ?_
  omega
theorem Est.down (h : Est yn1 yn0 u un1 q r) (hc : 4294967296 ≤ q ∨ 4294967296 * r + un1 < q * yn0) : (u * 4294967296 + un1) / (yn1 * 4294967296 + yn0) ≤ q - 1 := by
  have hl := Est.lt h1 h1' h0 h0' hu0 hu hn0 hn
  rcases hc with hc | hc
  · omega
  · have : (u * 4294967296 + un1) / (yn1 * 4294967296 + yn0) < q := by
      refine Int.ediv_lt_of_lt_mul (by omega) ?_
      rw [h.prod h1 h1' h0 h0' hu0 hu hn0 hn]
      omega
    omega
theorem Est.next (h : Est yn1 yn0 u un1 q r) (hc : 4294967296 ≤ q ∨ 4294967296 * r + un1 < q * yn0) (hr : r + yn1 < 4294967296) (hq : 1 ≤ q) : Est yn1 yn0 u un1 (q - 1) (r + yn1) := by
  have hd := h.down h1 h1' h0 h0' hu0 hu hn0 hn hc
  have e := h.eq
  have e2 : (q - 1) * yn1 = q * yn1 - yn1 := by rw [Int.sub_mul, Int.one_mul]
  exact ⟨by omega, by have := h.r0; omega, hr, hd, by omega, by have := h.qB; omega⟩
theorem Est.pos (h : Est yn1 yn0 u un1 q r) (hc : 4294967296 ≤ q ∨ 4294967296 * r + un1 < q * yn0) : 1 ≤ q := by
  have hd := h.down h1 h1' h0 h0' hu0 hu hn0 hn hc
  have : 0 ≤ (u * 4294967296 + un1) / (yn1 * 4294967296 + yn0) := Int.ediv_nonneg (by omega) (by omega)
  omega
theorem Est.brk (h : Est yn1 yn0 u un1 q r) (hc : 4294967296 ≤ q ∨ 4294967296 * r + un1 < q * yn0) (hr : 4294967296 ≤ r + yn1) : q - 1 = (u * 4294967296 + un1) / (yn1 * 4294967296 + yn0) := by
  have hd := h.down h1 h1' h0 h0' hu0 hu hn0 hn hc
  have hq := h.pos h1 h1' h0 h0' hu0 hu hn0 hn hc
  have hqB := h.qB
  have hy : 0 < yn1 * 4294967296 + yn0 := by omega
  have hle : (q - 1) * (yn1 * 4294967296 + yn0) ≤ u * 4294967296 + un1 := by
    have e := h.prod h1 h1' h0 h0' hu0 hu hn0 hn
    have e2 : (q - 1) * (yn1 * 4294967296 + yn0) = q * (yn1 * 4294967296 + yn0) - (yn1 * 4294967296 + yn0) := by rw [Int.sub_mul, Int.one_mul]
    have e3 : (q - 1) * yn0 ≤ 4294967296 * yn0 := Int.mul_le_mul_of_nonneg_right (by omega) h0
    rw [Int.sub_mul, Int.one_mul] at e3
    omega
  have := (Int.le_ediv_iff_mul_le hy).2 hle
  omega
end
/-- both digits together -/
theorem div_fin {N y p U T Y Q P V R b1 b0 : Int} (hp : 0 < p) (hy : 0 < y) (hY : y * p = Y) (hND : N * p = U * 18446744073709551616 + T) (hT : b1 * 4294967296 + b0 = T)
    (hV : V = U * 4294967296 + b1 - Q * Y) (hR : R = V * 4294967296 + b0 - P * Y) (hR0 : 0 ≤ R) (hR1 : R < Y) : N / y = Q * 4294967296 + P ∧ N % y = R / p := by
  have e1 : (Q * 4294967296 + P) * Y = Q * Y * 4294967296 + P * Y := by rw [Int.add_mul, Int.mul_right_comm]
  have e2 : N * p = (Q * 4294967296 + P) * Y + R := by rw [e1]; omega
  generalize hC : Q * 4294967296 + P = C at *
  obtain ⟨K, hK⟩ : ∃ K, K = N - C * y := ⟨_, rfl⟩
  have e3 : K * p = R := by rw [hK, Int.sub_mul, Int.mul_assoc, hY]; omega
  have hK0 : 0 ≤ K := by
    rcases (show K < 0 ∨ 0 ≤ K by omega) with h | h
    · have := Int.mul_neg_of_neg_of_pos h hp; omega
    · exact h
  have hKy : K < y := by
    rcases (show K < y ∨ y ≤ K by omega) with h | h
    · exact h
    · have := Int.mul_le_mul_of_nonneg_right h (Int.le_of_lt hp)
      rw [e3, hY] at this; omega
  have hN : N = K + C * y := by omega
  refine ⟨?_, ?_⟩
  · rw [hN, Int.add_mul_ediv_right _ _ (by omega), Int.ediv_eq_zero_of_lt hK0 hKy]; omega
  · rw [hN, Int.add_mul_emod_self_right, Int.emod_eq_of_lt hK0 hKy, ← e3, Int.mul_ediv_cancel _ (by omega)]
/-- the rest behind a digit -/
theorem dig_rest {u un1 y q : Int} (hy : 0 < y) (hq : q = (u * 4294967296 + un1) / y) : 0 ≤ u * 4294967296 + un1 - q * y ∧ u * 4294967296 + un1 - q * y < y := by
  have e := Int.mul_ediv_add_emod (u * 4294967296 + un1) y
  have m0 := Int.emod_nonneg (u * 4294967296 + un1) (b := y) (by omega)
  have m1 := Int.emod_lt_of_pos (u * 4294967296 + un1) hy
  rw [← hq, Int.mul_comm y q] at e
  omega
/-- the rest as it is reckoned modulo 2^64 -/
theorem dig_wrap {u un1 y q : Int} (h0 : 0 ≤ u * 4294967296 + un1 - q * y) (h1 : u * 4294967296 + un1 - q * y < 18446744073709551616) :
    IntKind.u64.wrap (IntKind.u64.wrap (IntKind.u64.wrap (u * 4294967296) + un1) - IntKind.u64.wrap (q * y)) = u * 4294967296 + un1 - q * y := by
  have w : ∀ x : Int, IntKind.u64.wrap x = x % 18446744073709551616 := fun x => by simp [IntKind.wrap, IntKind.bits, IntKind.signed]
  rw [w, w, w, w]
  generalize q * y = z at *
  omega
end Go.Proofs.Ytonkgjengplppaa
