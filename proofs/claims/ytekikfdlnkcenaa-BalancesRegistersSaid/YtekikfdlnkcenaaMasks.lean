/- The bits of a number under a mask. -/
import Derived.Test.YtekikfdlnkcenaaCore
namespace Go.Proofs.Ytekikfdlnkcenaa

theorem and_nat (n : Int) (m : Nat) (hm : m < 9223372036854775808) : bits .and .i64 n (m : Int) = (((BitVec.ofInt 64 n).toNat &&& m : Nat) : Int) := by
  have h2 : (BitVec.ofInt 64 (m : Int)).toNat = m := by simp [BitVec.toNat_ofInt]; omega
  have hle : ((BitVec.ofInt 64 n).toNat &&& m) ≤ m := Nat.and_le_right
  show IntKind.i64.wrap ((BitVec.ofInt 64 n &&& BitVec.ofInt 64 (m : Int)).toNat : Int) = _
  rw [BitVec.toNat_and, h2]
  generalize (BitVec.ofInt 64 n).toNat &&& m = x at *
  have h : (-9223372036854775808 : Int) ≤ (x : Int) ∧ (x : Int) < 9223372036854775808 := by omega
  simp [IntKind.wrap, IntKind.bits, IntKind.signed] <;> omega
/-- a mask of ones keeps the lowest bits -/
theorem and_ones (n : Int) (k : Nat) (hk : k ≤ 63) : bits .and .i64 n ((2 ^ k - 1 : Nat) : Int) = n % (2 ^ k : Nat) := by
  have h1 : 2 ^ k ≤ 9223372036854775808 := by have := Nat.pow_le_pow_right (show 0 < 2 by decide) hk; simpa using this
  have hp := Nat.two_pow_pos k
  rw [and_nat n _ (by omega), Nat.and_two_pow_sub_one_eq_mod, BitVec.toNat_ofInt]
  have hd : ((2 ^ k : Nat) : Int) ∣ ((2 ^ 64 : Nat) : Int) := by exact_mod_cast Nat.pow_dvd_pow 2 (by omega)
  have h0 : 0 ≤ n % ((2 ^ 64 : Nat) : Int) := Int.emod_nonneg _ (by decide)
  rw [Int.natCast_emod, Int.toNat_of_nonneg h0, Int.emod_emod_of_dvd _ hd]
theorem and_65535 (n : Int) : bits .and .i64 n 65535 = n % 65536 := and_ones n 16 (by decide)
end Go.Proofs.Ytekikfdlnkcenaa
