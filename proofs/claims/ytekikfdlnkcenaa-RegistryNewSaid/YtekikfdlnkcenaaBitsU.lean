/- Bits of unsigned numbers of 64 bits. -/
import Derived.WalkKit
import Derived.Lib.BitFns
namespace Go.Proofs.Ytekikfdlnkcenaa

theorem u64_wrap (x : Int) : IntKind.u64.wrap x = x % 18446744073709551616 := by simp [IntKind.wrap, IntKind.bits, IntKind.signed]
theorem u64_in {x : Int} (h0 : 0 ≤ x) (h1 : x < 18446744073709551616) : IntKind.u64.wrap x = x := by rw [u64_wrap]; omega
theorem u64_ofInt (x : Int) (h0 : 0 ≤ x) (h1 : x < 18446744073709551616) : (BitVec.ofInt 64 x).toNat = x.toNat := by
  rw [BitVec.toNat_ofInt]
  have : ((2 ^ 64 : Nat) : Int) = 18446744073709551616 := rfl
  rw [this, Int.emod_eq_of_lt h0 h1]
theorem u64_of_wf {x : Int} (h : (Lit.int .u64 x).wf = true) : 0 ≤ x ∧ x ≤ 18446744073709551615 := by
  simp only [Lit.wf, Bool.and_eq_true, decide_eq_true_eq] at h
  exact h
/-- a mask of ones -/
theorem u64_and (x : Int) (k : Nat) (hk : k ≤ 64) (h0 : 0 ≤ x) (h1 : x < 18446744073709551616) : bits .and .u64 x ((2 ^ k - 1 : Nat) : Int) = x % ((2 ^ k : Nat) : Int) := by
  have hp : 2 ^ k ≤ 18446744073709551616 := by have := Nat.pow_le_pow_right (show 0 < 2 by decide) hk; simpa using this
  have hpos := Nat.two_pow_pos k
  show IntKind.u64.wrap ((BitVec.ofInt 64 x &&& BitVec.ofInt 64 ((2 ^ k - 1 : Nat) : Int)).toNat : Int) = _
  rw [BitVec.toNat_and, u64_ofInt x h0 h1, u64_ofInt _ (by omega) (by omega), Int.toNat_natCast, Nat.and_two_pow_sub_one_eq_mod]
  obtain ⟨n, rfl⟩ : ∃ n : Nat, x = (n : Int) := ⟨x.toNat, by omega⟩
  rw [Int.toNat_natCast, ← Int.natCast_emod]
  have := Nat.mod_lt n hpos
  exact u64_in (by omega) (by omega)
theorem u64_and32 (x : Int) (h0 : 0 ≤ x) (h1 : x < 18446744073709551616) : bits .and .u64 x 4294967295 = x % 4294967296 := u64_and x 32 (by decide) h0 h1
theorem u64_and1 (x : Int) (h0 : 0 ≤ x) (h1 : x < 18446744073709551616) : bits .and .u64 x 1 = x % 2 := u64_and x 1 (by decide) h0 h1
/-- 'or' of parts that do not meet -/
theorem u64_or (m y : Int) (s : Nat) (h0 : 0 ≤ m) (hy0 : 0 ≤ y) (hy : y < ((2 ^ s : Nat) : Int)) (h : m * ((2 ^ s : Nat) : Int) + y < 18446744073709551616) :
    bits .or .u64 (m * ((2 ^ s : Nat) : Int)) y = m * ((2 ^ s : Nat) : Int) + y := by
  show IntKind.u64.wrap ((BitVec.ofInt 64 _ ||| BitVec.ofInt 64 _).toNat : Int) = _
  have hm0 : 0 ≤ m * ((2 ^ s : Nat) : Int) := Int.mul_nonneg h0 (by omega)
  rw [BitVec.toNat_or, u64_ofInt _ hm0 (by omega), u64_ofInt _ hy0 (by omega)]
  obtain ⟨n, rfl⟩ : ∃ n : Nat, m = (n : Int) := ⟨m.toNat, by omega⟩
  obtain ⟨z, rfl⟩ : ∃ z : Nat, y = (z : Int) := ⟨y.toNat, by omega⟩
  have hz : z < 2 ^ s := by omega
  rw [← Int.natCast_mul] at *
  rw [Int.toNat_natCast, Int.toNat_natCast, ← Nat.shiftLeft_eq, ← Nat.shiftLeft_add_eq_or_of_lt hz, Nat.shiftLeft_eq, ← Int.natCast_add]
  exact u64_in (by omega) (by omega)
theorem u64_or_comm (x y : Int) : bits .or .u64 x y = bits .or .u64 y x := by
  show IntKind.u64.wrap ((BitVec.ofInt 64 x ||| BitVec.ofInt 64 y).toNat : Int) = IntKind.u64.wrap ((BitVec.ofInt 64 y ||| BitVec.ofInt 64 x).toNat : Int)
  rw [BitVec.or_comm]
open Go.Lib
theorem bitLenAux_pow : ∀ (f x : Nat), x < 2 ^ f → x < 2 ^ bitLenAux f x
  | 0, x, h => by simpa [bitLenAux] using h
  | f + 1, x, h => by
    simp only [bitLenAux]
    split
    · rename_i hx; subst hx; simp
    · have := bitLenAux_pow f (x / 2) (by rw [Nat.pow_succ] at h; omega)
      rw [Nat.pow_add]
      omega
theorem bitLenAux_low : ∀ (f x : Nat), x < 2 ^ f → x ≠ 0 → 2 ^ (bitLenAux f x - 1) ≤ x
  | 0, x, h, h0 => by simp at h; omega
  | f + 1, x, h, h0 => by
    simp only [bitLenAux, if_neg h0]
    by_cases h2 : x / 2 = 0
    · rw [h2]; cases f <;> simp [bitLenAux] <;> omega
    · have h3 := bitLenAux_low f (x / 2) (by rw [Nat.pow_succ] at h; omega) h2
      have h4 : 0 < bitLenAux f (x / 2) := by
        rcases Nat.eq_zero_or_pos (bitLenAux f (x / 2)) with h5 | h5
        · have := bitLenAux_pow f (x / 2) (by rw [Nat.pow_succ] at h; omega)
          rw [h5] at this; simp at this; omega
        · exact h5
      obtain ⟨k, hk⟩ : ∃ k, bitLenAux f (x / 2) = k + 1 := ⟨_, (Nat.succ_pred_eq_of_pos h4).symm⟩
      rw [hk] at h3 ⊢
      have e : 1 + (k + 1) - 1 = k + 1 := by omega
      rw [e, Nat.pow_succ]
      have e2 : k + 1 - 1 = k := by omega
      rw [e2] at h3
      omega
/-- how far a divisor is shifted -/
theorem norm_shift (y : Int) (h0 : 0 < y) (h1 : y ≤ 18446744073709551615) : ∃ s : Nat, (64 - (Lib.bitLen y.toNat : Int)) = (s : Int) ∧ s ≤ 63 ∧ 9223372036854775808 ≤ y * 2 ^ s ∧ y * 2 ^ s < 18446744073709551616 := by
  obtain ⟨n, rfl⟩ : ∃ n : Nat, y = (n : Int) := ⟨y.toNat, by omega⟩
  rw [Int.toNat_natCast]
  have hn : n < 2 ^ 64 := by omega
  have hl := Lib.bitLen_le n 64 (by decide) hn
  have hp := bitLenAux_pow 64 n hn
  have hq := bitLenAux_low 64 n hn (by omega)
  have hb : 0 < Lib.bitLen n := by
    rcases Nat.eq_zero_or_pos (Lib.bitLen n) with h5 | h5
    · unfold Lib.bitLen at h5; rw [h5] at hp; simp at hp; omega
    · exact h5
  change n < 2 ^ Lib.bitLen n at hp
  change 2 ^ (Lib.bitLen n - 1) ≤ n at hq
  generalize Lib.bitLen n = b at *
  refine ⟨64 - b, by omega, by omega, ?_, ?_⟩
  · have e : 2 ^ (b - 1) * 2 ^ (64 - b) = 2 ^ 63 := by rw [← Nat.pow_add]; congr 1; omega
    have := Nat.mul_le_mul_right (2 ^ (64 - b)) hq
    rw [e] at this
    have h := Int.ofNat_le.2 this
    rw [Int.natCast_mul, Int.natCast_pow] at h
    exact h
  · have e : 2 ^ b * 2 ^ (64 - b) = 2 ^ 64 := by rw [← Nat.pow_add]; congr 1; omega
    have := Nat.mul_lt_mul_of_pos_right hp (Nat.two_pow_pos (64 - b))
    rw [e] at this
    have h := Int.ofNat_lt.2 this
    rw [Int.natCast_mul, Int.natCast_pow] at h
    exact h
end Go.Proofs.Ytekikfdlnkcenaa
