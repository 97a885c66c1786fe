/- Numbers of 256 bits: limbs, and the program's sum. -/
import Derived.Test.YtpgpplpddjjchaaDoorWideS
import Derived.Shelf.Spec.BitsCarry
namespace Go.Proofs.YtpgpplpddjjchaaDoor
open Go.RowKit

/-- the limbs below j from s, the others from n -/
def upd (n s j : Nat) : Nat := n / 2 ^ (64 * j) * 2 ^ (64 * j) + s
theorem limb_below {m s j i : Nat} (h : i < j) : limb (m * 2 ^ (64 * j) + s) i = limb s i := by
  unfold limb
  have e : 64 * j = 64 * i + 64 + 64 * (j - i - 1) := by omega
  have e1 : m * 2 ^ (64 * j) = 2 ^ (64 * i) * (2 ^ 64 * (m * 2 ^ (64 * (j - i - 1)))) := by
    rw [e, Nat.pow_add, Nat.pow_add]
    generalize 2 ^ (64 * (j - i - 1)) = u
    generalize (2 : Nat) ^ 64 = v
    generalize 2 ^ (64 * i) = z
    ac_rfl
  rw [e1, Nat.add_comm, Nat.add_mul_div_left _ _ (Nat.two_pow_pos _), Nat.add_mul_mod_self_left]
theorem limb_above {m s j i : Nat} (hs : s < 2 ^ (64 * j)) (h : j ≤ i) : limb (m * 2 ^ (64 * j) + s) i = ((m / 2 ^ (64 * (i - j)) % 2 ^ 64 : Nat) : Int) := by
  unfold limb
  have e : 64 * i = 64 * j + 64 * (i - j) := by omega
  rw [e, Nat.pow_add, ← Nat.div_div_eq_div_mul, Nat.mul_comm m, Nat.add_comm, Nat.add_mul_div_left _ _ (Nat.two_pow_pos _), Nat.div_eq_of_lt hs, Nat.zero_add]
theorem limb_shift (n j i : Nat) (h : j ≤ i) : ((n / 2 ^ (64 * j) / 2 ^ (64 * (i - j)) % 2 ^ 64 : Nat) : Int) = limb n i := by
  unfold limb
  have e : 64 * i = 64 * j + 64 * (i - j) := by omega
  rw [e, Nat.pow_add, Nat.div_div_eq_div_mul]
theorem upd_limb {n s j : Nat} (hs : s < 2 ^ (64 * j)) : limb (upd n s j) j = limb n j := by
  rw [upd, limb_above hs (Nat.le_refl _), limb_shift n j j (Nat.le_refl _)]
theorem upd_zero (n : Nat) : upd n 0 0 = n := by simp [upd]
theorem next_lt {s x j : Nat} (hs : s < 2 ^ (64 * j)) (hx : x < 18446744073709551616) : s + x * 2 ^ (64 * j) < 2 ^ (64 * (j + 1)) := by
  have e : 64 * (j + 1) = 64 + 64 * j := by omega
  have e2 : (2 : Nat) ^ 64 = 18446744073709551616 := rfl
  rw [e, Nat.pow_add, e2]
  have := Nat.mul_le_mul_right (2 ^ (64 * j)) (show x + 1 ≤ 18446744073709551616 by omega)
  rw [Nat.add_mul, Nat.one_mul] at this
  omega
theorem upd_set {n s x j : Nat} (hj : j < 4) (hs : s < 2 ^ (64 * j)) (hx : x < 18446744073709551616) :
    (ints .u64 (wl (upd n s j))).set j (.int .u64 (x : Int)) = ints .u64 (wl (upd n (s + x * 2 ^ (64 * j)) (j + 1))) := by
  apply List.ext_getElem?
  intro i
  rw [List.getElem?_set]
  by_cases h4 : i < 4
  · rw [wl_at _ i h4, wl_at _ i h4]
    by_cases hij : j = i
    · subst hij
      have e1 : limb (upd n (s + x * 2 ^ (64 * j)) (j + 1)) j = (x : Int) := by
        rw [upd, limb_below (Nat.lt_succ_self _), Nat.add_comm s, limb_above hs (Nat.le_refl _), Nat.sub_self, Nat.mul_zero, Nat.pow_zero, Nat.div_one, Nat.mod_eq_of_lt hx]
      have e2 : j < (ints .u64 (wl (upd n s j))).length := by rw [wl_len]; exact hj
      rw [e1]
      clear e1
      generalize ints .u64 (wl (upd n s j)) = L at *
      rw [if_pos (Eq.refl j), if_pos e2]
    · rw [if_neg hij]
      refine congrArg (fun z => some (Value.int .u64 z)) ?_
      rcases Nat.lt_or_ge i j with h | h
      · rw [upd, upd, limb_below h, limb_below (by omega), Nat.add_comm s, limb_below h]
      · rw [upd, upd, limb_above hs h, limb_above (next_lt hs hx) (by omega), limb_shift n j i h, limb_shift n (j + 1) i (by omega)]
  · rw [if_neg (by omega), List.getElem?_eq_none (by rw [wl_len]; omega), List.getElem?_eq_none (by rw [wl_len]; omega)]
theorem upd_done {n s : Nat} (hn : n < 2 ^ 256) : upd n s 4 = s := by
  have e : 64 * 4 = 256 := rfl
  rw [upd, e, Nat.div_eq_of_lt hn, Nat.zero_mul, Nat.zero_add]

def lN (n j : Nat) : Nat := n / 2 ^ (64 * j) % 2 ^ 64
theorem limb_lN (n j : Nat) : limb n j = (lN n j : Int) := rfl
theorem lN_lt (n j : Nat) : lN n j < 18446744073709551616 := Nat.mod_lt _ (by decide)
theorem mod64_next (n j : Nat) : n % 2 ^ (64 * (j + 1)) = n % 2 ^ (64 * j) + lN n j * 2 ^ (64 * j) := by
  have e : 64 * (j + 1) = 64 * j + 64 := by omega
  rw [e, Nat.pow_add, Nat.mod_mul, Nat.mul_comm (2 ^ (64 * j)) (n / 2 ^ (64 * j) % 2 ^ 64)]
  rfl
/-- a sum of parts, cut at limb j -/
def Cut4 (m s c j : Nat) : Prop := s < 2 ^ (64 * j) ∧ m = s + c * 2 ^ (64 * j)
theorem Cut4.next {m s c j x : Nat} (h : Cut4 m s c j) : Cut4 (m + x * 2 ^ (64 * j)) (s + (c + x) % 18446744073709551616 * 2 ^ (64 * j)) ((c + x) / 18446744073709551616) (j + 1) := by
  obtain ⟨h1, h2⟩ := h
  refine ⟨next_lt h1 (Nat.mod_lt _ (by decide)), ?_⟩
  have e : 64 * (j + 1) = 64 + 64 * j := by omega
  have e2 : (2 : Nat) ^ 64 = 18446744073709551616 := rfl
  rw [e, Nat.pow_add, e2]
  generalize 2 ^ (64 * j) = D at *
  have h4 : c + x = (c + x) % 18446744073709551616 + 18446744073709551616 * ((c + x) / 18446744073709551616) := (Nat.mod_add_div _ _).symm
  have h5 : (c + x) * D = (c + x) % 18446744073709551616 * D + (c + x) / 18446744073709551616 * (18446744073709551616 * D) := by
    rw [← Nat.mul_assoc, Nat.mul_comm _ 18446744073709551616, ← Nat.add_mul, ← h4]
  rw [Nat.add_mul] at h5
  omega
theorem Cut4.eq {m s c j : Nat} (h : Cut4 m s c j) : s = m % 2 ^ (64 * j) ∧ c = m / 2 ^ (64 * j) := by
  obtain ⟨h1, h2⟩ := h
  rw [h2]
  constructor
  · rw [Nat.add_mul_mod_self_right, Nat.mod_eq_of_lt h1]
  · rw [Nat.add_mul_div_right _ _ (Nat.two_pow_pos _), Nat.div_eq_of_lt h1, Nat.zero_add]
theorem Cut4.top {m s c j b : Nat} (h : Cut4 m s c j) (hm : m < b * 2 ^ (64 * j)) : c < b := by
  rw [h.eq.2]
  exact (Nat.div_lt_iff_lt_mul (Nat.two_pow_pos _)).2 hm
theorem add4_lt (n m j : Nat) : n % 2 ^ (64 * j) + m % 2 ^ (64 * j) < 2 * 2 ^ (64 * j) := by
  have h1 := Nat.mod_lt n (Nat.two_pow_pos (64 * j))
  have h2 := Nat.mod_lt m (Nat.two_pow_pos (64 * j))
  omega
theorem add4_next (n m j : Nat) : n % 2 ^ (64 * (j + 1)) + m % 2 ^ (64 * (j + 1)) = n % 2 ^ (64 * j) + m % 2 ^ (64 * j) + (lN n j + lN m j) * 2 ^ (64 * j) := by
  rw [mod64_next, mod64_next, Nat.add_mul]
  omega

/-- bits.Add64, Sub64 -/
theorem run_add64N (x y c : Nat) (hx : x < 18446744073709551616) (hy : y < 18446744073709551616) (hc : c ≤ 1) (w : World) :
    (callFunc 33 #[.int .u64 x, .int .u64 y, .int .u64 c]).run Tryd.prog w = .ok (.value (.tuple #[.int .u64 (((x + y + c) % 18446744073709551616 : Nat) : Int), .int .u64 (((x + y + c) / 18446744073709551616 : Nat) : Int)])) w := by
  rw [run_callFunc_extern Tryd.func33 (by kernel_rfl) (by kernel_rfl) (by kernel_rfl) (e := add64Entry) (by kernel_rfl), Go.run_add64 x y c (by omega) (by omega) (by omega) (by omega)]
  simp only [Result.andThen]
  congr 5 <;> omega
theorem run_sub64N (x y b : Nat) (hb : b ≤ 1) (w : World) :
    (callFunc 37 #[.int .u64 x, .int .u64 y, .int .u64 b]).run Tryd.prog w = .ok (.value (.tuple #[.int .u64 (((x + 18446744073709551616 - y - b) % 18446744073709551616 : Nat) : Int), .int .u64 ((if x < y + b then 1 else 0 : Nat) : Int)])) w := by
  rw [run_callFunc_extern Tryd.func37 (by kernel_rfl) (by kernel_rfl) (by kernel_rfl) (e := sub64Entry) (by kernel_rfl), run_sub64 x y b hb]
  rfl
end Go.Proofs.YtpgpplpddjjchaaDoor
