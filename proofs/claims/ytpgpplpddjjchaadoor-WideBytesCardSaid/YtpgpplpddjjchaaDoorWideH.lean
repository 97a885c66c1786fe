/- Numbers of 256 bits: the reference's quotient, bit by bit: plain laws, and one bit. -/
import Derived.Test.YtpgpplpddjjchaaDoorWideG
namespace Go.Proofs.YtpgpplpddjjchaaDoor
open Go.RowKit

def bN (n i : Nat) : Nat := n / 2 ^ i % 2
theorem bN_lt (n i : Nat) : bN n i < 2 := Nat.mod_lt _ (by decide)
theorem limb_bit (n i : Nat) : limb n (i / 64) / 2 ^ (i % 64) % 2 = (bN n i : Int) := by
  unfold limb bN
  have hc : (2 : Int) ^ (i % 64) = ((2 ^ (i % 64) : Nat) : Int) := by rw [Int.natCast_pow]; rfl
  have e : (2 : Nat) ^ 64 = 2 ^ (i % 64) * 2 ^ (64 - i % 64) := by rw [← Nat.pow_add]; congr 1; omega
  have e2 : (2 : Nat) ^ (64 - i % 64) = 2 * 2 ^ (63 - i % 64) := by
    have : 64 - i % 64 = 1 + (63 - i % 64) := by omega
    rw [this, Nat.pow_add]
  have e3 : 2 ^ i = 2 ^ (64 * (i / 64)) * 2 ^ (i % 64) := by rw [← Nat.pow_add]; congr 1; omega
  rw [hc, ← Int.natCast_ediv, e, Nat.mod_mul_right_div_self, e2, e3, ← Nat.div_div_eq_div_mul]
  generalize n / 2 ^ (64 * (i / 64)) / 2 ^ (i % 64) = x
  have : x % (2 * 2 ^ (63 - i % 64)) % 2 = x % 2 := Nat.mod_mul_right_mod x 2 _
  omega
/-- the quotient's upper bits -/
def qB (n k j : Nat) : Nat := n / 2 ^ j / k * 2 ^ j
def rB (n k j : Nat) : Nat := n / 2 ^ j % k
theorem bit_split (n i : Nat) : n / 2 ^ i = n / 2 ^ (i + 1) * 2 + bN n i := by
  unfold bN
  rw [Nat.pow_succ, ← Nat.div_div_eq_div_mul]
  omega
theorem bit_more {u k b : Nat} (hk : 0 < k) (hb : b < 2) :
    (u * 2 + b) / k = u / k * 2 + (if k ≤ u % k * 2 + b then 1 else 0) ∧ (u * 2 + b) % k = (if k ≤ u % k * 2 + b then u % k * 2 + b - k else u % k * 2 + b) := by
  have h2 := Nat.mod_add_div u k
  have hm := Nat.mod_lt u hk
  have h1 : u * 2 + b = (u % k * 2 + b) + k * (u / k * 2) := by
    have h3 : u * 2 = u % k * 2 + k * (u / k * 2) := by rw [← Nat.mul_assoc, ← Nat.add_mul, h2]
    rw [h3, Nat.add_right_comm]
  rw [h1, Nat.add_mul_div_left _ _ hk, Nat.add_mul_mod_self_left]
  have ht : u % k * 2 + b < 2 * k := by omega
  clear h1
  generalize u % k * 2 + b = t at *
  by_cases h : k ≤ t
  · have e : t = (t - k) + k * 1 := by omega
    rw [if_pos h, if_pos h]
    have e1 : t / k = 1 := by rw [e, Nat.add_mul_div_left _ _ hk, Nat.div_eq_of_lt (by omega)]
    have e2 : t % k = t - k := by
      have : ((t - k) + k * 1) % k = t - k := by rw [Nat.add_mul_mod_self_left, Nat.mod_eq_of_lt (by omega)]
      rwa [← e] at this
    exact ⟨by omega, e2⟩
  · rw [if_neg h, if_neg h, Nat.div_eq_of_lt (by omega), Nat.mod_eq_of_lt (by omega)]
    exact ⟨by omega, rfl⟩
theorem rB_next (n k i : Nat) (hk : 0 < k) : rB n k i = (if k ≤ rB n k (i + 1) * 2 + bN n i then rB n k (i + 1) * 2 + bN n i - k else rB n k (i + 1) * 2 + bN n i) := by
  unfold rB
  exact (congrArg (· % k) (bit_split n i)).trans (bit_more hk (bN_lt n i)).2
theorem qB_next (n k i : Nat) (hk : 0 < k) : qB n k i = qB n k (i + 1) + (if k ≤ rB n k (i + 1) * 2 + bN n i then 1 else 0) * 2 ^ i := by
  have h : n / 2 ^ i / k = n / 2 ^ (i + 1) / k * 2 + (if k ≤ n / 2 ^ (i + 1) % k * 2 + bN n i then 1 else 0) := (congrArg (· / k) (bit_split n i)).trans (bit_more hk (bN_lt n i)).1
  unfold qB rB
  rw [h]
  generalize n / 2 ^ (i + 1) / k = a
  generalize (if k ≤ n / 2 ^ (i + 1) % k * 2 + bN n i then 1 else 0) = b
  rw [Nat.add_mul, Nat.pow_succ, Nat.mul_assoc, Nat.mul_comm 2]
/-- a bit is set -/
theorem bit_set {n k i : Nat} (hi : i < 256) :
    (ints .u64 (wl (qB n k (i + 1)))).set (i / 64) (.int .u64 (limb (qB n k (i + 1)) (i / 64) + ((2 ^ (i % 64) : Nat) : Int))) = ints .u64 (wl (qB n k (i + 1) + 2 ^ i)) := by
  have hA : qB n k (i + 1) = n / 2 ^ (i + 1) / k * 2 ^ (i + 1) := rfl
  generalize n / 2 ^ (i + 1) / k = A at *
  generalize qB n k (i + 1) = q at *
  subst hA
  have e0 : i = 64 * (i / 64) + i % 64 := by omega
  have p1 : 2 ^ (i + 1) = 2 ^ (64 * (i / 64)) * 2 ^ (i % 64 + 1) := by rw [← Nat.pow_add, show 64 * (i / 64) + (i % 64 + 1) = i + 1 by omega]
  have p2 : 2 ^ i = 2 ^ (64 * (i / 64)) * 2 ^ (i % 64) := by rw [← Nat.pow_add, show 64 * (i / 64) + i % 64 = i by omega]
  have hp : ∀ m : Nat, 0 < 2 ^ m := fun m => Nat.two_pow_pos m
  apply List.ext_getElem?
  intro j
  rw [List.getElem?_set]
  by_cases h4 : j < 4
  · rw [wl_at _ j h4, wl_at _ j h4]
    by_cases hij : i / 64 = j
    · have e2 : i / 64 < (ints .u64 (wl (A * 2 ^ (i + 1)))).length := by rw [wl_len]; omega
      have e1 : limb (A * 2 ^ (i + 1) + 2 ^ i) j = limb (A * 2 ^ (i + 1)) (i / 64) + ((2 ^ (i % 64) : Nat) : Int) := by
        rw [← hij]
        unfold limb
        have d1 : A * 2 ^ (i + 1) / 2 ^ (64 * (i / 64)) = A * 2 ^ (i % 64 + 1) := by
          rw [p1, Nat.mul_left_comm, Nat.mul_comm, Nat.mul_div_cancel _ (hp _)]
        have d2 : (A * 2 ^ (i + 1) + 2 ^ i) / 2 ^ (64 * (i / 64)) = A * 2 ^ (i % 64 + 1) + 2 ^ (i % 64) := by
          have : A * 2 ^ (i + 1) + 2 ^ i = (A * 2 ^ (i % 64 + 1) + 2 ^ (i % 64)) * 2 ^ (64 * (i / 64)) := by
            rw [p1, p2, Nat.add_mul]; ac_rfl
          rw [this, Nat.mul_div_cancel _ (hp _)]
        rw [d1, d2]
        have p3 : (2 : Nat) ^ 64 = 2 ^ (63 - i % 64) * 2 ^ (i % 64 + 1) := by rw [← Nat.pow_add]; congr 1; omega
        have m1 : A * 2 ^ (i % 64 + 1) % 2 ^ 64 = A % 2 ^ (63 - i % 64) * 2 ^ (i % 64 + 1) := by rw [p3, Nat.mul_mod_mul_right]
        have hlt : A % 2 ^ (63 - i % 64) * 2 ^ (i % 64 + 1) + 2 ^ (i % 64) < 2 ^ 64 := by
          have h5 := Nat.mod_lt A (hp (63 - i % 64))
          have h6 := Nat.mul_le_mul_right (2 ^ (i % 64 + 1)) (show A % 2 ^ (63 - i % 64) + 1 ≤ 2 ^ (63 - i % 64) from h5)
          rw [← p3, Nat.add_mul, Nat.one_mul, Nat.pow_succ] at h6
          have := hp (i % 64)
          rw [Nat.pow_succ]
          omega
        have m2 : (A * 2 ^ (i % 64 + 1) + 2 ^ (i % 64)) % 2 ^ 64 = A % 2 ^ (63 - i % 64) * 2 ^ (i % 64 + 1) + 2 ^ (i % 64) := by
          rw [Nat.add_mod, m1, Nat.add_mod_mod, Nat.mod_eq_of_lt hlt]
        rw [m1, m2, Int.natCast_add]
      rw [e1]
      clear e1
      generalize ints .u64 (wl (A * 2 ^ (i + 1))) = L at *
      rw [if_pos hij, if_pos e2]
    · rw [if_neg hij]
      refine congrArg (fun z => some (Value.int .u64 z)) ?_
      unfold limb
      rcases Nat.lt_or_ge j (i / 64) with h | h
      · have q1 : 2 ^ (i + 1) = 2 ^ (64 * j) * (2 ^ 64 * 2 ^ (i + 1 - 64 * j - 64)) := by rw [← Nat.pow_add, ← Nat.pow_add]; congr 1; omega
        have q2 : 2 ^ i = 2 ^ (64 * j) * (2 ^ 64 * 2 ^ (i - 64 * j - 64)) := by rw [← Nat.pow_add, ← Nat.pow_add]; congr 1; omega
        have d1 : A * 2 ^ (i + 1) = 2 ^ (64 * j) * (2 ^ 64 * (A * 2 ^ (i + 1 - 64 * j - 64))) := by rw [q1]; ac_rfl
        have d2 : A * 2 ^ (i + 1) + 2 ^ i = 2 ^ (64 * j) * (2 ^ 64 * (A * 2 ^ (i + 1 - 64 * j - 64) + 2 ^ (i - 64 * j - 64))) := by rw [d1, q2, Nat.mul_add (2 ^ 64), Nat.mul_add (2 ^ (64 * j))]
        rw [d2, d1, Nat.mul_div_cancel_left _ (hp _), Nat.mul_div_cancel_left _ (hp _), Nat.mul_mod_right, Nat.mul_mod_right]
      · have q1 : 2 ^ (64 * j) = 2 ^ (i + 1) * 2 ^ (64 * j - i - 1) := by rw [← Nat.pow_add]; congr 1; omega
        have d1 : (A * 2 ^ (i + 1) + 2 ^ i) / 2 ^ (i + 1) = A := by
          rw [Nat.add_comm, Nat.add_mul_div_right _ _ (hp _), Nat.div_eq_of_lt (Nat.pow_lt_pow_right (by decide) (by omega)), Nat.zero_add]
        rw [q1, ← Nat.div_div_eq_div_mul, ← Nat.div_div_eq_div_mul, d1, Nat.mul_div_cancel _ (hp _)]
  · rw [if_neg (by omega), List.getElem?_eq_none (by rw [wl_len]; omega), List.getElem?_eq_none (by rw [wl_len]; omega)]
set_option maxRecDepth 20000 in
set_option maxHeartbeats 400000 in
theorem bit_any (n i : Nat) (hi : i < 256) (w : World) :
    Calls Tryd.prog 41 #[.agg (ints .u64 (wl n)).toArray, .int .i64 i] w fun e w' => e = .returned (.int .u64 (bN n i : Nat)) ∧ Below w.heap.size w w' := by
  have X := Has.new w (ints .u64 (wl n)) 24
  have hc : (w.alloc (.cells (ints .u64 (wl n)).toArray 24)).cell? ⟨w.heap.size, i / 64, none⟩ = some (.int .u64 (limb n (i / 64))) := by rw [X.cell, wl_at n (i / 64) (by omega)]
  have BB := bx ((Below.refl w.heap.size w).alloc (Nat.le_refl _) (.cells (ints .u64 (wl n)).toArray 24))
  have HH := bx (limb_bit n i)
  obtain ⟨l0, l1⟩ := limb_bd n (i / 64)
  have hw4 : ((ints .u64 (wl n)).length : Int) = 4 := rfl
  have hfin : bits .and .u64 (limb n (i / 64) / 2 ^ (i % 64)) 1 = (bN n i : Int) := by
    have hp : (0 : Int) < 2 ^ (i % 64) := Int.pow_pos (by decide)
    rw [u64_and1 _ (Int.ediv_nonneg l0 (by omega)) (by have := Int.ediv_le_self (b := 2 ^ (i % 64)) l0; omega)]
    exact HH.out
  have HF := bx hfin
  clear X hfin
  go_enter Tryd.func41, Tryd.ntmps41
  go_wp2_with fail
  go_ret
  exact ⟨by rw [← HF.out]; rfl, BB.out⟩
end Go.Proofs.YtpgpplpddjjchaaDoor
