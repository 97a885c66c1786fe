/- Numbers of 256 bits: the reference's comparison, and its product with a small number. -/
import Derived.Test.YtpgpplpddjjchaaDoorWideM
namespace Go.Proofs.YtpgpplpddjjchaaDoor
open Go.RowKit

def cmpW (n m : Nat) : Int := if n < m then -1 else if m < n then 1 else 0
theorem limb_split (n j : Nat) : ((n / 2 ^ (64 * j) : Nat) : Int) = ((n / 2 ^ (64 * (j + 1)) : Nat) : Int) * 18446744073709551616 + limb n j := by
  unfold limb
  have e : 64 * (j + 1) = 64 * j + 64 := by omega
  rw [e, Nat.pow_add, ← Nat.div_div_eq_div_mul]
  generalize n / 2 ^ (64 * j) = x
  have e2 : (2 : Nat) ^ 64 = 18446744073709551616 := rfl
  rw [e2]
  omega
theorem div_lt_of {n m D : Nat} (h : n / D < m / D) : n < m := by
  rcases Nat.lt_or_ge n m with h1 | h1
  · exact h1
  · have := Nat.div_le_div_right (c := D) h1; omega
theorem limb_eq {n m j : Nat} (h : n / 2 ^ (64 * (j + 1)) = m / 2 ^ (64 * (j + 1))) (hl : limb n j = limb m j) : n / 2 ^ (64 * j) = m / 2 ^ (64 * j) := by
  have h1 := limb_split n j
  have h2 := limb_split m j
  rw [h, hl] at h1
  omega
theorem limb_lt {n m j : Nat} (h : n / 2 ^ (64 * (j + 1)) = m / 2 ^ (64 * (j + 1))) (hl : limb n j < limb m j) : n < m := by
  have h1 := limb_split n j
  have h2 := limb_split m j
  rw [h] at h1
  exact div_lt_of (D := 2 ^ (64 * j)) (by omega)
set_option maxRecDepth 20000 in
set_option maxHeartbeats 1000000 in
theorem refCompare_any (n m : Nat) (hn : n < 2 ^ 256) (hm : m < 2 ^ 256) (w : World) :
    Calls Tryd.prog 15 #[.agg (ints .u64 (wl n)).toArray, .agg (ints .u64 (wl m)).toArray] w fun e w' => e = .returned (.int .i64 (cmpW n m)) ∧ Below w.heap.size w w' := by
  obtain ⟨wA, hwA⟩ : ∃ wA, wA = (w.alloc (.cells (ints .u64 (wl n)).toArray 24)).alloc (.cells (ints .u64 (wl m)).toArray 24) := ⟨_, rfl⟩
  have X0 : Hid (Has wA w.heap.size (ints .u64 (wl n))) := by show Has _ _ _; rw [hwA]; exact (Has.new w _ _).alloc _
  have X1 : Hid (Has wA (w.heap.size + 1) (ints .u64 (wl m))) := by show Has _ _ _; rw [hwA]; have := Has.new (w.alloc (.cells (ints .u64 (wl n)).toArray 24)) (ints .u64 (wl m)) 24; rwa [alloc_size] at this
  have BA : Hid (Below w.heap.size w wA) := by show Below _ _ _; rw [hwA]; exact ((Below.refl w.heap.size w).alloc (Nat.le_refl _) _).alloc (by simp) _
  have HWA := Lib.hid hwA
  have HT : Hid (n / 2 ^ (64 * 4) = m / 2 ^ (64 * 4)) := by show _ = _; rw [Nat.div_eq_of_lt hn, Nat.div_eq_of_lt hm]
  have h4 : ((ints .u64 (wl n)).length : Int) = 4 := rfl
  clear hwA hn hm
  go_enter Tryd.func15, Tryd.ntmps15
  go_wp2_with fail
  rw [← HWA.out]
  go_loopw [5] (fun i wr => ∃ k : Nat, k ≤ 4 ∧ i = .int .i64 ((k : Int) - 1) ∧ n / 2 ^ (64 * k) = m / 2 ^ (64 * k) ∧ Has wr w.heap.size (ints .u64 (wl n)) ∧ Has wr (w.heap.size + 1) (ints .u64 (wl m)) ∧ Below w.heap.size w wr) (fun i _ => (intOf i + 1).toNat)
  case atStart => exact ⟨4, Nat.le_refl _, rfl, HT.out, X0.out, X1.out, BA.out⟩
  case round =>
    obtain ⟨k, hk, rfl, heq, hx0, hx1, hbel⟩ := hrel
    have HEQ := Lib.hid heq
    have BY := Lib.hid hbel
    rcases k with _ | j
    · have h0 : n = m := by simpa using heq
      have HR : Hid (cmpW n m = 0) := by show _ = _; rw [cmpW, if_neg (by omega), if_neg (by omega)]
      clear hx0 hx1 heq h0 hbel
      have hneg : ((0 : Nat) : Int) - 1 = -1 := rfl
      go_wp2_with fail
      go_ret
      exact ⟨by rw [HR.out]; rfl, BY.out⟩
    · have hc0 : wr.cell? ⟨w.heap.size, j, none⟩ = some (.int .u64 (limb n j)) := by rw [hx0.cell, wl_at n j (by omega)]
      have hc1 : wr.cell? ⟨w.heap.size + 1, j, none⟩ = some (.int .u64 (limb m j)) := by rw [hx1.cell, wl_at m j (by omega)]
      have X0 := Lib.hid hx0
      have X1 := Lib.hid hx1
      have hj : j ≤ 3 := by omega
      have e1 : ((j + 1 : Nat) : Int) - 1 = (j : Int) := by omega
      have LT1 := Lib.hid (limb_lt (n := n) (m := m) (j := j) heq)
      have LT2 := Lib.hid (limb_lt (n := m) (m := n) (j := j) heq.symm)
      have LE := Lib.hid (limb_eq (n := n) (m := m) (j := j) heq)
      clear hx0 hx1 heq hbel
      generalize limb n j = x at *
      generalize limb m j = y at *
      rw [e1]
      by_cases h1 : x < y
      · have HR : Hid (cmpW n m = -1) := by show _ = _; rw [cmpW, if_pos (LT1.out h1)]
        clear e1
        go_wp2_with fail
        go_quiet (fail)
        go_wp2_with fail
        go_ret
        exact ⟨by rw [HR.out]; rfl, below_dN BY.out _⟩
      · by_cases h2 : y < x
        · have HR : Hid (cmpW n m = 1) := by show _ = _; have := LT2.out h2; rw [cmpW, if_neg (by omega), if_pos this]
          have h1d : decide (x < y) = false := decide_eq_false h1
          clear e1
          go_wp2_with fail
          go_quiet (fail)
          go_wp2_with fail
          go_quiet (fail)
          go_wp2_with fail
          go_ret
          exact ⟨by rw [HR.out]; rfl, below_dN (below_dN BY.out _) _⟩
        · have HQ := Lib.hid (LE.out (by omega))
          have h1d : decide (x < y) = false := decide_eq_false h1
          have h2d : decide (x > y) = false := decide_eq_false h2
          clear e1
          go_wp2_with fail
          go_quiet (fail)
          go_wp2_with fail
          go_quiet (fail)
          go_wp2_with fail
          go_roundw
          case rel => exact ⟨j, by omega, rfl, HQ.out, X0.out, X1.out, below_dN BY.out _⟩
          case measure => simp [intOf]

/-- the upper part, moved by a half limb -/
def mvW (n j : Nat) : Nat := n % 2 ^ (32 * j) * 2 ^ 32
theorem mvW_lt (n j : Nat) : mvW n j < 2 ^ (32 * (j + 1)) := by
  have e : 32 * (j + 1) = 32 * j + 32 := by omega
  rw [mvW, e, Nat.pow_add]
  exact Nat.mul_lt_mul_of_pos_right (Nat.mod_lt _ (Nat.two_pow_pos _)) (Nat.two_pow_pos _)
theorem mvW_next (n j : Nat) : mvW n j + hN n j * 2 ^ (32 * (j + 1)) = mvW n (j + 1) := by
  have e : 32 * (j + 1) = 32 * j + 32 := by omega
  rw [mvW, mvW, mod_next, Nat.add_mul, e, Nat.pow_add, Nat.mul_assoc]
theorem mvW_done {n : Nat} (h : n < 2 ^ (32 * 7)) : mvW n 7 = n * 2 ^ 32 := by rw [mvW, Nat.mod_eq_of_lt h]
theorem hN_top {n : Nat} (hn : n < 2 ^ 256) : hN n 7 = 0 ↔ n < 2 ^ (32 * 7) := by
  have e : (2 : Nat) ^ 256 = 2 ^ 32 * 2 ^ (32 * 7) := by rw [← Nat.pow_add]
  have h : n / 2 ^ (32 * 7) < 2 ^ 32 := (Nat.div_lt_iff_lt_mul (Nat.two_pow_pos _)).2 (by rw [← e]; exact hn)
  rw [hN, Nat.mod_eq_of_lt h]
  exact ⟨fun h0 => Nat.lt_of_div_eq_zero (Nat.two_pow_pos _) h0, fun h1 => Nat.div_eq_of_lt h1⟩
/-- low and high part of the product -/
theorem prod_parts (n k : Nat) : n * (k % 4294967296) + n * (k / 4294967296) * 2 ^ 32 = n * k := by
  have e : (2 : Nat) ^ 32 = 4294967296 := rfl
  rw [e, Nat.mul_assoc, ← Nat.mul_add, Nat.mul_comm (k / 4294967296), Nat.mod_add_div]
end Go.Proofs.YtpgpplpddjjchaaDoor
