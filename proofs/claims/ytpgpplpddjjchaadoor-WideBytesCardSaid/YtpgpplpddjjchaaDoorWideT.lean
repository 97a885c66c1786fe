/- Numbers of 256 bits: their decimal digits. -/
import Derived.Test.YtpgpplpddjjchaaDoorWideB
import Derived.Lib.TrimByte
import Derived.Laws.BytesArg
namespace Go.Proofs.YtpgpplpddjjchaaDoor
open Go.RowKit

def dg (n i : Nat) : Nat := n / 10 ^ i % 10
theorem dg_lt (n i : Nat) : dg n i < 10 := Nat.mod_lt _ (by decide)
/-- m digits, the lowest first, as bytes -/
def lows (n m : Nat) : List Int := (List.range m).map fun i => ((48 + dg n i : Nat) : Int)
theorem lows_len (n m : Nat) : (lows n m).length = m := by simp [lows]
theorem lows_succ (n m : Nat) : lows n (m + 1) = lows n m ++ [((48 + dg n m : Nat) : Int)] := by simp [lows, List.range_succ]
theorem lows_bd {n m : Nat} {x : Int} (h : x ∈ lows n m) : 48 ≤ x ∧ x ≤ 57 := by
  obtain ⟨i, _, rfl⟩ := List.mem_map.1 h
  have := dg_lt n i
  omega
/-- how many digits a number has -/
def nd (n : Nat) : Nat := if n < 10 then 1 else nd (n / 10) + 1
decreasing_by omega
theorem nd_spec (n : Nat) : 1 ≤ nd n ∧ n < 10 ^ nd n ∧ (1 < nd n → 10 ^ (nd n - 1) ≤ n) := by
  induction n using Nat.strongRecOn with
  | ind n ih =>
    rw [nd]
    by_cases h : n < 10
    · rw [if_pos h]; exact ⟨Nat.le_refl _, by simpa using h, fun h => absurd h (by decide)⟩
    · rw [if_neg h]
      obtain ⟨h1, h2, h3⟩ := ih (n / 10) (by omega)
      generalize nd (n / 10) = d at *
      refine ⟨by omega, by rw [Nat.pow_succ]; omega, fun _ => ?_⟩
      rcases Nat.eq_or_lt_of_le h1 with e | e
      · subst e
        simp; omega
      · have h4 := h3 e
        have h5 : 10 ^ (d + 1 - 1) = 10 ^ (d - 1) * 10 := by rw [← Nat.pow_succ]; congr 1; omega
        omega
theorem nd_eq {n d : Nat} (h1 : 1 ≤ d) (h2 : n < 10 ^ d) (h3 : 1 < d → 10 ^ (d - 1) ≤ n) : nd n = d := by
  obtain ⟨a1, a2, a3⟩ := nd_spec n
  rcases Nat.lt_trichotomy (nd n) d with h | h | h
  · have h4 := h3 (by omega)
    have h5 : 10 ^ nd n ≤ 10 ^ (d - 1) := Nat.pow_le_pow_right (by decide) (by omega)
    omega
  · exact h
  · have h4 := a3 (by omega)
    have h5 : 10 ^ d ≤ 10 ^ (nd n - 1) := Nat.pow_le_pow_right (by decide) (by omega)
    omega
/-- the decimal notation -/
def txl (n : Nat) : List Int := (lows n (nd n)).reverse
theorem txl_bd {n : Nat} {x : Int} (h : x ∈ txl n) : 48 ≤ x ∧ x ≤ 57 := lows_bd (List.mem_reverse.1 h)
theorem txl_len (n : Nat) : (txl n).length = nd n := by unfold txl; rw [List.length_reverse, lows_len]
def chr (x : Int) : UInt8 := UInt8.ofNat x.toNat
theorem chr_48 (d : Nat) (h : d < 10) : (chr ((48 + d : Nat) : Int) == 48) = decide (d = 0) := by
  have : ∀ d : Fin 10, (chr ((48 + d.val : Nat) : Int) == 48) = decide (d.val = 0) := by decide
  exact this ⟨d, h⟩
theorem trim_lows (n : Nat) : ∀ m, n < 10 ^ m → (((lows n m).reverse).map chr).dropWhile (· == 48) = if n = 0 then [] else (txl n).map chr
  | 0, h => by
    have : n = 0 := by simpa using h
    rw [if_pos this]; rfl
  | m + 1, h => by
    rw [lows_succ, List.reverse_append, List.reverse_singleton, List.singleton_append, List.map_cons, List.dropWhile_cons, chr_48 _ (dg_lt n m)]
    have hp : 0 < 10 ^ m := Nat.pow_pos (by decide)
    by_cases hd : dg n m = 0
    · have hq : n / 10 ^ m < 10 := by rw [Nat.div_lt_iff_lt_mul hp, Nat.mul_comm, ← Nat.pow_succ]; exact h
      have hq0 : n / 10 ^ m = 0 := by
        unfold dg at hd
        generalize n / 10 ^ m = z at *
        omega
      rw [decide_eq_true hd, if_pos rfl]
      exact trim_lows n m (by
        rcases Nat.div_eq_zero_iff.1 hq0 with h2 | h2
        · omega
        · exact h2)
    · have h1 : 10 ^ m ≤ n := by
        rcases Nat.lt_or_ge n (10 ^ m) with h2 | h2
        · exact absurd (show dg n m = 0 by unfold dg; rw [Nat.div_eq_of_lt h2]) hd
        · exact h2
      have hn : n ≠ 0 := by omega
      have hnd : nd n = m + 1 := nd_eq (by omega) h (fun _ => h1)
      rw [decide_eq_false hd, if_neg hn]
      simp only [Bool.false_eq_true, if_false]
      unfold txl
      rw [hnd, lows_succ, List.reverse_append, List.reverse_singleton, List.singleton_append, List.map_cons]
theorem nd_zero : nd 0 = 1 := nd_eq (Nat.le_refl _) (by decide) (by decide)
theorem txl_zero : txl 0 = [48] := by unfold txl; rw [nd_zero]; rfl

/-- the number that digits tell, the first the highest -/
def pv (l : List Int) : Nat := l.foldl (fun a c => a * 10 + (c - 48).toNat) 0
theorem pv_from (l : List Int) : ∀ a : Nat, l.foldl (fun a c => a * 10 + (c - 48).toNat) a = a * 10 ^ l.length + pv l := by
  unfold pv
  induction l with
  | nil => intro a; simp
  | cons c l ih =>
    intro a
    rw [List.foldl_cons, List.foldl_cons, ih, ih (0 * 10 + _), List.length_cons, Nat.pow_succ, Nat.zero_mul, Nat.zero_add, Nat.add_mul, Nat.mul_assoc, Nat.mul_comm 10, Nat.add_assoc]
theorem pv_snoc (l : List Int) (c : Int) : pv (l ++ [c]) = pv l * 10 + (c - 48).toNat := by unfold pv; rw [List.foldl_append]; rfl
theorem pv_cons (c : Int) (l : List Int) : pv (c :: l) = (c - 48).toNat * 10 ^ l.length + pv l := by
  have := pv_from l (0 * 10 + (c - 48).toNat)
  have e : pv (c :: l) = List.foldl (fun a c => a * 10 + (c - 48).toNat) (0 * 10 + (c - 48).toNat) l := rfl
  rw [e, this, Nat.zero_mul, Nat.zero_add]
theorem pv_lows (n : Nat) : ∀ m, pv (lows n m).reverse = n % 10 ^ m
  | 0 => by simp [lows, pv, Nat.mod_one]
  | m + 1 => by
    rw [lows_succ, List.reverse_append, List.reverse_singleton, List.singleton_append, pv_cons, pv_lows n m, List.length_reverse, lows_len]
    have e : (((48 + dg n m : Nat) : Int) - 48).toNat = dg n m := by omega
    rw [e, Nat.pow_succ, Nat.mod_mul, Nat.mul_comm (10 ^ m)]
    unfold dg
    omega
theorem pv_txl (n : Nat) : pv (txl n) = n := by
  unfold txl
  rw [pv_lows, Nat.mod_eq_of_lt (nd_spec n).2.1]
theorem pv_le_append (l m : List Int) : pv l ≤ pv (l ++ m) := by
  have h : pv (l ++ m) = pv l * 10 ^ m.length + pv m := by
    have := pv_from m (pv l)
    unfold pv at *
    rw [List.foldl_append]; exact this
  rw [h]
  have := Nat.mul_le_mul_left (pv l) (Nat.pow_pos (n := m.length) (show 0 < 10 by decide))
  omega
end Go.Proofs.YtpgpplpddjjchaaDoor
