/- Numbers of 256 bits as four limbs: the reference's half limbs. -/
import Derived.Test.YtpgpplpddjjchaaDoorBitsU
import Derived.Test.YtpgpplpddjjchaaDoorMix
import Derived.Test.YtpgpplpddjjchaaDoorProg
namespace Go.Proofs.YtpgpplpddjjchaaDoor
open Go.RowKit

/-- limb j of a number -/
def limb (n j : Nat) : Int := ((n / 2 ^ (64 * j) % 2 ^ 64 : Nat) : Int)
/-- the four limbs -/
def wl (n : Nat) : List Int := [limb n 0, limb n 1, limb n 2, limb n 3]
theorem wl_len (n : Nat) : (ints .u64 (wl n)).length = 4 := rfl
theorem wl_at (n j : Nat) (hj : j < 4) : (ints .u64 (wl n))[j]? = some (.int .u64 (limb n j)) := by
  match j, hj with
  | 0, _ => rfl
  | 1, _ => rfl
  | 2, _ => rfl
  | 3, _ => rfl
theorem limb_bd (n j : Nat) : 0 ≤ limb n j ∧ limb n j < 18446744073709551616 := by
  unfold limb
  have := Nat.mod_lt (n / 2 ^ (64 * j)) (show 0 < 2 ^ 64 by decide)
  have e : (2 : Nat) ^ 64 = 18446744073709551616 := rfl
  omega
/-- the number of half limb i -/
def hlf (n i : Nat) : Int := ((n / 2 ^ (32 * i) % 2 ^ 32 : Nat) : Int)
theorem hlf_bd (n i : Nat) : 0 ≤ hlf n i ∧ hlf n i < 4294967296 := by
  unfold hlf
  have := Nat.mod_lt (n / 2 ^ (32 * i)) (show 0 < 2 ^ 32 by decide)
  have e : (2 : Nat) ^ 32 = 4294967296 := rfl
  omega
theorem half_even (a : Nat) : a % 2 ^ 64 % 2 ^ 32 = a % 2 ^ 32 := Nat.mod_mod_of_dvd a ⟨2 ^ 32, rfl⟩
theorem half_odd (a : Nat) : a % 2 ^ 64 / 2 ^ 32 % 2 ^ 32 = a / 2 ^ 32 % 2 ^ 32 := by
  have e : (2 : Nat) ^ 64 = 2 ^ 32 * 2 ^ 32 := rfl
  rw [e, Nat.mod_mul_right_div_self, Nat.mod_mod]
theorem limb_hlf (n i : Nat) : limb n (i / 2) / 2 ^ (32 * (i % 2)) % 4294967296 = hlf n i := by
  unfold limb hlf
  have hc : (4294967296 : Int) = ((2 ^ 32 : Nat) : Int) := rfl
  rcases Nat.mod_two_eq_zero_or_one i with h | h
  · rw [h, Nat.mul_zero, Int.pow_zero, Int.ediv_one, hc, ← Int.natCast_emod, half_even]
    have e : 64 * (i / 2) = 32 * i := by omega
    rw [e]
  · have h2 : (2 : Int) ^ (32 * 1) = ((2 ^ 32 : Nat) : Int) := rfl
    rw [h, h2, hc, ← Int.natCast_ediv, ← Int.natCast_emod, half_odd, Nat.div_div_eq_div_mul, ← Nat.pow_add]
    have e : 64 * (i / 2) + 32 = 32 * i := by omega
    rw [e]

theorem u64_ones (w : World) (n : Nat) (t : TypeId) : Has (w.alloc (.cells (ints .u64 (wl n)).toArray t)) w.heap.size (ints .u64 (wl n)) := Has.new _ _ _
set_option maxRecDepth 20000 in
set_option maxHeartbeats 400000 in
theorem half_any (n i : Nat) (hi : i < 8) (w : World) :
    Calls Tryd.prog 35 #[.agg (ints .u64 (wl n)).toArray, .int .i64 i] w fun e w' => e = .returned (.int .u64 (hlf n i)) ∧ Below w.heap.size w w' := by
  have X := Has.new w (ints .u64 (wl n)) 24
  have hc : (w.alloc (.cells (ints .u64 (wl n)).toArray 24)).cell? ⟨w.heap.size, i / 2, none⟩ = some (.int .u64 (limb n (i / 2))) := by rw [X.cell, wl_at n (i / 2) (by omega)]
  have BB := Lib.hid ((Below.refl w.heap.size w).alloc (Nat.le_refl _) (.cells (ints .u64 (wl n)).toArray 24))
  have HH := Lib.hid (limb_hlf n i)
  obtain ⟨l0, l1⟩ := limb_bd n (i / 2)
  have hw4 : ((ints .u64 (wl n)).length : Int) = 4 := rfl
  clear X
  go_enter Tryd.func35, Tryd.ntmps35
  go_wp2_with fail
  have hfin : bits .and .u64 (limb n (i / 2) / 2 ^ (32 * (i % 2))) 4294967295 = hlf n i := by
    have hp : (0 : Int) < 2 ^ (32 * (i % 2)) := Int.pow_pos (by decide)
    rw [u64_and32 _ (Int.ediv_nonneg l0 (by omega)) (by have := Int.ediv_le_self (b := 2 ^ (32 * (i % 2))) l0; omega)]
    exact HH.out
  have HF := Lib.hid hfin
  clear hfin
  go_ret
  exact ⟨by rw [← HF.out]; rfl, BB.out⟩

/-- half limb i is added -/
theorem limb_put {n x i : Nat} (hn : n < 2 ^ (32 * i)) (hx : x < 2 ^ 32) (j : Nat) :
    limb (n + x * 2 ^ (32 * i)) j = if j = i / 2 then (x : Int) * ((2 ^ (32 * (i % 2)) : Nat) : Int) + limb n (i / 2) else limb n j := by
  have hp : 0 < 2 ^ (64 * j) := Nat.two_pow_pos _
  by_cases h1 : j = i / 2
  · rw [if_pos h1, ← h1]
    have e : 32 * i = 32 * (i % 2) + 64 * j := by omega
    have e1 : x * 2 ^ (32 * i) = 2 ^ (64 * j) * (x * 2 ^ (32 * (i % 2))) := by rw [e, Nat.pow_add]; rw [Nat.mul_comm (2 ^ (64 * j)), Nat.mul_assoc]
    have h2 : n / 2 ^ (64 * j) < 2 ^ (32 * (i % 2)) := by
      rw [Nat.div_lt_iff_lt_mul hp, ← Nat.pow_add, ← e]; exact hn
    have h3 : 2 ^ (32 * (i % 2)) ≤ 2 ^ 32 := Nat.pow_le_pow_right (by decide) (by omega)
    have h4 : (x + 1) * 2 ^ (32 * (i % 2)) ≤ 2 ^ 32 * 2 ^ 32 := Nat.mul_le_mul (by omega) h3
    have h5 : (2 : Nat) ^ 32 * 2 ^ 32 = 2 ^ 64 := by rw [← Nat.pow_add]
    rw [Nat.add_mul, Nat.one_mul, h5] at h4
    unfold limb
    have m1 : (n / 2 ^ (64 * j) + x * 2 ^ (32 * (i % 2))) % 2 ^ 64 = n / 2 ^ (64 * j) + x * 2 ^ (32 * (i % 2)) := Nat.mod_eq_of_lt (by omega)
    have m2 : n / 2 ^ (64 * j) % 2 ^ 64 = n / 2 ^ (64 * j) := Nat.mod_eq_of_lt (by omega)
    rw [e1, Nat.add_mul_div_left _ _ hp, m1, m2, ← Int.natCast_mul, ← Int.natCast_add, Nat.add_comm]
  · rw [if_neg h1]
    unfold limb
    rcases Nat.lt_or_ge j (i / 2) with h2 | h2
    · have e : 32 * i = (32 * i - 64 * (j + 1)) + (64 + 64 * j) := by omega
      have e1 : x * 2 ^ (32 * i) = 2 ^ (64 * j) * (2 ^ 64 * (x * 2 ^ (32 * i - 64 * (j + 1)))) := by
        rw [e, Nat.pow_add, Nat.pow_add]
        have : 32 * i - 64 * (j + 1) + (64 + 64 * j) - 64 * (j + 1) = 32 * i - 64 * (j + 1) := by omega
        rw [this]
        generalize 2 ^ (32 * i - 64 * (j + 1)) = u
        generalize (2 : Nat) ^ 64 = v
        generalize 2 ^ (64 * j) = z
        rw [Nat.mul_comm z, ← Nat.mul_assoc x u, Nat.mul_comm (x * u), Nat.mul_right_comm]
      rw [e1, Nat.add_mul_div_left _ _ hp, Nat.add_mul_mod_self_left]
    · have h3 : 32 * (i + 1) ≤ 64 * j := by omega
      have h4 : (x + 1) * 2 ^ (32 * i) ≤ 2 ^ 32 * 2 ^ (32 * i) := Nat.mul_le_mul_right _ (by omega)
      rw [← Nat.pow_add, Nat.add_mul, Nat.one_mul] at h4
      have h5 : 2 ^ (32 + 32 * i) ≤ 2 ^ (64 * j) := Nat.pow_le_pow_right (by decide) (by omega)
      rw [Nat.div_eq_of_lt (by omega), Nat.div_eq_of_lt (by omega)]
theorem limb_low {n i : Nat} (hi : i < 8) (hn : n < 2 ^ (32 * i)) : limb n (i / 2) < ((2 ^ (32 * (i % 2)) : Nat) : Int) := by
  unfold limb
  have hp : 0 < 2 ^ (64 * (i / 2)) := Nat.two_pow_pos _
  have h2 : n / 2 ^ (64 * (i / 2)) < 2 ^ (32 * (i % 2)) := by
    rw [Nat.div_lt_iff_lt_mul hp, ← Nat.pow_add]
    have e : 32 * (i % 2) + 64 * (i / 2) = 32 * i := by omega
    rw [e]; exact hn
  have := Nat.mod_le (n / 2 ^ (64 * (i / 2))) (2 ^ 64)
  omega
theorem wl_put {n x i : Nat} (hi : i < 8) (hn : n < 2 ^ (32 * i)) (hx : x < 2 ^ 32) :
    (ints .u64 (wl n)).set (i / 2) (.int .u64 ((x : Int) * ((2 ^ (32 * (i % 2)) : Nat) : Int) + limb n (i / 2))) = ints .u64 (wl (n + x * 2 ^ (32 * i))) := by
  have h := limb_put hn hx
  apply List.ext_getElem?
  intro j
  rw [List.getElem?_set]
  by_cases h4 : j < 4
  · rw [wl_at _ j h4, wl_at _ j h4, h j]
    by_cases hj : j = i / 2
    · subst hj
      rw [if_pos rfl, if_pos rfl, wl_len, if_pos h4]
    · rw [if_neg (fun e => hj e.symm), if_neg hj]
  · rw [if_neg (by omega), List.getElem?_eq_none (by rw [wl_len]; omega), List.getElem?_eq_none (by rw [wl_len]; omega)]

theorem alloc_size (w : World) (o : Obj) : (w.alloc o).heap.size = w.heap.size + 1 := by simp
theorem wz_lit : #[Value.int .u64 0, Value.int .u64 0, Value.int .u64 0, Value.int .u64 0] = (ints .u64 (wl 0)).toArray := rfl
theorem wl_one (n : Nat) : ∀ u ∈ ints .u64 (wl n), u.oneCell' = true := fun u hu => by
  obtain ⟨x, _, rfl⟩ := List.mem_map.1 hu
  rfl
theorem cells_wide (n : Nat) : Tryd.prog.cellsOf 24 = (ints .u64 (wl n)).length := by rw [wl_len]; kernel_rfl
set_option maxRecDepth 20000 in
set_option maxHeartbeats 400000 in
theorem put_any (n x i : Nat) (hi : i < 8) (hn : n < 2 ^ (32 * i)) (hx : x < 2 ^ 32) (w : World) :
    Calls Tryd.prog 36 #[.agg (ints .u64 (wl n)).toArray, .int .i64 i, .int .u64 x] w fun e w' => e = .returned (.agg (ints .u64 (wl (n + x * 2 ^ (32 * i)))).toArray) ∧ Below w.heap.size w w' := by
  have X := (Has.new w (ints .u64 (wl n)) 24).alloc (.cells (ints .u64 (wl 0)).toArray 24)
  have hc : ((w.alloc (.cells (ints .u64 (wl n)).toArray 24)).alloc (.cells (ints .u64 (wl 0)).toArray 24)).cell? ⟨w.heap.size, i / 2, none⟩ = some (.int .u64 (limb n (i / 2))) := by rw [X.cell, wl_at n (i / 2) (by omega)]
  have hfz := X.frozen (i / 2)
  have hz := wz_lit
  have hv : bits .or .u64 (limb n (i / 2)) (IntKind.u64.wrap ((x : Int) * 2 ^ (32 * (i % 2)))) = (x : Int) * ((2 ^ (32 * (i % 2)) : Nat) : Int) + limb n (i / 2) := by
    have e : (2 : Int) ^ (32 * (i % 2)) = ((2 ^ (32 * (i % 2)) : Nat) : Int) := by rw [Int.natCast_pow]; rfl
    have l0 := (limb_bd n (i / 2)).1
    have l1 := limb_low hi hn
    have h3 : 2 ^ (32 * (i % 2)) ≤ 2 ^ 32 := Nat.pow_le_pow_right (by decide) (by omega)
    have h4 : (x + 1) * 2 ^ (32 * (i % 2)) ≤ 2 ^ 32 * 2 ^ 32 := Nat.mul_le_mul (by omega) h3
    have h5 : (2 : Nat) ^ 32 * 2 ^ 32 = 18446744073709551616 := rfl
    rw [Nat.add_mul, Nat.one_mul, h5] at h4
    have h6 : (x : Int) * ((2 ^ (32 * (i % 2)) : Nat) : Int) = ((x * 2 ^ (32 * (i % 2)) : Nat) : Int) := by rw [Int.natCast_mul]
    rw [e, u64_in (by rw [h6]; omega) (by rw [h6]; omega), u64_or_comm]
    exact u64_or _ _ _ (by omega) l0 l1 (by rw [h6]; omega)
  have hs := wl_put hi hn hx
  generalize (x : Int) * ((2 ^ (32 * (i % 2)) : Nat) : Int) + limb n (i / 2) = V at *
  generalize n + x * 2 ^ (32 * i) = m at *
  have HX2 := Lib.hid ((Has.new w (ints .u64 (wl m)) 24).alloc (.cells (ints .u64 (wl 0)).toArray 24))
  have HR0 : Hid (Has ((w.alloc (.cells (ints .u64 (wl m)).toArray 24)).alloc (.cells (ints .u64 (wl 0)).toArray 24)) (w.heap.size + 1) (ints .u64 (wl 0))) := by
    have := Has.new (w.alloc (.cells (ints .u64 (wl m)).toArray 24)) (ints .u64 (wl 0)) 24
    rw [alloc_size] at this
    exact this
  have BB := Lib.hid (((Below.refl w.heap.size w).alloc (Nat.le_refl _) (.cells (ints .u64 (wl m)).toArray 24)).alloc (by simp) (.cells (ints .u64 (wl 0)).toArray 24))
  clear X
  have hw4 : ((ints .u64 (wl n)).length : Int) = 4 := rfl
  go_enter Tryd.func36, Tryd.ntmps36
  go_wp2_with (first | ((with_reducible refine wpList_loadB rfl 24 _ rfl _ (ints .u64 (wl m)) ?_ HX2.out Tryd.underlying24 rfl ?_ ?_); rfl; exact cells_wide _) | ((with_reducible refine wpList_storeB rfl 24 _ _ rfl _ (ints .u64 (wl m)) _ ?_ ?_ HR0.out rfl Tryd.underlying24 ?_ (wl_one _) ?_); rfl; rfl; exact cells_wide _; intro w1 hw1 hg1 hz1; have HR := Lib.hid hw1; have HB := Lib.hid (BB.out.grown hg1 (by simp; omega) (fun k hk => by cases hk; omega)); clear hw1 hg1 hz1))
  exact bodyPost_ret (results_cell (by rfl) _ (by rfl) HR.out Tryd.underlying24 rfl (cells_wide _)) rfl ⟨rfl, HB.out⟩
end Go.Proofs.YtpgpplpddjjchaaDoor
