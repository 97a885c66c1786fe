/- Numbers of 256 bits: from their bytes. -/
import Derived.Test.YtpgpplpddjjchaaDoorWideB
namespace Go.Proofs.YtpgpplpddjjchaaDoor
open Go.RowKit

/-- byte i is added -/
theorem limb_putB {n x i : Nat} (hn : n < 2 ^ (8 * i)) (hx : x < 2 ^ 8) (j : Nat) :
    limb (n + x * 2 ^ (8 * i)) j = if j = i / 8 then (x : Int) * ((2 ^ (8 * (i % 8)) : Nat) : Int) + limb n (i / 8) else limb n j := by
  have hp : 0 < 2 ^ (64 * j) := Nat.two_pow_pos _
  by_cases h1 : j = i / 8
  · rw [if_pos h1, ← h1]
    have e : 8 * i = 8 * (i % 8) + 64 * j := by omega
    have e1 : x * 2 ^ (8 * i) = 2 ^ (64 * j) * (x * 2 ^ (8 * (i % 8))) := by rw [e, Nat.pow_add]; rw [Nat.mul_comm (2 ^ (64 * j)), Nat.mul_assoc]
    have h2 : n / 2 ^ (64 * j) < 2 ^ (8 * (i % 8)) := by
      rw [Nat.div_lt_iff_lt_mul hp, ← Nat.pow_add, ← e]; exact hn
    have h3 : 2 ^ (8 * (i % 8)) ≤ 2 ^ 56 := Nat.pow_le_pow_right (by decide) (by omega)
    have h4 : (x + 1) * 2 ^ (8 * (i % 8)) ≤ 2 ^ 8 * 2 ^ 56 := Nat.mul_le_mul (by omega) h3
    have h5 : (2 : Nat) ^ 8 * 2 ^ 56 = 2 ^ 64 := by rw [← Nat.pow_add]
    rw [Nat.add_mul, Nat.one_mul, h5] at h4
    unfold limb
    have m1 : (n / 2 ^ (64 * j) + x * 2 ^ (8 * (i % 8))) % 2 ^ 64 = n / 2 ^ (64 * j) + x * 2 ^ (8 * (i % 8)) := Nat.mod_eq_of_lt (by omega)
    have m2 : n / 2 ^ (64 * j) % 2 ^ 64 = n / 2 ^ (64 * j) := Nat.mod_eq_of_lt (by omega)
    rw [e1, Nat.add_mul_div_left _ _ hp, m1, m2, ← Int.natCast_mul, ← Int.natCast_add, Nat.add_comm]
  · rw [if_neg h1]
    unfold limb
    rcases Nat.lt_or_ge j (i / 8) with h2 | h2
    · have e : 8 * i = (8 * i - 64 * (j + 1)) + (64 + 64 * j) := by omega
      have e1 : x * 2 ^ (8 * i) = 2 ^ (64 * j) * (2 ^ 64 * (x * 2 ^ (8 * i - 64 * (j + 1)))) := by
        rw [e, Nat.pow_add, Nat.pow_add]
        have : 8 * i - 64 * (j + 1) + (64 + 64 * j) - 64 * (j + 1) = 8 * i - 64 * (j + 1) := by omega
        rw [this]
        generalize 2 ^ (8 * i - 64 * (j + 1)) = u
        generalize (2 : Nat) ^ 64 = v
        generalize 2 ^ (64 * j) = z
        rw [Nat.mul_comm z, ← Nat.mul_assoc x u, Nat.mul_comm (x * u), Nat.mul_right_comm]
      rw [e1, Nat.add_mul_div_left _ _ hp, Nat.add_mul_mod_self_left]
    · have h3 : 8 * (i + 1) ≤ 64 * j := by omega
      have h4 : (x + 1) * 2 ^ (8 * i) ≤ 2 ^ 8 * 2 ^ (8 * i) := Nat.mul_le_mul_right _ (by omega)
      rw [← Nat.pow_add, Nat.add_mul, Nat.one_mul] at h4
      have h5 : 2 ^ (8 + 8 * i) ≤ 2 ^ (64 * j) := Nat.pow_le_pow_right (by decide) (by omega)
      rw [Nat.div_eq_of_lt (by omega), Nat.div_eq_of_lt (by omega)]
theorem limb_lowB {n i : Nat} (hi : i < 32) (hn : n < 2 ^ (8 * i)) : limb n (i / 8) < ((2 ^ (8 * (i % 8)) : Nat) : Int) := by
  unfold limb
  have hp : 0 < 2 ^ (64 * (i / 8)) := Nat.two_pow_pos _
  have h2 : n / 2 ^ (64 * (i / 8)) < 2 ^ (8 * (i % 8)) := by
    rw [Nat.div_lt_iff_lt_mul hp, ← Nat.pow_add]
    have e : 8 * (i % 8) + 64 * (i / 8) = 8 * i := by omega
    rw [e]; exact hn
  have := Nat.mod_le (n / 2 ^ (64 * (i / 8))) (2 ^ 64)
  omega
theorem wl_putB {n x i : Nat} (hi : i < 32) (hn : n < 2 ^ (8 * i)) (hx : x < 2 ^ 8) :
    (ints .u64 (wl n)).set (i / 8) (.int .u64 ((x : Int) * ((2 ^ (8 * (i % 8)) : Nat) : Int) + limb n (i / 8))) = ints .u64 (wl (n + x * 2 ^ (8 * i))) := by
  have h := limb_putB hn hx
  apply List.ext_getElem?
  intro j
  rw [List.getElem?_set]
  by_cases h4 : j < 4
  · rw [wl_at _ j h4, wl_at _ j h4, h j]
    by_cases hj : j = i / 8
    · subst hj
      rw [if_pos rfl, if_pos rfl, wl_len, if_pos h4]
    · rw [if_neg (fun e => hj e.symm), if_neg hj]
  · rw [if_neg (by omega), List.getElem?_eq_none (by rw [wl_len]; omega), List.getElem?_eq_none (by rw [wl_len]; omega)]

theorem byN_lt (n k : Nat) : byN n k < 256 := Nat.mod_lt _ (by decide)
theorem byN_next (n k : Nat) : n % 2 ^ (8 * k) + byN n k * 2 ^ (8 * k) = n % 2 ^ (8 * (k + 1)) := by
  have e : 2 ^ (8 * (k + 1)) = 2 ^ (8 * k) * 256 := by rw [Nat.mul_add, Nat.pow_add]
  rw [e, Nat.mod_mul, Nat.mul_comm (2 ^ (8 * k))]
  rfl
theorem byl_at (n u : Nat) (h : u < 32) : (ints .u8 (byl n))[u]? = some (.int .u8 ((byN n (31 - u) : Nat) : Int)) := by
  unfold byl
  rw [byP_at n 32 u h, if_pos (by omega)]
set_option maxRecDepth 20000 in
set_option maxHeartbeats 1000000 in
theorem fromBytes_any (n : Nat) (hn : n < 2 ^ 256) (w : World) :
    Calls Tryd.prog 24 #[.agg (ints .u8 (byl n)).toArray] w fun e w' => e = .returned (.agg (ints .u64 (wl n)).toArray) ∧ Below w.heap.size w w' := by
  have hz := wz_lit
  have HN := bx hn
  clear hn
  obtain ⟨wA, hwA⟩ : ∃ wA, wA = ((w.alloc (.cells (ints .u8 (byl n)).toArray 36)).alloc (.cells (ints .u64 (wl 0)).toArray 24)).alloc (.cells (ints .u64 (wl 0)).toArray 24) := ⟨_, rfl⟩
  have X0 : Bx (Has wA w.heap.size (ints .u8 (byl n))) := ⟨by rw [hwA]; exact ((Has.new w _ _).alloc _).alloc _⟩
  have X1 : Bx (Has wA (w.heap.size + 1) (ints .u64 (wl 0))) := ⟨by rw [hwA]; have := (Has.new (w.alloc (.cells (ints .u8 (byl n)).toArray 36)) (ints .u64 (wl 0)) 24).alloc (.cells (ints .u64 (wl 0)).toArray 24); rwa [alloc_size] at this⟩
  have X2 : Bx (Has wA (w.heap.size + 1 + 1) (ints .u64 (wl 0))) := ⟨by rw [hwA]; have := Has.new ((w.alloc (.cells (ints .u8 (byl n)).toArray 36)).alloc (.cells (ints .u64 (wl 0)).toArray 24)) (ints .u64 (wl 0)) 24; rwa [alloc_size, alloc_size] at this⟩
  have BA : Bx (Below w.heap.size w wA) := ⟨by rw [hwA]; exact (((Below.refl w.heap.size w).alloc (Nat.le_refl _) _).alloc (by simp) _).alloc (by simp; omega) _⟩
  have HWA := bx hwA
  clear hwA
  go_enter Tryd.func24, Tryd.ntmps24
  go_wp2_with fail
  rw [← HWA.out]
  go_loopw [5] (fun i wr => ∃ k : Nat, k ≤ 32 ∧ i = .int .i64 k ∧ Has wr w.heap.size (ints .u8 (byl n)) ∧ Has wr (w.heap.size + 1) (ints .u64 (wl 0)) ∧ Has wr (w.heap.size + 1 + 1) (ints .u64 (wl (n % 2 ^ (8 * k)))) ∧ Below w.heap.size w wr) (fun i _ => 32 - (intOf i).toNat)
  case atStart => exact ⟨0, Nat.zero_le _, rfl, X0.out, X1.out, by rw [Nat.mul_zero, Nat.pow_zero, Nat.mod_one]; exact X2.out, BA.out⟩
  case round =>
    obtain ⟨k, hk, rfl, hx0, hx1, hx2, hbel⟩ := hrel
    have Y0 := bx hx0
    have Y1 := bx hx1
    have Y2 := bx hx2
    have BY := bx hbel
    clear hx0 hx1 hx2 hbel X0 X1 X2 BA HWA
    by_cases hk32 : k < 32
    · obtain ⟨u, hu⟩ : ∃ u, k + u = 31 := ⟨31 - k, by omega⟩
      have h31 : (31 : Int) - (k : Int) = (u : Int) := by omega
      have hm : n % 2 ^ (8 * k) < 2 ^ (8 * k) := Nat.mod_lt _ (Nat.two_pow_pos _)
      have hx : byN n k < 2 ^ 8 := byN_lt n k
      have HNX := bx (byN_next n k)
      have hc1 : wr.cell? ⟨w.heap.size + 1 + 1, k / 8, none⟩ = some (.int .u64 (limb (n % 2 ^ (8 * k)) (k / 8))) := by rw [Y2.out.cell, wl_at _ (k / 8) (by omega)]
      have hc2 : wr.cell? ⟨w.heap.size, u, none⟩ = some (.int .u8 ((byN n k : Nat) : Int)) := by rw [Y0.out.cell, byl_at n u (by omega), show 31 - u = k by omega]
      have hfz : wr.frozen? ⟨w.heap.size + 1 + 1, k / 8, none⟩ = false := Y2.out.frozen _
      have hv : bits .or .u64 (limb (n % 2 ^ (8 * k)) (k / 8)) (IntKind.u64.wrap ((byN n k : Int) * 2 ^ (8 * (k % 8)))) = (byN n k : Int) * ((2 ^ (8 * (k % 8)) : Nat) : Int) + limb (n % 2 ^ (8 * k)) (k / 8) := by
        have e : (2 : Int) ^ (8 * (k % 8)) = ((2 ^ (8 * (k % 8)) : Nat) : Int) := by rw [Int.natCast_pow]; rfl
        have l0 := (limb_bd (n % 2 ^ (8 * k)) (k / 8)).1
        have l1 := limb_lowB hk32 hm
        have h3 : 2 ^ (8 * (k % 8)) ≤ 2 ^ 56 := Nat.pow_le_pow_right (by decide) (by omega)
        have h4 : (byN n k + 1) * 2 ^ (8 * (k % 8)) ≤ 2 ^ 8 * 2 ^ 56 := Nat.mul_le_mul (by omega) h3
        have h5 : (2 : Nat) ^ 8 * 2 ^ 56 = 18446744073709551616 := rfl
        rw [Nat.add_mul, Nat.one_mul, h5] at h4
        have h6 : (byN n k : Int) * ((2 ^ (8 * (k % 8)) : Nat) : Int) = ((byN n k * 2 ^ (8 * (k % 8)) : Nat) : Int) := by rw [Int.natCast_mul]
        rw [e, u64_in (by rw [h6]; omega) (by rw [h6]; omega), u64_or_comm]
        exact u64_or _ _ _ (by omega) l0 l1 (by rw [h6]; omega)
      have hs := wl_putB hk32 hm hx
      rw [HNX.out] at hs
      have hx2 : (byN n k : Int) ≤ 255 := by have := byN_lt n k; omega
      obtain ⟨l0, l1⟩ := limb_bd (n % 2 ^ (8 * k)) (k / 8)
      generalize (byN n k : Int) * ((2 ^ (8 * (k % 8)) : Nat) : Int) + limb (n % 2 ^ (8 * k)) (k / 8) = V at *
      have HS := bx hs
      clear hs hm hx HNX
      generalize byN n k = x at *
      generalize limb (n % 2 ^ (8 * k)) (k / 8) = y at *
      have hkl : (k : Int) < 32 := by omega
      have hw4 : ((ints .u64 (wl (n % 2 ^ (8 * k)))).length : Int) = 4 := rfl
      go_wp2_with fail
      go_region
      have G5 : Bx (Has (wr.setCell ⟨w.heap.size + 1 + 1, k / 8, none⟩ (.int .u64 V)).drew (w.heap.size + 1 + 1) (ints .u64 (wl (n % 2 ^ (8 * (k + 1)))))) := ⟨by have h := Y2.out.set (k / 8) (.int .u64 V); rw [HS.out] at h; exact h⟩
      have G0 : Bx (Has (wr.setCell ⟨w.heap.size + 1 + 1, k / 8, none⟩ (.int .u64 V)).drew w.heap.size (ints .u8 (byl n))) := ⟨by have h := Y0.out.grown (grown_setCell wr (w.heap.size + 1 + 1) (k / 8) (.int .u64 V)) (fun e => by injection e with e; omega); exact h⟩
      have G1 : Bx (Has (wr.setCell ⟨w.heap.size + 1 + 1, k / 8, none⟩ (.int .u64 V)).drew (w.heap.size + 1) (ints .u64 (wl 0))) := ⟨by have h := Y1.out.grown (grown_setCell wr (w.heap.size + 1 + 1) (k / 8) (.int .u64 V)) (fun e => by injection e with e; omega); exact h⟩
      have B5 : Bx (Below w.heap.size w (wr.setCell ⟨w.heap.size + 1 + 1, k / 8, none⟩ (.int .u64 V)).drew) := ⟨(BY.out.grown (grown_setCell wr (w.heap.size + 1 + 1) (k / 8) (.int .u64 V)) BY.out.size (fun k hk => by cases hk; omega)).drew⟩
      generalize (wr.setCell ⟨w.heap.size + 1 + 1, k / 8, none⟩ (.int .u64 V)).drew = w9 at *
      go_wp2
      go_roundw
      case rel => exact ⟨k + 1, by omega, by go_num, G0.out, G1.out, G5.out, B5.out⟩
      case measure => simp [intOf]; omega
    · obtain rfl : k = 32 := by omega
      have e : n % 2 ^ (8 * 32) = n := Nat.mod_eq_of_lt HN.out
      rw [e] at Y2
      clear e
      go_wp2_with (first | ((with_reducible refine wpList_loadG 24 _ rfl _ (ints .u64 (wl n)) ?_ ?_ Y2.out Tryd.underlying24 rfl ?_ ?_); rfl; rfl; exact cells_wide _) | ((with_reducible refine wpList_storeB rfl 24 _ _ rfl _ (ints .u64 (wl n)) _ ?_ ?_ Y1.out (wl_len2 _ _) Tryd.underlying24 ?_ (wl_one _) ?_); rfl; rfl; exact cells_wide _; intro w9 hw hg hz0; have U9 := bx hw; have B9 := bx (BY.out.grown hg BY.out.size (fun k hk => by cases hk; omega)); clear hw hg hz0))
      exact bodyPost_ret (results_cell (by rfl) _ (by rfl) U9.out Tryd.underlying24 rfl (cells_wide _)) rfl ⟨rfl, B9.out⟩
end Go.Proofs.YtpgpplpddjjchaaDoor
