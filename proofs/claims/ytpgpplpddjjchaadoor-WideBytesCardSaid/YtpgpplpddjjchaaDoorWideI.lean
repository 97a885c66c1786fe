/- Numbers of 256 bits: the reference's quotient, bit by bit. -/
import Derived.Test.YtpgpplpddjjchaaDoorWideH
namespace Go.Proofs.YtpgpplpddjjchaaDoor
open Go.RowKit

theorem qB_end (n k : Nat) : qB n k 0 = n / k ∧ rB n k 0 = n % k := by
  unfold qB rB
  rw [Nat.pow_zero, Nat.div_one, Nat.mul_one]
  exact ⟨rfl, rfl⟩
theorem qB_start {n k : Nat} (hn : n < 2 ^ 256) : qB n k 256 = 0 ∧ rB n k 256 = 0 := by
  unfold qB rB
  rw [Nat.div_eq_of_lt hn, Nat.zero_div, Nat.zero_mul, Nat.zero_mod]
  exact ⟨rfl, rfl⟩
theorem or_bit {n k i : Nat} (hi : i < 256) : bits .or .u64 (limb (qB n k (i + 1)) (i / 64)) (2 ^ (i % 64)) = limb (qB n k (i + 1)) (i / 64) + ((2 ^ (i % 64) : Nat) : Int) := by
  have hp : ∀ m : Nat, 0 < 2 ^ m := fun m => Nat.two_pow_pos m
  have p1 : 2 ^ (i + 1) = 2 ^ (64 * (i / 64)) * 2 ^ (i % 64 + 1) := by rw [← Nat.pow_add, show 64 * (i / 64) + (i % 64 + 1) = i + 1 by omega]
  have p3 : (2 : Nat) ^ 64 = 2 ^ (63 - i % 64) * 2 ^ (i % 64 + 1) := by rw [← Nat.pow_add, show 63 - i % 64 + (i % 64 + 1) = 64 by omega]
  obtain ⟨m, hm⟩ : ∃ m : Nat, limb (qB n k (i + 1)) (i / 64) = (m : Int) * ((2 ^ (i % 64 + 1) : Nat) : Int) := by
    unfold limb qB
    have d1 : n / 2 ^ (i + 1) / k * 2 ^ (i + 1) / 2 ^ (64 * (i / 64)) = n / 2 ^ (i + 1) / k * 2 ^ (i % 64 + 1) := by
      rw [p1, Nat.mul_left_comm, Nat.mul_comm, Nat.mul_div_cancel _ (hp _)]
    rw [d1, p3, Nat.mul_mod_mul_right]
    exact ⟨_, Int.natCast_mul _ _⟩
  have hb := limb_bd (qB n k (i + 1)) (i / 64)
  have hc : (2 : Int) ^ (i % 64) = ((2 ^ (i % 64) : Nat) : Int) := by rw [Int.natCast_pow]; rfl
  rw [hm] at hb ⊢
  rw [hc]
  have h2 : 2 ^ (i % 64) < 2 ^ (i % 64 + 1) := Nat.pow_lt_pow_right (by decide) (by omega)
  -- a multiple of 2^(r+1) below 2^64 leaves room for 2^r
  have hlt : (m : Int) * ((2 ^ (i % 64 + 1) : Nat) : Int) + ((2 ^ (i % 64) : Nat) : Int) < 18446744073709551616 := by
    have hm2 : m < 2 ^ (63 - i % 64) := by
      have h5 : m * 2 ^ (i % 64 + 1) < 2 ^ 64 := by
        have := hb.2
        rw [← Int.natCast_mul] at this
        have e2 : (2 : Nat) ^ 64 = 18446744073709551616 := rfl
        omega
      rw [p3] at h5
      exact Nat.lt_of_mul_lt_mul_right h5
    have h6 := Nat.mul_le_mul_right (2 ^ (i % 64 + 1)) (show m + 1 ≤ 2 ^ (63 - i % 64) from hm2)
    rw [← p3, Nat.add_mul, Nat.one_mul] at h6
    have e2 : (2 : Nat) ^ 64 = 18446744073709551616 := rfl
    rw [← Int.natCast_mul]
    omega
  exact u64_or _ _ _ (by omega) (by omega) (by omega) hlt
set_option maxRecDepth 20000 in
set_option maxHeartbeats 1000000 in
theorem refDiv_any (n k : Nat) (hn : n < 2 ^ 256) (hk : k < 18446744073709551616) (w : World) :
    Calls Tryd.prog 21 #[.agg (ints .u64 (wl n)).toArray, .int .u64 k] w (WQ n k w) := by
  have hz := wz_lit
  obtain ⟨wA, hwA⟩ : ∃ wA, wA = (w.alloc (.cells (ints .u64 (wl n)).toArray 24)).alloc (.cells (ints .u64 (wl 0)).toArray 24) := ⟨_, rfl⟩
  have X0 : Bx (Has wA w.heap.size (ints .u64 (wl n))) := ⟨by rw [hwA]; exact (Has.new w _ _).alloc _⟩
  have X2 : Bx (Has wA (w.heap.size + 1) (ints .u64 (wl 0))) := ⟨by rw [hwA]; have := Has.new (w.alloc (.cells (ints .u64 (wl n)).toArray 24)) (ints .u64 (wl 0)) 24; rwa [alloc_size] at this⟩
  have BA : Bx (Below w.heap.size w wA) := ⟨by rw [hwA]; exact ((Below.refl w.heap.size w).alloc (Nat.le_refl _) _).alloc (by simp) _⟩
  have HSZ : Bx (wA.heap.size = w.heap.size + 1 + 1) := ⟨by rw [hwA, alloc_size, alloc_size]⟩
  have HWA := bx hwA
  by_cases hk0 : k = 0
  · subst hk0
    rw [hwA] at X2 BA
    clear hwA
    have hn0 : ((0 : Nat) : Int) = 0 := rfl
    rw [hn0]
    go_enter Tryd.func21, Tryd.ntmps21
    go_wp2_with ((with_reducible refine wpList_storeB rfl 24 _ _ rfl _ (ints .u64 (wl 0)) _ ?_ ?_ X2.out (wl_len2 _ _) Tryd.underlying24 ?_ (wl_one _) ?_); rfl; rfl; exact cells_wide _; intro w9 hw hg hz0; have U9 := bx hw; have B9 := bx (BA.out.grown hg BA.out.size (fun k hk => by cases hk; omega)); clear hw hg hz0)
    exact bodyPost_ret (results_cell_tmp2 (by rfl) _ (by rfl) U9.out Tryd.underlying24 rfl (cells_wide _)) rfl ⟨rfl, B9.out⟩
  · have hkp : 0 < k := by omega
    have HQ0 := bx (qB_start (k := k) hn)
    have HKP := bx hkp
    have HE := bx (qB_end n k)
    have hk0' : ¬ (k : Int) = 0 := by omega
    have hkb : ((k : Int) == 0) = false := by simpa using hk0'
    have HK0 := bx hk0
    obtain ⟨wB, hwB⟩ : ∃ wB, wB = wA.alloc (.cells (ints .u64 (wl 0)).toArray 24) := ⟨_, rfl⟩
    have Z0 : Bx (Has wB w.heap.size (ints .u64 (wl n))) := ⟨by rw [hwB]; exact X0.out.alloc _⟩
    have Z2 : Bx (Has wB (w.heap.size + 1) (ints .u64 (wl 0))) := ⟨by rw [hwB]; exact X2.out.alloc _⟩
    have Z7 : Bx (Has wB (w.heap.size + 1 + 1) (ints .u64 (wl 0))) := ⟨by rw [hwB, ← HSZ.out]; exact Has.new _ _ _⟩
    have BZ : Bx (Below w.heap.size w wB) := ⟨by rw [hwB]; exact BA.out.alloc BA.out.size _⟩
    rw [hwA] at hwB
    have HWB := bx hwB
    clear hwA hwB hn hk0 X0 X2 BA HWA HSZ
    go_enter Tryd.func21, Tryd.ntmps21
    go_wp2_with fail
    rw [← HWB.out]
    go_loopw [8, 9] (fun q i wr => ∃ j : Nat, j ≤ 256 ∧ i = .int .i64 ((j : Int) - 1) ∧ q = .int .u64 (rB n k j) ∧ Has wr w.heap.size (ints .u64 (wl n)) ∧ Has wr (w.heap.size + 1) (ints .u64 (wl 0)) ∧ Has wr (w.heap.size + 1 + 1) (ints .u64 (wl (qB n k j))) ∧ Below w.heap.size w wr) (fun _ i _ => (intOf i + 1).toNat)
    case atStart => exact ⟨256, Nat.le_refl _, rfl, by rw [HQ0.out.2]; rfl, Z0.out, Z2.out, by rw [HQ0.out.1]; exact Z7.out, BZ.out⟩
    case round =>
      obtain ⟨j, hj, rfl, rfl, hx0, hx2, hx7, hbel⟩ := hrel
      have Y0 := bx hx0
      have Y2 := bx hx2
      have Y7 := bx hx7
      have BY := bx hbel
      clear hx0 hx2 hx7 hbel Z0 Z2 Z7 BZ HQ0
      rcases j with _ | j
      · rw [HE.out.1] at Y7
        rw [HE.out.2]
        have hneg : ((0 : Nat) : Int) - 1 = -1 := rfl
        rw [hneg]
        generalize hQ : n / k = Q at *
        generalize hR : n % k = R at *
        have HQ := bx hQ
        have HR := bx hR
        clear hQ hR
        go_wp2_with (first | ((with_reducible refine wpList_loadG 24 _ rfl _ (ints .u64 (wl Q)) ?_ ?_ Y7.out Tryd.underlying24 rfl ?_ ?_); rfl; rfl; exact cells_wide _) | ((with_reducible refine wpList_storeB rfl 24 _ _ rfl _ (ints .u64 (wl Q)) _ ?_ ?_ Y2.out (wl_len2 _ _) Tryd.underlying24 ?_ (wl_one _) ?_); rfl; rfl; exact cells_wide _; intro w9 hw hg hz0; have U9 := bx hw; have B9 := bx (BY.out.grown hg BY.out.size (fun k hk => by cases hk; omega)); clear hw hg hz0))
        exact bodyPost_ret (results_cell_tmp2 (by rfl) _ (by rfl) U9.out Tryd.underlying24 rfl (cells_wide _)) rfl ⟨by rw [if_neg HK0.out, if_neg HK0.out, if_neg HK0.out, HQ.out, HR.out]; rfl, B9.out⟩
      · have e1 : ((j + 1 : Nat) : Int) - 1 = (j : Int) := by omega
        have hj8 : j < 256 := by omega
        have hrk : rB n k (j + 1) < k := Nat.mod_lt _ HKP.out
        have hb := bN_lt n j
        have NQ := bx (qB_next n k j HKP.out)
        have NR := bx (rB_next n k j HKP.out)
        have BIT := bx (bit_any n j hj8)
        have hcell : ∀ w' : World, Below w.heap.size w w' → Has w' (w.heap.size + 1 + 1) (ints .u64 (wl (qB n k (j + 1)))) → w'.cell? ⟨w.heap.size + 1 + 1, j / 64, none⟩ = some (.int .u64 (limb (qB n k (j + 1)) (j / 64))) := fun w' _ h => by rw [h.cell, wl_at _ (j / 64) (by omega)]
        have HC := bx hcell
        have BS := bx (bit_set (n := n) (k := k) hj8)
        have OB := bx (or_bit (n := n) (k := k) hj8)
        clear hcell
        have hwb : IntKind.u64.wrap ((2 : Int) ^ (j % 64)) = 2 ^ (j % 64) := by
          have h1 : (2 : Int) ^ (j % 64) = ((2 ^ (j % 64) : Nat) : Int) := by rw [Int.natCast_pow]; rfl
          have h2 : 2 ^ (j % 64) < 2 ^ 64 := Nat.pow_lt_pow_right (by decide) (by omega)
          have e2 : (2 : Nat) ^ 64 = 18446744073709551616 := rfl
          rw [h1]
          rw [e2] at h2
          exact u64_in (Int.natCast_nonneg _) (Int.ofNat_lt.2 h2)
        have hob : bits .or .u64 (limb (qB n k (j + 1)) (j / 64)) (IntKind.u64.wrap (2 ^ (j % 64))) = limb (qB n k (j + 1)) (j / 64) + ((2 ^ (j % 64) : Nat) : Int) := by rw [hwb]; exact OB.out
        have HL4 : Bx (j / 64 < (ints .u64 (wl (qB n k (j + 1)))).length) := ⟨by rw [wl_len]; omega⟩
        have h4 : ∀ n : Nat, ((ints .u64 (wl n)).length : Int) = 4 := fun _ => rfl
        generalize hV : limb (qB n k (j + 1)) (j / 64) + ((2 ^ (j % 64) : Nat) : Int) = V at *
        clear hwb OB hV
        rw [e1]
        clear e1
        generalize hr1 : rB n k (j + 1) = r1 at *
        generalize hb1 : bN n j = b at *
        clear hr1 hb1
        obtain ⟨m, hm⟩ : ∃ m, m = r1 % 9223372036854775808 := ⟨_, rfl⟩
        obtain ⟨t, ht⟩ : ∃ t, t = m * 2 + b := ⟨_, rfl⟩
        have hwr : IntKind.u64.wrap ((r1 : Int) * 2) = ((m : Int) * 2) := by rw [u64_wrap]; omega
        have hor : bits .or .u64 ((m : Int) * 2) (b : Int) = (t : Int) := by
          have := u64_or (m : Int) (b : Int) 1 (by omega) (by omega) (by show (b : Int) < 2; omega) (by show (m : Int) * 2 + b < _; omega)
          have e2 : ((2 ^ 1 : Nat) : Int) = 2 := rfl
          rw [e2] at this
          rw [this, ht]; omega
        by_cases hge : k ≤ r1 * 2 + b
        · rw [if_pos hge] at NQ NR
          rw [Nat.one_mul] at NQ
          have hset := BS.out
          rw [← NQ.out] at hset
          have HSET := bx hset
          have hsub : IntKind.u64.wrap ((t : Int) - (k : Int)) = ((r1 * 2 + b - k : Nat) : Int) := by rw [u64_wrap]; omega
          rw [← NR.out] at hsub
          generalize hr2 : rB n k j = r2 at *
          have HR2 := bx hr2
          clear hr2 hset BS NQ NR
          by_cases hov : 9223372036854775808 ≤ r1
          · have hq1 : (r1 : Int) / 9223372036854775808 = 1 := by omega
            clear hge hm ht hov
            go_wp2_with ((with_reducible refine wpList_loadG 24 _ rfl _ (ints .u64 (wl n)) ?_ ?_ Y0.out Tryd.underlying24 rfl ?_ ?_); rfl; rfl; exact cells_wide _)
            refine (BIT.out _).mono ?_; rintro e w3 ⟨rfl, hb3⟩
            have Z0 := bx (Y0.out.below hb3 Y0.out.lt)
            have Z2 := bx (Y2.out.below hb3 Y2.out.lt)
            have Z7 := bx (Y7.out.below hb3 Y7.out.lt)
            have BZ := bx (BY.out.trans (hb3.mono BY.out.size))
            have hcl := HC.out w3 BZ.out Z7.out
            clear hb3
            go_wp2_with ((with_reducible refine wpList_storeU rfl _ _ rfl _ (j / 64) V _ ?_ ?_ Z7.out HL4.out ?_); rfl; rfl; intro w4 hw4 hg4 hz4; rw [HSET.out] at hw4; have V7 := bx hw4; have V0 := bx (Z0.out.grown hg4 (fun e => by injection e with e; omega)); have V2 := bx (Z2.out.grown hg4 (fun e => by injection e with e; omega)); have BV := bx (BZ.out.grown hg4 BZ.out.size (fun k hk => by cases hk; omega)); clear hw4 hg4 hz4)
            go_roundw
            case rel => exact ⟨j, by omega, rfl, by rw [HR2.out], V0.out, V2.out, V7.out, BV.out⟩
            case measure => simp [intOf]
          · have hq1 : (r1 : Int) / 9223372036854775808 = 0 := by omega
            have htk : (t : Int) ≥ (k : Int) := by omega
            clear hge hm ht hov
            go_wp2_with ((with_reducible refine wpList_loadG 24 _ rfl _ (ints .u64 (wl n)) ?_ ?_ Y0.out Tryd.underlying24 rfl ?_ ?_); rfl; rfl; exact cells_wide _)
            refine (BIT.out _).mono ?_; rintro e w3 ⟨rfl, hb3⟩
            have Z0 := bx (Y0.out.below hb3 Y0.out.lt)
            have Z2 := bx (Y2.out.below hb3 Y2.out.lt)
            have Z7 := bx (Y7.out.below hb3 Y7.out.lt)
            have BZ := bx (BY.out.trans (hb3.mono BY.out.size))
            have hcl := HC.out w3 BZ.out Z7.out
            clear hb3
            go_wp2_with ((with_reducible refine wpList_storeU rfl _ _ rfl _ (j / 64) V _ ?_ ?_ Z7.out HL4.out ?_); rfl; rfl; intro w4 hw4 hg4 hz4; rw [HSET.out] at hw4; have V7 := bx hw4; have V0 := bx (Z0.out.grown hg4 (fun e => by injection e with e; omega)); have V2 := bx (Z2.out.grown hg4 (fun e => by injection e with e; omega)); have BV := bx (BZ.out.grown hg4 BZ.out.size (fun k hk => by cases hk; omega)); clear hw4 hg4 hz4)
            go_roundw
            case rel => exact ⟨j, by omega, rfl, by rw [HR2.out], V0.out, V2.out, V7.out, BV.out⟩
            case measure => simp [intOf]
        · rw [if_neg hge] at NQ NR
          rw [Nat.zero_mul, Nat.add_zero] at NQ
          have hq1 : (r1 : Int) / 9223372036854775808 = 0 := by omega
          have htk : ¬ (t : Int) ≥ (k : Int) := by omega
          have htr : t = r1 * 2 + b := by omega
          rw [← htr] at NR
          have Y7' := Y7
          rw [← NQ.out] at Y7'
          clear hge hm ht htr NQ BS Y7 HC
          go_wp2_with ((with_reducible refine wpList_loadG 24 _ rfl _ (ints .u64 (wl n)) ?_ ?_ Y0.out Tryd.underlying24 rfl ?_ ?_); rfl; rfl; exact cells_wide _)
          refine (BIT.out _).mono ?_; rintro e w3 ⟨rfl, hb3⟩
          have Z0 := bx (Y0.out.below hb3 Y0.out.lt)
          have Z2 := bx (Y2.out.below hb3 Y2.out.lt)
          have Z7 := bx (Y7'.out.below hb3 Y7'.out.lt)
          have BZ := bx (BY.out.trans (hb3.mono BY.out.size))
          clear hb3
          go_wp2_with fail
          go_roundw
          case rel => exact ⟨j, by omega, rfl, by rw [NR.out], Z0.out, Z2.out, Z7.out, BZ.out⟩
          case measure => simp [intOf]
end Go.Proofs.YtpgpplpddjjchaaDoor
