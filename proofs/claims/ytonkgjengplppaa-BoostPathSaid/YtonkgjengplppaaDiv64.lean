/- math/bits.Div64. -/
import Derived.Test.YtonkgjengplppaaDivP
import Derived.Test.YtonkgjengplppaaBitsU
import Derived.Test.YtonkgjengplppaaCore
import Derived.Test.YtonkgjengplppaaShelf
namespace Go.Proofs.Ytonkgjengplppaa
open Go.RowKit

theorem mul64_any (x y : Int) (w : World) (hx : 0 ≤ x) (hxm : x ≤ 18446744073709551615) (hy : 0 ≤ y) (hym : y ≤ 18446744073709551615) :
    Calls Try.prog 69 #[.int .u64 x, .int .u64 y] w fun e w' => e = .returned (.tuple #[.int .u64 (x * y / 18446744073709551616), .int .u64 (x * y % 18446744073709551616)]) ∧ w = w' := by
  obtain ⟨a, rfl⟩ : ∃ a : Nat, x = (a : Int) := ⟨x.toNat, by omega⟩
  obtain ⟨b, rfl⟩ : ∃ b : Nat, y = (b : Int) := ⟨y.toNat, by omega⟩
  refine (Try.bits_Mul64 a b (by omega) (by omega) w).mono fun e w' h => ⟨?_, h.2.symm⟩
  rw [h.1, Int.natCast_ediv, Int.natCast_emod, Int.natCast_mul]
  rfl

set_option maxRecDepth 20000 in
set_option maxHeartbeats 1000000 in
theorem div64_any (hi lo y : Int) (w : World) (h0 : 0 ≤ hi) (hl : 0 ≤ lo) (hlm : lo ≤ 18446744073709551615) (hy : hi < y) (hym : y ≤ 18446744073709551615) :
    Calls Try.prog 70 #[.int .u64 hi, .int .u64 lo, .int .u64 y] w fun e w' => e = .returned (.tuple #[.int .u64 ((hi * 18446744073709551616 + lo) / y), .int .u64 ((hi * 18446744073709551616 + lo) % y)]) ∧ Below w.heap.size w w' := by
  have hy0 : ¬ y = 0 := by omega
  have hyh : ¬ y ≤ hi := by omega
  by_cases hz : hi = 0
  · subst hz
    have e1 : (0 * 18446744073709551616 + lo) = lo := by omega
    rw [e1]
    clear e1
    go_enter Try.func70, Try.ntmps70
    go_wp2
    go_quiet (fail)
    go_wp2
    go_ret2
    exact ⟨rfl, below_dN (Below.refl _ _) _⟩
  · obtain ⟨s, hs, hs63, hsl, hsu⟩ := norm_shift y (by omega) hym
    have LZ : Hid (∀ w : World, Calls Try.prog 72 #[.int .u64 y] w fun e w' => e = .returned (.int .i64 (s : Int)) ∧ w = w') := fun w =>
      (Try.bits_LeadingZeros64 y w (by omega) hym).mono fun e w' ⟨h1, h2⟩ => ⟨by rw [h1, hs], h2.symm⟩
    clear hs
    -- the numbers of the walk
    have hp : (0 : Int) < 2 ^ s := Int.pow_pos (by decide)
    have hp2 : (0 : Int) < 2 ^ (64 - s) := Int.pow_pos (by decide)
    have hpp : (2 : Int) ^ s * 2 ^ (64 - s) = 18446744073709551616 := by
      rw [← Int.pow_add]
      have : s + (64 - s) = 64 := by omega
      rw [this]; rfl
    have hsN : (2 : Int) ^ s = ((2 ^ s : Nat) : Int) := by rw [Int.natCast_pow]; rfl
    have hhiB : (hi + 1) * 2 ^ s ≤ y * 2 ^ s := Int.mul_le_mul_of_nonneg_right (by omega) (by omega)
    have hhi0 : 0 ≤ hi * 2 ^ s := Int.mul_nonneg h0 (by omega)
    have hlq0 : 0 ≤ lo / 2 ^ (64 - s) := Int.ediv_nonneg hl (by omega)
    have hlq1 : lo / 2 ^ (64 - s) < 2 ^ s := Int.ediv_lt_of_lt_mul hp2 (by rw [hpp]; omega)
    rw [Int.add_mul, Int.one_mul] at hhiB
    obtain ⟨U, hU⟩ : ∃ U, U = hi * 2 ^ s + lo / 2 ^ (64 - s) := ⟨_, rfl⟩
    have hUe : bits .or .u64 (IntKind.u64.wrap (hi * 2 ^ s)) (lo / 2 ^ (64 - s)) = U := by
      rw [u64_in hhi0 (by omega), hU]
      have := u64_or hi (lo / 2 ^ (64 - s)) s h0 hlq0 (by rw [← hsN]; exact hlq1) (by rw [← hsN]; omega)
      rw [← hsN] at this
      exact this
    obtain ⟨T, hT⟩ : ∃ T, T = lo * 2 ^ s % 18446744073709551616 := ⟨_, rfl⟩
    have hTe : IntKind.u64.wrap (lo * 2 ^ s) = T := by rw [u64_wrap, hT]
    have hT0 : 0 ≤ T := by omega
    have hT1 : T < 18446744073709551616 := by omega
    -- dividend and divisor, both shifted
    have hND : (hi * 18446744073709551616 + lo) * 2 ^ s = U * 18446744073709551616 + T := by
      have e1 : lo * 2 ^ s = 2 ^ s * (2 ^ (64 - s) * (lo / 2 ^ (64 - s)) + lo % 2 ^ (64 - s)) := by rw [Int.mul_ediv_add_emod, Int.mul_comm]
      rw [Int.mul_add, ← Int.mul_assoc, hpp] at e1
      have e2 : 0 ≤ 2 ^ s * (lo % 2 ^ (64 - s)) := Int.mul_nonneg (by omega) (Int.emod_nonneg _ (by omega))
      have e3 : 2 ^ s * (lo % 2 ^ (64 - s)) < 2 ^ s * 2 ^ (64 - s) := Int.mul_lt_mul_of_pos_left (Int.emod_lt_of_pos _ hp2) hp
      rw [hpp] at e3
      rw [Int.add_mul, Int.mul_right_comm]
      rw [e1] at hT
      generalize 2 ^ s * (lo % 2 ^ (64 - s)) = X at *
      generalize lo / 2 ^ (64 - s) = L at *
      generalize hi * 2 ^ s = Hh at *
      omega
    obtain ⟨Y, hY⟩ : ∃ Y, Y = y * 2 ^ s := ⟨_, rfl⟩
    have hYe : y * 2 ^ s = Y := hY.symm
    obtain ⟨a1, ha1⟩ : ∃ a1, a1 = Y / 4294967296 := ⟨_, rfl⟩
    obtain ⟨a0, ha0⟩ : ∃ a0, a0 = Y % 4294967296 := ⟨_, rfl⟩
    obtain ⟨b1, hb1⟩ : ∃ b1, b1 = T / 4294967296 := ⟨_, rfl⟩
    obtain ⟨b0, hb0⟩ : ∃ b0, b0 = T % 4294967296 := ⟨_, rfl⟩
    rw [hYe] at hsl hsu hhiB
    have hand1 : bits .and .u64 Y 4294967295 = a0 := by rw [u64_and32 Y (by omega) hsu, ha0]
    have hand2 : bits .and .u64 T 4294967295 = b0 := by rw [u64_and32 T hT0 hT1, hb0]
    have hA1 : 2147483648 ≤ a1 := by omega
    have hA1' : a1 < 4294967296 := by omega
    have hA0 : 0 ≤ a0 := by omega
    have hA0' : a0 < 4294967296 := by omega
    have hB1 : 0 ≤ b1 := by omega
    have hB1' : b1 < 4294967296 := by omega
    have hB0 : 0 ≤ b0 := by omega
    have hB0' : b0 < 4294967296 := by omega
    have hYa : a1 * 4294967296 + a0 = Y := by omega
    have hTb : b1 * 4294967296 + b0 = T := by omega
    have hU0 : 0 ≤ U := by omega
    have hU1 : U < a1 * 4294967296 + a0 := by omega
    have hE0 := Est.init hA1 hA1' hA0 hA0' hU0 hU1 hB1 hB1'
    have HE0 := Lib.hid hE0
    have HND := Lib.hid hND
    have HYa := Lib.hid hYa
    have HTb := Lib.hid hTb
    have HYy := Lib.hid hYe
    have hq1 : 0 ≤ U / a1 * a1 := Int.mul_nonneg (Int.ediv_nonneg hU0 (by omega)) (by omega)
    have hq2 : U / a1 * a1 ≤ U := Int.ediv_mul_le _ (by omega)
    have hqB : U / a1 ≤ 4294967297 := hE0.qB
    have hqB0 : 0 ≤ U / a1 := hE0.q0
    have hU64 : U < 18446744073709551616 := by omega
    have hY64 : Y < 18446744073709551616 := by omega
    have hY0 : 0 ≤ Y := by omega
    have ha1e : Y / 4294967296 = a1 := ha1.symm
    have hb1e : T / 4294967296 = b1 := hb1.symm
    clear hU hT hND hYa hTb hE0 hsl hsu hhiB hhi0 hlq0 hlq1 hpp hsN hp hp2 ha1 ha0 hb1 hb0 hY hT1
    go_enter Try.func70, Try.ntmps70
    go_wp2_with fail
    refine (LZ.out _).mono ?_; rintro e w' ⟨rfl, rfl⟩
    go_wp2_with fail
    clear hYe hUe hTe hand1 hand2 ha1e hb1e
    go_loop [15, 16] (fun q r => ∃ x z : Int, q = .int .u64 x ∧ r = .int .u64 z ∧ Est a1 a0 U b1 x z) (fun q _ => (intOf q).toNat)
    case atStart => exact ⟨_, _, rfl, rfl, HE0.out⟩
    case round =>
      obtain ⟨q, r, rfl, rfl, he⟩ := hrel
      have HE := Lib.hid he
      have e1 := he.r0
      have e2 := he.rB
      have e3 := he.q0
      have e4 := he.qB
      clear he hq1 hq2 hqB hqB0
      by_cases hc : 4294967296 ≤ q
      · have hp1 := Lib.hid (HE.out.pos hA1 hA1' hA0 hA0' hU0 hU1 hB1 hB1' (.inl hc))
        have hq1 : 1 ≤ q := hp1.out
        by_cases hr : r + a1 < 4294967296
        · have HN := Lib.hid (HE.out.next hA1 hA1' hA0 hA0' hU0 hU1 hB1 hB1' (.inl hc) hr hq1)
          go_wp2
          go_round
          case rel => exact ⟨_, _, rfl, rfl, HN.out⟩
          case measure => simp [intOf]; omega
        · obtain ⟨Q, hQq⟩ : ∃ Q, q - 1 = Q := ⟨_, rfl⟩
          have HF : Hid (Q = (U * 4294967296 + b1) / (a1 * 4294967296 + a0)) := by show _ = _; rw [← hQq]; exact HE.out.brk hA1 hA1' hA0 hA0' hU0 hU1 hB1 hB1' (.inl hc) (by omega)
          have hYp : 0 < Y := by have := HYa.out; omega
          have HR1 := Lib.hid (dig_rest (u := U) (un1 := b1) (y := Y) (q := Q) hYp (by rw [HF.out, HYa.out]))
          obtain ⟨V, hV⟩ : ∃ V, V = U * 4294967296 + b1 - Q * Y := ⟨_, rfl⟩
          have hVe : IntKind.u64.wrap (IntKind.u64.wrap (IntKind.u64.wrap (U * 4294967296) + b1) - IntKind.u64.wrap (Q * Y)) = V := by
            rw [dig_wrap HR1.out.1 (by have := HR1.out.2; omega), hV]
          have hV0 : 0 ≤ V := by rw [hV]; exact HR1.out.1
          have hVY : V < Y := by rw [hV]; exact HR1.out.2
          have hV1 : V < a1 * 4294967296 + a0 := by rw [HYa.out]; exact hVY
          have hQB : Q < 4294967296 := by rw [HF.out]; exact Est.lt hA1 hA1' hA0 hA0' hU0 hU1 hB1 hB1'
          have hQ0 : 0 ≤ Q := by rw [HF.out]; exact Int.ediv_nonneg (by omega) (by omega)
          have hE2 := Est.init hA1 hA1' hA0 hA0' hV0 hV1 hB0 hB0'
          have HE2 := Lib.hid hE2
          have hr1 : 0 ≤ V / a1 * a1 := Int.mul_nonneg (Int.ediv_nonneg hV0 (by omega)) (by omega)
          have hr2 : V / a1 * a1 ≤ V := Int.ediv_mul_le _ (by omega)
          have hrB : V / a1 ≤ 4294967297 := hE2.qB
          have hrB0 : 0 ≤ V / a1 := hE2.q0
          have HV := Lib.hid hV
          clear hE2 hV
          go_wp2
          clear hVe
          go_loop [18, 16] (fun q r => ∃ x z : Int, q = .int .u64 x ∧ r = .int .u64 z ∧ Est a1 a0 V b0 x z) (fun q _ => (intOf q).toNat)
          case atStart => exact ⟨_, _, rfl, rfl, HE2.out⟩
          case round =>
            obtain ⟨q2, r2, rfl, rfl, he⟩ := hrel
            have HE' := Lib.hid he
            have f1 := he.r0
            have f2 := he.rB
            have f3 := he.q0
            have f4 := he.qB
            clear he hr1 hr2 hrB hrB0
            by_cases hc2 : 4294967296 ≤ q2
            · have hq21 : 1 ≤ q2 := HE'.out.pos hA1 hA1' hA0 hA0' hV0 hV1 hB0 hB0' (.inl hc2)
              by_cases hr : r2 + a1 < 4294967296
              · have HN := Lib.hid (HE'.out.next hA1 hA1' hA0 hA0' hV0 hV1 hB0 hB0' (.inl hc2) hr hq21)
                go_wp2
                go_round
                case rel => exact ⟨_, _, rfl, rfl, HN.out⟩
                case measure => simp [intOf]; omega
              · obtain ⟨P, hPq⟩ : ∃ P, q2 - 1 = P := ⟨_, rfl⟩
                have HP : Hid (P = (V * 4294967296 + b0) / (a1 * 4294967296 + a0)) := by show _ = _; rw [← hPq]; exact HE'.out.brk hA1 hA1' hA0 hA0' hV0 hV1 hB0 hB0' (.inl hc2) (by omega)
                have HR2 := Lib.hid (dig_rest (u := V) (un1 := b0) (y := Y) (q := P) hYp (by rw [HP.out, HYa.out])); obtain ⟨R, hR⟩ : ∃ R, R = V * 4294967296 + b0 - P * Y := ⟨_, rfl⟩; have hRe : IntKind.u64.wrap (IntKind.u64.wrap (IntKind.u64.wrap (V * 4294967296) + b0) - IntKind.u64.wrap (P * Y)) = R := (by rw [dig_wrap HR2.out.1 (by have := HR2.out.2; omega), hR]); have hPB : P < 4294967296 := (by rw [HP.out]; exact Est.lt hA1 hA1' hA0 hA0' hV0 hV1 hB0 hB0'); have hP0 : 0 ≤ P := (by rw [HP.out]; exact Int.ediv_nonneg (by omega) (by omega)); have hR0 : 0 ≤ R := (by rw [hR]; exact HR2.out.1); have HRY : Hid (R < Y) := (by show _ < _; rw [hR]; exact HR2.out.2); have HRr := Lib.hid hR; clear hR; have HFIN := Lib.hid (div_fin (Int.pow_pos (by decide)) (by omega) HYy.out HND.out HTb.out HV.out HRr.out hR0 HRY.out); go_wp2; go_ret2; exact ⟨by rw [HFIN.out.1, HFIN.out.2]; rfl, Below.refl _ _⟩
            · have hm0 : 0 ≤ q2 * a0 := Int.mul_nonneg f3 hA0
              have hm1 : q2 * a0 ≤ 4294967295 * 4294967295 := Int.le_trans (Int.mul_le_mul_of_nonneg_right (show q2 ≤ 4294967295 by omega) hA0) (Int.mul_le_mul_of_nonneg_left (by omega) (by decide))
              have hm2 : q2 * a0 ≤ 18446744065119617025 := hm1
              clear hm1
              by_cases hg : q2 * a0 > 4294967296 * r2 + b0
              · have hq21 : 1 ≤ q2 := HE'.out.pos hA1 hA1' hA0 hA0' hV0 hV1 hB0 hB0' (.inr hg)
                by_cases hr : r2 + a1 < 4294967296
                · have HN := Lib.hid (HE'.out.next hA1 hA1' hA0 hA0' hV0 hV1 hB0 hB0' (.inr hg) hr hq21)
                  go_wp2
                  go_round
                  case rel => exact ⟨_, _, rfl, rfl, HN.out⟩
                  case measure => simp [intOf]; omega
                · obtain ⟨P, hPq⟩ : ∃ P, q2 - 1 = P := ⟨_, rfl⟩
                  have HP : Hid (P = (V * 4294967296 + b0) / (a1 * 4294967296 + a0)) := by show _ = _; rw [← hPq]; exact HE'.out.brk hA1 hA1' hA0 hA0' hV0 hV1 hB0 hB0' (.inr hg) (by omega)
                  have HR2 := Lib.hid (dig_rest (u := V) (un1 := b0) (y := Y) (q := P) hYp (by rw [HP.out, HYa.out])); obtain ⟨R, hR⟩ : ∃ R, R = V * 4294967296 + b0 - P * Y := ⟨_, rfl⟩; have hRe : IntKind.u64.wrap (IntKind.u64.wrap (IntKind.u64.wrap (V * 4294967296) + b0) - IntKind.u64.wrap (P * Y)) = R := (by rw [dig_wrap HR2.out.1 (by have := HR2.out.2; omega), hR]); have hPB : P < 4294967296 := (by rw [HP.out]; exact Est.lt hA1 hA1' hA0 hA0' hV0 hV1 hB0 hB0'); have hP0 : 0 ≤ P := (by rw [HP.out]; exact Int.ediv_nonneg (by omega) (by omega)); have hR0 : 0 ≤ R := (by rw [hR]; exact HR2.out.1); have HRY : Hid (R < Y) := (by show _ < _; rw [hR]; exact HR2.out.2); have HRr := Lib.hid hR; clear hR; have HFIN := Lib.hid (div_fin (Int.pow_pos (by decide)) (by omega) HYy.out HND.out HTb.out HV.out HRr.out hR0 HRY.out); go_wp2; go_ret2; exact ⟨by rw [HFIN.out.1, HFIN.out.2]; rfl, Below.refl _ _⟩
              · have HP0 := Lib.hid (HE'.out.stop hA1 hA1' hA0 hA0' hV0 hV1 hB0 hB0' (by omega))
                have HP : Hid (q2 = (V * 4294967296 + b0) / (a1 * 4294967296 + a0)) := HP0.out
                have HR2 := Lib.hid (dig_rest (u := V) (un1 := b0) (y := Y) (q := q2) hYp (by rw [HP.out, HYa.out])); obtain ⟨R, hR⟩ : ∃ R, R = V * 4294967296 + b0 - q2 * Y := ⟨_, rfl⟩; have hRe : IntKind.u64.wrap (IntKind.u64.wrap (IntKind.u64.wrap (V * 4294967296) + b0) - IntKind.u64.wrap (q2 * Y)) = R := (by rw [dig_wrap HR2.out.1 (by have := HR2.out.2; omega), hR]); have hPB : q2 < 4294967296 := (by rw [HP.out]; exact Est.lt hA1 hA1' hA0 hA0' hV0 hV1 hB0 hB0'); have hP0 : 0 ≤ q2 := (by rw [HP.out]; exact Int.ediv_nonneg (by omega) (by omega)); have hR0 : 0 ≤ R := (by rw [hR]; exact HR2.out.1); have HRY : Hid (R < Y) := (by show _ < _; rw [hR]; exact HR2.out.2); have HRr := Lib.hid hR; clear hR; have HFIN := Lib.hid (div_fin (Int.pow_pos (by decide)) (by omega) HYy.out HND.out HTb.out HV.out HRr.out hR0 HRY.out); go_wp2; go_ret2; exact ⟨by rw [HFIN.out.1, HFIN.out.2]; rfl, Below.refl _ _⟩
      · have hm0 : 0 ≤ q * a0 := Int.mul_nonneg e3 hA0
        have hm1 : q * a0 ≤ 4294967295 * 4294967295 := Int.le_trans (Int.mul_le_mul_of_nonneg_right (show q ≤ 4294967295 by omega) hA0) (Int.mul_le_mul_of_nonneg_left (by omega) (by decide))
        have hm2 : q * a0 ≤ 18446744065119617025 := hm1
        clear hm1
        by_cases hg : q * a0 > 4294967296 * r + b1
        · have hq1 : 1 ≤ q := HE.out.pos hA1 hA1' hA0 hA0' hU0 hU1 hB1 hB1' (.inr hg)
          by_cases hr : r + a1 < 4294967296
          · have HN := Lib.hid (HE.out.next hA1 hA1' hA0 hA0' hU0 hU1 hB1 hB1' (.inr hg) hr hq1)
            go_wp2
            go_round
            case rel => exact ⟨_, _, rfl, rfl, HN.out⟩
            case measure => simp [intOf]; omega
          · obtain ⟨Q, hQq⟩ : ∃ Q, q - 1 = Q := ⟨_, rfl⟩
            have HF : Hid (Q = (U * 4294967296 + b1) / (a1 * 4294967296 + a0)) := by show _ = _; rw [← hQq]; exact HE.out.brk hA1 hA1' hA0 hA0' hU0 hU1 hB1 hB1' (.inr hg) (by omega)
            have hYp : 0 < Y := by have := HYa.out; omega
            have HR1 := Lib.hid (dig_rest (u := U) (un1 := b1) (y := Y) (q := Q) hYp (by rw [HF.out, HYa.out]))
            obtain ⟨V, hV⟩ : ∃ V, V = U * 4294967296 + b1 - Q * Y := ⟨_, rfl⟩
            have hVe : IntKind.u64.wrap (IntKind.u64.wrap (IntKind.u64.wrap (U * 4294967296) + b1) - IntKind.u64.wrap (Q * Y)) = V := by
              rw [dig_wrap HR1.out.1 (by have := HR1.out.2; omega), hV]
            have hV0 : 0 ≤ V := by rw [hV]; exact HR1.out.1
            have hVY : V < Y := by rw [hV]; exact HR1.out.2
            have hV1 : V < a1 * 4294967296 + a0 := by rw [HYa.out]; exact hVY
            have hQB : Q < 4294967296 := by rw [HF.out]; exact Est.lt hA1 hA1' hA0 hA0' hU0 hU1 hB1 hB1'
            have hQ0 : 0 ≤ Q := by rw [HF.out]; exact Int.ediv_nonneg (by omega) (by omega)
            have hE2 := Est.init hA1 hA1' hA0 hA0' hV0 hV1 hB0 hB0'
            have HE2 := Lib.hid hE2
            have hr1 : 0 ≤ V / a1 * a1 := Int.mul_nonneg (Int.ediv_nonneg hV0 (by omega)) (by omega)
            have hr2 : V / a1 * a1 ≤ V := Int.ediv_mul_le _ (by omega)
            have hrB : V / a1 ≤ 4294967297 := hE2.qB
            have hrB0 : 0 ≤ V / a1 := hE2.q0
            have HV := Lib.hid hV
            clear hE2 hV
            go_wp2
            clear hVe
            go_loop [18, 16] (fun q r => ∃ x z : Int, q = .int .u64 x ∧ r = .int .u64 z ∧ Est a1 a0 V b0 x z) (fun q _ => (intOf q).toNat)
            case atStart => exact ⟨_, _, rfl, rfl, HE2.out⟩
            case round =>
              obtain ⟨q2, r2, rfl, rfl, he⟩ := hrel
              have HE' := Lib.hid he
              have f1 := he.r0
              have f2 := he.rB
              have f3 := he.q0
              have f4 := he.qB
              clear he hr1 hr2 hrB hrB0
              by_cases hc2 : 4294967296 ≤ q2
              · have hq21 : 1 ≤ q2 := HE'.out.pos hA1 hA1' hA0 hA0' hV0 hV1 hB0 hB0' (.inl hc2)
                by_cases hr : r2 + a1 < 4294967296
                · have HN := Lib.hid (HE'.out.next hA1 hA1' hA0 hA0' hV0 hV1 hB0 hB0' (.inl hc2) hr hq21)
                  go_wp2
                  go_round
                  case rel => exact ⟨_, _, rfl, rfl, HN.out⟩
                  case measure => simp [intOf]; omega
                · obtain ⟨P, hPq⟩ : ∃ P, q2 - 1 = P := ⟨_, rfl⟩
                  have HP : Hid (P = (V * 4294967296 + b0) / (a1 * 4294967296 + a0)) := by show _ = _; rw [← hPq]; exact HE'.out.brk hA1 hA1' hA0 hA0' hV0 hV1 hB0 hB0' (.inl hc2) (by omega)
                  have HR2 := Lib.hid (dig_rest (u := V) (un1 := b0) (y := Y) (q := P) hYp (by rw [HP.out, HYa.out])); obtain ⟨R, hR⟩ : ∃ R, R = V * 4294967296 + b0 - P * Y := ⟨_, rfl⟩; have hRe : IntKind.u64.wrap (IntKind.u64.wrap (IntKind.u64.wrap (V * 4294967296) + b0) - IntKind.u64.wrap (P * Y)) = R := (by rw [dig_wrap HR2.out.1 (by have := HR2.out.2; omega), hR]); have hPB : P < 4294967296 := (by rw [HP.out]; exact Est.lt hA1 hA1' hA0 hA0' hV0 hV1 hB0 hB0'); have hP0 : 0 ≤ P := (by rw [HP.out]; exact Int.ediv_nonneg (by omega) (by omega)); have hR0 : 0 ≤ R := (by rw [hR]; exact HR2.out.1); have HRY : Hid (R < Y) := (by show _ < _; rw [hR]; exact HR2.out.2); have HRr := Lib.hid hR; clear hR; have HFIN := Lib.hid (div_fin (Int.pow_pos (by decide)) (by omega) HYy.out HND.out HTb.out HV.out HRr.out hR0 HRY.out); go_wp2; go_ret2; exact ⟨by rw [HFIN.out.1, HFIN.out.2]; rfl, Below.refl _ _⟩
              · have hm0 : 0 ≤ q2 * a0 := Int.mul_nonneg f3 hA0
                have hm1 : q2 * a0 ≤ 4294967295 * 4294967295 := Int.le_trans (Int.mul_le_mul_of_nonneg_right (show q2 ≤ 4294967295 by omega) hA0) (Int.mul_le_mul_of_nonneg_left (by omega) (by decide))
                have hm2 : q2 * a0 ≤ 18446744065119617025 := hm1
                clear hm1
                by_cases hg : q2 * a0 > 4294967296 * r2 + b0
                · have hq21 : 1 ≤ q2 := HE'.out.pos hA1 hA1' hA0 hA0' hV0 hV1 hB0 hB0' (.inr hg)
                  by_cases hr : r2 + a1 < 4294967296
                  · have HN := Lib.hid (HE'.out.next hA1 hA1' hA0 hA0' hV0 hV1 hB0 hB0' (.inr hg) hr hq21)
                    go_wp2
                    go_round
                    case rel => exact ⟨_, _, rfl, rfl, HN.out⟩
                    case measure => simp [intOf]; omega
                  · obtain ⟨P, hPq⟩ : ∃ P, q2 - 1 = P := ⟨_, rfl⟩
                    have HP : Hid (P = (V * 4294967296 + b0) / (a1 * 4294967296 + a0)) := by show _ = _; rw [← hPq]; exact HE'.out.brk hA1 hA1' hA0 hA0' hV0 hV1 hB0 hB0' (.inr hg) (by omega)
                    have HR2 := Lib.hid (dig_rest (u := V) (un1 := b0) (y := Y) (q := P) hYp (by rw [HP.out, HYa.out])); obtain ⟨R, hR⟩ : ∃ R, R = V * 4294967296 + b0 - P * Y := ⟨_, rfl⟩; have hRe : IntKind.u64.wrap (IntKind.u64.wrap (IntKind.u64.wrap (V * 4294967296) + b0) - IntKind.u64.wrap (P * Y)) = R := (by rw [dig_wrap HR2.out.1 (by have := HR2.out.2; omega), hR]); have hPB : P < 4294967296 := (by rw [HP.out]; exact Est.lt hA1 hA1' hA0 hA0' hV0 hV1 hB0 hB0'); have hP0 : 0 ≤ P := (by rw [HP.out]; exact Int.ediv_nonneg (by omega) (by omega)); have hR0 : 0 ≤ R := (by rw [hR]; exact HR2.out.1); have HRY : Hid (R < Y) := (by show _ < _; rw [hR]; exact HR2.out.2); have HRr := Lib.hid hR; clear hR; have HFIN := Lib.hid (div_fin (Int.pow_pos (by decide)) (by omega) HYy.out HND.out HTb.out HV.out HRr.out hR0 HRY.out); go_wp2; go_ret2; exact ⟨by rw [HFIN.out.1, HFIN.out.2]; rfl, Below.refl _ _⟩
                · have HP0 := Lib.hid (HE'.out.stop hA1 hA1' hA0 hA0' hV0 hV1 hB0 hB0' (by omega))
                  have HP : Hid (q2 = (V * 4294967296 + b0) / (a1 * 4294967296 + a0)) := HP0.out
                  have HR2 := Lib.hid (dig_rest (u := V) (un1 := b0) (y := Y) (q := q2) hYp (by rw [HP.out, HYa.out])); obtain ⟨R, hR⟩ : ∃ R, R = V * 4294967296 + b0 - q2 * Y := ⟨_, rfl⟩; have hRe : IntKind.u64.wrap (IntKind.u64.wrap (IntKind.u64.wrap (V * 4294967296) + b0) - IntKind.u64.wrap (q2 * Y)) = R := (by rw [dig_wrap HR2.out.1 (by have := HR2.out.2; omega), hR]); have hPB : q2 < 4294967296 := (by rw [HP.out]; exact Est.lt hA1 hA1' hA0 hA0' hV0 hV1 hB0 hB0'); have hP0 : 0 ≤ q2 := (by rw [HP.out]; exact Int.ediv_nonneg (by omega) (by omega)); have hR0 : 0 ≤ R := (by rw [hR]; exact HR2.out.1); have HRY : Hid (R < Y) := (by show _ < _; rw [hR]; exact HR2.out.2); have HRr := Lib.hid hR; clear hR; have HFIN := Lib.hid (div_fin (Int.pow_pos (by decide)) (by omega) HYy.out HND.out HTb.out HV.out HRr.out hR0 HRY.out); go_wp2; go_ret2; exact ⟨by rw [HFIN.out.1, HFIN.out.2]; rfl, Below.refl _ _⟩
        · have HF := Lib.hid (HE.out.stop hA1 hA1' hA0 hA0' hU0 hU1 hB1 hB1' (by omega))
          have hYp : 0 < Y := by have := HYa.out; omega
          have HR1 := Lib.hid (dig_rest (u := U) (un1 := b1) (y := Y) (q := q) hYp (by rw [HF.out, HYa.out]))
          obtain ⟨V, hV⟩ : ∃ V, V = U * 4294967296 + b1 - q * Y := ⟨_, rfl⟩
          have hVe : IntKind.u64.wrap (IntKind.u64.wrap (IntKind.u64.wrap (U * 4294967296) + b1) - IntKind.u64.wrap (q * Y)) = V := by
            rw [dig_wrap HR1.out.1 (by have := HR1.out.2; omega), hV]
          have hV0 : 0 ≤ V := by rw [hV]; exact HR1.out.1
          have hVY : V < Y := by rw [hV]; exact HR1.out.2
          have hV1 : V < a1 * 4294967296 + a0 := by rw [HYa.out]; exact hVY
          have hQB : q < 4294967296 := by rw [HF.out]; exact Est.lt hA1 hA1' hA0 hA0' hU0 hU1 hB1 hB1'
          have hQ0 : 0 ≤ q := by rw [HF.out]; exact Int.ediv_nonneg (by omega) (by omega)
          have hE2 := Est.init hA1 hA1' hA0 hA0' hV0 hV1 hB0 hB0'
          have HE2 := Lib.hid hE2
          have hr1 : 0 ≤ V / a1 * a1 := Int.mul_nonneg (Int.ediv_nonneg hV0 (by omega)) (by omega)
          have hr2 : V / a1 * a1 ≤ V := Int.ediv_mul_le _ (by omega)
          have hrB : V / a1 ≤ 4294967297 := hE2.qB
          have hrB0 : 0 ≤ V / a1 := hE2.q0
          have HV := Lib.hid hV
          clear hE2 hV
          go_wp2
          clear hVe
          go_loop [18, 16] (fun q r => ∃ x z : Int, q = .int .u64 x ∧ r = .int .u64 z ∧ Est a1 a0 V b0 x z) (fun q _ => (intOf q).toNat)
          case atStart => exact ⟨_, _, rfl, rfl, HE2.out⟩
          case round =>
            obtain ⟨q2, r2, rfl, rfl, he⟩ := hrel
            have HE' := Lib.hid he
            have f1 := he.r0
            have f2 := he.rB
            have f3 := he.q0
            have f4 := he.qB
            clear he hr1 hr2 hrB hrB0
            by_cases hc2 : 4294967296 ≤ q2
            · have hq21 : 1 ≤ q2 := HE'.out.pos hA1 hA1' hA0 hA0' hV0 hV1 hB0 hB0' (.inl hc2)
              by_cases hr : r2 + a1 < 4294967296
              · have HN := Lib.hid (HE'.out.next hA1 hA1' hA0 hA0' hV0 hV1 hB0 hB0' (.inl hc2) hr hq21)
                go_wp2
                go_round
                case rel => exact ⟨_, _, rfl, rfl, HN.out⟩
                case measure => simp [intOf]; omega
              · obtain ⟨P, hPq⟩ : ∃ P, q2 - 1 = P := ⟨_, rfl⟩
                have HP : Hid (P = (V * 4294967296 + b0) / (a1 * 4294967296 + a0)) := by show _ = _; rw [← hPq]; exact HE'.out.brk hA1 hA1' hA0 hA0' hV0 hV1 hB0 hB0' (.inl hc2) (by omega)
                have HR2 := Lib.hid (dig_rest (u := V) (un1 := b0) (y := Y) (q := P) hYp (by rw [HP.out, HYa.out])); obtain ⟨R, hR⟩ : ∃ R, R = V * 4294967296 + b0 - P * Y := ⟨_, rfl⟩; have hRe : IntKind.u64.wrap (IntKind.u64.wrap (IntKind.u64.wrap (V * 4294967296) + b0) - IntKind.u64.wrap (P * Y)) = R := (by rw [dig_wrap HR2.out.1 (by have := HR2.out.2; omega), hR]); have hPB : P < 4294967296 := (by rw [HP.out]; exact Est.lt hA1 hA1' hA0 hA0' hV0 hV1 hB0 hB0'); have hP0 : 0 ≤ P := (by rw [HP.out]; exact Int.ediv_nonneg (by omega) (by omega)); have hR0 : 0 ≤ R := (by rw [hR]; exact HR2.out.1); have HRY : Hid (R < Y) := (by show _ < _; rw [hR]; exact HR2.out.2); have HRr := Lib.hid hR; clear hR; have HFIN := Lib.hid (div_fin (Int.pow_pos (by decide)) (by omega) HYy.out HND.out HTb.out HV.out HRr.out hR0 HRY.out); go_wp2; go_ret2; exact ⟨by rw [HFIN.out.1, HFIN.out.2]; rfl, Below.refl _ _⟩
            · have hm0 : 0 ≤ q2 * a0 := Int.mul_nonneg f3 hA0
              have hm1 : q2 * a0 ≤ 4294967295 * 4294967295 := Int.le_trans (Int.mul_le_mul_of_nonneg_right (show q2 ≤ 4294967295 by omega) hA0) (Int.mul_le_mul_of_nonneg_left (by omega) (by decide))
              have hm2 : q2 * a0 ≤ 18446744065119617025 := hm1
              clear hm1
              by_cases hg : q2 * a0 > 4294967296 * r2 + b0
              · have hq21 : 1 ≤ q2 := HE'.out.pos hA1 hA1' hA0 hA0' hV0 hV1 hB0 hB0' (.inr hg)
                by_cases hr : r2 + a1 < 4294967296
                · have HN := Lib.hid (HE'.out.next hA1 hA1' hA0 hA0' hV0 hV1 hB0 hB0' (.inr hg) hr hq21)
                  go_wp2
                  go_round
                  case rel => exact ⟨_, _, rfl, rfl, HN.out⟩
                  case measure => simp [intOf]; omega
                · obtain ⟨P, hPq⟩ : ∃ P, q2 - 1 = P := ⟨_, rfl⟩
                  have HP : Hid (P = (V * 4294967296 + b0) / (a1 * 4294967296 + a0)) := by show _ = _; rw [← hPq]; exact HE'.out.brk hA1 hA1' hA0 hA0' hV0 hV1 hB0 hB0' (.inr hg) (by omega)
                  have HR2 := Lib.hid (dig_rest (u := V) (un1 := b0) (y := Y) (q := P) hYp (by rw [HP.out, HYa.out])); obtain ⟨R, hR⟩ : ∃ R, R = V * 4294967296 + b0 - P * Y := ⟨_, rfl⟩; have hRe : IntKind.u64.wrap (IntKind.u64.wrap (IntKind.u64.wrap (V * 4294967296) + b0) - IntKind.u64.wrap (P * Y)) = R := (by rw [dig_wrap HR2.out.1 (by have := HR2.out.2; omega), hR]); have hPB : P < 4294967296 := (by rw [HP.out]; exact Est.lt hA1 hA1' hA0 hA0' hV0 hV1 hB0 hB0'); have hP0 : 0 ≤ P := (by rw [HP.out]; exact Int.ediv_nonneg (by omega) (by omega)); have hR0 : 0 ≤ R := (by rw [hR]; exact HR2.out.1); have HRY : Hid (R < Y) := (by show _ < _; rw [hR]; exact HR2.out.2); have HRr := Lib.hid hR; clear hR; have HFIN := Lib.hid (div_fin (Int.pow_pos (by decide)) (by omega) HYy.out HND.out HTb.out HV.out HRr.out hR0 HRY.out); go_wp2; go_ret2; exact ⟨by rw [HFIN.out.1, HFIN.out.2]; rfl, Below.refl _ _⟩
              · have HP0 := Lib.hid (HE'.out.stop hA1 hA1' hA0 hA0' hV0 hV1 hB0 hB0' (by omega))
                have HP : Hid (q2 = (V * 4294967296 + b0) / (a1 * 4294967296 + a0)) := HP0.out
                have HR2 := Lib.hid (dig_rest (u := V) (un1 := b0) (y := Y) (q := q2) hYp (by rw [HP.out, HYa.out])); obtain ⟨R, hR⟩ : ∃ R, R = V * 4294967296 + b0 - q2 * Y := ⟨_, rfl⟩; have hRe : IntKind.u64.wrap (IntKind.u64.wrap (IntKind.u64.wrap (V * 4294967296) + b0) - IntKind.u64.wrap (q2 * Y)) = R := (by rw [dig_wrap HR2.out.1 (by have := HR2.out.2; omega), hR]); have hPB : q2 < 4294967296 := (by rw [HP.out]; exact Est.lt hA1 hA1' hA0 hA0' hV0 hV1 hB0 hB0'); have hP0 : 0 ≤ q2 := (by rw [HP.out]; exact Int.ediv_nonneg (by omega) (by omega)); have hR0 : 0 ≤ R := (by rw [hR]; exact HR2.out.1); have HRY : Hid (R < Y) := (by show _ < _; rw [hR]; exact HR2.out.2); have HRr := Lib.hid hR; clear hR; have HFIN := Lib.hid (div_fin (Int.pow_pos (by decide)) (by omega) HYy.out HND.out HTb.out HV.out HRr.out hR0 HRY.out); go_wp2; go_ret2; exact ⟨by rw [HFIN.out.1, HFIN.out.2]; rfl, Below.refl _ _⟩
end Go.Proofs.Ytonkgjengplppaa
