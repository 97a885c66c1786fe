/- Numbers of 256 bits: the reference's product with a half limb, and the sum. -/
import Derived.Test.YtpgpplpddjjchaaDoorWideV
namespace Go.Proofs.YtpgpplpddjjchaaDoor
open Go.RowKit

def hN (n i : Nat) : Nat := n / 2 ^ (32 * i) % 2 ^ 32
theorem hlf_eq (n i : Nat) : hlf n i = (hN n i : Int) := rfl
theorem hN_lt (n i : Nat) : hN n i < 4294967296 := Nat.mod_lt _ (by decide)
theorem mod_next (n i : Nat) : n % 2 ^ (32 * (i + 1)) = n % 2 ^ (32 * i) + hN n i * 2 ^ (32 * i) := by
  have e : 32 * (i + 1) = 32 * i + 32 := by omega
  rw [e, Nat.pow_add, Nat.mod_mul, Nat.mul_comm (2 ^ (32 * i)) (n / 2 ^ (32 * i) % 2 ^ 32)]
  rfl
/-- a sum of parts, cut at half limb i: s below, c above -/
def Cut (m s c i : Nat) : Prop := s < 2 ^ (32 * i) ∧ m = s + c * 2 ^ (32 * i)
theorem Cut.next {m s c i x : Nat} (h : Cut m s c i) : Cut (m + x * 2 ^ (32 * i)) (s + (c + x) % 4294967296 * 2 ^ (32 * i)) ((c + x) / 4294967296) (i + 1) := by
  obtain ⟨h1, h2⟩ := h
  have e : 32 * (i + 1) = 32 + 32 * i := by omega
  have e2 : (2 : Nat) ^ 32 = 4294967296 := rfl
  unfold Cut
  rw [e, Nat.pow_add, e2]
  generalize 2 ^ (32 * i) = D at *
  have h3 : (c + x) % 4294967296 < 4294967296 := Nat.mod_lt _ (by decide)
  have h4 : c + x = (c + x) % 4294967296 + 4294967296 * ((c + x) / 4294967296) := (Nat.mod_add_div _ _).symm
  refine ⟨?_, ?_⟩
  · have : ((c + x) % 4294967296 + 1) * D ≤ 4294967296 * D := Nat.mul_le_mul_right _ (by omega)
    rw [Nat.add_mul, Nat.one_mul] at this
    omega
  · have h5 : (c + x) * D = (c + x) % 4294967296 * D + (c + x) / 4294967296 * (4294967296 * D) := by
      rw [← Nat.mul_assoc, Nat.mul_comm _ 4294967296, ← Nat.add_mul, ← h4]
    rw [Nat.add_mul] at h5
    omega
theorem Cut.eq {m s c i : Nat} (h : Cut m s c i) : s = m % 2 ^ (32 * i) ∧ c = m / 2 ^ (32 * i) := by
  obtain ⟨h1, h2⟩ := h
  have hp : 0 < 2 ^ (32 * i) := Nat.two_pow_pos _
  rw [h2]
  constructor
  · rw [Nat.add_mul_mod_self_right, Nat.mod_eq_of_lt h1]
  · rw [Nat.add_mul_div_right _ _ hp, Nat.div_eq_of_lt h1, Nat.zero_add]
theorem Cut.top {m s c i b : Nat} (h : Cut m s c i) (hm : m < b * 2 ^ (32 * i)) : c < b := by
  rw [h.eq.2]
  exact (Nat.div_lt_iff_lt_mul (Nat.two_pow_pos _)).2 hm
/-- the lower part of the product -/
theorem mulLow_lt (n k c i : Nat) (hk : k < 4294967296) (hc : c < 4294967296) : n % 2 ^ (32 * i) * k + c < 4294967296 * 2 ^ (32 * i) := by
  have hp := Nat.mod_lt n (Nat.two_pow_pos (32 * i))
  generalize 2 ^ (32 * i) = D at *
  have h1 : n % D * k ≤ (D - 1) * 4294967295 := Nat.mul_le_mul (by omega) (by omega)
  rw [Nat.sub_mul, Nat.one_mul] at h1
  have h2 : 1 * 4294967295 ≤ D * 4294967295 := Nat.mul_le_mul_right _ (by omega)
  omega
theorem mulLow_next (n k c i : Nat) : n % 2 ^ (32 * (i + 1)) * k + c = n % 2 ^ (32 * i) * k + c + hN n i * k * 2 ^ (32 * i) := by
  rw [mod_next, Nat.add_mul, Nat.mul_right_comm]
  omega

def WB (m : Nat) (b : Bool) (w : World) (e : Ending) (w' : World) : Prop := e = .returned (.tuple #[.agg (ints .u64 (wl m)).toArray, .bool b]) ∧ Below w.heap.size w w'
theorem cells_wide' : Tryd.prog.cellsOf 24 = 4 := by kernel_rfl

set_option maxRecDepth 20000 in
set_option maxHeartbeats 1000000 in
theorem mulAdd_any (n k c : Nat) (hn : n < 2 ^ 256) (hk : k < 4294967296) (hc : c < 4294967296) (w : World) :
    Calls Tryd.prog 39 #[.agg (ints .u64 (wl n)).toArray, .int .u64 k, .int .u64 c] w (WB ((n * k + c) % 2 ^ 256) (decide ((n * k + c) / 2 ^ 256 = 0)) w) := by
  have hz := wz_lit
  have HN := Lib.hid hn
  have HC0 : Hid (Cut (n % 2 ^ (32 * 0) * k + c) 0 c 0) := ⟨by simp, by simp [Nat.mod_one]⟩
  have HALF := Lib.hid (half_any n)
  obtain ⟨wA, hwA⟩ : ∃ wA, wA = ((w.alloc (.cells (ints .u64 (wl n)).toArray 24)).alloc (.cells (ints .u64 (wl 0)).toArray 24)).alloc (.cells (ints .u64 (wl 0)).toArray 24) := ⟨_, rfl⟩
  have X0 : Hid (Has wA w.heap.size (ints .u64 (wl n))) := by show Has _ _ _; rw [hwA]; exact ((Has.new w _ _).alloc _).alloc _
  have X1 : Hid (Has wA (w.heap.size + 1) (ints .u64 (wl 0))) := by show Has _ _ _; rw [hwA]; have := (Has.new (w.alloc (.cells (ints .u64 (wl n)).toArray 24)) (ints .u64 (wl 0)) 24).alloc (.cells (ints .u64 (wl 0)).toArray 24); rwa [alloc_size] at this
  have X2 : Hid (Has wA (w.heap.size + 1 + 1) (ints .u64 (wl 0))) := by show Has _ _ _; rw [hwA]; have := Has.new ((w.alloc (.cells (ints .u64 (wl n)).toArray 24)).alloc (.cells (ints .u64 (wl 0)).toArray 24)) (ints .u64 (wl 0)) 24; rwa [alloc_size, alloc_size] at this
  have BA : Hid (Below w.heap.size w wA) := by show Below _ _ _; rw [hwA]; exact (((Below.refl w.heap.size w).alloc (Nat.le_refl _) _).alloc (by simp) _).alloc (by simp; omega) _
  have HWA := Lib.hid hwA
  clear hwA hn
  go_enter Tryd.func39, Tryd.ntmps39
  go_wp2_with fail
  rw [← HWA.out]
  go_loopw [2, 9] (fun q i wr => ∃ j s cc : Nat, j ≤ 8 ∧ i = .int .i64 j ∧ q = .int .u64 cc ∧ Cut (n % 2 ^ (32 * j) * k + c) s cc j ∧ Has wr w.heap.size (ints .u64 (wl n)) ∧ Has wr (w.heap.size + 1) (ints .u64 (wl 0)) ∧ Has wr (w.heap.size + 1 + 1) (ints .u64 (wl s)) ∧ Below w.heap.size w wr) (fun _ i _ => 8 - (intOf i).toNat)
  case atStart => exact ⟨0, 0, c, Nat.zero_le _, rfl, rfl, HC0.out, X0.out, X1.out, X2.out, BA.out⟩
  case round =>
    obtain ⟨j, s, cc, hj, rfl, rfl, hcut, hx0, hx1, hx2, hbel⟩ := hrel
    have Y0 := Lib.hid hx0
    have Y1 := Lib.hid hx1
    have Y2 := Lib.hid hx2
    have BY := Lib.hid hbel
    have CUT := Lib.hid hcut
    clear hx0 hx1 hx2 hbel hcut X0 X1 X2 BA HWA
    by_cases hj8 : j < 8
    · have hcc : cc < 4294967296 := CUT.out.top (mulLow_lt n k c j hk hc)
      have hh := hN_lt n j
      have hp1 : hN n j * k ≤ 18446744065119617025 := Nat.le_trans (Nat.mul_le_mul (show hN n j ≤ 4294967295 by omega) (show k ≤ 4294967295 by omega)) (by decide)
      have NXT := Lib.hid (CUT.out.next (x := hN n j * k))
      rw [← mulLow_next] at NXT
      have hpi : (hN n j : Int) * (k : Int) = ((hN n j * k : Nat) : Int) := (Int.natCast_mul _ _).symm
      obtain ⟨t, ht⟩ : ∃ t, t = cc + hN n j * k := ⟨_, rfl⟩
      rw [← ht] at NXT
      have hsum : (cc : Int) + ((hN n j * k : Nat) : Int) = (t : Int) := by rw [ht, Int.natCast_add]
      have ht64 : t ≤ 18446744073709551615 := by omega
      obtain ⟨lo, hlo⟩ : ∃ lo, lo = t % 4294967296 := ⟨_, rfl⟩
      obtain ⟨up, hup⟩ : ∃ up, up = t / 4294967296 := ⟨_, rfl⟩
      rw [← hlo, ← hup] at NXT
      have hand : bits .and .u64 (t : Int) 4294967295 = (lo : Int) := by rw [u64_and32 _ (by omega) (by omega), hlo]; rfl
      have hshr : (t : Int) / 4294967296 = (up : Int) := by rw [hup]; rfl
      have hlt : lo < 2 ^ 32 := by rw [hlo]; exact Nat.mod_lt _ (by decide)
      have HLT := Lib.hid hlt
      have HS1 := Lib.hid CUT.out.1
      have HE := Lib.hid (hlf_eq n j)
      clear hlt hlo hup ht
      generalize hN n j * k = pr at *
      generalize hN n j = hh1 at *
      go_wp2_with ((with_reducible refine wpList_loadB rfl 24 _ rfl _ (ints .u64 (wl n)) ?_ Y0.out Tryd.underlying24 rfl ?_ ?_); rfl; exact cells_wide _)
      refine (HALF.out j hj8 _).mono ?_; rintro e w1 ⟨rfl, hb1⟩
      rw [HE.out]
      have Z0 := Lib.hid (Y0.out.below hb1 Y0.out.lt)
      have Z1 := Lib.hid (Y1.out.below hb1 Y1.out.lt)
      have Z2 := Lib.hid (Y2.out.below hb1 Y2.out.lt)
      have BZ := Lib.hid (BY.out.trans (hb1.mono BY.out.size))
      clear hb1
      go_wp2_with ((with_reducible refine wpList_loadB rfl 24 _ rfl _ (ints .u64 (wl s)) ?_ Z2.out Tryd.underlying24 rfl ?_ ?_); rfl; exact cells_wide _)
      refine (put_any s lo j hj8 HS1.out HLT.out _).mono ?_; rintro e w2 ⟨rfl, hb2⟩
      have V0 := Lib.hid (Z0.out.below hb2 Z0.out.lt)
      have V1 := Lib.hid (Z1.out.below hb2 Z1.out.lt)
      have V2 := Lib.hid (Z2.out.below hb2 Z2.out.lt)
      have BV := Lib.hid (BZ.out.trans (hb2.mono BZ.out.size))
      clear hb2
      generalize s + lo * 2 ^ (32 * j) = s2 at *
      go_wp2_with ((with_reducible refine wpList_storeB rfl 24 _ _ rfl _ (ints .u64 (wl s2)) _ ?_ ?_ V2.out rfl Tryd.underlying24 ?_ (wl_one _) ?_); rfl; rfl; exact cells_wide _; intro w3 hw3 hg3 hz3; have U2 := Lib.hid hw3; have U0 := Lib.hid (V0.out.grown hg3 (fun e => by injection e with e; omega)); have U1 := Lib.hid (V1.out.grown hg3 (fun e => by injection e with e; omega)); have BU := Lib.hid (BV.out.grown hg3 BV.out.size (fun k hk => by cases hk; omega)); clear hw3 hg3 hz3)
      go_roundw
      case rel => exact ⟨j + 1, s2, up, by omega, by go_num, rfl, NXT.out, U0.out, U1.out, U2.out, BU.out⟩
      case measure => simp [intOf]; omega
    · obtain rfl : j = 8 := by omega
      have hfin := CUT.out.eq
      have e8 : 32 * 8 = 256 := rfl
      rw [e8, Nat.mod_eq_of_lt HN.out] at hfin
      have HF := Lib.hid hfin
      have HCC : Hid (((cc : Int) == 0) = decide ((n * k + c) / 2 ^ 256 = 0)) := by
        show _ = _
        rw [← hfin.2, Bool.eq_iff_iff]; simp
      clear hfin e8
      go_wp2_with (first | ((with_reducible refine wpList_loadB rfl 24 _ rfl _ (ints .u64 (wl s)) ?_ Y2.out Tryd.underlying24 rfl ?_ ?_); rfl; exact cells_wide _) | ((with_reducible refine wpList_storeB rfl 24 _ _ rfl _ (ints .u64 (wl s)) _ ?_ ?_ Y1.out rfl Tryd.underlying24 ?_ (wl_one _) ?_); rfl; rfl; exact cells_wide _; intro w3 hw3 hg3 hz3; have U1 := Lib.hid hw3; have BU := Lib.hid (BY.out.grown hg3 BY.out.size (fun k hk => by cases hk; omega)); clear hw3 hg3 hz3))
      exact bodyPost_ret (results_cell_tmp (by rfl) _ (by rfl) U1.out Tryd.underlying24 rfl (cells_wide _)) rfl ⟨by rw [← HF.out.1, ← HCC.out]; rfl, BU.out⟩

theorem Has.cls {w : World} {g : Nat} {cs : List Value} (h : Has w g cs) : ∀ w', Cls w.heap.size w w' → Has w' g cs := fun _ hw => h.below hw.out h.lt
theorem addLow_lt (n m i : Nat) : n % 2 ^ (32 * i) + m % 2 ^ (32 * i) < 2 * 2 ^ (32 * i) := by
  have h1 := Nat.mod_lt n (Nat.two_pow_pos (32 * i))
  have h2 := Nat.mod_lt m (Nat.two_pow_pos (32 * i))
  omega
theorem addLow_next (n m i : Nat) : n % 2 ^ (32 * (i + 1)) + m % 2 ^ (32 * (i + 1)) = n % 2 ^ (32 * i) + m % 2 ^ (32 * i) + (hN n i + hN m i) * 2 ^ (32 * i) := by
  rw [mod_next, mod_next, Nat.add_mul]
  omega
/-- a sum, or the error -/
def okW (m : Nat) : Nat := if m < 2 ^ 256 then m else 0
def erW (m : Nat) : Int := if m < 2 ^ 256 then 0 else 4
def WE (m : Nat) (w : World) (e : Ending) (w' : World) : Prop := e = .returned (.tuple #[.agg (ints .u64 (wl (okW m))).toArray, .int .i64 (erW m)]) ∧ Below w.heap.size w w'

set_option maxRecDepth 20000 in
set_option maxHeartbeats 1000000 in
theorem addWide_any (n m : Nat) (hn : n < 2 ^ 256) (hm : m < 2 ^ 256) (w : World) :
    Calls Tryd.prog 11 #[.agg (ints .u64 (wl n)).toArray, .agg (ints .u64 (wl m)).toArray] w (WE (n + m) w) := by
  have hz := wz_lit
  have HN := Lib.hid hn
  have HM := Lib.hid hm
  have HC0 : Hid (Cut (n % 2 ^ (32 * 0) + m % 2 ^ (32 * 0)) 0 0 0) := ⟨by simp, by simp [Nat.mod_one]⟩
  have HALF := Lib.hid (half_any n)
  have HALM := Lib.hid (half_any m)
  obtain ⟨wA, hwA⟩ : ∃ wA, wA = (((w.alloc (.cells (ints .u64 (wl n)).toArray 24)).alloc (.cells (ints .u64 (wl m)).toArray 24)).alloc (.cells (ints .u64 (wl 0)).toArray 24)).alloc (.cells (ints .u64 (wl 0)).toArray 24) := ⟨_, rfl⟩
  have X0 : Hid (Has wA w.heap.size (ints .u64 (wl n))) := by show Has _ _ _; rw [hwA]; exact (((Has.new w _ _).alloc _).alloc _).alloc _
  have X1 : Hid (Has wA (w.heap.size + 1) (ints .u64 (wl m))) := by show Has _ _ _; rw [hwA]; have := ((Has.new (w.alloc (.cells (ints .u64 (wl n)).toArray 24)) (ints .u64 (wl m)) 24).alloc (.cells (ints .u64 (wl 0)).toArray 24)).alloc (.cells (ints .u64 (wl 0)).toArray 24); rwa [alloc_size] at this
  have X2 : Hid (Has wA (w.heap.size + 1 + 1) (ints .u64 (wl 0))) := by show Has _ _ _; rw [hwA]; have := (Has.new ((w.alloc (.cells (ints .u64 (wl n)).toArray 24)).alloc (.cells (ints .u64 (wl m)).toArray 24)) (ints .u64 (wl 0)) 24).alloc (.cells (ints .u64 (wl 0)).toArray 24); rwa [alloc_size, alloc_size] at this
  have X3 : Hid (Has wA (w.heap.size + 1 + 1 + 1) (ints .u64 (wl 0))) := by show Has _ _ _; rw [hwA]; have := Has.new (((w.alloc (.cells (ints .u64 (wl n)).toArray 24)).alloc (.cells (ints .u64 (wl m)).toArray 24)).alloc (.cells (ints .u64 (wl 0)).toArray 24)) (ints .u64 (wl 0)) 24; rwa [alloc_size, alloc_size, alloc_size] at this
  have BA : Hid (Below w.heap.size w wA) := by show Below _ _ _; rw [hwA]; exact ((((Below.refl w.heap.size w).alloc (Nat.le_refl _) _).alloc (by simp) _).alloc (by simp; omega) _).alloc (by simp; omega) _
  have HWA := Lib.hid hwA
  clear hwA hn hm
  go_enter Tryd.func11, Tryd.ntmps11
  go_wp2_with fail
  rw [← HWA.out]
  go_loopw [7, 8] (fun q i wr => ∃ j s cc : Nat, j ≤ 8 ∧ i = .int .i64 j ∧ q = .int .u64 cc ∧ Cut (n % 2 ^ (32 * j) + m % 2 ^ (32 * j)) s cc j ∧ Has wr w.heap.size (ints .u64 (wl n)) ∧ Has wr (w.heap.size + 1) (ints .u64 (wl m)) ∧ Has wr (w.heap.size + 1 + 1) (ints .u64 (wl 0)) ∧ Has wr (w.heap.size + 1 + 1 + 1) (ints .u64 (wl s)) ∧ Below w.heap.size w wr) (fun _ i _ => 8 - (intOf i).toNat)
  case atStart => exact ⟨0, 0, 0, Nat.zero_le _, rfl, rfl, HC0.out, X0.out, X1.out, X2.out, X3.out, BA.out⟩
  case round =>
    obtain ⟨j, s, cc, hj, rfl, rfl, hcut, hx0, hx1, hx2, hx3, hbel⟩ := hrel
    have Y0 := Lib.hid hx0
    have Y1 := Lib.hid hx1
    have Y2 := Lib.hid hx2
    have Y3 := Lib.hid hx3
    have BY := Lib.hid hbel
    have CUT := Lib.hid hcut
    clear hx0 hx1 hx2 hx3 hbel hcut X0 X1 X2 X3 BA HWA
    by_cases hj8 : j < 8
    · have hcc : cc < 2 := CUT.out.top (addLow_lt n m j)
      have hh1 := hN_lt n j
      have hh2 := hN_lt m j
      have NXT := Lib.hid (CUT.out.next (x := hN n j + hN m j))
      rw [← addLow_next] at NXT
      have HE1 := Lib.hid (hlf_eq n j)
      have HE2 := Lib.hid (hlf_eq m j)
      generalize hN n j = a1 at *
      generalize hN m j = a2 at *
      obtain ⟨t, ht⟩ : ∃ t, t = cc + (a1 + a2) := ⟨_, rfl⟩
      rw [← ht] at NXT
      have hsum : (cc : Int) + (a1 : Int) + (a2 : Int) = (t : Int) := by omega
      have ht64 : t ≤ 18446744073709551615 := by omega
      obtain ⟨lo, hlo⟩ : ∃ lo, lo = t % 4294967296 := ⟨_, rfl⟩
      obtain ⟨up, hup⟩ : ∃ up, up = t / 4294967296 := ⟨_, rfl⟩
      rw [← hlo, ← hup] at NXT
      have hand : bits .and .u64 (t : Int) 4294967295 = (lo : Int) := by rw [u64_and32 _ (by omega) (by omega), hlo]; rfl
      have hshr : (t : Int) / 4294967296 = (up : Int) := by rw [hup]; rfl
      have hlt : lo < 2 ^ 32 := by rw [hlo]; exact Nat.mod_lt _ (by decide)
      have HLT := Lib.hid hlt
      have HS1 := Lib.hid CUT.out.1
      clear hlt hlo hup ht
      have C0 := Lib.hid (Has.cls (w := wr.drew) Y0.out)
      have C1 := Lib.hid (Has.cls (w := wr.drew) Y1.out)
      go_wp2_with fail
      refine wp_region_mix 9 [([0, 1, 2, 5, 6], 3), ([4], 7)] [8] (by kernel_rfl) (by kernel_rfl) ?_
      simp only [MixG, pickOps, List.map_cons, List.map_nil, List.getD_cons_zero, List.getD_cons_succ, List.drop_succ_cons, List.drop_zero]
      repeat (first | go_big_quiet_skip | (go_big_quiet_want; first | (first | ((with_reducible refine quiet_loadC 24 _ rfl _ (ints .u64 (wl n)) ?_ C0.out Tryd.underlying24 rfl ?_ ?_); rfl; exact cells_wide _; go_big_quiet_on; (simp only [Act.put, List.setIfInBounds_toArray, List.set_cons_succ, List.set_cons_zero])) | ((with_reducible refine quiet_loadC 24 _ rfl _ (ints .u64 (wl m)) ?_ C1.out Tryd.underlying24 rfl ?_ ?_); rfl; exact cells_wide _; go_big_quiet_on; (simp only [Act.put, List.setIfInBounds_toArray, List.set_cons_succ, List.set_cons_zero]))) | (go_big_quiet_op; first | go_big_quiet_on | ((with_reducible refine ⟨_, fun _ _ => rfl, ?_⟩); go_big_quiet_on))))
      refine wpQuiet_nil ?_
      refine mix_call (HALF.out j hj8 _) Tryd.func35 rfl rfl _ _ rfl rfl rfl ?_
      rintro e w1 ⟨rfl, hb1⟩
      refine ⟨_, rfl, hb1, ?_⟩
      rw [HE1.out]
      have Z0 := Lib.hid ((show Has wr.drew _ _ from Y0.out).below hb1 Y0.out.lt)
      have Z1 := Lib.hid ((show Has wr.drew _ _ from Y1.out).below hb1 Y1.out.lt)
      have Z2 := Lib.hid ((show Has wr.drew _ _ from Y2.out).below hb1 Y2.out.lt)
      have Z3 := Lib.hid ((show Has wr.drew _ _ from Y3.out).below hb1 Y3.out.lt)
      have BZ := Lib.hid (BY.out.drew.trans (hb1.mono BY.out.size))
      clear hb1
      simp only [Act.put, List.setIfInBounds_toArray, List.set_cons_succ, List.set_cons_zero]
      repeat (first | go_big_quiet_skip | (go_big_quiet_want; first | fail | (go_big_quiet_op; first | go_big_quiet_on | ((with_reducible refine ⟨_, fun _ _ => rfl, ?_⟩); go_big_quiet_on))))
      refine wpQuiet_nil ?_
      refine mix_call (HALM.out j hj8 _) Tryd.func35 rfl rfl _ _ rfl rfl rfl ?_
      rintro e w2 ⟨rfl, hb2⟩
      refine ⟨_, rfl, hb2, ?_⟩
      rw [HE2.out]
      have V0 := Lib.hid (Z0.out.below hb2 Z0.out.lt)
      have V1 := Lib.hid (Z1.out.below hb2 Z1.out.lt)
      have V2 := Lib.hid (Z2.out.below hb2 Z2.out.lt)
      have V3 := Lib.hid (Z3.out.below hb2 Z3.out.lt)
      have BV := Lib.hid (BZ.out.trans (hb2.mono BZ.out.size))
      clear hb2
      simp only [Act.put, List.setIfInBounds_toArray, List.set_cons_succ, List.set_cons_zero]
      repeat (first | go_big_quiet_skip | (go_big_quiet_want; first | fail | (go_big_quiet_op; first | go_big_quiet_on | ((with_reducible refine ⟨_, fun _ _ => rfl, ?_⟩); go_big_quiet_on))))
      refine wpQuiet_nil ?_
      go_wp2_with fail
      refine NoPanic.normal ?_
      go_wp2_with ((with_reducible refine wpList_loadB rfl 24 _ rfl _ (ints .u64 (wl s)) ?_ V3.out Tryd.underlying24 rfl ?_ ?_); rfl; exact cells_wide _)
      refine (put_any s lo j hj8 HS1.out HLT.out _).mono ?_; rintro e w3 ⟨rfl, hb3⟩
      have U0 := Lib.hid (V0.out.below hb3 V0.out.lt)
      have U1 := Lib.hid (V1.out.below hb3 V1.out.lt)
      have U2 := Lib.hid (V2.out.below hb3 V2.out.lt)
      have U3 := Lib.hid (V3.out.below hb3 V3.out.lt)
      have BU := Lib.hid (BV.out.trans (hb3.mono BV.out.size))
      clear hb3
      generalize s + lo * 2 ^ (32 * j) = s2 at *
      go_wp2_with ((with_reducible refine wpList_storeB rfl 24 _ _ rfl _ (ints .u64 (wl s2)) _ ?_ ?_ U3.out rfl Tryd.underlying24 ?_ (wl_one _) ?_); rfl; rfl; exact cells_wide _; intro w4 hw4 hg4 hz4; have T3 := Lib.hid hw4; have T0 := Lib.hid (U0.out.grown hg4 (fun e => by injection e with e; omega)); have T1 := Lib.hid (U1.out.grown hg4 (fun e => by injection e with e; omega)); have T2 := Lib.hid (U2.out.grown hg4 (fun e => by injection e with e; omega)); have BT := Lib.hid (BU.out.grown hg4 BU.out.size (fun k hk => by cases hk; omega)); clear hw4 hg4 hz4)
      go_roundw
      case rel => exact ⟨j + 1, s2, up, by omega, by go_num, rfl, NXT.out, T0.out, T1.out, T2.out, T3.out, BT.out⟩
      case measure => simp [intOf]; omega
    · obtain rfl : j = 8 := by omega
      have hfin := CUT.out.eq
      have e8 : 32 * 8 = 256 := rfl
      rw [e8, Nat.mod_eq_of_lt HN.out, Nat.mod_eq_of_lt HM.out] at hfin
      by_cases hc0 : cc = 0
      · have hlt : n + m < 2 ^ 256 := by
          rcases Nat.lt_or_ge (n + m) (2 ^ 256) with h | h
          · exact h
          · have := Nat.div_pos h (Nat.two_pow_pos 256)
            omega
        have HF : Hid (okW (n + m) = s ∧ erW (n + m) = 0) := by
          have e1 : s = n + m := by rw [hfin.1, Nat.mod_eq_of_lt hlt]
          exact ⟨by rw [e1, okW, if_pos hlt], by rw [erW, if_pos hlt]⟩
        subst hc0
        clear hfin e8 hlt
        go_wp2_with (first | ((with_reducible refine wpList_loadB rfl 24 _ rfl _ (ints .u64 (wl s)) ?_ Y3.out Tryd.underlying24 rfl ?_ ?_); rfl; exact cells_wide _) | ((with_reducible refine wpList_storeB rfl 24 _ _ rfl _ (ints .u64 (wl s)) _ ?_ ?_ Y2.out rfl Tryd.underlying24 ?_ (wl_one _) ?_); rfl; rfl; exact cells_wide _; intro w3 hw3 hg3 hz3; have U1 := Lib.hid hw3; have BU := Lib.hid (BY.out.grown hg3 BY.out.size (fun k hk => by cases hk; omega)); clear hw3 hg3 hz3))
        exact bodyPost_ret (results_cell_tmp (by rfl) _ (by rfl) U1.out Tryd.underlying24 rfl (cells_wide _)) rfl ⟨by rw [HF.out.1, HF.out.2]; rfl, BU.out⟩
      · have hge : ¬ n + m < 2 ^ 256 := fun h => hc0 (by rw [hfin.2, Nat.div_eq_of_lt h])
        have HF : Hid (okW (n + m) = 0 ∧ erW (n + m) = 4) := ⟨by rw [okW, if_neg hge], by rw [erW, if_neg hge]⟩
        have hcp : (cc : Int) > 0 := by omega
        clear hfin e8 hge
        go_wp2_with ((with_reducible refine wpList_storeB rfl 24 _ _ rfl _ (ints .u64 (wl 0)) _ ?_ ?_ Y2.out rfl Tryd.underlying24 ?_ (wl_one _) ?_); rfl; rfl; exact cells_wide _; intro w3 hw3 hg3 hz3; have U1 := Lib.hid hw3; have BU := Lib.hid (BY.out.grown hg3 BY.out.size (fun k hk => by cases hk; omega)); clear hw3 hg3 hz3)
        exact bodyPost_ret (results_cell_tmp (by rfl) _ (by rfl) U1.out Tryd.underlying24 rfl (cells_wide _)) rfl ⟨by rw [HF.out.1, HF.out.2]; rfl, BU.out⟩
end Go.Proofs.YtpgpplpddjjchaaDoor
