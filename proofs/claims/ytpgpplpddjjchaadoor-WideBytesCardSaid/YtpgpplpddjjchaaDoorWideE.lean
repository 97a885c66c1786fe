/- Numbers of 256 bits: the reference's difference. -/
import Derived.Test.YtpgpplpddjjchaaDoorWideD
namespace Go.Proofs.YtpgpplpddjjchaaDoor
open Go.RowKit

/-- a difference, cut at half limb j: the borrow c -/
def CutD (n m s c j : Nat) : Prop := s < 2 ^ (32 * j) ∧ n % 2 ^ (32 * j) + c * 2 ^ (32 * j) = m % 2 ^ (32 * j) + s ∧ c ≤ 1
theorem CutD.next {n m s c j : Nat} (h : CutD n m s c j) :
    CutD n m (s + (4294967296 + hN n j - hN m j - c) % 4294967296 * 2 ^ (32 * j)) (1 - (4294967296 + hN n j - hN m j - c) / 4294967296) (j + 1) := by
  obtain ⟨h1, h2, h3⟩ := h
  have hx := hN_lt n j
  have hy := hN_lt m j
  have e : 32 * (j + 1) = 32 + 32 * j := by omega
  have e2 : (2 : Nat) ^ 32 = 4294967296 := rfl
  have e3 : 2 ^ (32 * (j + 1)) = 4294967296 * 2 ^ (32 * j) := by rw [e, Nat.pow_add, e2]
  unfold CutD
  rw [mod_next, mod_next, e3]
  generalize 2 ^ (32 * j) = D at *
  generalize hN n j = x at *
  generalize hN m j = y at *
  have hl : (4294967296 + x - y - c) % 4294967296 < 4294967296 := Nat.mod_lt _ (by decide)
  have key : x + (1 - (4294967296 + x - y - c) / 4294967296) * 4294967296 = y + c + (4294967296 + x - y - c) % 4294967296 := by omega
  have h5 := congrArg (· * D) key
  simp only [Nat.add_mul] at h5
  rw [Nat.mul_assoc] at h5
  have h6 := Nat.mul_le_mul_right D (show (4294967296 + x - y - c) % 4294967296 + 1 ≤ 4294967296 by omega)
  rw [Nat.add_mul, Nat.one_mul] at h6
  generalize (4294967296 + x - y - c) % 4294967296 * D = dd at *
  generalize hbb : (1 - (4294967296 + x - y - c) / 4294967296) * (4294967296 * D) = bb at *
  exact ⟨by omega, by omega, by omega⟩
theorem CutD.done {n m s c : Nat} (hn : n < 2 ^ 256) (hm : m < 2 ^ 256) (hle : m ≤ n) (h : CutD n m s c 8) : s = n - m := by
  obtain ⟨h1, h2, h3⟩ := h
  have e8 : 32 * 8 = 256 := rfl
  rw [e8] at h1 h2
  rw [Nat.mod_eq_of_lt hn, Nat.mod_eq_of_lt hm] at h2
  generalize (2 : Nat) ^ 256 = T at *
  have hc : c = 0 ∨ c = 1 := by omega
  rcases hc with rfl | rfl <;> omega
theorem cmp_lt {n m : Nat} (h : n < m) : cmpW n m = -1 := if_pos h
theorem cmp_ge {n m : Nat} (h : m ≤ n) : ¬ cmpW n m < 0 := by
  unfold cmpW
  rw [if_neg (by omega)]
  split <;> omega
theorem df_lt {n m : Nat} (h : n < m) : dfW n m = 0 ∧ dfE n m = 4 := ⟨if_neg (by omega), if_neg (by omega)⟩
theorem df_ge {n m : Nat} (h : m ≤ n) : dfW n m = n - m ∧ dfE n m = 0 := ⟨if_pos h, if_pos h⟩

set_option maxRecDepth 20000 in
set_option maxHeartbeats 1000000 in
theorem subWide_any (n m : Nat) (hn : n < 2 ^ 256) (hm : m < 2 ^ 256) (w : World) :
    Calls Tryd.prog 13 #[.agg (ints .u64 (wl n)).toArray, .agg (ints .u64 (wl m)).toArray] w (WS n m w) := by
  have hz := wz_lit
  have HN := bx hn
  have HM := bx hm
  have CMP := bx (refCompare_any n m hn hm)
  have HC0 : Bx (CutD n m 0 0 0) := ⟨⟨by simp, by simp [Nat.mod_one], by omega⟩⟩
  have HALF : Bx (∀ (i : Nat), i < 8 → ∀ (w : World), Calls Tryd.prog 35 #[.agg (ints .u64 (wl n)).toArray, .int .i64 i] w fun e w' => e = .returned (.int .u64 ((hN n i : Nat) : Int)) ∧ Below w.heap.size w w') := ⟨half_any n⟩
  have HALM : Bx (∀ (i : Nat), i < 8 → ∀ (w : World), Calls Tryd.prog 35 #[.agg (ints .u64 (wl m)).toArray, .int .i64 i] w fun e w' => e = .returned (.int .u64 ((hN m i : Nat) : Int)) ∧ Below w.heap.size w w') := ⟨half_any m⟩
  obtain ⟨wA, hwA⟩ : ∃ wA, wA = ((w.alloc (.cells (ints .u64 (wl n)).toArray 24)).alloc (.cells (ints .u64 (wl m)).toArray 24)).alloc (.cells (ints .u64 (wl 0)).toArray 24) := ⟨_, rfl⟩
  have X0 : Bx (Has wA w.heap.size (ints .u64 (wl n))) := ⟨by rw [hwA]; exact ((Has.new w _ _).alloc _).alloc _⟩
  have X1 : Bx (Has wA (w.heap.size + 1) (ints .u64 (wl m))) := ⟨by rw [hwA]; have := (Has.new (w.alloc (.cells (ints .u64 (wl n)).toArray 24)) (ints .u64 (wl m)) 24).alloc (.cells (ints .u64 (wl 0)).toArray 24); rwa [alloc_size] at this⟩
  have X2 : Bx (Has wA (w.heap.size + 1 + 1) (ints .u64 (wl 0))) := ⟨by rw [hwA]; have := Has.new ((w.alloc (.cells (ints .u64 (wl n)).toArray 24)).alloc (.cells (ints .u64 (wl m)).toArray 24)) (ints .u64 (wl 0)) 24; rwa [alloc_size, alloc_size] at this⟩
  have BA : Bx (Below w.heap.size w wA) := ⟨by rw [hwA]; exact (((Below.refl w.heap.size w).alloc (Nat.le_refl _) _).alloc (by simp) _).alloc (by simp; omega) _⟩
  have HWA := bx hwA
  rw [hwA] at X0 X1
  clear hwA hn hm
  go_enter Tryd.func13, Tryd.ntmps13
  go_wp2_with (first | ((with_reducible refine wpList_loadG 24 _ rfl _ (ints .u64 (wl n)) ?_ ?_ X0.out Tryd.underlying24 rfl ?_ ?_); rfl; rfl; exact cells_wide _) | ((with_reducible refine wpList_loadG 24 _ rfl _ (ints .u64 (wl m)) ?_ ?_ X1.out Tryd.underlying24 rfl ?_ ?_); rfl; rfl; exact cells_wide _))
  rw [← HWA.out] at X0 X1 ⊢
  refine (CMP.out _).mono ?_; rintro e w1 ⟨rfl, hb1⟩
  have Y0 := bx (X0.out.below hb1 X0.out.lt)
  have Y1 := bx (X1.out.below hb1 X1.out.lt)
  have Y2 := bx (X2.out.below hb1 X2.out.lt)
  have BY := bx (BA.out.trans (hb1.mono BA.out.size))
  clear hb1 X0 X1 X2 BA HWA CMP
  by_cases hlt : n < m
  · rw [cmp_lt hlt]
    have HE := bx (df_lt hlt)
    clear hlt
    go_wp2_with ((with_reducible refine wpList_storeB rfl 24 _ _ rfl _ (ints .u64 (wl 0)) _ ?_ ?_ Y2.out (wl_len2 _ _) Tryd.underlying24 ?_ (wl_one _) ?_); rfl; rfl; exact cells_wide _; intro w9 hw hg hz0; have U9 := bx hw; have B9 := bx (BY.out.grown hg BY.out.size (fun k hk => by cases hk; omega)); clear hw hg hz0)
    exact bodyPost_ret (results_cell_tmp (by rfl) _ (by rfl) U9.out Tryd.underlying24 rfl (cells_wide _)) rfl ⟨by rw [HE.out.1, HE.out.2]; rfl, B9.out⟩
  · have hge : m ≤ n := by omega
    have HE := bx (df_ge hge)
    have HGE := bx hge
    have hc0 := cmp_ge hge
    generalize cmpW n m = cm at *
    have Z0 := bx (Y0.out.alloc (.cells (ints .u64 (wl 0)).toArray 24))
    have Z1 := bx (Y1.out.alloc (.cells (ints .u64 (wl 0)).toArray 24))
    have Z2 := bx (Y2.out.alloc (.cells (ints .u64 (wl 0)).toArray 24))
    have Z6 := bx (Has.new w1 (ints .u64 (wl 0)) 24)
    have BZ := bx (BY.out.alloc BY.out.size (.cells (ints .u64 (wl 0)).toArray 24))
    have N0 : Bx (w.heap.size ≠ w1.heap.size) := ⟨Nat.ne_of_lt Y0.out.lt⟩
    have N1 : Bx (w.heap.size + 1 ≠ w1.heap.size) := ⟨Nat.ne_of_lt Y1.out.lt⟩
    have N2 : Bx (w.heap.size + 1 + 1 ≠ w1.heap.size) := ⟨Nat.ne_of_lt Y2.out.lt⟩
    have S1 := bx BY.out.size
    clear hlt hge
    go_wp2_with fail
    obtain ⟨wB, hwB⟩ : ∃ wB, wB = w1.alloc (.cells (ints .u64 (wl 0)).toArray 24) := ⟨_, rfl⟩
    rw [← hwB] at Z0 Z1 Z2 Z6 BZ ⊢
    clear hwB Y0 Y1 Y2 BY hc0
    go_loopw [7, 8] (fun q i wr => ∃ j s cc : Nat, j ≤ 8 ∧ i = .int .i64 j ∧ q = .int .u64 cc ∧ CutD n m s cc j ∧ Has wr w.heap.size (ints .u64 (wl n)) ∧ Has wr (w.heap.size + 1) (ints .u64 (wl m)) ∧ Has wr (w.heap.size + 1 + 1) (ints .u64 (wl 0)) ∧ Has wr w1.heap.size (ints .u64 (wl s)) ∧ Below w.heap.size w wr) (fun _ i _ => 8 - (intOf i).toNat)
    case atStart => exact ⟨0, 0, 0, Nat.zero_le _, rfl, rfl, HC0.out, Z0.out, Z1.out, Z2.out, Z6.out, BZ.out⟩
    case round =>
      obtain ⟨j, s, cc, hj, rfl, rfl, hcut, hx0, hx1, hx2, hx6, hbel⟩ := hrel
      have Y0 := bx hx0
      have Y1 := bx hx1
      have Y2 := bx hx2
      have Y6 := bx hx6
      have BY := bx hbel
      have CUT := bx hcut
      clear hx0 hx1 hx2 hx6 hbel hcut Z0 Z1 Z2 Z6 BZ HC0
      by_cases hj8 : j < 8
      · have hcc : cc ≤ 1 := CUT.out.2.2
        have hh1 := hN_lt n j
        have hh2 := hN_lt m j
        have NXT := bx CUT.out.next
        have HA := bx (HALF.out j hj8)
        have HB := bx (HALM.out j hj8)
        have HS1 := bx CUT.out.1
        generalize hN n j = a1 at *
        generalize hN m j = a2 at *
        obtain ⟨t, ht⟩ : ∃ t, t = 4294967296 + a1 - a2 - cc := ⟨_, rfl⟩
        rw [← ht] at NXT
        have hsum : 4294967296 + (a1 : Int) - (a2 : Int) - (cc : Int) = (t : Int) := by omega
        have ht64 : t ≤ 8589934591 := by omega
        obtain ⟨lo, hlo⟩ : ∃ lo, lo = t % 4294967296 := ⟨_, rfl⟩
        obtain ⟨up, hup⟩ : ∃ up, up = 1 - t / 4294967296 := ⟨_, rfl⟩
        rw [← hlo, ← hup] at NXT
        have hand : bits .and .u64 (t : Int) 4294967295 = (lo : Int) := by rw [u64_and32 _ (by omega) (by omega), hlo]; rfl
        have hshr : 1 - (t : Int) / 4294967296 = (up : Int) := by omega
        have hlt : lo < 2 ^ 32 := by rw [hlo]; exact Nat.mod_lt _ (by decide)
        have HLT := bx hlt
        clear hlt hlo hup ht
        have C0 := bx (Has.cls (w := wr.drew) Y0.out)
        have C1 := bx (Has.cls (w := wr.drew) Y1.out)
        go_wp2_with fail
        refine wp_region_mix 10 [([0, 1, 4, 5, 8], 2), ([3], 6)] [7, 9] (by kernel_rfl) (by kernel_rfl) ?_
        simp only [MixG, pickOps, List.map_cons, List.map_nil, List.getD_cons_zero, List.getD_cons_succ, List.drop_succ_cons, List.drop_zero]
        repeat (first | go_big_quiet_skip | (go_big_quiet_want; first | (first | ((with_reducible refine quiet_loadC 24 _ rfl _ (ints .u64 (wl n)) ?_ C0.out Tryd.underlying24 rfl ?_ ?_); rfl; exact cells_wide _; go_big_quiet_on; (simp only [Act.put, List.setIfInBounds_toArray, List.set_cons_succ, List.set_cons_zero])) | ((with_reducible refine quiet_loadC 24 _ rfl _ (ints .u64 (wl m)) ?_ C1.out Tryd.underlying24 rfl ?_ ?_); rfl; exact cells_wide _; go_big_quiet_on; (simp only [Act.put, List.setIfInBounds_toArray, List.set_cons_succ, List.set_cons_zero]))) | (go_big_quiet_op; first | go_big_quiet_on | ((with_reducible refine ⟨_, fun _ _ => rfl, ?_⟩); go_big_quiet_on))))
        refine wpQuiet_nil ?_
        refine mix_call (HA.out _) Tryd.func35 rfl rfl _ _ rfl rfl rfl ?_
        rintro e w2 ⟨rfl, hb2⟩
        refine ⟨_, rfl, hb2, ?_⟩
        have Z0 := bx ((show Has wr.drew _ _ from Y0.out).below hb2 Y0.out.lt)
        have Z1 := bx ((show Has wr.drew _ _ from Y1.out).below hb2 Y1.out.lt)
        have Z2 := bx ((show Has wr.drew _ _ from Y2.out).below hb2 Y2.out.lt)
        have Z6 := bx ((show Has wr.drew _ _ from Y6.out).below hb2 Y6.out.lt)
        have BZ := bx (BY.out.drew.trans (hb2.mono BY.out.size))
        clear hb2
        simp only [Act.put, List.setIfInBounds_toArray, List.set_cons_succ, List.set_cons_zero]
        repeat (first | go_big_quiet_skip | (go_big_quiet_want; first | fail | (go_big_quiet_op; first | go_big_quiet_on | ((with_reducible refine ⟨_, fun _ _ => rfl, ?_⟩); go_big_quiet_on))))
        refine wpQuiet_nil ?_
        refine mix_call (HB.out _) Tryd.func35 rfl rfl _ _ rfl rfl rfl ?_
        rintro e w3 ⟨rfl, hb3⟩
        refine ⟨_, rfl, hb3, ?_⟩
        have V0 := bx (Z0.out.below hb3 Z0.out.lt)
        have V1 := bx (Z1.out.below hb3 Z1.out.lt)
        have V2 := bx (Z2.out.below hb3 Z2.out.lt)
        have V6 := bx (Z6.out.below hb3 Z6.out.lt)
        have BV := bx (BZ.out.trans (hb3.mono BZ.out.size))
        clear hb3
        simp only [Act.put, List.setIfInBounds_toArray, List.set_cons_succ, List.set_cons_zero]
        repeat (first | go_big_quiet_skip | (go_big_quiet_want; first | fail | (go_big_quiet_op; first | go_big_quiet_on | ((with_reducible refine ⟨_, fun _ _ => rfl, ?_⟩); go_big_quiet_on))))
        refine wpQuiet_nil ?_
        go_wp2_with fail
        refine NoPanic.normal ?_
        go_wp2_with ((with_reducible refine wpList_loadG 24 _ rfl _ (ints .u64 (wl s)) ?_ ?_ V6.out Tryd.underlying24 rfl ?_ ?_); rfl; rfl; exact cells_wide _)
        refine (put_any s lo j hj8 HS1.out HLT.out _).mono ?_; rintro e w4 ⟨rfl, hb4⟩
        have U0 := bx (V0.out.below hb4 V0.out.lt)
        have U1 := bx (V1.out.below hb4 V1.out.lt)
        have U2 := bx (V2.out.below hb4 V2.out.lt)
        have U6 := bx (V6.out.below hb4 V6.out.lt)
        have BU := bx (BV.out.trans (hb4.mono BV.out.size))
        clear hb4
        generalize s + lo * 2 ^ (32 * j) = s2 at *
        go_wp2_with ((with_reducible refine wpList_storeB rfl 24 _ _ rfl _ (ints .u64 (wl s2)) _ ?_ ?_ U6.out (wl_len2 _ _) Tryd.underlying24 ?_ (wl_one _) ?_); rfl; rfl; exact cells_wide _; intro w5 hw hg hz0; have T6 := bx hw; have T0 := bx (U0.out.grown hg (ne_som N0.out)); have T1 := bx (U1.out.grown hg (ne_som N1.out)); have T2 := bx (U2.out.grown hg (ne_som N2.out)); have BT := bx (BU.out.grown hg BU.out.size (fun k hk => by cases hk; exact S1.out)); clear hw hg hz0)
        go_roundw
        case rel => exact ⟨j + 1, s2, up, by omega, by go_num, rfl, NXT.out, T0.out, T1.out, T2.out, T6.out, BT.out⟩
        case measure => simp [intOf]; omega
      · obtain rfl : j = 8 := by omega
        obtain rfl := CutD.done HN.out HM.out HGE.out CUT.out
        clear CUT
        go_wp2_with (first | ((with_reducible refine wpList_loadG 24 _ rfl _ (ints .u64 (wl (n - m))) ?_ ?_ Y6.out Tryd.underlying24 rfl ?_ ?_); rfl; rfl; exact cells_wide _) | ((with_reducible refine wpList_storeB rfl 24 _ _ rfl _ (ints .u64 (wl (n - m))) _ ?_ ?_ Y2.out (wl_len2 _ _) Tryd.underlying24 ?_ (wl_one _) ?_); rfl; rfl; exact cells_wide _; intro w9 hw hg hz0; have U9 := bx hw; have B9 := bx (BY.out.grown hg BY.out.size (fun k hk => by cases hk; omega)); clear hw hg hz0))
        exact bodyPost_ret (results_cell_tmp (by rfl) _ (by rfl) U9.out Tryd.underlying24 rfl (cells_wide _)) rfl ⟨by rw [HE.out.1, HE.out.2]; rfl, B9.out⟩
end Go.Proofs.YtpgpplpddjjchaaDoor
