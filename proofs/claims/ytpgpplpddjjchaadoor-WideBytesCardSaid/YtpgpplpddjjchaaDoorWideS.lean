/- Numbers of 256 bits: the reference's product with a small number. -/
import Derived.Test.YtpgpplpddjjchaaDoorWideC
namespace Go.Proofs.YtpgpplpddjjchaaDoor
open Go.RowKit

theorem wl_len2 (a b : Nat) : (ints .u64 (wl a)).length = (ints .u64 (wl b)).length := (wl_len a).trans (wl_len b).symm
theorem ne_som {a b : Nat} (h : a ≠ b) : some a ≠ some b := fun e => h (by injection e)
theorem mulLo_cases {n k : Nat} : (n * (k % 4294967296) + 0) / 2 ^ 256 ≠ 0 → ¬ n * k < 2 ^ 256 := fun h hlt => by
  have h1 := prod_parts n k
  exact h (Nat.div_eq_of_lt (by omega))
theorem mulHi_cases {n k : Nat} : (n * (k / 4294967296) + 0) / 2 ^ 256 ≠ 0 → ¬ n * k < 2 ^ 256 := fun h hlt => by
  have h1 := prod_parts n k
  have h2 : n * (k / 4294967296) * 1 ≤ n * (k / 4294967296) * 2 ^ 32 := Nat.mul_le_mul_left _ (Nat.two_pow_pos _)
  exact h (Nat.div_eq_of_lt (by omega))
theorem mulTop_cases {n k : Nat} (hh : n * (k / 4294967296) < 2 ^ 256) : hN (n * (k / 4294967296)) 7 ≠ 0 → ¬ n * k < 2 ^ 256 := fun h hlt => by
  have h1 := prod_parts n k
  have h2 : 2 ^ (32 * 7) ≤ n * (k / 4294967296) := Nat.le_of_not_lt fun h3 => h ((hN_top hh).2 h3)
  have h3 := Nat.mul_le_mul_right (2 ^ 32) h2
  rw [← Nat.pow_add] at h3
  omega
theorem small_of_div {x : Nat} (h : (x + 0) / 2 ^ 256 = 0) : x < 2 ^ 256 := Nat.lt_of_div_eq_zero (Nat.two_pow_pos _) h
theorem err_of {m : Nat} (h : ¬ m < 2 ^ 256) : okW m = 0 ∧ erW m = 4 := ⟨if_neg h, if_neg h⟩

set_option maxRecDepth 20000 in
set_option maxHeartbeats 2000000 in
theorem mulSmall_any (n k : Nat) (hn : n < 2 ^ 256) (hk : k < 18446744073709551616) (w : World) :
    Calls Tryd.prog 19 #[.agg (ints .u64 (wl n)).toArray, .int .u64 k] w (WE (n * k) w) := by
  have hz := wz_lit
  have MA : Hid (∀ (x : Nat), x < 4294967296 → ∀ w, Calls Tryd.prog 39 #[.agg (ints .u64 (wl n)).toArray, .int .u64 x, .int .u64 0] w (WB ((n * x + 0) % 2 ^ 256) (decide ((n * x + 0) / 2 ^ 256 = 0)) w)) := fun x hx w => mulAdd_any n x 0 hn hx (by omega) w
  have C1 := Lib.hid (mulLo_cases (n := n) (k := k))
  have C2 := Lib.hid (mulHi_cases (n := n) (k := k))
  have C3 := Lib.hid (mulTop_cases (n := n) (k := k))
  have PP := Lib.hid (prod_parts n k)
  obtain ⟨lo, hlo⟩ : ∃ lo, lo = k % 4294967296 := ⟨_, rfl⟩
  obtain ⟨hi, hhi⟩ : ∃ hi, hi = k / 4294967296 := ⟨_, rfl⟩
  have hand : bits .and .u64 (k : Int) 4294967295 = (lo : Int) := by rw [u64_and32 _ (by omega) (by omega), hlo]; rfl
  have hshr : (k : Int) / 4294967296 = (hi : Int) := by rw [hhi]; rfl
  have hlo32 : lo < 4294967296 := by omega
  have hhi32 : hi < 4294967296 := by omega
  rw [← hlo] at C1 PP
  rw [← hhi] at C2 C3 PP
  obtain ⟨wA, hwA⟩ : ∃ wA, wA = (w.alloc (.cells (ints .u64 (wl n)).toArray 24)).alloc (.cells (ints .u64 (wl 0)).toArray 24) := ⟨_, rfl⟩
  have X0 : Hid (Has wA w.heap.size (ints .u64 (wl n))) := by show Has _ _ _; rw [hwA]; exact (Has.new w _ _).alloc _
  have X1 : Hid (Has wA (w.heap.size + 1) (ints .u64 (wl 0))) := by show Has _ _ _; rw [hwA]; have := Has.new (w.alloc (.cells (ints .u64 (wl n)).toArray 24)) (ints .u64 (wl 0)) 24; rwa [alloc_size] at this
  have BA : Hid (Below w.heap.size w wA) := by show Below _ _ _; rw [hwA]; exact ((Below.refl w.heap.size w).alloc (Nat.le_refl _) _).alloc (by simp) _
  have HWA := Lib.hid hwA
  have HN := Lib.hid hn
  clear hwA hlo hhi hn
  have X0A : Hid (Has ((w.alloc (.cells (ints .u64 (wl n)).toArray 24)).alloc (.cells (ints .u64 (wl 0)).toArray 24)) w.heap.size (ints .u64 (wl n))) := by show Has _ _ _; rw [← HWA.out]; exact X0.out
  go_enter Tryd.func19, Tryd.ntmps19
  go_wp2_with ((with_reducible refine wpList_loadG 24 _ rfl _ (ints .u64 (wl n)) ?_ ?_ X0A.out Tryd.underlying24 rfl ?_ ?_); rfl; rfl; exact cells_wide _)
  rw [← HWA.out]
  refine (MA.out lo hlo32 _).mono ?_; rintro e w1 ⟨rfl, hb1⟩
  have Y0 := Lib.hid (X0.out.below hb1 X0.out.lt)
  have Y1 := Lib.hid (X1.out.below hb1 X1.out.lt)
  have BY := Lib.hid (BA.out.trans (hb1.mono BA.out.size))
  have S1 := Lib.hid Y1.out.lt
  have HZ1 := Lib.hid (Has.new w1 (ints .u64 (wl 0)) 24)
  clear hb1 X0 X1 BA X0A HWA
  -- the lower product
  have hL1 : n * lo + 0 = n * lo := rfl
  generalize hlowE : (n * lo + 0) % 2 ^ 256 = low at *
  have HLOW := Lib.hid hlowE
  generalize hb1E : decide ((n * lo + 0) / 2 ^ 256 = 0) = b1 at *
  have HB1 := Lib.hid hb1E
  clear hlowE hb1E hL1
  have N10 : Hid (w.heap.size ≠ w1.heap.size) := Nat.ne_of_lt (Nat.lt_of_succ_lt S1.out)
  have N11 : Hid (w.heap.size + 1 ≠ w1.heap.size) := Nat.ne_of_lt S1.out
  go_wp2_with (first | ((with_reducible refine wpList_storeB rfl 24 _ _ rfl _ (ints .u64 (wl low)) _ ?_ ?_ HZ1.out (wl_len2 _ _) Tryd.underlying24 ?_ (wl_one _) ?_); rfl; rfl; exact cells_wide _; intro w2 hw hg hz0; have G6 := grown_over_alloc hg; have Z6 := Lib.hid hw; have Z0 := Lib.hid (Y0.out.grown G6 (ne_som N10.out)); have Z1 := Lib.hid (Y1.out.grown G6 (ne_som N11.out)); have BZ := Lib.hid (BY.out.grown G6 BY.out.size (fun k hk => by cases hk; exact Nat.le_of_lt (Nat.lt_of_succ_lt S1.out))); clear G6; clear hw hg hz0) | ((with_reducible refine wpList_loadG 24 _ rfl _ (ints .u64 (wl n)) ?_ ?_ Z0.out Tryd.underlying24 rfl ?_ ?_); rfl; rfl; exact cells_wide _))
  refine (MA.out hi hhi32 _).mono ?_; rintro e w3 ⟨rfl, hb3⟩
  have V0 := Lib.hid (Z0.out.below hb3 Z0.out.lt)
  have V1 := Lib.hid (Z1.out.below hb3 Z1.out.lt)
  have V6 := Lib.hid (Z6.out.below hb3 Z6.out.lt)
  have BV := Lib.hid (BZ.out.trans (hb3.mono BZ.out.size))
  have S3 := Lib.hid V1.out.lt
  have S6 := Lib.hid V6.out.lt
  have HZ3 := Lib.hid (Has.new w3 (ints .u64 (wl 0)) 24)
  clear hb3 Y0 Y1 BY Z0 Z1 Z6 BZ
  generalize hhighE : (n * hi + 0) % 2 ^ 256 = high at *
  have HHIGH := Lib.hid hhighE
  generalize hb2E : decide ((n * hi + 0) / 2 ^ 256 = 0) = b2 at *
  have HB2 := Lib.hid hb2E
  clear hhighE hb2E
  have N31 : Hid (w.heap.size + 1 ≠ w3.heap.size) := Nat.ne_of_lt S3.out
  have N36 : Hid (w1.heap.size ≠ w3.heap.size) := Nat.ne_of_lt S6.out
  cases b1 with
  | false =>
    have HE := Lib.hid (err_of (C1.out (of_decide_eq_false HB1.out)))
    go_wp2_with (first | ((with_reducible refine wpList_storeB rfl 24 _ _ rfl _ (ints .u64 (wl high)) _ ?_ ?_ HZ3.out (wl_len2 _ _) Tryd.underlying24 ?_ (wl_one _) ?_); rfl; rfl; exact cells_wide _; intro w4 hw hg hz0; have G6 := grown_over_alloc hg; have T1 := Lib.hid (V1.out.grown G6 (ne_som N31.out)); have BT := Lib.hid (BV.out.grown G6 BV.out.size (fun k hk => by cases hk; exact BV.out.size)); clear G6; clear hw hg hz0) | ((with_reducible refine wpList_storeB rfl 24 _ _ rfl _ (ints .u64 (wl 0)) _ ?_ ?_ T1.out (wl_len2 _ _) Tryd.underlying24 ?_ (wl_one _) ?_); rfl; rfl; exact cells_wide _; intro w9 hw hg hz0; have U9 := Lib.hid hw; have B9 := Lib.hid (BT.out.grown hg BT.out.size (fun k hk => by cases hk; omega)); clear hw hg hz0))
    exact bodyPost_ret (results_cell_tmp (by rfl) _ (by rfl) U9.out Tryd.underlying24 rfl (cells_wide _)) rfl ⟨by rw [HE.out.1, HE.out.2]; rfl, B9.out⟩
  | true =>
    cases b2 with
    | false =>
      have HE := Lib.hid (err_of (C2.out (of_decide_eq_false HB2.out)))
      go_wp2_with (first | ((with_reducible refine wpList_storeB rfl 24 _ _ rfl _ (ints .u64 (wl high)) _ ?_ ?_ HZ3.out (wl_len2 _ _) Tryd.underlying24 ?_ (wl_one _) ?_); rfl; rfl; exact cells_wide _; intro w4 hw hg hz0; have G6 := grown_over_alloc hg; have T1 := Lib.hid (V1.out.grown G6 (ne_som N31.out)); have BT := Lib.hid (BV.out.grown G6 BV.out.size (fun k hk => by cases hk; exact BV.out.size)); clear G6; clear hw hg hz0) | ((with_reducible refine wpList_storeB rfl 24 _ _ rfl _ (ints .u64 (wl 0)) _ ?_ ?_ T1.out (wl_len2 _ _) Tryd.underlying24 ?_ (wl_one _) ?_); rfl; rfl; exact cells_wide _; intro w9 hw hg hz0; have U9 := Lib.hid hw; have B9 := Lib.hid (BT.out.grown hg BT.out.size (fun k hk => by cases hk; omega)); clear hw hg hz0))
      exact bodyPost_ret (results_cell_tmp (by rfl) _ (by rfl) U9.out Tryd.underlying24 rfl (cells_wide _)) rfl ⟨by rw [HE.out.1, HE.out.2]; rfl, B9.out⟩
    | true =>
      have hlowS := small_of_div (of_decide_eq_true HB1.out)
      have hhighS := small_of_div (of_decide_eq_true HB2.out)
      obtain rfl : low = n * lo := by rw [← HLOW.out]; exact Nat.mod_eq_of_lt hlowS
      obtain rfl : high = n * hi := by rw [← HHIGH.out]; exact Nat.mod_eq_of_lt hhighS
      have HLS := Lib.hid hlowS
      have HHS := Lib.hid hhighS
      have C3' := Lib.hid (C3.out hhighS)
      have TOP := Lib.hid (hN_top hhighS)
      clear hlowS hhighS HLOW HHIGH C3
      generalize n * lo = low at *
      generalize n * hi = high at *
      have HALF := Lib.hid (half_any high)
      have HE7 := Lib.hid (hlf_eq high 7)
      go_wp2_with (first | ((with_reducible refine wpList_storeB rfl 24 _ _ rfl _ (ints .u64 (wl high)) _ ?_ ?_ HZ3.out (wl_len2 _ _) Tryd.underlying24 ?_ (wl_one _) ?_); rfl; rfl; exact cells_wide _; intro w4 hw hg hz0; have G6 := grown_over_alloc hg; have T1 := Lib.hid (V1.out.grown G6 (ne_som N31.out)); have T6 := Lib.hid (V6.out.grown G6 (ne_som N36.out)); have T8 := Lib.hid hw; have BT := Lib.hid (BV.out.grown G6 BV.out.size (fun k hk => by cases hk; exact BV.out.size)); clear G6; clear hw hg hz0) | ((with_reducible refine wpList_loadG 24 _ rfl _ (ints .u64 (wl high)) ?_ ?_ T8.out Tryd.underlying24 rfl ?_ ?_); rfl; rfl; exact cells_wide _))
      refine (HALF.out 7 (by omega) _).mono ?_; rintro e w5 ⟨rfl, hb5⟩
      rw [HE7.out]
      have P1 := Lib.hid (T1.out.below hb5 T1.out.lt)
      have P6 := Lib.hid (T6.out.below hb5 T6.out.lt)
      have P8 := Lib.hid (T8.out.below hb5 T8.out.lt)
      have BP := Lib.hid (BT.out.trans (hb5.mono BT.out.size))
      clear hb5
      by_cases h7 : hN high 7 = 0
      · have hS := bx (TOP.out.1 h7)
        have h7' : ((hN high 7 : Nat) : Int) = 0 := by omega
        have PA := Lib.hid (P1.out.alloc (.cells (ints .u64 (wl 0)).toArray 24))
        have PB := Lib.hid (P6.out.alloc (.cells (ints .u64 (wl 0)).toArray 24))
        have PC := Lib.hid (P8.out.alloc (.cells (ints .u64 (wl 0)).toArray 24))
        have PD := Lib.hid (Has.new w5 (ints .u64 (wl 0)) 24)
        have BQ := Lib.hid (BP.out.alloc BP.out.size (.cells (ints .u64 (wl 0)).toArray 24))
        have HM0 : Bx (mvW high 0 = 0) := ⟨by simp [mvW, Nat.mod_one]⟩
        have N51 : Hid (w.heap.size + 1 ≠ w5.heap.size) := Nat.ne_of_lt P1.out.lt
        have N56 : Hid (w1.heap.size ≠ w5.heap.size) := Nat.ne_of_lt P6.out.lt
        have N58 : Hid (w3.heap.size ≠ w5.heap.size) := Nat.ne_of_lt P8.out.lt
        have S5 := Lib.hid BP.out.size
        have HALN : Hid (∀ (i : Nat), i < 8 → ∀ (w : World), Calls Tryd.prog 35 #[.agg (ints .u64 (wl high)).toArray, .int .i64 i] w fun e w' => e = .returned (.int .u64 ((hN high i : Nat) : Int)) ∧ Below w.heap.size w w') := HALF.out
        clear h7 HE7 TOP HALF C1 C2 C3' HB1 HB2
        go_wp2_with fail
        obtain ⟨wB, hwB⟩ : ∃ wB, wB = w5.alloc (.cells (ints .u64 (wl 0)).toArray 24) := ⟨_, rfl⟩
        rw [← hwB] at PA PB PC PD BQ ⊢
        clear hwB h7'
        go_loopw [11] (fun i wr => ∃ j : Nat, j ≤ 7 ∧ i = .int .i64 j ∧ Has wr (w.heap.size + 1) (ints .u64 (wl 0)) ∧ Has wr w1.heap.size (ints .u64 (wl low)) ∧ Has wr w3.heap.size (ints .u64 (wl high)) ∧ Has wr w5.heap.size (ints .u64 (wl (mvW high j))) ∧ Below w.heap.size w wr) (fun i _ => 7 - (intOf i).toNat)
        case atStart => exact ⟨0, Nat.zero_le _, rfl, PA.out, PB.out, PC.out, by rw [HM0.out]; exact PD.out, BQ.out⟩
        case round =>
          obtain ⟨j, hj, rfl, ha, hb, hc, hd, hbel⟩ := hrel
          have RA := Lib.hid ha
          have RB := Lib.hid hb
          have RC := Lib.hid hc
          have RD := Lib.hid hd
          have BR := Lib.hid hbel
          clear ha hb hc hd hbel PA PB PC PD BQ
          by_cases hj7 : j < 7
          · have C0 := Lib.hid (Has.cls (w := wr.drew) RD.out)
            have C1 := Lib.hid (Has.cls (w := wr.drew) RC.out)
            have hj8 : j < 8 := by omega
            have NX := bx (mvW_next high j)
            have ML := bx (mvW_lt high j)
            have HL := bx (hN_lt high j)
            have h1w : IntKind.i64.wrap ((j : Int) + 1) = ((j + 1 : Nat) : Int) := by rw [Int.natCast_add]; exact IntWalk.i64_in _ (by omega)
            generalize hmE : mvW high j = mj at *
            clear hmE
            go_wp2_with fail
            refine wp_region_mix 7 [([0, 1, 2, 3, 4], 5), ([], 6)] [] (by kernel_rfl) (by kernel_rfl) ?_
            simp only [MixG, pickOps, List.map_cons, List.map_nil, List.getD_cons_zero, List.getD_cons_succ, List.drop_succ_cons, List.drop_zero]
            repeat (first | go_big_quiet_skip | (go_big_quiet_want; first | (first | ((with_reducible refine quiet_loadC 24 _ rfl _ (ints .u64 (wl high)) ?_ C1.out Tryd.underlying24 rfl ?_ ?_); rfl; exact cells_wide _; go_big_quiet_on; (simp only [Act.put, List.setIfInBounds_toArray, List.set_cons_succ, List.set_cons_zero])) | ((with_reducible refine quiet_loadC 24 _ rfl _ (ints .u64 (wl mj)) ?_ C0.out Tryd.underlying24 rfl ?_ ?_); rfl; exact cells_wide _; go_big_quiet_on; (simp only [Act.put, List.setIfInBounds_toArray, List.set_cons_succ, List.set_cons_zero]))) | (go_big_quiet_op; first | go_big_quiet_on | ((with_reducible refine ⟨_, fun _ _ => rfl, ?_⟩); go_big_quiet_on))))
            refine wpQuiet_nil ?_
            refine mix_call (HALN.out j hj8 _) Tryd.func35 rfl rfl _ _ rfl rfl rfl ?_
            rintro e w6 ⟨rfl, hb6⟩
            refine ⟨_, rfl, hb6, ?_⟩
            have QA := Lib.hid ((show Has wr.drew _ _ from RA.out).below hb6 RA.out.lt)
            have QB := Lib.hid ((show Has wr.drew _ _ from RB.out).below hb6 RB.out.lt)
            have QC := Lib.hid ((show Has wr.drew _ _ from RC.out).below hb6 RC.out.lt)
            have QD := Lib.hid ((show Has wr.drew _ _ from RD.out).below hb6 RD.out.lt)
            have BQ := Lib.hid (BR.out.drew.trans (hb6.mono BR.out.size))
            clear hb6
            simp only [Act.put, List.setIfInBounds_toArray, List.set_cons_succ, List.set_cons_zero]
            refine wpQuiet_nil ?_
            refine mix_call (put_any mj (hN high j) (j + 1) (by omega) ML.out HL.out _) Tryd.func36 rfl rfl _ _ rfl rfl rfl ?_
            rintro e w7 ⟨rfl, hb7⟩
            refine ⟨_, rfl, hb7, ?_⟩
            have UA := Lib.hid (QA.out.below hb7 QA.out.lt)
            have UB := Lib.hid (QB.out.below hb7 QB.out.lt)
            have UC := Lib.hid (QC.out.below hb7 QC.out.lt)
            have UD := Lib.hid (QD.out.below hb7 QD.out.lt)
            have BU := Lib.hid (BQ.out.trans (hb7.mono BQ.out.size))
            clear hb7
            rw [NX.out]
            generalize hm2 : mvW high (j + 1) = mj2 at *
            have HM2 := bx hm2
            clear hm2
            simp only [Act.put, List.setIfInBounds_toArray, List.set_cons_succ, List.set_cons_zero]
            refine wpQuiet_nil ?_
            go_wp2_with ((with_reducible refine wpList_storeB rfl 24 _ _ rfl _ (ints .u64 (wl mj2)) _ ?_ ?_ UD.out (wl_len2 _ _) Tryd.underlying24 ?_ (wl_one _) ?_); rfl; rfl; exact cells_wide _; intro w8 hw hg hz0; have WD := Lib.hid hw; have WA := Lib.hid (UA.out.grown hg (ne_som N51.out)); have WB := Lib.hid (UB.out.grown hg (ne_som N56.out)); have WC := Lib.hid (UC.out.grown hg (ne_som N58.out)); have BW := Lib.hid (BU.out.grown hg BU.out.size (fun k hk => by cases hk; exact S5.out)); clear hw hg hz0)
            refine NoPanic.normal ?_
            go_wp2_with fail
            go_roundw
            case rel => exact ⟨j + 1, by omega, by go_num, WA.out, WB.out, WC.out, by rw [HM2.out]; exact WD.out, BW.out⟩
            case measure => simp [intOf]; omega
          · obtain rfl : j = 7 := by omega
            rw [mvW_done hS.out] at RD
            have HMS : Hid (high * 2 ^ 32 < 2 ^ 256) := by
              have := hS.out
              have e : (2 : Nat) ^ 256 = 2 ^ (32 * 7) * 2 ^ 32 := by rw [← Nat.pow_add]
              show _ < _
              rw [e]
              exact Nat.mul_lt_mul_of_pos_right this (Nat.two_pow_pos _)
            generalize high * 2 ^ 32 = moved at *
            have AW := Lib.hid (addWide_any low moved HLS.out HMS.out)
            rw [PP.out] at AW
            go_wp2_with (first | ((with_reducible refine wpList_loadG 24 _ rfl _ (ints .u64 (wl low)) ?_ ?_ RB.out Tryd.underlying24 rfl ?_ ?_); rfl; rfl; exact cells_wide _) | ((with_reducible refine wpList_loadG 24 _ rfl _ (ints .u64 (wl moved)) ?_ ?_ RD.out Tryd.underlying24 rfl ?_ ?_); rfl; rfl; exact cells_wide _))
            refine (AW.out _).mono ?_; rintro e w6 ⟨rfl, hb6⟩
            have QA := bx (RA.out.below hb6 RA.out.lt)
            have BQ := bx (BR.out.trans (hb6.mono BR.out.size))
            clear hb6
            generalize hR : okW (n * k) = R at *
            generalize hr : erW (n * k) = er at *
            have HR := bx hR
            have Hr := bx hr
            clear hR hr
            go_wp2_with ((with_reducible refine wpList_storeB rfl 24 _ _ rfl _ (ints .u64 (wl R)) _ ?_ ?_ QA.out (wl_len2 _ _) Tryd.underlying24 ?_ (wl_one _) ?_); rfl; rfl; exact cells_wide _; intro w9 hw hg hz0; have U9 := bx hw; have B9 := bx (BQ.out.grown hg BQ.out.size (fun k hk => by cases hk; omega)); clear hw hg hz0)
            exact bodyPost_ret (results_cell_tmp (by rfl) _ (by rfl) U9.out Tryd.underlying24 rfl (cells_wide _)) rfl ⟨by rw [HR.out, Hr.out]; rfl, B9.out⟩
      · have HE := Lib.hid (err_of (C3'.out h7))
        have h7' : ((hN high 7 : Nat) : Int) > 0 := by omega
        clear h7
        go_wp2_with ((with_reducible refine wpList_storeB rfl 24 _ _ rfl _ (ints .u64 (wl 0)) _ ?_ ?_ P1.out (wl_len2 _ _) Tryd.underlying24 ?_ (wl_one _) ?_); rfl; rfl; exact cells_wide _; intro w9 hw hg hz0; have U9 := Lib.hid hw; have B9 := Lib.hid (BP.out.grown hg BP.out.size (fun k hk => by cases hk; omega)); clear hw hg hz0)
        exact bodyPost_ret (results_cell_tmp (by rfl) _ (by rfl) U9.out Tryd.underlying24 rfl (cells_wide _)) rfl ⟨by rw [HE.out.1, HE.out.2]; rfl, B9.out⟩
end Go.Proofs.YtpgpplpddjjchaaDoor
