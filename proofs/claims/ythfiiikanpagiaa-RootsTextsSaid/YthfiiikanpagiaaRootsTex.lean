/- The walk of RootsTexts. -/
import Derived.Test.YthfiiikanpagiaaRootsWalks
namespace Go.Proofs.Ythfiiikanpagiaa
open Go.RowKit

theorem fits_zroot : (ints .u8 zroot).length = 32 := rfl
set_option maxHeartbeats 800000 in
theorem rootsTexts_walk (a : List Int) (s : ByteArray) (w : World) (la : a.length = 32) (ha : Fit .u8 a) (ls : s.size ≤ maxLen) :
    Calls Try.prog 4 #[.agg (ints .u8 a).toArray, .string s] w fun e w' => e = .returned (.bool true) ∧ Below w.heap.size w w' := by
  have hz := zroot_lit
  have ls' : Hid (s.size ≤ 9223372036854775807) := ls
  have HR0 := Lib.hid (Has.new w (ints .u8 a) 23)
  have HK := Lib.hid (roots_awake)
  have B0 := Lib.hid ((Below.refl w.heap.size w).alloc (Nat.le_refl _) (.cells (ints .u8 a).toArray 23))
  have S0 : Hid (w.heap.size < (w.alloc (.cells (ints .u8 a).toArray 23)).heap.size) := by show _ < _; simp
  have hka : Hid (Try.prog.cellsOf 23 = (ints .u8 a).length) := by show _ = _; rw [ints, List.length_map, la]; kernel_rfl
  have hla : Hid ((ints .u8 zroot).length = (ints .u8 a).length) := by show _ = _; rw [ints, ints, List.length_map, List.length_map, la]; rfl
  have HF := Lib.hid (format_any ha la)
  have HG := Lib.hid (ref_formatRoot ha la)
  have hsz : (strOfNums (fmtL a)).size = 66 := by rw [strOfNums_size, fmtL_length, la]
  have HP := Lib.hid (fun w => parse_any (s := strOfNums (fmtL a)) (by rw [hsz]; omega) w)
  have hpv := parseV_fmt ha la
  have hpe := parseE_fmt ha la
  rw [hpv, hpe] at HP
  clear hpv hpe hsz
  have HQ := Lib.hid (fun w => parse_any ls'.out w)
  have HU := Lib.hid (fun w => refParse_any ls'.out w)
  have hlv := parseV_length s
  generalize parseV s = V at *
  generalize parseE s = E at *
  have hkv : Hid (Try.prog.cellsOf 23 = (ints .u8 V).length) := by show _ = _; rw [ints, List.length_map, hlv]; kernel_rfl
  have hlv' : Hid ((ints .u8 zroot).length = (ints .u8 V).length) := by show _ = _; rw [ints, ints, List.length_map, List.length_map, hlv]; rfl
  have HVL := Lib.hid hlv
  have q1 : ∀ w : World, (Op.equalIn 10000 23 (.agg (ints .u8 a).toArray) (.agg (ints .u8 a).toArray)).run Try.prog w = .ok true w := fun w => by
    have := root_same (a := a) (b := a) la la w
    rwa [decide_eq_true rfl] at this
  have q2 : ∀ w : World, (Op.equalIn 10000 23 (.agg (ints .u8 V).toArray) (.agg (ints .u8 V).toArray)).run Try.prog w = .ok true w := fun w => by
    have := root_same (a := V) (b := V) hlv hlv w
    rwa [decide_eq_true rfl] at this
  generalize strOfNums (fmtL a) = S at *
  clear hlv ls
  have HLA := Lib.hid la
  clear la
  have hLs : Hid ((s.size : Int) > 500 ∨ ¬ (s.size : Int) > 500) := Decidable.em _
  go_enter Try.func4, Try.ntmps4
  obtain hL | hL := hLs.out
  · go_wp2_with fail
    refine (HK.out _).mono ?_; rintro e w1 ⟨rfl, hb1⟩
    have B1 := Lib.hid (B0.out.trans (hb1.mono B0.out.size))
    clear hb1
    go_wp2_with fail
    go_ret
    exact ⟨rfl, B1.out⟩
  go_wp2_with ((with_reducible refine wpList_loadG 23 _ rfl _ _ ?_ ?_ HR0.out Try.underlying23 ?_ ?_ ?_); rfl; rfl; rfl; exact hka.out)
  refine ((HF.out) _).mono ?_; rintro e w1 ⟨rfl, hb1⟩
  have HR1 := Lib.hid (HR0.out.below hb1 (HR0.out.lt))
  have B1 := Lib.hid (B0.out.trans (hb1.mono B0.out.size))
  have S1 := Lib.hid (Nat.lt_of_lt_of_le S0.out hb1.size)
  clear hb1
  go_wp2_with fail
  refine ((HP.out) _).mono ?_; rintro e w2 ⟨rfl, hb2⟩
  have HR2 := Lib.hid (HR1.out.below hb2 (HR1.out.lt))
  have B2 := Lib.hid (B1.out.trans (hb2.mono B1.out.size))
  have S2 := Lib.hid (Nat.lt_of_lt_of_le S1.out hb2.size)
  clear hb2
  have X3 := Lib.hid (Has.new w2 (ints .u8 zroot) 23)
  have HR3' := Lib.hid (HR2.out.alloc (.cells (ints .u8 zroot).toArray 23))
  have HR3n := Lib.hid (Nat.ne_of_lt HR2.out.lt)
  go_wp2_with ((with_reducible refine wpList_storeB rfl 23 _ _ rfl _ (ints .u8 a) _ ?_ ?_ X3.out ?_ Try.underlying23 ?_ (one_ints _ _) ?_); rfl; rfl; exact hla.out; exact hka.out; intro w3 hw3 hg3 hz3; have HA3 := Lib.hid hw3; have HR3 := Lib.hid (HR3'.out.grown hg3 (fun he => HR3n.out (by injection he))); have B3 := Lib.hid ((B2.out.alloc (Nat.le_of_lt S2.out) _).grown hg3 (by have := S2.out; simp; omega) (fun k hk => by cases hk; exact Nat.le_of_lt S2.out)); have S3 : Hid (w.heap.size < w3.heap.size) := (by show _ < _; have := S2.out; rw [hz3]; simp; omega); clear hw3 hg3 hz3)
  refine ((HQ.out) _).mono ?_; rintro e w4 ⟨rfl, hb4⟩
  have HR4 := Lib.hid (HR3.out.below hb4 (HR3.out.lt))
  have HA4 := Lib.hid (HA3.out.below hb4 (HA3.out.lt))
  have B4 := Lib.hid (B3.out.trans (hb4.mono B3.out.size))
  have S4 := Lib.hid (Nat.lt_of_lt_of_le S3.out hb4.size)
  clear hb4
  have X5 := Lib.hid (Has.new w4 (ints .u8 zroot) 23)
  have HR5' := Lib.hid (HR4.out.alloc (.cells (ints .u8 zroot).toArray 23))
  have HA5' := Lib.hid (HA4.out.alloc (.cells (ints .u8 zroot).toArray 23))
  have HR5n := Lib.hid (Nat.ne_of_lt HR4.out.lt)
  have HA5n := Lib.hid (Nat.ne_of_lt HA4.out.lt)
  go_wp2_with ((with_reducible refine wpList_storeB rfl 23 _ _ rfl _ (ints .u8 V) _ ?_ ?_ X5.out ?_ Try.underlying23 ?_ (one_ints _ _) ?_); rfl; rfl; exact hlv'.out; exact hkv.out; intro w5 hw5 hg5 hz5; have HB5 := Lib.hid hw5; have HR5 := Lib.hid (HR5'.out.grown hg5 (fun he => HR5n.out (by injection he))); have HA5 := Lib.hid (HA5'.out.grown hg5 (fun he => HA5n.out (by injection he))); have B5 := Lib.hid ((B4.out.alloc (Nat.le_of_lt S4.out) _).grown hg5 (by have := S4.out; simp; omega) (fun k hk => by cases hk; exact Nat.le_of_lt S4.out)); have S5 : Hid (w.heap.size < w5.heap.size) := (by show _ < _; have := S4.out; rw [hz5]; simp; omega); clear hw5 hg5 hz5)
  refine ((HU.out) _).mono ?_; rintro e w6 ⟨rfl, hb6⟩
  have HR6 := Lib.hid (HR5.out.below hb6 (HR5.out.lt))
  have HA6 := Lib.hid (HA5.out.below hb6 (HA5.out.lt))
  have HB6 := Lib.hid (HB5.out.below hb6 (HB5.out.lt))
  have B6 := Lib.hid (B5.out.trans (hb6.mono B5.out.size))
  have S6 := Lib.hid (Nat.lt_of_lt_of_le S5.out hb6.size)
  clear hb6
  have X7 := Lib.hid (Has.new w6 (ints .u8 zroot) 23)
  have HR7' := Lib.hid (HR6.out.alloc (.cells (ints .u8 zroot).toArray 23))
  have HA7' := Lib.hid (HA6.out.alloc (.cells (ints .u8 zroot).toArray 23))
  have HB7' := Lib.hid (HB6.out.alloc (.cells (ints .u8 zroot).toArray 23))
  have HR7n := Lib.hid (Nat.ne_of_lt HR6.out.lt)
  have HA7n := Lib.hid (Nat.ne_of_lt HA6.out.lt)
  have HB7n := Lib.hid (Nat.ne_of_lt HB6.out.lt)
  go_wp2_with (first | ((with_reducible refine wpList_loadG 23 _ rfl _ _ ?_ ?_ HR7.out Try.underlying23 ?_ ?_ ?_); rfl; rfl; rfl; exact hka.out) | ((with_reducible refine wpList_storeB rfl 23 _ _ rfl _ (ints .u8 V) _ ?_ ?_ X7.out ?_ Try.underlying23 ?_ (one_ints _ _) ?_); rfl; rfl; exact hlv'.out; exact hkv.out; intro w7 hw7 hg7 hz7; have HC7 := Lib.hid hw7; have HR7 := Lib.hid (HR7'.out.grown hg7 (fun he => HR7n.out (by injection he))); have HA7 := Lib.hid (HA7'.out.grown hg7 (fun he => HA7n.out (by injection he))); have HB7 := Lib.hid (HB7'.out.grown hg7 (fun he => HB7n.out (by injection he))); have B7 := Lib.hid ((B6.out.alloc (Nat.le_of_lt S6.out) _).grown hg7 (by have := S6.out; simp; omega) (fun k hk => by cases hk; exact Nat.le_of_lt S6.out)); have S7 : Hid (w.heap.size < w7.heap.size) := (by show _ < _; have := S6.out; rw [hz7]; simp; omega); clear hw7 hg7 hz7))
  refine ((HG.out) _).mono ?_; rintro e w8 ⟨rfl, hb8⟩
  have HR8 := Lib.hid (HR7.out.below hb8 (HR7.out.lt))
  have HA8 := Lib.hid (HA7.out.below hb8 (HA7.out.lt))
  have HB8 := Lib.hid (HB7.out.below hb8 (HB7.out.lt))
  have HC8 := Lib.hid (HC7.out.below hb8 (HC7.out.lt))
  have B8 := Lib.hid (B7.out.trans (hb8.mono B7.out.size))
  have S8 := Lib.hid (Nat.lt_of_lt_of_le S7.out hb8.size)
  clear hb8
  go_wp2_with (first | ((with_reducible refine wpList_loadG 23 _ rfl _ _ ?_ ?_ HR8.out Try.underlying23 ?_ ?_ ?_); rfl; rfl; rfl; exact hka.out) | ((with_reducible refine wpList_loadG 23 _ rfl _ _ ?_ ?_ HA8.out Try.underlying23 ?_ ?_ ?_); rfl; rfl; rfl; exact hka.out) | ((with_reducible refine wpList_loadG 23 _ rfl _ _ ?_ ?_ HB8.out Try.underlying23 ?_ ?_ ?_); rfl; rfl; rfl; exact hkv.out) | ((with_reducible refine wpList_loadG 23 _ rfl _ _ ?_ ?_ HC8.out Try.underlying23 ?_ ?_ ?_); rfl; rfl; rfl; exact hkv.out))
  refine ((HK.out) _).mono ?_; rintro e w9 ⟨rfl, hb9⟩
  have B9 := Lib.hid (B8.out.trans (hb9.mono B8.out.size))
  have S9 := Lib.hid (Nat.lt_of_lt_of_le S8.out hb9.size)
  clear hb9
  go_wp2_with fail
  go_ret
  exact ⟨rfl, B9.out⟩
end Go.Proofs.Ythfiiikanpagiaa
