/- The walks of the statements on roots: order and texts. -/
import Derived.Test.YthfiiikanpagiaaRootsLaws
namespace Go.Proofs.Ythfiiikanpagiaa
open Go.RowKit

/-- the root that begins with the byte 1 -/
def oneR : List Int := 1 :: List.replicate 31 0
theorem oneR_lit : #[Value.int .u8 1, Value.int .u8 0, Value.int .u8 0, Value.int .u8 0, Value.int .u8 0, Value.int .u8 0, Value.int .u8 0, Value.int .u8 0, Value.int .u8 0, Value.int .u8 0, Value.int .u8 0, Value.int .u8 0, Value.int .u8 0, Value.int .u8 0, Value.int .u8 0, Value.int .u8 0, Value.int .u8 0, Value.int .u8 0, Value.int .u8 0, Value.int .u8 0, Value.int .u8 0, Value.int .u8 0, Value.int .u8 0, Value.int .u8 0, Value.int .u8 0, Value.int .u8 0, Value.int .u8 0, Value.int .u8 0, Value.int .u8 0, Value.int .u8 0, Value.int .u8 0, Value.int .u8 0] = (ints .u8 oneR).toArray := rfl
theorem oneR_fit : Fit .u8 oneR := by unfold Fit oneR; decide
theorem zroot_fit : Fit .u8 zroot := by unfold Fit zroot; decide

theorem oneR_cmp : cmpI oneR zroot = 1 := by decide
theorem oneR_text : ((strOfNums (fmtL oneR)).extract 0 6).toList = [48, 120, 48, 49, 48, 48] := by decide +kernel

theorem roots_awake (w : World) : Calls Try.prog 12 #[] w fun e w' => e = .returned (.bool true) ∧ Below w.heap.size w w' := by
  have hz := zroot_lit
  have ho : (ints .u8 zroot).set 0 (.int .u8 1) = ints .u8 oneR := rfl
  have HZ := Lib.hid (Has.new w (ints .u8 zroot) 23)
  have HF := Lib.hid (format_any oneR_fit (by rfl))
  have hsz : (strOfNums (fmtL oneR)).size = 66 := by rw [strOfNums_size, fmtL_length]; rfl
  have HP := Lib.hid (fun w => parse_any (s := strOfNums (fmtL oneR)) (by rw [hsz]; omega) w)
  have hpv := parseV_fmt oneR_fit (by rfl)
  have hpe := parseE_fmt oneR_fit (by rfl)
  rw [hpv, hpe] at HP
  clear hpv hpe
  have htx : (((strOfNums (fmtL oneR)).extract 0 6).toList == [48, 120, 48, 49, 48, 48]) = true := by rw [oneR_text]; rfl
  have HC := Lib.hid (compare_any (a := oneR) (b := zroot) oneR_fit zroot_fit (by rfl) (by rfl))
  rw [oneR_cmp] at HC
  have HI := Lib.hid (isZero_any (a := zroot) (by rfl))
  have HJ := Lib.hid (isZero_any (a := oneR) (by rfl))
  rw [decide_eq_true rfl] at HI
  rw [decide_eq_false (by decide)] at HJ
  have hq : ∀ w : World, (Op.equalIn 10000 23 (.agg (ints .u8 oneR).toArray) (.agg (ints .u8 oneR).toArray)).run Try.prog w = .ok true w := fun w => by
    have := root_same (a := oneR) (b := oneR) (by rfl) (by rfl) w
    rwa [decide_eq_true rfl] at this
  generalize strOfNums (fmtL oneR) = S at *
  go_enter Try.func12, Try.ntmps12
  go_wp2_with (first | ((with_reducible refine wpList_loadG 23 _ rfl _ _ ?_ ?_ HW1.out Try.underlying23 ?_ ?_ ?_); rfl; rfl; rfl; kernel_rfl) | ((with_reducible refine wpList_storeB rfl 23 _ _ rfl _ (ints .u8 oneR) _ ?_ ?_ HZ.out ?_ Try.underlying23 ?_ (one_ints _ _) ?_); rfl; rfl; rfl; kernel_rfl; intro w1 hw1 hg1 hz1; have HW1 := Lib.hid hw1; have HG1 := Lib.hid hg1; clear hw1 hg1))
  have hb1 : Hid (Below w.heap.size w w1 ∧ w.heap.size < w1.heap.size) := ⟨((Below.refl _ _).alloc (Nat.le_refl _) _).grown HG1.out (by simp) (fun k hk => by cases hk; exact Nat.le_refl _), by rw [hz1]; simp⟩
  have h1s := hb1.out.2
  clear hz1
  refine (HF.out _).mono ?_; rintro e w2 ⟨rfl, hb2⟩
  have HW2 := Lib.hid (HW1.out.below hb2 h1s)
  have hb2' := Lib.hid (hb1.out.1.trans (hb2.mono hb1.out.1.size))
  have h2s : w.heap.size < w2.heap.size := Nat.lt_of_lt_of_le h1s hb2.size
  clear hb2
  go_wp2_with fail
  refine (HP.out _).mono ?_; rintro e w3 ⟨rfl, hb3⟩
  have HW3 := Lib.hid (HW2.out.below hb3 h2s)
  have hb3' := Lib.hid (hb2'.out.trans (hb3.mono hb2'.out.size))
  have h3s : w.heap.size < w3.heap.size := Nat.lt_of_lt_of_le h2s hb3.size
  clear hb3
  have HX3 := Lib.hid (Has.new w3 (ints .u8 zroot) 23)
  have HW3' := Lib.hid (HW3.out.alloc (.cells (ints .u8 zroot).toArray 23))
  go_wp2_with (first | ((with_reducible refine wpList_loadG 23 _ rfl _ _ ?_ ?_ HX4.out Try.underlying23 ?_ ?_ ?_); rfl; rfl; rfl; kernel_rfl) | ((with_reducible refine wpList_loadG 23 _ rfl _ _ ?_ ?_ HW4.out Try.underlying23 ?_ ?_ ?_); rfl; rfl; rfl; kernel_rfl) | ((with_reducible refine wpList_storeB rfl 23 _ _ rfl _ (ints .u8 oneR) _ ?_ ?_ HX3.out ?_ Try.underlying23 ?_ (one_ints _ _) ?_); rfl; rfl; rfl; kernel_rfl; intro w4 hw4 hg4 hz4; have HX4 := Lib.hid hw4; have HW4 := Lib.hid (HW3'.out.grown hg4 (fun he => by injection he; omega)); have HB4 := Lib.hid ((hb3'.out.alloc hb3'.out.size _).grown hg4 (by simp; omega) (fun k hk => by cases hk; omega)); have h4s : w.heap.size < w4.heap.size := (by rw [hz4]; simp; omega); clear hw4 hg4 hz4))
  refine (HC.out _).mono ?_; rintro e w5 ⟨rfl, hb5⟩
  have HW5 := Lib.hid (HW4.out.below hb5 h4s)
  have hb5' := Lib.hid (HB4.out.trans (hb5.mono HB4.out.size))
  have h5s : w.heap.size < w5.heap.size := Nat.lt_of_lt_of_le h4s hb5.size
  clear hb5
  go_wp2_with fail
  refine (HI.out _).mono ?_; rintro e w6 ⟨rfl, hb6⟩
  have HW6 := Lib.hid (HW5.out.below hb6 h5s)
  have hb6' := Lib.hid (hb5'.out.trans (hb6.mono hb5'.out.size))
  have h6s : w.heap.size < w6.heap.size := Nat.lt_of_lt_of_le h5s hb6.size
  clear hb6
  go_wp2_with ((with_reducible refine wpList_loadG 23 _ rfl _ _ ?_ ?_ HW6.out Try.underlying23 ?_ ?_ ?_); rfl; rfl; rfl; kernel_rfl)
  refine (HJ.out _).mono ?_; rintro e w7 ⟨rfl, hb7⟩
  have hb7' := Lib.hid (hb6'.out.trans (hb7.mono hb6'.out.size))
  clear hb7
  go_wp2_with fail
  go_ret
  exact ⟨rfl, hb7'.out⟩
end Go.Proofs.Ythfiiikanpagiaa
