/- Numbers of 256 bits: the law's sanity check. -/
import Derived.Test.YtpgpplpddjjchaaDoorWideFw
import Derived.Test.YtpgpplpddjjchaaDoorWideAdd
import Derived.Test.YtpgpplpddjjchaaDoorWideD
namespace Go.Proofs.YtpgpplpddjjchaaDoor
open Go.RowKit
theorem big_lit : ((ints .u64 (wl 0)).set 0 (.int .u64 0)).set 1 (.int .u64 1) = ints .u64 (wl 18446744073709551616) := by kernel_rfl
theorem big_nd : nd 18446744073709551616 = 20 := nd_eq (by decide) (by decide) (fun _ => by decide)
theorem big_txt : strOfNums (txl 18446744073709551616) = { data := #[49, 56, 52, 52, 54, 55, 52, 52, 48, 55, 51, 55, 48, 57, 53, 53, 49, 54, 49, 54] } := by
  unfold txl
  rw [big_nd]
  kernel_rfl
set_option maxRecDepth 20000 in
set_option maxHeartbeats 1000000 in
theorem awake_any (w : World) : Calls Tryd.prog 17 #[] w fun e w' => e = .returned (.bool true) ∧ Below w.heap.size w w' := by
  have hz := wz_lit
  have hb := big_lit
  have HT := bx big_txt
  have F1 := bx (from_any 18446744073709551615 (by decide))
  have F2 := bx (from_any 1 (by decide))
  have A1 : Bx (∀ w : World, Calls Tryd.prog 10 #[.agg (ints .u64 (wl 18446744073709551615)).toArray, .agg (ints .u64 (wl 1)).toArray] w fun e w' => e = .returned (.tuple #[.agg (ints .u64 (wl 18446744073709551616)).toArray, .int .i64 0]) ∧ Below w.heap.size w w') := ⟨fun w => add_any 18446744073709551615 1 (by decide) (by decide) w⟩
  have M1 := bx (format_any 18446744073709551616 (by decide))
  rw [HT.out] at M1
  have hq : ∀ w' : World, (Op.equalIn 10000 24 (.agg (ints .u64 (wl 18446744073709551616)).toArray) (.agg (ints .u64 (wl 18446744073709551616)).toArray)).run Tryd.prog w' = .ok true w' := fun w' => by rw [wide_same, decide_eq_true rfl]
  go_enter Tryd.func17, Tryd.ntmps17
  go_wp2_with fail
  refine (F1.out _).mono ?_; rintro e w1 ⟨rfl, hb1⟩
  have B1 := bx hb1
  clear hb1
  go_wp2_with fail
  refine (F2.out _).mono ?_; rintro e w2 ⟨rfl, hb2⟩
  have B2 := bx (B1.out.trans (hb2.mono B1.out.size))
  clear hb2
  go_wp2_with fail
  refine (A1.out _).mono ?_; rintro e w3 ⟨rfl, hb3⟩
  have B3 := bx (B2.out.trans (hb3.mono B2.out.size))
  clear hb3
  have Z6 := bx (Has.new w3 (ints .u64 (wl 0)) 24)
  have BZ := bx (B3.out.alloc B3.out.size (.cells (ints .u64 (wl 0)).toArray 24))
  go_wp2_with (first | ((with_reducible refine wpList_storeB rfl 24 _ _ rfl _ (ints .u64 (wl 18446744073709551616)) _ ?_ ?_ Z6.out (wl_len2 _ _) Tryd.underlying24 ?_ (wl_one _) ?_); rfl; rfl; exact cells_wide _; intro w6 hw hg hz0; have V6 := bx hw; have B6 := bx (BZ.out.grown hg BZ.out.size (fun k hk => by cases hk; exact B3.out.size)); clear hw hg hz0) | ((with_reducible refine wpList_loadG 24 _ rfl _ (ints .u64 (wl 18446744073709551616)) ?_ ?_ V6.out Tryd.underlying24 rfl ?_ ?_); rfl; rfl; exact cells_wide _))
  refine (M1.out _).mono ?_; rintro e w7 ⟨rfl, hb7⟩
  have B7 := bx (B6.out.trans (hb7.mono B6.out.size))
  clear hb7
  go_wp2_with fail
  go_ret
  exact ⟨rfl, B7.out⟩
end Go.Proofs.YtpgpplpddjjchaaDoor
