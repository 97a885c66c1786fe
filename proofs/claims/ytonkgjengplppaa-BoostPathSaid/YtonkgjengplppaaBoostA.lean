/- The boost's amount. -/
import Derived.Test.YtonkgjengplppaaDiv64
namespace Go.Proofs.Ytonkgjengplppaa
open Go.RowKit

def amtOk (s p t : Int) : Prop := 1 ≤ s ∧ s ≤ 64 ∧ p ≤ 100 ∧ t ≤ 4611686018427387904
instance (s p t : Int) : Decidable (amtOk s p t) := inferInstanceAs (Decidable (_ ∧ _))
/-- the amount and the error -/
def amt (s p t : Int) : Int := if amtOk s p t then t / s * p / 100 else 0
def amtE (s p t : Int) : Int := if amtOk s p t then 0 else 3
theorem amt_bad {s p t : Int} (h : ¬ amtOk s p t) : Ending.returned (.tuple #[.int .u64 0, .int .i64 3]) = .returned (.tuple #[.int .u64 (amt s p t), .int .i64 (amtE s p t)]) := by
  unfold amt amtE; rw [if_neg h, if_neg h]
def AmtPost (s p t : Int) (w : World) (e : Ending) (w' : World) : Prop := e = .returned (.tuple #[.int .u64 (amt s p t), .int .i64 (amtE s p t)]) ∧ Below w.heap.size w w'
theorem share_le {t s : Int} (ht : 0 ≤ t) (hs : 1 ≤ s) (h : t ≤ 4611686018427387904) : 0 ≤ t / s ∧ t / s ≤ 4611686018427387904 := by
  have h1 := Int.ediv_nonneg ht (show 0 ≤ s by omega)
  have h2 := Int.ediv_le_self s ht
  omega
theorem prod_le {x p : Int} (h0 : 0 ≤ x) (h1 : x ≤ 4611686018427387904) (hp0 : 0 ≤ p) (hp : p ≤ 100) : 0 ≤ x * p ∧ x * p ≤ 461168601842738790400 := by
  have := Int.mul_le_mul_of_nonneg_left hp h0
  exact ⟨Int.mul_nonneg h0 hp0, by omega⟩

set_option maxRecDepth 20000 in
set_option maxHeartbeats 1000000 in
theorem amount_any (cs : List Value) (s p t : Int) (w : World) (h6 : cs[6]? = some (.int .u64 s)) (h7 : cs[7]? = some (.int .u64 p)) (hs : 0 ≤ s) (hsm : s ≤ 18446744073709551615) (hp : 0 ≤ p) (hpm : p ≤ 18446744073709551615) (ht : 0 ≤ t) (htm : t ≤ 18446744073709551615) :
    Calls Try.prog 61 #[.agg cs.toArray, .int .u64 t] w (AmtPost s p t w) := by
  have X := Has.new w cs 107
  have hc6 : (w.alloc (.cells cs.toArray 107)).cell? ⟨w.heap.size, 6, none⟩ = some (.int .u64 s) := by rw [X.cell, h6]
  have hc7 : (w.alloc (.cells cs.toArray 107)).cell? ⟨w.heap.size, 7, none⟩ = some (.int .u64 p) := by rw [X.cell, h7]
  have BB := Lib.hid ((Below.refl w.heap.size w).alloc (Nat.le_refl _) (.cells cs.toArray 107))
  clear X h6 h7
  by_cases hok : amtOk s p t
  · obtain ⟨g1, g2, g3, g4⟩ := id hok
    have HE : Hid (Ending.returned (.tuple #[.int .u64 (t / s * p / 100), .int .i64 0]) = .returned (.tuple #[.int .u64 (amt s p t), .int .i64 (amtE s p t)])) := by show _ = _; unfold amt amtE; rw [if_pos hok, if_pos hok]
    obtain ⟨q1, q2⟩ := share_le ht g1 g4
    obtain ⟨r1, r2⟩ := prod_le q1 q2 hp g3
    have HM := Lib.hid (fun w => mul64_any (t / s) p w (by omega) (by omega) hp (by omega))
    have HQ : Hid (t / s * p / 18446744073709551616 * 18446744073709551616 + t / s * p % 18446744073709551616 = t / s * p) := by show _ = _; omega
    have HD := Lib.hid (fun w => div64_any (t / s * p / 18446744073709551616) (t / s * p % 18446744073709551616) 100 w (by omega) (by omega) (by omega) (by omega) (by omega))
    rw [HQ.out] at HD
    have hsz : ¬ s = 0 := by omega
    go_enter Try.func61, Try.ntmps61
    go_wp2_with fail
    go_quiet ((go_at_call 69; exact Calls.quiet_of_same ((HM.out _).mono fun _ _ h => ⟨h.1, h.2.symm⟩)))
    go_wp2_with fail
    refine (HD.out _).mono ?_; rintro e w2 ⟨rfl, hb2⟩
    have B2 := Lib.hid ((below_dN BB.out _).trans (hb2.mono BB.out.size))
    clear hb2
    go_wp2_with fail
    go_ret2
    exact ⟨HE.out, B2.out⟩
  · have HE := Lib.hid (amt_bad hok)
    by_cases g1 : s < 1
    · go_enter Try.func61, Try.ntmps61
      go_wp2_with fail
      go_ret2
      exact ⟨HE.out, BB.out⟩
    by_cases g2 : s > 64
    · go_enter Try.func61, Try.ntmps61
      go_wp2_with fail
      go_ret2
      exact ⟨HE.out, BB.out⟩
    by_cases g3 : p > 100
    · go_enter Try.func61, Try.ntmps61
      go_wp2_with fail
      go_ret2
      exact ⟨HE.out, BB.out⟩
    have g4 : t > 4611686018427387904 := by
      unfold amtOk at hok; omega
    go_enter Try.func61, Try.ntmps61
    go_wp2_with fail
    go_ret2
    exact ⟨HE.out, BB.out⟩

theorem ref_amt {x p : Int} (h0 : 0 ≤ x) : x / 100 * p + x % 100 * p / 100 = x * p / 100 := by
  have e : x * p = x % 100 * p + x / 100 * p * 100 := by
    have h1 : x = x % 100 + x / 100 * 100 := by omega
    have h2 : (x % 100 + x / 100 * 100) * p = x % 100 * p + x / 100 * p * 100 := by rw [Int.add_mul, Int.mul_right_comm]
    rw [← h2, ← h1]
  rw [e, Int.add_mul_ediv_right _ _ (by decide)]
  omega
theorem boost_awake (w : World) : Calls Try.prog 42 #[] w fun e w' => e = .returned (.bool true) ∧ Below w.heap.size w w' := by
  have HA1 : amt 4 40 1000 = 100 := by decide +kernel
  have HA2 : amtE 4 40 1000 = 0 := by decide +kernel
  have HA : Hid (Ending.returned (.tuple #[.int .u64 (amt 4 40 1000), .int .i64 (amtE 4 40 1000)]) = .returned (.tuple #[.int .u64 100, .int .i64 0])) := by show _ = _; rw [HA1, HA2]
  clear HA1 HA2
  go_enter Try.func42, Try.ntmps42
  go_wp2_with fail
  refine (amount_any _ 4 40 1000 _ rfl rfl (by omega) (by omega) (by omega) (by omega) (by omega) (by omega)).mono ?_; rintro e w2 ⟨he, hb2⟩
  rw [HA.out] at he
  subst he
  have B2 := Lib.hid hb2
  clear hb2
  go_wp2_with fail
  go_ret
  exact ⟨rfl, B2.out⟩
end Go.Proofs.Ytonkgjengplppaa
