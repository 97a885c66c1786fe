/- The reference's Add, Sub and Sum of 64-bit numbers, walked. -/
import Derived.Test.YtonkgjengplppaaNum
import Derived.Test.YtonkgjengplppaaChg
namespace Go.Proofs.Ytonkgjengplppaa
open Go.RowKit
theorem ref_add (a b : Int) (ha : 0 ≤ a) (ha' : a < 18446744073709551616) (hb : 0 ≤ b) (hb' : b < 18446744073709551616) (w : World) :
    Calls Try.prog 57 #[.int .u64 a, .int .u64 b] w fun e w' => e = .returned (.tuple #[.int .u64 (addV a b), .int .i64 (addE a b)]) ∧ w = w' := by
  go_enter Try.func57, Try.ntmps57
  go_wp2
  · have h : 18446744073709551615 - b < a := by assumption
    go_ret2
    unfold addV addE
    rw [if_neg (by omega), if_neg (by omega)]
    exact ⟨rfl, rfl⟩
  · have h : a ≤ 18446744073709551615 - b := by assumption
    go_ret2
    unfold addV addE
    rw [if_pos (by omega), if_pos (by omega)]
    exact ⟨rfl, rfl⟩

theorem ref_sub (a b : Int) (ha : 0 ≤ a) (ha' : a < 18446744073709551616) (hb : 0 ≤ b) (hb' : b < 18446744073709551616) (w : World) :
    Calls Try.prog 58 #[.int .u64 a, .int .u64 b] w fun e w' => e = .returned (.tuple #[.int .u64 (subV a b), .int .i64 (subE a b)]) ∧ w = w' := by
  unfold subV subE
  by_cases h : a < b
  · rw [if_pos h, if_pos h]
    go_enter Try.func58, Try.ntmps58
    go_wp2
    go_ret2
    exact ⟨rfl, rfl⟩
  · rw [if_neg h, if_neg h]
    go_enter Try.func58, Try.ntmps58
    go_wp2
    go_ret2
    exact ⟨rfl, rfl⟩

def sumV (l : List Int) : Int := if l.sum < 18446744073709551616 then l.sum else 0
def sumE (l : List Int) : Int := if l.sum < 18446744073709551616 then 0 else 4
theorem sum_nonneg {l : List Int} (h : U64 l) : 0 ≤ l.sum := by
  induction l with
  | nil => simp
  | cons a l ih =>
    have h1 := h a (by simp)
    have h2 := ih (fun x hx => h x (by simp [hx]))
    simp only [List.sum_cons]; omega
theorem sum_take_le {l : List Int} (h : U64 l) (k : Nat) : (l.take k).sum ≤ l.sum := by
  have h1 : (l.take k).sum + (l.drop k).sum = l.sum := by rw [← List.sum_append_int, List.take_append_drop]
  have h2 : 0 ≤ (l.drop k).sum := sum_nonneg fun x hx => h x (List.mem_of_mem_drop hx)
  omega
theorem sum_take_succ {l : List Int} {k : Nat} (hk : k < l.length) : (l.take (k + 1)).sum = (l.take k).sum + l[k] := by
  rw [List.take_succ_eq_append_getElem hk, List.sum_append_int]; simp

set_option maxHeartbeats 400000 in
theorem ref_sum (B : Nat) (A : Option Addr) (n c : Nat) (l : List Int) (w : World) (hr : Row w B 1 A n (ints .u64 l)) (hl : U64 l) (hn : n ≤ 9223372036854775807) :
    Calls Try.prog 56 #[.slice A n c] w fun e w' => e = .returned (.tuple #[.int .u64 (sumV l), .int .i64 (sumE l)]) ∧ w = w' := by
  have hlen : l.length = n := by have := hr.1; simpa [ints] using this
  go_enter Try.func56, Try.ntmps56
  go_wp2
  go_loop [4, 5] (fun s i => ∃ k : Nat, k ≤ n ∧ i = .int .i64 k ∧ s = .int .u64 (l.take k).sum ∧ (l.take k).sum < 18446744073709551616) (fun _ i => n - (intOf i).toNat)
  case atStart => exact ⟨0, Nat.zero_le _, rfl, by simp, by simp⟩
  case round =>
    obtain ⟨k, hk, rfl, rfl, hlt⟩ := hrel
    have h0 : 0 ≤ (l.take k).sum := sum_nonneg fun x hx => hl x (List.mem_of_mem_take hx)
    by_cases hkn : k < n
    · have hkl : k < l.length := by omega
      have hu : (ints .u64 l)[k]? = some (.int .u64 l[k]) := by unfold ints; rw [List.getElem?_map, List.getElem?_eq_getElem hkl]; rfl
      obtain ⟨ad, rfl, hb, hc⟩ := hr.at_ hu
      have hx := hl l[k] (List.getElem_mem hkl)
      have hs : Hid ((l.take (k + 1)).sum = (l.take k).sum + l[k]) := sum_take_succ hkl
      have HC := Lib.hid (fun w => ref_add (l.take k).sum l[k] h0 hlt hx.1 hx.2 w)
      have htot : Hid ((l.take (k + 1)).sum ≤ l.sum) := sum_take_le hl _
      have hlen' := Lib.hid hlen
      clear hlen hu
      generalize (l.take k).sum = s at *
      generalize l[k] = x at *
      by_cases hov : s + x < 18446744073709551616
      · have hv : addV s x = s + x := by unfold addV; rw [if_pos hov]
        have he : addE s x = 0 := by unfold addE; rw [if_pos hov]
        rw [hv, he] at HC
        clear hv he
        go_wp2_with (go_at_call 57; refine (HC.out _).mono ?_; rintro e w' ⟨rfl, rfl⟩)
        go_round
        case rel => exact ⟨k + 1, by omega, by go_num, by rw [hs.out], by rw [hs.out]; exact hov⟩
        case measure => simp [intOf]; omega
      · have hv : addV s x = 0 := by unfold addV; rw [if_neg hov]
        have he : addE s x = 4 := by unfold addE; rw [if_neg hov]
        rw [hv, he] at HC
        clear hv he
        go_wp2_with (go_at_call 57; refine (HC.out _).mono ?_; rintro e w' ⟨rfl, rfl⟩)
        go_ret2
        have h1 := hs.out
        have h2 := htot.out
        unfold sumV sumE
        rw [if_neg (by omega), if_neg (by omega)]
        exact ⟨rfl, rfl⟩
    · have hkk : k = n := by omega
      subst hkk
      have hfull : l.take k = l := List.take_of_length_le (by omega)
      rw [hfull] at hlt ⊢
      have hv : sumV l = l.sum := by unfold sumV; rw [if_pos hlt]
      have he : sumE l = 0 := by unfold sumE; rw [if_pos hlt]
      have HV := Lib.hid hv
      have HE := Lib.hid he
      clear hv he hlen hfull
      go_wp2
      go_ret2
      rw [HV.out, HE.out]
      exact ⟨rfl, rfl⟩

end Go.Proofs.Ytonkgjengplppaa
