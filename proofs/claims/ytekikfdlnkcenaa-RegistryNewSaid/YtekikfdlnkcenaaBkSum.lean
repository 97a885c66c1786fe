/- Sums of balances and the validity of a table, walked. -/
import Derived.Test.YtekikfdlnkcenaaBkM
import Derived.Test.YtekikfdlnkcenaaBitsU
namespace Go.Proofs.Ytekikfdlnkcenaa
open Go.RowKit
def U64 (l : List Int) : Prop := ∀ x ∈ l, 0 ≤ x ∧ x < 18446744073709551616
def k_addV (a b : Int) : Int := if a + b < 18446744073709551616 then a + b else 0
def k_addE (a b : Int) : Int := if a + b < 18446744073709551616 then 0 else 4
theorem k_ref_add (a b : Int) (ha : 0 ≤ a) (ha' : a < 18446744073709551616) (hb : 0 ≤ b) (hb' : b < 18446744073709551616) (w : World) :
    Calls Try.prog 92 #[.int .u64 a, .int .u64 b] w fun e w' => e = .returned (.tuple #[.int .u64 (k_addV a b), .int .i64 (k_addE a b)]) ∧ w = w' := by
  go_enter Try.func92, Try.ntmps92
  go_wp2
  · have h : 18446744073709551615 - b < a := by assumption
    go_ret2
    unfold k_addV k_addE
    rw [if_neg (by omega), if_neg (by omega)]
    exact ⟨rfl, rfl⟩
  · have h : a ≤ 18446744073709551615 - b := by assumption
    go_ret2
    unfold k_addV k_addE
    rw [if_pos (by omega), if_pos (by omega)]
    exact ⟨rfl, rfl⟩

def k_sumV (l : List Int) : Int := if l.sum < 18446744073709551616 then l.sum else 0
def k_sumE (l : List Int) : Int := if l.sum < 18446744073709551616 then 0 else 4
theorem k_sum_nonneg {l : List Int} (h : U64 l) : 0 ≤ l.sum := by
  induction l with
  | nil => simp
  | cons a l ih =>
    have h1 := h a (by simp)
    have h2 := ih (fun x hx => h x (by simp [hx]))
    simp only [List.sum_cons]; omega
theorem k_sum_take_le {l : List Int} (h : U64 l) (k : Nat) : (l.take k).sum ≤ l.sum := by
  have h1 : (l.take k).sum + (l.drop k).sum = l.sum := by rw [← List.sum_append_int, List.take_append_drop]
  have h2 : 0 ≤ (l.drop k).sum := k_sum_nonneg fun x hx => h x (List.mem_of_mem_drop hx)
  omega
theorem k_sum_take_succ {l : List Int} {k : Nat} (hk : k < l.length) : (l.take (k + 1)).sum = (l.take k).sum + l[k] := by
  rw [List.take_succ_eq_append_getElem hk, List.sum_append_int]; simp

set_option maxHeartbeats 400000 in
theorem k_ref_sum (B : Nat) (A : Option Addr) (n c : Nat) (l : List Int) (w : World) (hr : Row w B 1 A n (ints .u64 l)) (hl : U64 l) (hn : n ≤ 9223372036854775807) :
    Calls Try.prog 60 #[.slice A n c] w fun e w' => e = .returned (.tuple #[.int .u64 (k_sumV l), .int .i64 (k_sumE l)]) ∧ w = w' := by
  have hlen : l.length = n := by have := hr.1; simpa [ints] using this
  go_enter Try.func60, Try.ntmps60
  go_wp2
  go_loop [4, 5] (fun s i => ∃ k : Nat, k ≤ n ∧ i = .int .i64 k ∧ s = .int .u64 (l.take k).sum ∧ (l.take k).sum < 18446744073709551616) (fun _ i => n - (intOf i).toNat)
  case atStart => exact ⟨0, Nat.zero_le _, rfl, by simp, by simp⟩
  case round =>
    obtain ⟨k, hk, rfl, rfl, hlt⟩ := hrel
    have h0 : 0 ≤ (l.take k).sum := k_sum_nonneg fun x hx => hl x (List.mem_of_mem_take hx)
    by_cases hkn : k < n
    · have hkl : k < l.length := by omega
      have hu : (ints .u64 l)[k]? = some (.int .u64 l[k]) := by unfold ints; rw [List.getElem?_map, List.getElem?_eq_getElem hkl]; rfl
      obtain ⟨ad, rfl, hb, hc⟩ := hr.at_ hu
      have hx := hl l[k] (List.getElem_mem hkl)
      have hs : Hid ((l.take (k + 1)).sum = (l.take k).sum + l[k]) := k_sum_take_succ hkl
      have HC := Lib.hid (fun w => k_ref_add (l.take k).sum l[k] h0 hlt hx.1 hx.2 w)
      have htot : Hid ((l.take (k + 1)).sum ≤ l.sum) := k_sum_take_le hl _
      have hlen' := Lib.hid hlen
      clear hlen hu
      generalize (l.take k).sum = s at *
      generalize l[k] = x at *
      by_cases hov : s + x < 18446744073709551616
      · have hv : k_addV s x = s + x := by unfold k_addV; rw [if_pos hov]
        have he : k_addE s x = 0 := by unfold k_addE; rw [if_pos hov]
        rw [hv, he] at HC
        clear hv he
        go_wp2_with (go_at_call 92; refine (HC.out _).mono ?_; rintro e w' ⟨rfl, rfl⟩)
        go_round
        case rel => exact ⟨k + 1, by omega, by go_num, by rw [hs.out], by rw [hs.out]; exact hov⟩
        case measure => simp [intOf]; omega
      · have hv : k_addV s x = 0 := by unfold k_addV; rw [if_neg hov]
        have he : k_addE s x = 4 := by unfold k_addE; rw [if_neg hov]
        rw [hv, he] at HC
        clear hv he
        go_wp2_with (go_at_call 92; refine (HC.out _).mono ?_; rintro e w' ⟨rfl, rfl⟩)
        go_ret2
        have h1 := hs.out
        have h2 := htot.out
        unfold k_sumV k_sumE
        rw [if_neg (by omega), if_neg (by omega)]
        exact ⟨rfl, rfl⟩
    · have hkk : k = n := by omega
      subst hkk
      have hfull : l.take k = l := List.take_of_length_le (by omega)
      rw [hfull] at hlt ⊢
      have hv : k_sumV l = l.sum := by unfold k_sumV; rw [if_pos hlt]
      have he : k_sumE l = 0 := by unfold k_sumE; rw [if_pos hlt]
      have HV := Lib.hid hv
      have HE := Lib.hid he
      clear hv he hlen hfull
      go_wp2
      go_ret2
      rw [HV.out, HE.out]
      exact ⟨rfl, rfl⟩

/-- the program's sum: a number and whether it is at most the greatest total -/
def totV (l : List Int) : Int := if l.sum ≤ 4611686018427387904 then l.sum else 0
def totB (l : List Int) : Bool := decide (l.sum ≤ 4611686018427387904)
set_option maxHeartbeats 400000 in
theorem k_sum_any (B : Nat) (A : Option Addr) (n c : Nat) (l : List Int) (w : World) (hr : Row w B 1 A n (ints .u64 l)) (hl : U64 l) (hn : n ≤ 9223372036854775807) :
    Calls Try.prog 77 #[.slice A n c] w fun e w' => e = .returned (.tuple #[.int .u64 (totV l), .bool (totB l)]) ∧ w = w' := by
  have hlen : l.length = n := by have := hr.1; simpa [ints] using this
  go_enter Try.func77, Try.ntmps77
  go_wp2
  go_loop [4, 9] (fun s i => ∃ k : Nat, k ≤ n ∧ i = .int .i64 k ∧ s = .int .u64 (l.take k).sum ∧ (l.take k).sum ≤ 4611686018427387904) (fun _ i => n - (intOf i).toNat)
  case atStart => exact ⟨0, Nat.zero_le _, rfl, by simp, by simp⟩
  case round =>
    obtain ⟨k, hk, rfl, rfl, hlt⟩ := hrel
    have h0 : 0 ≤ (l.take k).sum := k_sum_nonneg fun x hx => hl x (List.mem_of_mem_take hx)
    by_cases hkn : k < n
    · have hkl : k < l.length := by omega
      have hu : (ints .u64 l)[k]? = some (.int .u64 l[k]) := by unfold ints; rw [List.getElem?_map, List.getElem?_eq_getElem hkl]; rfl
      obtain ⟨ad, rfl, hb, hc⟩ := hr.at_ hu
      have hx := hl l[k] (List.getElem_mem hkl)
      have hs : Hid ((l.take (k + 1)).sum = (l.take k).sum + l[k]) := k_sum_take_succ hkl
      have htot : Hid ((l.take (k + 1)).sum ≤ l.sum) := k_sum_take_le hl _
      have hlen' := Lib.hid hlen
      have hki : (k : Int) < (n : Int) := by omega
      clear hlen hu
      generalize (l.take k).sum = s at *
      generalize l[k] = x at *
      have hsub : (4611686018427387904 - s) % 18446744073709551616 = 4611686018427387904 - s := by omega
      have hwr : IntKind.u64.wrap (4611686018427387904 - s) = 4611686018427387904 - s := by simp [IntKind.wrap, IntKind.bits, IntKind.signed]; omega
      by_cases hov : s + x ≤ 4611686018427387904
      · have hng : ¬ 4611686018427387904 - s < x := by omega
        have hadd : (s + x) % 18446744073709551616 = s + x := by omega
        go_wp2
        go_round
        case rel => exact ⟨k + 1, by omega, by go_num, by rw [hs.out], by rw [hs.out]; exact hov⟩
        case measure => simp [intOf]; omega
      · have hg : 4611686018427387904 - s < x := by omega
        go_wp2
        go_ret2
        have h1 := hs.out
        have h2 := htot.out
        unfold totV totB
        rw [if_neg (by omega), decide_eq_false (by omega)]
        exact ⟨rfl, rfl⟩
    · have hkk : k = n := by omega
      subst hkk
      have hfull : l.take k = l := List.take_of_length_le (by omega)
      rw [hfull] at hlt ⊢
      have HV : Hid (totV l = l.sum) := by show _ = _; unfold totV; rw [if_pos hlt]
      have HE : Hid (totB l = true) := decide_eq_true hlt
      clear hlen hfull
      go_wp2
      go_ret2
      rw [HV.out, HE.out]
      exact ⟨rfl, rfl⟩
/-- a table -/
def tbc (c : Ck) (s : Value) : List Value := ckc c ++ [s]
theorem tbc_len {c : Ck} (h : c.2.length = 32) (s : Value) : (tbc c s).length = 34 := by simp [tbc, ckc_len h]
theorem tbc_slice {c : Ck} (h : c.2.length = 32) (s : Value) : (tbc c s)[33]? = some s := by
  unfold tbc
  rw [List.getElem?_append_right (by rw [ckc_len h]; exact Nat.le_refl _), ckc_len h]; rfl
/-- whether a table is valid -/
def valE (l : List Int) (n v : Int) : Int := if n = v then (if l.sum ≤ 4611686018427387904 then 0 else 4) else 2
set_option maxHeartbeats 400000 in
theorem validate_any (B : Nat) (c : Ck) (hc : c.2.length = 32) (A : Option Addr) (n cap : Nat) (v : Int) (l : List Int) (w : World) (hB : B ≤ w.heap.size) (hr : Row w B 1 A n (ints .u64 l)) (hl : U64 l) (hn : n ≤ 9223372036854775807) :
    Calls Try.prog 39 #[.agg (tbc c (.slice A n cap)).toArray, .int .i64 v] w fun e w' => e = .returned (.int .i64 (valE l n v)) ∧ Below w.heap.size w w' := by
  have XB := bx (Has.new w (tbc c (.slice A n cap)) 38)
  have hcs : (w.alloc (.cells (tbc c (.slice A n cap)).toArray 38)).cell? ⟨w.heap.size, 33, none⟩ = some (.slice A n cap) := (XB.out.cell 33).trans (tbc_slice hc _)
  have EB := bx (ext_alloc w (.cells (tbc c (.slice A n cap)).toArray 38))
  have SU := bx (k_sum_any B A n cap l _ (hr.below (EB.out.mono hB)) hl hn)
  clear hr hl
  by_cases hnv : (n : Int) = v
  · subst hnv
    go_enter Try.func39, Try.ntmps39
    go_wp2_with fail
    refine SU.out.mono ?_; rintro e w' ⟨rfl, rfl⟩
    have HV : Bx (valE l n n = if totB l then 0 else 4) := ⟨by unfold valE totB; rw [if_pos rfl]; simp⟩
    generalize totB l = tb at *
    cases tb with
    | true =>
      go_wp2_with fail
      go_ret
      exact ⟨by rw [HV.out]; rfl, EB.out⟩
    | false =>
      go_wp2_with fail
      go_ret
      exact ⟨by rw [HV.out]; rfl, EB.out⟩
  · have hne : ((n : Int) != v) = true := by rw [bne_iff_ne]; exact hnv
    have HV : Bx (valE l n v = 2) := ⟨by unfold valE; rw [if_neg hnv]⟩
    rw [HV.out]
    clear hnv HV
    go_enter Try.func39, Try.ntmps39
    go_wp2_with fail
    go_ret
    exact ⟨rfl, EB.out⟩
set_option maxHeartbeats 400000 in
theorem refValidate_any (B : Nat) (c : Ck) (hc : c.2.length = 32) (A : Option Addr) (n cap : Nat) (v : Int) (l : List Int) (w : World) (hB : B ≤ w.heap.size) (hr : Row w B 1 A n (ints .u64 l)) (hl : U64 l) (hn : n ≤ 9223372036854775807) :
    Calls Try.prog 24 #[.agg (tbc c (.slice A n cap)).toArray, .int .i64 v] w fun e w' => e = .returned (.int .i64 (valE l n v)) ∧ Below w.heap.size w w' := by
  have XB := bx (Has.new w (tbc c (.slice A n cap)) 38)
  have hcs : (w.alloc (.cells (tbc c (.slice A n cap)).toArray 38)).cell? ⟨w.heap.size, 33, none⟩ = some (.slice A n cap) := (XB.out.cell 33).trans (tbc_slice hc _)
  have EB := bx (ext_alloc w (.cells (tbc c (.slice A n cap)).toArray 38))
  have SU := bx (k_ref_sum B A n cap l _ (hr.below (EB.out.mono hB)) hl hn)
  have S0 := bx (k_sum_nonneg hl)
  clear hr hl
  by_cases hnv : (n : Int) = v
  · subst hnv
    go_enter Try.func24, Try.ntmps24
    go_wp2_with fail
    refine SU.out.mono ?_; rintro e w' ⟨rfl, rfl⟩
    have hs0 := S0.out
    by_cases h1 : l.sum < 18446744073709551616
    · have HV : Bx (k_sumV l = l.sum ∧ k_sumE l = 0) := ⟨by unfold k_sumV k_sumE; rw [if_pos h1, if_pos h1]; exact ⟨rfl, rfl⟩⟩
      rw [HV.out.1, HV.out.2]
      by_cases h2 : l.sum ≤ 4611686018427387904
      · have HE : Bx (valE l n n = 0) := ⟨by unfold valE; rw [if_pos rfl, if_pos h2]⟩
        clear HV
        generalize l.sum = s at *
        have hng : ¬ 4611686018427387904 < s := by omega
        go_wp2_with fail
        go_ret
        exact ⟨by rw [HE.out]; rfl, EB.out⟩
      · have HE : Bx (valE l n n = 4) := ⟨by unfold valE; rw [if_pos rfl, if_neg h2]⟩
        clear HV
        generalize l.sum = s at *
        have hg : 4611686018427387904 < s := by omega
        go_wp2_with fail
        go_ret
        exact ⟨by rw [HE.out]; rfl, EB.out⟩
    · have HV : Bx (k_sumE l = 4) := ⟨by unfold k_sumE; rw [if_neg h1]⟩
      have HE : Bx (valE l n n = 4) := ⟨by unfold valE; rw [if_pos rfl, if_neg (by omega)]⟩
      rw [HV.out]
      clear HV
      generalize k_sumV l = s at *
      go_wp2_with fail
      go_ret
      exact ⟨by rw [HE.out]; rfl, EB.out⟩
  · have hne : ((n : Int) != v) = true := by rw [bne_iff_ne]; exact hnv
    have HV : Bx (valE l n v = 2) := ⟨by unfold valE; rw [if_neg hnv]⟩
    rw [HV.out]
    clear hnv HV
    go_enter Try.func24, Try.ntmps24
    go_wp2_with fail
    go_ret
    exact ⟨rfl, EB.out⟩
end Go.Proofs.Ytekikfdlnkcenaa
