/- Paths, ancestors and descendants of the reference, walked. -/
import Derived.Test.YtonkgjengplppaaNum
import Derived.Test.YtonkgjengplppaaAppM
import Derived.Test.YtonkgjengplppaaAnc
namespace Go.Proofs.Ytonkgjengplppaa
open Go.RowKit
theorem info_int : (Try.prog.info? 3).map (fun i => (i.zero, i.size, i.bytes)) = some (some (.int .i64 0), 1, 8) := by kernel_rfl
theorem Wf.lk {ns : List Nd} (h : Wf ns) : Lk (Go.Proofs.Ytonkgjengplppaa.ups ns) := fun i hi => by
  have hi' : i < ns.length := by simpa [Go.Proofs.Ytonkgjengplppaa.ups] using hi
  rcases Nat.eq_zero_or_pos i with h0 | h0
  · subst h0; exact .inl ⟨rfl, by rw [ups_at hi']; exact h.first hi'⟩
  · obtain ⟨u, hu, e, _⟩ := h.up i hi' h0
    exact .inr ⟨u, hu, by rw [ups_at hi']; exact e⟩
theorem ups_len {ns : List Nd} : (Go.Proofs.Ytonkgjengplppaa.ups ns).length = ns.length := by simp [Go.Proofs.Ytonkgjengplppaa.ups]
/-- a list of indexes -/
def nats (l : List Nat) : List Int := l.map (fun (n : Nat) => (n : Int))
theorem nats_len (l : List Nat) : (nats l).length = l.length := by simp [nats]
theorem nats_mem {l : List Nat} {i : Nat} : ((i : Int) ∈ nats l) ↔ i ∈ l := by
  unfold nats
  constructor
  · intro h
    obtain ⟨a, ha, e⟩ := List.mem_map.1 h
    have : a = i := by omega
    subst this; exact ha
  · intro h; exact List.mem_map.2 ⟨i, h, rfl⟩
/-- an index of a list of this length -/
def inB (i : Int) (n : Nat) : Bool := decide (0 ≤ i ∧ i < n)
theorem is_any (A : Option Addr) (n c : Nat) (i : Int) (w : World) :
    Calls Try.prog 50 #[.agg #[.slice A n c], .int .i64 i] w fun e w' => e = .returned (.bool (inB i n)) ∧ Below w.heap.size w w' := by
  have B := bx (ext_alloc w (.cells #[.slice A n c] 25))
  by_cases h0 : 0 ≤ i
  · have h0' : i ≥ 0 := h0
    by_cases h1 : i < n
    · have HD : Bx (inB i n = true) := ⟨decide_eq_true ⟨h0, h1⟩⟩
      go_enter Try.func50, Try.ntmps50
      go_wp2_with fail
      go_ret
      exact ⟨by rw [HD.out]; rfl, B.out⟩
    · have HD : Bx (inB i n = false) := ⟨decide_eq_false (fun h => h1 h.2)⟩
      go_enter Try.func50, Try.ntmps50
      go_wp2_with fail
      go_ret
      exact ⟨by rw [HD.out]; rfl, B.out⟩
  · have h0' : decide (i ≥ 0) = false := decide_eq_false h0
    have HD : Bx (inB i n = false) := ⟨decide_eq_false (fun h => h0 h.1)⟩
    go_enter Try.func50, Try.ntmps50
    go_wp2_with fail
    go_ret
    exact ⟨by rw [HD.out]; rfl, B.out⟩
theorem not_mem_take {l : List Int} {k : Nat} {x : Int} (hk : k < l.length) (h : x ∉ l.take k) (hne : l.getD k 0 ≠ x) : x ∉ l.take (k + 1) := by
  rw [List.take_succ_eq_append_getElem hk]
  intro hm
  rcases List.mem_append.1 hm with hm | hm
  · exact h hm
  · rw [getD_at hk] at hne
    exact hne (show x = l[k] by simpa using hm).symm
set_option maxRecDepth 20000 in
set_option maxHeartbeats 800000 in
theorem has_any (B : Nat) (A : Option Addr) (n c : Nat) (l : List Int) (x : Int) (w : World) (hr : Row w B 1 A n (ints .i64 l)) (hn : n ≤ 9223372036854775807) :
    Calls Try.prog 26 #[.slice A n c, .int .i64 x] w fun e w' => e = .returned (.bool (decide (x ∈ l))) ∧ w = w' := by
  have LA := bx (row_len hr)
  have HA := bx hr
  clear hr
  go_enter Try.func26, Try.ntmps26
  go_wp2_with fail
  go_loop [5] (fun i => ∃ k : Nat, k ≤ n ∧ i = .int .i64 k ∧ x ∉ l.take k) (fun i => n - (intOf i).toNat)
  case atStart => exact ⟨0, Nat.zero_le _, rfl, by simp⟩
  case round =>
    obtain ⟨k, hk, rfl, hno⟩ := hrel
    have HNO := bx hno
    clear hno
    by_cases hkn : k < n
    · have hka : k < l.length := by rw [LA.out]; exact hkn
      obtain ⟨ad, rfl, hb1, hc1⟩ := HA.out.at_ (ints_at hka)
      have hki : (k : Int) < (n : Int) := by omega
      have hk0 : 0 ≤ (k : Int) := by omega
      have HTM := bx (not_mem_take hka HNO.out)
      have HIN : Bx (l.getD k 0 ∈ l) := ⟨by rw [getD_at hka]; exact List.getElem_mem hka⟩
      generalize l.getD k 0 = y at *
      by_cases hxy : y = x
      · subst hxy
        have HD : Bx (decide (y ∈ l) = true) := ⟨decide_eq_true HIN.out⟩
        go_wp2_with fail
        go_ret
        exact ⟨by rw [HD.out]; rfl, rfl⟩
      · have hne : (y == x) = false := by simpa using hxy
        have HX := bx (HTM.out hxy)
        clear hxy
        go_wp2_with fail
        go_round
        case rel => exact ⟨k + 1, by omega, by go_num, HX.out⟩
        case measure => simp [intOf]; omega
    · have hkk : k = n := by omega
      subst hkk
      have HD : Bx (decide (x ∈ l) = false) := ⟨decide_eq_false (by have := HNO.out; rwa [List.take_of_length_le (by rw [LA.out]; exact Nat.le_refl _)] at this)⟩
      go_wp2_with fail
      go_ret
      exact ⟨by rw [HD.out]; rfl, rfl⟩
end Go.Proofs.Ytonkgjengplppaa
