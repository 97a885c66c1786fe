/- Two lists of numbers are compared. -/
import Derived.Test.YtekikfdlnkcenaaGen
import Derived.Test.YtekikfdlnkcenaaRootEq
namespace Go.Proofs.Ytekikfdlnkcenaa
open Go.RowKit
theorem row_len {w : World} {B : Nat} {A : Option Addr} {n : Nat} {k : IntKind} {l : List Int} (h : Row w B 1 A n (ints k l)) : l.length = n := by have := h.1; simpa [ints] using this
theorem ints_at {k : IntKind} {l : List Int} {i : Nat} (h : i < l.length) : (ints k l)[i]? = some (.int k (l.getD i 0)) := by
  unfold ints
  rw [List.getElem?_map, List.getElem?_eq_getElem h, getD_at h]
  rfl
theorem take_more {a b : List Int} {k : Nat} (ha : k < a.length) (hb : k < b.length) (h : a.take k = b.take k) (he : a.getD k 0 = b.getD k 0) : a.take (k + 1) = b.take (k + 1) := by
  rw [List.take_succ_eq_append_getElem ha, List.take_succ_eq_append_getElem hb, h, ← getD_at ha, ← getD_at hb, he]
set_option maxRecDepth 20000 in
set_option maxHeartbeats 1000000 in
theorem sameNumbers_any (B : Nat) (A A' : Option Addr) (n n' c c' : Nat) (a b : List Int) (w : World) (hB : B ≤ w.heap.size) (ha : Row w B 1 A n (ints .u64 a)) (hb : Row w B 1 A' n' (ints .u64 b)) (hn : n ≤ 9223372036854775807) (hn' : n' ≤ 9223372036854775807) :
    Calls Try.prog 104 #[.slice A n c, .slice A' n' c'] w fun e w' => e = .returned (.bool (decide (a = b))) ∧ Below w.heap.size w w' := by
  have la := row_len ha
  have lb := row_len hb
  have HA := bx ha
  have HB := bx hb
  have HBB := bx hB
  clear ha hb hB
  by_cases hnn : n = n'
  · subst hnn
    have LA := bx la
    have LB := bx lb
    clear la lb
    go_enter Try.func104, Try.ntmps104
    go_wp2_with fail
    go_loopw [5] (fun i wr => ∃ k : Nat, k ≤ n ∧ i = .int .i64 k ∧ a.take k = b.take k ∧ Below w.heap.size w wr) (fun i _ => n - (intOf i).toNat)
    case atStart => exact ⟨0, Nat.zero_le _, rfl, rfl, Below.refl _ _⟩
    case round =>
      obtain ⟨k, hk, rfl, htk, hbel⟩ := hrel
      have HTK := bx htk
      have HBEL := bx hbel
      clear htk hbel
      by_cases hkn : k < n
      · have hka : k < a.length := by rw [LA.out]; exact hkn
        have hkb : k < b.length := by rw [LB.out]; exact hkn
        obtain ⟨ad, rfl, hb1, hc1⟩ := (HA.out.below (HBEL.out.mono HBB.out)).at_ (ints_at hka)
        obtain ⟨ad', rfl, hb2, hc2⟩ := (HB.out.below (HBEL.out.mono HBB.out)).at_ (ints_at hkb)
        have hki : (k : Int) < (n : Int) := by omega
        have hk0 : 0 ≤ (k : Int) := by omega
        have HTM := bx (take_more hka hkb HTK.out)
        have HNE : Bx (a.getD k 0 ≠ b.getD k 0 → a ≠ b) := ⟨fun hne he => hne (by rw [he])⟩
        generalize a.getD k 0 = x at *
        generalize b.getD k 0 = y at *
        by_cases hxy : x = y
        · subst hxy
          go_wp2_with fail
          go_quiet (fail)
          go_wp2_with fail
          go_roundw
          case rel => exact ⟨k + 1, by omega, by go_num, HTM.out (by first | rfl | trivial), below_dN HBEL.out _⟩
          case measure => simp [intOf]; omega
        · have hne : (x == y) = false := by simpa using hxy
          have hne' : (x != y) = true := by simpa using hxy
          have HD : Bx (decide (a = b) = false) := ⟨decide_eq_false (HNE.out hxy)⟩
          go_wp2_with fail
          go_quiet (fail)
          go_wp2_with fail
          go_ret
          exact ⟨by rw [HD.out]; rfl, below_dN HBEL.out _⟩
      · have hkk : k = n := by omega
        subst hkk
        have he : a = b := by
          have h1 : a.take k = a := List.take_of_length_le (by rw [LA.out]; exact Nat.le_refl _)
          have h2 : b.take k = b := List.take_of_length_le (by rw [LB.out]; exact Nat.le_refl _)
          rw [← h1, ← h2]; exact HTK.out
        have HD : Bx (decide (a = b) = true) := ⟨decide_eq_true he⟩
        clear he
        go_wp2_with fail
        go_ret
        exact ⟨by rw [HD.out]; rfl, HBEL.out⟩
  · have hne : ¬ (n : Int) = (n' : Int) := by omega
    have HD : Bx (decide (a = b) = false) := ⟨decide_eq_false (fun h => hnn (by rw [← la, ← lb, h]))⟩
    have hne' : ((n : Int) != (n' : Int)) = true := by simp; omega
    clear la lb
    go_enter Try.func104, Try.ntmps104
    go_wp2_with fail
    go_ret
    exact ⟨by rw [HD.out]; rfl, Below.refl _ _⟩
end Go.Proofs.Ytekikfdlnkcenaa
