/- Lists of numbers: Numbers builds them, SameNumbers compares them. -/
import Derived.Test.YtonkgjengplppaaTreeA
import Derived.Deep.CutRange
namespace Go.Proofs.Ytonkgjengplppaa
open Go.RowKit
theorem info_u64 : (Try.prog.info? 35).map (fun i => (i.zero, i.size, i.bytes)) = some (some (.int .u64 0), 1, 8) := by kernel_rfl
theorem and_255 (n : Int) : bits .and .i64 n 255 = n % 256 := and_ones n 8 (by decide)
theorem row_len {w : World} {B : Nat} {A : Option Addr} {n : Nat} {k : IntKind} {l : List Int} (h : Row w B 1 A n (ints k l)) : l.length = n := by have := h.1; simpa [ints] using this
theorem getD_at {l : List Int} {i : Nat} (h : i < l.length) : l.getD i 0 = l[i] := by simp [List.getD, List.getElem?_eq_getElem h]
theorem ints_at {k : IntKind} {l : List Int} {i : Nat} (h : i < l.length) : (ints k l)[i]? = some (.int k (l.getD i 0)) := by
  unfold ints
  rw [List.getElem?_map, List.getElem?_eq_getElem h, getD_at h]
  rfl
theorem take_more {a b : List Int} {k : Nat} (ha : k < a.length) (hb : k < b.length) (h : a.take k = b.take k) (he : a.getD k 0 = b.getD k 0) : a.take (k + 1) = b.take (k + 1) := by
  rw [List.take_succ_eq_append_getElem ha, List.take_succ_eq_append_getElem hb, h, ← getD_at ha, ← getD_at hb, he]
theorem ints_push (k : IntKind) (l : List Int) (x : Int) : ints k (l ++ [x]) = ints k l ++ [.int k x] := by simp [ints]
theorem ints_len (k : IntKind) (l : List Int) : (ints k l).length = l.length := by simp [ints]
/-- small numbers -/
def Small (l : List Int) : Prop := ∀ x ∈ l, 0 ≤ x ∧ x ≤ 72057594037927936
/-- a list of n small numbers, in a row of its own -/
def NumP (n : Nat) (w : World) (e : Ending) (w' : World) : Prop :=
  ∃ (A : Option Addr) (c : Nat) (xs : List Int), xs.length = n ∧ Small xs ∧ e = .returned (.slice A n c) ∧ w'.ownsRow w.heap.size 35 1 (.slice A n c) n (ints .u64 xs) ∧ Below w.heap.size w w'
set_option maxRecDepth 20000 in
set_option maxHeartbeats 1000000 in
theorem numbers_any (B : Nat) (A : Option Addr) (m c : Nat) (l : List Int) (n : Nat) (hn : n ≤ 65535) (w : World) (hr : Row w B 1 A m (ints .i64 l)) (hm : m ≤ maxLen) (hB : B ≤ w.heap.size) :
    Calls Try.prog 28 #[.slice A m c, .int .i64 n] w (NumP n w) := by
  obtain ⟨i0, hi0, hz0, hz1, hz2⟩ := info_parts info_u64
  have HI := bx (show Try.prog.info? 35 = some i0 from hi0)
  have HR := bx hr
  have HMX := bx hm
  have HBB := bx hB
  have HN := bx hn
  have HAND : Bx (∀ n : Int, bits .and .i64 n 255 = n % 256) := ⟨and_255⟩
  clear hi0 hr hm hB
  go_enter Try.func28, Try.ntmps28
  go_wp2_with fail
  go_loopw [5, 6] (fun s i wr => ∃ (k : Nat) (xs : List Int), k ≤ n ∧ i = .int .i64 k ∧ xs.length = k ∧ Small xs ∧ wr.ownsRow w.heap.size 35 1 s k (ints .u64 xs) ∧ Below w.heap.size w wr) (fun _ i _ => n - (intOf i).toNat)
  case atStart => exact ⟨0, [], Nat.zero_le _, rfl, rfl, fun x hx => by simp at hx, World.ownsRow_nil _ _ _ _, Below.refl _ _⟩
  case round =>
    obtain ⟨k, xs, hk, rfl, hxl, hsm, hown, hbel⟩ := hrel
    have HOWN := bx hown
    have HBEL := bx hbel
    have HSM := bx hsm
    clear hown hbel hsm
    obtain ⟨A1, c1, hv⟩ := own_slice HOWN.out
    subst hv
    by_cases hkn : k < n
    · have hki : (k : Int) < (n : Int) := by omega
      have hk5 : k ≤ 65535 := by omega
      have HAT := bx (at_any B A m c l k hk5 wr (HR.out.below (HBEL.out.mono HBB.out)) HMX.out (Nat.le_trans HBB.out HBEL.out.size))
      have HM1 : Bx (k + 1 ≤ maxLen) := ⟨by unfold maxLen; omega⟩
      have HM2 : Bx ((k + 1) * 8 ≤ 140737488355328) := ⟨by omega⟩
      have HMS : Bx (n - (k + 1) < n - k) := ⟨by omega⟩
      clear hn
      go_wp2_with fail
      refine HAT.out.mono ?_; rintro e w1 ⟨⟨q, hq, rfl⟩, hb⟩
      have HO1 := bx (own_ext HOWN.out hb)
      have HB1 := bx (HBEL.out.trans (hb.mono HBEL.out.size))
      clear hb
      have ha := HAND.out (q : Int)
      have h256 : (q : Int) % 256 % 18446744073709551616 = (q : Int) % 256 := by omega
      by_cases h11 : (q : Int) / 256 % 11 = 0
      · have C1 : Bx (∀ u ∈ [Value.int .u64 72057594037927936], u.oneCell' = true) := ⟨by intro u hu; simp at hu; subst hu; rfl⟩
        have HSM2 : Bx (Small (xs ++ [72057594037927936])) := ⟨fun x hx => by
          rcases List.mem_append.1 hx with hx | hx
          · exact HSM.out x hx
          · simp at hx; subst hx; decide⟩
        go_wp2_with (at_builtin; (with_reducible refine wpList_push rfl (.tmp 24) (.tmp 26) 29 rfl w.heap.size 35 i0 _ 1 8 Try.underlying29 HI.out hz0 hz1 hz2 rfl (by omega) _ _ _ ?_ HO1.out [.int .u64 72057594037927936] ?_ rfl C1.out HM1.out HM2.out HB1.out.size ?_); rfl; rfl; intro v' w' hown' hg' hbel' _; have HOWN3 := bx hown'; have HB3 := bx (HB1.out.trans hbel'); clear hown' hg' hbel')
        go_roundw
        case rel => exact ⟨k + 1, xs ++ [72057594037927936], hkn, by go_num, by rw [List.length_append, hxl]; rfl, HSM2.out, by rw [ints_push]; exact HOWN3.out, HB3.out⟩
        case measure => simp [intOf]; omega
      · have C1 : Bx (∀ u ∈ [Value.int .u64 ((q : Int) % 256)], u.oneCell' = true) := ⟨by intro u hu; simp at hu; subst hu; rfl⟩
        have HSM2 : Bx (Small (xs ++ [(q : Int) % 256])) := ⟨fun x hx => by
          rcases List.mem_append.1 hx with hx | hx
          · exact HSM.out x hx
          · simp at hx; subst hx; omega⟩
        go_wp2_with (at_builtin; (with_reducible refine wpList_push rfl (.tmp 24) (.tmp 26) 29 rfl w.heap.size 35 i0 _ 1 8 Try.underlying29 HI.out hz0 hz1 hz2 rfl (by omega) _ _ _ ?_ HO1.out [.int .u64 ((q : Int) % 256)] ?_ rfl C1.out HM1.out HM2.out HB1.out.size ?_); rfl; rfl; intro v' w' hown' hg' hbel' _; have HOWN3 := bx hown'; have HB3 := bx (HB1.out.trans hbel'); clear hown' hg' hbel')
        go_roundw
        case rel => exact ⟨k + 1, xs ++ [(q : Int) % 256], hkn, by go_num, by rw [List.length_append, hxl]; rfl, HSM2.out, by rw [ints_push]; exact HOWN3.out, HB3.out⟩
        case measure => simp [intOf]; omega
    · have hkk : k = n := by omega
      subst hkk
      go_wp2_with fail
      go_ret
      exact ⟨A1, c1, xs, hxl, HSM.out, rfl, HOWN.out, HBEL.out⟩
set_option maxRecDepth 20000 in
set_option maxHeartbeats 1000000 in
theorem sameNumbers_any (B : Nat) (A A' : Option Addr) (n n' c c' : Nat) (a b : List Int) (w : World) (hB : B ≤ w.heap.size) (ha : Row w B 1 A n (ints .u64 a)) (hb : Row w B 1 A' n' (ints .u64 b)) (hn : n ≤ 9223372036854775807) (hn' : n' ≤ 9223372036854775807) :
    Calls Try.prog 18 #[.slice A n c, .slice A' n' c'] w fun e w' => e = .returned (.bool (decide (a = b))) ∧ Below w.heap.size w w' := by
  have la := row_len ha
  have lb := row_len hb
  have HA := bx ha
  have HB := bx hb
  have HBB := bx hB
  clear ha hb hB
  by_cases hnn : n = n'
  · subst hnn
    have LA := bx la
    have LB := bx lb
    clear la lb
    go_enter Try.func18, Try.ntmps18
    go_wp2_with fail
    go_loopw [5] (fun i wr => ∃ k : Nat, k ≤ n ∧ i = .int .i64 k ∧ a.take k = b.take k ∧ Below w.heap.size w wr) (fun i _ => n - (intOf i).toNat)
    case atStart => exact ⟨0, Nat.zero_le _, rfl, rfl, Below.refl _ _⟩
    case round =>
      obtain ⟨k, hk, rfl, htk, hbel⟩ := hrel
      have HTK := bx htk
      have HBEL := bx hbel
      clear htk hbel
      by_cases hkn : k < n
      · have hka : k < a.length := by rw [LA.out]; exact hkn
        have hkb : k < b.length := by rw [LB.out]; exact hkn
        obtain ⟨ad, rfl, hb1, hc1⟩ := (HA.out.below (HBEL.out.mono HBB.out)).at_ (ints_at hka)
        obtain ⟨ad', rfl, hb2, hc2⟩ := (HB.out.below (HBEL.out.mono HBB.out)).at_ (ints_at hkb)
        have hki : (k : Int) < (n : Int) := by omega
        have hk0 : 0 ≤ (k : Int) := by omega
        have HTM := bx (take_more hka hkb HTK.out)
        have HNE : Bx (a.getD k 0 ≠ b.getD k 0 → a ≠ b) := ⟨fun hne he => hne (by rw [he])⟩
        generalize a.getD k 0 = x at *
        generalize b.getD k 0 = y at *
        by_cases hxy : x = y
        · subst hxy
          go_wp2_with fail
          go_quiet (fail)
          go_wp2_with fail
          go_roundw
          case rel => exact ⟨k + 1, by omega, by go_num, HTM.out (by first | rfl | trivial), below_dN HBEL.out _⟩
          case measure => simp [intOf]; omega
        · have hne : (x == y) = false := by simpa using hxy
          have hne' : (x != y) = true := by simpa using hxy
          have HD : Bx (decide (a = b) = false) := ⟨decide_eq_false (HNE.out hxy)⟩
          go_wp2_with fail
          go_quiet (fail)
          go_wp2_with fail
          go_ret
          exact ⟨by rw [HD.out]; rfl, below_dN HBEL.out _⟩
      · have hkk : k = n := by omega
        subst hkk
        have he : a = b := by
          have h1 : a.take k = a := List.take_of_length_le (by rw [LA.out]; exact Nat.le_refl _)
          have h2 : b.take k = b := List.take_of_length_le (by rw [LB.out]; exact Nat.le_refl _)
          rw [← h1, ← h2]; exact HTK.out
        have HD : Bx (decide (a = b) = true) := ⟨decide_eq_true he⟩
        clear he
        go_wp2_with fail
        go_ret
        exact ⟨by rw [HD.out]; rfl, HBEL.out⟩
  · have hne : ¬ (n : Int) = (n' : Int) := by omega
    have HD : Bx (decide (a = b) = false) := ⟨decide_eq_false (fun h => hnn (by rw [← la, ← lb, h]))⟩
    have hne' : ((n : Int) != (n' : Int)) = true := by simp; omega
    clear la lb
    go_enter Try.func18, Try.ntmps18
    go_wp2_with fail
    go_ret
    exact ⟨by rw [HD.out]; rfl, Below.refl _ _⟩
end Go.Proofs.Ytonkgjengplppaa
