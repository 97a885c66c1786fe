/- Lists of validators from the bits of a number. -/
import Derived.Test.YtfkimlmfgipfjaaClone
namespace Go.Proofs.Ytfkimlmfgipfjaa
open Go.RowKit

/-- bit k -/
def bitOn (b : Int) (k : Nat) : Bool := bits .and .i64 (b / 2 ^ k) 1 == 1
def someGo (b : Int) (k : Nat) : List Int := ((List.range k).filter fun i => bitOn b i).map Int.ofNat
def someL (n : Nat) (b : Int) : List Int := if someGo b n = [] ∧ 0 < n then [0] else someGo b n
theorem someGo_yes {b : Int} {k : Nat} (h : bitOn b k = true) : someGo b (k + 1) = someGo b k ++ [(k : Int)] := by
  simp only [someGo, List.range_succ, List.filter_append, List.map_append]
  rw [List.filter_cons, if_pos (by exact h)]
  simp
theorem someGo_no {b : Int} {k : Nat} (h : bitOn b k = false) : someGo b (k + 1) = someGo b k := by
  simp only [someGo, List.range_succ, List.filter_append, List.map_append]
  rw [List.filter_cons, if_neg (by rw [h]; simp)]
  simp
theorem someGo_len (b : Int) (k : Nat) : (someGo b k).length ≤ k := by
  simp only [someGo, List.length_map]
  exact Nat.le_trans (List.length_filter_le _ _) (by simp)

set_option maxRecDepth 20000 in
set_option maxHeartbeats 1000000 in
theorem some_any (n : Nat) (hn : n ≤ 64) (b : Int) (w : World) :
    Calls Try.prog 41 #[.int .i64 n, .int .i64 b] w (SupPost (someL n b) w) := by
  obtain ⟨i0, hi0, hz0, hz1, hz2⟩ := info_parts info_int
  have HI := Lib.hid (show Try.prog.info? 3 = some i0 from hi0)
  clear hi0
  go_enter Try.func41, Try.ntmps41
  go_wp2
  go_loopw [5, 6] (fun s i wr => ∃ k : Nat, k ≤ n ∧ i = .int .i64 k ∧ wr.ownsRow w.heap.size 3 1 s (someGo b k).length (ints .i64 (someGo b k)) ∧ Below w.heap.size w wr) (fun _ i _ => n - (intOf i).toNat)
  case atStart => exact ⟨0, Nat.zero_le _, rfl, World.ownsRow_nil _ _ _ _, Below.refl _ _⟩
  case round =>
    obtain ⟨k, hk, rfl, hown, hbel⟩ := hrel
    have HOWN := Lib.hid hown
    have HBEL := Lib.hid hbel
    clear hown hbel
    by_cases hkn : k < n
    · have hki : (k : Int) < (n : Int) := by omega
      have C1 : Hid (∀ u ∈ [Value.int .i64 (k : Int)], u.oneCell' = true) := by intro u hu; simp at hu; subst hu; rfl
      have HM1 : Hid ((someGo b k).length + 1 ≤ maxLen) := by have := someGo_len b k; show _ ≤ _; unfold maxLen; omega
      have HM2 : Hid (((someGo b k).length + 1) * 8 ≤ 140737488355328) := by have := someGo_len b k; show _ ≤ _; omega
      cases hb1 : bitOn b k with
      | true =>
        have HN := Lib.hid (someGo_yes hb1)
        have hbb : (bits .and .i64 (b / 2 ^ k) 1 == 1) = true := hb1
        clear hb1
        go_wp2_with (at_builtin; (with_reducible refine wpList_push rfl (.tmp 18) (.tmp 20) 40 rfl w.heap.size 3 i0 _ 1 8 Try.underlying40 HI.out hz0 hz1 hz2 rfl (by omega) _ _ _ ?_ HOWN.out [.int .i64 k] ?_ rfl C1.out ?_ ?_ ?_ ?_); rfl; rfl; exact HM1.out; exact HM2.out; exact HBEL.out.size; intro v' w' hown' hg' hbel' _; have HOWN3 := Lib.hid hown'; have HB3 := Lib.hid (HBEL.out.trans hbel'); clear hown' hg' hbel')
        go_roundw
        case rel =>
          refine ⟨k + 1, by omega, by go_num, ?_, HB3.out⟩
          have e1 : ints .i64 (someGo b k ++ [(k : Int)]) = ints .i64 (someGo b k) ++ [.int .i64 (k : Int)] := by simp [ints]
          rw [HN.out, List.length_append, e1]
          exact HOWN3.out
        case measure => simp [intOf]; omega
      | false =>
        have HN := Lib.hid (someGo_no hb1)
        have hbb : (bits .and .i64 (b / 2 ^ k) 1 == 1) = false := hb1
        clear hb1
        go_wp2
        go_roundw
        case rel => exact ⟨k + 1, by omega, by go_num, by rw [HN.out]; exact HOWN.out, HBEL.out⟩
        case measure => simp [intOf]; omega
    · have hkk : k = n := by omega
      subst hkk
      obtain ⟨A, c, hv⟩ := own_slice HOWN.out
      subst hv
      have HSOM : Hid (someL k b = if someGo b k = [] ∧ 0 < k then [0] else someGo b k) := rfl
      by_cases he : (someGo b k).length = 0
      · have hnil : Hid (someGo b k = []) := List.eq_nil_of_length_eq_zero he
        by_cases hk0 : k = 0
        · subst hk0
          have HS : Hid (someL 0 b = []) := by show _ = _; rw [HSOM.out, if_neg (by omega)]; exact hnil.out
          rw [hnil.out] at HOWN
          go_wp2
          go_ret
          exact ⟨_, rfl, by rw [HS.out]; exact HOWN.out, HBEL.out⟩
        · have hkp : 0 < k := by omega
          have HS : Hid (someL k b = [0]) := by show _ = _; rw [HSOM.out, if_pos ⟨hnil.out, hkp⟩]
          have HW : Hid ((wr.alloc (.cells #[.int .i64 0] 3)).ownsRow w.heap.size 3 1 (.slice (some ⟨wr.heap.size, 0, none⟩) 1 1) 1 (ints .i64 [0])) :=
            ⟨rfl, .inr ⟨wr.heap.size, 1, #[.int .i64 0], rfl, HBEL.out.size, heap_alloc_new wr _, Nat.le_refl _, (by unfold maxLen; omega), rfl, rfl⟩⟩
          go_wp2
          go_ret
          exact ⟨_, rfl, by rw [HS.out]; exact HW.out, HBEL.out.alloc HBEL.out.size _⟩
      · have hne : ¬ ((someGo b k).length : Int) = 0 := by omega
        have HS : Hid (someL k b = someGo b k) := by show _ = _; rw [HSOM.out, if_neg (fun h => he (by rw [h.1]; rfl))]
        go_wp2
        go_ret
        exact ⟨_, rfl, by rw [HS.out]; exact HOWN.out, HBEL.out⟩
end Go.Proofs.Ytfkimlmfgipfjaa
