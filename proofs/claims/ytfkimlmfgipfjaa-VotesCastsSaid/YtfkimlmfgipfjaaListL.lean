/- Lists of validators for casts. -/
import Derived.Test.YtfkimlmfgipfjaaSomeL
namespace Go.Proofs.Ytfkimlmfgipfjaa
open Go.RowKit

theorem someL_len (n : Nat) (b : Int) : (someL n b).length ≤ n + 1 := by
  unfold someL
  split
  · simp
  · have := someGo_len b n; omega
def AnyPost (m : Nat) (w : World) (e : Ending) (w' : World) : Prop :=
  ∃ v l, l.length ≤ m ∧ e = .returned v ∧ w'.ownsRow w.heap.size 3 1 v l.length (ints .i64 l) ∧ Below w.heap.size w w'

set_option maxRecDepth 20000 in
set_option maxHeartbeats 1000000 in
theorem list_any (n : Nat) (hn : n ≤ 7) (k : Int) (w : World) :
    Calls Try.prog 18 #[.int .i64 n, .int .i64 k] w (AnyPost (n + 2) w) := by
  obtain ⟨i0, hi0, hz0, hz1, hz2⟩ := info_parts info_int
  have HI := Lib.hid (show Try.prog.info? 3 = some i0 from hi0)
  clear hi0
  have HS := Lib.hid (some_any n (by omega) k w)
  have HLL := Lib.hid (someL_len n k)
  go_enter Try.func18, Try.ntmps18
  go_wp2_with fail
  refine HS.out.mono ?_; rintro e w1 ⟨v, he, ho, hb⟩
  subst he
  have HO := Lib.hid ho
  have HB := Lib.hid hb
  have HSZ := Lib.hid hb.size
  clear ho hb
  generalize someL n k = l at *
  have HM1 : Hid (l.length + 1 ≤ maxLen) := by have := HLL.out; show _ ≤ _; unfold maxLen; omega
  have HM2 : Hid ((l.length + 1) * 8 ≤ 140737488355328) := by have := HLL.out; show _ ≤ _; omega
  have C1 : Hid (∀ x : Int, ∀ u ∈ [Value.int .i64 x], u.oneCell' = true) := by intro x u hu; simp at hu; subst hu; rfl
  obtain ⟨A, c, hv⟩ := own_slice HO.out
  subst hv
  have HNIL : Hid (∀ w2 : World, w2.ownsRow w.heap.size 3 1 (.slice none 0 0) 0 (ints .i64 [])) := fun w2 => World.ownsRow_nil _ _ _ _
  by_cases hA : bits .and .i64 (k / 256) 15 = 15
  · by_cases hB : bits .and .i64 (k / 32768) 15 = 15
    · go_wp2_with (at_builtin; (with_reducible refine wpList_push rfl (.tmp 13) (.tmp 17) 40 rfl w.heap.size 3 i0 _ 1 8 Try.underlying40 HI.out hz0 hz1 hz2 rfl (by omega) _ _ _ ?_ HO.out [.int .i64 (bits .and .i64 (k / 4096) 7)] ?_ rfl (C1.out _) HM1.out HM2.out HSZ.out ?_); rfl; rfl; intro v' w' hown' hg' hbel' _; have HOWN3 := Lib.hid hown'; have HB3 := Lib.hid (HB.out.trans hbel'); clear hown' hg' hbel')
      go_ret
      exact ⟨_, [], Nat.zero_le _, rfl, HNIL.out _, HB3.out⟩
    · go_wp2_with (at_builtin; (with_reducible refine wpList_push rfl (.tmp 13) (.tmp 17) 40 rfl w.heap.size 3 i0 _ 1 8 Try.underlying40 HI.out hz0 hz1 hz2 rfl (by omega) _ _ _ ?_ HO.out [.int .i64 (bits .and .i64 (k / 4096) 7)] ?_ rfl (C1.out _) HM1.out HM2.out HSZ.out ?_); rfl; rfl; intro v' w' hown' hg' hbel' _; have HOWN3 := Lib.hid hown'; have HB3 := Lib.hid (HB.out.trans hbel'); clear hown' hg' hbel')
      go_ret
      exact ⟨_, l ++ [bits .and .i64 (k / 4096) 7], by have := HLL.out; simp; omega, rfl, by have := HOWN3.out; simpa [ints] using this, HB3.out⟩
  · by_cases hB : bits .and .i64 (k / 32768) 15 = 15
    · go_wp2_with fail
      go_ret
      exact ⟨_, [], Nat.zero_le _, rfl, HNIL.out _, HB.out⟩
    · go_wp2_with fail
      go_ret
      exact ⟨_, l, by have := HLL.out; omega, rfl, HO.out, HB.out⟩
end Go.Proofs.Ytfkimlmfgipfjaa
