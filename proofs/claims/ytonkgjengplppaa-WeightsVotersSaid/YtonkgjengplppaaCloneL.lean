/- Clones of lists of numbers and of deltas. -/
import Derived.Test.YtonkgjengplppaaChg
namespace Go.Proofs.Ytonkgjengplppaa
open Go.RowKit
/-- what a clone is -/
def CloneP (t : TypeId) (k n : Nat) (cs : List Value) (w : World) (e : Ending) (w' : World) : Prop :=
  ∃ (A : Option Addr) (c : Nat), e = .returned (.slice A n c) ∧ w'.ownsRow w.heap.size t k (.slice A n c) n cs ∧ Below w.heap.size w w'

set_option maxRecDepth 20000 in
set_option maxHeartbeats 1000000 in
theorem cloneU (h n c : Nat) (cs post : List Value) (w : World) (hh : Has w h (cs ++ post)) (hl : cs.length = n * 1) (h1 : ∀ u ∈ cs, u.oneCell' = true) (hn : n ≤ 4096) (hpos : 0 < n) :
    Calls Try.prog 47 #[.slice (some ⟨h, 0, none⟩) n c] w (CloneP 35 1 n cs w) := by
  obtain ⟨i0, hi0, hz0, hz1, hz2⟩ := info_parts info_u64
  have HI := bx (show Try.prog.info? 35 = some i0 from hi0)
  have HL := bx hl
  have H1 := bx h1
  have he : ∀ (n c : Nat) (w : World), (binOp .eql 29 (.slice (some ⟨h, 0, none⟩) n c) (.slice none 0 0)).run Try.prog w = .ok (.bool false) w := fun _ _ _ => rfl
  have HO := bx (Apd.drew (.inl (World.ownsRow_made (base := w.heap.size) (e := 35) (size := 1) w #[] 0 (Nat.le_refl _) (Nat.zero_le _) rfl) : Apd (w.alloc (.cells #[] 35)) w.heap.size 35 1 (.slice (some ⟨w.heap.size, 0, none⟩) 0 0) 0 []))
  have HO' : Bx (Apd (w.alloc (.cells #[] 35)) w.heap.size 35 1 (.slice (some ⟨w.heap.size, 0, none⟩) 0 0) 0 []) := ⟨HO.out⟩
  have HC : Bx (∀ j u, cs[j]? = some u → (w.alloc (.cells #[] 35)).cell? ((⟨h, 0, none⟩ : Addr).add j) = some u) := ⟨fun j u hu => by
    rw [add_at, (hh.alloc _).cell, Nat.zero_add, List.getElem?_append_left (List.getElem?_eq_some_iff.1 hu).1]; exact hu⟩
  have HM : Bx (0 + n ≤ maxLen) := ⟨by unfold maxLen; omega⟩
  have HM2 : Bx ((0 + n) * 8 ≤ 140737488355328) := ⟨by omega⟩
  have HB : Bx (w.heap.size ≤ (w.alloc (.cells #[] 35)).heap.size) := ⟨by simp⟩
  have HB0 := bx ((Below.refl w.heap.size w).alloc (Nat.le_refl _) (.cells #[] 35))
  clear hh hi0 hl h1
  go_enter Try.func47, Try.ntmps47
  go_wp2_with (at_builtin; (with_reducible refine wpList_pushAt rfl (.tmp 5) (.tmp 6) 29 rfl i0 _ 8 Try.underlying29 HI.out hz0 hz1 hz2 ?_ ?_ ?_ HO'.out ⟨h, 0, none⟩ n c cs ?_ hpos HL.out HC.out H1.out HM.out HM2.out HB.out ?_); rfl; omega; rfl; rfl; intro v' w' hown' _ hbel' _; have HW := bx hown'; have HB1 := bx hbel'; clear hown' hbel')
  go_ret
  have hw := HW.out
  rw [Nat.zero_add, List.nil_append] at hw
  obtain ⟨A2, c2, rfl⟩ := own_slice hw
  exact ⟨A2, c2, rfl, hw, HB0.out.trans HB1.out⟩

set_option maxRecDepth 20000 in
set_option maxHeartbeats 1000000 in
theorem cloneD (h n c : Nat) (cs post : List Value) (w : World) (hh : Has w h (cs ++ post)) (hl : cs.length = n * 2) (h1 : ∀ u ∈ cs, u.oneCell' = true) (hn : n ≤ 4096) (hpos : 0 < n) :
    Calls Try.prog 53 #[.slice (some ⟨h, 0, none⟩) n c] w (CloneP 94 2 n cs w) := by
  obtain ⟨i0, hi0, hz0, hz1, hz2⟩ := info_parts info_dl
  have HI := bx (show Try.prog.info? 94 = some i0 from hi0)
  have HL := bx hl
  have H1 := bx h1
  have he : ∀ (n c : Nat) (w : World), (binOp .eql 61 (.slice (some ⟨h, 0, none⟩) n c) (.slice none 0 0)).run Try.prog w = .ok (.bool false) w := fun _ _ _ => rfl
  have HO := bx (Apd.drew (.inl (World.ownsRow_made (base := w.heap.size) (e := 94) (size := 2) w #[] 0 (Nat.le_refl _) (Nat.zero_le _) rfl) : Apd (w.alloc (.cells #[] 94)) w.heap.size 94 2 (.slice (some ⟨w.heap.size, 0, none⟩) 0 0) 0 []))
  have HO' : Bx (Apd (w.alloc (.cells #[] 94)) w.heap.size 94 2 (.slice (some ⟨w.heap.size, 0, none⟩) 0 0) 0 []) := ⟨HO.out⟩
  have HC : Bx (∀ j u, cs[j]? = some u → (w.alloc (.cells #[] 94)).cell? ((⟨h, 0, none⟩ : Addr).add j) = some u) := ⟨fun j u hu => by
    rw [add_at, (hh.alloc _).cell, Nat.zero_add, List.getElem?_append_left (List.getElem?_eq_some_iff.1 hu).1]; exact hu⟩
  have HM : Bx (0 + n ≤ maxLen) := ⟨by unfold maxLen; omega⟩
  have HM2 : Bx ((0 + n) * 16 ≤ 140737488355328) := ⟨by omega⟩
  have HB : Bx (w.heap.size ≤ (w.alloc (.cells #[] 94)).heap.size) := ⟨by simp⟩
  have HB0 := bx ((Below.refl w.heap.size w).alloc (Nat.le_refl _) (.cells #[] 94))
  clear hh hi0 hl h1
  go_enter Try.func53, Try.ntmps53
  go_wp2_with (at_builtin; (with_reducible refine wpList_pushAt rfl (.tmp 5) (.tmp 6) 61 rfl i0 _ 16 Try.underlying61 HI.out hz0 hz1 hz2 ?_ ?_ ?_ HO'.out ⟨h, 0, none⟩ n c cs ?_ hpos HL.out HC.out H1.out HM.out HM2.out HB.out ?_); rfl; omega; rfl; rfl; intro v' w' hown' _ hbel' _; have HW := bx hown'; have HB1 := bx hbel'; clear hown' hbel')
  go_ret
  have hw := HW.out
  rw [Nat.zero_add, List.nil_append] at hw
  obtain ⟨A2, c2, rfl⟩ := own_slice hw
  exact ⟨A2, c2, rfl, hw, HB0.out.trans HB1.out⟩
end Go.Proofs.Ytonkgjengplppaa
