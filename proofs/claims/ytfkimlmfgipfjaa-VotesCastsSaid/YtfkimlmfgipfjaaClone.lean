/- Votes: the list of all votes. -/
import Derived.Test.YtfkimlmfgipfjaaSup
namespace Go.Proofs.Ytfkimlmfgipfjaa
open Go.RowKit

def ListPost (vs : List Vt) (w : World) (e : Ending) (w' : World) : Prop :=
  ∃ v, e = .returned v ∧ w'.ownsRow w.heap.size 35 34 v vs.length (vs.flatMap vc) ∧ Below w.heap.size w w'

set_option maxRecDepth 20000 in
set_option maxHeartbeats 1000000 in
theorem clone_any {h : Nat} {vs : List Vt} (w : World) (hh : Has w h (vs.flatMap vc)) (hv : VL vs) (hn : vs.length ≤ 1024) :
    Calls Try.prog 40 #[.slice (some ⟨h, 0, none⟩) vs.length vs.length] w (ListPost vs w) := by
  obtain ⟨i0, hi0, hz0, hz1, hz2⟩ := info_parts info_vote
  have HI := Lib.hid (show Try.prog.info? 35 = some i0 from hi0)
  have HH := Lib.hid hh
  have HV := Lib.hid hv
  clear hh hv hi0
  have he : ∀ (n c : Nat) (w : World), (binOp .eql 38 (.slice (some ⟨h, 0, none⟩) n c) (.slice none 0 0)).run Try.prog w = .ok (.bool false) w := fun _ _ _ => rfl
  by_cases h0 : vs.length = 0
  · obtain rfl : vs = [] := List.eq_nil_of_length_eq_zero h0
    go_enter Try.func40, Try.ntmps40
    go_wp2_with fail
    go_ret
    exact ⟨_, rfl, World.ownsRow_made w #[] 0 (Nat.le_refl _) (Nat.zero_le _) rfl, (Below.refl _ _).alloc (Nat.le_refl _) _⟩
  · have hpos : 0 < vs.length := by omega
    have HO := Lib.hid (Apd.drew (.inl (World.ownsRow_made (base := w.heap.size) (e := 35) (size := 34) w #[] 0 (Nat.le_refl _) (Nat.zero_le _) rfl) : Apd (w.alloc (.cells #[] 35)) w.heap.size 35 34 (.slice (some ⟨w.heap.size, 0, none⟩) 0 0) 0 []))
    have HO' : Hid (Apd (w.alloc (.cells #[] 35)) w.heap.size 35 34 (.slice (some ⟨w.heap.size, 0, none⟩) 0 0) 0 []) := HO.out
    have HC : Hid (∀ j u, (vs.flatMap vc)[j]? = some u → (w.alloc (.cells #[] 35)).cell? ((⟨h, 0, none⟩ : Addr).add j) = some u) := fun j u hu => by
      rw [add_at, (HH.out.alloc _).cell, Nat.zero_add]; exact hu
    have HL : Hid ((vs.flatMap vc).length = vs.length * 34) := flat_len vs HV.out.len
    have H1 : Hid (∀ u ∈ vs.flatMap vc, u.oneCell' = true) := fun u hu => by
      obtain ⟨v, _, hv⟩ := List.mem_flatMap.1 hu
      exact vc_one v u hv
    have HM : Hid (0 + vs.length ≤ maxLen) := by show _ ≤ _; unfold maxLen; omega
    have HM2 : Hid ((0 + vs.length) * 48 ≤ 140737488355328) := by show _ ≤ _; omega
    have HB : Hid (w.heap.size ≤ (w.alloc (.cells #[] 35)).heap.size) := by show _ ≤ _; simp
    have HB0 := Lib.hid ((Below.refl w.heap.size w).alloc (Nat.le_refl _) (.cells #[] 35))
    have hcz : (Value.agg (vc zv).toArray).cells.size = 34 := rfl
    go_enter Try.func40, Try.ntmps40
    go_wp2_with (at_builtin; (with_reducible refine wpList_pushAt rfl (.tmp 5) (.tmp 6) 38 rfl i0 _ 48 Try.underlying38 HI.out hz0 hz1 hz2 ?_ ?_ ?_ HO'.out ⟨h, 0, none⟩ vs.length vs.length (vs.flatMap vc) ?_ hpos HL.out HC.out H1.out HM.out HM2.out HB.out ?_); rfl; omega; rfl; rfl; intro v' w' hown' _ hbel' _; have HW := Lib.hid hown'; have HB1 := Lib.hid hbel'; clear hown' hbel')
    go_ret
    refine ⟨_, rfl, ?_, HB0.out.trans HB1.out⟩
    have := HW.out
    rw [Nat.zero_add, List.nil_append] at this
    exact this

theorem votes_any {g h : Nat} {vs : List Vt} (w : World) (ht : Tab w g h vs) (hn : vs.length ≤ 1024) :
    Calls Try.prog 16 #[.pointer (some ⟨g, 0, none⟩)] w (ListPost vs w) := by
  have hc : w.cell? ⟨g, 0, none⟩ = some (.slice (some ⟨h, 0, none⟩) vs.length vs.length) := by rw [ht.1.cell]; rfl
  have HC := Lib.hid (clone_any w ht.2.1 ht.2.2.1 hn)
  clear ht
  go_enter Try.func16, Try.ntmps16
  go_wp2_with fail
  refine HC.out.mono ?_; rintro e w1 ⟨v, he, ho, hb⟩
  subst he
  have HO := Lib.hid ho
  have HB := Lib.hid hb
  clear ho hb
  go_wp2_with fail
  go_ret
  exact ⟨_, rfl, HO.out, HB.out⟩
/-- what was returned is a slice -/
theorem own_slice {w : World} {base : Nat} {e : TypeId} {size : Nat} {v : Value} {n : Nat} {xs : List Value} (h : w.ownsRow base e size v n xs) : ∃ A c, v = .slice A n c := by
  rcases h.2 with ⟨h1, h2⟩ | ⟨g, cap, cur, h1, _⟩
  · subst h2; exact ⟨none, 0, h1⟩
  · exact ⟨_, _, h1⟩
/-- a row of the call's own, with elements, as a block -/
theorem own_block {w : World} {base : Nat} {e : TypeId} {size : Nat} {v : Value} {n : Nat} {xs : List Value} (h : w.ownsRow base e size v n xs) (hn : 0 < n) :
    ∃ g c post, v = .slice (some ⟨g, 0, none⟩) n c ∧ base ≤ g ∧ Has w g (xs ++ post) := by
  rcases h.2 with ⟨h1, h2⟩ | ⟨g, cap, cur, h1, h2, h3, h4, h5, h6, h7⟩
  · omega
  · refine ⟨g, cap, cur.toList.drop (n * size), h1, h2, ⟨e, ?_⟩⟩
    rw [← h7, List.take_append_drop]
    simpa using h3
end Go.Proofs.Ytfkimlmfgipfjaa
