/- The walk of VotesTables. -/
import Derived.Test.YtfkimlmfgipfjaaClone
import Derived.Test.YtfkimlmfgipfjaaVotesAwake
namespace Go.Proofs.Ytfkimlmfgipfjaa
open Go.RowKit

theorem supI_none (n : Nat) (r : List Int) (k : Nat) : supI (List.replicate n zv) r k = [] := by
  unfold supI
  rw [List.filter_eq_nil_iff.2, List.map_nil]
  intro i _
  have : (List.replicate n zv).getD i zv = zv := by
    rw [List.getD_eq_getElem?_getD, List.getElem?_replicate]
    split <;> rfl
  rw [this]
  simp [backs, zv]
theorem voteAt_none (n : Nat) (i : Int) : voteAt (List.replicate n zv) i = zv := by
  unfold voteAt
  split
  · rw [List.getD_eq_getElem?_getD, List.getElem?_replicate]
    split <;> rfl
  · rfl

set_option maxRecDepth 20000 in
set_option maxHeartbeats 1000000 in
theorem votesTables_walk (n : Int) (w : World) (hn : (Lit.int .i64 n).wf = true) :
    Calls Try.prog 4 #[.int .i64 n] w fun e w' => e = .returned (.bool true) ∧ Below w.heap.size w w' := by
  have HK := Lib.hid votes_awake
  have hzv := zv_lit
  have hz := zroot_lit
  have hq : ∀ w : World, (Op.equalIn 10000 35 (.agg (vc zv).toArray) (.agg (vc zv).toArray)).run Try.prog w = .ok true w := fun w => by
    have := vote_same (a := zv) (b := zv) rfl rfl w
    rwa [decide_eq_true rfl] at this
  by_cases hbad : n < 0 ∨ 1024 < n
  · have HN := Lib.hid (newTable_bad n hbad)
    by_cases h1 : n < 0
    · clear hbad
      go_enter Try.func4, Try.ntmps4
      go_wp2_with fail
      refine (HN.out _).mono ?_; rintro e w1 ⟨rfl, hb1⟩
      have B1 := Lib.hid hb1
      clear hb1
      go_wp2_with fail
      refine (HK.out _).mono ?_; rintro e w2 ⟨rfl, hb2⟩
      have B2 := Lib.hid (B1.out.trans (hb2.mono B1.out.size))
      clear hb2
      go_wp2_with fail
      go_ret
      exact ⟨rfl, B2.out⟩
    · have h2 : n > 1024 := by omega
      clear hbad
      go_enter Try.func4, Try.ntmps4
      go_wp2_with fail
      refine (HN.out _).mono ?_; rintro e w1 ⟨rfl, hb1⟩
      have B1 := Lib.hid hb1
      clear hb1
      go_wp2_with fail
      refine (HK.out _).mono ?_; rintro e w2 ⟨rfl, hb2⟩
      have B2 := Lib.hid (B1.out.trans (hb2.mono B1.out.size))
      clear hb2
      go_wp2_with fail
      go_ret
      exact ⟨rfl, B2.out⟩
  · obtain ⟨m, rfl⟩ : ∃ m : Nat, n = (m : Int) := ⟨n.toNat, by omega⟩
    have hm : m ≤ 1024 := by omega
    have h1 : ¬ (m : Int) < 0 := by omega
    have h2 : ¬ (m : Int) > 1024 := by omega
    have HN := Lib.hid (newTable_any m hm)
    have HL : Hid ((List.replicate m zv).length = m) := List.length_replicate
    have HS := Lib.hid (supI_none m zroot m)
    have HA := Lib.hid (voteAt_none m)
    clear hbad
    go_enter Try.func4, Try.ntmps4
    go_wp2_with fail
    refine (HN.out _).mono ?_; rintro e w1 ⟨rfl, ht1, hb1⟩
    have T1 := Lib.hid ht1
    have B1 := Lib.hid hb1
    clear ht1 hb1
    go_wp2_with fail
    refine (votes_any w1 T1.out (by rw [HL.out]; exact hm)).mono ?_; rintro e w2 ⟨v, he, ho, hb2⟩
    obtain ⟨A, c, hv⟩ := own_slice ho
    rw [HL.out] at hv
    subst hv
    subst he
    have T2 := Lib.hid (T1.out.below hb2 T1.out.1.lt T1.out.2.1.lt)
    have B2 := Lib.hid (B1.out.trans (hb2.mono B1.out.size))
    clear hb2 ho
    go_wp2_with fail
    refine (vote_any 0 w2 T2.out).mono ?_; rintro e w3 ⟨he, hb3⟩
    rw [HA.out] at he
    subst he
    have T3 := Lib.hid (T2.out.below hb3 T2.out.1.lt T2.out.2.1.lt)
    have B3 := Lib.hid (B2.out.trans (hb3.mono B2.out.size))
    clear hb3
    go_wp2_with fail
    refine (vote_any (-1) w3 T3.out).mono ?_; rintro e w4 ⟨he, hb4⟩
    rw [HA.out] at he
    subst he
    have T4 := Lib.hid (T3.out.below hb4 T3.out.1.lt T3.out.2.1.lt)
    have B4 := Lib.hid (B3.out.trans (hb4.mono B3.out.size))
    clear hb4
    go_wp2_with fail
    refine (vote_any m w4 T4.out).mono ?_; rintro e w5 ⟨he, hb5⟩
    rw [HA.out] at he
    subst he
    have T5 := Lib.hid (T4.out.below hb5 T4.out.1.lt T4.out.2.1.lt)
    have B5 := Lib.hid (B4.out.trans (hb5.mono B4.out.size))
    clear hb5
    go_wp2_with fail
    refine (supporters_any zroot rfl w5 T5.out (by rw [HL.out]; exact hm)).mono ?_; rintro e w6 ⟨v, he, ho, hb6⟩
    rw [HL.out, HS.out] at ho
    obtain ⟨A2, c2, hv⟩ := own_slice ho
    subst hv
    subst he
    have B6 := Lib.hid (B5.out.trans (hb6.mono B5.out.size))
    clear hb6 ho
    go_wp2_with fail
    refine (HK.out _).mono ?_; rintro e w7 ⟨rfl, hb7⟩
    have B7 := Lib.hid (B6.out.trans (hb7.mono B6.out.size))
    clear hb7
    go_wp2_with fail
    go_ret
    exact ⟨rfl, B7.out⟩
end Go.Proofs.Ytfkimlmfgipfjaa
