/- Two lists of votes are compared. -/
import Derived.Test.YtfkimlmfgipfjaaMidP
import Derived.Test.YtfkimlmfgipfjaaSameInts
import Derived.Test.YtfkimlmfgipfjaaVoteEq
namespace Go.Proofs.Ytfkimlmfgipfjaa
open Go.RowKit

/-- a slice of votes -/
def VRow (w : World) (A : Option Addr) (n : Nat) (xs : List Vt) : Prop := xs.length = n ∧ VL xs ∧ (0 < n → ∃ g post, A = some ⟨g, 0, none⟩ ∧ Has w g (xs.flatMap vc ++ post))
theorem VRow.below {w w' : World} {A : Option Addr} {n : Nat} {xs : List Vt} (h : VRow w A n xs) (hb : Below w.heap.size w w') : VRow w' A n xs :=
  ⟨h.1, h.2.1, fun hn => by
    obtain ⟨g, post, h1, h2⟩ := h.2.2 hn
    exact ⟨g, post, h1, h2.below hb h2.lt⟩⟩
theorem takeV_more {a b : List Vt} {k : Nat} (ha : k < a.length) (hb : k < b.length) (h : a.take k = b.take k) (he : a[k] = b[k]) : a.take (k + 1) = b.take (k + 1) := by
  rw [List.take_succ_eq_append_getElem ha, List.take_succ_eq_append_getElem hb, h, he]

set_option maxRecDepth 20000 in
set_option maxHeartbeats 800000 in
theorem sameVotes_any (A A' : Option Addr) (n n' c c' : Nat) (a b : List Vt) (w : World) (ha : VRow w A n a) (hb : VRow w A' n' b) (hn : n ≤ 1024) (hn' : n' ≤ 1024) :
    Calls Try.prog 21 #[.slice A n c, .slice A' n' c'] w fun e w' => e = .returned (.bool (decide (a = b))) ∧ Below w.heap.size w w' := by
  have la := ha.1
  have lb := hb.1
  have HA := Lib.hid ha
  have HB := Lib.hid hb
  clear ha hb
  by_cases hnn : n = n'
  · subst hnn
    have LA := Lib.hid la
    have LB := Lib.hid lb
    clear la lb
    go_enter Try.func21, Try.ntmps21
    go_wp2
    go_loopw [5] (fun i wr => ∃ k : Nat, k ≤ n ∧ i = .int .i64 k ∧ a.take k = b.take k ∧ Below w.heap.size w wr) (fun i _ => n - (intOf i).toNat)
    case atStart => exact ⟨0, Nat.zero_le _, rfl, rfl, Below.refl _ _⟩
    case round =>
      obtain ⟨k, hk, rfl, htk, hbel⟩ := hrel
      have HTK := Lib.hid htk
      have HBEL := Lib.hid hbel
      clear htk hbel
      by_cases hkn : k < n
      · have hka : k < a.length := by rw [LA.out]; exact hkn
        have hkb : k < b.length := by rw [LB.out]; exact hkn
        obtain ⟨g1, p1, rfl, hg1⟩ := (HA.out.below HBEL.out).2.2 (by omega)
        obtain ⟨g2, p2, rfl, hg2⟩ := (HB.out.below HBEL.out).2.2 (by omega)
        have H1 := Lib.hid (fun (w1 : World) (h : Cls wr.heap.size wr w1) => hg1.below h.out hg1.lt)
        have H2 := Lib.hid (fun (w1 : World) (h : Cls wr.heap.size wr w1) => hg2.below h.out hg2.lt)
        have HL1 := Lib.hid HA.out.2.1.len
        have HL2 := Lib.hid HB.out.2.1.len
        have la32 : Hid (a[k].2.2.length = 32) := HA.out.2.1 _ (List.getElem_mem hka)
        have lb32 : Hid (b[k].2.2.length = 32) := HB.out.2.1 _ (List.getElem_mem hkb)
        clear hg1 hg2
        have hki : (k : Int) < (n : Int) := by omega
        have hk0 : 0 ≤ (k : Int) := by omega
        have HTM := Lib.hid (takeV_more hka hkb HTK.out)
        by_cases hxy : a[k] = b[k]
        · have hq : ∀ w : World, (Op.equalIn 10000 35 (.agg (vc a[k]).toArray) (.agg (vc b[k]).toArray)).run Try.prog w = .ok true w := fun w => by
            have := vote_same la32.out lb32.out w
            rwa [decide_eq_true hxy] at this
          have HXY := Lib.hid hxy
          clear hxy
          go_wp2_with fail
          refine region_cls wr.heap.size (by kernel_rfl) (by kernel_rfl) ?_
          repeat (first | go_big_quiet_skip | (go_big_quiet_want; first | ((with_reducible refine quiet_loadP (f := vc) (k := 34) 35 _ rfl g1 a k ?_ p1 H1.out HL1.out hka Try.underlying35 ?_ ?_ ?_); rfl; rfl; exact cells_vote'; go_big_quiet_on; (simp only [Act.put, List.setIfInBounds_toArray, List.set_cons_succ, List.set_cons_zero])) | ((with_reducible refine quiet_loadP (f := vc) (k := 34) 35 _ rfl g2 b k ?_ p2 H2.out HL2.out hkb Try.underlying35 ?_ ?_ ?_); rfl; rfl; exact cells_vote'; go_big_quiet_on; (simp only [Act.put, List.setIfInBounds_toArray, List.set_cons_succ, List.set_cons_zero])) | (go_big_quiet_op; first | go_big_quiet_on | ((with_reducible refine ⟨_, fun _ _ => rfl, ?_⟩); go_big_quiet_on))))
          refine wpQuiet_nil ?_
          intro w4 hw4
          have HW4 := Lib.hid hw4
          clear hw4
          go_wp2_with fail
          go_roundw
          case rel => exact ⟨k + 1, by omega, by go_num, HTM.out HXY.out, HBEL.out.trans (HW4.out.out.mono HBEL.out.size)⟩
          case measure => simp [intOf]; omega
        · have hq : ∀ w : World, (Op.equalIn 10000 35 (.agg (vc a[k]).toArray) (.agg (vc b[k]).toArray)).run Try.prog w = .ok false w := fun w => by
            have := vote_same la32.out lb32.out w
            rwa [decide_eq_false hxy] at this
          have HD : Hid (decide (a = b) = false) := decide_eq_false (fun h => hxy (by subst h; rfl))
          clear hxy
          go_wp2_with fail
          refine region_cls wr.heap.size (by kernel_rfl) (by kernel_rfl) ?_
          repeat (first | go_big_quiet_skip | (go_big_quiet_want; first | ((with_reducible refine quiet_loadP (f := vc) (k := 34) 35 _ rfl g1 a k ?_ p1 H1.out HL1.out hka Try.underlying35 ?_ ?_ ?_); rfl; rfl; exact cells_vote'; go_big_quiet_on; (simp only [Act.put, List.setIfInBounds_toArray, List.set_cons_succ, List.set_cons_zero])) | ((with_reducible refine quiet_loadP (f := vc) (k := 34) 35 _ rfl g2 b k ?_ p2 H2.out HL2.out hkb Try.underlying35 ?_ ?_ ?_); rfl; rfl; exact cells_vote'; go_big_quiet_on; (simp only [Act.put, List.setIfInBounds_toArray, List.set_cons_succ, List.set_cons_zero])) | (go_big_quiet_op; first | go_big_quiet_on | ((with_reducible refine ⟨_, fun _ _ => rfl, ?_⟩); go_big_quiet_on))))
          refine wpQuiet_nil ?_
          intro w4 hw4
          have HW4 := Lib.hid hw4
          clear hw4
          go_wp2_with fail
          go_ret
          exact ⟨by rw [HD.out]; rfl, HBEL.out.trans (HW4.out.out.mono HBEL.out.size)⟩
      · have hkk : k = n := by omega
        subst hkk
        have he : a = b := by
          have h1 : a.take k = a := List.take_of_length_le (by rw [LA.out]; exact Nat.le_refl _)
          have h2 : b.take k = b := List.take_of_length_le (by rw [LB.out]; exact Nat.le_refl _)
          rw [← h1, ← h2]; exact HTK.out
        have HD : Hid (decide (a = b) = true) := decide_eq_true he
        clear he
        go_wp2
        go_ret
        exact ⟨by rw [HD.out]; rfl, HBEL.out⟩
  · have hne : ¬ (n : Int) = (n' : Int) := by omega
    have hD : decide (a = b) = false := decide_eq_false (fun h => hnn (by rw [← la, ← lb, h]))
    have HD := Lib.hid hD
    have hne' : ((n : Int) != (n' : Int)) = true := by simp; omega
    clear la lb hD
    go_enter Try.func21, Try.ntmps21
    go_wp2
    go_ret
    exact ⟨by rw [HD.out]; rfl, Below.refl _ _⟩
end Go.Proofs.Ytfkimlmfgipfjaa
