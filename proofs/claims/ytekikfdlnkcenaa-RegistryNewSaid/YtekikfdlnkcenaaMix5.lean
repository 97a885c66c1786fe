/- The law for regions that draw their order, with forks; the last operations need not lie last in the text. -/
import Derived.Test.YtekikfdlnkcenaaMix3
namespace Go.Proofs.Ytekikfdlnkcenaa
open Go.RowKit

section
variable {P : Program} {ops : Array Oper} {md : Region.Mode} {Q : Exit → Act → World → Prop}
def stepB5 (md : Region.Mode) (ops : Array Oper) (n c i : Nat) (listed : Array Bool) : Bool :=
  if 3 ≤ c then decide (Region.ready md ops listed = [i]) && decide (n ≤ i) && decide (i < ops.size) else stepB md ops n c i listed
def mixRun5 (md : Region.Mode) (ops : Array Oper) (n : Nat) : MT → Array Bool → Bool
  | .leaf, listed => (Region.ready md ops listed).isEmpty
  | .one c i rest, listed => stepB5 md ops n c i listed && mixRun5 md ops n rest (listed.setIfInBounds i true)
  | .fork i ri j rj, listed => (Region.ready md ops listed).all (fun k => k == i || k == j) && (Region.ready md ops listed).contains i && decide (i < n) && decide (j < n) && decide (ri.len = rj.len) &&
      mixRun5 md ops n ri (listed.setIfInBounds i true) && mixRun5 md ops n rj (listed.setIfInBounds j true)
  | .fork3 i ri j rj k rk, listed => (Region.ready md ops listed).all (fun z => z == i || z == j || z == k) && (Region.ready md ops listed).contains i && decide (i < n) && decide (j < n) && decide (k < n) && decide (ri.len = rj.len) && decide (ri.len = rk.len) &&
      mixRun5 md ops n ri (listed.setIfInBounds i true) && mixRun5 md ops n rj (listed.setIfInBounds j true) && mixRun5 md ops n rk (listed.setIfInBounds k true)
def MixT5 (P : Program) (ops : Array Oper) (Q : Exit → Act → World → Prop) (l : List Oper) (n : Nat) : MT → Act → World → Prop
  | .leaf, a, w => Q .normal a w
  | .one c i rest, a, w => match c with
    | 0 => wpQuiet P ops (Cls w.heap.size w) (fun a' => MixT5 P ops Q l n rest a' w) [l.getD i default] a
    | 1 => wpQuiet P ops (fun _ => True) (fun a' => MixT5 P ops Q l n rest a' w) [l.getD i default] a
    | 2 => stepAt P ops Q l i (MixT5 P ops Q l n rest) a w
    | _ => if Region.wanted (l.getD i default) (yielded ops a.tmps) = true then (l.getD i default).wp P a w (MixT5 P ops Q l n rest) Q else MixT5 P ops Q l n rest (a.put (l.getD i default).dst undef) w
  | .fork i ri j rj, a, w => stepAt P ops Q l i (MixT5 P ops Q l n ri) a w ∧ stepAt P ops Q l j (MixT5 P ops Q l n rj) a w
  | .fork3 i ri j rj k rk, a, w => stepAt P ops Q l i (MixT5 P ops Q l n ri) a w ∧ stepAt P ops Q l j (MixT5 P ops Q l n rj) a w ∧ stepAt P ops Q l k (MixT5 P ops Q l n rk) a w
theorem mix5_seg {l : List Oper} {n : Nat} (hsel : Region.noSelect l.toArray = true)
    (hQ : ∀ (d : Option Tmp) (v : Value) c a w, Q (.panic c) (a.put d v) w → Q (.panic c) a w) :
    ∀ (t : MT) (listed : Array Bool) (a : Act) (w : World), Closed md l.toArray listed → mixRun5 md l.toArray n t listed = true → MixT5 P l.toArray Q l n t a w →
      wpAnyN P md l.toArray Q n t.len listed a w
  | .leaf, listed, a, w, inv, hB, h => ⟨by simpa [mixRun5] using hB, h⟩
  | .fork i ri j rj, listed, a, w, inv, hB, h => by
    simp only [mixRun5, Bool.and_eq_true, decide_eq_true_eq] at hB
    obtain ⟨⟨⟨⟨⟨⟨hall, hc⟩, hi⟩, hj⟩, hlen⟩, hBi⟩, hBj⟩ := hB
    show wpAnyN P md l.toArray Q n (ri.len + 1) listed a w
    refine ⟨fun h0 => (by rw [h0] at hc; simp at hc), fun k hk => ?_⟩
    have hk2 := List.all_eq_true.1 hall k hk
    simp only [Bool.or_eq_true, beq_iff_eq] at hk2
    obtain ⟨_, oi, hoi, _⟩ := mem_ready.1 hk
    rcases hk2 with rfl | rfl
    · exact stepAt_op hoi h.1 (fun a2 w2 h2 => mix5_seg hsel hQ ri _ a2 w2 (inv.set hk) hBi h2)
    · rw [hlen]
      exact stepAt_op hoi h.2 (fun a2 w2 h2 => mix5_seg hsel hQ rj _ a2 w2 (inv.set hk) hBj h2)
  | .fork3 i ri j rj k' rk, listed, a, w, inv, hB, h => by
    simp only [mixRun5, Bool.and_eq_true, decide_eq_true_eq] at hB
    obtain ⟨⟨⟨⟨⟨⟨⟨⟨⟨hall, hc⟩, hi⟩, hj⟩, hk'⟩, hlen⟩, hlen2⟩, hBi⟩, hBj⟩, hBk⟩ := hB
    show wpAnyN P md l.toArray Q n (ri.len + 1) listed a w
    refine ⟨fun h0 => (by rw [h0] at hc; simp at hc), fun k hk => ?_⟩
    have hk2 := List.all_eq_true.1 hall k hk
    simp only [Bool.or_eq_true, beq_iff_eq] at hk2
    obtain ⟨_, oi, hoi, _⟩ := mem_ready.1 hk
    rcases hk2 with (rfl | rfl) | rfl
    · exact stepAt_op hoi h.1 (fun a2 w2 h2 => mix5_seg hsel hQ ri _ a2 w2 (inv.set hk) hBi h2)
    · rw [hlen]
      exact stepAt_op hoi h.2.1 (fun a2 w2 h2 => mix5_seg hsel hQ rj _ a2 w2 (inv.set hk) hBj h2)
    · rw [hlen2]
      exact stepAt_op hoi h.2.2 (fun a2 w2 h2 => mix5_seg hsel hQ rk _ a2 w2 (inv.set hk) hBk h2)
  | .one c i rest, listed, a, w, inv, hB, h => by
    simp only [mixRun5, Bool.and_eq_true] at hB
    obtain ⟨hcnd0, h1⟩ := hB
    by_cases h3 : 3 ≤ c
    · unfold stepB5 at hcnd0
      rw [if_pos h3] at hcnd0
      simp only [Bool.and_eq_true, decide_eq_true_eq] at hcnd0
      obtain ⟨⟨hrd, hni⟩, hsz⟩ := hcnd0
      have hr' : i ∈ Region.ready md l.toArray listed := by rw [hrd]; simp
      obtain ⟨_, oi, hoi, _⟩ := mem_ready.1 hr'
      have hgd := getD_list hoi
      show wpAnyN P md l.toArray Q n (rest.len + 1) listed a w
      obtain ⟨c', rfl⟩ : ∃ c', c = c' + 3 := ⟨c - 3, by omega⟩
      simp only [MixT5, hgd] at h
      refine ⟨fun h0 => (by rw [h0] at hr'; cases hr'), fun j hj => ?_⟩
      rw [hrd] at hj
      obtain rfl : j = i := by simpa using hj
      unfold Go.wpOp
      simp only [hoi]
      by_cases hw : Region.wanted oi (yielded l.toArray a.tmps) = true
      · rw [if_pos hw] at h ⊢
        exact .inl (Oper.wp_mono (fun a2 w2 hh => ⟨fun hlt => absurd hlt (by omega), mix5_seg hsel hQ rest _ a2 w2 (inv.set hr') h1 hh⟩) h)
      · rw [if_neg hw] at h ⊢
        exact ⟨fun hlt => absurd hlt (by omega), mix5_seg hsel hQ rest _ _ w (inv.set hr') h1 h⟩
    have hcnd : stepB md l.toArray n c i listed = true := by
      unfold stepB5 at hcnd0
      rw [if_neg h3] at hcnd0
      exact hcnd0
    simp only [stepB, Bool.and_eq_true] at hcnd
    obtain ⟨hrd, hcnd⟩ := hcnd
    have hr' : i ∈ Region.ready md l.toArray listed := by simpa using hrd
    obtain ⟨_, oi, hoi, _⟩ := mem_ready.1 hr'
    have hgd := getD_list hoi
    have hgd2 : l.toArray.getD i default = oi := by simp [Array.getD_eq_getD_getElem?, hoi]
    show wpAnyN P md l.toArray Q n (rest.len + 1) listed a w
    match c, hcnd, h, h3 with
    | 0, hcnd, h, _ =>
      rw [if_neg (show ¬ 2 ≤ 0 by omega)] at hcnd
      simp only [show ((0 : Nat) == 1) = false from rfl, Bool.false_or, Bool.and_eq_true] at hcnd
      obtain ⟨⟨hfr, hpu⟩, hord⟩ := hcnd
      rw [hgd2] at hpu
      simp only [MixT5, hgd] at h
      unfold wpQuiet at h
      by_cases hw : Region.wanted oi (yielded l.toArray a.tmps) = true
      · rw [if_pos hw] at h
        obtain ⟨v, hv, hq⟩ := h
        exact wpAnyN_first hoi (Region.noSelect_spec hsel) (hQ _ _) _ listed a w inv (Region.free_spec hoi hfr) hr' (.inr ⟨.inl ⟨hw, fun w' hw' => pureAt_of hpu (hv w' hw')⟩, hord⟩)
          (mix5_seg hsel hQ rest _ _ w (inv.set hr') h1 hq)
      · rw [if_neg hw] at h
        exact wpAnyN_first hoi (Region.noSelect_spec hsel) (hQ _ _) _ listed a w inv (Region.free_spec hoi hfr) hr' (.inl (.inr ⟨by simpa using hw, rfl⟩))
          (mix5_seg hsel hQ rest _ _ w (inv.set hr') h1 h)
    | 1, hcnd, h, _ =>
      rw [if_neg (show ¬ 2 ≤ 1 by omega)] at hcnd
      simp only [show ((1 : Nat) == 1) = true from rfl, Bool.true_or, Bool.and_true, Bool.and_eq_true] at hcnd
      obtain ⟨hfr, hpu⟩ := hcnd
      rw [hgd2] at hpu
      simp only [MixT5, hgd] at h
      unfold wpQuiet at h
      by_cases hw : Region.wanted oi (yielded l.toArray a.tmps) = true
      · rw [if_pos hw] at h
        obtain ⟨v, hv, hq⟩ := h
        exact wpAnyN_first hoi (Region.noSelect_spec hsel) (hQ _ _) _ listed a w inv (Region.free_spec hoi hfr) hr' (.inl (.inl ⟨hw, fun w' hw' => pureAt_of hpu (hv w' hw')⟩))
          (mix5_seg hsel hQ rest _ _ w (inv.set hr') h1 hq)
      · rw [if_neg hw] at h
        exact wpAnyN_first hoi (Region.noSelect_spec hsel) (hQ _ _) _ listed a w inv (Region.free_spec hoi hfr) hr' (.inl (.inr ⟨by simpa using hw, rfl⟩))
          (mix5_seg hsel hQ rest _ _ w (inv.set hr') h1 h)
    | 2, hcnd, hm, _ =>
      rw [if_pos (show 2 ≤ 2 by omega)] at hcnd
      simp only [Bool.and_eq_true, decide_eq_true_eq] at hcnd
      refine ⟨fun h0 => (by rw [h0] at hr'; cases hr'), fun j hj => ?_⟩
      rw [hcnd.1] at hj
      obtain rfl : j = i := by simpa using hj
      exact stepAt_op hoi hm (fun a2 w2 h2 => mix5_seg hsel hQ rest _ a2 w2 (inv.set hr') h1 h2)
    | c + 3, _, _, h3 => exact absurd (by omega) h3
def mixB5 (md : Region.Mode) (ops : Array Oper) (n : Nat) (t : MT) : Bool :=
  Region.noSelect ops && decide (t.len = ops.size) && mixRun5 md ops n t (Array.replicate ops.size false)
/-- the law -/
theorem wp_region_mix5 {id : Nat} {a : Act} {w : World} {l : List Oper} (n : Nat) (t : MT) (hm : P.follows .mixedOrders = true) (hB : mixB5 .any l.toArray n t = true)
    (h : MixT5 P l.toArray (NoPanic Q) l n t a w.drew) : (Code.region id l.toArray true).wp P Q a w := by
  refine wp_region_noPanic ?_
  simp only [mixB5, Bool.and_eq_true, decide_eq_true_eq] at hB
  obtain ⟨⟨hsel, hlen⟩, hB⟩ := hB
  have inv0 : Closed .any l.toArray (Array.replicate l.toArray.size false) := ⟨by simp, fun j oj _ hl => (by rw [getD_replicate_false] at hl; cases hl)⟩
  have H := mix5_seg (P := P) (Q := NoPanic Q) hsel (fun _ _ _ _ _ hh => hh) t _ a w.drew inv0 hB h
  rw [hlen] at H
  exact wp_region_any hm (wpAny_of_N _ _ _ _ H)
end
end Go.Proofs.Ytekikfdlnkcenaa
