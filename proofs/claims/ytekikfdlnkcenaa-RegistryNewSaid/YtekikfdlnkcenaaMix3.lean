/- The law for regions that draw their order, with forks: where two operations may come first (a call and an alloc that waits for nothing), both ways are asked. -/
import Derived.Test.YtekikfdlnkcenaaMix2
namespace Go.Proofs.Ytekikfdlnkcenaa
open Go.RowKit

/-- how the steps below n are taken -/
inductive MT where
  | leaf
  | one (c i : Nat) (rest : MT)
  | fork (i : Nat) (ri : MT) (j : Nat) (rj : MT)
  | fork3 (i : Nat) (ri : MT) (j : Nat) (rj : MT) (k : Nat) (rk : MT)
def MT.len : MT → Nat
  | leaf => 0
  | one _ _ r => r.len + 1
  | fork _ ri _ _ => ri.len + 1
  | fork3 _ ri _ _ _ _ => ri.len + 1
/-- a row of steps, then this -/
def MT.steps : List (Nat × Nat) → MT → MT
  | [], t => t
  | (c, i) :: r, t => .one c i (MT.steps r t)

section
variable {P : Program} {ops : Array Oper} {md : Region.Mode} {Q : Exit → Act → World → Prop}
def mixRun3 (md : Region.Mode) (ops : Array Oper) (n : Nat) : MT → Array Bool → Bool
  | .leaf, listed => Region.seqB md ops (ops.size - n) n listed
  | .one c i rest, listed => stepB md ops n c i listed && mixRun3 md ops n rest (listed.setIfInBounds i true)
  | .fork i ri j rj, listed => (Region.ready md ops listed).all (fun k => k == i || k == j) && (Region.ready md ops listed).contains i && decide (i < n) && decide (j < n) && decide (ri.len = rj.len) &&
      mixRun3 md ops n ri (listed.setIfInBounds i true) && mixRun3 md ops n rj (listed.setIfInBounds j true)
  | .fork3 i ri j rj k rk, listed => (Region.ready md ops listed).all (fun z => z == i || z == j || z == k) && (Region.ready md ops listed).contains i && decide (i < n) && decide (j < n) && decide (k < n) && decide (ri.len = rj.len) && decide (ri.len = rk.len) &&
      mixRun3 md ops n ri (listed.setIfInBounds i true) && mixRun3 md ops n rj (listed.setIfInBounds j true) && mixRun3 md ops n rk (listed.setIfInBounds k true)
def stepAt (P : Program) (ops : Array Oper) (Q : Exit → Act → World → Prop) (l : List Oper) (i : Nat) (K : Act → World → Prop) (a : Act) (w : World) : Prop :=
  if Region.wanted (l.getD i default) (yielded ops a.tmps) = true then (l.getD i default).wp P a w (fun a2 w2 => Cls w.heap.size w w2 ∧ K a2 w2) Q
      else K (a.put (l.getD i default).dst undef) w
def MixT (P : Program) (ops : Array Oper) (Q : Exit → Act → World → Prop) (l : List Oper) (n : Nat) : MT → Act → World → Prop
  | .leaf, a, w => wpList P ops Q (l.drop n) a w
  | .one c i rest, a, w => match c with
    | 0 => wpQuiet P ops (Cls w.heap.size w) (fun a' => MixT P ops Q l n rest a' w) [l.getD i default] a
    | 1 => wpQuiet P ops (fun _ => True) (fun a' => MixT P ops Q l n rest a' w) [l.getD i default] a
    | _ => stepAt P ops Q l i (MixT P ops Q l n rest) a w
  | .fork i ri j rj, a, w => stepAt P ops Q l i (MixT P ops Q l n ri) a w ∧ stepAt P ops Q l j (MixT P ops Q l n rj) a w
  | .fork3 i ri j rj k rk, a, w => stepAt P ops Q l i (MixT P ops Q l n ri) a w ∧ stepAt P ops Q l j (MixT P ops Q l n rj) a w ∧ stepAt P ops Q l k (MixT P ops Q l n rk) a w
theorem stepAt_op {l : List Oper} {n i : Nat} {oi : Oper} (hoi : l.toArray[i]? = some oi) {K K2 : Act → World → Prop} {a : Act} {w : World} (h : stepAt P l.toArray Q l i K a w) (hK : ∀ a2 w2, K a2 w2 → K2 a2 w2) :
    wpOp P l.toArray Q i (fun a2 w2 => (i < n → Cls w.heap.size w w2) ∧ K2 a2 w2) a w := by
  have hgd := getD_list hoi
  simp only [stepAt, hgd] at h
  unfold Go.wpOp
  simp only [hoi]
  by_cases hw : Region.wanted oi (yielded l.toArray a.tmps) = true
  · rw [if_pos hw] at h ⊢
    exact .inl (Oper.wp_mono (fun a2 w2 hh => ⟨fun _ => hh.1, hK _ _ hh.2⟩) h)
  · rw [if_neg hw] at h ⊢
    exact ⟨fun _ => Cls.refl _ _, hK _ _ h⟩
theorem mix3_seg {l : List Oper} {n : Nat} (hsel : Region.noSelect l.toArray = true) (hn : n ≤ l.toArray.size)
    (hQ : ∀ (d : Option Tmp) (v : Value) c a w, Q (.panic c) (a.put d v) w → Q (.panic c) a w) :
    ∀ (t : MT) (listed : Array Bool) (a : Act) (w : World), Closed md l.toArray listed → mixRun3 md l.toArray n t listed = true → MixT P l.toArray Q l n t a w →
      wpAnyN P md l.toArray Q n (t.len + (l.toArray.size - n)) listed a w
  | .leaf, listed, a, w, inv, hB, h => by
    simp only [mixRun3] at hB
    have hl : (l.drop n).length = l.toArray.size - n := by simp
    have := wpAnyN_of_seq (P := P) (md := md) (ops := l.toArray) (Q := Q) (n := n) (l.drop n) n listed a w (Nat.le_refl _) (fun j => by simp) (by rw [hl]; exact hB) h
    rw [hl] at this
    simpa [MT.len] using this
  | .fork i ri j rj, listed, a, w, inv, hB, h => by
    simp only [mixRun3, Bool.and_eq_true, decide_eq_true_eq] at hB
    obtain ⟨⟨⟨⟨⟨⟨hall, hc⟩, hi⟩, hj⟩, hlen⟩, hBi⟩, hBj⟩ := hB
    have e : (MT.fork i ri j rj).len + (l.toArray.size - n) = (ri.len + (l.toArray.size - n)) + 1 := by simp only [MT.len]; omega
    rw [e]
    refine ⟨fun h0 => (by rw [h0] at hc; simp at hc), fun k hk => ?_⟩
    have hk2 := List.all_eq_true.1 hall k hk
    simp only [Bool.or_eq_true, beq_iff_eq] at hk2
    obtain ⟨_, oi, hoi, _⟩ := mem_ready.1 hk
    rcases hk2 with rfl | rfl
    · exact stepAt_op hoi h.1 (fun a2 w2 h2 => mix3_seg hsel hn hQ ri _ a2 w2 (inv.set hk) hBi h2)
    · rw [hlen]
      exact stepAt_op hoi h.2 (fun a2 w2 h2 => mix3_seg hsel hn hQ rj _ a2 w2 (inv.set hk) hBj h2)
  | .fork3 i ri j rj k' rk, listed, a, w, inv, hB, h => by
    simp only [mixRun3, Bool.and_eq_true, decide_eq_true_eq] at hB
    obtain ⟨⟨⟨⟨⟨⟨⟨⟨⟨hall, hc⟩, hi⟩, hj⟩, hk'⟩, hlen⟩, hlen2⟩, hBi⟩, hBj⟩, hBk⟩ := hB
    have e : (MT.fork3 i ri j rj k' rk).len + (l.toArray.size - n) = (ri.len + (l.toArray.size - n)) + 1 := by simp only [MT.len]; omega
    rw [e]
    refine ⟨fun h0 => (by rw [h0] at hc; simp at hc), fun k hk => ?_⟩
    have hk2 := List.all_eq_true.1 hall k hk
    simp only [Bool.or_eq_true, beq_iff_eq] at hk2
    obtain ⟨_, oi, hoi, _⟩ := mem_ready.1 hk
    rcases hk2 with (rfl | rfl) | rfl
    · exact stepAt_op hoi h.1 (fun a2 w2 h2 => mix3_seg hsel hn hQ ri _ a2 w2 (inv.set hk) hBi h2)
    · rw [hlen]
      exact stepAt_op hoi h.2.1 (fun a2 w2 h2 => mix3_seg hsel hn hQ rj _ a2 w2 (inv.set hk) hBj h2)
    · rw [hlen2]
      exact stepAt_op hoi h.2.2 (fun a2 w2 h2 => mix3_seg hsel hn hQ rk _ a2 w2 (inv.set hk) hBk h2)
  | .one c i rest, listed, a, w, inv, hB, h => by
    simp only [mixRun3, Bool.and_eq_true] at hB
    obtain ⟨hcnd, h1⟩ := hB
    simp only [stepB, Bool.and_eq_true] at hcnd
    obtain ⟨hrd, hcnd⟩ := hcnd
    have hr' : i ∈ Region.ready md l.toArray listed := by simpa using hrd
    obtain ⟨_, oi, hoi, _⟩ := mem_ready.1 hr'
    have hgd := getD_list hoi
    have hgd2 : l.toArray.getD i default = oi := by simp [Array.getD_eq_getD_getElem?, hoi]
    have e : (MT.one c i rest).len + (l.toArray.size - n) = (rest.len + (l.toArray.size - n)) + 1 := by simp only [MT.len]; omega
    rw [e]
    match c, hcnd, h with
    | 0, hcnd, h =>
      rw [if_neg (show ¬ 2 ≤ 0 by omega)] at hcnd
      simp only [show ((0 : Nat) == 1) = false from rfl, Bool.false_or, Bool.and_eq_true] at hcnd
      obtain ⟨⟨hfr, hpu⟩, hord⟩ := hcnd
      rw [hgd2] at hpu
      simp only [MixT, hgd] at h
      unfold wpQuiet at h
      by_cases hw : Region.wanted oi (yielded l.toArray a.tmps) = true
      · rw [if_pos hw] at h
        obtain ⟨v, hv, hq⟩ := h
        exact wpAnyN_first hoi (Region.noSelect_spec hsel) (hQ _ _) _ listed a w inv (Region.free_spec hoi hfr) hr' (.inr ⟨.inl ⟨hw, fun w' hw' => pureAt_of hpu (hv w' hw')⟩, hord⟩)
          (mix3_seg hsel hn hQ rest _ _ w (inv.set hr') h1 hq)
      · rw [if_neg hw] at h
        exact wpAnyN_first hoi (Region.noSelect_spec hsel) (hQ _ _) _ listed a w inv (Region.free_spec hoi hfr) hr' (.inl (.inr ⟨by simpa using hw, rfl⟩))
          (mix3_seg hsel hn hQ rest _ _ w (inv.set hr') h1 h)
    | 1, hcnd, h =>
      rw [if_neg (show ¬ 2 ≤ 1 by omega)] at hcnd
      simp only [show ((1 : Nat) == 1) = true from rfl, Bool.true_or, Bool.and_true, Bool.and_eq_true] at hcnd
      obtain ⟨hfr, hpu⟩ := hcnd
      rw [hgd2] at hpu
      simp only [MixT, hgd] at h
      unfold wpQuiet at h
      by_cases hw : Region.wanted oi (yielded l.toArray a.tmps) = true
      · rw [if_pos hw] at h
        obtain ⟨v, hv, hq⟩ := h
        exact wpAnyN_first hoi (Region.noSelect_spec hsel) (hQ _ _) _ listed a w inv (Region.free_spec hoi hfr) hr' (.inl (.inl ⟨hw, fun w' hw' => pureAt_of hpu (hv w' hw')⟩))
          (mix3_seg hsel hn hQ rest _ _ w (inv.set hr') h1 hq)
      · rw [if_neg hw] at h
        exact wpAnyN_first hoi (Region.noSelect_spec hsel) (hQ _ _) _ listed a w inv (Region.free_spec hoi hfr) hr' (.inl (.inr ⟨by simpa using hw, rfl⟩))
          (mix3_seg hsel hn hQ rest _ _ w (inv.set hr') h1 h)
    | c + 2, hcnd, hm =>
      rw [if_pos (show 2 ≤ c + 2 by omega)] at hcnd
      simp only [Bool.and_eq_true, decide_eq_true_eq] at hcnd
      refine ⟨fun h0 => (by rw [h0] at hr'; cases hr'), fun j hj => ?_⟩
      rw [hcnd.1] at hj
      obtain rfl : j = i := by simpa using hj
      exact stepAt_op hoi hm (fun a2 w2 h2 => mix3_seg hsel hn hQ rest _ a2 w2 (inv.set hr') h1 h2)
def mixB3 (md : Region.Mode) (ops : Array Oper) (n : Nat) (t : MT) : Bool :=
  Region.noSelect ops && decide (n ≤ ops.size) && decide (t.len + (ops.size - n) = ops.size) && mixRun3 md ops n t (Array.replicate ops.size false)
/-- the law -/
theorem wp_region_mix3 {id : Nat} {a : Act} {w : World} {l : List Oper} (n : Nat) (t : MT) (hm : P.follows .mixedOrders = true) (hB : mixB3 .any l.toArray n t = true)
    (h : MixT P l.toArray (NoPanic Q) l n t a w.drew) : (Code.region id l.toArray true).wp P Q a w := by
  refine wp_region_noPanic ?_
  simp only [mixB3, Bool.and_eq_true, decide_eq_true_eq] at hB
  obtain ⟨⟨⟨hsel, hn⟩, hlen⟩, hB⟩ := hB
  have inv0 : Closed .any l.toArray (Array.replicate l.toArray.size false) := ⟨by simp, fun j oj _ hl => (by rw [getD_replicate_false] at hl; cases hl)⟩
  have H := mix3_seg (P := P) (Q := NoPanic Q) hsel hn (fun _ _ _ _ _ hh => hh) t _ a w.drew inv0 hB h
  rw [hlen] at H
  exact wp_region_any hm (wpAny_of_N _ _ _ _ H)
end
end Go.Proofs.Ytekikfdlnkcenaa
