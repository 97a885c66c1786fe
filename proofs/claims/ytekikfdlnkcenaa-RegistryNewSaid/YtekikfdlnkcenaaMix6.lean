/- The law for regions that draw their order, with forks: the steps that do more than add to memory are named. -/
import Derived.Test.YtekikfdlnkcenaaMix5
namespace Go.Proofs.Ytekikfdlnkcenaa
open Go.RowKit
section
variable {P : Program} {ops : Array Oper} {md : Region.Mode} {Q : Exit → Act → World → Prop}
/-- whatever order: the steps that are not bad only add to memory -/
def wpAnyC (P : Program) (md : Region.Mode) (ops : Array Oper) (Q : Exit → Act → World → Prop) (n : List Nat) : Nat → Array Bool → Act → World → Prop
  | 0, listed, a, w => Region.ready md ops listed = [] ∧ Q .normal a w
  | f + 1, listed, a, w => (Region.ready md ops listed = [] → Q .normal a w) ∧
    ∀ i ∈ Region.ready md ops listed, wpOp P ops Q i (fun a' w' => (n.contains i = false → Cls w.heap.size w w') ∧ wpAnyC P md ops Q n f (listed.setIfInBounds i true) a' w') a w
theorem wpAny_of_C {n : List Nat} : ∀ (f : Nat) (listed : Array Bool) (a : Act) (w : World), wpAnyC P md ops Q n f listed a w → wpAny P md ops Q f listed a w
  | 0, listed, a, w, h => h
  | f + 1, listed, a, w, h => ⟨h.1, fun i hi => wpOp_mono (fun a' w' h' => wpAny_of_C f _ a' w' h'.2) (h.2 i hi)⟩

/-- an operation that reads: each one of the last part waits for it, or it for that one -/
def ordC (md : Region.Mode) (ops : Array Oper) (n : List Nat) (i : Nat) : Bool :=
  (List.range ops.size).all fun t => !n.contains t || t == i || reach md ops ops.size t i || reach md ops ops.size i t
theorem ordC_ok {listed : Array Bool} {n : List Nat} {i j : Nat} (inv : Closed md ops listed) (hB : ordC md ops n i = true) (hi : i ∈ Region.ready md ops listed) (hj : j ∈ Region.ready md ops listed) (hne : j ≠ i) : n.contains j = false := by
  obtain ⟨hun, oj, hoj, _⟩ := mem_ready.1 hj
  have hjs : j < ops.size := (Array.getElem?_eq_some_iff.1 hoj).1
  have h := List.all_eq_true.1 hB j (List.mem_range.2 hjs)
  simp only [Bool.or_eq_true, Bool.not_eq_true', beq_iff_eq] at h
  rcases h with ((h | h) | h) | h
  · exact h
  · exact absurd h hne
  · have := reach_listed inv _ _ _ (.inl hj) h
    have h2 := (mem_ready.1 hi).1
    rw [getD_both h2] at this; cases this
  · have := reach_listed inv _ _ _ (.inl hi) h
    rw [getD_both hun] at this; cases this

theorem wpAnyC_first {n : List Nat} {i : Nat} {oi : Oper} {v : Value} (hi : ops[i]? = some oi) (hsel : ∀ (j : Nat) (o : Oper) cs b, ops[j]? = some o → o.op ≠ .select cs b)
    (hQ : ∀ c a w, Q (.panic c) (a.put oi.dst v) w → Q (.panic c) a w) :
    ∀ (f : Nat) (listed : Array Bool) (a : Act) (w : World), Closed md ops listed →
      (∀ j oj, ops[j]? = some oj → j ≠ i → listed.getD j true = false → (∀ e ∈ oj.after, Region.binds md e = true → e.on ≠ i) → oi.apart ops oj = true) →
      i ∈ Region.ready md ops listed → (YieldsS P ops (fun _ => True) oi v a ∨ (YieldsS P ops (Cls w.heap.size w) oi v a ∧ ordC md ops n i = true)) →
      wpAnyC P md ops Q n f (listed.setIfInBounds i true) (a.put oi.dst v) w → wpAnyC P md ops Q n (f + 1) listed a w := by
  intro f
  induction f with
  | zero =>
    intro listed a w inv _ hr hy H
    refine ⟨fun h => (by rw [h] at hr; cases hr), fun j hj => ?_⟩
    by_cases hji : j = i
    · subst hji
      rcases hy with hy | ⟨hy, _⟩
      · exact hy.wpOp hi trivial ⟨fun _ => Cls.refl _ _, H⟩
      · exact hy.wpOp hi (Cls.refl _ _) ⟨fun _ => Cls.refl _ _, H⟩
    · have := ready_mono hj hji
      rw [H.1] at this
      cases this
  | succ f ih =>
    intro listed a w inv hfree hr hy H
    have hun := (mem_ready.1 hr).1
    refine ⟨fun h => (by rw [h] at hr; cases hr), fun j hj => ?_⟩
    by_cases hji : j = i
    · subst hji
      rcases hy with hy | ⟨hy, _⟩
      · exact hy.wpOp hi trivial ⟨fun _ => Cls.refl _ _, H⟩
      · exact hy.wpOp hi (Cls.refl _ _) ⟨fun _ => Cls.refl _ _, H⟩
    · have h1 := H.2 j (ready_mono hj hji)
      obtain ⟨hjun, oj, hoj, hall⟩ := mem_ready.1 hj
      have hnot : ∀ e ∈ oj.after, Region.binds md e = true → e.on ≠ i := fun e he hb heq => by
        have h1 := hall e he hb
        rw [heq, getD_both hun] at h1
        cases h1
      have hfree' : ∀ k ok, ops[k]? = some ok → k ≠ i → (listed.setIfInBounds j true).getD k true = false →
          (∀ e ∈ ok.after, Region.binds md e = true → e.on ≠ i) → oi.apart ops ok = true := fun k ok hk hki hun2 hno => by
        refine hfree k ok hk hki ?_ hno
        by_cases hjk : j = k
        · subst hjk; exact hjun
        · rw [getD_set_ne true hjk] at hun2; exact hun2
      have h2 := wpOp_swapS hoj (hfree j oj hoj hji hjun hnot) (fun cs b => hsel i oi cs b hi) (fun cs b => hsel j oj cs b hoj) hQ h1
      refine wpOp_mono (fun a' w' h3 => ⟨h3.2.1, ih (listed.setIfInBounds j true) a' w' (inv.set hj) hfree' (ready_mono hr (Ne.symm hji)) ?_ ?_⟩) h2
      · rcases hy with hy | ⟨hy, hB⟩
        · exact .inl (h3.1 _ hy)
        · have hjn := ordC_ok inv hB hr hj hji
          exact .inr ⟨(h3.1 _ hy).mono (fun w2 h4 => ext_trans (h3.2.1 hjn) h4), hB⟩
      · rw [Array.setIfInBounds_comm _ _ hji]
        exact h3.2.2

def stepB6 (md : Region.Mode) (ops : Array Oper) (n : List Nat) (c i : Nat) (listed : Array Bool) : Bool :=
  (Region.ready md ops listed).contains i && (if 2 ≤ c then decide (Region.ready md ops listed = [i]) && (n.contains i == decide (3 ≤ c))
    else Region.free md ops listed i && isPure (ops.getD i default).op && (c == 1 || ordC md ops n i))
def mixRun6 (md : Region.Mode) (ops : Array Oper) (n : List Nat) : MT → Array Bool → Bool
  | .leaf, listed => (Region.ready md ops listed).isEmpty
  | .one c i rest, listed => stepB6 md ops n c i listed && mixRun6 md ops n rest (listed.setIfInBounds i true)
  | .fork i ri j rj, listed => (Region.ready md ops listed).all (fun k => k == i || k == j) && (Region.ready md ops listed).contains i && !n.contains i && !n.contains j && decide (ri.len = rj.len) &&
      mixRun6 md ops n ri (listed.setIfInBounds i true) && mixRun6 md ops n rj (listed.setIfInBounds j true)
  | .fork3 i ri j rj k rk, listed => (Region.ready md ops listed).all (fun z => z == i || z == j || z == k) && (Region.ready md ops listed).contains i && !n.contains i && !n.contains j && !n.contains k && decide (ri.len = rj.len) && decide (ri.len = rk.len) &&
      mixRun6 md ops n ri (listed.setIfInBounds i true) && mixRun6 md ops n rj (listed.setIfInBounds j true) && mixRun6 md ops n rk (listed.setIfInBounds k true)
def MixT6 (P : Program) (ops : Array Oper) (Q : Exit → Act → World → Prop) (l : List Oper) : MT → Act → World → Prop
  | .leaf, a, w => Q .normal a w
  | .one c i rest, a, w => match c with
    | 0 => wpQuiet P ops (Cls w.heap.size w) (fun a' => MixT6 P ops Q l rest a' w) [l.getD i default] a
    | 1 => wpQuiet P ops (fun _ => True) (fun a' => MixT6 P ops Q l rest a' w) [l.getD i default] a
    | 2 => stepAt P ops Q l i (MixT6 P ops Q l rest) a w
    | _ => if Region.wanted (l.getD i default) (yielded ops a.tmps) = true then (l.getD i default).wp P a w (MixT6 P ops Q l rest) Q else MixT6 P ops Q l rest (a.put (l.getD i default).dst undef) w
  | .fork i ri j rj, a, w => stepAt P ops Q l i (MixT6 P ops Q l ri) a w ∧ stepAt P ops Q l j (MixT6 P ops Q l rj) a w
  | .fork3 i ri j rj k rk, a, w => stepAt P ops Q l i (MixT6 P ops Q l ri) a w ∧ stepAt P ops Q l j (MixT6 P ops Q l rj) a w ∧ stepAt P ops Q l k (MixT6 P ops Q l rk) a w
theorem stepAt_op6 {l : List Oper} {n : List Nat} {i : Nat} {oi : Oper} (hoi : l.toArray[i]? = some oi) {K K2 : Act → World → Prop} {a : Act} {w : World} (h : stepAt P l.toArray Q l i K a w) (hK : ∀ a2 w2, K a2 w2 → K2 a2 w2) :
    wpOp P l.toArray Q i (fun a2 w2 => (n.contains i = false → Cls w.heap.size w w2) ∧ K2 a2 w2) a w := by
  have hgd := getD_list hoi
  simp only [stepAt, hgd] at h
  unfold Go.wpOp
  simp only [hoi]
  by_cases hw : Region.wanted oi (yielded l.toArray a.tmps) = true
  · rw [if_pos hw] at h ⊢
    exact .inl (Oper.wp_mono (fun a2 w2 hh => ⟨fun _ => hh.1, hK _ _ hh.2⟩) h)
  · rw [if_neg hw] at h ⊢
    exact ⟨fun _ => Cls.refl _ _, hK _ _ h⟩
theorem mix6_seg {l : List Oper} {n : List Nat} (hsel : Region.noSelect l.toArray = true)
    (hQ : ∀ (d : Option Tmp) (v : Value) c a w, Q (.panic c) (a.put d v) w → Q (.panic c) a w) :
    ∀ (t : MT) (listed : Array Bool) (a : Act) (w : World), Closed md l.toArray listed → mixRun6 md l.toArray n t listed = true → MixT6 P l.toArray Q l t a w →
      wpAnyC P md l.toArray Q n t.len listed a w
  | .leaf, listed, a, w, inv, hB, h => ⟨by simpa [mixRun6] using hB, h⟩
  | .fork i ri j rj, listed, a, w, inv, hB, h => by
    simp only [mixRun6, Bool.and_eq_true, decide_eq_true_eq] at hB
    obtain ⟨⟨⟨⟨⟨⟨hall, hc⟩, hi⟩, hj⟩, hlen⟩, hBi⟩, hBj⟩ := hB
    show wpAnyC P md l.toArray Q n (ri.len + 1) listed a w
    refine ⟨fun h0 => (by rw [h0] at hc; simp at hc), fun k hk => ?_⟩
    have hk2 := List.all_eq_true.1 hall k hk
    simp only [Bool.or_eq_true, beq_iff_eq] at hk2
    obtain ⟨_, oi, hoi, _⟩ := mem_ready.1 hk
    rcases hk2 with rfl | rfl
    · exact stepAt_op6 hoi h.1 (fun a2 w2 h2 => mix6_seg hsel hQ ri _ a2 w2 (inv.set hk) hBi h2)
    · rw [hlen]
      exact stepAt_op6 hoi h.2 (fun a2 w2 h2 => mix6_seg hsel hQ rj _ a2 w2 (inv.set hk) hBj h2)
  | .fork3 i ri j rj k' rk, listed, a, w, inv, hB, h => by
    simp only [mixRun6, Bool.and_eq_true, decide_eq_true_eq] at hB
    obtain ⟨⟨⟨⟨⟨⟨⟨⟨⟨hall, hc⟩, hi⟩, hj⟩, hk'⟩, hlen⟩, hlen2⟩, hBi⟩, hBj⟩, hBk⟩ := hB
    show wpAnyC P md l.toArray Q n (ri.len + 1) listed a w
    refine ⟨fun h0 => (by rw [h0] at hc; simp at hc), fun k hk => ?_⟩
    have hk2 := List.all_eq_true.1 hall k hk
    simp only [Bool.or_eq_true, beq_iff_eq] at hk2
    obtain ⟨_, oi, hoi, _⟩ := mem_ready.1 hk
    rcases hk2 with (rfl | rfl) | rfl
    · exact stepAt_op6 hoi h.1 (fun a2 w2 h2 => mix6_seg hsel hQ ri _ a2 w2 (inv.set hk) hBi h2)
    · rw [hlen]
      exact stepAt_op6 hoi h.2.1 (fun a2 w2 h2 => mix6_seg hsel hQ rj _ a2 w2 (inv.set hk) hBj h2)
    · rw [hlen2]
      exact stepAt_op6 hoi h.2.2 (fun a2 w2 h2 => mix6_seg hsel hQ rk _ a2 w2 (inv.set hk) hBk h2)
  | .one c i rest, listed, a, w, inv, hB, h => by
    simp only [mixRun6, Bool.and_eq_true] at hB
    obtain ⟨hcnd, h1⟩ := hB
    simp only [stepB6, Bool.and_eq_true] at hcnd
    obtain ⟨hrd, hcnd⟩ := hcnd
    have hr' : i ∈ Region.ready md l.toArray listed := by simpa using hrd
    obtain ⟨_, oi, hoi, _⟩ := mem_ready.1 hr'
    have hgd := getD_list hoi
    have hgd2 : l.toArray.getD i default = oi := by simp [Array.getD_eq_getD_getElem?, hoi]
    show wpAnyC P md l.toArray Q n (rest.len + 1) listed a w
    match c, hcnd, h with
    | 0, hcnd, h =>
      rw [if_neg (show ¬ 2 ≤ 0 by omega)] at hcnd
      simp only [show ((0 : Nat) == 1) = false from rfl, Bool.false_or, Bool.and_eq_true] at hcnd
      obtain ⟨⟨hfr, hpu⟩, hord⟩ := hcnd
      rw [hgd2] at hpu
      simp only [MixT6, hgd] at h
      unfold wpQuiet at h
      by_cases hw : Region.wanted oi (yielded l.toArray a.tmps) = true
      · rw [if_pos hw] at h
        obtain ⟨v, hv, hq⟩ := h
        exact wpAnyC_first hoi (Region.noSelect_spec hsel) (hQ _ _) _ listed a w inv (Region.free_spec hoi hfr) hr' (.inr ⟨.inl ⟨hw, fun w' hw' => pureAt_of hpu (hv w' hw')⟩, hord⟩)
          (mix6_seg hsel hQ rest _ _ w (inv.set hr') h1 hq)
      · rw [if_neg hw] at h
        exact wpAnyC_first hoi (Region.noSelect_spec hsel) (hQ _ _) _ listed a w inv (Region.free_spec hoi hfr) hr' (.inl (.inr ⟨by simpa using hw, rfl⟩))
          (mix6_seg hsel hQ rest _ _ w (inv.set hr') h1 h)
    | 1, hcnd, h =>
      rw [if_neg (show ¬ 2 ≤ 1 by omega)] at hcnd
      simp only [show ((1 : Nat) == 1) = true from rfl, Bool.true_or, Bool.and_true, Bool.and_eq_true] at hcnd
      obtain ⟨hfr, hpu⟩ := hcnd
      rw [hgd2] at hpu
      simp only [MixT6, hgd] at h
      unfold wpQuiet at h
      by_cases hw : Region.wanted oi (yielded l.toArray a.tmps) = true
      · rw [if_pos hw] at h
        obtain ⟨v, hv, hq⟩ := h
        exact wpAnyC_first hoi (Region.noSelect_spec hsel) (hQ _ _) _ listed a w inv (Region.free_spec hoi hfr) hr' (.inl (.inl ⟨hw, fun w' hw' => pureAt_of hpu (hv w' hw')⟩))
          (mix6_seg hsel hQ rest _ _ w (inv.set hr') h1 hq)
      · rw [if_neg hw] at h
        exact wpAnyC_first hoi (Region.noSelect_spec hsel) (hQ _ _) _ listed a w inv (Region.free_spec hoi hfr) hr' (.inl (.inr ⟨by simpa using hw, rfl⟩))
          (mix6_seg hsel hQ rest _ _ w (inv.set hr') h1 h)
    | 2, hcnd, hm =>
      rw [if_pos (show 2 ≤ 2 by omega)] at hcnd
      simp only [Bool.and_eq_true, decide_eq_true_eq] at hcnd
      refine ⟨fun h0 => (by rw [h0] at hr'; cases hr'), fun j hj => ?_⟩
      rw [hcnd.1] at hj
      obtain rfl : j = i := by simpa using hj
      exact stepAt_op6 hoi hm (fun a2 w2 h2 => mix6_seg hsel hQ rest _ a2 w2 (inv.set hr') h1 h2)
    | c + 3, hcnd, hm =>
      rw [if_pos (show 2 ≤ c + 3 by omega)] at hcnd
      simp only [Bool.and_eq_true, decide_eq_true_eq, beq_iff_eq] at hcnd
      obtain ⟨hrd2, hbad⟩ := hcnd
      have hbad2 : n.contains i = true := by rw [hbad]; simp
      simp only [MixT6, hgd] at hm
      refine ⟨fun h0 => (by rw [h0] at hr'; cases hr'), fun j hj => ?_⟩
      rw [hrd2] at hj
      obtain rfl : j = i := by simpa using hj
      unfold Go.wpOp
      simp only [hoi]
      by_cases hw : Region.wanted oi (yielded l.toArray a.tmps) = true
      · rw [if_pos hw] at hm ⊢
        exact .inl (Oper.wp_mono (fun a2 w2 hh => ⟨fun hlt => (by rw [hbad2] at hlt; cases hlt), mix6_seg hsel hQ rest _ a2 w2 (inv.set hr') h1 hh⟩) hm)
      · rw [if_neg hw] at hm ⊢
        exact ⟨fun hlt => (by rw [hbad2] at hlt; cases hlt), mix6_seg hsel hQ rest _ _ w (inv.set hr') h1 hm⟩
def mixB6 (md : Region.Mode) (ops : Array Oper) (n : List Nat) (t : MT) : Bool :=
  Region.noSelect ops && decide (t.len = ops.size) && mixRun6 md ops n t (Array.replicate ops.size false)
/-- the law -/
theorem wp_region_mix6 {id : Nat} {a : Act} {w : World} {l : List Oper} (n : List Nat) (t : MT) (hm : P.follows .mixedOrders = true) (hB : mixB6 .any l.toArray n t = true)
    (h : MixT6 P l.toArray (NoPanic Q) l t a w.drew) : (Code.region id l.toArray true).wp P Q a w := by
  refine wp_region_noPanic ?_
  simp only [mixB6, Bool.and_eq_true, decide_eq_true_eq] at hB
  obtain ⟨⟨hsel, hlen⟩, hB⟩ := hB
  have inv0 : Closed .any l.toArray (Array.replicate l.toArray.size false) := ⟨by simp, fun j oj _ hl => (by rw [getD_replicate_false] at hl; cases hl)⟩
  have H := mix6_seg (P := P) (Q := NoPanic Q) hsel (fun _ _ _ _ _ hh => hh) t _ a w.drew inv0 hB h
  rw [hlen] at H
  exact wp_region_any hm (wpAny_of_C _ _ _ _ H)
end
end Go.Proofs.Ytekikfdlnkcenaa
