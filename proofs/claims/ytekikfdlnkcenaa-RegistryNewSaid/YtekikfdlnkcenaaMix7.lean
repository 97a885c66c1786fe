/- The law for regions that draw their order, with forks: what the reads read is kept by every step. -/
import Derived.Test.YtekikfdlnkcenaaMix6
namespace Go.Proofs.Ytekikfdlnkcenaa
open Go.RowKit
section
variable {P : Program} {ops : Array Oper} {md : Region.Mode} {Q : Exit → Act → World → Prop}
/-- whatever order: every step keeps C -/
def wpAnyI (P : Program) (md : Region.Mode) (ops : Array Oper) (Q : Exit → Act → World → Prop) (C : World → Prop) : Nat → Array Bool → Act → World → Prop
  | 0, listed, a, w => Region.ready md ops listed = [] ∧ Q .normal a w
  | f + 1, listed, a, w => (Region.ready md ops listed = [] → Q .normal a w) ∧
    ∀ i ∈ Region.ready md ops listed, wpOp P ops Q i (fun a' w' => C w' ∧ wpAnyI P md ops Q C f (listed.setIfInBounds i true) a' w') a w
theorem wpAny_of_I {C : World → Prop} : ∀ (f : Nat) (listed : Array Bool) (a : Act) (w : World), wpAnyI P md ops Q C f listed a w → wpAny P md ops Q f listed a w
  | 0, listed, a, w, h => h
  | f + 1, listed, a, w, h => ⟨h.1, fun i hi => wpOp_mono (fun a' w' h' => wpAny_of_I f _ a' w' h'.2) (h.2 i hi)⟩
theorem wpAnyI_first {C : World → Prop} {i : Nat} {oi : Oper} {v : Value} (hi : ops[i]? = some oi) (hsel : ∀ (j : Nat) (o : Oper) cs b, ops[j]? = some o → o.op ≠ .select cs b)
    (hQ : ∀ c a w, Q (.panic c) (a.put oi.dst v) w → Q (.panic c) a w) :
    ∀ (f : Nat) (listed : Array Bool) (a : Act) (w : World), Closed md ops listed →
      (∀ j oj, ops[j]? = some oj → j ≠ i → listed.getD j true = false → (∀ e ∈ oj.after, Region.binds md e = true → e.on ≠ i) → oi.apart ops oj = true) →
      i ∈ Region.ready md ops listed → C w → (YieldsS P ops (fun _ => True) oi v a ∨ YieldsS P ops C oi v a) →
      wpAnyI P md ops Q C f (listed.setIfInBounds i true) (a.put oi.dst v) w → wpAnyI P md ops Q C (f + 1) listed a w := by
  intro f
  induction f with
  | zero =>
    intro listed a w inv _ hr hC hy H
    refine ⟨fun h => (by rw [h] at hr; cases hr), fun j hj => ?_⟩
    by_cases hji : j = i
    · subst hji
      rcases hy with hy | hy
      · exact hy.wpOp hi trivial ⟨hC, H⟩
      · exact hy.wpOp hi hC ⟨hC, H⟩
    · have := ready_mono hj hji
      rw [H.1] at this
      cases this
  | succ f ih =>
    intro listed a w inv hfree hr hC hy H
    have hun := (mem_ready.1 hr).1
    refine ⟨fun h => (by rw [h] at hr; cases hr), fun j hj => ?_⟩
    by_cases hji : j = i
    · subst hji
      rcases hy with hy | hy
      · exact hy.wpOp hi trivial ⟨hC, H⟩
      · exact hy.wpOp hi hC ⟨hC, H⟩
    · have h1 := H.2 j (ready_mono hj hji)
      obtain ⟨hjun, oj, hoj, hall⟩ := mem_ready.1 hj
      have hnot : ∀ e ∈ oj.after, Region.binds md e = true → e.on ≠ i := fun e he hb heq => by
        have h1 := hall e he hb
        rw [heq, getD_both hun] at h1
        cases h1
      have hfree' : ∀ k ok, ops[k]? = some ok → k ≠ i → (listed.setIfInBounds j true).getD k true = false →
          (∀ e ∈ ok.after, Region.binds md e = true → e.on ≠ i) → oi.apart ops ok = true := fun k ok hk hki hun2 hno => by
        refine hfree k ok hk hki ?_ hno
        by_cases hjk : j = k
        · subst hjk; exact hjun
        · rw [getD_set_ne true hjk] at hun2; exact hun2
      have h2 := wpOp_swapS hoj (hfree j oj hoj hji hjun hnot) (fun cs b => hsel i oi cs b hi) (fun cs b => hsel j oj cs b hoj) hQ h1
      refine wpOp_mono (fun a' w' h3 => ⟨h3.2.1, ih (listed.setIfInBounds j true) a' w' (inv.set hj) hfree' (ready_mono hr (Ne.symm hji)) h3.2.1 ?_ ?_⟩) h2
      · rcases hy with hy | hy
        · exact .inl (h3.1 _ hy)
        · exact .inr (h3.1 _ hy)
      · rw [Array.setIfInBounds_comm _ _ hji]
        exact h3.2.2
def stepB7 (md : Region.Mode) (ops : Array Oper) (c i : Nat) (listed : Array Bool) : Bool :=
  (Region.ready md ops listed).contains i && (if 2 ≤ c then decide (Region.ready md ops listed = [i]) else Region.free md ops listed i && isPure (ops.getD i default).op)
def mixRun7 (md : Region.Mode) (ops : Array Oper) : MT → Array Bool → Bool
  | .leaf, listed => (Region.ready md ops listed).isEmpty
  | .one c i rest, listed => stepB7 md ops c i listed && mixRun7 md ops rest (listed.setIfInBounds i true)
  | .fork i ri j rj, listed => (Region.ready md ops listed).all (fun k => k == i || k == j) && (Region.ready md ops listed).contains i && decide (ri.len = rj.len) &&
      mixRun7 md ops ri (listed.setIfInBounds i true) && mixRun7 md ops rj (listed.setIfInBounds j true)
  | .fork3 i ri j rj k rk, listed => (Region.ready md ops listed).all (fun z => z == i || z == j || z == k) && (Region.ready md ops listed).contains i && decide (ri.len = rj.len) && decide (ri.len = rk.len) &&
      mixRun7 md ops ri (listed.setIfInBounds i true) && mixRun7 md ops rj (listed.setIfInBounds j true) && mixRun7 md ops rk (listed.setIfInBounds k true)
def stepI (P : Program) (ops : Array Oper) (Q : Exit → Act → World → Prop) (C : World → Prop) (l : List Oper) (i : Nat) (K : Act → World → Prop) (a : Act) (w : World) : Prop :=
  if Region.wanted (l.getD i default) (yielded ops a.tmps) = true then (l.getD i default).wp P a w (fun a2 w2 => C w2 ∧ K a2 w2) Q else K (a.put (l.getD i default).dst undef) w
def MixT7 (P : Program) (ops : Array Oper) (Q : Exit → Act → World → Prop) (C : World → Prop) (l : List Oper) : MT → Act → World → Prop
  | .leaf, a, w => Q .normal a w
  | .one c i rest, a, w => match c with
    | 0 => wpQuiet P ops C (fun a' => MixT7 P ops Q C l rest a' w) [l.getD i default] a
    | 1 => wpQuiet P ops (fun _ => True) (fun a' => MixT7 P ops Q C l rest a' w) [l.getD i default] a
    | _ => stepI P ops Q C l i (MixT7 P ops Q C l rest) a w
  | .fork i ri j rj, a, w => stepI P ops Q C l i (MixT7 P ops Q C l ri) a w ∧ stepI P ops Q C l j (MixT7 P ops Q C l rj) a w
  | .fork3 i ri j rj k rk, a, w => stepI P ops Q C l i (MixT7 P ops Q C l ri) a w ∧ stepI P ops Q C l j (MixT7 P ops Q C l rj) a w ∧ stepI P ops Q C l k (MixT7 P ops Q C l rk) a w
theorem stepI_op {C : World → Prop} {l : List Oper} {i : Nat} {oi : Oper} (hoi : l.toArray[i]? = some oi) {K K2 : Act → World → Prop} {a : Act} {w : World} (hC : C w) (h : stepI P l.toArray Q C l i K a w) (hK : ∀ a2 w2, C w2 → K a2 w2 → K2 a2 w2) :
    wpOp P l.toArray Q i (fun a2 w2 => C w2 ∧ K2 a2 w2) a w := by
  have hgd := getD_list hoi
  simp only [stepI, hgd] at h
  unfold Go.wpOp
  simp only [hoi]
  by_cases hw : Region.wanted oi (yielded l.toArray a.tmps) = true
  · rw [if_pos hw] at h ⊢
    exact .inl (Oper.wp_mono (fun a2 w2 hh => ⟨hh.1, hK _ _ hh.1 hh.2⟩) h)
  · rw [if_neg hw] at h ⊢
    exact ⟨hC, hK _ _ hC h⟩
theorem mix7_seg {C : World → Prop} {l : List Oper} (hsel : Region.noSelect l.toArray = true)
    (hQ : ∀ (d : Option Tmp) (v : Value) c a w, Q (.panic c) (a.put d v) w → Q (.panic c) a w) :
    ∀ (t : MT) (listed : Array Bool) (a : Act) (w : World), Closed md l.toArray listed → mixRun7 md l.toArray t listed = true → C w → MixT7 P l.toArray Q C l t a w →
      wpAnyI P md l.toArray Q C t.len listed a w
  | .leaf, listed, a, w, inv, hB, hC, h => ⟨by simpa [mixRun7] using hB, h⟩
  | .fork i ri j rj, listed, a, w, inv, hB, hC, h => by
    simp only [mixRun7, Bool.and_eq_true, decide_eq_true_eq] at hB
    obtain ⟨⟨⟨⟨hall, hc⟩, hlen⟩, hBi⟩, hBj⟩ := hB
    show wpAnyI P md l.toArray Q C (ri.len + 1) listed a w
    refine ⟨fun h0 => (by rw [h0] at hc; simp at hc), fun k hk => ?_⟩
    have hk2 := List.all_eq_true.1 hall k hk
    simp only [Bool.or_eq_true, beq_iff_eq] at hk2
    obtain ⟨_, oi, hoi, _⟩ := mem_ready.1 hk
    rcases hk2 with rfl | rfl
    · exact stepI_op hoi hC h.1 (fun a2 w2 hC2 h2 => mix7_seg hsel hQ ri _ a2 w2 (inv.set hk) hBi hC2 h2)
    · rw [hlen]
      exact stepI_op hoi hC h.2 (fun a2 w2 hC2 h2 => mix7_seg hsel hQ rj _ a2 w2 (inv.set hk) hBj hC2 h2)
  | .fork3 i ri j rj k' rk, listed, a, w, inv, hB, hC, h => by
    simp only [mixRun7, Bool.and_eq_true, decide_eq_true_eq] at hB
    obtain ⟨⟨⟨⟨⟨⟨hall, hc⟩, hlen⟩, hlen2⟩, hBi⟩, hBj⟩, hBk⟩ := hB
    show wpAnyI P md l.toArray Q C (ri.len + 1) listed a w
    refine ⟨fun h0 => (by rw [h0] at hc; simp at hc), fun k hk => ?_⟩
    have hk2 := List.all_eq_true.1 hall k hk
    simp only [Bool.or_eq_true, beq_iff_eq] at hk2
    obtain ⟨_, oi, hoi, _⟩ := mem_ready.1 hk
    rcases hk2 with (rfl | rfl) | rfl
    · exact stepI_op hoi hC h.1 (fun a2 w2 hC2 h2 => mix7_seg hsel hQ ri _ a2 w2 (inv.set hk) hBi hC2 h2)
    · rw [hlen]
      exact stepI_op hoi hC h.2.1 (fun a2 w2 hC2 h2 => mix7_seg hsel hQ rj _ a2 w2 (inv.set hk) hBj hC2 h2)
    · rw [hlen2]
      exact stepI_op hoi hC h.2.2 (fun a2 w2 hC2 h2 => mix7_seg hsel hQ rk _ a2 w2 (inv.set hk) hBk hC2 h2)
  | .one c i rest, listed, a, w, inv, hB, hC, h => by
    simp only [mixRun7, Bool.and_eq_true] at hB
    obtain ⟨hcnd, h1⟩ := hB
    simp only [stepB7, Bool.and_eq_true] at hcnd
    obtain ⟨hrd, hcnd⟩ := hcnd
    have hr' : i ∈ Region.ready md l.toArray listed := by simpa using hrd
    obtain ⟨_, oi, hoi, _⟩ := mem_ready.1 hr'
    have hgd := getD_list hoi
    have hgd2 : l.toArray.getD i default = oi := by simp [Array.getD_eq_getD_getElem?, hoi]
    show wpAnyI P md l.toArray Q C (rest.len + 1) listed a w
    match c, hcnd, h with
    | 0, hcnd, h =>
      rw [if_neg (show ¬ 2 ≤ 0 by omega)] at hcnd
      simp only [Bool.and_eq_true] at hcnd
      obtain ⟨hfr, hpu⟩ := hcnd
      rw [hgd2] at hpu
      simp only [MixT7, hgd] at h
      unfold wpQuiet at h
      by_cases hw : Region.wanted oi (yielded l.toArray a.tmps) = true
      · rw [if_pos hw] at h
        obtain ⟨v, hv, hq⟩ := h
        exact wpAnyI_first hoi (Region.noSelect_spec hsel) (hQ _ _) _ listed a w inv (Region.free_spec hoi hfr) hr' hC (.inr (.inl ⟨hw, fun w' hw' => pureAt_of hpu (hv w' hw')⟩))
          (mix7_seg hsel hQ rest _ _ w (inv.set hr') h1 hC hq)
      · rw [if_neg hw] at h
        exact wpAnyI_first hoi (Region.noSelect_spec hsel) (hQ _ _) _ listed a w inv (Region.free_spec hoi hfr) hr' hC (.inl (.inr ⟨by simpa using hw, rfl⟩))
          (mix7_seg hsel hQ rest _ _ w (inv.set hr') h1 hC h)
    | 1, hcnd, h =>
      rw [if_neg (show ¬ 2 ≤ 1 by omega)] at hcnd
      simp only [Bool.and_eq_true] at hcnd
      obtain ⟨hfr, hpu⟩ := hcnd
      rw [hgd2] at hpu
      simp only [MixT7, hgd] at h
      unfold wpQuiet at h
      by_cases hw : Region.wanted oi (yielded l.toArray a.tmps) = true
      · rw [if_pos hw] at h
        obtain ⟨v, hv, hq⟩ := h
        exact wpAnyI_first hoi (Region.noSelect_spec hsel) (hQ _ _) _ listed a w inv (Region.free_spec hoi hfr) hr' hC (.inl (.inl ⟨hw, fun w' hw' => pureAt_of hpu (hv w' hw')⟩))
          (mix7_seg hsel hQ rest _ _ w (inv.set hr') h1 hC hq)
      · rw [if_neg hw] at h
        exact wpAnyI_first hoi (Region.noSelect_spec hsel) (hQ _ _) _ listed a w inv (Region.free_spec hoi hfr) hr' hC (.inl (.inr ⟨by simpa using hw, rfl⟩))
          (mix7_seg hsel hQ rest _ _ w (inv.set hr') h1 hC h)
    | c + 2, hcnd, hm =>
      rw [if_pos (show 2 ≤ c + 2 by omega)] at hcnd
      have hrd2 := of_decide_eq_true hcnd
      refine ⟨fun h0 => (by rw [h0] at hr'; cases hr'), fun j hj => ?_⟩
      rw [hrd2] at hj
      obtain rfl : j = i := by simpa using hj
      exact stepI_op hoi hC hm (fun a2 w2 hC2 h2 => mix7_seg hsel hQ rest _ a2 w2 (inv.set hr') h1 hC2 h2)
def mixB7 (md : Region.Mode) (ops : Array Oper) (t : MT) : Bool :=
  Region.noSelect ops && decide (t.len = ops.size) && mixRun7 md ops t (Array.replicate ops.size false)
/-- the law -/
theorem wp_region_mix7 {id : Nat} {a : Act} {w : World} {l : List Oper} (C : World → Prop) (t : MT) (hm : P.follows .mixedOrders = true) (hB : mixB7 .any l.toArray t = true) (hC : C w.drew)
    (h : MixT7 P l.toArray (NoPanic Q) C l t a w.drew) : (Code.region id l.toArray true).wp P Q a w := by
  refine wp_region_noPanic ?_
  simp only [mixB7, Bool.and_eq_true, decide_eq_true_eq] at hB
  obtain ⟨⟨hsel, hlen⟩, hB⟩ := hB
  have inv0 : Closed .any l.toArray (Array.replicate l.toArray.size false) := ⟨by simp, fun j oj _ hl => (by rw [getD_replicate_false] at hl; cases hl)⟩
  have H := mix7_seg (P := P) (Q := NoPanic Q) hsel (fun _ _ _ _ _ hh => hh) t _ a w.drew inv0 hB hC h
  rw [hlen] at H
  exact wp_region_any hm (wpAny_of_I _ _ _ _ H)
end
end Go.Proofs.Ytekikfdlnkcenaa
