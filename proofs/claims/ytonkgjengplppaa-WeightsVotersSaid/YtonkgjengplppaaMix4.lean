/- The law for regions that draw their order, with forks, over a fixed bound: a step may also write the blocks from B on. -/
import Derived.Test.YtonkgjengplppaaMix3
namespace Go.Proofs.Ytonkgjengplppaa
open Go.RowKit

section
variable {B : Nat} {P : Program} {ops : Array Oper} {md : Region.Mode} {Q : Exit → Act → World → Prop}
/-- whatever order: the steps below n only add to memory -/
def wpAnyR (B : Nat) (P : Program) (md : Region.Mode) (ops : Array Oper) (Q : Exit → Act → World → Prop) (n : Nat) : Nat → Array Bool → Act → World → Prop
  | 0, listed, a, w => Region.ready md ops listed = [] ∧ Q .normal a w
  | f + 1, listed, a, w => (Region.ready md ops listed = [] → Q .normal a w) ∧
    ∀ i ∈ Region.ready md ops listed, wpOp P ops Q i (fun a' w' => (i < n → Cls B w w') ∧ wpAnyR B P md ops Q n f (listed.setIfInBounds i true) a' w') a w
theorem wpAny_of_R {n : Nat} : ∀ (f : Nat) (listed : Array Bool) (a : Act) (w : World), wpAnyR B P md ops Q n f listed a w → wpAny P md ops Q f listed a w
  | 0, listed, a, w, h => h
  | f + 1, listed, a, w, h => ⟨h.1, fun i hi => wpOp_mono (fun a' w' h' => wpAny_of_R f _ a' w' h'.2) (h.2 i hi)⟩

theorem wpAnyR_first {n i : Nat} {oi : Oper} {v : Value} (hi : ops[i]? = some oi) (hsel : ∀ (j : Nat) (o : Oper) cs b, ops[j]? = some o → o.op ≠ .select cs b)
    (hQ : ∀ c a w, Q (.panic c) (a.put oi.dst v) w → Q (.panic c) a w) :
    ∀ (f : Nat) (listed : Array Bool) (a : Act) (w : World), Closed md ops listed →
      (∀ j oj, ops[j]? = some oj → j ≠ i → listed.getD j true = false → (∀ e ∈ oj.after, Region.binds md e = true → e.on ≠ i) → oi.apart ops oj = true) →
      i ∈ Region.ready md ops listed → (YieldsS P ops (fun _ => True) oi v a ∨ (YieldsS P ops (Cls B w) oi v a ∧ ordB md ops n i = true)) →
      wpAnyR B P md ops Q n f (listed.setIfInBounds i true) (a.put oi.dst v) w → wpAnyR B P md ops Q n (f + 1) listed a w := by
  intro f
  induction f with
  | zero =>
    intro listed a w inv _ hr hy H
    refine ⟨fun h => (by rw [h] at hr; cases hr), fun j hj => ?_⟩
    by_cases hji : j = i
    · subst hji
      rcases hy with hy | ⟨hy, _⟩
      · exact hy.wpOp hi trivial ⟨fun _ => Cls.refl _ _, H⟩
      · exact hy.wpOp hi (Cls.refl _ _) ⟨fun _ => Cls.refl _ _, H⟩
    · have := ready_mono hj hji
      rw [H.1] at this
      cases this
  | succ f ih =>
    intro listed a w inv hfree hr hy H
    have hun := (mem_ready.1 hr).1
    refine ⟨fun h => (by rw [h] at hr; cases hr), fun j hj => ?_⟩
    by_cases hji : j = i
    · subst hji
      rcases hy with hy | ⟨hy, _⟩
      · exact hy.wpOp hi trivial ⟨fun _ => Cls.refl _ _, H⟩
      · exact hy.wpOp hi (Cls.refl _ _) ⟨fun _ => Cls.refl _ _, H⟩
    · have h1 := H.2 j (ready_mono hj hji)
      obtain ⟨hjun, oj, hoj, hall⟩ := mem_ready.1 hj
      have hnot : ∀ e ∈ oj.after, Region.binds md e = true → e.on ≠ i := fun e he hb heq => by
        have h1 := hall e he hb
        rw [heq, getD_both hun] at h1
        cases h1
      have hfree' : ∀ k ok, ops[k]? = some ok → k ≠ i → (listed.setIfInBounds j true).getD k true = false →
          (∀ e ∈ ok.after, Region.binds md e = true → e.on ≠ i) → oi.apart ops ok = true := fun k ok hk hki hun2 hno => by
        refine hfree k ok hk hki ?_ hno
        by_cases hjk : j = k
        · subst hjk; exact hjun
        · rw [getD_set_ne true hjk] at hun2; exact hun2
      have h2 := wpOp_swapS hoj (hfree j oj hoj hji hjun hnot) (fun cs b => hsel i oi cs b hi) (fun cs b => hsel j oj cs b hoj) hQ h1
      refine wpOp_mono (fun a' w' h3 => ⟨h3.2.1, ih (listed.setIfInBounds j true) a' w' (inv.set hj) hfree' (ready_mono hr (Ne.symm hji)) ?_ ?_⟩) h2
      · rcases hy with hy | ⟨hy, hB⟩
        · exact .inl (h3.1 _ hy)
        · have hjn := ord_lt inv hB hr hj hji
          exact .inr ⟨(h3.1 _ hy).mono (fun w2 h4 => Below.trans (h3.2.1 hjn) h4), hB⟩
      · rw [Array.setIfInBounds_comm _ _ hji]
        exact h3.2.2

theorem wpAnyR_of_seq {n : Nat} : ∀ (l : List Oper) (k : Nat) (listed : Array Bool) (a : Act) (w : World), n ≤ k → (∀ j, l[j]? = ops[k + j]?) →
    Region.seqB md ops l.length k listed = true → wpList P ops Q l a w → wpAnyR B P md ops Q n l.length listed a w
  | [], _, _, _, _, _, _, hB, h => ⟨by simpa [Region.seqB] using hB, h⟩
  | o :: l, k, listed, a, w, hk, hl, hB, h => by
    have h0 : ops[k]? = some o := by simpa using (hl 0).symm
    simp only [List.length_cons, Region.seqB, Bool.and_eq_true, decide_eq_true_eq] at hB
    refine ⟨fun h1 => (by rw [hB.1] at h1; cases h1), fun i hi => ?_⟩
    rw [hB.1] at hi
    obtain rfl : i = k := by simpa using hi
    have hw : wpOp P ops Q i (wpList P ops Q l) a w := by unfold Go.wpOp; simp only [h0]; exact h
    exact wpOp_mono (fun a' w' h' => ⟨fun h5 => absurd h5 (by omega), wpAnyR_of_seq l (i + 1) _ a' w' (by omega) (fun j => by have := hl (j + 1); simpa [Nat.add_assoc, Nat.add_comm 1 j] using this) hB.2 h'⟩) hw

def stepR (B : Nat) (P : Program) (ops : Array Oper) (Q : Exit → Act → World → Prop) (l : List Oper) (i : Nat) (K : Act → World → Prop) (a : Act) (w : World) : Prop :=
  if Region.wanted (l.getD i default) (yielded ops a.tmps) = true then (l.getD i default).wp P a w (fun a2 w2 => Cls B w w2 ∧ K a2 w2) Q
      else K (a.put (l.getD i default).dst undef) w
def MixR (B : Nat) (P : Program) (ops : Array Oper) (Q : Exit → Act → World → Prop) (l : List Oper) (n : Nat) : MT → Act → World → Prop
  | .leaf, a, w => wpList P ops Q (l.drop n) a w
  | .one c i rest, a, w => match c with
    | 0 => wpQuiet P ops (Cls B w) (fun a' => MixR B P ops Q l n rest a' w) [l.getD i default] a
    | 1 => wpQuiet P ops (fun _ => True) (fun a' => MixR B P ops Q l n rest a' w) [l.getD i default] a
    | _ => stepR B P ops Q l i (MixR B P ops Q l n rest) a w
  | .fork i ri j rj, a, w => stepR B P ops Q l i (MixR B P ops Q l n ri) a w ∧ stepR B P ops Q l j (MixR B P ops Q l n rj) a w
  | .fork3 i ri j rj k rk, a, w => stepR B P ops Q l i (MixR B P ops Q l n ri) a w ∧ stepR B P ops Q l j (MixR B P ops Q l n rj) a w ∧ stepR B P ops Q l k (MixR B P ops Q l n rk) a w
theorem stepR_op {l : List Oper} {n i : Nat} {oi : Oper} (hoi : l.toArray[i]? = some oi) {K K2 : Act → World → Prop} {a : Act} {w : World} (h : stepR B P l.toArray Q l i K a w) (hK : ∀ a2 w2, K a2 w2 → K2 a2 w2) :
    wpOp P l.toArray Q i (fun a2 w2 => (i < n → Cls B w w2) ∧ K2 a2 w2) a w := by
  have hgd := getD_list hoi
  simp only [stepR, hgd] at h
  unfold Go.wpOp
  simp only [hoi]
  by_cases hw : Region.wanted oi (yielded l.toArray a.tmps) = true
  · rw [if_pos hw] at h ⊢
    exact .inl (Oper.wp_mono (fun a2 w2 hh => ⟨fun _ => hh.1, hK _ _ hh.2⟩) h)
  · rw [if_neg hw] at h ⊢
    exact ⟨fun _ => Cls.refl _ _, hK _ _ h⟩
theorem mix4_seg {l : List Oper} {n : Nat} (hsel : Region.noSelect l.toArray = true) (hn : n ≤ l.toArray.size)
    (hQ : ∀ (d : Option Tmp) (v : Value) c a w, Q (.panic c) (a.put d v) w → Q (.panic c) a w) :
    ∀ (t : MT) (listed : Array Bool) (a : Act) (w : World), Closed md l.toArray listed → mixRun3 md l.toArray n t listed = true → MixR B P l.toArray Q l n t a w →
      wpAnyR B P md l.toArray Q n (t.len + (l.toArray.size - n)) listed a w
  | .leaf, listed, a, w, inv, hB, h => by
    simp only [mixRun3] at hB
    have hl : (l.drop n).length = l.toArray.size - n := by simp
    have := wpAnyR_of_seq (B := B) (P := P) (md := md) (ops := l.toArray) (Q := Q) (n := n) (l.drop n) n listed a w (Nat.le_refl _) (fun j => by simp) (by rw [hl]; exact hB) h
    rw [hl] at this
    simpa [MT.len] using this
  | .fork i ri j rj, listed, a, w, inv, hB, h => by
    simp only [mixRun3, Bool.and_eq_true, decide_eq_true_eq] at hB
    obtain ⟨⟨⟨⟨⟨⟨hall, hc⟩, hi⟩, hj⟩, hlen⟩, hBi⟩, hBj⟩ := hB
    have e : (MT.fork i ri j rj).len + (l.toArray.size - n) = (ri.len + (l.toArray.size - n)) + 1 := by simp only [MT.len]; omega
    rw [e]
    refine ⟨fun h0 => (by rw [h0] at hc; simp at hc), fun k hk => ?_⟩
    have hk2 := List.all_eq_true.1 hall k hk
    simp only [Bool.or_eq_true, beq_iff_eq] at hk2
    obtain ⟨_, oi, hoi, _⟩ := mem_ready.1 hk
    rcases hk2 with rfl | rfl
    · exact stepR_op hoi h.1 (fun a2 w2 h2 => mix4_seg hsel hn hQ ri _ a2 w2 (inv.set hk) hBi h2)
    · rw [hlen]
      exact stepR_op hoi h.2 (fun a2 w2 h2 => mix4_seg hsel hn hQ rj _ a2 w2 (inv.set hk) hBj h2)
  | .fork3 i ri j rj k' rk, listed, a, w, inv, hB, h => by
    simp only [mixRun3, Bool.and_eq_true, decide_eq_true_eq] at hB
    obtain ⟨⟨⟨⟨⟨⟨⟨⟨⟨hall, hc⟩, hi⟩, hj⟩, hk'⟩, hlen⟩, hlen2⟩, hBi⟩, hBj⟩, hBk⟩ := hB
    have e : (MT.fork3 i ri j rj k' rk).len + (l.toArray.size - n) = (ri.len + (l.toArray.size - n)) + 1 := by simp only [MT.len]; omega
    rw [e]
    refine ⟨fun h0 => (by rw [h0] at hc; simp at hc), fun k hk => ?_⟩
    have hk2 := List.all_eq_true.1 hall k hk
    simp only [Bool.or_eq_true, beq_iff_eq] at hk2
    obtain ⟨_, oi, hoi, _⟩ := mem_ready.1 hk
    rcases hk2 with (rfl | rfl) | rfl
    · exact stepR_op hoi h.1 (fun a2 w2 h2 => mix4_seg hsel hn hQ ri _ a2 w2 (inv.set hk) hBi h2)
    · rw [hlen]
      exact stepR_op hoi h.2.1 (fun a2 w2 h2 => mix4_seg hsel hn hQ rj _ a2 w2 (inv.set hk) hBj h2)
    · rw [hlen2]
      exact stepR_op hoi h.2.2 (fun a2 w2 h2 => mix4_seg hsel hn hQ rk _ a2 w2 (inv.set hk) hBk h2)
  | .one c i rest, listed, a, w, inv, hB, h => by
    simp only [mixRun3, Bool.and_eq_true] at hB
    obtain ⟨hcnd, h1⟩ := hB
    simp only [stepB, Bool.and_eq_true] at hcnd
    obtain ⟨hrd, hcnd⟩ := hcnd
    have hr' : i ∈ Region.ready md l.toArray listed := by simpa using hrd
    obtain ⟨_, oi, hoi, _⟩ := mem_ready.1 hr'
    have hgd := getD_list hoi
    have hgd2 : l.toArray.getD i default = oi := by simp [Array.getD_eq_getD_getElem?, hoi]
    have e : (MT.one c i rest).len + (l.toArray.size - n) = (rest.len + (l.toArray.size - n)) + 1 := by simp only [MT.len]; omega
    rw [e]
    match c, hcnd, h with
    | 0, hcnd, h =>
      rw [if_neg (show ¬ 2 ≤ 0 by omega)] at hcnd
      simp only [show ((0 : Nat) == 1) = false from rfl, Bool.false_or, Bool.and_eq_true] at hcnd
      obtain ⟨⟨hfr, hpu⟩, hord⟩ := hcnd
      rw [hgd2] at hpu
      simp only [MixR, hgd] at h
      unfold wpQuiet at h
      by_cases hw : Region.wanted oi (yielded l.toArray a.tmps) = true
      · rw [if_pos hw] at h
        obtain ⟨v, hv, hq⟩ := h
        exact wpAnyR_first hoi (Region.noSelect_spec hsel) (hQ _ _) _ listed a w inv (Region.free_spec hoi hfr) hr' (.inr ⟨.inl ⟨hw, fun w' hw' => pureAt_of hpu (hv w' hw')⟩, hord⟩)
          (mix4_seg hsel hn hQ rest _ _ w (inv.set hr') h1 hq)
      · rw [if_neg hw] at h
        exact wpAnyR_first hoi (Region.noSelect_spec hsel) (hQ _ _) _ listed a w inv (Region.free_spec hoi hfr) hr' (.inl (.inr ⟨by simpa using hw, rfl⟩))
          (mix4_seg hsel hn hQ rest _ _ w (inv.set hr') h1 h)
    | 1, hcnd, h =>
      rw [if_neg (show ¬ 2 ≤ 1 by omega)] at hcnd
      simp only [show ((1 : Nat) == 1) = true from rfl, Bool.true_or, Bool.and_true, Bool.and_eq_true] at hcnd
      obtain ⟨hfr, hpu⟩ := hcnd
      rw [hgd2] at hpu
      simp only [MixR, hgd] at h
      unfold wpQuiet at h
      by_cases hw : Region.wanted oi (yielded l.toArray a.tmps) = true
      · rw [if_pos hw] at h
        obtain ⟨v, hv, hq⟩ := h
        exact wpAnyR_first hoi (Region.noSelect_spec hsel) (hQ _ _) _ listed a w inv (Region.free_spec hoi hfr) hr' (.inl (.inl ⟨hw, fun w' hw' => pureAt_of hpu (hv w' hw')⟩))
          (mix4_seg hsel hn hQ rest _ _ w (inv.set hr') h1 hq)
      · rw [if_neg hw] at h
        exact wpAnyR_first hoi (Region.noSelect_spec hsel) (hQ _ _) _ listed a w inv (Region.free_spec hoi hfr) hr' (.inl (.inr ⟨by simpa using hw, rfl⟩))
          (mix4_seg hsel hn hQ rest _ _ w (inv.set hr') h1 h)
    | c + 2, hcnd, hm =>
      rw [if_pos (show 2 ≤ c + 2 by omega)] at hcnd
      simp only [Bool.and_eq_true, decide_eq_true_eq] at hcnd
      refine ⟨fun h0 => (by rw [h0] at hr'; cases hr'), fun j hj => ?_⟩
      rw [hcnd.1] at hj
      obtain rfl : j = i := by simpa using hj
      exact stepR_op hoi hm (fun a2 w2 h2 => mix4_seg hsel hn hQ rest _ a2 w2 (inv.set hr') h1 h2)
/-- the law -/
theorem wp_region_mix4 {id : Nat} {a : Act} {w : World} {l : List Oper} (B : Nat) (n : Nat) (t : MT) (hm : P.follows .mixedOrders = true) (hB : mixB3 .any l.toArray n t = true)
    (h : MixR B P l.toArray (NoPanic Q) l n t a w.drew) : (Code.region id l.toArray true).wp P Q a w := by
  refine wp_region_noPanic ?_
  simp only [mixB3, Bool.and_eq_true, decide_eq_true_eq] at hB
  obtain ⟨⟨⟨hsel, hn⟩, hlen⟩, hB⟩ := hB
  have inv0 : Closed .any l.toArray (Array.replicate l.toArray.size false) := ⟨by simp, fun j oj _ hl => (by rw [getD_replicate_false] at hl; cases hl)⟩
  have H := mix4_seg (P := P) (Q := NoPanic Q) hsel hn (fun _ _ _ _ _ hh => hh) t _ a w.drew inv0 hB h
  rw [hlen] at H
  exact wp_region_any hm (wpAny_of_R _ _ _ _ H)
end
end Go.Proofs.Ytonkgjengplppaa
