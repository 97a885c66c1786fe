/- The law for regions that draw their order, where mere reckonings may also come up behind the stores of the last part. -/
import Derived.Test.YtekikfdlnkcenaaMix
namespace Go.Proofs.Ytekikfdlnkcenaa
open Go.RowKit

section
variable {P : Program} {ops : Array Oper} {md : Region.Mode} {Q : Exit → Act → World → Prop}

def YieldsS (P : Program) (ops : Array Oper) (S : World → Prop) (o : Oper) (v : Value) (a : Act) : Prop :=
  (Region.wanted o (yielded ops a.tmps) = true ∧ ∀ w', S w' → PureAt P o a w' v) ∨ (Region.wanted o (yielded ops a.tmps) = false ∧ v = undef)
theorem YieldsS.of_same {S : World → Prop} {o : Oper} {v : Value} {a a' : Act} (hy : YieldsS P ops S o v a) (he : execOp a'.eval o = execOp a.eval o)
    (hw : Region.wanted o (yielded ops a'.tmps) = Region.wanted o (yielded ops a.tmps)) : YieldsS P ops S o v a' := by
  unfold YieldsS PureAt at *
  rw [he, hw]
  exact hy
theorem YieldsS.mono {S T : World → Prop} {o : Oper} {v : Value} {a : Act} (hy : YieldsS P ops S o v a) (h : ∀ w, T w → S w) : YieldsS P ops T o v a := by
  rcases hy with ⟨h1, h2⟩ | h1
  · exact .inl ⟨h1, fun w' h' => h2 w' (h w' h')⟩
  · exact .inr h1
theorem YieldsS.wpOp {S : World → Prop} {i : Nat} {o : Oper} {v : Value} {a : Act} {w : World} (hi : ops[i]? = some o) (hS : S w) (hy : YieldsS P ops S o v a) {K : Act → World → Prop} (h : K (a.put o.dst v) w) : wpOp P ops Q i K a w := by
  unfold Go.wpOp
  simp only [hi]
  rcases hy with ⟨hw, hv⟩ | ⟨hw, rfl⟩
  · rw [if_pos hw]
    refine .inl ?_
    unfold Oper.wp
    rcases hv w hS with h1 | ⟨h1, rfl⟩
    · rw [h1]; simpa only [Oper.upon] using h
    · rw [h1]; simpa only [Oper.upon] using h
  · rw [hw]; simpa using h
theorem wpOp_swapS {j : Nat} {oi oj : Oper} {v : Value} (hj : ops[j]? = some oj) (hap : oi.apart ops oj = true)
    (hsi : ∀ cs b, oi.op ≠ .select cs b) (hsj : ∀ cs b, oj.op ≠ .select cs b)
    (hQ : ∀ c a w, Q (.panic c) (a.put oi.dst v) w → Q (.panic c) a w) {K : Act → World → Prop} {a : Act} {w : World}
    (h : wpOp P ops Q j K (a.put oi.dst v) w) :
    wpOp P ops Q j (fun a' w' => (∀ S, YieldsS P ops S oi v a → YieldsS P ops S oi v a') ∧ K (a'.put oi.dst v) w') a w := by
  obtain ⟨h1, h2, h3⟩ := Oper.apart_spec hap
  have same : ∀ (b : Act) (u : Value) (S : World → Prop), YieldsS P ops S oi v b → YieldsS P ops S oi v (b.put oj.dst u) := fun b u S hy =>
    hy.of_same (execOp_put oi hsi b oj.dst u h3) (wanted_put oi b oj.dst u h3)
  have sameD : ∀ (d : Deferred) (S : World → Prop), YieldsS P ops S oi v a → YieldsS P ops S oi v { a with defers := d :: a.defers } := fun d S hy => hy.of_same rfl rfl
  unfold Go.wpOp at *
  simp only [hj] at *
  rw [wanted_put oj a oi.dst v h1] at h
  by_cases hw : Region.wanted oj (yielded ops a.tmps) = true
  · rw [if_pos hw] at h ⊢
    rcases h with h | ⟨hasks, hlets⟩
    · refine .inl ?_
      unfold Oper.wp at *
      rw [execOp_put oj hsj a oi.dst v h1] at h
      generalize (execOp a.eval oj).run P w = r at *
      cases r with
      | ok n w' =>
        cases n <;> simp only [Oper.upon] at h ⊢
        case value u => exact ⟨fun S => same a u S, by rw [← Act.put_comm a v u h2]; exact h⟩
        case skip => exact ⟨fun S => same a _ S, by rw [← Act.put_comm a v undef h2]; exact h⟩
        case defer d =>
          refine ⟨fun S hy => same _ _ S (sameD d S hy), ?_⟩
          rw [← Act.put_comm _ v undef h2, ← Act.put_defers]
          exact h
        case enter f args =>
          refine Calls.mono h fun e w'' he => ?_
          cases e with
          | returned u => exact ⟨fun S => same a u S, by rw [← Act.put_comm a v u h2]; exact he⟩
          | panicked c => exact hQ _ _ _ he
          | outgrown => exact he
        case row row args => exact Rows.mono h fun u w'' he => ⟨fun S => same a u S, by rw [← Act.put_comm a v u h2]; exact he⟩
      | halt x w' =>
        cases x <;> simp only [Oper.upon] at h ⊢
        case panic u => exact hQ _ _ _ h
    · exact .inr ⟨by unfold Oper.asks at *; rw [execOp_put oj hsj a oi.dst v h1] at hasks; exact hasks, hlets⟩
  · rw [if_neg hw] at h ⊢
    exact ⟨fun S => same a _ S, by rw [← Act.put_comm a v undef h2]; exact h⟩

/-- whatever order: the steps below n only add to memory -/
def wpAnyN (P : Program) (md : Region.Mode) (ops : Array Oper) (Q : Exit → Act → World → Prop) (n : Nat) : Nat → Array Bool → Act → World → Prop
  | 0, listed, a, w => Region.ready md ops listed = [] ∧ Q .normal a w
  | f + 1, listed, a, w => (Region.ready md ops listed = [] → Q .normal a w) ∧
    ∀ i ∈ Region.ready md ops listed, wpOp P ops Q i (fun a' w' => (i < n → Cls w.heap.size w w') ∧ wpAnyN P md ops Q n f (listed.setIfInBounds i true) a' w') a w
theorem wpAny_of_N {n : Nat} : ∀ (f : Nat) (listed : Array Bool) (a : Act) (w : World), wpAnyN P md ops Q n f listed a w → wpAny P md ops Q f listed a w
  | 0, listed, a, w, h => h
  | f + 1, listed, a, w, h => ⟨h.1, fun i hi => wpOp_mono (fun a' w' h' => wpAny_of_N f _ a' w' h'.2) (h.2 i hi)⟩

def reach (md : Region.Mode) (ops : Array Oper) : Nat → Nat → Nat → Bool
  | 0, _, _ => false
  | f + 1, t, i => (List.range ops.size).any fun k => Region.waitsFor md ops t k && (k == i || reach md ops f k i)
def Closed (md : Region.Mode) (ops : Array Oper) (listed : Array Bool) : Prop :=
  listed.size = ops.size ∧ ∀ j oj, ops[j]? = some oj → listed.getD j false = true → ∀ e ∈ oj.after, Region.binds md e = true → listed.getD e.on false = true
theorem Closed.set {listed : Array Bool} {i : Nat} (inv : Closed md ops listed) (hi : i ∈ Region.ready md ops listed) : Closed md ops (listed.setIfInBounds i true) := by
  obtain ⟨_, oi, hoi, hall⟩ := mem_ready.1 hi
  refine ⟨by simp [inv.1], fun j oj hj hl e he hb => ?_⟩
  by_cases hij : i = j
  · subst hij
    have : oj = oi := Option.some.inj (hj.symm.trans hoi)
    subst this
    exact getD_set_true (hall e he hb)
  · rw [getD_set_ne false hij] at hl
    exact getD_set_true (inv.2 j oj hj hl e he hb)
theorem reach_listed {listed : Array Bool} (inv : Closed md ops listed) : ∀ (f t i : Nat), (t ∈ Region.ready md ops listed ∨ listed.getD t false = true) → reach md ops f t i = true → listed.getD i false = true
  | 0, t, i, _, h => by cases h
  | f + 1, t, i, ht, h => by
    obtain ⟨k, _, hk⟩ := List.any_eq_true.1 h
    simp only [Bool.and_eq_true, Bool.or_eq_true, beq_iff_eq] at hk
    obtain ⟨hw, hk⟩ := hk
    obtain ⟨ot, hot, e, he, hb, hon⟩ := Region.waitsFor_spec hw
    have hkl : listed.getD k false = true := by
      rcases ht with ht | ht
      · obtain ⟨_, o', ho', hall⟩ := mem_ready.1 ht
        have : o' = ot := Option.some.inj (ho'.symm.trans hot)
        subst this
        rw [← hon]; exact hall e he hb
      · rw [← hon]; exact inv.2 t ot hot ht e he hb
    rcases hk with rfl | hk
    · exact hkl
    · exact reach_listed inv f k i (.inr hkl) hk
/-- an operation that reads: each one of the last part waits for it, or it for that one -/
def ordB (md : Region.Mode) (ops : Array Oper) (n i : Nat) : Bool :=
  (List.range ops.size).all fun t => decide (t < n) || t == i || reach md ops ops.size t i || reach md ops ops.size i t
theorem ord_lt {listed : Array Bool} {n i j : Nat} (inv : Closed md ops listed) (hB : ordB md ops n i = true) (hi : i ∈ Region.ready md ops listed) (hj : j ∈ Region.ready md ops listed) (hne : j ≠ i) : j < n := by
  obtain ⟨hun, oj, hoj, _⟩ := mem_ready.1 hj
  have hjs : j < ops.size := (Array.getElem?_eq_some_iff.1 hoj).1
  have h := List.all_eq_true.1 hB j (List.mem_range.2 hjs)
  simp only [Bool.or_eq_true, decide_eq_true_eq, beq_iff_eq] at h
  rcases h with ((h | h) | h) | h
  · exact h
  · exact absurd h hne
  · have := reach_listed inv _ _ _ (.inl hj) h
    have h2 := (mem_ready.1 hi).1
    rw [getD_both h2] at this; cases this
  · have := reach_listed inv _ _ _ (.inl hi) h
    rw [getD_both hun] at this; cases this

theorem wpAnyN_first {n i : Nat} {oi : Oper} {v : Value} (hi : ops[i]? = some oi) (hsel : ∀ (j : Nat) (o : Oper) cs b, ops[j]? = some o → o.op ≠ .select cs b)
    (hQ : ∀ c a w, Q (.panic c) (a.put oi.dst v) w → Q (.panic c) a w) :
    ∀ (f : Nat) (listed : Array Bool) (a : Act) (w : World), Closed md ops listed →
      (∀ j oj, ops[j]? = some oj → j ≠ i → listed.getD j true = false → (∀ e ∈ oj.after, Region.binds md e = true → e.on ≠ i) → oi.apart ops oj = true) →
      i ∈ Region.ready md ops listed → (YieldsS P ops (fun _ => True) oi v a ∨ (YieldsS P ops (Cls w.heap.size w) oi v a ∧ ordB md ops n i = true)) →
      wpAnyN P md ops Q n f (listed.setIfInBounds i true) (a.put oi.dst v) w → wpAnyN P md ops Q n (f + 1) listed a w := by
  intro f
  induction f with
  | zero =>
    intro listed a w inv _ hr hy H
    refine ⟨fun h => (by rw [h] at hr; cases hr), fun j hj => ?_⟩
    by_cases hji : j = i
    · subst hji
      rcases hy with hy | ⟨hy, _⟩
      · exact hy.wpOp hi trivial ⟨fun _ => Cls.refl _ _, H⟩
      · exact hy.wpOp hi (Cls.refl _ _) ⟨fun _ => Cls.refl _ _, H⟩
    · have := ready_mono hj hji
      rw [H.1] at this
      cases this
  | succ f ih =>
    intro listed a w inv hfree hr hy H
    have hun := (mem_ready.1 hr).1
    refine ⟨fun h => (by rw [h] at hr; cases hr), fun j hj => ?_⟩
    by_cases hji : j = i
    · subst hji
      rcases hy with hy | ⟨hy, _⟩
      · exact hy.wpOp hi trivial ⟨fun _ => Cls.refl _ _, H⟩
      · exact hy.wpOp hi (Cls.refl _ _) ⟨fun _ => Cls.refl _ _, H⟩
    · have h1 := H.2 j (ready_mono hj hji)
      obtain ⟨hjun, oj, hoj, hall⟩ := mem_ready.1 hj
      have hnot : ∀ e ∈ oj.after, Region.binds md e = true → e.on ≠ i := fun e he hb heq => by
        have h1 := hall e he hb
        rw [heq, getD_both hun] at h1
        cases h1
      have hfree' : ∀ k ok, ops[k]? = some ok → k ≠ i → (listed.setIfInBounds j true).getD k true = false →
          (∀ e ∈ ok.after, Region.binds md e = true → e.on ≠ i) → oi.apart ops ok = true := fun k ok hk hki hun2 hno => by
        refine hfree k ok hk hki ?_ hno
        by_cases hjk : j = k
        · subst hjk; exact hjun
        · rw [getD_set_ne true hjk] at hun2; exact hun2
      have h2 := wpOp_swapS hoj (hfree j oj hoj hji hjun hnot) (fun cs b => hsel i oi cs b hi) (fun cs b => hsel j oj cs b hoj) hQ h1
      refine wpOp_mono (fun a' w' h3 => ⟨h3.2.1, ih (listed.setIfInBounds j true) a' w' (inv.set hj) hfree' (ready_mono hr (Ne.symm hji)) ?_ ?_⟩) h2
      · rcases hy with hy | ⟨hy, hB⟩
        · exact .inl (h3.1 _ hy)
        · have hjn := ord_lt inv hB hr hj hji
          exact .inr ⟨(h3.1 _ hy).mono (fun w2 h4 => ext_trans (h3.2.1 hjn) h4), hB⟩
      · rw [Array.setIfInBounds_comm _ _ hji]
        exact h3.2.2

/-- kinds: 0 reads or reckons; 1 only reckons; 2 a call -/
def stepB (md : Region.Mode) (ops : Array Oper) (n c i : Nat) (listed : Array Bool) : Bool :=
  (Region.ready md ops listed).contains i && (if 2 ≤ c then decide (Region.ready md ops listed = [i]) && decide (i < n)
    else Region.free md ops listed i && isPure (ops.getD i default).op && (c == 1 || ordB md ops n i))
def mixRun2 (md : Region.Mode) (ops : Array Oper) (n : Nat) : List (Nat × Nat) → Array Bool → Option (Array Bool)
  | [], listed => some listed
  | (c, i) :: rest, listed => if stepB md ops n c i listed then mixRun2 md ops n rest (listed.setIfInBounds i true) else none
def mixB2 (md : Region.Mode) (ops : Array Oper) (n : Nat) (steps : List (Nat × Nat)) : Bool :=
  Region.noSelect ops && decide (n ≤ ops.size) && decide (steps.length + (ops.size - n) = ops.size) &&
    match mixRun2 md ops n steps (Array.replicate ops.size false) with
    | some l1 => Region.seqB md ops (ops.size - n) n l1
    | none => false
def MixH (P : Program) (ops : Array Oper) (Q : Exit → Act → World → Prop) (l : List Oper) (n : Nat) : List (Nat × Nat) → Act → World → Prop
  | [], a, w => wpList P ops Q (l.drop n) a w
  | (c, i) :: rest, a, w => match c with
    | 0 => wpQuiet P ops (Cls w.heap.size w) (fun a' => MixH P ops Q l n rest a' w) [l.getD i default] a
    | 1 => wpQuiet P ops (fun _ => True) (fun a' => MixH P ops Q l n rest a' w) [l.getD i default] a
    | _ => if Region.wanted (l.getD i default) (yielded ops a.tmps) = true then (l.getD i default).wp P a w (fun a2 w2 => Cls w.heap.size w w2 ∧ MixH P ops Q l n rest a2 w2) Q
      else MixH P ops Q l n rest (a.put (l.getD i default).dst undef) w
theorem wpAnyN_of_seq {n : Nat} : ∀ (l : List Oper) (k : Nat) (listed : Array Bool) (a : Act) (w : World), n ≤ k → (∀ j, l[j]? = ops[k + j]?) →
    Region.seqB md ops l.length k listed = true → wpList P ops Q l a w → wpAnyN P md ops Q n l.length listed a w
  | [], _, _, _, _, _, _, hB, h => ⟨by simpa [Region.seqB] using hB, h⟩
  | o :: l, k, listed, a, w, hk, hl, hB, h => by
    have h0 : ops[k]? = some o := by simpa using (hl 0).symm
    simp only [List.length_cons, Region.seqB, Bool.and_eq_true, decide_eq_true_eq] at hB
    refine ⟨fun h1 => (by rw [hB.1] at h1; cases h1), fun i hi => ?_⟩
    rw [hB.1] at hi
    obtain rfl : i = k := by simpa using hi
    have hw : wpOp P ops Q i (wpList P ops Q l) a w := by unfold Go.wpOp; simp only [h0]; exact h
    exact wpOp_mono (fun a' w' h' => ⟨fun h5 => absurd h5 (by omega), wpAnyN_of_seq l (i + 1) _ a' w' (by omega) (fun j => by have := hl (j + 1); simpa [Nat.add_assoc, Nat.add_comm 1 j] using this) hB.2 h'⟩) hw

theorem mix2_seg {l : List Oper} {n : Nat} (hsel : Region.noSelect l.toArray = true) (hn : n ≤ l.toArray.size)
    (hQ : ∀ (d : Option Tmp) (v : Value) c a w, Q (.panic c) (a.put d v) w → Q (.panic c) a w) :
    ∀ (steps : List (Nat × Nat)) (listed l1 : Array Bool) (a : Act) (w : World), Closed md l.toArray listed → mixRun2 md l.toArray n steps listed = some l1 →
      Region.seqB md l.toArray (l.toArray.size - n) n l1 = true → MixH P l.toArray Q l n steps a w →
      wpAnyN P md l.toArray Q n (steps.length + (l.toArray.size - n)) listed a w
  | [], listed, l1, a, w, inv, h1, hB, h => by
    simp only [mixRun2, Option.some.injEq] at h1
    subst h1
    have hl : (l.drop n).length = l.toArray.size - n := by simp
    have := wpAnyN_of_seq (P := P) (md := md) (ops := l.toArray) (Q := Q) (n := n) (l.drop n) n listed a w (Nat.le_refl _) (fun j => by simp) (by rw [hl]; exact hB) h
    rw [hl] at this
    simpa using this
  | (c, i) :: rest, listed, l1, a, w, inv, h1, hB, h => by
    simp only [mixRun2] at h1
    by_cases hcnd : stepB md l.toArray n c i listed = true
    · rw [if_pos hcnd] at h1
      simp only [stepB, Bool.and_eq_true] at hcnd
      obtain ⟨hrd, hcnd⟩ := hcnd
      have hr' : i ∈ Region.ready md l.toArray listed := by simpa using hrd
      obtain ⟨_, oi, hoi, _⟩ := mem_ready.1 hr'
      have hgd := getD_list hoi
      have hgd2 : l.toArray.getD i default = oi := by simp [Array.getD_eq_getD_getElem?, hoi]
      have e : ((c, i) :: rest).length + (l.toArray.size - n) = (rest.length + (l.toArray.size - n)) + 1 := by simp; omega
      rw [e]
      match c, hcnd, h with
      | 0, hcnd, h =>
        rw [if_neg (show ¬ 2 ≤ 0 by omega)] at hcnd
        simp only [show ((0 : Nat) == 1) = false from rfl, Bool.false_or, Bool.and_eq_true] at hcnd
        obtain ⟨⟨hfr, hpu⟩, hord⟩ := hcnd
        rw [hgd2] at hpu
        simp only [MixH, hgd] at h
        unfold wpQuiet at h
        by_cases hw : Region.wanted oi (yielded l.toArray a.tmps) = true
        · rw [if_pos hw] at h
          obtain ⟨v, hv, hq⟩ := h
          exact wpAnyN_first hoi (Region.noSelect_spec hsel) (hQ _ _) _ listed a w inv (Region.free_spec hoi hfr) hr' (.inr ⟨.inl ⟨hw, fun w' hw' => pureAt_of hpu (hv w' hw')⟩, hord⟩)
            (mix2_seg hsel hn hQ rest _ l1 _ w (inv.set hr') h1 hB hq)
        · rw [if_neg hw] at h
          exact wpAnyN_first hoi (Region.noSelect_spec hsel) (hQ _ _) _ listed a w inv (Region.free_spec hoi hfr) hr' (.inl (.inr ⟨by simpa using hw, rfl⟩))
            (mix2_seg hsel hn hQ rest _ l1 _ w (inv.set hr') h1 hB h)
      | 1, hcnd, h =>
        rw [if_neg (show ¬ 2 ≤ 1 by omega)] at hcnd
        simp only [show ((1 : Nat) == 1) = true from rfl, Bool.true_or, Bool.and_true, Bool.and_eq_true] at hcnd
        obtain ⟨hfr, hpu⟩ := hcnd
        rw [hgd2] at hpu
        simp only [MixH, hgd] at h
        unfold wpQuiet at h
        by_cases hw : Region.wanted oi (yielded l.toArray a.tmps) = true
        · rw [if_pos hw] at h
          obtain ⟨v, hv, hq⟩ := h
          exact wpAnyN_first hoi (Region.noSelect_spec hsel) (hQ _ _) _ listed a w inv (Region.free_spec hoi hfr) hr' (.inl (.inl ⟨hw, fun w' hw' => pureAt_of hpu (hv w' hw')⟩))
            (mix2_seg hsel hn hQ rest _ l1 _ w (inv.set hr') h1 hB hq)
        · rw [if_neg hw] at h
          exact wpAnyN_first hoi (Region.noSelect_spec hsel) (hQ _ _) _ listed a w inv (Region.free_spec hoi hfr) hr' (.inl (.inr ⟨by simpa using hw, rfl⟩))
            (mix2_seg hsel hn hQ rest _ l1 _ w (inv.set hr') h1 hB h)
      | c + 2, hcnd, hm =>
        simp only [MixH, hgd] at hm
        have h2 : Region.ready md l.toArray listed = [i] := by
          rw [if_pos (show 2 ≤ c + 2 by omega)] at hcnd
          simp only [Bool.and_eq_true, decide_eq_true_eq] at hcnd
          exact hcnd.1
        refine ⟨fun h0 => (by rw [h0] at hr'; cases hr'), fun j hj => ?_⟩
        rw [h2] at hj
        obtain rfl : j = i := by simpa using hj
        unfold Go.wpOp
        simp only [hoi]
        by_cases hw : Region.wanted oi (yielded l.toArray a.tmps) = true
        · rw [if_pos hw] at hm ⊢
          exact .inl (Oper.wp_mono (fun a2 w2 hh => ⟨fun _ => hh.1, mix2_seg hsel hn hQ rest _ l1 a2 w2 (inv.set hr') h1 hB hh.2⟩) hm)
        · rw [if_neg hw] at hm ⊢
          exact ⟨fun _ => Cls.refl _ _, mix2_seg hsel hn hQ rest _ l1 _ w (inv.set hr') h1 hB hm⟩
    · rw [if_neg hcnd] at h1; cases h1
/-- the law -/
theorem wp_region_mix2 {id : Nat} {a : Act} {w : World} {l : List Oper} (n : Nat) (steps : List (Nat × Nat)) (hm : P.follows .mixedOrders = true) (hB : mixB2 .any l.toArray n steps = true)
    (h : MixH P l.toArray (NoPanic Q) l n steps a w.drew) : (Code.region id l.toArray true).wp P Q a w := by
  refine wp_region_noPanic ?_
  simp only [mixB2, Bool.and_eq_true, decide_eq_true_eq] at hB
  obtain ⟨⟨⟨hsel, hn⟩, hlen⟩, hB⟩ := hB
  have inv0 : Closed .any l.toArray (Array.replicate l.toArray.size false) := ⟨by simp, fun j oj _ hl => (by rw [getD_replicate_false] at hl; cases hl)⟩
  cases h1 : mixRun2 .any l.toArray n steps (Array.replicate l.toArray.size false) with
  | none => rw [h1] at hB; cases hB
  | some l1 =>
    rw [h1] at hB
    have H := mix2_seg (P := P) (Q := NoPanic Q) hsel hn (fun _ _ _ _ _ hh => hh) steps _ l1 a w.drew inv0 h1 hB h
    rw [hlen] at H
    exact wp_region_any hm (wpAny_of_N _ _ _ _ H)
end
end Go.Proofs.Ytekikfdlnkcenaa
