/- A region that draws its order: operations that only read or reckon come first, the calls (which only add memory) in their order, and a last part in the order of the text. -/
import Derived.Test.YtekikfdlnkcenaaCore
import Derived.StillTail
import Derived.Deep.RegionHeld3
namespace Go.Proofs.Ytekikfdlnkcenaa
open Go.RowKit

/-- such an operation hands back a value, or nothing, and never enters a function -/
def isPure : Op → Bool
  | .move _ | .assign _ | .pick .. | .load .. | .binOp .. | .unOp .. | .convert .. | .slice .. | .fieldAddr .. | .field .. | .indexAddr .. | .index .. | .extract .. | .build .. | .lookup .. | .nilCheck _ => true
  | .call c => match c.callee with | .builtin .len => true | .builtin .cap => true | .builtin .min => true | .builtin .max => true | _ => false
  | _ => false

theorem noEnter_a {r : Result Value} {w' : World} {f : FuncId} {args : Array Value} : (r.andThen fun a w' => .ok (Next.value a) w') ≠ .ok (.enter f args) w' := by
  intro h
  cases r with
  | ok v w1 => simp [Result.andThen] at h
  | halt x w1 => simp [Result.andThen] at h
theorem noEnter {P : Program} {ρ : Operand → Value} {o : Oper} (h : isPure o.op = true) {w w' : World} {f : FuncId} {args : Array Value} : (execOp ρ o).run P w ≠ .ok (.enter f args) w' := by
  unfold execOp
  cases ho : o.op
  all_goals first
    | (rw [ho] at h; cases h; done)
    | skip
  case call c =>
    rw [ho] at h
    simp only [isPure] at h
    cases hc : c.callee with
    | value f => rw [hc] at h; cases h
    | invoke r n => rw [hc] at h; cases h
    | builtin b =>
      rw [hc] at h
      cases b <;> first
        | (cases h; done)
        | (simp only [resolve, hc, Sem.run_bind, Sem.run_pure, Result.andThen_ok, invoke, builtin]
           exact noEnter_a)
  case pick c a b =>
    simp only [Sem.run_bind]
    intro h
    cases hs : (asBool (ρ c)).run P w with
    | ok v w1 => simp [hs, Result.andThen] at h
    | halt x w1 => simp [hs, Result.andThen] at h
  case nilCheck x =>
    have hp : (runtimePanic .nilDeref : Sem Next).run P w ≠ .ok (.enter f args) w' := by
      simp [runtimePanic, goPanic, go_sem]
    dsimp only
    generalize ρ x = v
    cases v with
    | pointer ad => cases ad with
      | none => exact hp
      | some ad => simp
    | nilIface => exact hp
    | nilFunc => exact hp
    | func fn first captured =>
      cases fn with
      | method name =>
        dsimp only
        cases hx : first[0]? with
        | none => simp
        | some u => cases u with
          | nilIface => exact hp
          | iface t w0 =>
            dsimp only
            simp only [Sem.run_bind]
            intro hh
            cases hr : (program : Sem Program).run P w with
            | halt y w1 => rw [hr] at hh; cases hh
            | ok pr w1 =>
              rw [hr] at hh
              simp only [Result.andThen_ok] at hh
              cases hq : (nilAhead (pr.types.size + Made.depth) t w0 name).run P w1 with
              | halt y w2 => rw [hq] at hh; cases hh
              | ok q w2 =>
                rw [hq] at hh
                simp only [Result.andThen_ok] at hh
                by_cases hc : (q != some false) = true
                · simp [hc, Sem.run_bind] at hh
                · simp [hc, Sem.run_bind] at hh
          | _ => simp
      | _ => simp
    | _ => simp
  all_goals first
    | (simp only [Sem.run_bind, Sem.run_pure]; exact noEnter_a)
    | (simp; done)

/-- a value that the operation yields in a world that it leaves as it was -/
def PureAt (P : Program) (o : Oper) (a : Act) (w : World) (v : Value) : Prop := (execOp a.eval o).run P w = .ok (.value v) w ∨ ((execOp a.eval o).run P w = .ok .skip w ∧ v = undef)
theorem pureAt_of {P : Program} {o : Oper} {a : Act} {C : World → Prop} {w : World} {v : Value} (hp : isPure o.op = true) (h : o.quietAt P a C w v) : PureAt P o a w v := by
  unfold Oper.quietAt at h
  unfold PureAt
  have hn := fun (w' : World) f args => noEnter (P := P) (ρ := a.eval) hp (w := w) (w' := w') (f := f) (args := args)
  generalize (execOp a.eval o).run P w = r at *
  cases r with
  | ok n w' =>
    cases n <;> simp only [Oper.quietUpon] at h
    case value u => obtain ⟨rfl, rfl⟩ := h; exact .inl rfl
    case skip => obtain ⟨rfl, rfl⟩ := h; exact .inr ⟨rfl, rfl⟩
    case enter f args => exact absurd rfl (hn _ _ _)
  | halt x w' => simp only [Oper.quietUpon] at h

section
variable {P : Program} {ops : Array Oper} {md : Region.Mode} {Q : Exit → Act → World → Prop}

/-- from the world w on, whatever is added to memory: the operation yields v -/
def YieldsE (P : Program) (ops : Array Oper) (w : World) (o : Oper) (v : Value) (a : Act) : Prop :=
  (Region.wanted o (yielded ops a.tmps) = true ∧ ∀ w', Cls w.heap.size w w' → PureAt P o a w' v) ∨ (Region.wanted o (yielded ops a.tmps) = false ∧ v = undef)
theorem YieldsE.of_same {w : World} {o : Oper} {v : Value} {a a' : Act} (hy : YieldsE P ops w o v a) (he : execOp a'.eval o = execOp a.eval o)
    (hw : Region.wanted o (yielded ops a'.tmps) = Region.wanted o (yielded ops a.tmps)) : YieldsE P ops w o v a' := by
  unfold YieldsE PureAt at *
  rw [he, hw]
  exact hy
theorem ext_trans {w w1 w2 : World} (h : Cls w.heap.size w w1) (h' : Cls w1.heap.size w1 w2) : Cls w.heap.size w w2 := Below.trans h (Below.mono h' (Below.size h))
theorem YieldsE.later {w w1 : World} {o : Oper} {v : Value} {a : Act} (hy : YieldsE P ops w o v a) (h : Cls w.heap.size w w1) : YieldsE P ops w1 o v a := by
  rcases hy with ⟨h1, h2⟩ | h1
  · exact .inl ⟨h1, fun w' h' => h2 w' (ext_trans h h')⟩
  · exact .inr h1
theorem YieldsE.wpOp {i : Nat} {o : Oper} {v : Value} {a : Act} {w : World} (hi : ops[i]? = some o) (hy : YieldsE P ops w o v a) {K : Act → World → Prop} (h : K (a.put o.dst v) w) : wpOp P ops Q i K a w := by
  unfold Go.wpOp
  simp only [hi]
  rcases hy with ⟨hw, hv⟩ | ⟨hw, rfl⟩
  · rw [if_pos hw]
    refine .inl ?_
    unfold Oper.wp
    rcases hv w (Cls.refl _ _) with h1 | ⟨h1, rfl⟩
    · rw [h1]; simpa only [Oper.upon] using h
    · rw [h1]; simpa only [Oper.upon] using h
  · rw [hw]; simpa using h

/-- another operation that is apart runs alike before and behind it -/
theorem wpOp_swap {j : Nat} {oi oj : Oper} {v : Value} (hj : ops[j]? = some oj) (hap : oi.apart ops oj = true)
    (hsi : ∀ cs b, oi.op ≠ .select cs b) (hsj : ∀ cs b, oj.op ≠ .select cs b)
    (hQ : ∀ c a w, Q (.panic c) (a.put oi.dst v) w → Q (.panic c) a w) {K : Act → World → Prop} {a : Act} {w : World}
    (h : wpOp P ops Q j K (a.put oi.dst v) w) :
    wpOp P ops Q j (fun a' w' => (∀ w0, YieldsE P ops w0 oi v a → YieldsE P ops w0 oi v a') ∧ K (a'.put oi.dst v) w') a w := by
  obtain ⟨h1, h2, h3⟩ := Oper.apart_spec hap
  have same : ∀ (b : Act) (u : Value) (w0 : World), YieldsE P ops w0 oi v b → YieldsE P ops w0 oi v (b.put oj.dst u) := fun b u w0 hy =>
    hy.of_same (execOp_put oi hsi b oj.dst u h3) (wanted_put oi b oj.dst u h3)
  have sameD : ∀ (d : Deferred) (w0 : World), YieldsE P ops w0 oi v a → YieldsE P ops w0 oi v { a with defers := d :: a.defers } := fun d w0 hy => hy.of_same rfl rfl
  unfold Go.wpOp at *
  simp only [hj] at *
  rw [wanted_put oj a oi.dst v h1] at h
  by_cases hw : Region.wanted oj (yielded ops a.tmps) = true
  · rw [if_pos hw] at h ⊢
    rcases h with h | ⟨hasks, hlets⟩
    · refine .inl ?_
      unfold Oper.wp at *
      rw [execOp_put oj hsj a oi.dst v h1] at h
      generalize (execOp a.eval oj).run P w = r at *
      cases r with
      | ok n w' =>
        cases n <;> simp only [Oper.upon] at h ⊢
        case value u => exact ⟨fun w0 => same a u w0, by rw [← Act.put_comm a v u h2]; exact h⟩
        case skip => exact ⟨fun w0 => same a _ w0, by rw [← Act.put_comm a v undef h2]; exact h⟩
        case defer d =>
          refine ⟨fun w0 hy => same _ _ w0 (sameD d w0 hy), ?_⟩
          rw [← Act.put_comm _ v undef h2, ← Act.put_defers]
          exact h
        case enter f args =>
          refine Calls.mono h fun e w'' he => ?_
          cases e with
          | returned u => exact ⟨fun w0 => same a u w0, by rw [← Act.put_comm a v u h2]; exact he⟩
          | panicked c => exact hQ _ _ _ he
          | outgrown => exact he
        case row row args => exact Rows.mono h fun u w'' he => ⟨fun w0 => same a u w0, by rw [← Act.put_comm a v u h2]; exact he⟩
      | halt x w' =>
        cases x <;> simp only [Oper.upon] at h ⊢
        case panic u => exact hQ _ _ _ h
    · exact .inr ⟨by unfold Oper.asks at *; rw [execOp_put oj hsj a oi.dst v h1] at hasks; exact hasks, hlets⟩
  · rw [if_neg hw] at h ⊢
    exact ⟨fun w0 => same a _ w0, by rw [← Act.put_comm a v undef h2]; exact h⟩

/-- the first part, in whatever order: each step only adds to memory; L holds where it ends -/
def wpAnyM (P : Program) (md : Region.Mode) (ops : Array Oper) (Q : Exit → Act → World → Prop) (n : Nat) (L : Array Bool → Act → World → Prop) : Nat → Array Bool → Act → World → Prop
  | 0, listed, a, w => L listed a w
  | f + 1, listed, a, w => Region.ready md ops listed ≠ [] ∧ ∀ i ∈ Region.ready md ops listed, i < n ∧ wpOp P ops Q i (fun a' w' => Cls w.heap.size w w' ∧ wpAnyM P md ops Q n L f (listed.setIfInBounds i true) a' w') a w
theorem wpAny_of_M {n g : Nat} {L : Array Bool → Act → World → Prop} (hL : ∀ listed a w, L listed a w → wpAny P md ops Q g listed a w) :
    ∀ (f : Nat) (listed : Array Bool) (a : Act) (w : World), wpAnyM P md ops Q n L f listed a w → wpAny P md ops Q (f + g) listed a w
  | 0, listed, a, w, h => by rw [Nat.zero_add]; exact hL _ _ _ h
  | f + 1, listed, a, w, h => by
    rw [show f + 1 + g = (f + g) + 1 by omega]
    exact ⟨fun h0 => absurd h0 h.1, fun i hi => wpOp_mono (fun a' w' h' => wpAny_of_M hL f _ a' w' h'.2) (h.2 i hi).2⟩
theorem wpAnyM_first {n i : Nat} {oi : Oper} {v : Value} {L : Array Bool → Act → World → Prop} (hi : ops[i]? = some oi) (hsel : ∀ (j : Nat) (o : Oper) cs b, ops[j]? = some o → o.op ≠ .select cs b)
    (hs : Region.sinkB md ops n = true) (hc : Region.chainB md ops n = true) (hn : n < ops.size) (hin : i < n)
    (hQ : ∀ c a w, Q (.panic c) (a.put oi.dst v) w → Q (.panic c) a w)
    (hdone : ∀ listed a w, L listed a w → ∀ j ∈ Region.ready md ops listed, n ≤ j) :
    ∀ (f : Nat) (listed : Array Bool) (a : Act) (w : World), HeadInv md ops n listed →
      (∀ j oj, ops[j]? = some oj → j ≠ i → listed.getD j true = false → (∀ e ∈ oj.after, Region.binds md e = true → e.on ≠ i) → oi.apart ops oj = true) →
      i ∈ Region.ready md ops listed → YieldsE P ops w oi v a →
      wpAnyM P md ops Q n L f (listed.setIfInBounds i true) (a.put oi.dst v) w → wpAnyM P md ops Q n L (f + 1) listed a w := by
  intro f
  induction f with
  | zero =>
    intro listed a w inv _ hr hy H
    have hun := (mem_ready.1 hr).1
    refine ⟨fun h => (by rw [h] at hr; cases hr), fun j hj => ?_⟩
    have hjn : j < n := by
      rcases Nat.lt_or_ge j n with h | h
      · exact h
      · exact absurd hj (tail_waits hs hc hn inv _ i rfl hin hun j h)
    refine ⟨hjn, ?_⟩
    by_cases hji : j = i
    · subst hji; exact hy.wpOp hi ⟨Cls.refl _ _, H⟩
    · have := hdone _ _ _ H j (ready_mono hj hji)
      omega
  | succ f ih =>
    intro listed a w inv hfree hr hy H
    have hun := (mem_ready.1 hr).1
    refine ⟨fun h => (by rw [h] at hr; cases hr), fun j hj => ?_⟩
    have hjn : j < n := by
      rcases Nat.lt_or_ge j n with h | h
      · exact h
      · exact absurd hj (tail_waits hs hc hn inv _ i rfl hin hun j h)
    refine ⟨hjn, ?_⟩
    by_cases hji : j = i
    · subst hji; exact hy.wpOp hi ⟨Cls.refl _ _, H⟩
    · have h1 := (H.2 j (ready_mono hj hji)).2
      obtain ⟨hjun, oj, hoj, hall⟩ := mem_ready.1 hj
      have hnot : ∀ e ∈ oj.after, Region.binds md e = true → e.on ≠ i := fun e he hb heq => by
        have h1 := hall e he hb
        rw [heq, getD_both hun] at h1
        cases h1
      have hfree' : ∀ k ok, ops[k]? = some ok → k ≠ i → (listed.setIfInBounds j true).getD k true = false →
          (∀ e ∈ ok.after, Region.binds md e = true → e.on ≠ i) → oi.apart ops ok = true := fun k ok hk hki hun2 hno => by
        refine hfree k ok hk hki ?_ hno
        by_cases hjk : j = k
        · subst hjk; exact hjun
        · rw [getD_set_ne true hjk] at hun2; exact hun2
      have h2 := wpOp_swap hoj (hfree j oj hoj hji hjun hnot) (fun cs b => hsel i oi cs b hi) (fun cs b => hsel j oj cs b hoj) hQ h1
      refine wpOp_mono (fun a' w' h3 => ⟨h3.2.1, ih (listed.setIfInBounds j true) a' w' (inv.set hj hjn) hfree' (ready_mono hr (Ne.symm hji)) ((h3.1 _ hy).later h3.2.1) ?_⟩) h2
      rw [Array.setIfInBounds_comm _ _ hji]
      exact h3.2.2

def pickOps (l : List Oper) (is : List Nat) : List Oper := is.map fun i => l.getD i default
/-- these operations may come up one after another; each only reads or reckons -/
def quietRun (md : Region.Mode) (ops : Array Oper) (n : Nat) : List Nat → Array Bool → Option (Array Bool)
  | [], listed => some listed
  | i :: is, listed => if decide (i < n) && (Region.ready md ops listed).contains i && Region.free md ops listed i && isPure (ops.getD i default).op then quietRun md ops n is (listed.setIfInBounds i true) else none
def mixRun (md : Region.Mode) (ops : Array Oper) (n : Nat) : List (List Nat × Nat) → Array Bool → Option (Array Bool)
  | [], listed => some listed
  | (qs, k) :: rest, listed => match quietRun md ops n qs listed with
    | some l1 => if decide (k < n) && decide (Region.ready md ops l1 = [k]) then mixRun md ops n rest (l1.setIfInBounds k true) else none
    | none => none
def mixB (md : Region.Mode) (ops : Array Oper) (n : Nat) (segs : List (List Nat × Nat)) (qz : List Nat) : Bool :=
  Region.noSelect ops && decide (n < ops.size) && Region.sinkB md ops n && Region.chainB md ops n && decide ((segs.map fun s => s.1.length + 1).sum + qz.length + (ops.size - n) = ops.size) &&
    match mixRun md ops n segs (Array.replicate ops.size false) with
    | some l1 => match quietRun md ops n qz l1 with
      | some l2 => Region.seqB md ops (ops.size - n) n l2
      | none => false
    | none => false

/-- the goals that are left: parts that only read or reckon, a call behind each, and the last part -/
def MixG (P : Program) (ops : Array Oper) (Q : Exit → Act → World → Prop) (l : List Oper) (n : Nat) (qz : List Nat) : List (List Nat × Nat) → Act → World → Prop
  | [], a, w => wpQuiet P ops (Cls w.heap.size w) (fun a' => wpList P ops Q (l.drop n) a' w) (pickOps l qz) a
  | (qs, k) :: rest, a, w => wpQuiet P ops (Cls w.heap.size w) (fun a' =>
      if Region.wanted (l.getD k default) (yielded ops a'.tmps) = true then (l.getD k default).wp P a' w (fun a2 w2 => Cls w.heap.size w w2 ∧ MixG P ops Q l n qz rest a2 w2) Q
      else MixG P ops Q l n qz rest (a'.put (l.getD k default).dst undef) w) (pickOps l qs) a

theorem getD_list {l : List Oper} {i : Nat} {o : Oper} (h : l.toArray[i]? = some o) : l.getD i default = o := by
  simp at h
  simp [List.getD_eq_getElem?_getD, h]
theorem quietRun_inv {n : Nat} : ∀ (is : List Nat) (listed l2 : Array Bool), HeadInv md ops n listed → quietRun md ops n is listed = some l2 → HeadInv md ops n l2
  | [], listed, l2, inv, h => by simp only [quietRun, Option.some.injEq] at h; subst h; exact inv
  | i :: is, listed, l2, inv, h => by
    simp only [quietRun] at h
    split at h
    · rename_i hc
      simp only [Bool.and_eq_true, decide_eq_true_eq] at hc
      exact quietRun_inv is _ l2 (inv.set (by simpa using hc.1.1.2) hc.1.1.1) h
    · cases h
theorem quiet_seg {l : List Oper} {n : Nat} {L : Array Bool → Act → World → Prop} {w : World} (hsel : Region.noSelect l.toArray = true)
    (hs : Region.sinkB md l.toArray n = true) (hc : Region.chainB md l.toArray n = true) (hn : n < l.toArray.size)
    (hQ : ∀ (d : Option Tmp) (v : Value) c a w, Q (.panic c) (a.put d v) w → Q (.panic c) a w)
    (hdone : ∀ listed a w, L listed a w → ∀ j ∈ Region.ready md l.toArray listed, n ≤ j) (f : Nat) :
    ∀ (is : List Nat) (listed l2 : Array Bool) (a : Act) (R : Act → Prop), HeadInv md l.toArray n listed → quietRun md l.toArray n is listed = some l2 →
      (∀ a', R a' → wpAnyM P md l.toArray Q n L f l2 a' w) → wpQuiet P l.toArray (Cls w.heap.size w) R (pickOps l is) a →
      wpAnyM P md l.toArray Q n L (is.length + f) listed a w
  | [], listed, l2, a, R, inv, h, hR, hq => by
    simp only [quietRun, Option.some.injEq] at h
    subst h
    simpa using hR a hq
  | i :: is, listed, l2, a, R, inv, h, hR, hq => by
    simp only [quietRun] at h
    split at h
    · rename_i hcnd
      simp only [Bool.and_eq_true, decide_eq_true_eq] at hcnd
      obtain ⟨⟨⟨hin, hrd⟩, hfr⟩, hpu⟩ := hcnd
      have hr' : i ∈ Region.ready md l.toArray listed := by simpa using hrd
      obtain ⟨_, oi, hoi, _⟩ := mem_ready.1 hr'
      have hgd := getD_list hoi
      have hgd2 : l.toArray.getD i default = oi := by simp [Array.getD_eq_getD_getElem?, hoi]
      rw [hgd2] at hpu
      have e : (i :: is).length + f = (is.length + f) + 1 := by simp; omega
      rw [e]
      simp only [pickOps, List.map_cons, hgd] at hq
      unfold wpQuiet at hq
      by_cases hw : Region.wanted oi (yielded l.toArray a.tmps) = true
      · rw [if_pos hw] at hq
        obtain ⟨v, hv, hq⟩ := hq
        exact wpAnyM_first hoi (Region.noSelect_spec hsel) hs hc hn hin (hQ _ _) hdone _ listed a w inv (Region.free_spec hoi hfr) hr' (.inl ⟨hw, fun w' hw' => pureAt_of hpu (hv w' hw')⟩)
          (quiet_seg hsel hs hc hn hQ hdone f is _ l2 _ R (inv.set hr' hin) h hR hq)
      · rw [if_neg hw] at hq
        exact wpAnyM_first hoi (Region.noSelect_spec hsel) hs hc hn hin (hQ _ _) hdone _ listed a w inv (Region.free_spec hoi hfr) hr' (.inr ⟨by simpa using hw, rfl⟩)
          (quiet_seg hsel hs hc hn hQ hdone f is _ l2 _ R (inv.set hr' hin) h hR hq)
    · cases h
theorem mix_seg {l : List Oper} {n : Nat} {qz : List Nat} (hsel : Region.noSelect l.toArray = true)
    (hs : Region.sinkB md l.toArray n = true) (hc : Region.chainB md l.toArray n = true) (hn : n < l.toArray.size)
    (hQ : ∀ (d : Option Tmp) (v : Value) c a w, Q (.panic c) (a.put d v) w → Q (.panic c) a w) :
    ∀ (segs : List (List Nat × Nat)) (listed l1 l2 : Array Bool) (a : Act) (w : World), HeadInv md l.toArray n listed → mixRun md l.toArray n segs listed = some l1 → quietRun md l.toArray n qz l1 = some l2 →
      Region.seqB md l.toArray (l.toArray.size - n) n l2 = true → MixG P l.toArray Q l n qz segs a w →
      wpAnyM P md l.toArray Q n (fun listed' a' w' => Region.seqB md l.toArray (l.toArray.size - n) n listed' = true ∧ wpList P l.toArray Q (l.drop n) a' w') ((segs.map fun s => s.1.length + 1).sum + qz.length) listed a w
  | [], listed, l1, l2, a, w, inv, h1, h2, hB, h => by
    simp only [mixRun, Option.some.injEq] at h1
    subst h1
    have := quiet_seg (P := P) (Q := Q) (w := w) hsel hs hc hn hQ (L := fun listed' a' w' => Region.seqB md l.toArray (l.toArray.size - n) n listed' = true ∧ wpList P l.toArray Q (l.drop n) a' w') (fun listed' a' w' hL => seqB_ready hL.1) 0 qz listed l2 a _ inv h2 (fun a' hR => ⟨hB, hR⟩) h
    simpa using this
  | (qs, k) :: rest, listed, l1, l2, a, w, inv, h1, h2, hB, h => by
    simp only [mixRun] at h1
    cases hqr : quietRun md l.toArray n qs listed with
    | none => rw [hqr] at h1; cases h1
    | some l3 =>
      rw [hqr] at h1
      simp only [] at h1
      split at h1
      · rename_i hcnd
        simp only [Bool.and_eq_true, decide_eq_true_eq] at hcnd
        obtain ⟨hkn, hrd⟩ := hcnd
        have inv3 := quietRun_inv qs listed l3 inv hqr
        have hkr : k ∈ Region.ready md l.toArray l3 := by rw [hrd]; simp
        obtain ⟨_, o, ho, _⟩ := mem_ready.1 hkr
        have hgd := getD_list ho
        have e : ((((qs, k) :: rest).map fun s => s.1.length + 1).sum + qz.length) = qs.length + (((rest.map fun s => s.1.length + 1).sum + qz.length) + 1) := by simp; omega
        rw [e]
        unfold MixG at h
        refine quiet_seg hsel hs hc hn hQ (fun listed' a' w' hL => seqB_ready hL.1) _ qs listed l3 a _ inv hqr (fun a' hR => ?_) h
        refine ⟨by rw [hrd]; simp, fun j hj => ?_⟩
        rw [hrd] at hj
        obtain rfl : j = k := by simpa using hj
        refine ⟨hkn, ?_⟩
        rw [hgd] at hR
        unfold Go.wpOp
        simp only [ho]
        by_cases hw : Region.wanted o (yielded l.toArray a'.tmps) = true
        · rw [if_pos hw] at hR ⊢
          exact .inl (Oper.wp_mono (fun a2 w2 hh => ⟨hh.1, mix_seg hsel hs hc hn hQ rest _ l1 l2 a2 w2 (inv3.set hkr hkn) h1 h2 hB hh.2⟩) hR)
        · rw [if_neg hw] at hR ⊢
          exact ⟨Cls.refl _ _, mix_seg hsel hs hc hn hQ rest _ l1 l2 _ w (inv3.set hkr hkn) h1 h2 hB hR⟩
      · cases h1

/-- the law -/
theorem wp_region_mix {id : Nat} {a : Act} {w : World} {l : List Oper} (n : Nat) (segs : List (List Nat × Nat)) (qz : List Nat) (hm : P.follows .mixedOrders = true) (hB : mixB .any l.toArray n segs qz = true)
    (h : MixG P l.toArray (NoPanic Q) l n qz segs a w.drew) : (Code.region id l.toArray true).wp P Q a w := by
  refine wp_region_noPanic ?_
  simp only [mixB, Bool.and_eq_true, decide_eq_true_eq] at hB
  obtain ⟨⟨⟨⟨⟨hsel, hn⟩, hs⟩, hc⟩, hlen⟩, hB⟩ := hB
  have inv0 : HeadInv .any l.toArray n (Array.replicate l.toArray.size false) :=
    ⟨by simp, fun j oj _ hl => (by rw [getD_replicate_false] at hl; cases hl), fun t _ ht => getD_in (by simpa using ht) (getD_replicate_false _ _)⟩
  cases h1 : mixRun .any l.toArray n segs (Array.replicate l.toArray.size false) with
  | none => rw [h1] at hB; cases hB
  | some l1 =>
    rw [h1] at hB
    cases h2 : quietRun .any l.toArray n qz l1 with
    | none => simp only [h2] at hB; cases hB
    | some l2 =>
      simp only [h2] at hB
      have H := mix_seg (P := P) (Q := NoPanic Q) hsel hs hc hn (fun _ _ _ _ _ hh => hh) segs _ l1 l2 a w.drew inv0 h1 h2 hB h
      refine wp_region_any hm ?_
      have hl : (l.drop n).length = l.toArray.size - n := by simp
      have := wpAny_of_M (P := P) (md := .any) (ops := l.toArray) (Q := NoPanic Q) (g := l.toArray.size - n) (fun listed' a' w' hL => by
        have h3 := wpAny_of_seq (P := P) (md := .any) (ops := l.toArray) (Q' := NoPanic Q) (l.drop n) n listed' a' w' (fun j => by simp) (by rw [hl]; exact hL.1) hL.2
        rwa [hl] at h3) _ _ _ _ H
      rw [hlen] at this
      exact this
end

theorem run_enter {P : Program} {f : FuncId} {fn : Func} (hf : P.funcs[f]? = some fn) (hn : (fn.name == "runtime.NumGoroutine") = false) (hb : fn.body.isNone = false) (args : Array Value) (w : World) :
    (callFunc f args).run P w = .ok (.enter f args) w := by
  have hn' : ¬ fn.name = "runtime.NumGoroutine" := by simpa using hn
  have hb' : ¬ fn.body = none := by intro h; rw [h] at hb; cases hb
  simp [callFunc, hf, hn', hb']
/-- a call, at the place of its segment -/
theorem mix_call {P : Program} {ops : Array Oper} {o : Oper} {a : Act} {w : World} {K : Act → World → Prop} {Q : Exit → Act → World → Prop} {E : Prop} {f : FuncId} {fn : Func} {args : Array Value} {Post : Ending → World → Prop}
    (hc : Calls P f args w Post) (hf : P.funcs[f]? = some fn) (hn : (fn.name == "runtime.NumGoroutine") = false) (hb : fn.body.isNone = false) (xs : Array Operand) (ts : Array TypeId)
    (ho : o.op = .call { callee := .value (.func f), args := xs, argTypes := ts }) (hargs0 : xs.toList.map a.eval = args.toList) (hw : Region.wanted o (yielded ops a.tmps) = true)
    (hk : ∀ e w', Post e w' → ∃ v, e = .returned v ∧ K (a.put o.dst v) w') : if Region.wanted o (yielded ops a.tmps) = true then o.wp P a w K Q else E := by
  rw [if_pos hw]
  have hargs : xs.map a.eval = args := Array.ext' (by rw [Array.toList_map]; exact hargs0)
  unfold Oper.wp execOp
  have hev : a.eval (.func f) = .func (.func f) #[] #[] := rfl
  simp only [ho, resolve, Sem.run_bind, Sem.run_pure, Result.andThen_ok, hargs, hev, Deferred.ofValue, invoke, Array.append_empty, Array.empty_append, run_enter hf hn hb, Oper.upon]
  refine Calls.mono hc ?_
  intro e w' hp
  obtain ⟨v, rfl, hK⟩ := hk e w' hp
  exact hK
/-- a call that the model answers at once -/
theorem mix_ext {P : Program} {ops : Array Oper} {o : Oper} {a : Act} {w : World} {K : Act → World → Prop} {Q : Exit → Act → World → Prop} {E : Prop} {f : FuncId} {args : Array Value} {v : Value}
    (hr : (callFunc f args).run P w = .ok (.value v) w) (xs : Array Operand) (ts : Array TypeId)
    (ho : o.op = .call { callee := .value (.func f), args := xs, argTypes := ts }) (hargs0 : xs.toList.map a.eval = args.toList) (hw : Region.wanted o (yielded ops a.tmps) = true)
    (hk : K (a.put o.dst v) w) : if Region.wanted o (yielded ops a.tmps) = true then o.wp P a w K Q else E := by
  rw [if_pos hw]
  have hargs : xs.map a.eval = args := Array.ext' (by rw [Array.toList_map]; exact hargs0)
  unfold Oper.wp execOp
  have hev : a.eval (.func f) = .func (.func f) #[] #[] := rfl
  simp only [ho, resolve, Sem.run_bind, Sem.run_pure, Result.andThen_ok, hargs, hev, Deferred.ofValue, invoke, Array.append_empty, Array.empty_append, hr, Oper.upon]
  exact hk
end Go.Proofs.Ytekikfdlnkcenaa
