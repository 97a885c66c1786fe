/- Memory of a call: its variables, rows that are being made, rows that stay as they are. -/
import Derived.Test.YtekikfdlnkcenaaGen
namespace Go.Proofs.Ytekikfdlnkcenaa
open Go.RowKit
/-- parts, one behind the other -/
def fl : List (List Value) → List Value
  | [] => []
  | [x] => x
  | x :: y :: t => x ++ fl (y :: t)
theorem fl_cons (x : List Value) (P : List (List Value)) : fl (x :: P) = x ++ fl P := by
  cases P with
  | nil => simp [fl]
  | cons y t => rfl
theorem fl_append : ∀ P Q : List (List Value), fl (P ++ Q) = fl P ++ fl Q
  | [], Q => rfl
  | x :: P, Q => by rw [List.cons_append, fl_cons, fl_cons, fl_append P Q, List.append_assoc]
theorem fl_len : ∀ {P : List (List Value)} {ls : List Nat}, P.map List.length = ls → (fl P).length = ls.sum
  | [], _, h => by subst h; rfl
  | x :: P, _, h => by subst h; rw [fl_cons, List.length_append, List.map_cons, List.sum_cons, fl_len (P := P) rfl]
/-- how many parts lie ahead of place o -/
def startOf : List Nat → Nat → Option Nat
  | _, 0 => some 0
  | [], _ + 1 => none
  | l :: ls, o + 1 => if l ≤ o + 1 then (startOf ls (o + 1 - l)).map (· + 1) else none
def findPart (ls : List Nat) (o n : Nat) : Option (Nat × Nat) := (startOf ls o).bind fun k => (startOf (ls.drop k) n).map fun j => (k, j)
theorem startOf_spec : ∀ {ls : List Nat} {o k : Nat}, startOf ls o = some k → (ls.take k).sum = o ∧ k ≤ ls.length
  | ls, 0, k, h => by
    have : k = 0 := by
      cases ls <;> (simp only [startOf] at h; injection h with h; exact h.symm)
    subst this; simp
  | [], o + 1, k, h => by simp [startOf] at h
  | l :: ls, o + 1, k, h => by
    rw [startOf] at h
    by_cases hl : l ≤ o + 1
    · rw [if_pos hl] at h
      cases hs : startOf ls (o + 1 - l) with
      | none => rw [hs] at h; cases h
      | some m =>
        rw [hs] at h
        injection h with h
        subst h
        obtain ⟨h1, h2⟩ := startOf_spec hs
        simp only [List.take_succ_cons, List.sum_cons, h1, List.length_cons]
        omega
    · rw [if_neg hl] at h; cases h
theorem map_take_len {P : List (List Value)} {ls : List Nat} (h : P.map List.length = ls) (k : Nat) : (P.take k).map List.length = ls.take k := by subst h; simp
theorem map_drop_len {P : List (List Value)} {ls : List Nat} (h : P.map List.length = ls) (k : Nat) : (P.drop k).map List.length = ls.drop k := by subst h; simp
/-- the parts that lie at place o, n cells -/
theorem findPart_spec {P : List (List Value)} {ls : List Nat} (hl : P.map List.length = ls) {o n k j : Nat} (hf : findPart ls o n = some (k, j)) :
    ∃ pre post, fl P = pre ++ fl ((P.drop k).take j) ++ post ∧ pre.length = o ∧ (fl ((P.drop k).take j)).length = n ∧ ∀ Q, fl (P.take k ++ Q ++ P.drop (k + j)) = pre ++ fl Q ++ post := by
  unfold findPart at hf
  cases hs : startOf ls o with
  | none => rw [hs] at hf; cases hf
  | some k' =>
    rw [hs] at hf
    simp only [Option.bind_some] at hf
    cases ht : startOf (ls.drop k') n with
    | none => rw [ht] at hf; cases hf
    | some j' =>
      rw [ht] at hf
      simp only [Option.map_some, Option.some.injEq, Prod.mk.injEq] at hf
      obtain ⟨rfl, rfl⟩ := hf
      obtain ⟨h1, h2⟩ := startOf_spec hs
      obtain ⟨h3, h4⟩ := startOf_spec ht
      refine ⟨fl (P.take k'), fl (P.drop (k' + j')), ?_, by rw [fl_len (map_take_len hl k'), h1], by rw [fl_len (map_take_len (map_drop_len hl k') j'), h3], fun Q => by rw [fl_append, fl_append]⟩
      have e : P.drop (k' + j') = (P.drop k').drop j' := by rw [List.drop_drop]
      rw [← fl_append, ← fl_append, e, List.append_assoc, List.take_append_drop, List.take_append_drop]
theorem cut_mid {pre ds post : List Value} : ∀ j u, ds[j]? = some u → (pre ++ ds ++ post)[pre.length + j]? = some u := fun j u hu => by
  rw [List.append_assoc, List.getElem?_append_right (by omega), Nat.add_sub_cancel_left, List.getElem?_append_left (List.getElem?_eq_some_iff.1 hu).1]
  exact hu
/-- rows that stay: block, first cells -/
abbrev Gam := Nat → Option (List Value)
def Ok (Γ : Gam) (w : World) : Prop := ∀ g cs, Γ g = some cs → ∃ post, Has w g (cs ++ post)
def Le (Γ Γ' : Gam) : Prop := ∀ g cs, Γ g = some cs → Γ' g = some cs
def g0 : Gam := fun _ => none
theorem ok_g0 (w : World) : Ok g0 w := fun _ _ h => by cases h
theorem Le.refl (Γ : Gam) : Le Γ Γ := fun _ _ h => h
theorem Le.trans {Γ Γ' Γ'' : Gam} (h : Le Γ Γ') (h' : Le Γ' Γ'') : Le Γ Γ'' := fun g cs e => h' g cs (h g cs e)
theorem Ok.off {Γ : Gam} {w : World} (h : Ok Γ w) {g : Nat} (hg : w.heap.size ≤ g) : Γ g = none := by
  cases e : Γ g with
  | none => rfl
  | some cs => obtain ⟨post, hh⟩ := h g cs e; have := hh.lt; omega
theorem Ok.below {Γ : Gam} {w w' : World} (h : Ok Γ w) (hb : Below w.heap.size w w') : Ok Γ w' := fun g cs e => by
  obtain ⟨post, hh⟩ := h g cs e
  exact ⟨post, hh.below hb hh.lt⟩
theorem Ok.grown {Γ : Gam} {w w' : World} (h : Ok Γ w) {row : Option Nat} (hg : w.grownBy w' row) (hr : ∀ g, row = some g → Γ g = none) : Ok Γ w' := fun g cs e => by
  obtain ⟨post, hh⟩ := h g cs e
  exact ⟨post, hh.grown hg (fun er => by rw [hr g er.symm] at e; cases e)⟩
/-- the call has gone on: more rows stay; what was there is as it was -/
structure Ext (Γ : Gam) (w : World) (Γ' : Gam) (w' : World) : Prop where
  le : Le Γ Γ'
  ok : Ok Γ' w'
  new : ∀ g, Γ g = none → g < w.heap.size → Γ' g = none
  bel : Below w.heap.size w w'
theorem Ext.refl {Γ : Gam} {w : World} (h : Ok Γ w) : Ext Γ w Γ w := ⟨Le.refl _, h, fun _ h _ => h, Below.refl _ _⟩
theorem Ext.below {Γ : Gam} {w w' : World} (h : Ok Γ w) (hb : Below w.heap.size w w') : Ext Γ w Γ w' := ⟨Le.refl _, h.below hb, fun _ h _ => h, hb⟩
theorem Ext.trans {Γ Γ' Γ'' : Gam} {w w' w'' : World} (h : Ext Γ w Γ' w') (h' : Ext Γ' w' Γ'' w'') : Ext Γ w Γ'' w'' :=
  ⟨h.le.trans h'.le, h'.ok, fun g e hg => h'.new g (h.new g e hg) (Nat.lt_of_lt_of_le hg h.bel.size), h.bel.trans (h'.bel.mono h.bel.size)⟩
/-- a variable: its block, its parts, their lengths -/
structure Ent where
  g : Nat
  P : List (List Value)
  ls : List Nat
/-- a row that is being made: its slice, its elements' type, their size, their number, its cells -/
structure RowE where
  v : Value
  e : TypeId
  size : Nat
  n : Nat
  xs : List Value
structure MM (Γ0 : Gam) (w0 : World) (Γ : Gam) (w : World) (L : List Ent) (R : List RowE) : Prop where
  ext : Ext Γ0 w0 Γ w
  has : ∀ p ∈ L, Has w p.g (fl p.P)
  len : ∀ p ∈ L, p.P.map List.length = p.ls
  off : ∀ p ∈ L, Γ p.g = none
  lo : ∀ p ∈ L, w0.heap.size ≤ p.g
  nd : L.Pairwise fun p q => p.g ≠ q.g
  rows : ∀ r ∈ R, w.ownsRow w0.heap.size r.e r.size r.v r.n r.xs
  roff : ∀ r ∈ R, ∀ g, r.v.ownBlock = some g → Γ g = none ∧ ∀ p ∈ L, p.g ≠ g
  rnd : R.Pairwise fun r s => ∀ g, r.v.ownBlock = some g → s.v.ownBlock ≠ some g
/-- a variable, as it lies in memory -/
structure HL (w : World) (g : Nat) (P : List (List Value)) (ls : List Nat) : Prop where
  has : Has w g (fl P)
  len : P.map List.length = ls
theorem HL.below {w w' : World} {g : Nat} {P : List (List Value)} {ls : List Nat} (h : HL w g P ls) (hb : Below w.heap.size w w') : HL w' g P ls := ⟨h.has.below hb h.has.lt, h.len⟩
section
variable {Γ0 Γ : Gam} {w0 w : World} {L : List Ent} {R : List RowE}
theorem MM.start {Γ : Gam} {w : World} (h : Ok Γ w) : MM Γ w Γ w [] [] := ⟨Ext.refl h, by simp, by simp, by simp, by simp, List.Pairwise.nil, by simp, by simp, List.Pairwise.nil⟩
theorem MM.at0 {g : Nat} {P : List (List Value)} {ls : List Nat} (M : MM Γ0 w0 Γ w (⟨g, P, ls⟩ :: L) R) : HL w g P ls := ⟨M.has ⟨g, P, ls⟩ (by simp), M.len ⟨g, P, ls⟩ (by simp)⟩
theorem MM.at1 {a : Ent} {g : Nat} {P : List (List Value)} {ls : List Nat} (M : MM Γ0 w0 Γ w (a :: ⟨g, P, ls⟩ :: L) R) : HL w g P ls := ⟨M.has ⟨g, P, ls⟩ (by simp), M.len ⟨g, P, ls⟩ (by simp)⟩
theorem MM.at2 {a b : Ent} {g : Nat} {P : List (List Value)} {ls : List Nat} (M : MM Γ0 w0 Γ w (a :: b :: ⟨g, P, ls⟩ :: L) R) : HL w g P ls := ⟨M.has ⟨g, P, ls⟩ (by simp), M.len ⟨g, P, ls⟩ (by simp)⟩
theorem MM.at3 {a b c : Ent} {g : Nat} {P : List (List Value)} {ls : List Nat} (M : MM Γ0 w0 Γ w (a :: b :: c :: ⟨g, P, ls⟩ :: L) R) : HL w g P ls := ⟨M.has ⟨g, P, ls⟩ (by simp), M.len ⟨g, P, ls⟩ (by simp)⟩
theorem MM.at4 {a b c d : Ent} {g : Nat} {P : List (List Value)} {ls : List Nat} (M : MM Γ0 w0 Γ w (a :: b :: c :: d :: ⟨g, P, ls⟩ :: L) R) : HL w g P ls := ⟨M.has ⟨g, P, ls⟩ (by simp), M.len ⟨g, P, ls⟩ (by simp)⟩
theorem MM.at5 {a b c d e : Ent} {g : Nat} {P : List (List Value)} {ls : List Nat} (M : MM Γ0 w0 Γ w (a :: b :: c :: d :: e :: ⟨g, P, ls⟩ :: L) R) : HL w g P ls := ⟨M.has ⟨g, P, ls⟩ (by simp), M.len ⟨g, P, ls⟩ (by simp)⟩
theorem MM.tail {a : Ent} (M : MM Γ0 w0 Γ w (a :: L) R) : MM Γ0 w0 Γ w L R :=
  ⟨M.ext, fun p h => M.has p (by simp [h]), fun p h => M.len p (by simp [h]), fun p h => M.off p (by simp [h]), fun p h => M.lo p (by simp [h]), (List.pairwise_cons.1 M.nd).2, M.rows,
    fun r h g e => ⟨(M.roff r h g e).1, fun p hp => (M.roff r h g e).2 p (by simp [hp])⟩, M.rnd⟩
theorem MM.rtail {a : RowE} (M : MM Γ0 w0 Γ w L (a :: R)) : MM Γ0 w0 Γ w L R :=
  ⟨M.ext, M.has, M.len, M.off, M.lo, M.nd, fun r h => M.rows r (by simp [h]), fun r h => M.roff r (by simp [h]), (List.pairwise_cons.1 M.rnd).2⟩
theorem own_lt2 {w : World} {base : Nat} {e : TypeId} {size : Nat} {v : Value} {n : Nat} {xs : List Value} (h : w.ownsRow base e size v n xs) {g : Nat} (hg : v.ownBlock = some g) : base ≤ g ∧ g < w.heap.size := h.lt g hg
/-- a call has come back -/
theorem MM.call {Γ' : Gam} {w' : World} (M : MM Γ0 w0 Γ w L R) (e : Ext Γ w Γ' w') : MM Γ0 w0 Γ' w' L R :=
  ⟨M.ext.trans e, fun p h => (M.has p h).below e.bel (M.has p h).lt, M.len, fun p h => e.new _ (M.off p h) (M.has p h).lt, M.lo, M.nd, fun r h => own_ext (M.rows r h) e.bel,
    fun r h g hg => ⟨e.new _ (M.roff r h g hg).1 ((M.rows r h).lt g hg).2, (M.roff r h g hg).2⟩, M.rnd⟩
theorem MM.below {w' : World} (M : MM Γ0 w0 Γ w L R) (hb : Below w.heap.size w w') : MM Γ0 w0 Γ w' L R := M.call (Ext.below M.ext.ok hb)
theorem MM.drew (M : MM Γ0 w0 Γ w L R) : MM Γ0 w0 Γ w.drew L R := M.below (Below.refl _ _).drew
/-- a new variable -/
theorem MM.alloc (M : MM Γ0 w0 Γ w L R) {P : List (List Value)} {ls : List Nat} (hl : P.map List.length = ls) {cs : Array Value} (hc : cs = (fl P).toArray) (t : TypeId) : MM Γ0 w0 Γ (w.alloc (.cells cs t)) (⟨w.heap.size, P, ls⟩ :: L) R := by
  subst hc
  have M' := M.below (ext_alloc w (.cells (fl P).toArray t))
  refine ⟨M'.ext, fun p h => ?_, fun p h => ?_, fun p h => ?_, fun p h => ?_, List.pairwise_cons.2 ⟨fun q hq e => ?_, M.nd⟩, M'.rows, fun r h g hg => ⟨(M'.roff r h g hg).1, fun p hp => ?_⟩, M.rnd⟩
  · rcases List.mem_cons.1 h with rfl | h
    · exact Has.new w (fl P) t
    · exact M'.has p h
  · rcases List.mem_cons.1 h with rfl | h
    · exact hl
    · exact M.len p h
  · rcases List.mem_cons.1 h with rfl | h
    · exact M.ext.ok.off (Nat.le_refl _)
    · exact M.off p h
  · rcases List.mem_cons.1 h with rfl | h
    · exact M.ext.bel.size
    · exact M.lo p h
  · have := (M.has q hq).lt
    simp only at e
    omega
  · rcases List.mem_cons.1 hp with rfl | hp
    · have := ((M.rows r h).lt g hg).2
      simp only
      omega
    · exact (M.roff r h g hg).2 p hp
/-- variable i is written -/
theorem MM.write {w' : World} (M : MM Γ0 w0 Γ w L R) {i : Nat} {g : Nat} {P P' : List (List Value)} {ls : List Nat} (hi : L[i]? = some ⟨g, P, ls⟩) (hg : w.grownBy w' (some g)) (hh : Has w' g (fl P')) (hl : P'.map List.length = ls) : MM Γ0 w0 Γ w' (L.set i ⟨g, P', ls⟩) R := by
  have hm : (⟨g, P, ls⟩ : Ent) ∈ L := List.mem_of_getElem? hi
  have hlo := M.lo _ hm
  have hof := M.off _ hm
  have hil : i < L.length := (List.getElem?_eq_some_iff.1 hi).1
  have hget : L[i] = ⟨g, P, ls⟩ := (List.getElem?_eq_some_iff.1 hi).2
  have key : ∀ p ∈ L.set i ⟨g, P', ls⟩, p = ⟨g, P', ls⟩ ∨ (p ∈ L ∧ p.g ≠ g) := fun p hp => by
    obtain ⟨j, hj, rfl⟩ := List.getElem_of_mem hp
    rw [List.getElem_set]
    rw [List.length_set] at hj
    split
    · exact .inl rfl
    · rename_i hne
      refine .inr ⟨List.getElem_mem hj, fun e => ?_⟩
      have hpw := List.pairwise_iff_getElem.1 M.nd
      rcases Nat.lt_or_ge i j with hij | hij
      · have := hpw i j hil hj hij
        rw [hget] at this
        exact this e.symm
      · have := hpw j i hj hil (by omega)
        rw [hget] at this
        exact this e
  have hbl : Below w0.heap.size w0 w' := M.ext.bel.grown hg M.ext.bel.size (fun k e => by cases e; exact hlo)
  refine ⟨⟨M.ext.le, M.ext.ok.grown hg (fun k e => by cases e; exact hof), M.ext.new, hbl⟩, fun p hp => ?_, fun p hp => ?_, fun p hp => ?_, fun p hp => ?_, ?_, fun r h => own_grown (M.rows r h) hg (fun k hk e => ?_), fun r h k hk => ⟨(M.roff r h k hk).1, fun p hp => ?_⟩, M.rnd⟩
  · rcases key p hp with rfl | ⟨h1, h2⟩
    · exact hh
    · exact (M.has p h1).grown hg (ne_som h2)
  · rcases key p hp with rfl | ⟨h1, h2⟩
    · exact hl
    · exact M.len p h1
  · rcases key p hp with rfl | ⟨h1, h2⟩
    · exact hof
    · exact M.off p h1
  · rcases key p hp with rfl | ⟨h1, h2⟩
    · exact hlo
    · exact M.lo p h1
  · rw [List.pairwise_iff_getElem]
    intro a b ha hb hab
    rw [List.length_set] at ha hb
    have hpw := List.pairwise_iff_getElem.1 M.nd a b ha hb hab
    rw [List.getElem_set, List.getElem_set]
    split
    · rename_i e1
      subst e1
      split
      · omega
      · rw [hget] at hpw; exact hpw
    · split
      · rename_i e2
        subst e2
        rw [hget] at hpw; exact hpw
      · exact hpw
  · injection e with e
    subst e
    exact (M.roff r h _ hk).2 _ hm rfl
  · rcases key p hp with rfl | ⟨h1, h2⟩
    · exact (M.roff r h k hk).2 ⟨g, P, ls⟩ hm
    · exact (M.roff r h k hk).2 p h1
/-- a block of the call's own that is nobody's here has changed -/
theorem MM.other {w' : World} (M : MM Γ0 w0 Γ w L R) {g : Nat} (hg : w.grownBy w' (some g)) (hlo : w0.heap.size ≤ g) (hΓ : Γ g = none) (hL : ∀ p ∈ L, p.g ≠ g) (hR : ∀ r ∈ R, r.v.ownBlock ≠ some g) : MM Γ0 w0 Γ w' L R :=
  ⟨⟨M.ext.le, M.ext.ok.grown hg (fun k e => by cases e; exact hΓ), M.ext.new, M.ext.bel.grown hg M.ext.bel.size (fun k e => by cases e; exact hlo)⟩, fun p hp => (M.has p hp).grown hg (ne_som (hL p hp)), M.len, M.off, M.lo, M.nd,
    fun r hr => own_grown (M.rows r hr) hg (fun k hk e => by cases e; exact hR r hr hk), M.roff, M.rnd⟩
/-- a block that holds no cells has changed -/
theorem MM.map {w' : World} (M : MM Γ0 w0 Γ w L R) {g : Nat} (hg : w.grownBy w' (some g)) (hlo : w0.heap.size ≤ g) (hn : ∀ cs, ¬ Has w g cs) : MM Γ0 w0 Γ w' L R := by
  refine M.other hg hlo ?_ (fun p hp e => hn (fl p.P) (e ▸ M.has p hp)) (fun r hr e => ?_)
  · cases h : Γ g with
    | none => rfl
    | some cs => obtain ⟨post, hh⟩ := M.ext.ok g cs h; exact absurd hh (hn _)
  · rcases (M.rows r hr).2 with ⟨h1, _⟩ | ⟨k, cap, cur, h1, _, h3, _⟩
    · rw [h1] at e; cases e
    · rw [h1] at e
      have : k = g := by injection e
      subst this
      exact hn cur.toList ⟨r.e, by simpa using h3⟩
/-- a row begins -/
theorem MM.row0 (M : MM Γ0 w0 Γ w L R) (e : TypeId) (size : Nat) : MM Γ0 w0 Γ w L (⟨.slice none 0 0, e, size, 0, []⟩ :: R) :=
  ⟨M.ext, M.has, M.len, M.off, M.lo, M.nd, fun r h => (List.mem_cons.1 h).elim (fun e => e ▸ World.ownsRow_nil _ _ _ _) (M.rows r),
    fun r h => (List.mem_cons.1 h).elim (fun e => e ▸ fun g hg => (by cases hg)) (M.roff r), List.pairwise_cons.2 ⟨fun _ _ g hg => (by cases hg), M.rnd⟩⟩
/-- a row of the call's own comes in -/
theorem MM.rowNew {w' : World} (M : MM Γ0 w0 Γ w L R) (hb : Below w.heap.size w w') {e : TypeId} {size n : Nat} {v : Value} {xs : List Value} (h : w'.ownsRow w.heap.size e size v n xs) : MM Γ0 w0 Γ w' L (⟨v, e, size, n, xs⟩ :: R) := by
  have M' := M.below hb
  refine ⟨M'.ext, M'.has, M.len, M'.off, M.lo, M.nd, fun r hr => ?_, fun r hr g hg => ?_, List.pairwise_cons.2 ⟨fun s hs g hg e => ?_, M.rnd⟩⟩
  · rcases List.mem_cons.1 hr with rfl | hr
    · exact own_mono h M.ext.bel.size
    · exact M'.rows r hr
  · rcases List.mem_cons.1 hr with rfl | hr
    · have hlt := h.lt g hg
      refine ⟨M.ext.ok.off hlt.1, fun p hp e => ?_⟩
      have := (M.has p hp).lt
      omega
    · exact M'.roff r hr g hg
  · have := ((M.rows s hs).lt g e).2
    have := (h.lt g hg).1
    omega
/-- the first row has grown -/
theorem MM.rowGrow {w' : World} {v v' : Value} {e : TypeId} {size n n' : Nat} {xs xs' : List Value} (M : MM Γ0 w0 Γ w L (⟨v, e, size, n, xs⟩ :: R)) (hg : w.grownBy w' v.ownBlock) (h : w'.ownsRow w0.heap.size e size v' n' xs')
    (hv : v'.ownBlock = v.ownBlock ∨ v'.ownBlock = some w.heap.size ∨ ∃ g, w.heap.size ≤ g ∧ v'.ownBlock = some g) : MM Γ0 w0 Γ w' L (⟨v', e, size, n', xs'⟩ :: R) := by
  have ho := M.roff _ (List.mem_cons_self ..)
  have hr := M.rows _ (List.mem_cons_self ..)
  have M1 := M.rtail
  have hvo : ∀ g, v'.ownBlock = some g → v.ownBlock = some g ∨ w.heap.size ≤ g := fun g e => by
    rcases hv with h1 | h1 | ⟨k, h1, h2⟩
    · exact .inl (h1 ▸ e)
    · rw [e] at h1; injection h1 with h1; exact .inr (by omega)
    · rw [e] at h2; injection h2 with h2; exact .inr (by omega)
  have hbl : Below w0.heap.size w0 w' := M.ext.bel.grown hg M.ext.bel.size (fun k e => (hr.lt k e).1)
  have hok : Ok Γ w' := M.ext.ok.grown hg (fun g e => (ho g e).1)
  refine ⟨⟨M.ext.le, hok, M.ext.new, hbl⟩, fun p hp => (M.has p hp).grown hg (fun e => (ho _ e.symm).2 p hp rfl), M.len, M.off, M.lo, M.nd, fun r hr' => ?_, fun r hr' g hg' => ?_, List.pairwise_cons.2 ⟨fun s hs g hg' e => ?_, M1.rnd⟩⟩
  · rcases List.mem_cons.1 hr' with rfl | hr'
    · exact h
    · exact own_grown (M1.rows r hr') hg (fun k hk e => (List.pairwise_cons.1 M.rnd).1 r hr' k e hk)
  · rcases List.mem_cons.1 hr' with rfl | hr'
    · rcases hvo g hg' with h1 | h1
      · exact ho g h1
      · refine ⟨M.ext.ok.off h1, fun p hp e => ?_⟩
        have := (M.has p hp).lt
        omega
    · exact M1.roff r hr' g hg'
  · rcases hvo g hg' with h1 | h1
    · exact (List.pairwise_cons.1 M.rnd).1 s hs g h1 e
    · have := ((M1.rows s hs).lt g e).2
      omega
/-- a slice's capacity -/
structure CapOk (A : Option Addr) (n c : Nat) : Prop where
  le : n ≤ c
  mx : c ≤ maxLen
  nil : A = none → c = 0
/-- a slice of rows that stay -/
def SlG (Γ : Gam) (A : Option Addr) (n : Nat) (xs : List Value) : Prop := 0 < n → ∃ g post, A = some ⟨g, 0, none⟩ ∧ Γ g = some (xs ++ post)
theorem SlG.mono {Γ' : Gam} {A : Option Addr} {n : Nat} {xs : List Value} (h : SlG Γ A n xs) (hl : Le Γ Γ') : SlG Γ' A n xs := fun hn => by
  obtain ⟨g, post, e, hg⟩ := h hn
  exact ⟨g, post, e, hl _ _ hg⟩
def Gam.add (Γ : Gam) (g : Nat) (cs : List Value) : Gam := fun k => if k = g then some cs else Γ k
theorem le_add {g : Nat} {cs : List Value} (h : Γ g = none) : Le Γ (Γ.add g cs) := fun k ds e => by
  unfold Gam.add
  by_cases hk : k = g
  · subst hk; rw [h] at e; cases e
  · rw [if_neg hk]; exact e
/-- the first row stays from now on -/
theorem MM.freeze {v : Value} {e : TypeId} {size n : Nat} {xs : List Value} (M : MM Γ0 w0 Γ w L (⟨v, e, size, n, xs⟩ :: R)) :
    ∃ A c Γ', v = .slice A n c ∧ CapOk A n c ∧ SlG Γ' A n xs ∧ Le Γ Γ' ∧ MM Γ0 w0 Γ' w L R := by
  have hr := M.rows _ (List.mem_cons_self ..)
  have ho := M.roff _ (List.mem_cons_self ..)
  have M1 := M.rtail
  rcases hr.2 with ⟨h1, h2⟩ | ⟨g, cap, cur, h1, h2, h3, h4, h5, h6, h7⟩
  · simp only at h1 h2
    subst h1 h2
    exact ⟨none, 0, Γ, rfl, ⟨Nat.le_refl _, Nat.zero_le _, fun _ => rfl⟩, fun h => absurd h (Nat.lt_irrefl _), Le.refl _, M1⟩
  · simp only at h1 h3 h6 h7
    subst h1
    obtain ⟨hn, hL⟩ := ho g rfl
    have hh : Has w g (xs ++ cur.toList.drop (n * size)) := ⟨e, by rw [← h7, List.take_append_drop]; simpa using h3⟩
    refine ⟨_, _, Γ.add g xs, rfl, ⟨h4, h5, (fun h => by cases h)⟩, fun _ => ⟨g, [], rfl, by simp [Gam.add]⟩, le_add hn, ?_⟩
    have hnew : ∀ k, k ≠ g → Γ.add g xs k = Γ k := fun k hk => by simp [Gam.add, hk]
    refine ⟨⟨M.ext.le.trans (le_add hn), fun k cs ek => ?_, fun k ek hk => ?_, M.ext.bel⟩, M.has, M.len, fun p hp => by rw [hnew _ (hL p hp)]; exact M.off p hp, M.lo, M.nd, M1.rows, fun r hr' k hk => ⟨?_, (M1.roff r hr' k hk).2⟩, M1.rnd⟩
    · by_cases hkg : k = g
      · subst hkg
        simp only [Gam.add, if_true, Option.some.injEq] at ek
        subst ek
        exact ⟨_, hh⟩
      · rw [hnew k hkg] at ek; exact M.ext.ok k cs ek
    · rw [hnew k (by omega)]; exact M.ext.new k ek hk
    · rw [hnew k (fun e => (List.pairwise_cons.1 M.rnd).1 r hr' g rfl (e ▸ hk))]; exact (M1.roff r hr' k hk).1
end
/-- cells of a row that stays -/
def Chk (Γ : Gam) (g base : Nat) (cs : List Value) : Prop := ∃ all, Γ g = some all ∧ ∀ j u, cs[j]? = some u → all[base + j]? = some u
theorem Chk.mono {Γ Γ' : Gam} {g base : Nat} {cs : List Value} (h : Chk Γ g base cs) (hl : Le Γ Γ') : Chk Γ' g base cs := by
  obtain ⟨all, h1, h2⟩ := h
  exact ⟨all, hl _ _ h1, h2⟩
theorem Chk.range {Γ : Gam} {g base : Nat} {cs : List Value} (h : Chk Γ g base cs) {w : World} (ok : Ok Γ w) : w.rangeAt g base cs := fun j u hu => by
  obtain ⟨all, h1, h2⟩ := h
  obtain ⟨post, hh⟩ := ok _ _ h1
  have := h2 j u hu
  rw [hh.cell, List.getElem?_append_left (List.getElem?_eq_some_iff.1 this).1]
  exact this
/-- element i of a slice -/
theorem SlG.at {α : Type} {f : α → List Value} {k : Nat} {Γ : Gam} {A : Option Addr} {n : Nat} {xs : List α} (h : SlG Γ A n (xs.flatMap f)) (hk : ∀ x ∈ xs, (f x).length = k) (hn : xs.length = n) (i : Nat) (hi : i < n) :
    ∃ g, A = some ⟨g, 0, none⟩ ∧ Chk Γ g (i * k) (f (xs[i]'(by omega))) := by
  obtain ⟨g, post, e, hg⟩ := h (by omega)
  refine ⟨g, e, _, hg, fun j u hu => ?_⟩
  have hj : j < (f (xs[i]'(by omega))).length := (List.getElem?_eq_some_iff.1 hu).1
  have hix : i < xs.length := by omega
  have hfl : i * k + j < (xs.flatMap f).length := by
    rw [flat_len xs hk]
    have h1 : (f (xs[i]'hix)).length = k := hk _ (List.getElem_mem hix)
    have h2 : (i + 1) * k ≤ xs.length * k := Nat.mul_le_mul_right _ hix
    rw [Nat.succ_mul] at h2
    omega
  rw [List.getElem?_append_left hfl, flat_get xs hk i j hix (by rw [hk _ (List.getElem_mem hix)] at hj; exact hj)]
  exact hu
/-- the slice as it lies -/
theorem SlG.row {Γ : Gam} {A : Option Addr} {n size : Nat} {xs : List Value} (h : SlG Γ A n xs) (hl : xs.length = n * size) {w : World} (ok : Ok Γ w) : Row w w.heap.size size A n xs := by
  refine ⟨hl, fun j u hu => ?_⟩
  have hj : j < xs.length := (List.getElem?_eq_some_iff.1 hu).1
  obtain ⟨g, post, e, hg⟩ := h (by rcases Nat.eq_zero_or_pos n with h0 | h0; · subst h0; omega
                                   · exact h0)
  obtain ⟨p2, hh⟩ := ok _ _ hg
  refine ⟨_, e, hh.lt, ?_⟩
  rw [add_at, hh.cell, Nat.zero_add, List.getElem?_append_left (by simp; omega), List.getElem?_append_left hj]
  exact hu
/-- a type of several cells -/
structure RowT (P : Program) (ty : TypeId) (n : Nat) : Prop where
  ex : ∃ d, P.underlying ty = some d ∧ d.isRow = true
  n : P.cellsOf ty = n
/-- a type of one cell -/
structure OneT (P : Program) (ty : TypeId) : Prop where
  ex : ∃ d, P.underlying ty = some d ∧ d.isRow = false
  n : P.cellsOf ty = 1
theorem run_load1 {P : Program} {ty : TypeId} (t : OneT P ty) {w : World} {p : Addr} {v : Value} (hc : w.cell? p = some v) : (Instr.loadAt ty (.pointer (some p))).run P w = .ok v w := by
  obtain ⟨d, hu, hd⟩ := t.ex
  have hagg : ∀ w, (isAgg ty).run P w = .ok false w := fun w => by
    unfold isAgg
    cases d <;> first | (simp [TypeDesc.isRow] at hd; done) | simp [run_underlying hu]
  simp [Instr.loadAt, Instr.sureAddr, loadVar, hagg, run_load, hc]
end Go.Proofs.Ytekikfdlnkcenaa
