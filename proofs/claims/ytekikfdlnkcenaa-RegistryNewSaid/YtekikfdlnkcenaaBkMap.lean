/- Books of balance tables, in memory. -/
import Derived.Test.YtekikfdlnkcenaaBkSum
namespace Go.Proofs.Ytekikfdlnkcenaa
open Go.RowKit Go.Maps
/-- a row of numbers in a block -/
def URow (w : World) (A : Option Addr) (n : Nat) (xs : List Int) : Prop := xs.length = n ∧ (0 < n → ∃ g post, A = some ⟨g, 0, none⟩ ∧ Has w g (ints .u64 xs ++ post))
theorem URow.below {w w' : World} {A : Option Addr} {n : Nat} {xs : List Int} (h : URow w A n xs) (hb : Below w.heap.size w w') : URow w' A n xs :=
  ⟨h.1, fun hn => by obtain ⟨g, post, e, hg⟩ := h.2 hn; exact ⟨g, post, e, hg.below hb hg.lt⟩⟩
theorem URow.row {w : World} {A : Option Addr} {n : Nat} {xs : List Int} (h : URow w A n xs) : Row w w.heap.size 1 A n (ints .u64 xs) := by
  refine ⟨by rw [ints_len, h.1, Nat.mul_one], fun j u hu => ?_⟩
  have hj : j < xs.length := by have := (List.getElem?_eq_some_iff.1 hu).1; rwa [ints_len] at this
  obtain ⟨g, post, rfl, hg⟩ := h.2 (by have := h.1; omega)
  refine ⟨_, rfl, hg.lt, ?_⟩
  rw [add_at, hg.cell, Nat.zero_add, List.getElem?_append_left (by rw [ints_len]; exact hj)]
  exact hu
theorem URow.cell {w : World} {g : Nat} {xs : List Int} {post : List Value} (h : Has w g (ints .u64 xs ++ post)) {k : Nat} (hk : k < xs.length) : w.cell? ⟨g, k, none⟩ = some (.int .u64 (xs.getD k 0)) := by
  rw [h.cell, List.getElem?_append_left (by rw [ints_len]; exact hk), ints, List.getElem?_map, List.getElem?_eq_getElem hk, getD_at hk]; rfl
theorem URow.own {w : World} {base : Nat} {e : TypeId} {A : Option Addr} {n c : Nat} {xs : List Int} (hl : xs.length = n) (h : w.ownsRow base e 1 (.slice A n c) n (ints .u64 xs)) : URow w A n xs :=
  ⟨hl, fun hn => by
    obtain ⟨g, c', post, e, _, hg⟩ := own_block h hn
    injection e with e1 _ _
    exact ⟨g, post, e1, hg⟩⟩
theorem U64.at {l : List Int} (h : U64 l) {k : Nat} (hk : k < l.length) : 0 ≤ l.getD k 0 ∧ l.getD k 0 < 18446744073709551616 := by
  rw [getD_at hk]; exact h _ (List.getElem_mem hk)
/-- a table: checkpoint, balances -/
abbrev Tb := Ck × List Int
structure TOk (T : List Tb) : Prop where
  ok : ∀ t ∈ T, CkOk t.1
  u : ∀ t ∈ T, U64 t.2
  nd : T.Pairwise fun s t => s.1 ≠ t.1
/-- the balances at a checkpoint -/
def look (T : List Tb) (c : Ck) : Option (List Int) := (T.find? fun t => decide (t.1 = c)).map (·.2)
theorem look_some {T : List Tb} {c : Ck} {bs : List Int} (h : look T c = some bs) : (c, bs) ∈ T := by
  unfold look at h
  cases hf : T.find? (fun t => decide (t.1 = c)) with
  | none => rw [hf] at h; cases h
  | some t =>
    rw [hf] at h
    have h1 := List.mem_of_find?_eq_some hf
    have h2 := List.find?_some hf
    simp only [decide_eq_true_eq] at h2
    injection h with h
    subst h2; subst h
    exact h1
theorem look_none {T : List Tb} {c : Ck} (h : look T c = none) : ∀ t ∈ T, t.1 ≠ c := fun t ht e => by
  unfold look at h
  rw [Option.map_eq_none_iff, List.find?_eq_none] at h
  exact h t ht (by simpa using e)
theorem held_inj {v x : Value} {ps : List MemPlace} (h : heldR v = some (.held x, ps)) : v = x := by
  unfold heldR at h
  simp only [Option.some.injEq, Prod.mk.injEq, DataW.held.injEq] at h
  exact h.1
theorem nd_eq : ∀ {T : List Tb}, (T.Pairwise fun s t => s.1 ≠ t.1) → ∀ {s t : Tb}, s ∈ T → t ∈ T → s.1 = t.1 → s = t
  | [], _, _, _, h, _, _ => by simp at h
  | x :: T, hp, s, t, hs, ht, e => by
    obtain ⟨h1, h2⟩ := List.pairwise_cons.1 hp
    rcases List.mem_cons.1 hs with e1 | hs'
    · rcases List.mem_cons.1 ht with e2 | ht'
      · exact e1.trans e2.symm
      · subst e1; exact absurd e (h1 t ht')
    · rcases List.mem_cons.1 ht with e2 | ht'
      · subst e2; exact absurd e.symm (h1 s hs')
      · exact nd_eq h2 hs' ht' e
/-- a zero table -/
def zt : List Value := tbc (0, zroot) (.slice none 0 0)
theorem zero_table (w : World) : (zeroValue 38).run Try.prog w = .ok (.agg zt.toArray) w := by kernel_rfl
/-- a map of tables -/
structure BkMap (P : Nat → Prop) (w : World) (M : Nat) (T : List Tb) : Prop where
  ok : TOk T
  ex : ∃ D, w.ownsMap (H := Value) Try.prog 35 heldR M T.length D ∧ Tidy D ∧ Maps.size D = T.length ∧ (∀ kl, has D kl = true ↔ ∃ t ∈ T, kl = kc t.1) ∧
    ∀ t ∈ T, ∃ A cap, (∀ z, D.atKey (kc t.1) z = .held (.agg (tbc t.1 (.slice A t.2.length cap)).toArray)) ∧ URow w A t.2.length t.2 ∧ (A = none → cap = 0) ∧ ∀ ad, A = some ad → P ad.block
theorem BkMap.made (P : Nat → Prop) (w : World) : BkMap P (w.alloc (.map #[] 0)) w.heap.size [] :=
  ⟨⟨fun t h => by simp at h, fun t h => by simp at h, List.Pairwise.nil⟩, .map [], World.ownsMap_made w _ _ _, tidy_empty, rfl, fun kl => ⟨fun h => by simp [has] at h, fun ⟨t, h, _⟩ => by simp at h⟩, fun t h => by simp at h⟩
theorem BkMap.lt {P : Nat → Prop} {w : World} {M : Nat} {T : List Tb} (h : BkMap P w M T) : M < w.heap.size := h.ex.choose_spec.1.lt
theorem BkMap.below {P : Nat → Prop} {w w' : World} {M B : Nat} {T : List Tb} (h : BkMap P w M T) (hb : Below w.heap.size w w') : BkMap P w' M T := by
  have hl := h.lt
  obtain ⟨ok, D, ⟨es, clock, h1, h2, h3, h4⟩, ht, hs, hh, ha⟩ := h
  refine ⟨ok, D, ⟨es, clock, by rw [hb.block M hl]; exact h1, h2, h3, h4⟩, ht, hs, hh, fun t hm => ?_⟩
  obtain ⟨A, cap, e, hu, hn, hp⟩ := ha t hm
  exact ⟨A, cap, e, hu.below hb, hn, hp⟩
/-- a block of cells is not the map's -/
theorem BkMap.ne {P : Nat → Prop} {w : World} {M g : Nat} {T : List Tb} {cs : List Value} (h : BkMap P w M T) (hg : Has w g cs) : g ≠ M := fun e => by
  obtain ⟨D, ⟨es, clock, h1, _⟩, _⟩ := h.ex
  obtain ⟨t, h2⟩ := hg
  rw [e, h1] at h2
  cases h2
theorem look_of {T : List Tb} (ok : TOk T) {c : Ck} {bs : List Int} (h : (c, bs) ∈ T) : look T c = some bs := by
  cases hl : look T c with
  | none => exact absurd rfl (look_none hl _ h)
  | some b =>
    have h1 := look_some hl
    have : ((c, b) : Tb) = (c, bs) := nd_eq ok.nd h1 h rfl
    rw [(Prod.mk.inj this).2]
theorem not_has {w : World} {M : Nat} {T : List Tb} {D : DataW Value} (ok : TOk T) (hh : ∀ kl, has D kl = true ↔ ∃ t ∈ T, kl = kc t.1) {c : Ck} (hc : CkOk c) (hl : look T c = none) : has D (kc c) = false := by
  cases he : has D (kc c) with
  | false => rfl
  | true =>
    obtain ⟨t, ht, e⟩ := (hh _).1 he
    exact absurd (kc_inj hc (ok.ok t ht) e).symm (look_none hl t ht)
/-- the balances that are read at a checkpoint -/
def bal (T : List Tb) (c : Ck) : List Int := (look T c).getD []
/-- a lookup -/
theorem BkMap.read {P : Nat → Prop} {w : World} {M : Nat} {T : List Tb} (h : BkMap P w M T) {c : Ck} (hc : CkOk c) :
    ∃ (ck : Ck) (A : Option Addr) (cap : Nat), ck.2.length = 32 ∧ URow w A (bal T c).length (bal T c) ∧ ∀ w', w'.heap[M]? = w.heap[M]? →
      (Instr.lookup 81 (.map (some M)) (.agg (ckc c).toArray) true).run Try.prog w' = .ok (.tuple #[.agg (tbc ck (.slice A (bal T c).length cap)).toArray, .bool (Go.Proofs.Ytekikfdlnkcenaa.look T c).isSome]) w' ∧
      (Instr.lookup 81 (.map (some M)) (.agg (ckc c).toArray) false).run Try.prog w' = .ok (.agg (tbc ck (.slice A (bal T c).length cap)).toArray) w' := by
  obtain ⟨ok, D, ⟨es, clock, q1, q2, q3, q4⟩, ht, hs, hh, ha⟩ := h
  have key : ∀ (x : Value), (D.atKey (kc c) (.held (.agg zt.toArray)) = .held x) → ∀ w', w'.heap[M]? = w.heap[M]? →
      (Instr.lookup 81 (.map (some M)) (.agg (ckc c).toArray) true).run Try.prog w' = .ok (.tuple #[x, .bool (has D (kc c))]) w' ∧
      (Instr.lookup 81 (.map (some M)) (.agg (ckc c).toArray) false).run Try.prog w' = .ok x w' := fun x hx w' hw => by
    have ho : w'.ownsMap (H := Value) Try.prog 35 heldR M T.length D := ⟨es, clock, by rw [hw]; exact q1, q2, q3, q4⟩
    obtain ⟨v, ps, hrun, hv⟩ := ho.look_ok keyedC Try.underlying81 (zero_table w') (show heldR (.agg zt.toArray) = some (.held (.agg zt.toArray), []) from rfl) (keyOf_ck hc)
    obtain ⟨v', ps', hrun', hv'⟩ := ho.lookup keyedC Try.underlying81 (zero_table w') (show heldR (.agg zt.toArray) = some (.held (.agg zt.toArray), []) from rfl) (keyOf_ck hc)
    rw [hx] at hv hv'
    rw [held_inj hv] at hrun
    rw [held_inj hv'] at hrun'
    exact ⟨hrun, hrun'⟩
  unfold bal
  cases hl : Go.Proofs.Ytekikfdlnkcenaa.look T c with
  | none =>
    have hn := not_has (w := w) (M := M) ok hh hc hl
    refine ⟨(0, zroot), none, 0, rfl, ⟨rfl, fun h => absurd h (Nat.lt_irrefl _)⟩, fun w' hw => ?_⟩
    have := key (.agg zt.toArray) (atKey_of_not_has hn _) w' hw
    rw [hn] at this
    exact this
  | some bs =>
    have hm := look_some hl
    have hn : has D (kc c) = true := (hh _).2 ⟨_, hm, rfl⟩
    obtain ⟨A, cap, hat, hu, _⟩ := ha _ hm
    refine ⟨c, A, cap, hc.r, hu, fun w' hw => ?_⟩
    have := key _ (hat _) w' hw
    rw [hn] at this
    exact this
theorem BkMap.len {P : Nat → Prop} {w : World} {M : Nat} {T : List Tb} (h : BkMap P w M T) (ty : TypeId) : (Builtin.len_ #[81] ty #[.map (some M)]).run Try.prog w = .ok (.int .i64 T.length) w := by
  obtain ⟨ok, D, ho, ht, hs, hh, ha⟩ := h
  have := ho.len Try.underlying81 ty
  rw [hs] at this; exact this
/-- a new table is laid -/
theorem BkMap.put {P : Nat → Prop} {w : World} {M : Nat} {T : List Tb} (h : BkMap P w M T) {c : Ck} {bs : List Int} (hc : CkOk c) (hu : U64 bs) (hl : look T c = none) (hn : T.length < maxLen) {A : Option Addr} {cap : Nat} (hr : URow w A bs.length bs) (hA : A = none → cap = 0) (hP : ∀ ad, A = some ad → P ad.block) :
    ∃ w', (Instr.mapUpdate 81 (.map (some M)) (.agg (ckc c).toArray) (.agg (tbc c (.slice A bs.length cap)).toArray)).run Try.prog w = .ok () w' ∧ BkMap P w' M (T ++ [(c, bs)]) ∧ w.grownBy w' (some M) := by
  have hne := fun g cs (hg : Has w g cs) => h.ne hg
  obtain ⟨ok, D, ho, ht, hs, hh, ha⟩ := h
  have hno := not_has (w := w) (M := M) ok hh hc hl
  have hk := keyOf_ck hc
  obtain ⟨w', hrun, ho', hg⟩ := ho.update keyedC Try.underlying81 hn hk (show heldR (.agg (tbc c (.slice A bs.length cap)).toArray) = some (.held (.agg (tbc c (.slice A bs.length cap)).toArray), []) from rfl)
  have keep : ∀ {A : Option Addr} {n : Nat} {xs : List Int}, URow w A n xs → URow w' A n xs := fun h => ⟨h.1, fun hn => by
    obtain ⟨g, post, e, hx⟩ := h.2 hn
    exact ⟨g, post, e, hx.grown hg (ne_som (hne _ _ hx))⟩⟩
  refine ⟨w', hrun, ⟨⟨fun t ht => ?_, fun t ht => ?_, ?_⟩, _, by rw [List.length_append]; exact ho', ht.put (keyedC.key hk) _, ?_, fun kl => ?_, fun t hm => ?_⟩, hg⟩
  · rcases List.mem_append.1 ht with h | h
    · exact ok.ok t h
    · have : t = (c, bs) := by simpa using h
      subst this; exact hc
  · rcases List.mem_append.1 ht with h | h
    · exact ok.u t h
    · have : t = (c, bs) := by simpa using h
      subst this; exact hu
  · rw [List.pairwise_append]
    refine ⟨ok.nd, List.pairwise_singleton _ _, fun s hs t ht => ?_⟩
    have : t = (c, bs) := by simpa using ht
    subst this
    exact look_none hl s hs
  · rw [size_put ht, hno, hs, List.length_append]; rfl
  · by_cases e : kl = kc c
    · subst e
      rw [has_put_same ht.isMap (keyedC.key hk)]
      exact ⟨fun _ => ⟨(c, bs), by simp, rfl⟩, fun _ => rfl⟩
    · rw [has_put_other e, hh]
      constructor
      · rintro ⟨t, h1, h2⟩; exact ⟨t, by simp [h1], h2⟩
      · rintro ⟨t, h1, h2⟩
        rcases List.mem_append.1 h1 with h | h
        · exact ⟨t, h, h2⟩
        · have : t = (c, bs) := by simpa using h
          subst this; exact absurd h2 e
  · rcases List.mem_append.1 hm with h | h
    · obtain ⟨A', cap', e, hu', hn', hp'⟩ := ha t h
      have hne2 : kc t.1 ≠ kc c := fun e => look_none hl t h (kc_inj (ok.ok t h) hc e)
      exact ⟨A', cap', fun z => by rw [atKey_put_other hne2]; exact e z, keep hu', hn', hp'⟩
    · have : t = (c, bs) := by simpa using h
      subst this
      exact ⟨A, cap, fun z => atKey_put_same ht.isMap (keyedC.key hk) _ _, keep hr, hA, hP⟩
/-- a book -/
structure Bk (P : Nat → Prop) (w : World) (B M : Nat) (v lim : Int) (T : List Tb) : Prop where
  b : Has w B [.int .i64 v, .int .i64 lim, .map (some M)]
  m : BkMap P w M T
theorem Bk.below {P : Nat → Prop} {w w' : World} {B M : Nat} {v lim : Int} {T : List Tb} (h : Bk P w B M v lim T) (hb : Below w.heap.size w w') : Bk P w' B M v lim T := ⟨h.b.below hb h.b.lt, h.m.below (B := 0) hb⟩
/-- a lookup of a key that is there -/
theorem BkMap.readS {P : Nat → Prop} {w : World} {M : Nat} {T : List Tb} (h : BkMap P w M T) {c : Ck} (hc : CkOk c) {bs : List Int} (hm : (c, bs) ∈ T) :
    ∃ (A : Option Addr) (cap : Nat), (A = none → cap = 0) ∧ URow w A bs.length bs ∧ ∀ w', w'.heap[M]? = w.heap[M]? →
      (Instr.lookup 81 (.map (some M)) (.agg (ckc c).toArray) false).run Try.prog w' = .ok (.agg (tbc c (.slice A bs.length cap)).toArray) w' := by
  obtain ⟨ok, D, ⟨es, clock, q1, q2, q3, q4⟩, ht, hs, hh, ha⟩ := h
  obtain ⟨A, cap, hat, hu, hn, _⟩ := ha _ hm
  refine ⟨A, cap, hn, hu, fun w' hw => ?_⟩
  have ho : w'.ownsMap (H := Value) Try.prog 35 heldR M T.length D := ⟨es, clock, by rw [hw]; exact q1, q2, q3, q4⟩
  obtain ⟨v', ps', hrun', hv'⟩ := ho.lookup keyedC Try.underlying81 (zero_table w') (show heldR (.agg zt.toArray) = some (.held (.agg zt.toArray), []) from rfl) (keyOf_ck hc)
  rw [hat] at hv'
  rw [held_inj hv'] at hrun'
  exact hrun'
theorem BkMap.perm {P : Nat → Prop} {w : World} {M : Nat} {T T' : List Tb} (h : BkMap P w M T) (p : T.Perm T') : BkMap P w M T' := by
  obtain ⟨ok, D, ho, ht, hs, hh, ha⟩ := h
  have e := p.length_eq
  exact ⟨⟨fun t h => ok.ok t (p.mem_iff.2 h), fun t h => ok.u t (p.mem_iff.2 h), p.pairwise ok.nd (fun h => Ne.symm h)⟩, D, e ▸ ho, ht, e ▸ hs, fun kl => (hh kl).trans ⟨fun ⟨t, h1, h2⟩ => ⟨t, p.mem_iff.1 h1, h2⟩, fun ⟨t, h1, h2⟩ => ⟨t, p.mem_iff.2 h1, h2⟩⟩, fun t h => ha t (p.mem_iff.2 h)⟩
/-- a block that is not the book's has changed -/
theorem BkMap.far {P : Nat → Prop} {w w' : World} {M : Nat} {T : List Tb} (h : BkMap P w M T) {g : Nat} (hg : w.grownBy w' (some g)) (hM : M ≠ g) (hn : ¬ P g) : BkMap P w' M T := by
  have hl := h.lt
  obtain ⟨ok, D, ⟨es, clock, h1, h2, h3, h4⟩, ht, hs, hh, ha⟩ := h
  refine ⟨ok, D, ⟨es, clock, (hg.block M hl (ne_som hM)).trans h1, h2, h3, h4⟩, ht, hs, hh, fun t hm => ?_⟩
  obtain ⟨A, cap, e, hu, hn', hp⟩ := ha t hm
  exact ⟨A, cap, e, ⟨hu.1, fun h0 => by
    obtain ⟨k, post, ek, hk⟩ := hu.2 h0
    exact ⟨k, post, ek, hk.grown hg (ne_som (fun e2 => hn (e2 ▸ hp _ ek)))⟩⟩, hn', hp⟩
theorem Bk.far {P : Nat → Prop} {w w' : World} {B M : Nat} {v lim : Int} {T : List Tb} (h : Bk P w B M v lim T) {g : Nat} (hg : w.grownBy w' (some g)) (hB : B ≠ g) (hM : M ≠ g) (hn : ¬ P g) : Bk P w' B M v lim T := ⟨h.b.grown hg (ne_som hB), h.m.far hg hM hn⟩
theorem Bk.any {P Q : Nat → Prop} {w : World} {B M : Nat} {v lim : Int} (h : Bk P w B M v lim []) : Bk Q w B M v lim [] := ⟨h.b, by
  obtain ⟨ok, D, h1, h2, h3, h4, _⟩ := h.m
  exact ⟨ok, D, h1, h2, h3, h4, fun t ht => by cases ht⟩⟩
end Go.Proofs.Ytekikfdlnkcenaa
