/- A built tree is well-formed. -/
import Derived.Test.YtonkgjengplppaaTreeA
import Derived.Deep.CutRange
namespace Go.Proofs.Ytonkgjengplppaa
open Go.RowKit
/-- the root of a number -/
def rootL (n : Int) : List Int := ((zroot.set 0 (n % 256)).set 1 (n / 256 % 256)).set 31 (wrap64 (n * 7) % 256)
theorem rootL_length (n : Int) : (rootL n).length = 32 := by simp [rootL, zroot]
theorem one_ints (k : IntKind) (l : List Int) : ∀ u ∈ ints k l, u.oneCell' = true := fun u hu => by
  obtain ⟨x, _, rfl⟩ := List.mem_map.1 hu
  rfl
theorem zroot_len {l : List Int} (h : l.length = 32) : (ints .u8 zroot).length = (ints .u8 l).length := by rw [ints, ints, List.length_map, List.length_map, h]; rfl
theorem root_any (n : Int) (w : World) :
    Calls Try.prog 39 #[.int .i64 n] w fun e w' => e = .returned (.agg (ints .u8 (rootL n)).toArray) ∧ Below w.heap.size w w' := by
  have hz := zroot_lit
  have hr : (((ints .u8 zroot).set 0 (.int .u8 (n % 256))).set 1 (.int .u8 (n / 256 % 256))).set 31 (.int .u8 (wrap64 (n * 7) % 256)) = ints .u8 (rootL n) := by
    rw [rootL, ints, ints, List.map_set, List.map_set, List.map_set]
  have hl := rootL_length n
  generalize rootL n = R at *
  have HZ := bx (Has.new w (ints .u8 zroot) 41)
  have HL := bx hl
  have HRR := bx hr
  clear hl hr
  go_enter Try.func39, Try.ntmps39
  go_wp2_with ((with_reducible refine wpList_storeB rfl 41 _ _ rfl _ (ints .u8 R) _ ?_ ?_ HZ.out ?_ Try.underlying41 ?_ (one_ints _ _) ?_); rfl; (rw [← HRR.out]; rfl); exact zroot_len HL.out; exact cells_root HL.out; intro w1 hw1 hg1 hz1; have HR := bx hw1; have HB := bx (((Below.refl w.heap.size w).alloc (Nat.le_refl _) _).grown hg1 (by simp) (fun k hk => by cases hk; exact Nat.le_refl _)); clear hw1 hg1 hz1)
  exact bodyPost_ret (results_cell (by rfl) _ (by rfl) HR.out Try.underlying41 rfl (cells_root HL.out)) rfl ⟨rfl, HB.out⟩
/-- a part of a variable is written -/
theorem wpList_storeM {P : Program} {ops : Array Oper} {rest : List Oper} {op : Oper} {a : Act} {w : World} {Q : Exit → Act → World → Prop} (hgd : op.guard = none) (ty : TypeId) (x y : Operand) (ho : op.op = .store ty x y)
    (g o : Nat) (pre old vs post : List Value) (hpre : pre.length = o) (hx : a.eval x = .pointer (some ⟨g, o, none⟩)) (hy : a.eval y = .agg vs.toArray) (hg : Has w g (pre ++ old ++ post)) (hl : old.length = vs.length) {d : TypeDesc}
    (hu : P.underlying ty = some d) (hc : P.cellsOf ty = vs.length) (h1 : ∀ u ∈ vs, u.oneCell' = true)
    (h : ∀ w', Has w' g (pre ++ vs ++ post) → w.grownBy w' (some g) → w'.heap.size = w.heap.size → wpList P ops Q rest (a.put op.dst undef) w') : wpList P ops Q (op :: rest) a w := by
  subst hpre
  obtain ⟨q1, q2, q3⟩ := setCells_all g vs old pre post w hl hg
  refine wpList_store_mid hgd ty x y ho g pre.length vs.toArray hx hy ?_ ?_ (all_oneCell_toArray h1) ?_
  · intro j hj
    rw [List.size_toArray] at hj
    rw [hg.cell, hg.frozen, List.append_assoc, List.getElem?_append_right (by omega), Nat.add_sub_cancel_left, List.getElem?_append_left (by omega), List.getElem?_eq_getElem (by omega)]
    exact ⟨rfl, rfl⟩
  · have := info_size hu hc
    simpa using this
  · have := h _ q1 q2 q3
    simpa using this
/-- bytes -/
def Bt (r : List Int) : Prop := ∀ x ∈ r, 0 ≤ x ∧ x < 256
/-- a well-formed tree -/
structure Wf (ns : List Nd) : Prop where
  first : ∀ h : 0 < ns.length, ns[0].up = -1
  up : ∀ i (h : i < ns.length), 0 < i → ∃ (u : Nat) (hu : u < i), ns[i].up = u ∧ (ns[u]'(Nat.lt_trans hu h)).b.root = ns[i].b.parent ∧ (ns[u]'(Nat.lt_trans hu h)).b.slot < ns[i].b.slot
  diff : ∀ i j (hi : i < ns.length) (hj : j < ns.length), ns[i].b.root = ns[j].b.root → i = j
  st : ∀ x ∈ ns, 0 ≤ x.st ∧ x.st ≤ 2
  nz : ∀ x ∈ ns, x.b.root ≠ zroot
  bt : ∀ x ∈ ns, Bt x.b.root
theorem zroot_bt : Bt zroot := fun x hx => by
  have := List.eq_of_mem_replicate (show x ∈ List.replicate 32 0 from hx)
  omega
theorem rootL_bt (n : Int) : Bt (rootL n) := fun x hx => by
  unfold rootL at hx
  rcases List.mem_or_eq_of_mem_set hx with hx | rfl
  · rcases List.mem_or_eq_of_mem_set hx with hx | rfl
    · rcases List.mem_or_eq_of_mem_set hx with hx | rfl
      · exact zroot_bt x hx
      · omega
    · omega
  · omega
theorem rootL_nz {n : Int} (h : n % 256 ≠ 0) : rootL n ≠ zroot := fun e => by
  have := congrArg (·.getD 0 0) e
  simp [rootL, zroot] at this
  exact h this
theorem Wf.one (b : Bk) (st : Int) (h0 : 0 ≤ st) (h2 : st ≤ 2) (hz : b.root ≠ zroot) (hb : Bt b.root) : Wf [⟨b, -1, st⟩] where
  bt := fun x hx => by simp at hx; subst hx; exact hb
  nz := fun x hx => by simp at hx; subst hx; exact hz
  first := fun _ => rfl
  up := fun i h h1 => by simp at h; omega
  diff := fun i j hi hj _ => by simp at hi hj; omega
  st := fun x hx => by simp at hx; subst hx; exact ⟨h0, h2⟩
theorem Wf.push {ns : List Nd} (h : Wf ns) {b : Bk} {u : Nat} {st : Int} (hn : 0 < ns.length) (hu : u < ns.length) (h1 : ns[u].b.root = b.parent) (h2 : ns[u].b.slot < b.slot) (h3 : ∀ x ∈ ns, x.b.root ≠ b.root) (h4 : 0 ≤ st) (h5 : st ≤ 2) (h6 : b.root ≠ zroot) (h7 : Bt b.root) : Wf (ns ++ [⟨b, u, st⟩]) where
  bt := fun x hx => by
    rcases List.mem_append.1 hx with hx | hx
    · exact h.bt x hx
    · have : x = ⟨b, u, st⟩ := by simpa using hx
      subst this; exact h7
  nz := fun x hx => by
    rcases List.mem_append.1 hx with hx | hx
    · exact h.nz x hx
    · have : x = ⟨b, u, st⟩ := by simpa using hx
      subst this; exact h6
  first := fun _ => by rw [List.getElem_append_left hn]; exact h.first hn
  up := fun i hi h0 => by
    rw [List.length_append, List.length_singleton] at hi
    rcases Nat.lt_or_ge i ns.length with hl | hl
    · obtain ⟨v, hv, e1, e2, e3⟩ := h.up i hl h0
      refine ⟨v, hv, ?_, ?_, ?_⟩
      · rw [List.getElem_append_left hl]; exact e1
      · rw [List.getElem_append_left hl, List.getElem_append_left (Nat.lt_trans hv hl)]; exact e2
      · rw [List.getElem_append_left hl, List.getElem_append_left (Nat.lt_trans hv hl)]; exact e3
    · obtain rfl : i = ns.length := by omega
      refine ⟨u, hu, ?_, ?_, ?_⟩
      · rw [List.getElem_append_right (Nat.le_refl _)]; simp
      · rw [List.getElem_append_left hu, List.getElem_append_right (Nat.le_refl _)]; simpa using h1
      · rw [List.getElem_append_left hu, List.getElem_append_right (Nat.le_refl _)]; simpa using h2
  diff := fun i j hi hj e => by
    rw [List.length_append, List.length_singleton] at hi hj
    rcases Nat.lt_or_ge i ns.length with hl | hl
    · rcases Nat.lt_or_ge j ns.length with hm | hm
      · rw [List.getElem_append_left hl, List.getElem_append_left hm] at e
        exact h.diff i j hl hm e
      · obtain rfl : j = ns.length := by omega
        rw [List.getElem_append_left hl, List.getElem_append_right (Nat.le_refl _)] at e
        exact absurd (by simpa using e) (h3 _ (List.getElem_mem hl))
    · obtain rfl : i = ns.length := by omega
      rcases Nat.lt_or_ge j ns.length with hm | hm
      · rw [List.getElem_append_left hm, List.getElem_append_right (Nat.le_refl _)] at e
        exact absurd (by simpa using e.symm) (h3 _ (List.getElem_mem hm))
      · omega
  st := fun x hx => by
    rcases List.mem_append.1 hx with hx | hx
    · exact h.st x hx
    · have : x = ⟨b, u, st⟩ := by simpa using hx
      subst this; exact ⟨h4, h5⟩
/-- a block that is well-formed and has a root -/
structure BkNz (b : Bk) : Prop where
  ok : BkOk b
  nz : b.root ≠ zroot
  bt : Bt b.root
/-- what Tree answers -/
def TP (w : World) (e : Ending) (w' : World) : Prop :=
  (∃ (A : Option Addr) (c : Nat) (ns : List Nd), 0 < ns.length ∧ ns.length ≤ 9 ∧ Wf ns ∧ e = .returned (.agg #[.slice A ns.length c]) ∧ NRow w' A ns.length ns) ∧ Below w.heap.size w w'
/-- a block up to its payload -/
def bhead (b : Bk) : List Value := b.pre ++ (.int .u64 b.slot :: (ints .u8 b.root ++ ints .u8 b.parent))
theorem bc_parts {b : Bk} : bc b = bhead b ++ b.rest.take 32 ++ b.rest.drop 32 := by
  rw [List.append_assoc, List.take_append_drop]
  simp [bc, bhead]
theorem bhead_len {b : Bk} (h : BkOk b) : (bhead b).length = 131 := by simp [bhead, ints, h.pre, h.root, h.parent]
theorem bc_payload {b : Bk} (h : BkOk b) : ∀ j u, (b.rest.take 32)[j]? = some u → (bc b)[131 + j]? = some u := fun j u hu => by
  have hj : j < (b.rest.take 32).length := (List.getElem?_eq_some_iff.1 hu).1
  rw [bc_parts, List.append_assoc, List.getElem?_append_right (by rw [bhead_len h]; omega), bhead_len h, Nat.add_sub_cancel_left, List.getElem?_append_left hj]
  exact hu
theorem BkOk.with {b c : Bk} (h : BkOk b) (k : BkOk c) : BkOk { b with rest := c.rest.take 32 ++ b.rest.drop 32 } where
  pre := h.pre
  root := h.root
  parent := h.parent
  rest := by simp [h.rest, k.rest]
  one1 := h.one1
  one2 := fun u hu => by
    rcases List.mem_append.1 hu with hu | hu
    · exact k.one2 u (List.mem_of_mem_take hu)
    · exact h.one2 u (List.mem_of_mem_drop hu)
theorem bc_with {b c : Bk} : bc { b with rest := c.rest.take 32 ++ b.rest.drop 32 } = bhead b ++ c.rest.take 32 ++ b.rest.drop 32 := by simp [bc, bhead]
end Go.Proofs.Ytonkgjengplppaa
