/- Words on memory: a slice that reads as a list of cells. -/
import Derived.WalkKit
import Derived.Below
import Derived.Deep.Draws
import Derived.Lib.Hide
import Derived.Laws.AppendOwn
import Derived.OwnWalk
import Derived.Maps.AppendAt
import Derived.ArgAppend
import Derived.Deep.MidRow
import Derived.Deep.QuietTactic
import Derived.BigQuiet
namespace Go.Proofs.Ytekikfdlnkcenaa
open Go.RowKit

/-- a fact that no tactic looks into (a structure: it can't be unfolded, as 'Hid' can) -/
structure Bx (p : Prop) : Prop where
  out : p
theorem bx {p : Prop} (h : p) : Bx p := ⟨h⟩

theorem add_block (a : Addr) (n : Nat) : (a.add n).block = a.block := by unfold Addr.add; split <;> rfl

theorem cell_block_lt {w : World} {a : Addr} {v : Value} (h : w.cell? a = some v) : a.block < w.heap.size := by
  rcases Nat.lt_or_ge a.block w.heap.size with hlt | hge
  · exact hlt
  · unfold World.cell? at h
    rw [Array.getElem?_eq_none hge] at h
    simp at h

/-- a list of integers of one kind, as cells -/
def ints (k : IntKind) (l : List Int) : List Value := l.map (Value.int k)
/-- they fit the kind -/
def Fit (k : IntKind) (l : List Int) : Prop := ∀ x ∈ l, (Lit.int k x).wf = true

/-- the slice with address A and n elements of 'size' cells reads as the cells xs, which lie below block B -/
def Row (w : World) (B size : Nat) (A : Option Addr) (n : Nat) (xs : List Value) : Prop :=
  xs.length = n * size ∧ ∀ j u, xs[j]? = some u → ∃ ad, A = some ad ∧ ad.block < B ∧ w.cell? (ad.add j) = some u

section
variable {w w' : World} {B B' size n : Nat} {A : Option Addr} {xs : List Value}
theorem Row.nil (w : World) (B size : Nat) (A : Option Addr) : Row w B size A 0 [] := ⟨by simp, fun j u h => by simp at h⟩
theorem Row.keep (h : Row w B size A n xs) (hk : ∀ p : Addr, p.block < B → w'.cell? p = w.cell? p) : Row w' B size A n xs :=
  ⟨h.1, fun j u hu => by
    obtain ⟨ad, e, hb, hc⟩ := h.2 j u hu
    exact ⟨ad, e, hb, (hk _ (by rw [add_block]; exact hb)).trans hc⟩⟩
theorem Row.more (h : Row w B size A n xs) (hB : B ≤ B') : Row w B' size A n xs :=
  ⟨h.1, fun j u hu => by
    obtain ⟨ad, e, hb, hc⟩ := h.2 j u hu
    exact ⟨ad, e, by omega, hc⟩⟩
theorem Row.below (h : Row w B size A n xs) (hb : Below B w w') : Row w' B size A n xs := h.keep fun _ hp => hb.cell hp
theorem Row.drew (h : Row w B size A n xs) : Row w.drew B size A n xs := h
theorem Row.drewN (h : Row w B size A n xs) (k : Nat) : Row (w.drewN k) B size A n xs := h
theorem Row.alloc (h : Row w B size A n xs) (hB : B ≤ w.heap.size) (o : Obj) : Row (w.alloc o) B size A n xs :=
  h.keep fun p hp => World.cell?_alloc_lt w o p (by omega)
theorem Row.setCell (h : Row w B size A n xs) {p : Addr} (hB : B ≤ p.block) (u : Value) : Row (w.setCell p u) B size A n xs :=
  h.keep fun q hq => World.cell?_setCell_other w p q u (fun e => by subst e; omega)
theorem Row.grown (h : Row w B size A n xs) {row : Option Nat} (hg : w.grownBy w' row) (hB : B ≤ w.heap.size) (hr : ∀ g, row = some g → B ≤ g) : Row w' B size A n xs :=
  h.keep fun p hp => World.cell?_of_block (hg.block p.block (by omega) (fun e => by have := hr _ e.symm; omega))
/-- the address, where there is an element -/
theorem Row.at_ {k : Nat} {u : Value} (h : Row w B 1 A n xs) (hk : xs[k]? = some u) : ∃ ad, A = some ad ∧ ad.block < B ∧ w.cell? (ad.add k) = some u := h.2 k u hk
theorem Row.own {base : Nat} {e : TypeId} {c : Nat} (h : w.ownsRow base e size (.slice A n c) n xs) : Row w w.heap.size size A n xs := by
  refine ⟨h.1, fun j u hu => ?_⟩
  rcases h.2 with ⟨hv, hn⟩ | ⟨g, cap, cur, hv, _, hh, _⟩
  · subst hn
    have : xs.length = 0 := by simpa using h.1
    have : xs = [] := List.eq_nil_of_length_eq_zero this
    subst this
    simp at hu
  · have hA : A = some ⟨g, 0, none⟩ := by injection hv
    subst hA
    exact ⟨_, rfl, (Array.getElem?_eq_some_iff.1 hh).1, h.cells (g := g) rfl j u hu⟩
end

/-- a call that leaves the world alone, inside a region that draws -/
theorem quietL {P : Program} {f : FuncId} {args : Array Value} {w : World} {n : Nat} {v : Value} (h : Calls P f args (w.drewN n) fun e w' => e = .returned v ∧ w.drewN n = w') :
    Calls P f args (w.drewN n) fun e w'' => e = .returned v ∧ ∃ m, w'' = w.drewN m := h.mono fun _ _ ⟨he, hm⟩ => ⟨he, n, hm.symm⟩

theorem below_dN {B : Nat} {a w : World} (h : Below B a w) (n : Nat) : Below B a (w.drewN n) := ⟨h.os, h.tape, h.output, h.size, h.block⟩

/-- a new block of cells reads as these cells -/
theorem new_cells (w : World) (news : List Value) (e : TypeId) : ∀ j u, news[j]? = some u → (w.alloc (.cells news.toArray e)).cell? ((⟨w.heap.size, 0, none⟩ : Addr).add j) = some u := by
  intro j u hu
  have hadd : (⟨w.heap.size, 0, none⟩ : Addr).add j = ⟨w.heap.size, j, none⟩ := by unfold Addr.add; split <;> simp_all
  rw [hadd, cell_of_row _ _ _ _ _ (0, 0) (heap_alloc_new w _)]
  simpa using hu

/-- a world that has grown by a new block and then by an append onto an own row has grown by the append alone -/
theorem grown_over_alloc {w w' : World} {o : Obj} {row : Option Nat} (h : (w.alloc o).grownBy w' row) : w.grownBy w' row :=
  ⟨h.os, h.tape, h.output, Nat.le_trans (by simp) h.size, fun k hk hne => (h.block k (by simp; omega) hne).trans (Below.heap_alloc w o k hk)⟩

/-- a value onto which the call may append: a row of its own, or a slice without spare room -/
def Apd (w : World) (base : Nat) (e : TypeId) (size : Nat) (v : Value) (n : Nat) (xs : List Value) : Prop :=
  w.ownsRow base e size v n xs ∨ ∃ b o, v = .slice (some ⟨b, o, none⟩) n n ∧ b < w.heap.size ∧ xs.length = n * size ∧ ∀ j u, xs[j]? = some u → w.cell? ⟨b, o + j, none⟩ = some u

section
variable {P : Program} {w : World} {base : Nat} {e : TypeId} {size : Nat} {v : Value} {n : Nat} {xs : List Value}
theorem Apd.alloc (h : Apd w base e size v n xs) (o : Obj) : Apd (w.alloc o) base e size v n xs := by
  rcases h with h | ⟨b, q, h1, h2, h3, h4⟩
  · exact .inl (h.alloc o)
  · exact .inr ⟨b, q, h1, by simp; omega, h3, fun j u hu => (World.cell?_alloc_lt w o _ h2).trans (h4 j u hu)⟩
theorem add_at (b o j : Nat) : (⟨b, o, none⟩ : Addr).add j = ⟨b, o + j, none⟩ := by unfold Addr.add; split <;> simp_all
/-- where it lies, if it has an element -/
theorem Apd.slice (h : Apd w base e size v n xs) (hn : 0 < n) : ∃ g o c, v = .slice (some ⟨g, o, none⟩) n c ∧ ∀ j u, xs[j]? = some u → w.cell? ⟨g, o + j, none⟩ = some u := by
  rcases h with h | ⟨b, q, h1, h2, h3, h4⟩
  · rcases h.2 with ⟨_, h0⟩ | ⟨g, cap, cur, hv, _⟩
    · omega
    · refine ⟨g, 0, cap, hv, fun j u hu => ?_⟩
      have := h.cells (g := g) (by rw [hv]; rfl) j u hu
      rwa [add_at] at this
  · exact ⟨b, q, n, h1, h4⟩
theorem Apd.drewN (h : Apd w base e size v n xs) (k : Nat) : Apd (w.drewN k) base e size v n xs := h
theorem Apd.drew (h : Apd w base e size v n xs) : Apd w.drew base e size v n xs := h

theorem run_push (t ty : TypeId) (i : TypeInfo) (z : Value) (bytes : Nat) (ht : P.underlying t = some (.slice e)) (hi : P.info? e = some i) (hz : i.zero = some z)
    (hsize : i.size = size) (hby : i.bytes = bytes) (hzs : z.cells.size = size) (hsz : 0 < size) (hown : Apd w base e size v n xs)
    (ad : Addr) (m c : Nat) (news : List Value) (hm : 0 < m) (hl : news.length = m * size) (hnews : ∀ j u, news[j]? = some u → w.cell? (ad.add j) = some u) (h1 : ∀ u ∈ news, u.oneCell' = true)
    (h63 : n + m ≤ maxLen) (hbytes : (n + m) * bytes ≤ 140737488355328) (hbase : base ≤ w.heap.size) :
    ∃ v' w', (Builtin.append_ #[t, t] ty #[v, .slice (some ad) m c]).run P w = .ok v' w' ∧ w'.ownsRow base e size v' (n + m) (xs ++ news) ∧ w.grownBy w' v.ownBlock ∧ Below base w w' ∧
      (v'.ownBlock = v.ownBlock ∨ v'.ownBlock = some w.heap.size ∨ ∃ g, w.heap.size ≤ g ∧ v'.ownBlock = some g) := by
  rcases hown with hown | ⟨b, o, rfl, hb, hlen, hcells⟩
  · obtain ⟨v', w', q1, q2, q3, _, q5⟩ := run_append_own_at (P := P) w base t ty e i z size bytes ht hi hz hsize hby hzs hsz v n xs hown ad m c news hl hnews h1 h63 hbytes hbase
    refine ⟨v', w', q1, q2, q3, (Below.refl base w).grown q3 hbase fun k hk => (hown.lt k hk).1, ?_⟩
    rcases q5 with q5 | q5
    · exact .inl q5
    · exact .inr (.inl q5)
  · obtain ⟨v', w', q1, q2, q3⟩ := run_append_arg_grows (P := P) w t ty e i z size bytes ht hi hz hsize hby hzs hsz ⟨b, o, none⟩ n n xs hlen (fun j u hu => by rw [add_at]; exact hcells j u hu) ad m c news hl hnews (by omega) h63 hbytes
    have q2' : w'.ownsRow base e size v' (n + m) (xs ++ news) := by
      refine ⟨q2.1, ?_⟩
      rcases q2.2 with h | ⟨g, cap, cur, h1, h2, h3⟩
      · exact .inl h
      · exact .inr ⟨g, cap, cur, h1, by omega, h3⟩
    have hgr : w.grownBy w' (Value.ownBlock (.slice (some ⟨b, o, none⟩) n n)) := ⟨q3.os, q3.tape, q3.output, q3.size, fun k hk _ => q3.block k hk (by simp)⟩
    refine ⟨v', w', q1, q2', hgr, (Below.refl base w).grown q3 hbase fun k hk => (by cases hk), .inr (.inr ?_)⟩
    rcases q2.2 with ⟨h, h0⟩ | ⟨g, cap, cur, h1, h2, h3⟩
    · omega
    · exact ⟨g, h2, by rw [h1]; rfl⟩

theorem wp_push {o : Oper} {a : Act} {K : Act → World → Prop} {Q : Exit → Act → World → Prop} (s x : Operand) (t : TypeId)
    (ho : o.op = .call { callee := .builtin .append, args := #[s, x], argTypes := #[t, t] })
    (i : TypeInfo) (z : Value) (bytes : Nat) (ht : P.underlying t = some (.slice e)) (hi : P.info? e = some i) (hz : i.zero = some z)
    (hsize : i.size = size) (hby : i.bytes = bytes) (hzs : z.cells.size = size) (hsz : 0 < size) (hs : a.eval s = v) (hown : Apd w base e size v n xs)
    (ad : Addr) (m c : Nat) (news : List Value) (hx : a.eval x = .slice (some ad) m c) (hm : 0 < m) (hl : news.length = m * size) (hnews : ∀ j u, news[j]? = some u → w.cell? (ad.add j) = some u) (h1 : ∀ u ∈ news, u.oneCell' = true)
    (h63 : n + m ≤ maxLen) (hbytes : (n + m) * bytes ≤ 140737488355328) (hbase : base ≤ w.heap.size)
    (h : ∀ v' w', w'.ownsRow base e size v' (n + m) (xs ++ news) → w.grownBy w' v.ownBlock → Below base w w' → (v'.ownBlock = v.ownBlock ∨ v'.ownBlock = some w.heap.size ∨ ∃ g, w.heap.size ≤ g ∧ v'.ownBlock = some g) → K (a.put o.dst v') w') :
    o.wp P a w K Q := by
  obtain ⟨v', w', hrun, q2, q3, q4, q5⟩ := run_push (P := P) t o.type i z bytes ht hi hz hsize hby hzs hsz hown ad m c news hm hl hnews h1 h63 hbytes hbase
  unfold Oper.wp execOp
  simp only [ho, resolve, invoke, builtin, Sem.run_bind, Sem.run_pure, Result.andThen_ok, List.map_toArray, List.map_cons, List.map_nil, hs, hx, hrun]
  exact h v' w' q2 q3 q4 q5

/-- the same, as a step of a region that draws its order -/
theorem step_push {ops : Array Oper} {o : Oper} {a : Act} {K : Act → World → Prop} {Q : Exit → Act → World → Prop} {E : Prop} (hgd : o.guard = none) (s x : Operand) (t : TypeId)
    (ho : o.op = .call { callee := .builtin .append, args := #[s, x], argTypes := #[t, t] })
    (i : TypeInfo) (z : Value) (bytes : Nat) (ht : P.underlying t = some (.slice e)) (hi : P.info? e = some i) (hz : i.zero = some z)
    (hsize : i.size = size) (hby : i.bytes = bytes) (hzs : z.cells.size = size) (hsz : 0 < size) (hs : a.eval s = v) (hown : Apd w base e size v n xs)
    (ad : Addr) (m c : Nat) (news : List Value) (hx : a.eval x = .slice (some ad) m c) (hm : 0 < m) (hl : news.length = m * size) (hnews : ∀ j u, news[j]? = some u → w.cell? (ad.add j) = some u) (h1 : ∀ u ∈ news, u.oneCell' = true)
    (h63 : n + m ≤ maxLen) (hbytes : (n + m) * bytes ≤ 140737488355328) (hbase : base ≤ w.heap.size)
    (h : ∀ v' w', w'.ownsRow base e size v' (n + m) (xs ++ news) → w.grownBy w' v.ownBlock → Below base w w' → (v'.ownBlock = v.ownBlock ∨ v'.ownBlock = some w.heap.size ∨ ∃ g, w.heap.size ≤ g ∧ v'.ownBlock = some g) → K (a.put o.dst v') w') :
    if Region.wanted o (yielded ops a.tmps) = true then Oper.wp P o a w K Q else E := by
  have hw : Region.wanted o (yielded ops a.tmps) = true := by simp [Region.wanted, hgd]
  rw [if_pos hw]
  exact wp_push s x t ho i z bytes ht hi hz hsize hby hzs hsz hs hown ad m c news hx hm hl hnews h1 h63 hbytes hbase h

/-- m elements, whose cells lie at an address, are appended -/
theorem wpList_pushAt {ops : Array Oper} {rest : List Oper} {o : Oper} {a : Act} {Q : Exit → Act → World → Prop} (hgd : o.guard = none) (s x : Operand) (t : TypeId)
    (ho : o.op = .call { callee := .builtin .append, args := #[s, x], argTypes := #[t, t] })
    (i : TypeInfo) (z : Value) (bytes : Nat) (ht : P.underlying t = some (.slice e)) (hi : P.info? e = some i) (hz : i.zero = some z)
    (hsize : i.size = size) (hby : i.bytes = bytes) (hzs : z.cells.size = size) (hsz : 0 < size) (hs : a.eval s = v) (hown : Apd w base e size v n xs)
    (ad : Addr) (m c : Nat) (news : List Value) (hx : a.eval x = .slice (some ad) m c) (hm : 0 < m) (hl : news.length = m * size) (hnews : ∀ j u, news[j]? = some u → w.cell? (ad.add j) = some u) (h1 : ∀ u ∈ news, u.oneCell' = true)
    (h63 : n + m ≤ maxLen) (hbytes : (n + m) * bytes ≤ 140737488355328) (hbase : base ≤ w.heap.size)
    (h : ∀ v' w', w'.ownsRow base e size v' (n + m) (xs ++ news) → w.grownBy w' v.ownBlock → Below base w w' → (v'.ownBlock = v.ownBlock ∨ v'.ownBlock = some w.heap.size ∨ ∃ g, w.heap.size ≤ g ∧ v'.ownBlock = some g) → wpList P ops Q rest (a.put o.dst v') w') :
    wpList P ops Q (o :: rest) a w :=
  wpList_plain hgd fun _ hK => wp_push s x t ho i z bytes ht hi hz hsize hby hzs hsz hs hown ad m c news hx hm hl hnews h1 h63 hbytes hbase fun v' w' h2 h3 h4 h5 => hK _ _ (h v' w' h2 h3 h4 h5)
end

section
variable {P : Program} {w : World}
/-- one element, laid in a new block, is appended onto a row of the call's own -/
theorem wpList_push {ops : Array Oper} {rest : List Oper} {o : Oper} {a : Act} {Q : Exit → Act → World → Prop} (hgd : o.guard = none) (s x : Operand) (t : TypeId)
    (ho : o.op = .call { callee := .builtin .append, args := #[s, x], argTypes := #[t, t] })
    (base : Nat) (e : TypeId) (i : TypeInfo) (z : Value) (size bytes : Nat) (ht : P.underlying t = some (.slice e)) (hi : P.info? e = some i) (hz : i.zero = some z)
    (hsize : i.size = size) (hby : i.bytes = bytes) (hzs : z.cells.size = size) (hsz : 0 < size)
    (v : Value) (n : Nat) (xs : List Value) (hs : a.eval s = v) (hown : w.ownsRow base e size v n xs)
    (news : List Value) (hx : a.eval x = .slice (some ⟨w.heap.size, 0, none⟩) 1 1) (hl : news.length = size) (h1 : ∀ u ∈ news, u.oneCell' = true)
    (h63 : n + 1 ≤ maxLen) (hbytes : (n + 1) * bytes ≤ 140737488355328) (hbase : base ≤ w.heap.size)
    (h : ∀ v' w', w'.ownsRow base e size v' (n + 1) (xs ++ news) → w.grownBy w' v.ownBlock → Below base w w' → (v'.ownBlock = v.ownBlock ∨ v'.ownBlock = some (w.heap.size + 1)) → wpList P ops Q rest (a.put o.dst v') w') :
    wpList P ops Q (o :: rest) a (w.alloc (.cells news.toArray e)) := by
  refine wpList_append_own_at (w := w.alloc (.cells news.toArray e)) hgd s x t ho base e i z size bytes ht hi hz hsize hby hzs hsz v n xs hs (hown.alloc _) ⟨w.heap.size, 0, none⟩ 1 1 news hx (by rw [hl, Nat.one_mul]) (new_cells w news e) h1 h63 hbytes (by simp; omega) ?_
  intro v' w' h2 h3 _ h4
  have hg := grown_over_alloc h3
  refine h v' w' h2 hg ((Below.refl base w).grown hg hbase fun k hk => (hown.lt k hk).1) ?_
  rcases h4 with h4 | h4
  · exact .inl h4
  · exact .inr (by simpa using h4)

/-- m elements, laid in a new block, are appended -/
theorem wpList_pushN {ops : Array Oper} {rest : List Oper} {o : Oper} {a : Act} {Q : Exit → Act → World → Prop} (hgd : o.guard = none) (s x : Operand) (t : TypeId)
    (ho : o.op = .call { callee := .builtin .append, args := #[s, x], argTypes := #[t, t] })
    (base : Nat) (e : TypeId) (i : TypeInfo) (z : Value) (size bytes : Nat) (ht : P.underlying t = some (.slice e)) (hi : P.info? e = some i) (hz : i.zero = some z)
    (hsize : i.size = size) (hby : i.bytes = bytes) (hzs : z.cells.size = size) (hsz : 0 < size)
    (v : Value) (n : Nat) (xs : List Value) (hs : a.eval s = v) (hown : Apd w base e size v n xs)
    (m c : Nat) (news : List Value) (hx : a.eval x = .slice (some ⟨w.heap.size, 0, none⟩) m c) (hm : 0 < m) (hl : news.length = m * size) (h1 : ∀ u ∈ news, u.oneCell' = true)
    (h63 : n + m ≤ maxLen) (hbytes : (n + m) * bytes ≤ 140737488355328) (hbase : base ≤ w.heap.size)
    (h : ∀ v' w', w'.ownsRow base e size v' (n + m) (xs ++ news) → w.grownBy w' v.ownBlock → Below base w w' → (v'.ownBlock = v.ownBlock ∨ ∃ g, w.heap.size < g ∧ v'.ownBlock = some g) → wpList P ops Q rest (a.put o.dst v') w') :
    wpList P ops Q (o :: rest) a (w.alloc (.cells news.toArray e)) := by
  refine wpList_pushAt (w := w.alloc (.cells news.toArray e)) (base := base) hgd s x t ho i z bytes ht hi hz hsize hby hzs hsz hs (hown.alloc _) ⟨w.heap.size, 0, none⟩ m c news hx hm hl (new_cells w news e) h1 h63 hbytes (by simp; omega) ?_
  intro v' w' h2 h3 h4 h5
  refine h v' w' h2 (grown_over_alloc h3) (((Below.refl base w).alloc hbase _).trans h4) ?_
  rcases h5 with h5 | h5 | ⟨g, hg, h5⟩
  · exact .inl h5
  · exact .inr ⟨_, by simp, h5⟩
  · exact .inr ⟨g, by simp at hg; omega, h5⟩
end

/-- block g holds just the cells cs, none of them frozen -/
def Has (w : World) (g : Nat) (cs : List Value) : Prop := ∃ t, w.heap[g]? = some (.cells cs.toArray t (0, 0))
section
variable {w w' : World} {g : Nat} {cs : List Value}
theorem Has.lt (h : Has w g cs) : g < w.heap.size := by
  obtain ⟨t, h⟩ := h
  exact (Array.getElem?_eq_some_iff.1 h).1
theorem Has.new (w : World) (cs : List Value) (t : TypeId) : Has (w.alloc (.cells cs.toArray t)) w.heap.size cs := ⟨t, heap_alloc_new w _⟩
theorem Has.alloc (h : Has w g cs) (o : Obj) : Has (w.alloc o) g cs := by
  have hl := h.lt
  obtain ⟨t, h⟩ := h
  exact ⟨t, (Below.heap_alloc w o g hl).trans h⟩
theorem Has.drewN (h : Has w g cs) (n : Nat) : Has (w.drewN n) g cs := h
theorem Has.drew (h : Has w g cs) : Has w.drew g cs := h
theorem Has.below {B : Nat} (h : Has w g cs) (hb : Below B w w') (hg : g < B) : Has w' g cs := by
  obtain ⟨t, h⟩ := h
  exact ⟨t, (hb.block g hg).trans h⟩
theorem Has.grown {row : Option Nat} (h : Has w g cs) (hb : w.grownBy w' row) (hg : some g ≠ row) : Has w' g cs := by
  have hl := h.lt
  obtain ⟨t, h⟩ := h
  exact ⟨t, (hb.block g hl hg).trans h⟩
theorem Has.cell (h : Has w g cs) (i : Nat) : w.cell? ⟨g, i, none⟩ = cs[i]? := by
  obtain ⟨t, h⟩ := h
  rw [cell_of_row w g i _ t (0, 0) h]
  simp
theorem Has.frozen (h : Has w g cs) (i : Nat) : w.frozen? ⟨g, i, none⟩ = false := by
  obtain ⟨t, h⟩ := h
  simp [World.frozen?, h]
theorem Has.set (h : Has w g cs) (i : Nat) (u : Value) : Has (w.setCell ⟨g, i, none⟩ u) g (cs.set i u) := by
  obtain ⟨t, h⟩ := h
  refine ⟨t, ?_⟩
  simp [World.setCell, Array.getElem?_modify, h]
theorem Has.far (h : Has w g cs) {p : Addr} (hp : g ≠ p.block) (u : Value) : Has (w.setCell p u) g cs := by
  obtain ⟨t, h⟩ := h
  exact ⟨t, (Below.heap_setCell w p u g hp).trans h⟩

/-- an operation of a list that is carried out (its guard, if it has one, is met) -/
theorem wpList_go {P : Program} {ops : Array Oper} {rest : List Oper} {o : Oper} {a : Act} {w : World} {Q : Exit → Act → World → Prop} (hw : Region.wanted o (yielded ops a.tmps) = true)
    (h : ∀ K : Act → World → Prop, (∀ a w, wpList P ops Q rest a w → K a w) → o.wp P a w K Q) : wpList P ops Q (o :: rest) a w :=
  wpList_step fun K hK => by rw [if_pos hw]; exact h K hK

theorem info_size {P : Program} {ty : TypeId} {d : TypeDesc} {n : Nat} (hu : P.underlying ty = some d) (hi : P.cellsOf ty = n) : (P.info? ty).map (·.size) = some n := by
  have : (P.info? ty).isSome = true := by
    unfold Program.underlying at hu
    cases hq : P.info? ty with
    | none => rw [hq] at hu; simp at hu
    | some i => rfl
  obtain ⟨i, hq⟩ := Option.isSome_iff_exists.1 this
  have hs : i.size = n := by rw [← hi, Program.cellsOf, hq]; rfl
  rw [hq, Option.map_some, hs]

/-- the same under a guard -/
theorem wpList_loadG {P : Program} {ops : Array Oper} {rest : List Oper} {o : Oper} {a : Act} {Q : Exit → Act → World → Prop} (ty : TypeId) (x : Operand) (ho : o.op = .load ty x)
    (g : Nat) (cs : List Value) (hgd : Region.wanted o (yielded ops a.tmps) = true) (hx : a.eval x = .pointer (some ⟨g, 0, none⟩)) (hg : Has w g cs) {d : TypeDesc}
    (hu : P.underlying ty = some d) (hd : (match d with | .struct _ | .array _ _ => true | _ => false) = true) (hi : P.cellsOf ty = cs.length)
    (h : wpList P ops Q rest (a.put o.dst (.agg cs.toArray)) w) : wpList P ops Q (o :: rest) a w := by
  obtain ⟨t, hg⟩ := hg
  refine wpList_go hgd fun K hK => wp_load_row ty x ho g hx t cs.toArray (0, 0) d hg hu hd ?_ (hK _ _ h)
  simpa using info_size hu hi

/-- a variable of several cells that fills its block is read -/
theorem wpList_loadB {P : Program} {ops : Array Oper} {rest : List Oper} {o : Oper} {a : Act} {Q : Exit → Act → World → Prop} (hgd : o.guard = none) (ty : TypeId) (x : Operand) (ho : o.op = .load ty x)
    (g : Nat) (cs : List Value) (hx : a.eval x = .pointer (some ⟨g, 0, none⟩)) (hg : Has w g cs) {d : TypeDesc}
    (hu : P.underlying ty = some d) (hd : (match d with | .struct _ | .array _ _ => true | _ => false) = true) (hi : P.cellsOf ty = cs.length)
    (h : wpList P ops Q rest (a.put o.dst (.agg cs.toArray)) w) : wpList P ops Q (o :: rest) a w := by
  obtain ⟨t, hg⟩ := hg
  refine wpList_load_row hgd ty x ho g hx t cs.toArray (0, 0) d hg hu hd ?_ h
  have : (P.info? ty).isSome = true := by
    unfold Program.underlying at hu
    cases hq : P.info? ty with
    | none => rw [hq] at hu; simp at hu
    | some i => rfl
  obtain ⟨i, hq⟩ := Option.isSome_iff_exists.1 this
  have hs : i.size = cs.length := by rw [← hi, Program.cellsOf, hq]; rfl
  rw [hq, Option.map_some, hs]
  simp

theorem grown_setCell (w : World) (g i : Nat) (u : Value) : w.grownBy (w.setCell ⟨g, i, none⟩ u) (some g) :=
  ⟨rfl, rfl, rfl, by simp [World.setCell], fun k _ hne => Below.heap_setCell w ⟨g, i, none⟩ u k (fun e => hne (by rw [e]))⟩
theorem grown_trans {w w1 w2 : World} {row : Option Nat} (h : w.grownBy w1 row) (h' : w1.grownBy w2 row) : w.grownBy w2 row :=
  ⟨h'.os.trans h.os, h'.tape.trans h.tape, h'.output.trans h.output, Nat.le_trans h.size h'.size, fun k hk hne => (h'.block k (Nat.lt_of_lt_of_le hk h.size) hne).trans (h.block k hk hne)⟩
theorem setCells_all (g : Nat) : ∀ (vs mid pre post : List Value) (w : World), mid.length = vs.length → Has w g (pre ++ mid ++ post) →
    Has (w.setCells g pre.length vs) g (pre ++ vs ++ post) ∧ w.grownBy (w.setCells g pre.length vs) (some g) ∧ (w.setCells g pre.length vs).heap.size = w.heap.size
  | [], mid, pre, post, w, hl, h => by
    have : mid = [] := List.eq_nil_of_length_eq_zero (by simpa using hl)
    subst this
    exact ⟨h, World.grownBy.refl _ _, rfl⟩
  | v :: vs, [], pre, post, w, hl, h => by simp at hl
  | v :: vs, m :: mid, pre, post, w, hl, h => by
    have h1 := h.set pre.length v
    have e1 : (pre ++ (m :: mid) ++ post).set pre.length v = (pre ++ [v]) ++ mid ++ post := by simp
    rw [e1] at h1
    obtain ⟨q1, q2, q3⟩ := setCells_all g vs mid (pre ++ [v]) post _ (by simpa using hl) h1
    have e2 : (pre ++ [v]).length = pre.length + 1 := by simp
    rw [e2] at q1 q2 q3
    refine ⟨by have q1' : Has (w.setCells g pre.length (v :: vs)) g (pre ++ [v] ++ vs ++ post) := q1; simpa using q1', grown_trans (grown_setCell w g pre.length v) q2, ?_⟩
    show ((w.setCell ⟨g, pre.length, none⟩ v).setCells g (pre.length + 1) vs).heap.size = _
    rw [q3]
    simp [World.setCell]

/-- a variable of several cells that fills its block is written whole -/
theorem wpList_storeB {P : Program} {ops : Array Oper} {rest : List Oper} {o : Oper} {a : Act} {Q : Exit → Act → World → Prop} (hgd : o.guard = none) (ty : TypeId) (x y : Operand) (ho : o.op = .store ty x y)
    (g : Nat) (cs old : List Value) (hx : a.eval x = .pointer (some ⟨g, 0, none⟩)) (hy : a.eval y = .agg cs.toArray) (hg : Has w g old) (hl : old.length = cs.length) {d : TypeDesc}
    (hu : P.underlying ty = some d) (hi : P.cellsOf ty = cs.length) (h1 : ∀ u ∈ cs, u.oneCell' = true)
    (h : ∀ w', Has w' g cs → w.grownBy w' (some g) → w'.heap.size = w.heap.size → wpList P ops Q rest (a.put o.dst undef) w') : wpList P ops Q (o :: rest) a w := by
  have hsz : (P.info? ty).map (·.size) = some cs.toArray.size := by
    have : (P.info? ty).isSome = true := by
      unfold Program.underlying at hu
      cases hq : P.info? ty with
      | none => rw [hq] at hu; simp at hu
      | some i => rfl
    obtain ⟨i, hq⟩ := Option.isSome_iff_exists.1 this
    have hs : i.size = cs.length := by rw [← hi, Program.cellsOf, hq]; rfl
    rw [hq, Option.map_some, hs]
    simp
  have ht : w.there g 0 cs.toArray.size := fun j hj => by
    have hj' : j < old.length := by rw [hl]; simpa using hj
    rw [Nat.zero_add, hg.cell j, hg.frozen j, List.getElem?_eq_getElem hj']
    exact ⟨rfl, rfl⟩
  refine wpList_store_mid hgd ty x y ho g 0 cs.toArray hx hy ht hsz (all_oneCell_toArray h1) ?_
  obtain ⟨q1, q2, q3⟩ := setCells_all g cs old [] [] w hl (by simpa using hg)
  exact h _ (by simpa using q1) (by simpa using q2) (by simpa using q3)

theorem run_loadB {P : Program} {ty : TypeId} (hg : Has w g cs) {d : TypeDesc}
    (hu : P.underlying ty = some d) (hd : (match d with | .struct _ | .array _ _ => true | _ => false) = true) (hi : P.cellsOf ty = cs.length) : (loadVar ty ⟨g, 0, none⟩).run P w = .ok (.agg cs.toArray) w := by
  obtain ⟨t, hg⟩ := hg
  refine run_loadVar_row w g t ty cs.toArray (0, 0) d hg hu hd ?_
  have : (P.info? ty).isSome = true := by
    unfold Program.underlying at hu
    cases hq : P.info? ty with
    | none => rw [hq] at hu; simp at hu
    | some i => rfl
  obtain ⟨i, hq⟩ := Option.isSome_iff_exists.1 this
  have hs : i.size = cs.length := by rw [← hi, Program.cellsOf, hq]; rfl
  rw [hq, Option.map_some, hs]
  simp
theorem results_cell {P : Program} {fn : Func} {p : Tmp} {ty : TypeId} (h : fn.results = #[.cell p ty]) (tmps : Array Value) (hp : tmps.getD p undef = .pointer (some ⟨g, 0, none⟩)) (hg : Has w g cs) {d : TypeDesc}
    (hu : P.underlying ty = some d) (hd : (match d with | .struct _ | .array _ _ => true | _ => false) = true) (hi : P.cellsOf ty = cs.length) :
    (results fn tmps).run P w = .ok (.agg cs.toArray) w := by
  have hp' : tmps[p]?.getD undef = .pointer (some ⟨g, 0, none⟩) := by simpa using hp
  simp [results, h, hp', asAddr, run_loadB hg hu hd hi]
theorem results_cell_tmp {P : Program} {fn : Func} {p q : Tmp} {ty : TypeId} (h : fn.results = #[.cell p ty, .tmp q]) (tmps : Array Value) (hp : tmps.getD p undef = .pointer (some ⟨g, 0, none⟩)) (hg : Has w g cs) {d : TypeDesc}
    (hu : P.underlying ty = some d) (hd : (match d with | .struct _ | .array _ _ => true | _ => false) = true) (hi : P.cellsOf ty = cs.length) :
    (results fn tmps).run P w = .ok (.tuple #[.agg cs.toArray, tmps.getD q undef]) w := by
  have hp' : tmps[p]?.getD undef = .pointer (some ⟨g, 0, none⟩) := by simpa using hp
  simp [results, h, hp', asAddr, run_loadB hg hu hd hi]
end

/-- the worlds that agree with W below block B -/
def Cls (B : Nat) (W : World) : World → Prop := fun w' => Below B W w'
theorem Cls.out {B : Nat} {W w' : World} (h : Cls B W w') : Below B W w' := h
theorem Cls.refl (B : Nat) (W : World) : Cls B W W := Below.refl _ _
theorem Cls.drew (B : Nat) (W : World) : Cls B W { W with drawn := W.drawn + 1 } := (Below.refl B W).drew
theorem Cls.calls {P : Program} {B : Nat} {W w : World} {f : FuncId} {args : Array Value} {v : Value} (hB : B ≤ W.heap.size) (hw : Cls B W w) (h : Calls P f args w fun e w' => e = .returned v ∧ Below w.heap.size w w') :
    Calls P f args w fun e w' => e = .returned v ∧ Cls B W w' := h.mono fun _ _ ⟨he, hb⟩ => ⟨he, Below.trans hw (hb.mono (Nat.le_trans hB (Below.size hw)))⟩
theorem Cls.same {P : Program} {B : Nat} {W w : World} {f : FuncId} {args : Array Value} {v : Value} (hw : Cls B W w) (h : Calls P f args w fun e w' => e = .returned v ∧ w = w') :
    Calls P f args w fun e w' => e = .returned v ∧ Cls B W w' := h.mono fun _ _ ⟨he, hb⟩ => ⟨he, by subst hb; exact hw⟩

/-- a region that draws its order, over the class -/
theorem region_cls {P : Program} {id : Nat} {Q : Exit → Act → World → Prop} {a : Act} {W : World} {l : List Oper} (B : Nat) (hm : P.follows .mixedOrders = true) (hB : Region.lexB .any l.toArray = true)
    (h : wpQuiet P l.toArray (Cls B W) (fun a' => ∀ w', Cls B W w' → Q .normal a' w') l a) : (Code.region id l.toArray true).wp P Q a W :=
  wp_region_quiet (C := Cls B W) hm hB (Cls.drew B W) (by simpa using h)

theorem Cls.drewS {B : Nat} {W w : World} (h : Cls B W w) : Cls B W { w with drawn := w.drawn + 1 } := (Cls.out h).drew
/-- the same, from any world of the class -/
theorem region_clsAt {P : Program} {id : Nat} {Q : Exit → Act → World → Prop} {a : Act} {W w : World} {l : List Oper} (B : Nat) (hw : Cls B W w) (hm : P.follows .mixedOrders = true) (hB : Region.lexB .any l.toArray = true)
    (h : wpQuiet P l.toArray (Cls B W) (fun a' => ∀ w', Cls B W w' → Q .normal a' w') l a) : (Code.region id l.toArray true).wp P Q a w :=
  wp_region_quiet (C := Cls B W) hm hB hw.drewS (by simpa using h)

/-- in such a region: a variable of several cells that fills its block is read -/
theorem quiet_loadC {P : Program} {C : World → Prop} {o : Oper} {a : Act} {K : Act → Prop} (ty : TypeId) (x : Operand) (ho : o.op = .load ty x) (g : Nat) (cs : List Value)
    (hx : a.eval x = .pointer (some ⟨g, 0, none⟩)) (hg : ∀ w, C w → Has w g cs) {d : TypeDesc}
    (hu : P.underlying ty = some d) (hd : (match d with | .struct _ | .array _ _ => true | _ => false) = true) (hi : P.cellsOf ty = cs.length)
    (hk : K (a.put o.dst (.agg cs.toArray))) : o.quiet P a C K := by
  refine ⟨_, fun w hw => ?_, hk⟩
  unfold Oper.quietAt execOp
  have := run_loadB (P := P) (hg w hw) hu hd hi
  simp only [ho, hx, Instr.loadAt, Instr.sureAddr, Sem.run_bind, Sem.run_pure, Result.andThen_ok, this]
  exact ⟨rfl, rfl⟩
section
end
end Go.Proofs.Ytekikfdlnkcenaa
