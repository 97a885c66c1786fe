/- Words on memory: a slice that reads as a list of cells. -/
import Derived.WalkKit
import Derived.Below
import Derived.Deep.Draws
import Derived.Lib.Hide
import Derived.Laws.AppendOwn
import Derived.OwnWalk
import Derived.Maps.AppendAt
namespace Go.Proofs.Ythfiiikanpagiaa
open Go.RowKit

theorem add_block (a : Addr) (n : Nat) : (a.add n).block = a.block := by unfold Addr.add; split <;> rfl

theorem cell_block_lt {w : World} {a : Addr} {v : Value} (h : w.cell? a = some v) : a.block < w.heap.size := by
  rcases Nat.lt_or_ge a.block w.heap.size with hlt | hge
  · exact hlt
  · unfold World.cell? at h
    rw [Array.getElem?_eq_none hge] at h
    simp at h

/-- a list of integers of one kind, as cells -/
def ints (k : IntKind) (l : List Int) : List Value := l.map (Value.int k)
/-- they fit the kind -/
def Fit (k : IntKind) (l : List Int) : Prop := ∀ x ∈ l, (Lit.int k x).wf = true

/-- the slice with address A and n elements of 'size' cells reads as the cells xs, which lie below block B -/
def Row (w : World) (B size : Nat) (A : Option Addr) (n : Nat) (xs : List Value) : Prop :=
  xs.length = n * size ∧ ∀ j u, xs[j]? = some u → ∃ ad, A = some ad ∧ ad.block < B ∧ w.cell? (ad.add j) = some u

section
variable {w w' : World} {B B' size n : Nat} {A : Option Addr} {xs : List Value}
theorem Row.nil (w : World) (B size : Nat) (A : Option Addr) : Row w B size A 0 [] := ⟨by simp, fun j u h => by simp at h⟩
theorem Row.keep (h : Row w B size A n xs) (hk : ∀ p : Addr, p.block < B → w'.cell? p = w.cell? p) : Row w' B size A n xs :=
  ⟨h.1, fun j u hu => by
    obtain ⟨ad, e, hb, hc⟩ := h.2 j u hu
    exact ⟨ad, e, hb, (hk _ (by rw [add_block]; exact hb)).trans hc⟩⟩
theorem Row.more (h : Row w B size A n xs) (hB : B ≤ B') : Row w B' size A n xs :=
  ⟨h.1, fun j u hu => by
    obtain ⟨ad, e, hb, hc⟩ := h.2 j u hu
    exact ⟨ad, e, by omega, hc⟩⟩
theorem Row.below (h : Row w B size A n xs) (hb : Below B w w') : Row w' B size A n xs := h.keep fun _ hp => hb.cell hp
theorem Row.drew (h : Row w B size A n xs) : Row w.drew B size A n xs := h
theorem Row.drewN (h : Row w B size A n xs) (k : Nat) : Row (w.drewN k) B size A n xs := h
theorem Row.alloc (h : Row w B size A n xs) (hB : B ≤ w.heap.size) (o : Obj) : Row (w.alloc o) B size A n xs :=
  h.keep fun p hp => World.cell?_alloc_lt w o p (by omega)
theorem Row.setCell (h : Row w B size A n xs) {p : Addr} (hB : B ≤ p.block) (u : Value) : Row (w.setCell p u) B size A n xs :=
  h.keep fun q hq => World.cell?_setCell_other w p q u (fun e => by subst e; omega)
theorem Row.grown (h : Row w B size A n xs) {row : Option Nat} (hg : w.grownBy w' row) (hB : B ≤ w.heap.size) (hr : ∀ g, row = some g → B ≤ g) : Row w' B size A n xs :=
  h.keep fun p hp => World.cell?_of_block (hg.block p.block (by omega) (fun e => by have := hr _ e.symm; omega))
/-- the address, where there is an element -/
theorem Row.at_ {k : Nat} {u : Value} (h : Row w B 1 A n xs) (hk : xs[k]? = some u) : ∃ ad, A = some ad ∧ ad.block < B ∧ w.cell? (ad.add k) = some u := h.2 k u hk
theorem Row.own {base : Nat} {e : TypeId} {c : Nat} (h : w.ownsRow base e size (.slice A n c) n xs) : Row w w.heap.size size A n xs := by
  refine ⟨h.1, fun j u hu => ?_⟩
  rcases h.2 with ⟨hv, hn⟩ | ⟨g, cap, cur, hv, _, hh, _⟩
  · subst hn
    have : xs.length = 0 := by simpa using h.1
    have : xs = [] := List.eq_nil_of_length_eq_zero this
    subst this
    simp at hu
  · have hA : A = some ⟨g, 0, none⟩ := by injection hv
    subst hA
    exact ⟨_, rfl, (Array.getElem?_eq_some_iff.1 hh).1, h.cells (g := g) rfl j u hu⟩
end

/-- a new block of cells reads as these cells -/
theorem new_cells (w : World) (news : List Value) (e : TypeId) : ∀ j u, news[j]? = some u → (w.alloc (.cells news.toArray e)).cell? ((⟨w.heap.size, 0, none⟩ : Addr).add j) = some u := by
  intro j u hu
  have hadd : (⟨w.heap.size, 0, none⟩ : Addr).add j = ⟨w.heap.size, j, none⟩ := by unfold Addr.add; split <;> simp_all
  rw [hadd, cell_of_row _ _ _ _ _ (0, 0) (heap_alloc_new w _)]
  simpa using hu

/-- a world that has grown by a new block and then by an append onto an own row has grown by the append alone -/
theorem grown_over_alloc {w w' : World} {o : Obj} {row : Option Nat} (h : (w.alloc o).grownBy w' row) : w.grownBy w' row :=
  ⟨h.os, h.tape, h.output, Nat.le_trans (by simp) h.size, fun k hk hne => (h.block k (by simp; omega) hne).trans (Below.heap_alloc w o k hk)⟩

section
variable {P : Program} {w : World}
/-- one element, laid in a new block, is appended onto a row of the call's own -/
theorem wpList_push {ops : Array Oper} {rest : List Oper} {o : Oper} {a : Act} {Q : Exit → Act → World → Prop} (hgd : o.guard = none) (s x : Operand) (t : TypeId)
    (ho : o.op = .call { callee := .builtin .append, args := #[s, x], argTypes := #[t, t] })
    (base : Nat) (e : TypeId) (i : TypeInfo) (z : Value) (size bytes : Nat) (ht : P.underlying t = some (.slice e)) (hi : P.info? e = some i) (hz : i.zero = some z)
    (hsize : i.size = size) (hby : i.bytes = bytes) (hzs : z.cells.size = size) (hsz : 0 < size)
    (v : Value) (n : Nat) (xs : List Value) (hs : a.eval s = v) (hown : w.ownsRow base e size v n xs)
    (news : List Value) (hx : a.eval x = .slice (some ⟨w.heap.size, 0, none⟩) 1 1) (hl : news.length = size) (h1 : ∀ u ∈ news, u.oneCell' = true)
    (h63 : n + 1 ≤ maxLen) (hbytes : (n + 1) * bytes ≤ 140737488355328) (hbase : base ≤ w.heap.size)
    (h : ∀ v' w', w'.ownsRow base e size v' (n + 1) (xs ++ news) → w.grownBy w' v.ownBlock → Below base w w' → (v'.ownBlock = v.ownBlock ∨ v'.ownBlock = some (w.heap.size + 1)) → wpList P ops Q rest (a.put o.dst v') w') :
    wpList P ops Q (o :: rest) a (w.alloc (.cells news.toArray e)) := by
  refine wpList_append_own_at (w := w.alloc (.cells news.toArray e)) hgd s x t ho base e i z size bytes ht hi hz hsize hby hzs hsz v n xs hs (hown.alloc _) ⟨w.heap.size, 0, none⟩ 1 1 news hx (by rw [hl, Nat.one_mul]) (new_cells w news e) h1 h63 hbytes (by simp; omega) ?_
  intro v' w' h2 h3 _ h4
  have hg := grown_over_alloc h3
  refine h v' w' h2 hg ((Below.refl base w).grown hg hbase fun k hk => (hown.lt k hk).1) ?_
  rcases h4 with h4 | h4
  · exact .inl h4
  · exact .inr (by simpa using h4)
end
end Go.Proofs.Ythfiiikanpagiaa
