/- What Merge computes. -/
import Derived.Test.YtonkgjengplppaaRefApM
import Derived.Test.YtonkgjengplppaaAppW
namespace Go.Proofs.Ytonkgjengplppaa
open Go.RowKit
/-- one of several lists -/
structure Pt where
  A : Option Addr
  n : Nat
  c : Nat
  ds : List Dl
def pv (p : Pt) : Value := .slice p.A p.n p.c
/-- a list of lists -/
structure LL (w : World) (A : Option Addr) (m : Nat) (ps : List Pt) : Prop where
  len : ps.length = m
  at_ : 0 < m → ∃ g post, A = some ⟨g, 0, none⟩ ∧ Has w g (ps.map pv ++ post)
  row : ∀ p ∈ ps, DRow w p.A p.n p.ds
  d64 : ∀ p ∈ ps, D64 p.ds
theorem LL.below {w w' : World} {A : Option Addr} {m : Nat} {ps : List Pt} (h : LL w A m ps) (hb : Below w.heap.size w w') : LL w' A m ps :=
  ⟨h.len, fun hm => by obtain ⟨g, post, e, hg⟩ := h.at_ hm; exact ⟨g, post, e, hg.below hb hg.lt⟩, fun p hp => (h.row p hp).below hb, h.d64⟩
theorem LL.nil (w : World) : LL w none 0 [] := ⟨rfl, fun h => absurd h (Nat.lt_irrefl 0), fun p hp => by simp at hp, fun p hp => by simp at hp⟩
def zD : Dl := ⟨0, 0⟩
def mRow (d : List Dl) : Nat → List Dl → Option (List Dl)
  | 0, o => some o
  | k + 1, o => (mRow d k o).bind fun o' => if addDE (o'.getD k ⟨0, 0⟩) (d.getD k ⟨0, 0⟩) ≠ 0 then none else some (o'.set k (addDV (o'.getD k ⟨0, 0⟩) (d.getD k ⟨0, 0⟩)))
def mAll (ps : List Pt) (n : Nat) : Nat → Option (List Dl)
  | 0 => some (List.replicate n ⟨0, 0⟩)
  | j + 1 => (mAll ps n j).bind (mRow ((ps.map Pt.ds).getD j []) n)
theorem mRow_none {d : List Dl} {o : List Dl} {k : Nat} (h : mRow d k o = none) : ∀ i, mRow d (k + i) o = none
  | 0 => h
  | i + 1 => by rw [← Nat.add_assoc, mRow, mRow_none h i]; rfl
theorem mAll_none {ps : List Pt} {n k : Nat} (h : mAll ps n k = none) : ∀ i, mAll ps n (k + i) = none
  | 0 => h
  | i + 1 => by rw [← Nat.add_assoc, mAll, mAll_none h i]; rfl
theorem mRow_yes {d o o' : List Dl} {k : Nat} (h : mRow d k o = some o') (he : addDE (o'.getD k ⟨0, 0⟩) (d.getD k ⟨0, 0⟩) = 0) : mRow d (k + 1) o = some (o'.set k (addDV (o'.getD k ⟨0, 0⟩) (d.getD k ⟨0, 0⟩))) := by
  rw [mRow, h]; exact if_neg (not_not_intro he)
theorem mRow_no {d o o' : List Dl} {k : Nat} (h : mRow d k o = some o') (he : addDE (o'.getD k ⟨0, 0⟩) (d.getD k ⟨0, 0⟩) ≠ 0) : mRow d (k + 1) o = none := by
  rw [mRow, h]; exact if_pos he
theorem mAll_step {ps : List Pt} {n k : Nat} {o : List Dl} (h : mAll ps n k = some o) (hk : k < ps.length) : mAll ps n (k + 1) = mRow ps[k].ds n o := by
  rw [mAll, h]; simp [List.getD, List.getElem?_eq_getElem hk]
/-- what Merge answers -/
def MP (ps : List Pt) (n m : Nat) (w : World) (e : Ending) (w' : World) : Prop :=
  (((∃ p ∈ ps, p.n ≠ n) ∧ e = .returned (.tuple #[.slice none 0 0, .int .i64 2])) ∨
    ((∀ p ∈ ps, p.n = n) ∧ mAll ps n m = none ∧ e = .returned (.tuple #[.slice none 0 0, .int .i64 4])) ∨
    ∃ A c o, (∀ p ∈ ps, p.n = n) ∧ mAll ps n m = some o ∧ D64 o ∧ e = .returned (.tuple #[.slice A n c, .int .i64 0]) ∧ DRow w' A n o) ∧ Below w.heap.size w w'
theorem rep_len (n : Nat) : (List.replicate n (⟨0, 0⟩ : Dl)).length = n := by simp
theorem rep_64 (n : Nat) : D64 (List.replicate n ⟨0, 0⟩) := fun d hd => by
  rw [List.eq_of_mem_replicate hd]; decide
theorem pts_more {ps : List Pt} {n k : Nat} (hk : k < ps.length) (h : ∀ p ∈ ps.take k, p.n = n) (he : ps[k].n = n) : ∀ p ∈ ps.take (k + 1), p.n = n := fun p hp => by
  rw [List.take_succ_eq_append_getElem hk] at hp
  rcases List.mem_append.1 hp with hp | hp
  · exact h p hp
  · have : p = ps[k] := by simpa using hp
    rw [this]; exact he
theorem LL.cell {w : World} {g m : Nat} {ps : List Pt} {post : List Value} (h : Has w g (ps.map pv ++ post)) {k : Nat} (hk : k < ps.length) : w.cell? ⟨g, k, none⟩ = some (pv ps[k]) := by
  rw [h.cell, List.getElem?_append_left (by simpa using hk)]
  simp [List.getElem?_map, List.getElem?_eq_getElem hk]
theorem flat_pD {ds : List Dl} {post : List Value} {w : World} {g : Nat} (h : Has w g (ds.flatMap dc ++ post)) {k : Nat} (hk : k < ds.length) : w.cell? ⟨g, k * 2, none⟩ = some (.int .u64 (ds.getD k ⟨0, 0⟩).p) := by
  have := flat_cell h hk 0 (by omega)
  rw [dl_at hk]; exact this
theorem flat_mD {ds : List Dl} {post : List Value} {w : World} {g : Nat} (h : Has w g (ds.flatMap dc ++ post)) {k : Nat} (hk : k < ds.length) : w.cell? ⟨g, k * 2 + 1, none⟩ = some (.int .u64 (ds.getD k ⟨0, 0⟩).m) := by
  have := flat_cell h hk 1 (by omega)
  rw [dl_at hk]; exact this
end Go.Proofs.Ytonkgjengplppaa
