/- Books of balance tables: keys and tables. -/
import Derived.Test.YtekikfdlnkcenaaGen
import Derived.Test.YtekikfdlnkcenaaVotes
import Derived.Maps.OwnSet
import Derived.DeepKeys4
namespace Go.Proofs.Ytekikfdlnkcenaa
open Go.RowKit Go.Maps
/-- bytes -/
def Bt (r : List Int) : Prop := ∀ x ∈ r, 0 ≤ x ∧ x < 256
/-- a checkpoint: epoch, root -/
abbrev Ck := Int × List Int
def ckc (c : Ck) : List Value := .int .u64 c.1 :: ints .u8 c.2
structure CkOk (c : Ck) : Prop where
  e0 : 0 ≤ c.1
  e1 : c.1 < 18446744073709551616
  r : c.2.length = 32
  b : Bt c.2
theorem ckc_len {c : Ck} (h : c.2.length = 32) : (ckc c).length = 33 := by simp [ckc, ints, h]
theorem cells_ck {c : Ck} (h : c.2.length = 32) : Try.prog.cellsOf 35 = (ckc c).length := by rw [ckc_len h]; kernel_rfl
theorem cells_ck33 : Try.prog.cellsOf 35 = 33 := by kernel_rfl
theorem cellsOf_u8 : Try.prog.cellsOf 5 = 1 := by kernel_rfl
theorem cellsOf_u64 : Try.prog.cellsOf 30 = 1 := by kernel_rfl
theorem cellsOf_root : Try.prog.cellsOf 33 = 32 := by kernel_rfl
theorem keyedC : Keyed Try.prog 35 := Keyed.of_law (deep_law_laid (P := Try.prog) (by kernel_rfl) (m := 4) (by decide) (of_decide_eq_true (by kernel_rfl)) (by kernel_rfl) (by kernel_rfl))
theorem mapM_some {α β : Type} {f : α → Option β} {g : α → β} : ∀ l : List α, (∀ x ∈ l, f x = some (g x)) → l.mapM f = some (l.map g)
  | [], _ => rfl
  | x :: l, h => by
    rw [List.mapM_cons, h x (by simp), mapM_some l (fun y hy => h y (by simp [hy]))]; rfl
theorem range_getD (l : List Int) : (List.range l.length).map (fun i => l.getD i 0) = l := by
  apply List.ext_getElem
  · simp
  · intro i h1 h2
    simp [List.getD, List.getElem?_eq_getElem h2]
theorem wf_u8 {x : Int} (h : 0 ≤ x ∧ x < 256) : (Lit.int .u8 x).wf = true := by
  simp only [Lit.wf, Bool.and_eq_true, decide_eq_true_eq]
  exact ⟨h.1, Int.le_of_lt_add_one h.2⟩
theorem wf_u64 {x : Int} (h0 : 0 ≤ x) (h1 : x < 18446744073709551616) : (Lit.int .u64 x).wf = true := by
  simp only [Lit.wf, Bool.and_eq_true, decide_eq_true_eq]
  exact ⟨h0, Int.le_of_lt_add_one h1⟩
theorem keyLits_root {r : List Int} (hr : r.length = 32) (hb : Bt r) (d : Nat) : Try.prog.keyLits (d + 2) 33 (ints .u8 r) = some (r.map (Lit.int .u8)) := by
  unfold Program.keyLits
  simp only [Try.underlying33]
  rw [if_pos (by rw [cellsOf_root]; simp [ints, hr]), cellsOf_u8, mapM_some (g := fun i => [Lit.int .u8 (r.getD i 0)])]
  · simp only [Option.map_some]
    congr 1
    have e : ((List.range 32).map fun i => [Lit.int .u8 (r.getD i 0)]).flatten = ((List.range r.length).map (fun i => r.getD i 0)).map (Lit.int .u8) := by
      rw [hr, List.map_map]
      simp [List.flatten_eq_flatMap, List.flatMap_map]
      rw [← List.map_eq_flatMap]
      rfl
    rw [e, range_getD]
  · intro i hi
    have hi' : i < 32 := by simpa using hi
    have hir : i < r.length := by rw [hr]; exact hi'
    have e : ((ints .u8 r).drop (i * 1)).take 1 = [.int .u8 (r.getD i 0)] := by
      rw [Nat.mul_one]
      simp only [ints]
      rw [List.drop_eq_getElem_cons (by simpa using hir)]
      simp [List.getD, List.getElem?_eq_getElem hir]
    rw [e]
    have hx : 0 ≤ r.getD i 0 ∧ r.getD i 0 < 256 := by
      have := hb r[i] (List.getElem_mem hir)
      simpa [List.getD, List.getElem?_eq_getElem hir] using this
    simp only [Program.keyLits, Try.underlying5, wf_u8 hx]
    simp
/-- a checkpoint as a key -/
def kc (c : Ck) : Lit := .string (keyBytes (.int .u64 c.1 :: c.2.map (Lit.int .u8)))
theorem keyType_ck : Try.prog.keyType 35 = true := by kernel_rfl
theorem types_size2 : ∃ m, Try.prog.types.size = m + 2 := ⟨Try.prog.types.size - 2, by kernel_rfl⟩
theorem formed_ck {c : Ck} (h : c.2.length = 32) : (Value.agg (ckc c).toArray).formed Try.prog 35 = true := by
  unfold Value.formed
  simp only [Try.underlying35]
  rw [cells_ck33]; simp [ckc_len h]
theorem keyOf_ck {c : Ck} (h : CkOk c) : keyOf Try.prog 35 (.agg (ckc c).toArray) = some (kc c) := by
  obtain ⟨m, hm⟩ := types_size2
  unfold keyOf
  simp only [Try.underlying35]
  rw [if_pos (by rw [keyType_ck, formed_ck h.r]; rfl), hm]
  unfold Program.keyLits
  simp only [Try.underlying35, Value.cells]
  have hl : (ckc c).length = Try.prog.cellsOf 35 := by rw [cells_ck33, ckc_len h.r]
  simp only [hl, if_true]
  have e0 : ((ckc c).drop 0).take 1 = [.int .u64 c.1] := rfl
  have e1 : ((ckc c).drop 1).take 32 = ints .u8 c.2 := by
    show (ints .u8 c.2).take 32 = _
    exact List.take_of_length_le (by simp [ints, h.r])
  have k0 : Try.prog.keyLits (m + 2) 30 [.int .u64 c.1] = some [.int .u64 c.1] := by
    simp only [Program.keyLits, Try.underlying30, wf_u64 h.e0 h.e1]; simp
  have k1 := keyLits_root h.r h.b m
  simp only [List.mapM_cons, List.mapM_nil, cellsOf_u64, cellsOf_root, e0, e1, k0, k1]
  simp [kc]
theorem ckc_inj {a b : Ck} (h : ckc a = ckc b) : a = b := by
  unfold ckc at h
  injection h with h1 h2
  injection h1 with _ h1
  exact Prod.ext h1 ((List.map_inj_right (fun x y e => (Value.int.inj e).2)).1 h2)
theorem kc_inj {a b : Ck} (ha : CkOk a) (hb : CkOk b) (h : kc a = kc b) : a = b := by
  have h1 := keyOf_ck ha
  have h2 := keyOf_ck hb
  rw [← h] at h2
  have := keyedC.inj h1 h2
  exact ckc_inj (congrArg Array.toList (Value.agg.inj this))
/-- an element of a map, as it is -/
def heldR (v : Value) : Option (DataW Value × List MemPlace) := some (.held v, [])
theorem heldR_inv {v : Value} {z : DataW Value × List MemPlace} (h : heldR v = some z) : z = (.held v, []) := by unfold heldR at h; injection h with h; exact h.symm
end Go.Proofs.Ytekikfdlnkcenaa
