/- Lists of deltas: Moves and its reference. -/
import Derived.Test.YtonkgjengplppaaNum
namespace Go.Proofs.Ytonkgjengplppaa
open Go.RowKit
/-- a delta -/
structure Dl where
  p : Int
  m : Int
deriving DecidableEq
def dc (d : Dl) : List Value := [.int .u64 d.p, .int .u64 d.m]
theorem dc_len (d : Dl) : (dc d).length = 2 := rfl
theorem dcs_len {ds : List Dl} : ∀ d ∈ ds, (dc d).length = 2 := fun _ _ => rfl
theorem dc_one (d : Dl) : ∀ u ∈ dc d, u.oneCell' = true := fun u hu => by
  simp only [dc, List.mem_cons, List.not_mem_nil, or_false] at hu
  rcases hu with rfl | rfl <;> rfl
theorem dc_one2 (p m : Int) : ∀ u ∈ [Value.int .u64 p, .int .u64 m], u.oneCell' = true := dc_one ⟨p, m⟩
theorem dcs_one (ds : List Dl) : ∀ u ∈ ds.flatMap dc, u.oneCell' = true := fun u hu => by
  obtain ⟨d, _, hd⟩ := List.mem_flatMap.1 hu
  exact dc_one d u hd
/-- numbers of 64 bits -/
def U64 (l : List Int) : Prop := ∀ x ∈ l, 0 ≤ x ∧ x < 18446744073709551616
def D64 (l : List Dl) : Prop := ∀ d ∈ l, (0 ≤ d.p ∧ d.p < 18446744073709551616) ∧ (0 ≤ d.m ∧ d.m < 18446744073709551616)
theorem Small.u64 {l : List Int} (h : Small l) : U64 l := fun x hx => by have := h x hx; omega
/-- rows of numbers, of deltas -/
def URow (w : World) (A : Option Addr) (n : Nat) (xs : List Int) : Prop := xs.length = n ∧ (0 < n → ∃ g post, A = some ⟨g, 0, none⟩ ∧ Has w g (ints .u64 xs ++ post))
def DRow (w : World) (A : Option Addr) (n : Nat) (ds : List Dl) : Prop := ds.length = n ∧ (0 < n → ∃ g post, A = some ⟨g, 0, none⟩ ∧ Has w g (ds.flatMap dc ++ post))
theorem URow.below {w w' : World} {A : Option Addr} {n : Nat} {xs : List Int} (h : URow w A n xs) (hb : Below w.heap.size w w') : URow w' A n xs :=
  ⟨h.1, fun hn => by obtain ⟨g, post, e, hg⟩ := h.2 hn; exact ⟨g, post, e, hg.below hb hg.lt⟩⟩
theorem DRow.below {w w' : World} {A : Option Addr} {n : Nat} {xs : List Dl} (h : DRow w A n xs) (hb : Below w.heap.size w w') : DRow w' A n xs :=
  ⟨h.1, fun hn => by obtain ⟨g, post, e, hg⟩ := h.2 hn; exact ⟨g, post, e, hg.below hb hg.lt⟩⟩
theorem URow.row {w : World} {A : Option Addr} {n : Nat} {xs : List Int} (h : URow w A n xs) : Row w w.heap.size 1 A n (ints .u64 xs) := by
  refine ⟨by rw [ints_len, h.1, Nat.mul_one], fun j u hu => ?_⟩
  have hj : j < xs.length := by have := (List.getElem?_eq_some_iff.1 hu).1; rwa [ints_len] at this
  obtain ⟨g, post, e, hg⟩ := h.2 (by rw [← h.1]; omega)
  refine ⟨_, e, hg.lt, ?_⟩
  rw [add_at, Nat.zero_add, hg.cell, List.getElem?_append_left (by rw [ints_len]; exact hj)]
  exact hu
theorem URow.own {w : World} {base : Nat} {e : TypeId} {A : Option Addr} {n c : Nat} {xs : List Int} (hl : xs.length = n) (h : w.ownsRow base e 1 (.slice A n c) n (ints .u64 xs)) : URow w A n xs :=
  ⟨hl, fun hn => by
    obtain ⟨g, c', post, hv, _, hg⟩ := own_block h hn
    exact ⟨g, post, by injection hv, hg⟩⟩
theorem DRow.own {w : World} {base : Nat} {e : TypeId} {A : Option Addr} {n c : Nat} {ds : List Dl} (hl : ds.length = n) (h : w.ownsRow base e 2 (.slice A n c) n (ds.flatMap dc)) : DRow w A n ds :=
  ⟨hl, fun hn => by
    obtain ⟨g, c', post, hv, _, hg⟩ := own_block h hn
    exact ⟨g, post, by injection hv, hg⟩⟩
theorem DRow.has {w : World} {g n : Nat} {ds : List Dl} (hl : ds.length = n) (h : Has w g (ds.flatMap dc)) : DRow w (some ⟨g, 0, none⟩) n ds := ⟨hl, fun _ => ⟨g, [], rfl, by rw [List.append_nil]; exact h⟩⟩
theorem URow.cell {w : World} {g : Nat} {xs : List Int} {post : List Value} (h : Has w g (ints .u64 xs ++ post)) {k : Nat} (hk : k < xs.length) : w.cell? ⟨g, k, none⟩ = some (.int .u64 (xs.getD k 0)) := by
  rw [h.cell, List.getElem?_append_left (by rw [ints_len]; exact hk)]
  exact ints_at hk
theorem flat_cell {ds : List Dl} {post : List Value} {w : World} {g : Nat} (h : Has w g (ds.flatMap dc ++ post)) {k : Nat} (hk : k < ds.length) (j : Nat) (hj : j < 2) : w.cell? ⟨g, k * 2 + j, none⟩ = (dc ds[k])[j]? := by
  have := h.rangeP dcs_len k hk
  have e : j < (dc ds[k]).length := hj
  have h1 := this j (dc ds[k])[j] (List.getElem?_eq_getElem e)
  rw [h1, List.getElem?_eq_getElem e]
theorem set_p : ∀ (ds : List Dl) (post : List Value) (k : Nat) (v : Int) (hk : k < ds.length), (ds.flatMap dc ++ post).set (k * 2) (.int .u64 v) = (ds.set k ⟨v, ds[k].m⟩).flatMap dc ++ post
  | d :: ds, post, 0, v, _ => by simp [dc]
  | d :: ds, post, k + 1, v, hk => by
    have := set_p ds post k v (by simpa using hk)
    rw [Nat.add_mul, Nat.one_mul]
    simpa [dc] using this
theorem set_m : ∀ (ds : List Dl) (post : List Value) (k : Nat) (v : Int) (hk : k < ds.length), (ds.flatMap dc ++ post).set (k * 2 + 1) (.int .u64 v) = (ds.set k ⟨ds[k].p, v⟩).flatMap dc ++ post
  | d :: ds, post, 0, v, _ => by simp [dc]
  | d :: ds, post, k + 1, v, hk => by
    have := set_m ds post k v (by simpa using hk)
    rw [show (k + 1) * 2 + 1 = k * 2 + 1 + 1 + 1 by omega]
    simpa [dc] using this
/-- one move -/
def mv (a b : Int) : Dl := if a < b then ⟨b - a, 0⟩ else ⟨0, a - b⟩
def mvs (xs ys : List Int) : List Dl := List.zipWith mv xs ys
theorem mvs_len {xs ys : List Int} {n : Nat} (hx : xs.length = n) (hy : ys.length = n) : (mvs xs ys).length = n := by simp [mvs, hx, hy]
theorem mvs_at {xs ys : List Int} {k : Nat} (hk : k < (mvs xs ys).length) : (mvs xs ys)[k] = mv (xs.getD k 0) (ys.getD k 0) := by
  have h : k < xs.length ∧ k < ys.length := by rw [mvs, List.length_zipWith] at hk; omega
  rw [getD_at h.1, getD_at h.2]; simp [mvs]
theorem U64.at {l : List Int} (h : U64 l) {k : Nat} (hk : k < l.length) : 0 ≤ l.getD k 0 ∧ l.getD k 0 < 18446744073709551616 := by
  rw [getD_at hk]; exact h _ (List.getElem_mem hk)
theorem mv_64 {a b : Int} (ha : 0 ≤ a ∧ a < 18446744073709551616) (hb : 0 ≤ b ∧ b < 18446744073709551616) : (0 ≤ (mv a b).p ∧ (mv a b).p < 18446744073709551616) ∧ (0 ≤ (mv a b).m ∧ (mv a b).m < 18446744073709551616) := by
  unfold mv
  split
  · constructor
    · show 0 ≤ b - a ∧ b - a < _; omega
    · show (0 : Int) ≤ 0 ∧ (0 : Int) < _; omega
  · constructor
    · show (0 : Int) ≤ 0 ∧ (0 : Int) < _; omega
    · show 0 ≤ a - b ∧ a - b < _; omega
theorem mvs_64 {xs ys : List Int} (hx : U64 xs) (hy : U64 ys) : D64 (mvs xs ys) := fun d hd => by
  obtain ⟨k, hk, rfl⟩ := List.mem_iff_getElem.1 hd
  rw [mvs_at hk]
  have h : k < xs.length ∧ k < ys.length := by rw [mvs, List.length_zipWith] at hk; omega
  exact mv_64 (hx.at h.1) (hy.at h.2)
theorem info_dl : (Try.prog.info? 94).map (fun i => (i.zero, i.size, i.bytes)) = some (some (.agg (dc ⟨0, 0⟩).toArray), 2, 16) := by kernel_rfl
theorem cells_dl (d : Dl) : Try.prog.cellsOf 94 = (dc d).length := by kernel_rfl
/-- the list as far as it is made: k entries of L, then zeros -/
def part0 (L : List Dl) (n k : Nat) : List Dl := L.take k ++ List.replicate (n - k) ⟨0, 0⟩
theorem part0_len {L : List Dl} {n k : Nat} (hl : L.length = n) (hk : k ≤ n) : (part0 L n k).length = n := by simp [part0, hl]; omega
theorem part0_at {L : List Dl} {n k : Nat} (hl : L.length = n) (hk : k < n) : (part0 L n k)[k]'(by rw [part0_len hl (by omega)]; exact hk) = ⟨0, 0⟩ := by
  unfold part0
  rw [List.getElem_append_right (by simp; omega)]
  simp
theorem part0_set {L : List Dl} {n k : Nat} (hl : L.length = n) (hk : k < n) : (part0 L n k).set k (L[k]'(by omega)) = part0 L n (k + 1) := by
  subst hl
  unfold part0
  have e : L.length - k = (L.length - (k + 1)) + 1 := by omega
  rw [e, List.replicate_succ, List.take_succ_eq_append_getElem hk, List.append_assoc]
  have : (L.take k).length = k := by simp; omega
  rw [List.set_append, if_neg (by omega), this, Nat.sub_self]
  simp
theorem part0_all {L : List Dl} {n : Nat} (hl : L.length = n) : part0 L n n = L := by subst hl; simp [part0]
theorem part0_zero (L : List Dl) (n : Nat) : part0 L n 0 = List.replicate n ⟨0, 0⟩ := by simp [part0]
/-- what a maker of deltas answers -/
def DP (n : Nat) (ds : List Dl) (w : World) (e : Ending) (w' : World) : Prop :=
  ∃ (A : Option Addr) (c : Nat), e = .returned (.slice A n c) ∧ DRow w' A n ds ∧ Below w.heap.size w w'
end Go.Proofs.Ytonkgjengplppaa
