/- What Apply computes. -/
import Derived.Test.YtonkgjengplppaaCloneL
import Derived.Test.YtonkgjengplppaaTreeW
namespace Go.Proofs.Ytonkgjengplppaa
open Go.RowKit
/-- the sums of deltas, and the weights, under way -/
structure St where
  s : List Dl
  o : List Int
/-- node i, and its step up -/
def stepA (up : Int) (i : Nat) (x : St) : Option St :=
  if chgE (x.o.getD i 0) (x.s.getD i ⟨0, 0⟩) ≠ 0 then none
  else if up < 0 then some ⟨x.s, x.o.set i (chgV (x.o.getD i 0) (x.s.getD i ⟨0, 0⟩))⟩
  else if addDE (x.s.getD up.toNat ⟨0, 0⟩) (x.s.getD i ⟨0, 0⟩) ≠ 0 then none
  else some ⟨x.s.set up.toNat (addDV (x.s.getD up.toNat ⟨0, 0⟩) (x.s.getD i ⟨0, 0⟩)), x.o.set i (chgV (x.o.getD i 0) (x.s.getD i ⟨0, 0⟩))⟩
def runA (ups : List Int) : Nat → St → Option St
  | 0, x => some x
  | i + 1, x => (stepA (ups.getD i 0) i x).bind (runA ups i)
/-- a tree's links -/
def Ups (ns : List Nd) : Prop := ∀ i (h : i < ns.length), ns[i].up = -1 ∨ ∃ u : Nat, u < i ∧ ns[i].up = u
def ups (ns : List Nd) : List Int := ns.map (·.up)
theorem Wf.ups {ns : List Nd} (h : Wf ns) : Ups ns := fun i hi => by
  rcases Nat.eq_zero_or_pos i with h0 | h0
  · subst h0; exact .inl (h.first hi)
  · obtain ⟨u, hu, e, _⟩ := h.up i hi h0
    exact .inr ⟨u, hu, e⟩
theorem ups_at {ns : List Nd} {i : Nat} (h : i < ns.length) : (ups ns).getD i 0 = ns[i].up := by
  rw [getD_at (by simpa [Go.Proofs.Ytonkgjengplppaa.ups] using h)]; simp [Go.Proofs.Ytonkgjengplppaa.ups]
theorem dl_at {l : List Dl} {i : Nat} (h : i < l.length) : l.getD i ⟨0, 0⟩ = l[i] := by simp [List.getD, List.getElem?_eq_getElem h]
theorem D64.at {l : List Dl} (h : D64 l) {k : Nat} (hk : k < l.length) : D1 (l.getD k ⟨0, 0⟩) := by
  rw [dl_at hk]; exact h _ (List.getElem_mem hk)
theorem addE_cases (a b : Int) : addE a b = 0 ∨ addE a b = 4 := by unfold addE; split <;> simp
theorem subE_cases (a b : Int) : subE a b = 0 ∨ subE a b = 4 := by unfold subE; split <;> simp
theorem chgE_cases (n : Int) (d : Dl) : chgE n d = 0 ∨ chgE n d = 4 := by
  unfold chgE; split
  · exact addE_cases _ _
  · exact subE_cases _ _
theorem addDE_cases (a b : Dl) : addDE a b = 0 ∨ addDE a b = 4 := by
  unfold addDE; split
  · exact addE_cases _ _
  · exact .inr rfl
theorem addV_64 {a b : Int} (ha : 0 ≤ a) (hb : 0 ≤ b) : 0 ≤ addV a b ∧ addV a b < 18446744073709551616 := by unfold addV; split <;> omega
theorem subV_64 {a b : Int} (ha : a < 18446744073709551616) (hb : 0 ≤ b) : 0 ≤ subV a b ∧ subV a b < 18446744073709551616 := by unfold subV; split <;> omega
theorem chgV_64 {n : Int} {d : Dl} (h0 : 0 ≤ n) (h1 : n < 18446744073709551616) : 0 ≤ chgV n d ∧ chgV n d < 18446744073709551616 := by
  unfold chgV; split
  · exact addV_64 h0 (by omega)
  · exact subV_64 h1 (by omega)
theorem addDV_64 {a b : Dl} (ha : D1 a) (hb : D1 b) : D1 (addDV a b) := by
  obtain ⟨⟨h1, h2⟩, ⟨h3, h4⟩⟩ := ha
  obtain ⟨⟨h5, h6⟩, ⟨h7, h8⟩⟩ := hb
  unfold addDV; split
  · exact ⟨⟨by show 0 ≤ a.p + b.p; omega, by assumption⟩, addV_64 h3 h7⟩
  · exact ⟨⟨Int.le_refl 0, by decide⟩, ⟨Int.le_refl 0, by decide⟩⟩
theorem U64.set {l : List Int} (h : U64 l) {v : Int} (hv : 0 ≤ v ∧ v < 18446744073709551616) (i : Nat) : U64 (l.set i v) := fun x hx => by
  rcases List.mem_or_eq_of_mem_set hx with hx | hx
  · exact h x hx
  · subst hx; exact hv
theorem D64.set {l : List Dl} (h : D64 l) {v : Dl} (hv : D1 v) (i : Nat) : D64 (l.set i v) := fun x hx => by
  rcases List.mem_or_eq_of_mem_set hx with hx | hx
  · exact h x hx
  · subst hx; exact hv
/-- a state that fits -/
structure SOk (n : Nat) (x : St) : Prop where
  ls : x.s.length = n
  lo : x.o.length = n
  s : D64 x.s
  o : U64 x.o
theorem stepA_fail {up : Int} {i : Nat} {x : St} (h : chgE (x.o.getD i 0) (x.s.getD i ⟨0, 0⟩) ≠ 0) : stepA up i x = none := if_pos h
theorem stepA_root {up : Int} {i : Nat} {x : St} (h : chgE (x.o.getD i 0) (x.s.getD i ⟨0, 0⟩) = 0) (hu : up < 0) : stepA up i x = some ⟨x.s, x.o.set i (chgV (x.o.getD i 0) (x.s.getD i ⟨0, 0⟩))⟩ := by
  unfold stepA; rw [if_neg (not_not_intro h), if_pos hu]
theorem stepA_fail2 {u i : Nat} {x : St} (h : chgE (x.o.getD i 0) (x.s.getD i ⟨0, 0⟩) = 0) (h2 : addDE (x.s.getD u ⟨0, 0⟩) (x.s.getD i ⟨0, 0⟩) ≠ 0) : stepA u i x = none := by
  unfold stepA; rw [if_neg (not_not_intro h), if_neg (by omega), Int.toNat_natCast, if_pos h2]
theorem stepA_up {u i : Nat} {x : St} (h : chgE (x.o.getD i 0) (x.s.getD i ⟨0, 0⟩) = 0) (h2 : addDE (x.s.getD u ⟨0, 0⟩) (x.s.getD i ⟨0, 0⟩) = 0) :
    stepA u i x = some ⟨x.s.set u (addDV (x.s.getD u ⟨0, 0⟩) (x.s.getD i ⟨0, 0⟩)), x.o.set i (chgV (x.o.getD i 0) (x.s.getD i ⟨0, 0⟩))⟩ := by
  unfold stepA; rw [if_neg (not_not_intro h), if_neg (by omega), Int.toNat_natCast, if_neg (not_not_intro h2)]
theorem SOk.root {n : Nat} {x : St} (h : SOk n x) {i : Nat} (hi : i < n) : SOk n ⟨x.s, x.o.set i (chgV (x.o.getD i 0) (x.s.getD i ⟨0, 0⟩))⟩ where
  ls := h.ls
  lo := by simp [h.lo]
  s := h.s
  o := h.o.set (chgV_64 (h.o.at (by rw [h.lo]; exact hi)).1 (h.o.at (by rw [h.lo]; exact hi)).2) i
theorem SOk.up {n : Nat} {x : St} (h : SOk n x) {i u : Nat} (hi : i < n) (hu : u < n) : SOk n ⟨x.s.set u (addDV (x.s.getD u ⟨0, 0⟩) (x.s.getD i ⟨0, 0⟩)), x.o.set i (chgV (x.o.getD i 0) (x.s.getD i ⟨0, 0⟩))⟩ where
  ls := by simp [h.ls]
  lo := by simp [h.lo]
  s := h.s.set (addDV_64 (h.s.at (by rw [h.ls]; exact hu)) (h.s.at (by rw [h.ls]; exact hi))) u
  o := h.o.set (chgV_64 (h.o.at (by rw [h.lo]; exact hi)).1 (h.o.at (by rw [h.lo]; exact hi)).2) i
/-- what Apply answers -/
def AppP (ns : List Nd) (ws : List Int) (ds : List Dl) (n : Nat) (w : World) (e : Ending) (w' : World) : Prop :=
  ((runA (ups ns) n ⟨ds, ws⟩ = none ∧ e = .returned (.tuple #[.slice none 0 0, .int .i64 4])) ∨
    ∃ x A c, runA (ups ns) n ⟨ds, ws⟩ = some x ∧ SOk n x ∧ e = .returned (.tuple #[.slice A n c, .int .i64 0]) ∧ URow w' A n x.o) ∧ Below w.heap.size w w'
end Go.Proofs.Ytonkgjengplppaa
