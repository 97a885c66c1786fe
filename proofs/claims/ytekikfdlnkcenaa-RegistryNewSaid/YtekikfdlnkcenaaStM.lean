/- How a store and a state lie in memory. -/
import Derived.Test.YtekikfdlnkcenaaTyB
namespace Go.Proofs.Ytekikfdlnkcenaa
open Go.RowKit
/-- a slice with its capacity -/
structure SlR (Γ : Gam) (s : Sl) (n : Nat) (xs : List Value) : Prop where
  n : s.n = n
  cap : CapOk s.A s.n s.c
  sl : SlG Γ s.A s.n xs
theorem SlR.mono {Γ Γ' : Gam} {s : Sl} {n : Nat} {xs : List Value} (h : SlR Γ s n xs) (hl : Le Γ Γ') : SlR Γ' s n xs := ⟨h.n, h.cap, h.sl.mono hl⟩
theorem slR0 (Γ : Gam) : SlR Γ sl0 0 [] := ⟨rfl, ⟨Nat.le_refl _, Nat.zero_le _, fun _ => rfl⟩, fun h => absurd h (Nat.lt_irrefl _)⟩
abbrev nox (n : Nod) : List Value := fl (noP n)
abbrev blx (b : Blk) : List Value := fl (blP b)
abbrev vox (v : Vo) : List Value := fl (voP v)
abbrev atx (a : Att × Sl) : List Value := fl (atP a.1 a.2)
abbrev rqx (r : Rq) : List Value := fl (rqP r)
abbrev AtG (Γ : Gam) (a : Att) (s : Sl) : Prop := SlR Γ s a.l.length (ints .i64 a.l)
/-- attestations -/
def AtsG (Γ : Gam) (s : Sl) (T : List Att) : Prop := ∃ X : List (Att × Sl), X.map Prod.fst = T ∧ (∀ a ∈ X, AtG Γ a.1 a.2) ∧ SlR Γ s T.length (X.flatMap atx)
theorem AtsG.mono {Γ Γ' : Gam} {s : Sl} {T : List Att} (h : AtsG Γ s T) (hl : Le Γ Γ') : AtsG Γ' s T := by
  obtain ⟨X, h1, h2, h3⟩ := h
  exact ⟨X, h1, fun a ha => (h2 a ha).mono hl, h3.mono hl⟩
def TabsG (Γ : Gam) (s : Sl) (T : List Tbl) : Prop := CapOk s.A s.n s.c ∧ TsG Γ s.A s.n T
theorem TabsG.mono {Γ Γ' : Gam} {s : Sl} {T : List Tbl} (h : TabsG Γ s T) (hl : Le Γ Γ') : TabsG Γ' s T := ⟨h.1, h.2.mono hl⟩
structure StG (Γ : Gam) (x : Sls) (s : Sto) : Prop where
  bal : SlR Γ x.bal s.bal.length (us s.bal)
  lat : SlR Γ x.lat s.lat.length (s.lat.flatMap vox)
  eqv : SlR Γ x.eqv s.eqv.length (ints .i64 s.eqv)
  early : AtsG Γ x.early s.early
  orph : SlR Γ x.orph s.orph.length (s.orph.flatMap blx)
  nodes : SlR Γ x.nodes s.nodes.length (s.nodes.flatMap nox)
  tabs : TabsG Γ x.tabs s.tabs
theorem StG.mono {Γ Γ' : Gam} {x : Sls} {s : Sto} (h : StG Γ x s) (hl : Le Γ Γ') : StG Γ' x s :=
  ⟨h.bal.mono hl, h.lat.mono hl, h.eqv.mono hl, h.early.mono hl, h.orph.mono hl, h.nodes.mono hl, h.tabs.mono hl⟩
structure ZsG (Γ : Gam) (x : Zls) (z : Zst) : Prop where
  s : StG Γ x.s z.s
  reqs : SlR Γ x.reqs z.reqs.length (z.reqs.flatMap rqx)
  rets : SlR Γ x.rets z.rets.length (z.rets.flatMap rqx)
theorem ZsG.mono {Γ Γ' : Gam} {x : Zls} {z : Zst} (h : ZsG Γ x z) (hl : Le Γ Γ') : ZsG Γ' x z := ⟨h.s.mono hl, h.reqs.mono hl, h.rets.mono hl⟩
/-- element i of a list in memory -/
theorem SlR.at {α : Type} {f : α → List Value} {k : Nat} {Γ : Gam} {s : Sl} {xs : List α} (h : SlR Γ s xs.length (xs.flatMap f)) (hk : ∀ x ∈ xs, (f x).length = k) (i : Nat) (hi : i < xs.length) :
    ∃ g, s.A = some ⟨g, 0, none⟩ ∧ Chk Γ g (i * k) (f xs[i]) := h.sl.at hk h.n.symm i (h.n ▸ hi)
end Go.Proofs.Ytekikfdlnkcenaa
