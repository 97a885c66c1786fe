/- BalancesCopies, walked. -/
import Derived.Test.YtekikfdlnkcenaaBCk
namespace Go.Proofs.Ytekikfdlnkcenaa
open Go.RowKit Go.Maps
def u5 : U := ⟨5, by decide⟩
def u6 : U := ⟨6, by decide⟩
theorem built_tbN (c : Cp) (A : Option Addr) (n cap : Nat) : Try.prog.built 38 [(0, .agg (fl (cpP c)).toArray), (1, .slice A n cap)] = some (fl (tbP c (.slice A n cap))).toArray := built_tb (c := oldC c) c.r.len A n cap
theorem reg_one (c : Cp) (b : List U) (lim : Int) (h1 : tbE b 2 = 0) (h2 : 0 < lim) : regM [] ⟨c, b⟩ 2 lim = (0, [⟨c, b⟩]) := by
  unfold regM
  rw [if_neg (fun e => e h1), show findT ([] : List Tbl) (Tbl.mk c b).c = -1 from rfl, if_neg (show ¬ (0 : Int) ≤ -1 by decide), if_neg (by simp; omega)]
  rfl
theorem asc_one (t : Tbl) : Asc [t] := List.pairwise_singleton _ _
theorem no_cells {P : Nat → Prop} {w : World} {M : Nat} {T : List Tb} (h : BkMap P w M T) : ∀ cs, ¬ Has w M cs := fun _ hh => h.ne hh rfl
theorem two_blocks {c : Cp} {s : Value} {p q : List Value} (h : fl (tbP c s) ++ p = us [u5, u6] ++ q) : False := by
  have e := congrArg (fun l : List Value => l[1]?) h
  obtain ⟨e', ⟨l, len, bt⟩⟩ := c
  cases l with
  | nil => simp at len
  | cons a t => simp [tbP, fl, rc, ints, us, U.v] at e
end Go.Proofs.Ytekikfdlnkcenaa
