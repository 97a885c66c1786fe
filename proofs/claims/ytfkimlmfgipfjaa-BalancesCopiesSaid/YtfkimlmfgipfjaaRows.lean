/-
  No cell of these rows narrows 'for every input' (looked for: loops, veiled, ifaces, maps, wideKeys, modest, calm, conditions, laid).
  DERIVED. THE GIVEN ROWS OF THIS SEAT. 8 by the template 'for every input the law returns true; each argument reads behind the call as it read before'; 0 by the template 'total and deterministic' (their statements: YtfkimlmfgipfjaaTotals.lean).
  GIVEN WITH THE SEED: the statements are not yours to turn. If you find one false, say at which input.
  Laid BY PROGRAM, IN A SANDBOX (cutbox-rows.mjs): the forced cells as the released guide's own fill.sh prints them over the translation f40f581002b15511… (all of the seat's roots in one cut). By AI agents, Wed Nov 11 2026. No macro, syntax, notation, axiom, sorry.
-/
import Derived.Test.YtfkimlmfgipfjaaChecked
import GoSem.Claim
import GoSem.ClaimJoined
import GoSem.ClaimMapViews
import Derived.JoinedTies
import Derived.KernelRfl
namespace Go.Proofs.Ytfkimlmfgipfjaa
/- THE CELL 'sum', in the pinned program and in every row, IS THE sha256 OF THE DUMP (.gsa) THAT YtfkimlmfgipfjaaProg.lean LOADS. Nothing in Lean hashes anything: it is a label: what it is worth is what the hold of that sum in a sandbox is worth. -/
noncomputable def Try.pinned : Pinned := { name := "ytfkimlmfgipfjaa", sum := "f40f581002b155119ac032a647522c1b183f0e09820501254b7417334f59b488", checked := Try.checked }
namespace Rows
def none {H : Type} : Left H := { results := [], args := [] }

/-- 'forkheadlaw8.VotesLatest': WHATEVER THE INPUT: true; the input reads as it did. -/
def votesLatestSpec : ChangeSpec := { name := "votesLatest", fn := fun _ => fun
  | [d] => { results := [.lit (.bool true)], args := [d] }
  | _ => none }
def votesLatestRow : OpenClaim := { program := "ytfkimlmfgipfjaa", sum := "f40f581002b155119ac032a647522c1b183f0e09820501254b7417334f59b488", func := "forkhead/forkheadlaw8.VotesLatest", spec := "votesLatest", plainKeys := false, apart := false }
def VotesLatestSaid : Prop := votesLatestRow.holds Try.pinned (OpenSpec.ofChange votesLatestSpec)

/-- ITS FALSE NEIGHBOUR: 'it returns false'. Refute it at one input. -/
def votesLatestWrong : ChangeSpec := { name := "votesLatest", fn := fun _ => fun
  | [d] => { results := [.lit (.bool false)], args := [d] }
  | _ => none }
def VotesLatestWrongFalsely : Prop := votesLatestRow.holds Try.pinned (OpenSpec.ofChange votesLatestWrong)

/-- 'forkheadlaw8.VotesTables': WHATEVER THE INPUT: true; the input reads as it did. -/
def votesTablesSpec : ChangeSpec := { name := "votesTables", fn := fun _ => fun
  | [d] => { results := [.lit (.bool true)], args := [d] }
  | _ => none }
def votesTablesRow : OpenClaim := { program := "ytfkimlmfgipfjaa", sum := "f40f581002b155119ac032a647522c1b183f0e09820501254b7417334f59b488", func := "forkhead/forkheadlaw8.VotesTables", spec := "votesTables", plainKeys := false, apart := false }
def VotesTablesSaid : Prop := votesTablesRow.holds Try.pinned (OpenSpec.ofChange votesTablesSpec)

/-- ITS FALSE NEIGHBOUR: 'it returns false'. Refute it at one input. -/
def votesTablesWrong : ChangeSpec := { name := "votesTables", fn := fun _ => fun
  | [d] => { results := [.lit (.bool false)], args := [d] }
  | _ => none }
def VotesTablesWrongFalsely : Prop := votesTablesRow.holds Try.pinned (OpenSpec.ofChange votesTablesWrong)

/-- 'forkheadlaw8.VotesCasts': WHATEVER THE INPUT: true; the input reads as it did. -/
def votesCastsSpec : ChangeSpec := { name := "votesCasts", fn := fun _ => fun
  | [d1, d2] => { results := [.lit (.bool true)], args := [d1, d2] }
  | _ => none }
def votesCastsRow : OpenClaim := { program := "ytfkimlmfgipfjaa", sum := "f40f581002b155119ac032a647522c1b183f0e09820501254b7417334f59b488", func := "forkhead/forkheadlaw8.VotesCasts", spec := "votesCasts", plainKeys := false, apart := false }
def VotesCastsSaid : Prop := votesCastsRow.holds Try.pinned (OpenSpec.ofChange votesCastsSpec)

/-- ITS FALSE NEIGHBOUR: 'it returns false'. Refute it at one input. -/
def votesCastsWrong : ChangeSpec := { name := "votesCasts", fn := fun _ => fun
  | [d1, d2] => { results := [.lit (.bool false)], args := [d1, d2] }
  | _ => none }
def VotesCastsWrongFalsely : Prop := votesCastsRow.holds Try.pinned (OpenSpec.ofChange votesCastsWrong)

/-- 'forkheadlaw8.VotesCopies': WHATEVER THE INPUT: true; the input reads as it did. -/
def votesCopiesSpec : ChangeSpec := { name := "votesCopies", fn := fun _ => fun
  | [d] => { results := [.lit (.bool true)], args := [d] }
  | _ => none }
def votesCopiesRow : OpenClaim := { program := "ytfkimlmfgipfjaa", sum := "f40f581002b155119ac032a647522c1b183f0e09820501254b7417334f59b488", func := "forkhead/forkheadlaw8.VotesCopies", spec := "votesCopies", plainKeys := false, apart := false }
def VotesCopiesSaid : Prop := votesCopiesRow.holds Try.pinned (OpenSpec.ofChange votesCopiesSpec)

/-- ITS FALSE NEIGHBOUR: 'it returns false'. Refute it at one input. -/
def votesCopiesWrong : ChangeSpec := { name := "votesCopies", fn := fun _ => fun
  | [d] => { results := [.lit (.bool false)], args := [d] }
  | _ => none }
def VotesCopiesWrongFalsely : Prop := votesCopiesRow.holds Try.pinned (OpenSpec.ofChange votesCopiesWrong)

/-- 'forkheadlaw7.BalancesTables': WHATEVER THE INPUT: true; the input reads as it did. -/
def balancesTablesSpec : ChangeSpec := { name := "balancesTables", fn := fun _ => fun
  | [d1, d2] => { results := [.lit (.bool true)], args := [d1, d2] }
  | _ => none }
def balancesTablesRow : OpenClaim := { program := "ytfkimlmfgipfjaa", sum := "f40f581002b155119ac032a647522c1b183f0e09820501254b7417334f59b488", func := "forkhead/forkheadlaw7.BalancesTables", spec := "balancesTables", plainKeys := false, apart := false }
def BalancesTablesSaid : Prop := balancesTablesRow.holds Try.pinned (OpenSpec.ofChange balancesTablesSpec)

/-- ITS FALSE NEIGHBOUR: 'it returns false'. Refute it at one input. -/
def balancesTablesWrong : ChangeSpec := { name := "balancesTables", fn := fun _ => fun
  | [d1, d2] => { results := [.lit (.bool false)], args := [d1, d2] }
  | _ => none }
def BalancesTablesWrongFalsely : Prop := balancesTablesRow.holds Try.pinned (OpenSpec.ofChange balancesTablesWrong)

/-- 'forkheadlaw7.BalancesBooks': WHATEVER THE INPUT: true; the input reads as it did. -/
def balancesBooksSpec : ChangeSpec := { name := "balancesBooks", fn := fun _ => fun
  | [d1, d2] => { results := [.lit (.bool true)], args := [d1, d2] }
  | _ => none }
def balancesBooksRow : OpenClaim := { program := "ytfkimlmfgipfjaa", sum := "f40f581002b155119ac032a647522c1b183f0e09820501254b7417334f59b488", func := "forkhead/forkheadlaw7.BalancesBooks", spec := "balancesBooks", inPlace := ["internal/bytealg.Compare"], unfollowed := true, recurses := true, plainKeys := false, apart := false }
def BalancesBooksSaid : Prop := balancesBooksRow.holds Try.pinned (OpenSpec.ofChange balancesBooksSpec)

/-- ITS FALSE NEIGHBOUR: 'it returns false'. Refute it at one input. -/
def balancesBooksWrong : ChangeSpec := { name := "balancesBooks", fn := fun _ => fun
  | [d1, d2] => { results := [.lit (.bool false)], args := [d1, d2] }
  | _ => none }
def BalancesBooksWrongFalsely : Prop := balancesBooksRow.holds Try.pinned (OpenSpec.ofChange balancesBooksWrong)

/-- 'forkheadlaw7.BalancesCopies': WHATEVER THE INPUT: true; the input reads as it did. -/
def balancesCopiesSpec : ChangeSpec := { name := "balancesCopies", fn := fun _ => fun
  | [d] => { results := [.lit (.bool true)], args := [d] }
  | _ => none }
def balancesCopiesRow : OpenClaim := { program := "ytfkimlmfgipfjaa", sum := "f40f581002b155119ac032a647522c1b183f0e09820501254b7417334f59b488", func := "forkhead/forkheadlaw7.BalancesCopies", spec := "balancesCopies", inPlace := ["internal/bytealg.Compare"], unfollowed := true, recurses := true, plainKeys := false, apart := false }
def BalancesCopiesSaid : Prop := balancesCopiesRow.holds Try.pinned (OpenSpec.ofChange balancesCopiesSpec)

/-- ITS FALSE NEIGHBOUR: 'it returns false'. Refute it at one input. -/
def balancesCopiesWrong : ChangeSpec := { name := "balancesCopies", fn := fun _ => fun
  | [d] => { results := [.lit (.bool false)], args := [d] }
  | _ => none }
def BalancesCopiesWrongFalsely : Prop := balancesCopiesRow.holds Try.pinned (OpenSpec.ofChange balancesCopiesWrong)

/-- 'forkheadlaw7.BalancesRegisters': WHATEVER THE INPUT: true; the input reads as it did. -/
def balancesRegistersSpec : ChangeSpec := { name := "balancesRegisters", fn := fun _ => fun
  | [d1, d2, d3] => { results := [.lit (.bool true)], args := [d1, d2, d3] }
  | _ => none }
def balancesRegistersRow : OpenClaim := { program := "ytfkimlmfgipfjaa", sum := "f40f581002b155119ac032a647522c1b183f0e09820501254b7417334f59b488", func := "forkhead/forkheadlaw7.BalancesRegisters", spec := "balancesRegisters", inPlace := ["internal/bytealg.Compare"], unfollowed := true, recurses := true, plainKeys := false, apart := false }
def BalancesRegistersSaid : Prop := balancesRegistersRow.holds Try.pinned (OpenSpec.ofChange balancesRegistersSpec)

/-- ITS FALSE NEIGHBOUR: 'it returns false'. Refute it at one input. -/
def balancesRegistersWrong : ChangeSpec := { name := "balancesRegisters", fn := fun _ => fun
  | [d1, d2, d3] => { results := [.lit (.bool false)], args := [d1, d2, d3] }
  | _ => none }
def BalancesRegistersWrongFalsely : Prop := balancesRegistersRow.holds Try.pinned (OpenSpec.ofChange balancesRegistersWrong)

/- THE SECOND FORM. 'bulk': how many values and letters a reading holds, each counted each time it is reached (what is shared counts as often as it is met; a slice's spare places count too). A statement '..UptoSaid' is the law's where the arguments, and the package variables that the reading takes, are together of bulk at most 1048576: NARROWER than '..Said'. Prove '..Said' where nothing that the law and all that it calls make is longer than what came in: it says more and counts as full. Else prove '..UptoSaid'. A law counts once. -/
mutual
def uptoBulk {H : Type} : DataW H → Nat
  | .lit (.string bytes) => bytes.length + 1
  | .lit _ => 1
  | .nil => 1
  | .ptr d => uptoBulk d + 1
  | .slice elems spare => uptoBulkAll elems + uptoBulkAll spare + 1
  | .agg parts => uptoBulkAll parts + 1
  | .iface _ d => uptoBulk d + 1
  | .map entries => uptoBulkEntries entries + 1
  | .held _ => 1
def uptoBulkAll {H : Type} : List (DataW H) → Nat
  | [] => 0
  | d :: r => uptoBulk d + uptoBulkAll r
def uptoBulkEntries {H : Type} : List (Lit × DataW H) → Nat
  | [] => 0
  | x :: r => uptoBulkEntry x + uptoBulkEntries r
def uptoBulkEntry {H : Type} : Lit × DataW H → Nat
  | (.string bytes, d) => bytes.length + uptoBulk d + 1
  | (_, d) => uptoBulk d + 1
 end
def uptoSmall : (H : Type) → List (DataW H) → Bool := fun _ ds => decide (uptoBulkAll ds ≤ 1048576)
def OpenSpec.upto (s : _root_.Go.ChangeSpec) : _root_.Go.OpenSpec := { _root_.Go.OpenSpec.ofChange s with cond := some uptoSmall }

/-- 'forkheadlaw8.VotesLatest', WHERE WHAT IT READS IS OF BULK AT MOST 1048576: true; the input reads as it did. -/
def votesLatestUptoRow : OpenClaim := { program := "ytfkimlmfgipfjaa", sum := "f40f581002b155119ac032a647522c1b183f0e09820501254b7417334f59b488", func := "forkhead/forkheadlaw8.VotesLatest", spec := "votesLatest", plainKeys := false, apart := false, narrowed := true }
def VotesLatestUptoSaid : Prop := votesLatestUptoRow.holds Try.pinned (OpenSpec.upto votesLatestSpec)

/-- 'forkheadlaw8.VotesTables', WHERE WHAT IT READS IS OF BULK AT MOST 1048576: true; the input reads as it did. -/
def votesTablesUptoRow : OpenClaim := { program := "ytfkimlmfgipfjaa", sum := "f40f581002b155119ac032a647522c1b183f0e09820501254b7417334f59b488", func := "forkhead/forkheadlaw8.VotesTables", spec := "votesTables", plainKeys := false, apart := false, narrowed := true }
def VotesTablesUptoSaid : Prop := votesTablesUptoRow.holds Try.pinned (OpenSpec.upto votesTablesSpec)

/-- 'forkheadlaw8.VotesCasts', WHERE WHAT IT READS IS OF BULK AT MOST 1048576: true; the input reads as it did. -/
def votesCastsUptoRow : OpenClaim := { program := "ytfkimlmfgipfjaa", sum := "f40f581002b155119ac032a647522c1b183f0e09820501254b7417334f59b488", func := "forkhead/forkheadlaw8.VotesCasts", spec := "votesCasts", plainKeys := false, apart := false, narrowed := true }
def VotesCastsUptoSaid : Prop := votesCastsUptoRow.holds Try.pinned (OpenSpec.upto votesCastsSpec)

/-- 'forkheadlaw8.VotesCopies', WHERE WHAT IT READS IS OF BULK AT MOST 1048576: true; the input reads as it did. -/
def votesCopiesUptoRow : OpenClaim := { program := "ytfkimlmfgipfjaa", sum := "f40f581002b155119ac032a647522c1b183f0e09820501254b7417334f59b488", func := "forkhead/forkheadlaw8.VotesCopies", spec := "votesCopies", plainKeys := false, apart := false, narrowed := true }
def VotesCopiesUptoSaid : Prop := votesCopiesUptoRow.holds Try.pinned (OpenSpec.upto votesCopiesSpec)

/-- 'forkheadlaw7.BalancesTables', WHERE WHAT IT READS IS OF BULK AT MOST 1048576: true; the input reads as it did. -/
def balancesTablesUptoRow : OpenClaim := { program := "ytfkimlmfgipfjaa", sum := "f40f581002b155119ac032a647522c1b183f0e09820501254b7417334f59b488", func := "forkhead/forkheadlaw7.BalancesTables", spec := "balancesTables", plainKeys := false, apart := false, narrowed := true }
def BalancesTablesUptoSaid : Prop := balancesTablesUptoRow.holds Try.pinned (OpenSpec.upto balancesTablesSpec)

/-- 'forkheadlaw7.BalancesBooks', WHERE WHAT IT READS IS OF BULK AT MOST 1048576: true; the input reads as it did. -/
def balancesBooksUptoRow : OpenClaim := { program := "ytfkimlmfgipfjaa", sum := "f40f581002b155119ac032a647522c1b183f0e09820501254b7417334f59b488", func := "forkhead/forkheadlaw7.BalancesBooks", spec := "balancesBooks", inPlace := ["internal/bytealg.Compare"], unfollowed := true, recurses := true, plainKeys := false, apart := false, narrowed := true }
def BalancesBooksUptoSaid : Prop := balancesBooksUptoRow.holds Try.pinned (OpenSpec.upto balancesBooksSpec)

/-- 'forkheadlaw7.BalancesCopies', WHERE WHAT IT READS IS OF BULK AT MOST 1048576: true; the input reads as it did. -/
def balancesCopiesUptoRow : OpenClaim := { program := "ytfkimlmfgipfjaa", sum := "f40f581002b155119ac032a647522c1b183f0e09820501254b7417334f59b488", func := "forkhead/forkheadlaw7.BalancesCopies", spec := "balancesCopies", inPlace := ["internal/bytealg.Compare"], unfollowed := true, recurses := true, plainKeys := false, apart := false, narrowed := true }
def BalancesCopiesUptoSaid : Prop := balancesCopiesUptoRow.holds Try.pinned (OpenSpec.upto balancesCopiesSpec)

/-- 'forkheadlaw7.BalancesRegisters', WHERE WHAT IT READS IS OF BULK AT MOST 1048576: true; the input reads as it did. -/
def balancesRegistersUptoRow : OpenClaim := { program := "ytfkimlmfgipfjaa", sum := "f40f581002b155119ac032a647522c1b183f0e09820501254b7417334f59b488", func := "forkhead/forkheadlaw7.BalancesRegisters", spec := "balancesRegisters", inPlace := ["internal/bytealg.Compare"], unfollowed := true, recurses := true, plainKeys := false, apart := false, narrowed := true }
def BalancesRegistersUptoSaid : Prop := balancesRegistersUptoRow.holds Try.pinned (OpenSpec.upto balancesRegistersSpec)

end Rows
end Go.Proofs.Ytfkimlmfgipfjaa
