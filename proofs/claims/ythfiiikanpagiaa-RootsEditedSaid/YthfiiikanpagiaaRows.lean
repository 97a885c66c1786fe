/-
  No cell of these rows narrows 'for every input' (looked for: loops, veiled, ifaces, maps, wideKeys, modest, calm, conditions, laid).
  DERIVED. THE GIVEN ROWS OF THIS SEAT. 6 by the template 'for every input the law returns true; each argument reads behind the call as it read before'; 0 by the template 'total and deterministic' (their statements: YthfiiikanpagiaaTotals.lean).
  GIVEN WITH THE SEED: the statements are not yours to turn. If you find one false, say at which input.
  Laid BY PROGRAM, IN A SANDBOX (cutbox-rows.mjs): the forced cells as the released guide's own fill.sh prints them over the translation 06b1b73b34adfc55… (all of the seat's roots in one cut). By AI agents, Wed Nov 11 2026. No macro, syntax, notation, axiom, sorry.
-/
import Derived.Test.YthfiiikanpagiaaChecked
import GoSem.Claim
import GoSem.ClaimJoined
import GoSem.ClaimMapViews
import Derived.JoinedTies
import Derived.KernelRfl
namespace Go.Proofs.Ythfiiikanpagiaa
/- THE CELL 'sum', in the pinned program and in every row, IS THE sha256 OF THE DUMP (.gsa) THAT YthfiiikanpagiaaProg.lean LOADS. Nothing in Lean hashes anything: it is a label: what it is worth is what the hold of that sum in a sandbox is worth. -/
noncomputable def Try.pinned : Pinned := { name := "ythfiiikanpagiaa", sum := "06b1b73b34adfc558d814d2fe86da71d535debdad9714f179ac60cb3432cf1e7", checked := Try.checked }
namespace Rows
def none {H : Type} : Left H := { results := [], args := [] }

/-- 'forkheadlaw3.RootsOrder': WHATEVER THE INPUT: true; the input reads as it did. -/
def rootsOrderSpec : ChangeSpec := { name := "rootsOrder", fn := fun _ => fun
  | [d1, d2, d3] => { results := [.lit (.bool true)], args := [d1, d2, d3] }
  | _ => none }
def rootsOrderRow : OpenClaim := { program := "ythfiiikanpagiaa", sum := "06b1b73b34adfc558d814d2fe86da71d535debdad9714f179ac60cb3432cf1e7", func := "forkhead/forkheadlaw3.RootsOrder", spec := "rootsOrder", inPlace := ["internal/bytealg.Compare", "internal/bytealg.IndexByte"], apart := false }
def RootsOrderSaid : Prop := rootsOrderRow.holds Try.pinned (OpenSpec.ofChange rootsOrderSpec)

/-- ITS FALSE NEIGHBOUR: 'it returns false'. Refute it at one input. -/
def rootsOrderWrong : ChangeSpec := { name := "rootsOrder", fn := fun _ => fun
  | [d1, d2, d3] => { results := [.lit (.bool false)], args := [d1, d2, d3] }
  | _ => none }
def RootsOrderWrongFalsely : Prop := rootsOrderRow.holds Try.pinned (OpenSpec.ofChange rootsOrderWrong)

/-- 'forkheadlaw3.RootsTexts': WHATEVER THE INPUT: true; the input reads as it did. -/
def rootsTextsSpec : ChangeSpec := { name := "rootsTexts", fn := fun _ => fun
  | [d1, d2] => { results := [.lit (.bool true)], args := [d1, d2] }
  | _ => none }
def rootsTextsRow : OpenClaim := { program := "ythfiiikanpagiaa", sum := "06b1b73b34adfc558d814d2fe86da71d535debdad9714f179ac60cb3432cf1e7", func := "forkhead/forkheadlaw3.RootsTexts", spec := "rootsTexts", inPlace := ["internal/bytealg.IndexByte", "internal/bytealg.Compare"], apart := false }
def RootsTextsSaid : Prop := rootsTextsRow.holds Try.pinned (OpenSpec.ofChange rootsTextsSpec)

/-- ITS FALSE NEIGHBOUR: 'it returns false'. Refute it at one input. -/
def rootsTextsWrong : ChangeSpec := { name := "rootsTexts", fn := fun _ => fun
  | [d1, d2] => { results := [.lit (.bool false)], args := [d1, d2] }
  | _ => none }
def RootsTextsWrongFalsely : Prop := rootsTextsRow.holds Try.pinned (OpenSpec.ofChange rootsTextsWrong)

/-- 'forkheadlaw3.RootsEdited': WHATEVER THE INPUT: true; the input reads as it did. -/
def rootsEditedSpec : ChangeSpec := { name := "rootsEdited", fn := fun _ => fun
  | [d1, d2, d3] => { results := [.lit (.bool true)], args := [d1, d2, d3] }
  | _ => none }
def rootsEditedRow : OpenClaim := { program := "ythfiiikanpagiaa", sum := "06b1b73b34adfc558d814d2fe86da71d535debdad9714f179ac60cb3432cf1e7", func := "forkhead/forkheadlaw3.RootsEdited", spec := "rootsEdited", inPlace := ["internal/bytealg.IndexByte", "internal/bytealg.Compare"], apart := false }
def RootsEditedSaid : Prop := rootsEditedRow.holds Try.pinned (OpenSpec.ofChange rootsEditedSpec)

/-- ITS FALSE NEIGHBOUR: 'it returns false'. Refute it at one input. -/
def rootsEditedWrong : ChangeSpec := { name := "rootsEdited", fn := fun _ => fun
  | [d1, d2, d3] => { results := [.lit (.bool false)], args := [d1, d2, d3] }
  | _ => none }
def RootsEditedWrongFalsely : Prop := rootsEditedRow.holds Try.pinned (OpenSpec.ofChange rootsEditedWrong)

/-- 'forkheadlaw1.UnitsSums': WHATEVER THE INPUT: true; the input reads as it did. -/
def unitsSumsSpec : ChangeSpec := { name := "unitsSums", fn := fun _ => fun
  | [d] => { results := [.lit (.bool true)], args := [d] }
  | _ => none }
def unitsSumsRow : OpenClaim := { program := "ythfiiikanpagiaa", sum := "06b1b73b34adfc558d814d2fe86da71d535debdad9714f179ac60cb3432cf1e7", func := "forkhead/forkheadlaw1.UnitsSums", spec := "unitsSums", inPlace := ["math/bits.Add64"], apart := false }
def UnitsSumsSaid : Prop := unitsSumsRow.holds Try.pinned (OpenSpec.ofChange unitsSumsSpec)

/-- ITS FALSE NEIGHBOUR: 'it returns false'. Refute it at one input. -/
def unitsSumsWrong : ChangeSpec := { name := "unitsSums", fn := fun _ => fun
  | [d] => { results := [.lit (.bool false)], args := [d] }
  | _ => none }
def UnitsSumsWrongFalsely : Prop := unitsSumsRow.holds Try.pinned (OpenSpec.ofChange unitsSumsWrong)

/-- 'forkheadlaw1.UnitsEpochs': WHATEVER THE INPUT: true; the input reads as it did. -/
def unitsEpochsSpec : ChangeSpec := { name := "unitsEpochs", fn := fun _ => fun
  | [d1, d2] => { results := [.lit (.bool true)], args := [d1, d2] }
  | _ => none }
def unitsEpochsRow : OpenClaim := { program := "ythfiiikanpagiaa", sum := "06b1b73b34adfc558d814d2fe86da71d535debdad9714f179ac60cb3432cf1e7", func := "forkhead/forkheadlaw1.UnitsEpochs", spec := "unitsEpochs", apart := false }
def UnitsEpochsSaid : Prop := unitsEpochsRow.holds Try.pinned (OpenSpec.ofChange unitsEpochsSpec)

/-- ITS FALSE NEIGHBOUR: 'it returns false'. Refute it at one input. -/
def unitsEpochsWrong : ChangeSpec := { name := "unitsEpochs", fn := fun _ => fun
  | [d1, d2] => { results := [.lit (.bool false)], args := [d1, d2] }
  | _ => none }
def UnitsEpochsWrongFalsely : Prop := unitsEpochsRow.holds Try.pinned (OpenSpec.ofChange unitsEpochsWrong)

/-- 'forkheadlaw1.UnitsArithmetic': WHATEVER THE INPUT: true; the input reads as it did. -/
def unitsArithmeticSpec : ChangeSpec := { name := "unitsArithmetic", fn := fun _ => fun
  | [d1, d2] => { results := [.lit (.bool true)], args := [d1, d2] }
  | _ => none }
def unitsArithmeticRow : OpenClaim := { program := "ythfiiikanpagiaa", sum := "06b1b73b34adfc558d814d2fe86da71d535debdad9714f179ac60cb3432cf1e7", func := "forkhead/forkheadlaw1.UnitsArithmetic", spec := "unitsArithmetic", inPlace := ["math/bits.Add64"], apart := false }
def UnitsArithmeticSaid : Prop := unitsArithmeticRow.holds Try.pinned (OpenSpec.ofChange unitsArithmeticSpec)

/-- ITS FALSE NEIGHBOUR: 'it returns false'. Refute it at one input. -/
def unitsArithmeticWrong : ChangeSpec := { name := "unitsArithmetic", fn := fun _ => fun
  | [d1, d2] => { results := [.lit (.bool false)], args := [d1, d2] }
  | _ => none }
def UnitsArithmeticWrongFalsely : Prop := unitsArithmeticRow.holds Try.pinned (OpenSpec.ofChange unitsArithmeticWrong)

/- THE SECOND FORM. 'bulk': how many values and letters a reading holds, each counted each time it is reached (what is shared counts as often as it is met; a slice's spare places count too). A statement '..UptoSaid' is the law's where the arguments, and the package variables that the reading takes, are together of bulk at most 1048576: NARROWER than '..Said'. Prove '..Said' where nothing that the law and all that it calls make is longer than what came in: it says more and counts as full. Else prove '..UptoSaid'. A law counts once. -/
mutual
def uptoBulk {H : Type} : DataW H → Nat
  | .lit (.string bytes) => bytes.length + 1
  | .lit _ => 1
  | .nil => 1
  | .ptr d => uptoBulk d + 1
  | .slice elems spare => uptoBulkAll elems + uptoBulkAll spare + 1
  | .agg parts => uptoBulkAll parts + 1
  | .iface _ d => uptoBulk d + 1
  | .map entries => uptoBulkEntries entries + 1
  | .held _ => 1
def uptoBulkAll {H : Type} : List (DataW H) → Nat
  | [] => 0
  | d :: r => uptoBulk d + uptoBulkAll r
def uptoBulkEntries {H : Type} : List (Lit × DataW H) → Nat
  | [] => 0
  | x :: r => uptoBulkEntry x + uptoBulkEntries r
def uptoBulkEntry {H : Type} : Lit × DataW H → Nat
  | (.string bytes, d) => bytes.length + uptoBulk d + 1
  | (_, d) => uptoBulk d + 1
 end
def uptoSmall : (H : Type) → List (DataW H) → Bool := fun _ ds => decide (uptoBulkAll ds ≤ 1048576)
def OpenSpec.upto (s : _root_.Go.ChangeSpec) : _root_.Go.OpenSpec := { _root_.Go.OpenSpec.ofChange s with cond := some uptoSmall }

/-- 'forkheadlaw3.RootsOrder', WHERE WHAT IT READS IS OF BULK AT MOST 1048576: true; the input reads as it did. -/
def rootsOrderUptoRow : OpenClaim := { program := "ythfiiikanpagiaa", sum := "06b1b73b34adfc558d814d2fe86da71d535debdad9714f179ac60cb3432cf1e7", func := "forkhead/forkheadlaw3.RootsOrder", spec := "rootsOrder", inPlace := ["internal/bytealg.Compare", "internal/bytealg.IndexByte"], apart := false, narrowed := true }
def RootsOrderUptoSaid : Prop := rootsOrderUptoRow.holds Try.pinned (OpenSpec.upto rootsOrderSpec)

/-- 'forkheadlaw3.RootsTexts', WHERE WHAT IT READS IS OF BULK AT MOST 1048576: true; the input reads as it did. -/
def rootsTextsUptoRow : OpenClaim := { program := "ythfiiikanpagiaa", sum := "06b1b73b34adfc558d814d2fe86da71d535debdad9714f179ac60cb3432cf1e7", func := "forkhead/forkheadlaw3.RootsTexts", spec := "rootsTexts", inPlace := ["internal/bytealg.IndexByte", "internal/bytealg.Compare"], apart := false, narrowed := true }
def RootsTextsUptoSaid : Prop := rootsTextsUptoRow.holds Try.pinned (OpenSpec.upto rootsTextsSpec)

/-- 'forkheadlaw3.RootsEdited', WHERE WHAT IT READS IS OF BULK AT MOST 1048576: true; the input reads as it did. -/
def rootsEditedUptoRow : OpenClaim := { program := "ythfiiikanpagiaa", sum := "06b1b73b34adfc558d814d2fe86da71d535debdad9714f179ac60cb3432cf1e7", func := "forkhead/forkheadlaw3.RootsEdited", spec := "rootsEdited", inPlace := ["internal/bytealg.IndexByte", "internal/bytealg.Compare"], apart := false, narrowed := true }
def RootsEditedUptoSaid : Prop := rootsEditedUptoRow.holds Try.pinned (OpenSpec.upto rootsEditedSpec)

/-- 'forkheadlaw1.UnitsSums', WHERE WHAT IT READS IS OF BULK AT MOST 1048576: true; the input reads as it did. -/
def unitsSumsUptoRow : OpenClaim := { program := "ythfiiikanpagiaa", sum := "06b1b73b34adfc558d814d2fe86da71d535debdad9714f179ac60cb3432cf1e7", func := "forkhead/forkheadlaw1.UnitsSums", spec := "unitsSums", inPlace := ["math/bits.Add64"], apart := false, narrowed := true }
def UnitsSumsUptoSaid : Prop := unitsSumsUptoRow.holds Try.pinned (OpenSpec.upto unitsSumsSpec)

/-- 'forkheadlaw1.UnitsEpochs', WHERE WHAT IT READS IS OF BULK AT MOST 1048576: true; the input reads as it did. -/
def unitsEpochsUptoRow : OpenClaim := { program := "ythfiiikanpagiaa", sum := "06b1b73b34adfc558d814d2fe86da71d535debdad9714f179ac60cb3432cf1e7", func := "forkhead/forkheadlaw1.UnitsEpochs", spec := "unitsEpochs", apart := false, narrowed := true }
def UnitsEpochsUptoSaid : Prop := unitsEpochsUptoRow.holds Try.pinned (OpenSpec.upto unitsEpochsSpec)

/-- 'forkheadlaw1.UnitsArithmetic', WHERE WHAT IT READS IS OF BULK AT MOST 1048576: true; the input reads as it did. -/
def unitsArithmeticUptoRow : OpenClaim := { program := "ythfiiikanpagiaa", sum := "06b1b73b34adfc558d814d2fe86da71d535debdad9714f179ac60cb3432cf1e7", func := "forkhead/forkheadlaw1.UnitsArithmetic", spec := "unitsArithmetic", inPlace := ["math/bits.Add64"], apart := false, narrowed := true }
def UnitsArithmeticUptoSaid : Prop := unitsArithmeticUptoRow.holds Try.pinned (OpenSpec.upto unitsArithmeticSpec)

end Rows
end Go.Proofs.Ythfiiikanpagiaa
