/-
  NARROWER THAN 'FOR EVERY INPUT', by the rows' own cells (each row's printed sentence says how): WideArithmetic: laid · WideSmall: laid · WideDivides: laid · WideBytes: laid · WideLists: laid · WideTexts: laid · WideRing: laid.
  DERIVED. THE GIVEN ROWS OF THIS SEAT. 7 by the template 'for every input the law returns true; each argument reads behind the call as it read before'; 0 by the template 'total and deterministic' (their statements: YtpgpplpddjjchaaDoorTotals.lean).
  GIVEN WITH THE SEED: the statements are not yours to turn. If you find one false, say at which input.
  Laid BY PROGRAM, IN A SANDBOX (cutbox-rows.mjs): the forced cells as the released guide's own fill.sh prints them over the translation 8f6cb59310634dbc… (all of the seat's roots in one cut). By AI agents, Wed Nov 11 2026. No macro, syntax, notation, axiom, sorry.
-/
import Derived.Test.YtpgpplpddjjchaaDoorChecked
import GoSem.PinnedTables
import GoSem.Claim
import GoSem.ClaimJoined
import GoSem.ClaimMapViews
import Derived.JoinedTies
import Derived.KernelRfl
namespace Go.Proofs.YtpgpplpddjjchaaDoor
/- THE CELL 'sum', in the pinned program and in every row, IS THE sha256 OF THE DUMP (.gsa) THAT YtpgpplpddjjchaaDoorProg.lean LOADS. Nothing in Lean hashes anything: it is a label: what it is worth is what the hold of that sum in a sandbox is worth. -/
noncomputable def Tryd.pinned : Pinned := { name := "ytpgpplpddjjchaadoor", sum := "8f6cb59310634dbca670cbdf45209aa7969cc6d0c4360644e63a1848123b8f98", checked := Tryd.checked }
namespace Rows
def none {H : Type} : Left H := { results := [], args := [] }

/- WHAT THE LISTED PACKAGE-LEVEL VARIABLES READ AS WHEN THE CALL BEGINS. Each datum BY PROGRAM (the guide's laid-datum.mjs) off the statement by which the dump's own 'gosem.cut.vars' lays the variable. In a bare row this is a premise. The card (YtpgpplpddjjchaaDoorCards.lean) ties it to the program's text. -/
def laid_unicode_utf8_acceptRanges {H : Type} : DataW H := .agg [.agg [.lit (.int .u8 128), .lit (.int .u8 191)], .agg [.lit (.int .u8 160), .lit (.int .u8 191)], .agg [.lit (.int .u8 128), .lit (.int .u8 159)], .agg [.lit (.int .u8 144), .lit (.int .u8 191)], .agg [.lit (.int .u8 128), .lit (.int .u8 143)], .agg [.lit (.int .u8 0), .lit (.int .u8 0)], .agg [.lit (.int .u8 0), .lit (.int .u8 0)], .agg [.lit (.int .u8 0), .lit (.int .u8 0)], .agg [.lit (.int .u8 0), .lit (.int .u8 0)], .agg [.lit (.int .u8 0), .lit (.int .u8 0)], .agg [.lit (.int .u8 0), .lit (.int .u8 0)], .agg [.lit (.int .u8 0), .lit (.int .u8 0)], .agg [.lit (.int .u8 0), .lit (.int .u8 0)], .agg [.lit (.int .u8 0), .lit (.int .u8 0)], .agg [.lit (.int .u8 0), .lit (.int .u8 0)], .agg [.lit (.int .u8 0), .lit (.int .u8 0)]]
/-- One of Go's own tables, pinned by name: the form's constant. -/
def laid_unicode_utf8_first : DataW Unit := Go.Pinned.utf8First

/-- 'forkheadlaw2.WideArithmetic': WHATEVER THE INPUT: true; the input reads as it did. -/
def wideArithmeticSpec : ChangeSpec := { name := "wideArithmetic", fn := fun _ => fun
  | [d1, d2, d3] => { results := [.lit (.bool true)], args := [d1, d2, d3] }
  | _ => none }
def wideArithmeticRow : OpenClaim := { program := "ytpgpplpddjjchaadoor", sum := "8f6cb59310634dbca670cbdf45209aa7969cc6d0c4360644e63a1848123b8f98", func := "forkhead/forkheadlaw2.WideArithmetic", spec := "wideArithmetic", inPlace := ["math/bits.Add64", "math/bits.Sub64", "internal/bytealg.IndexByteString", "internal/bytealg.IndexString"], named := ["math/bits.divideError", "math/bits.overflowError", "unicode/utf8.first", "unicode/utf8.acceptRanges", "internal/bytealg.MaxLen"], apart := false, laid := [("unicode/utf8.acceptRanges", laid_unicode_utf8_acceptRanges), ("unicode/utf8.first", laid_unicode_utf8_first)] }
def WideArithmeticSaid : Prop := wideArithmeticRow.holds Tryd.pinned (OpenSpec.ofChange wideArithmeticSpec)

/-- ITS FALSE NEIGHBOUR: 'it returns false'. Refute it at one input. -/
def wideArithmeticWrong : ChangeSpec := { name := "wideArithmetic", fn := fun _ => fun
  | [d1, d2, d3] => { results := [.lit (.bool false)], args := [d1, d2, d3] }
  | _ => none }
def WideArithmeticWrongFalsely : Prop := wideArithmeticRow.holds Tryd.pinned (OpenSpec.ofChange wideArithmeticWrong)

/-- 'forkheadlaw2.WideSmall': WHATEVER THE INPUT: true; the input reads as it did. -/
def wideSmallSpec : ChangeSpec := { name := "wideSmall", fn := fun _ => fun
  | [d1, d2] => { results := [.lit (.bool true)], args := [d1, d2] }
  | _ => none }
def wideSmallRow : OpenClaim := { program := "ytpgpplpddjjchaadoor", sum := "8f6cb59310634dbca670cbdf45209aa7969cc6d0c4360644e63a1848123b8f98", func := "forkhead/forkheadlaw2.WideSmall", spec := "wideSmall", inPlace := ["math/bits.Add64", "internal/bytealg.IndexByteString", "internal/bytealg.IndexString"], named := ["math/bits.divideError", "math/bits.overflowError", "unicode/utf8.first", "unicode/utf8.acceptRanges", "internal/bytealg.MaxLen"], apart := false, laid := [("unicode/utf8.acceptRanges", laid_unicode_utf8_acceptRanges), ("unicode/utf8.first", laid_unicode_utf8_first)] }
def WideSmallSaid : Prop := wideSmallRow.holds Tryd.pinned (OpenSpec.ofChange wideSmallSpec)

/-- ITS FALSE NEIGHBOUR: 'it returns false'. Refute it at one input. -/
def wideSmallWrong : ChangeSpec := { name := "wideSmall", fn := fun _ => fun
  | [d1, d2] => { results := [.lit (.bool false)], args := [d1, d2] }
  | _ => none }
def WideSmallWrongFalsely : Prop := wideSmallRow.holds Tryd.pinned (OpenSpec.ofChange wideSmallWrong)

/-- 'forkheadlaw2.WideDivides': WHATEVER THE INPUT: true; the input reads as it did. -/
def wideDividesSpec : ChangeSpec := { name := "wideDivides", fn := fun _ => fun
  | [d1, d2] => { results := [.lit (.bool true)], args := [d1, d2] }
  | _ => none }
def wideDividesRow : OpenClaim := { program := "ytpgpplpddjjchaadoor", sum := "8f6cb59310634dbca670cbdf45209aa7969cc6d0c4360644e63a1848123b8f98", func := "forkhead/forkheadlaw2.WideDivides", spec := "wideDivides", inPlace := ["math/bits.Add64", "internal/bytealg.IndexByteString", "internal/bytealg.IndexString"], named := ["math/bits.divideError", "math/bits.overflowError", "unicode/utf8.first", "unicode/utf8.acceptRanges", "internal/bytealg.MaxLen"], apart := false, laid := [("unicode/utf8.acceptRanges", laid_unicode_utf8_acceptRanges), ("unicode/utf8.first", laid_unicode_utf8_first)] }
def WideDividesSaid : Prop := wideDividesRow.holds Tryd.pinned (OpenSpec.ofChange wideDividesSpec)

/-- ITS FALSE NEIGHBOUR: 'it returns false'. Refute it at one input. -/
def wideDividesWrong : ChangeSpec := { name := "wideDivides", fn := fun _ => fun
  | [d1, d2] => { results := [.lit (.bool false)], args := [d1, d2] }
  | _ => none }
def WideDividesWrongFalsely : Prop := wideDividesRow.holds Tryd.pinned (OpenSpec.ofChange wideDividesWrong)

/-- 'forkheadlaw2.WideBytes': WHATEVER THE INPUT: true; the input reads as it did. -/
def wideBytesSpec : ChangeSpec := { name := "wideBytes", fn := fun _ => fun
  | [d1, d2] => { results := [.lit (.bool true)], args := [d1, d2] }
  | _ => none }
def wideBytesRow : OpenClaim := { program := "ytpgpplpddjjchaadoor", sum := "8f6cb59310634dbca670cbdf45209aa7969cc6d0c4360644e63a1848123b8f98", func := "forkhead/forkheadlaw2.WideBytes", spec := "wideBytes", inPlace := ["math/bits.Add64", "internal/bytealg.IndexByteString", "internal/bytealg.IndexString"], named := ["math/bits.divideError", "math/bits.overflowError", "unicode/utf8.first", "unicode/utf8.acceptRanges", "internal/bytealg.MaxLen"], apart := false, laid := [("unicode/utf8.acceptRanges", laid_unicode_utf8_acceptRanges), ("unicode/utf8.first", laid_unicode_utf8_first)] }
def WideBytesSaid : Prop := wideBytesRow.holds Tryd.pinned (OpenSpec.ofChange wideBytesSpec)

/-- ITS FALSE NEIGHBOUR: 'it returns false'. Refute it at one input. -/
def wideBytesWrong : ChangeSpec := { name := "wideBytes", fn := fun _ => fun
  | [d1, d2] => { results := [.lit (.bool false)], args := [d1, d2] }
  | _ => none }
def WideBytesWrongFalsely : Prop := wideBytesRow.holds Tryd.pinned (OpenSpec.ofChange wideBytesWrong)

/-- 'forkheadlaw2.WideLists': WHATEVER THE INPUT: true; the input reads as it did. -/
def wideListsSpec : ChangeSpec := { name := "wideLists", fn := fun _ => fun
  | [d] => { results := [.lit (.bool true)], args := [d] }
  | _ => none }
def wideListsRow : OpenClaim := { program := "ytpgpplpddjjchaadoor", sum := "8f6cb59310634dbca670cbdf45209aa7969cc6d0c4360644e63a1848123b8f98", func := "forkhead/forkheadlaw2.WideLists", spec := "wideLists", inPlace := ["math/bits.Add64", "internal/bytealg.IndexByteString", "internal/bytealg.IndexString"], named := ["math/bits.divideError", "math/bits.overflowError", "unicode/utf8.first", "unicode/utf8.acceptRanges", "internal/bytealg.MaxLen"], apart := false, laid := [("unicode/utf8.acceptRanges", laid_unicode_utf8_acceptRanges), ("unicode/utf8.first", laid_unicode_utf8_first)] }
def WideListsSaid : Prop := wideListsRow.holds Tryd.pinned (OpenSpec.ofChange wideListsSpec)

/-- ITS FALSE NEIGHBOUR: 'it returns false'. Refute it at one input. -/
def wideListsWrong : ChangeSpec := { name := "wideLists", fn := fun _ => fun
  | [d] => { results := [.lit (.bool false)], args := [d] }
  | _ => none }
def WideListsWrongFalsely : Prop := wideListsRow.holds Tryd.pinned (OpenSpec.ofChange wideListsWrong)

/-- 'forkheadlaw2.WideTexts': WHATEVER THE INPUT: true; the input reads as it did. -/
def wideTextsSpec : ChangeSpec := { name := "wideTexts", fn := fun _ => fun
  | [d1, d2] => { results := [.lit (.bool true)], args := [d1, d2] }
  | _ => none }
def wideTextsRow : OpenClaim := { program := "ytpgpplpddjjchaadoor", sum := "8f6cb59310634dbca670cbdf45209aa7969cc6d0c4360644e63a1848123b8f98", func := "forkhead/forkheadlaw2.WideTexts", spec := "wideTexts", inPlace := ["math/bits.Add64", "internal/bytealg.IndexByteString", "internal/bytealg.IndexString"], named := ["math/bits.divideError", "math/bits.overflowError", "unicode/utf8.first", "unicode/utf8.acceptRanges", "internal/bytealg.MaxLen"], apart := false, laid := [("unicode/utf8.acceptRanges", laid_unicode_utf8_acceptRanges), ("unicode/utf8.first", laid_unicode_utf8_first)] }
def WideTextsSaid : Prop := wideTextsRow.holds Tryd.pinned (OpenSpec.ofChange wideTextsSpec)

/-- ITS FALSE NEIGHBOUR: 'it returns false'. Refute it at one input. -/
def wideTextsWrong : ChangeSpec := { name := "wideTexts", fn := fun _ => fun
  | [d1, d2] => { results := [.lit (.bool false)], args := [d1, d2] }
  | _ => none }
def WideTextsWrongFalsely : Prop := wideTextsRow.holds Tryd.pinned (OpenSpec.ofChange wideTextsWrong)

/-- 'forkheadlaw2.WideRing': WHATEVER THE INPUT: true; the input reads as it did. -/
def wideRingSpec : ChangeSpec := { name := "wideRing", fn := fun _ => fun
  | [d1, d2, d3, d4] => { results := [.lit (.bool true)], args := [d1, d2, d3, d4] }
  | _ => none }
def wideRingRow : OpenClaim := { program := "ytpgpplpddjjchaadoor", sum := "8f6cb59310634dbca670cbdf45209aa7969cc6d0c4360644e63a1848123b8f98", func := "forkhead/forkheadlaw2.WideRing", spec := "wideRing", inPlace := ["math/bits.Add64", "internal/bytealg.IndexByteString", "internal/bytealg.IndexString", "math/bits.Sub64"], named := ["math/bits.divideError", "math/bits.overflowError", "unicode/utf8.first", "unicode/utf8.acceptRanges", "internal/bytealg.MaxLen"], apart := false, laid := [("unicode/utf8.acceptRanges", laid_unicode_utf8_acceptRanges), ("unicode/utf8.first", laid_unicode_utf8_first)] }
def WideRingSaid : Prop := wideRingRow.holds Tryd.pinned (OpenSpec.ofChange wideRingSpec)

/-- ITS FALSE NEIGHBOUR: 'it returns false'. Refute it at one input. -/
def wideRingWrong : ChangeSpec := { name := "wideRing", fn := fun _ => fun
  | [d1, d2, d3, d4] => { results := [.lit (.bool false)], args := [d1, d2, d3, d4] }
  | _ => none }
def WideRingWrongFalsely : Prop := wideRingRow.holds Tryd.pinned (OpenSpec.ofChange wideRingWrong)

/- THE SECOND FORM. 'bulk': how many values and letters a reading holds, each counted each time it is reached (what is shared counts as often as it is met; a slice's spare places count too). A statement '..UptoSaid' is the law's where the arguments, and the package variables that the reading takes, are together of bulk at most 1048576: NARROWER than '..Said'. Prove '..Said' where nothing that the law and all that it calls make is longer than what came in: it says more and counts as full. Else prove '..UptoSaid'. A law counts once. -/
mutual
def uptoBulk {H : Type} : DataW H → Nat
  | .lit (.string bytes) => bytes.length + 1
  | .lit _ => 1
  | .nil => 1
  | .ptr d => uptoBulk d + 1
  | .slice elems spare => uptoBulkAll elems + uptoBulkAll spare + 1
  | .agg parts => uptoBulkAll parts + 1
  | .iface _ d => uptoBulk d + 1
  | .map entries => uptoBulkEntries entries + 1
  | .held _ => 1
def uptoBulkAll {H : Type} : List (DataW H) → Nat
  | [] => 0
  | d :: r => uptoBulk d + uptoBulkAll r
def uptoBulkEntries {H : Type} : List (Lit × DataW H) → Nat
  | [] => 0
  | x :: r => uptoBulkEntry x + uptoBulkEntries r
def uptoBulkEntry {H : Type} : Lit × DataW H → Nat
  | (.string bytes, d) => bytes.length + uptoBulk d + 1
  | (_, d) => uptoBulk d + 1
 end
def uptoSmall : (H : Type) → List (DataW H) → Bool := fun _ ds => decide (uptoBulkAll ds ≤ 1048576)
def OpenSpec.upto (s : _root_.Go.ChangeSpec) : _root_.Go.OpenSpec := { _root_.Go.OpenSpec.ofChange s with cond := some uptoSmall }

/-- 'forkheadlaw2.WideArithmetic', WHERE WHAT IT READS IS OF BULK AT MOST 1048576: true; the input reads as it did. -/
def wideArithmeticUptoRow : OpenClaim := { program := "ytpgpplpddjjchaadoor", sum := "8f6cb59310634dbca670cbdf45209aa7969cc6d0c4360644e63a1848123b8f98", func := "forkhead/forkheadlaw2.WideArithmetic", spec := "wideArithmetic", inPlace := ["math/bits.Add64", "math/bits.Sub64", "internal/bytealg.IndexByteString", "internal/bytealg.IndexString"], named := ["math/bits.divideError", "math/bits.overflowError", "unicode/utf8.first", "unicode/utf8.acceptRanges", "internal/bytealg.MaxLen"], apart := false, laid := [("unicode/utf8.acceptRanges", laid_unicode_utf8_acceptRanges), ("unicode/utf8.first", laid_unicode_utf8_first)], narrowed := true }
def WideArithmeticUptoSaid : Prop := wideArithmeticUptoRow.holds Tryd.pinned (OpenSpec.upto wideArithmeticSpec)

/-- 'forkheadlaw2.WideSmall', WHERE WHAT IT READS IS OF BULK AT MOST 1048576: true; the input reads as it did. -/
def wideSmallUptoRow : OpenClaim := { program := "ytpgpplpddjjchaadoor", sum := "8f6cb59310634dbca670cbdf45209aa7969cc6d0c4360644e63a1848123b8f98", func := "forkhead/forkheadlaw2.WideSmall", spec := "wideSmall", inPlace := ["math/bits.Add64", "internal/bytealg.IndexByteString", "internal/bytealg.IndexString"], named := ["math/bits.divideError", "math/bits.overflowError", "unicode/utf8.first", "unicode/utf8.acceptRanges", "internal/bytealg.MaxLen"], apart := false, laid := [("unicode/utf8.acceptRanges", laid_unicode_utf8_acceptRanges), ("unicode/utf8.first", laid_unicode_utf8_first)], narrowed := true }
def WideSmallUptoSaid : Prop := wideSmallUptoRow.holds Tryd.pinned (OpenSpec.upto wideSmallSpec)

/-- 'forkheadlaw2.WideDivides', WHERE WHAT IT READS IS OF BULK AT MOST 1048576: true; the input reads as it did. -/
def wideDividesUptoRow : OpenClaim := { program := "ytpgpplpddjjchaadoor", sum := "8f6cb59310634dbca670cbdf45209aa7969cc6d0c4360644e63a1848123b8f98", func := "forkhead/forkheadlaw2.WideDivides", spec := "wideDivides", inPlace := ["math/bits.Add64", "internal/bytealg.IndexByteString", "internal/bytealg.IndexString"], named := ["math/bits.divideError", "math/bits.overflowError", "unicode/utf8.first", "unicode/utf8.acceptRanges", "internal/bytealg.MaxLen"], apart := false, laid := [("unicode/utf8.acceptRanges", laid_unicode_utf8_acceptRanges), ("unicode/utf8.first", laid_unicode_utf8_first)], narrowed := true }
def WideDividesUptoSaid : Prop := wideDividesUptoRow.holds Tryd.pinned (OpenSpec.upto wideDividesSpec)

/-- 'forkheadlaw2.WideBytes', WHERE WHAT IT READS IS OF BULK AT MOST 1048576: true; the input reads as it did. -/
def wideBytesUptoRow : OpenClaim := { program := "ytpgpplpddjjchaadoor", sum := "8f6cb59310634dbca670cbdf45209aa7969cc6d0c4360644e63a1848123b8f98", func := "forkhead/forkheadlaw2.WideBytes", spec := "wideBytes", inPlace := ["math/bits.Add64", "internal/bytealg.IndexByteString", "internal/bytealg.IndexString"], named := ["math/bits.divideError", "math/bits.overflowError", "unicode/utf8.first", "unicode/utf8.acceptRanges", "internal/bytealg.MaxLen"], apart := false, laid := [("unicode/utf8.acceptRanges", laid_unicode_utf8_acceptRanges), ("unicode/utf8.first", laid_unicode_utf8_first)], narrowed := true }
def WideBytesUptoSaid : Prop := wideBytesUptoRow.holds Tryd.pinned (OpenSpec.upto wideBytesSpec)

/-- 'forkheadlaw2.WideLists', WHERE WHAT IT READS IS OF BULK AT MOST 1048576: true; the input reads as it did. -/
def wideListsUptoRow : OpenClaim := { program := "ytpgpplpddjjchaadoor", sum := "8f6cb59310634dbca670cbdf45209aa7969cc6d0c4360644e63a1848123b8f98", func := "forkhead/forkheadlaw2.WideLists", spec := "wideLists", inPlace := ["math/bits.Add64", "internal/bytealg.IndexByteString", "internal/bytealg.IndexString"], named := ["math/bits.divideError", "math/bits.overflowError", "unicode/utf8.first", "unicode/utf8.acceptRanges", "internal/bytealg.MaxLen"], apart := false, laid := [("unicode/utf8.acceptRanges", laid_unicode_utf8_acceptRanges), ("unicode/utf8.first", laid_unicode_utf8_first)], narrowed := true }
def WideListsUptoSaid : Prop := wideListsUptoRow.holds Tryd.pinned (OpenSpec.upto wideListsSpec)

/-- 'forkheadlaw2.WideTexts', WHERE WHAT IT READS IS OF BULK AT MOST 1048576: true; the input reads as it did. -/
def wideTextsUptoRow : OpenClaim := { program := "ytpgpplpddjjchaadoor", sum := "8f6cb59310634dbca670cbdf45209aa7969cc6d0c4360644e63a1848123b8f98", func := "forkhead/forkheadlaw2.WideTexts", spec := "wideTexts", inPlace := ["math/bits.Add64", "internal/bytealg.IndexByteString", "internal/bytealg.IndexString"], named := ["math/bits.divideError", "math/bits.overflowError", "unicode/utf8.first", "unicode/utf8.acceptRanges", "internal/bytealg.MaxLen"], apart := false, laid := [("unicode/utf8.acceptRanges", laid_unicode_utf8_acceptRanges), ("unicode/utf8.first", laid_unicode_utf8_first)], narrowed := true }
def WideTextsUptoSaid : Prop := wideTextsUptoRow.holds Tryd.pinned (OpenSpec.upto wideTextsSpec)

/-- 'forkheadlaw2.WideRing', WHERE WHAT IT READS IS OF BULK AT MOST 1048576: true; the input reads as it did. -/
def wideRingUptoRow : OpenClaim := { program := "ytpgpplpddjjchaadoor", sum := "8f6cb59310634dbca670cbdf45209aa7969cc6d0c4360644e63a1848123b8f98", func := "forkhead/forkheadlaw2.WideRing", spec := "wideRing", inPlace := ["math/bits.Add64", "internal/bytealg.IndexByteString", "internal/bytealg.IndexString", "math/bits.Sub64"], named := ["math/bits.divideError", "math/bits.overflowError", "unicode/utf8.first", "unicode/utf8.acceptRanges", "internal/bytealg.MaxLen"], apart := false, laid := [("unicode/utf8.acceptRanges", laid_unicode_utf8_acceptRanges), ("unicode/utf8.first", laid_unicode_utf8_first)], narrowed := true }
def WideRingUptoSaid : Prop := wideRingUptoRow.holds Tryd.pinned (OpenSpec.upto wideRingSpec)

end Rows
end Go.Proofs.YtpgpplpddjjchaaDoor
