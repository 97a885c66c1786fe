/-
  DERIVED. GIVEN WITH THE SEED: THE CARDS: each row of YtpgpplpddjjchaaDoorRows.lean that lists a variable, with what it lists TIED to the program's text (the seventh form; the later family's looks); each row that meets fmt, with fmt's text TOLD by the authors' own Lean function (tested against real Go, not proved from fmt's source: count such statements apart). THE CARD IS WHAT COUNTS. Prove the row's statement (the work); the ties are given (YtpgpplpddjjchaaDoorTie.lean); close each card by the builder's one call (the guide's Derived/Test/ToyasCard.lean, 'card_holds'). Laid BY PROGRAM, IN A SANDBOX (cutbox-door.mjs). By AI agents, Wed Nov 11 2026. No macro, syntax, notation, axiom, sorry.
-/
import Derived.Test.YtpgpplpddjjchaaDoorRows
import GoSem.ClaimSeven
namespace Go.Proofs.YtpgpplpddjjchaaDoor
namespace Rows

/-- THE TIED CARD OF 'forkheadlaw2.WideArithmetic'. -/
def wideArithmeticCard : Claim7 := { stood := { row := wideArithmeticRow, standIns := [], harness := (true, "052b63f68545928f62cc1f45d0a3bcbaf47726bf2997655d3a949b0d635d2d4c"), looks := false }, kinds := [], alts := [], laidByText := true, laidKinds := [.data, .pinned], laidTests := true, laidLooks := .later }
def WideArithmeticCardSaid : Prop := Claim7.holds Tryd.pinned (.plain (OpenSpec.ofChange wideArithmeticSpec)) wideArithmeticCard

/-- THE TIED CARD OF 'forkheadlaw2.WideSmall'. -/
def wideSmallCard : Claim7 := { stood := { row := wideSmallRow, standIns := [], harness := (true, "052b63f68545928f62cc1f45d0a3bcbaf47726bf2997655d3a949b0d635d2d4c"), looks := false }, kinds := [], alts := [], laidByText := true, laidKinds := [.data, .pinned], laidTests := true, laidLooks := .later }
def WideSmallCardSaid : Prop := Claim7.holds Tryd.pinned (.plain (OpenSpec.ofChange wideSmallSpec)) wideSmallCard

/-- THE TIED CARD OF 'forkheadlaw2.WideDivides'. -/
def wideDividesCard : Claim7 := { stood := { row := wideDividesRow, standIns := [], harness := (true, "052b63f68545928f62cc1f45d0a3bcbaf47726bf2997655d3a949b0d635d2d4c"), looks := false }, kinds := [], alts := [], laidByText := true, laidKinds := [.data, .pinned], laidTests := true, laidLooks := .later }
def WideDividesCardSaid : Prop := Claim7.holds Tryd.pinned (.plain (OpenSpec.ofChange wideDividesSpec)) wideDividesCard

/-- THE TIED CARD OF 'forkheadlaw2.WideBytes'. -/
def wideBytesCard : Claim7 := { stood := { row := wideBytesRow, standIns := [], harness := (true, "052b63f68545928f62cc1f45d0a3bcbaf47726bf2997655d3a949b0d635d2d4c"), looks := false }, kinds := [], alts := [], laidByText := true, laidKinds := [.data, .pinned], laidTests := true, laidLooks := .later }
def WideBytesCardSaid : Prop := Claim7.holds Tryd.pinned (.plain (OpenSpec.ofChange wideBytesSpec)) wideBytesCard

/-- THE TIED CARD OF 'forkheadlaw2.WideLists'. -/
def wideListsCard : Claim7 := { stood := { row := wideListsRow, standIns := [], harness := (true, "052b63f68545928f62cc1f45d0a3bcbaf47726bf2997655d3a949b0d635d2d4c"), looks := false }, kinds := [], alts := [], laidByText := true, laidKinds := [.data, .pinned], laidTests := true, laidLooks := .later }
def WideListsCardSaid : Prop := Claim7.holds Tryd.pinned (.plain (OpenSpec.ofChange wideListsSpec)) wideListsCard

/-- THE TIED CARD OF 'forkheadlaw2.WideTexts'. -/
def wideTextsCard : Claim7 := { stood := { row := wideTextsRow, standIns := [], harness := (true, "052b63f68545928f62cc1f45d0a3bcbaf47726bf2997655d3a949b0d635d2d4c"), looks := false }, kinds := [], alts := [], laidByText := true, laidKinds := [.data, .pinned], laidTests := true, laidLooks := .later }
def WideTextsCardSaid : Prop := Claim7.holds Tryd.pinned (.plain (OpenSpec.ofChange wideTextsSpec)) wideTextsCard

/-- THE TIED CARD OF 'forkheadlaw2.WideRing'. -/
def wideRingCard : Claim7 := { stood := { row := wideRingRow, standIns := [], harness := (true, "052b63f68545928f62cc1f45d0a3bcbaf47726bf2997655d3a949b0d635d2d4c"), looks := false }, kinds := [], alts := [], laidByText := true, laidKinds := [.data, .pinned], laidTests := true, laidLooks := .later }
def WideRingCardSaid : Prop := Claim7.holds Tryd.pinned (.plain (OpenSpec.ofChange wideRingSpec)) wideRingCard

/-- THE SECOND FORM's CARD OF 'forkheadlaw2.WideArithmetic'. -/
def wideArithmeticUptoCard : Claim7 := { stood := { row := wideArithmeticUptoRow, standIns := [], harness := (true, "052b63f68545928f62cc1f45d0a3bcbaf47726bf2997655d3a949b0d635d2d4c"), looks := false }, kinds := [], alts := [], laidByText := true, laidKinds := [.data, .pinned], laidTests := true, laidLooks := .later }
def WideArithmeticUptoCardSaid : Prop := Claim7.holds Tryd.pinned (.plain (OpenSpec.upto wideArithmeticSpec)) wideArithmeticUptoCard

/-- THE SECOND FORM's CARD OF 'forkheadlaw2.WideSmall'. -/
def wideSmallUptoCard : Claim7 := { stood := { row := wideSmallUptoRow, standIns := [], harness := (true, "052b63f68545928f62cc1f45d0a3bcbaf47726bf2997655d3a949b0d635d2d4c"), looks := false }, kinds := [], alts := [], laidByText := true, laidKinds := [.data, .pinned], laidTests := true, laidLooks := .later }
def WideSmallUptoCardSaid : Prop := Claim7.holds Tryd.pinned (.plain (OpenSpec.upto wideSmallSpec)) wideSmallUptoCard

/-- THE SECOND FORM's CARD OF 'forkheadlaw2.WideDivides'. -/
def wideDividesUptoCard : Claim7 := { stood := { row := wideDividesUptoRow, standIns := [], harness := (true, "052b63f68545928f62cc1f45d0a3bcbaf47726bf2997655d3a949b0d635d2d4c"), looks := false }, kinds := [], alts := [], laidByText := true, laidKinds := [.data, .pinned], laidTests := true, laidLooks := .later }
def WideDividesUptoCardSaid : Prop := Claim7.holds Tryd.pinned (.plain (OpenSpec.upto wideDividesSpec)) wideDividesUptoCard

/-- THE SECOND FORM's CARD OF 'forkheadlaw2.WideBytes'. -/
def wideBytesUptoCard : Claim7 := { stood := { row := wideBytesUptoRow, standIns := [], harness := (true, "052b63f68545928f62cc1f45d0a3bcbaf47726bf2997655d3a949b0d635d2d4c"), looks := false }, kinds := [], alts := [], laidByText := true, laidKinds := [.data, .pinned], laidTests := true, laidLooks := .later }
def WideBytesUptoCardSaid : Prop := Claim7.holds Tryd.pinned (.plain (OpenSpec.upto wideBytesSpec)) wideBytesUptoCard

/-- THE SECOND FORM's CARD OF 'forkheadlaw2.WideLists'. -/
def wideListsUptoCard : Claim7 := { stood := { row := wideListsUptoRow, standIns := [], harness := (true, "052b63f68545928f62cc1f45d0a3bcbaf47726bf2997655d3a949b0d635d2d4c"), looks := false }, kinds := [], alts := [], laidByText := true, laidKinds := [.data, .pinned], laidTests := true, laidLooks := .later }
def WideListsUptoCardSaid : Prop := Claim7.holds Tryd.pinned (.plain (OpenSpec.upto wideListsSpec)) wideListsUptoCard

/-- THE SECOND FORM's CARD OF 'forkheadlaw2.WideTexts'. -/
def wideTextsUptoCard : Claim7 := { stood := { row := wideTextsUptoRow, standIns := [], harness := (true, "052b63f68545928f62cc1f45d0a3bcbaf47726bf2997655d3a949b0d635d2d4c"), looks := false }, kinds := [], alts := [], laidByText := true, laidKinds := [.data, .pinned], laidTests := true, laidLooks := .later }
def WideTextsUptoCardSaid : Prop := Claim7.holds Tryd.pinned (.plain (OpenSpec.upto wideTextsSpec)) wideTextsUptoCard

/-- THE SECOND FORM's CARD OF 'forkheadlaw2.WideRing'. -/
def wideRingUptoCard : Claim7 := { stood := { row := wideRingUptoRow, standIns := [], harness := (true, "052b63f68545928f62cc1f45d0a3bcbaf47726bf2997655d3a949b0d635d2d4c"), looks := false }, kinds := [], alts := [], laidByText := true, laidKinds := [.data, .pinned], laidTests := true, laidLooks := .later }
def WideRingUptoCardSaid : Prop := Claim7.holds Tryd.pinned (.plain (OpenSpec.upto wideRingSpec)) wideRingUptoCard
end Rows
end Go.Proofs.YtpgpplpddjjchaaDoor
