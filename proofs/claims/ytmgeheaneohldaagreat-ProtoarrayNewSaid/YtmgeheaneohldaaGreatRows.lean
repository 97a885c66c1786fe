/-
  No cell of these rows narrows 'for every input' (looked for: loops, veiled, ifaces, maps, wideKeys, modest, calm, conditions, laid).
  DERIVED. THE GIVEN ROWS OF THIS SEAT. 10 by the template 'for every input the law returns true; each argument reads behind the call as it read before'; 0 by the template 'total and deterministic' (their statements: YtmgeheaneohldaaGreatTotals.lean).
  GIVEN WITH THE SEED: the statements are not yours to turn. If you find one false, say at which input.
  Laid BY PROGRAM, IN A SANDBOX (cutbox-rows.mjs): the forced cells as the released guide's own fill.sh prints them over the translation 8d02e2003244eb14… (all of the seat's roots in one cut). By AI agents, Wed Nov 11 2026. No macro, syntax, notation, axiom, sorry.
-/
import Derived.Test.YtmgeheaneohldaaGreatChecked
import GoSem.Claim
import GoSem.ClaimJoined
import GoSem.ClaimMapViews
import Derived.JoinedTies
import Derived.KernelRfl
namespace Go.Proofs.YtmgeheaneohldaaGreat
/- THE CELL 'sum', in the pinned program and in every row, IS THE sha256 OF THE DUMP (.gsa) THAT YtmgeheaneohldaaGreatProg.lean LOADS. Nothing in Lean hashes anything: it is a label: what it is worth is what the hold of that sum in a sandbox is worth. -/
noncomputable def Tryz.pinned : Pinned := { name := "ytmgeheaneohldaagreat", sum := "8d02e2003244eb14b316685b4aba3863f9ce9f171bd9ca60a19965528ab83971", checked := Tryz.checked }
namespace Rows
def none {H : Type} : Left H := { results := [], args := [] }

/-- 'forkheadlaw19.ViabilityExact': WHATEVER THE INPUT: true; the input reads as it did. -/
def viabilityExactSpec : ChangeSpec := { name := "viabilityExact", fn := fun _ => fun
  | [d1, d2] => { results := [.lit (.bool true)], args := [d1, d2] }
  | _ => none }
def viabilityExactRow : OpenClaim := { program := "ytmgeheaneohldaagreat", sum := "8d02e2003244eb14b316685b4aba3863f9ce9f171bd9ca60a19965528ab83971", func := "forkhead/forkheadlaw19.ViabilityExact", spec := "viabilityExact", recurses := true, plainKeys := false, apart := false }
def ViabilityExactSaid : Prop := viabilityExactRow.holds Tryz.pinned (OpenSpec.ofChange viabilityExactSpec)

/-- ITS FALSE NEIGHBOUR: 'it returns false'. Refute it at one input. -/
def viabilityExactWrong : ChangeSpec := { name := "viabilityExact", fn := fun _ => fun
  | [d1, d2] => { results := [.lit (.bool false)], args := [d1, d2] }
  | _ => none }
def ViabilityExactWrongFalsely : Prop := viabilityExactRow.holds Tryz.pinned (OpenSpec.ofChange viabilityExactWrong)

/-- 'forkheadlaw19.ViabilityUpward': WHATEVER THE INPUT: true; the input reads as it did. -/
def viabilityUpwardSpec : ChangeSpec := { name := "viabilityUpward", fn := fun _ => fun
  | [d] => { results := [.lit (.bool true)], args := [d] }
  | _ => none }
def viabilityUpwardRow : OpenClaim := { program := "ytmgeheaneohldaagreat", sum := "8d02e2003244eb14b316685b4aba3863f9ce9f171bd9ca60a19965528ab83971", func := "forkhead/forkheadlaw19.ViabilityUpward", spec := "viabilityUpward", recurses := true, plainKeys := false, apart := false }
def ViabilityUpwardSaid : Prop := viabilityUpwardRow.holds Tryz.pinned (OpenSpec.ofChange viabilityUpwardSpec)

/-- ITS FALSE NEIGHBOUR: 'it returns false'. Refute it at one input. -/
def viabilityUpwardWrong : ChangeSpec := { name := "viabilityUpward", fn := fun _ => fun
  | [d] => { results := [.lit (.bool false)], args := [d] }
  | _ => none }
def ViabilityUpwardWrongFalsely : Prop := viabilityUpwardRow.holds Tryz.pinned (OpenSpec.ofChange viabilityUpwardWrong)

/-- 'forkheadlaw19.ViabilityEpochs': WHATEVER THE INPUT: true; the input reads as it did. -/
def viabilityEpochsSpec : ChangeSpec := { name := "viabilityEpochs", fn := fun _ => fun
  | [d1, d2, d3] => { results := [.lit (.bool true)], args := [d1, d2, d3] }
  | _ => none }
def viabilityEpochsRow : OpenClaim := { program := "ytmgeheaneohldaagreat", sum := "8d02e2003244eb14b316685b4aba3863f9ce9f171bd9ca60a19965528ab83971", func := "forkhead/forkheadlaw19.ViabilityEpochs", spec := "viabilityEpochs", recurses := true, plainKeys := false, apart := false }
def ViabilityEpochsSaid : Prop := viabilityEpochsRow.holds Tryz.pinned (OpenSpec.ofChange viabilityEpochsSpec)

/-- ITS FALSE NEIGHBOUR: 'it returns false'. Refute it at one input. -/
def viabilityEpochsWrong : ChangeSpec := { name := "viabilityEpochs", fn := fun _ => fun
  | [d1, d2, d3] => { results := [.lit (.bool false)], args := [d1, d2, d3] }
  | _ => none }
def ViabilityEpochsWrongFalsely : Prop := viabilityEpochsRow.holds Tryz.pinned (OpenSpec.ofChange viabilityEpochsWrong)

/-- 'forkheadlaw20.HeadsExact': WHATEVER THE INPUT: true; the input reads as it did. -/
def headsExactSpec : ChangeSpec := { name := "headsExact", fn := fun _ => fun
  | [d1, d2] => { results := [.lit (.bool true)], args := [d1, d2] }
  | _ => none }
def headsExactRow : OpenClaim := { program := "ytmgeheaneohldaagreat", sum := "8d02e2003244eb14b316685b4aba3863f9ce9f171bd9ca60a19965528ab83971", func := "forkhead/forkheadlaw20.HeadsExact", spec := "headsExact", inPlace := ["internal/bytealg.Compare"], unfollowed := true, recurses := true, named := ["math/bits.divideError", "math/bits.overflowError"], plainKeys := false, apart := false }
def HeadsExactSaid : Prop := headsExactRow.holds Tryz.pinned (OpenSpec.ofChange headsExactSpec)

/-- ITS FALSE NEIGHBOUR: 'it returns false'. Refute it at one input. -/
def headsExactWrong : ChangeSpec := { name := "headsExact", fn := fun _ => fun
  | [d1, d2] => { results := [.lit (.bool false)], args := [d1, d2] }
  | _ => none }
def HeadsExactWrongFalsely : Prop := headsExactRow.holds Tryz.pinned (OpenSpec.ofChange headsExactWrong)

/-- 'forkheadlaw20.HeadsGreedy': WHATEVER THE INPUT: true; the input reads as it did. -/
def headsGreedySpec : ChangeSpec := { name := "headsGreedy", fn := fun _ => fun
  | [d] => { results := [.lit (.bool true)], args := [d] }
  | _ => none }
def headsGreedyRow : OpenClaim := { program := "ytmgeheaneohldaagreat", sum := "8d02e2003244eb14b316685b4aba3863f9ce9f171bd9ca60a19965528ab83971", func := "forkhead/forkheadlaw20.HeadsGreedy", spec := "headsGreedy", inPlace := ["internal/bytealg.Compare"], unfollowed := true, recurses := true, named := ["math/bits.divideError", "math/bits.overflowError"], plainKeys := false, apart := false }
def HeadsGreedySaid : Prop := headsGreedyRow.holds Tryz.pinned (OpenSpec.ofChange headsGreedySpec)

/-- ITS FALSE NEIGHBOUR: 'it returns false'. Refute it at one input. -/
def headsGreedyWrong : ChangeSpec := { name := "headsGreedy", fn := fun _ => fun
  | [d] => { results := [.lit (.bool false)], args := [d] }
  | _ => none }
def HeadsGreedyWrongFalsely : Prop := headsGreedyRow.holds Tryz.pinned (OpenSpec.ofChange headsGreedyWrong)

/-- 'forkheadlaw20.HeadsMajority': WHATEVER THE INPUT: true; the input reads as it did. -/
def headsMajoritySpec : ChangeSpec := { name := "headsMajority", fn := fun _ => fun
  | [d] => { results := [.lit (.bool true)], args := [d] }
  | _ => none }
def headsMajorityRow : OpenClaim := { program := "ytmgeheaneohldaagreat", sum := "8d02e2003244eb14b316685b4aba3863f9ce9f171bd9ca60a19965528ab83971", func := "forkhead/forkheadlaw20.HeadsMajority", spec := "headsMajority", inPlace := ["internal/bytealg.Compare"], unfollowed := true, recurses := true, named := ["math/bits.divideError", "math/bits.overflowError"], plainKeys := false, apart := false }
def HeadsMajoritySaid : Prop := headsMajorityRow.holds Tryz.pinned (OpenSpec.ofChange headsMajoritySpec)

/-- ITS FALSE NEIGHBOUR: 'it returns false'. Refute it at one input. -/
def headsMajorityWrong : ChangeSpec := { name := "headsMajority", fn := fun _ => fun
  | [d] => { results := [.lit (.bool false)], args := [d] }
  | _ => none }
def HeadsMajorityWrongFalsely : Prop := headsMajorityRow.holds Tryz.pinned (OpenSpec.ofChange headsMajorityWrong)

/-- 'forkheadlaw20.HeadsBounded': WHATEVER THE INPUT: true; the input reads as it did. -/
def headsBoundedSpec : ChangeSpec := { name := "headsBounded", fn := fun _ => fun
  | [d] => { results := [.lit (.bool true)], args := [d] }
  | _ => none }
def headsBoundedRow : OpenClaim := { program := "ytmgeheaneohldaagreat", sum := "8d02e2003244eb14b316685b4aba3863f9ce9f171bd9ca60a19965528ab83971", func := "forkhead/forkheadlaw20.HeadsBounded", spec := "headsBounded", inPlace := ["internal/bytealg.Compare"], unfollowed := true, recurses := true, named := ["math/bits.divideError", "math/bits.overflowError"], plainKeys := false, apart := false }
def HeadsBoundedSaid : Prop := headsBoundedRow.holds Tryz.pinned (OpenSpec.ofChange headsBoundedSpec)

/-- ITS FALSE NEIGHBOUR: 'it returns false'. Refute it at one input. -/
def headsBoundedWrong : ChangeSpec := { name := "headsBounded", fn := fun _ => fun
  | [d] => { results := [.lit (.bool false)], args := [d] }
  | _ => none }
def HeadsBoundedWrongFalsely : Prop := headsBoundedRow.holds Tryz.pinned (OpenSpec.ofChange headsBoundedWrong)

/-- 'forkheadlaw20.HeadsSwing': WHATEVER THE INPUT: true; the input reads as it did. -/
def headsSwingSpec : ChangeSpec := { name := "headsSwing", fn := fun _ => fun
  | [d1, d2] => { results := [.lit (.bool true)], args := [d1, d2] }
  | _ => none }
def headsSwingRow : OpenClaim := { program := "ytmgeheaneohldaagreat", sum := "8d02e2003244eb14b316685b4aba3863f9ce9f171bd9ca60a19965528ab83971", func := "forkhead/forkheadlaw20.HeadsSwing", spec := "headsSwing", inPlace := ["internal/bytealg.Compare"], unfollowed := true, recurses := true, named := ["math/bits.divideError", "math/bits.overflowError"], plainKeys := false, apart := false }
def HeadsSwingSaid : Prop := headsSwingRow.holds Tryz.pinned (OpenSpec.ofChange headsSwingSpec)

/-- ITS FALSE NEIGHBOUR: 'it returns false'. Refute it at one input. -/
def headsSwingWrong : ChangeSpec := { name := "headsSwing", fn := fun _ => fun
  | [d1, d2] => { results := [.lit (.bool false)], args := [d1, d2] }
  | _ => none }
def HeadsSwingWrongFalsely : Prop := headsSwingRow.holds Tryz.pinned (OpenSpec.ofChange headsSwingWrong)

/-- 'forkheadlaw21.ProtoarrayNew': WHATEVER THE INPUT: true; the input reads as it did. -/
def protoarrayNewSpec : ChangeSpec := { name := "protoarrayNew", fn := fun _ => fun
  | [d] => { results := [.lit (.bool true)], args := [d] }
  | _ => none }
def protoarrayNewRow : OpenClaim := { program := "ytmgeheaneohldaagreat", sum := "8d02e2003244eb14b316685b4aba3863f9ce9f171bd9ca60a19965528ab83971", func := "forkhead/forkheadlaw21.ProtoarrayNew", spec := "protoarrayNew", inPlace := ["internal/bytealg.Compare"], unfollowed := true, recurses := true, named := ["math/bits.divideError", "math/bits.overflowError"], plainKeys := false, apart := false }
def ProtoarrayNewSaid : Prop := protoarrayNewRow.holds Tryz.pinned (OpenSpec.ofChange protoarrayNewSpec)

/-- ITS FALSE NEIGHBOUR: 'it returns false'. Refute it at one input. -/
def protoarrayNewWrong : ChangeSpec := { name := "protoarrayNew", fn := fun _ => fun
  | [d] => { results := [.lit (.bool false)], args := [d] }
  | _ => none }
def ProtoarrayNewWrongFalsely : Prop := protoarrayNewRow.holds Tryz.pinned (OpenSpec.ofChange protoarrayNewWrong)

/-- 'forkheadlaw21.ProtoarrayDescends': WHATEVER THE INPUT: true; the input reads as it did. -/
def protoarrayDescendsSpec : ChangeSpec := { name := "protoarrayDescends", fn := fun _ => fun
  | [d] => { results := [.lit (.bool true)], args := [d] }
  | _ => none }
def protoarrayDescendsRow : OpenClaim := { program := "ytmgeheaneohldaagreat", sum := "8d02e2003244eb14b316685b4aba3863f9ce9f171bd9ca60a19965528ab83971", func := "forkhead/forkheadlaw21.ProtoarrayDescends", spec := "protoarrayDescends", inPlace := ["internal/bytealg.Compare"], unfollowed := true, recurses := true, named := ["math/bits.divideError", "math/bits.overflowError"], plainKeys := false, apart := false }
def ProtoarrayDescendsSaid : Prop := protoarrayDescendsRow.holds Tryz.pinned (OpenSpec.ofChange protoarrayDescendsSpec)

/-- ITS FALSE NEIGHBOUR: 'it returns false'. Refute it at one input. -/
def protoarrayDescendsWrong : ChangeSpec := { name := "protoarrayDescends", fn := fun _ => fun
  | [d] => { results := [.lit (.bool false)], args := [d] }
  | _ => none }
def ProtoarrayDescendsWrongFalsely : Prop := protoarrayDescendsRow.holds Tryz.pinned (OpenSpec.ofChange protoarrayDescendsWrong)

/- THE SECOND FORM. 'bulk': how many values and letters a reading holds, each counted each time it is reached (what is shared counts as often as it is met; a slice's spare places count too). A statement '..UptoSaid' is the law's where the arguments, and the package variables that the reading takes, are together of bulk at most 1048576: NARROWER than '..Said'. Prove '..Said' where nothing that the law and all that it calls make is longer than what came in: it says more and counts as full. Else prove '..UptoSaid'. A law counts once. -/
mutual
def uptoBulk {H : Type} : DataW H → Nat
  | .lit (.string bytes) => bytes.length + 1
  | .lit _ => 1
  | .nil => 1
  | .ptr d => uptoBulk d + 1
  | .slice elems spare => uptoBulkAll elems + uptoBulkAll spare + 1
  | .agg parts => uptoBulkAll parts + 1
  | .iface _ d => uptoBulk d + 1
  | .map entries => uptoBulkEntries entries + 1
  | .held _ => 1
def uptoBulkAll {H : Type} : List (DataW H) → Nat
  | [] => 0
  | d :: r => uptoBulk d + uptoBulkAll r
def uptoBulkEntries {H : Type} : List (Lit × DataW H) → Nat
  | [] => 0
  | x :: r => uptoBulkEntry x + uptoBulkEntries r
def uptoBulkEntry {H : Type} : Lit × DataW H → Nat
  | (.string bytes, d) => bytes.length + uptoBulk d + 1
  | (_, d) => uptoBulk d + 1
 end
def uptoSmall : (H : Type) → List (DataW H) → Bool := fun _ ds => decide (uptoBulkAll ds ≤ 1048576)
def OpenSpec.upto (s : _root_.Go.ChangeSpec) : _root_.Go.OpenSpec := { _root_.Go.OpenSpec.ofChange s with cond := some uptoSmall }

/-- 'forkheadlaw19.ViabilityExact', WHERE WHAT IT READS IS OF BULK AT MOST 1048576: true; the input reads as it did. -/
def viabilityExactUptoRow : OpenClaim := { program := "ytmgeheaneohldaagreat", sum := "8d02e2003244eb14b316685b4aba3863f9ce9f171bd9ca60a19965528ab83971", func := "forkhead/forkheadlaw19.ViabilityExact", spec := "viabilityExact", recurses := true, plainKeys := false, apart := false, narrowed := true }
def ViabilityExactUptoSaid : Prop := viabilityExactUptoRow.holds Tryz.pinned (OpenSpec.upto viabilityExactSpec)

/-- 'forkheadlaw19.ViabilityUpward', WHERE WHAT IT READS IS OF BULK AT MOST 1048576: true; the input reads as it did. -/
def viabilityUpwardUptoRow : OpenClaim := { program := "ytmgeheaneohldaagreat", sum := "8d02e2003244eb14b316685b4aba3863f9ce9f171bd9ca60a19965528ab83971", func := "forkhead/forkheadlaw19.ViabilityUpward", spec := "viabilityUpward", recurses := true, plainKeys := false, apart := false, narrowed := true }
def ViabilityUpwardUptoSaid : Prop := viabilityUpwardUptoRow.holds Tryz.pinned (OpenSpec.upto viabilityUpwardSpec)

/-- 'forkheadlaw19.ViabilityEpochs', WHERE WHAT IT READS IS OF BULK AT MOST 1048576: true; the input reads as it did. -/
def viabilityEpochsUptoRow : OpenClaim := { program := "ytmgeheaneohldaagreat", sum := "8d02e2003244eb14b316685b4aba3863f9ce9f171bd9ca60a19965528ab83971", func := "forkhead/forkheadlaw19.ViabilityEpochs", spec := "viabilityEpochs", recurses := true, plainKeys := false, apart := false, narrowed := true }
def ViabilityEpochsUptoSaid : Prop := viabilityEpochsUptoRow.holds Tryz.pinned (OpenSpec.upto viabilityEpochsSpec)

/-- 'forkheadlaw20.HeadsExact', WHERE WHAT IT READS IS OF BULK AT MOST 1048576: true; the input reads as it did. -/
def headsExactUptoRow : OpenClaim := { program := "ytmgeheaneohldaagreat", sum := "8d02e2003244eb14b316685b4aba3863f9ce9f171bd9ca60a19965528ab83971", func := "forkhead/forkheadlaw20.HeadsExact", spec := "headsExact", inPlace := ["internal/bytealg.Compare"], unfollowed := true, recurses := true, named := ["math/bits.divideError", "math/bits.overflowError"], plainKeys := false, apart := false, narrowed := true }
def HeadsExactUptoSaid : Prop := headsExactUptoRow.holds Tryz.pinned (OpenSpec.upto headsExactSpec)

/-- 'forkheadlaw20.HeadsGreedy', WHERE WHAT IT READS IS OF BULK AT MOST 1048576: true; the input reads as it did. -/
def headsGreedyUptoRow : OpenClaim := { program := "ytmgeheaneohldaagreat", sum := "8d02e2003244eb14b316685b4aba3863f9ce9f171bd9ca60a19965528ab83971", func := "forkhead/forkheadlaw20.HeadsGreedy", spec := "headsGreedy", inPlace := ["internal/bytealg.Compare"], unfollowed := true, recurses := true, named := ["math/bits.divideError", "math/bits.overflowError"], plainKeys := false, apart := false, narrowed := true }
def HeadsGreedyUptoSaid : Prop := headsGreedyUptoRow.holds Tryz.pinned (OpenSpec.upto headsGreedySpec)

/-- 'forkheadlaw20.HeadsMajority', WHERE WHAT IT READS IS OF BULK AT MOST 1048576: true; the input reads as it did. -/
def headsMajorityUptoRow : OpenClaim := { program := "ytmgeheaneohldaagreat", sum := "8d02e2003244eb14b316685b4aba3863f9ce9f171bd9ca60a19965528ab83971", func := "forkhead/forkheadlaw20.HeadsMajority", spec := "headsMajority", inPlace := ["internal/bytealg.Compare"], unfollowed := true, recurses := true, named := ["math/bits.divideError", "math/bits.overflowError"], plainKeys := false, apart := false, narrowed := true }
def HeadsMajorityUptoSaid : Prop := headsMajorityUptoRow.holds Tryz.pinned (OpenSpec.upto headsMajoritySpec)

/-- 'forkheadlaw20.HeadsBounded', WHERE WHAT IT READS IS OF BULK AT MOST 1048576: true; the input reads as it did. -/
def headsBoundedUptoRow : OpenClaim := { program := "ytmgeheaneohldaagreat", sum := "8d02e2003244eb14b316685b4aba3863f9ce9f171bd9ca60a19965528ab83971", func := "forkhead/forkheadlaw20.HeadsBounded", spec := "headsBounded", inPlace := ["internal/bytealg.Compare"], unfollowed := true, recurses := true, named := ["math/bits.divideError", "math/bits.overflowError"], plainKeys := false, apart := false, narrowed := true }
def HeadsBoundedUptoSaid : Prop := headsBoundedUptoRow.holds Tryz.pinned (OpenSpec.upto headsBoundedSpec)

/-- 'forkheadlaw20.HeadsSwing', WHERE WHAT IT READS IS OF BULK AT MOST 1048576: true; the input reads as it did. -/
def headsSwingUptoRow : OpenClaim := { program := "ytmgeheaneohldaagreat", sum := "8d02e2003244eb14b316685b4aba3863f9ce9f171bd9ca60a19965528ab83971", func := "forkhead/forkheadlaw20.HeadsSwing", spec := "headsSwing", inPlace := ["internal/bytealg.Compare"], unfollowed := true, recurses := true, named := ["math/bits.divideError", "math/bits.overflowError"], plainKeys := false, apart := false, narrowed := true }
def HeadsSwingUptoSaid : Prop := headsSwingUptoRow.holds Tryz.pinned (OpenSpec.upto headsSwingSpec)

/-- 'forkheadlaw21.ProtoarrayNew', WHERE WHAT IT READS IS OF BULK AT MOST 1048576: true; the input reads as it did. -/
def protoarrayNewUptoRow : OpenClaim := { program := "ytmgeheaneohldaagreat", sum := "8d02e2003244eb14b316685b4aba3863f9ce9f171bd9ca60a19965528ab83971", func := "forkhead/forkheadlaw21.ProtoarrayNew", spec := "protoarrayNew", inPlace := ["internal/bytealg.Compare"], unfollowed := true, recurses := true, named := ["math/bits.divideError", "math/bits.overflowError"], plainKeys := false, apart := false, narrowed := true }
def ProtoarrayNewUptoSaid : Prop := protoarrayNewUptoRow.holds Tryz.pinned (OpenSpec.upto protoarrayNewSpec)

/-- 'forkheadlaw21.ProtoarrayDescends', WHERE WHAT IT READS IS OF BULK AT MOST 1048576: true; the input reads as it did. -/
def protoarrayDescendsUptoRow : OpenClaim := { program := "ytmgeheaneohldaagreat", sum := "8d02e2003244eb14b316685b4aba3863f9ce9f171bd9ca60a19965528ab83971", func := "forkhead/forkheadlaw21.ProtoarrayDescends", spec := "protoarrayDescends", inPlace := ["internal/bytealg.Compare"], unfollowed := true, recurses := true, named := ["math/bits.divideError", "math/bits.overflowError"], plainKeys := false, apart := false, narrowed := true }
def ProtoarrayDescendsUptoSaid : Prop := protoarrayDescendsUptoRow.holds Tryz.pinned (OpenSpec.upto protoarrayDescendsSpec)

end Rows
end Go.Proofs.YtmgeheaneohldaaGreat
