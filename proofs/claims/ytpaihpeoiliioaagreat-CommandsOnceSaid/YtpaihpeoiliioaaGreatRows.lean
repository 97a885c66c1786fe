/-
  No cell of these rows narrows 'for every input' (looked for: loops, veiled, ifaces, maps, wideKeys, modest, calm, conditions, laid).
  DERIVED. THE GIVEN ROWS OF THIS SEAT. 4 by the template 'for every input the law returns true; each argument reads behind the call as it read before'; 0 by the template 'total and deterministic' (their statements: YtpaihpeoiliioaaGreatTotals.lean).
  GIVEN WITH THE SEED: the statements are not yours to turn. If you find one false, say at which input.
  Laid BY PROGRAM, IN A SANDBOX (cutbox-rows.mjs): the forced cells as the released guide's own fill.sh prints them over the translation 728698ef16f629a5… (all of the seat's roots in one cut). By AI agents, Wed Nov 11 2026. No macro, syntax, notation, axiom, sorry.
-/
import Derived.Test.YtpaihpeoiliioaaGreatChecked
import GoSem.Claim
import GoSem.ClaimJoined
import GoSem.ClaimMapViews
import Derived.JoinedTies
import Derived.KernelRfl
namespace Go.Proofs.YtpaihpeoiliioaaGreat
/- THE CELL 'sum', in the pinned program and in every row, IS THE sha256 OF THE DUMP (.gsa) THAT YtpaihpeoiliioaaGreatProg.lean LOADS. Nothing in Lean hashes anything: it is a label: what it is worth is what the hold of that sum in a sandbox is worth. -/
noncomputable def Tryz.pinned : Pinned := { name := "ytpaihpeoiliioaagreat", sum := "728698ef16f629a5aabbd6500c38c0387418164782ca9972dd5c85f4e5326cfe", checked := Tryz.checked }
namespace Rows
def none {H : Type} : Left H := { results := [], args := [] }

/-- 'forkheadlaw21.ProtoarrayRefuses': WHATEVER THE INPUT: true; the input reads as it did. -/
def protoarrayRefusesSpec : ChangeSpec := { name := "protoarrayRefuses", fn := fun _ => fun
  | [d1, d2] => { results := [.lit (.bool true)], args := [d1, d2] }
  | _ => none }
def protoarrayRefusesRow : OpenClaim := { program := "ytpaihpeoiliioaagreat", sum := "728698ef16f629a5aabbd6500c38c0387418164782ca9972dd5c85f4e5326cfe", func := "forkhead/forkheadlaw21.ProtoarrayRefuses", spec := "protoarrayRefuses", inPlace := ["internal/bytealg.Compare", "math/bits.Add64"], unfollowed := true, recurses := true, named := ["math/bits.divideError", "math/bits.overflowError"], plainKeys := false, apart := false }
def ProtoarrayRefusesSaid : Prop := protoarrayRefusesRow.holds Tryz.pinned (OpenSpec.ofChange protoarrayRefusesSpec)

/-- ITS FALSE NEIGHBOUR: 'it returns false'. Refute it at one input. -/
def protoarrayRefusesWrong : ChangeSpec := { name := "protoarrayRefuses", fn := fun _ => fun
  | [d1, d2] => { results := [.lit (.bool false)], args := [d1, d2] }
  | _ => none }
def ProtoarrayRefusesWrongFalsely : Prop := protoarrayRefusesRow.holds Tryz.pinned (OpenSpec.ofChange protoarrayRefusesWrong)

/-- 'forkheadlaw29.CommandsExact': WHATEVER THE INPUT: true; the input reads as it did. -/
def commandsExactSpec : ChangeSpec := { name := "commandsExact", fn := fun _ => fun
  | [d1, d2] => { results := [.lit (.bool true)], args := [d1, d2] }
  | _ => none }
def commandsExactRow : OpenClaim := { program := "ytpaihpeoiliioaagreat", sum := "728698ef16f629a5aabbd6500c38c0387418164782ca9972dd5c85f4e5326cfe", func := "forkhead/forkheadlaw29.CommandsExact", spec := "commandsExact", inPlace := ["internal/bytealg.Compare"], unfollowed := true, recurses := true, named := ["math/bits.divideError", "math/bits.overflowError"], plainKeys := false, apart := false }
def CommandsExactSaid : Prop := commandsExactRow.holds Tryz.pinned (OpenSpec.ofChange commandsExactSpec)

/-- ITS FALSE NEIGHBOUR: 'it returns false'. Refute it at one input. -/
def commandsExactWrong : ChangeSpec := { name := "commandsExact", fn := fun _ => fun
  | [d1, d2] => { results := [.lit (.bool false)], args := [d1, d2] }
  | _ => none }
def CommandsExactWrongFalsely : Prop := commandsExactRow.holds Tryz.pinned (OpenSpec.ofChange commandsExactWrong)

/-- 'forkheadlaw29.CommandsSound': WHATEVER THE INPUT: true; the input reads as it did. -/
def commandsSoundSpec : ChangeSpec := { name := "commandsSound", fn := fun _ => fun
  | [d] => { results := [.lit (.bool true)], args := [d] }
  | _ => none }
def commandsSoundRow : OpenClaim := { program := "ytpaihpeoiliioaagreat", sum := "728698ef16f629a5aabbd6500c38c0387418164782ca9972dd5c85f4e5326cfe", func := "forkhead/forkheadlaw29.CommandsSound", spec := "commandsSound", inPlace := ["internal/bytealg.Compare"], unfollowed := true, recurses := true, named := ["math/bits.divideError", "math/bits.overflowError"], plainKeys := false, apart := false }
def CommandsSoundSaid : Prop := commandsSoundRow.holds Tryz.pinned (OpenSpec.ofChange commandsSoundSpec)

/-- ITS FALSE NEIGHBOUR: 'it returns false'. Refute it at one input. -/
def commandsSoundWrong : ChangeSpec := { name := "commandsSound", fn := fun _ => fun
  | [d] => { results := [.lit (.bool false)], args := [d] }
  | _ => none }
def CommandsSoundWrongFalsely : Prop := commandsSoundRow.holds Tryz.pinned (OpenSpec.ofChange commandsSoundWrong)

/-- 'forkheadlaw29.CommandsOnce': WHATEVER THE INPUT: true; the input reads as it did. -/
def commandsOnceSpec : ChangeSpec := { name := "commandsOnce", fn := fun _ => fun
  | [d1, d2] => { results := [.lit (.bool true)], args := [d1, d2] }
  | _ => none }
def commandsOnceRow : OpenClaim := { program := "ytpaihpeoiliioaagreat", sum := "728698ef16f629a5aabbd6500c38c0387418164782ca9972dd5c85f4e5326cfe", func := "forkhead/forkheadlaw29.CommandsOnce", spec := "commandsOnce", inPlace := ["internal/bytealg.Compare"], unfollowed := true, recurses := true, named := ["math/bits.divideError", "math/bits.overflowError"], plainKeys := false, apart := false }
def CommandsOnceSaid : Prop := commandsOnceRow.holds Tryz.pinned (OpenSpec.ofChange commandsOnceSpec)

/-- ITS FALSE NEIGHBOUR: 'it returns false'. Refute it at one input. -/
def commandsOnceWrong : ChangeSpec := { name := "commandsOnce", fn := fun _ => fun
  | [d1, d2] => { results := [.lit (.bool false)], args := [d1, d2] }
  | _ => none }
def CommandsOnceWrongFalsely : Prop := commandsOnceRow.holds Tryz.pinned (OpenSpec.ofChange commandsOnceWrong)

/- THE SECOND FORM. 'bulk': how many values and letters a reading holds, each counted each time it is reached (what is shared counts as often as it is met; a slice's spare places count too). A statement '..UptoSaid' is the law's where the arguments, and the package variables that the reading takes, are together of bulk at most 1048576: NARROWER than '..Said'. Prove '..Said' where nothing that the law and all that it calls make is longer than what came in: it says more and counts as full. Else prove '..UptoSaid'. A law counts once. -/
mutual
def uptoBulk {H : Type} : DataW H → Nat
  | .lit (.string bytes) => bytes.length + 1
  | .lit _ => 1
  | .nil => 1
  | .ptr d => uptoBulk d + 1
  | .slice elems spare => uptoBulkAll elems + uptoBulkAll spare + 1
  | .agg parts => uptoBulkAll parts + 1
  | .iface _ d => uptoBulk d + 1
  | .map entries => uptoBulkEntries entries + 1
  | .held _ => 1
def uptoBulkAll {H : Type} : List (DataW H) → Nat
  | [] => 0
  | d :: r => uptoBulk d + uptoBulkAll r
def uptoBulkEntries {H : Type} : List (Lit × DataW H) → Nat
  | [] => 0
  | x :: r => uptoBulkEntry x + uptoBulkEntries r
def uptoBulkEntry {H : Type} : Lit × DataW H → Nat
  | (.string bytes, d) => bytes.length + uptoBulk d + 1
  | (_, d) => uptoBulk d + 1
 end
def uptoSmall : (H : Type) → List (DataW H) → Bool := fun _ ds => decide (uptoBulkAll ds ≤ 1048576)
def OpenSpec.upto (s : _root_.Go.ChangeSpec) : _root_.Go.OpenSpec := { _root_.Go.OpenSpec.ofChange s with cond := some uptoSmall }

/-- 'forkheadlaw21.ProtoarrayRefuses', WHERE WHAT IT READS IS OF BULK AT MOST 1048576: true; the input reads as it did. -/
def protoarrayRefusesUptoRow : OpenClaim := { program := "ytpaihpeoiliioaagreat", sum := "728698ef16f629a5aabbd6500c38c0387418164782ca9972dd5c85f4e5326cfe", func := "forkhead/forkheadlaw21.ProtoarrayRefuses", spec := "protoarrayRefuses", inPlace := ["internal/bytealg.Compare", "math/bits.Add64"], unfollowed := true, recurses := true, named := ["math/bits.divideError", "math/bits.overflowError"], plainKeys := false, apart := false, narrowed := true }
def ProtoarrayRefusesUptoSaid : Prop := protoarrayRefusesUptoRow.holds Tryz.pinned (OpenSpec.upto protoarrayRefusesSpec)

/-- 'forkheadlaw29.CommandsExact', WHERE WHAT IT READS IS OF BULK AT MOST 1048576: true; the input reads as it did. -/
def commandsExactUptoRow : OpenClaim := { program := "ytpaihpeoiliioaagreat", sum := "728698ef16f629a5aabbd6500c38c0387418164782ca9972dd5c85f4e5326cfe", func := "forkhead/forkheadlaw29.CommandsExact", spec := "commandsExact", inPlace := ["internal/bytealg.Compare"], unfollowed := true, recurses := true, named := ["math/bits.divideError", "math/bits.overflowError"], plainKeys := false, apart := false, narrowed := true }
def CommandsExactUptoSaid : Prop := commandsExactUptoRow.holds Tryz.pinned (OpenSpec.upto commandsExactSpec)

/-- 'forkheadlaw29.CommandsSound', WHERE WHAT IT READS IS OF BULK AT MOST 1048576: true; the input reads as it did. -/
def commandsSoundUptoRow : OpenClaim := { program := "ytpaihpeoiliioaagreat", sum := "728698ef16f629a5aabbd6500c38c0387418164782ca9972dd5c85f4e5326cfe", func := "forkhead/forkheadlaw29.CommandsSound", spec := "commandsSound", inPlace := ["internal/bytealg.Compare"], unfollowed := true, recurses := true, named := ["math/bits.divideError", "math/bits.overflowError"], plainKeys := false, apart := false, narrowed := true }
def CommandsSoundUptoSaid : Prop := commandsSoundUptoRow.holds Tryz.pinned (OpenSpec.upto commandsSoundSpec)

/-- 'forkheadlaw29.CommandsOnce', WHERE WHAT IT READS IS OF BULK AT MOST 1048576: true; the input reads as it did. -/
def commandsOnceUptoRow : OpenClaim := { program := "ytpaihpeoiliioaagreat", sum := "728698ef16f629a5aabbd6500c38c0387418164782ca9972dd5c85f4e5326cfe", func := "forkhead/forkheadlaw29.CommandsOnce", spec := "commandsOnce", inPlace := ["internal/bytealg.Compare"], unfollowed := true, recurses := true, named := ["math/bits.divideError", "math/bits.overflowError"], plainKeys := false, apart := false, narrowed := true }
def CommandsOnceUptoSaid : Prop := commandsOnceUptoRow.holds Tryz.pinned (OpenSpec.upto commandsOnceSpec)

end Rows
end Go.Proofs.YtpaihpeoiliioaaGreat
