/- Roots: equality, zero. -/
import Derived.Test.YtekikfdlnkcenaaRows
import Derived.Test.YtekikfdlnkcenaaCore
import Derived.WalkLawsBesides
import Derived.Outline
import Derived.Handy
import Derived.Lib.BytesEntry
import Derived.Lib.Bytealg
import Derived.Laws.Externs
import Derived.Deep.QuietTactic
import Derived.BigQuiet
import Derived.Test.YtekikfdlnkcenaaEq
namespace Go.Proofs.Ytekikfdlnkcenaa
open Go.RowKit

/-- zero, as a root -/
def zroot : List Int := List.replicate 32 0
theorem eqRoot : EqT Try.prog 2 33 (List.replicate 32 [Value.int .u8 0]).flatten :=
  EqT.array (EqT.int Try.underlying5 (by kernel_rfl)) Try.underlying33 (by kernel_rfl) (info_of_underlying Try.underlying5)
theorem fits_root {l : List Int} (h : l.length = 32) : Fits (List.replicate 32 [Value.int .u8 0]).flatten (ints .u8 l) := Fits.ints h
theorem root_same {a b : List Int} (la : a.length = 32) (lb : b.length = 32) (w : World) :
    (Op.equalIn 10000 33 (.agg (ints .u8 a).toArray) (.agg (ints .u8 b).toArray)).run Try.prog w = .ok (decide (a = b)) w :=
  eqRoot.same (by omega) (agg_of_array Try.underlying33) (size_of_underlying Try.underlying33) (fits_root la) (fits_root lb) (by simp [ints, la]) (by simp [ints, lb]) (by simp [ints_inj]) w
theorem zroot_lit : #[Value.int .u8 0, Value.int .u8 0, Value.int .u8 0, Value.int .u8 0, Value.int .u8 0, Value.int .u8 0, Value.int .u8 0, Value.int .u8 0, Value.int .u8 0, Value.int .u8 0, Value.int .u8 0, Value.int .u8 0, Value.int .u8 0, Value.int .u8 0, Value.int .u8 0, Value.int .u8 0, Value.int .u8 0, Value.int .u8 0, Value.int .u8 0, Value.int .u8 0, Value.int .u8 0, Value.int .u8 0, Value.int .u8 0, Value.int .u8 0, Value.int .u8 0, Value.int .u8 0, Value.int .u8 0, Value.int .u8 0, Value.int .u8 0, Value.int .u8 0, Value.int .u8 0, Value.int .u8 0] = (ints .u8 zroot).toArray := rfl
theorem zroot_fit : Fit .u8 zroot := by unfold Fit zroot; decide
end Go.Proofs.Ytekikfdlnkcenaa
