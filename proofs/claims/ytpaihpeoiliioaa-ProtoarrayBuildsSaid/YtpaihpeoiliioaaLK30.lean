/- Texts joined: what the walks of this claim stand on (part 30). -/
import Derived.Test.YtpaihpeoiliioaaLK26
import Derived.Test.YtpaihpeoiliioaaLK29
set_option linter.all false
set_option maxRecDepth 20000
set_option maxHeartbeats 40000000
namespace Go.Proofs.Ytpaihpeoiliioaa
open Go.RowKit Old
abbrev vdL:List Nat:=[1,1,32]
theorem Alc:Try.prog.builtSlice 3 6 [(0,.int .i64 1),(1,.int .i64 1),(2,.int .i64 2),(3,.int .i64 2),(4,.int .i64 3),(5,.int .i64 4)]=some (fl [[.int .i64 1],[.int .i64 1],[.int .i64 2],[.int .i64 2],[.int .i64 3],[.int .i64 4]]).toArray:=by kernel_rfl
def VrdP(Γ:Gam)(w:World)(e:Ending)(w':World):Prop:=∃v:Vd,e=.returned (.agg (fl (vdP v)).toArray)/\Ext Γ w Γ w'
end Go.Proofs.Ytpaihpeoiliioaa
