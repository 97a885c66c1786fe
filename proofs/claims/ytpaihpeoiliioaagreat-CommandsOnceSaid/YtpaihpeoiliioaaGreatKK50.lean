/- Texts joined: what the walks of this claim stand on (part 50). -/
import Derived.Test.YtpaihpeoiliioaaGreatKK48
set_option linter.all false
set_option maxRecDepth 20000
set_option maxHeartbeats 40000000
namespace Go.Proofs.YtpaihpeoiliioaaGreat
open Go.RowKit Old
theorem Aqs:FldT Tryz.prog 54 0 0 49:=⟨_,_,Tryz.underlying54,rfl,rfl,rfl⟩
end Go.Proofs.YtpaihpeoiliioaaGreat
