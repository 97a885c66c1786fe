/- Texts joined: what the walks of this claim stand on (part 46). -/
import Derived.Test.YtmgeheaneohldaaGreatJK45
set_option linter.all false
set_option maxRecDepth 20000
set_option maxHeartbeats 40000000
namespace Go.Proofs.YtmgeheaneohldaaGreat
open Go.RowKit Old
theorem Aj7:FldT Tryz.prog 54 0 0 49:=⟨_,_,Tryz.underlying54,rfl,rfl,rfl⟩
end Go.Proofs.YtmgeheaneohldaaGreat
