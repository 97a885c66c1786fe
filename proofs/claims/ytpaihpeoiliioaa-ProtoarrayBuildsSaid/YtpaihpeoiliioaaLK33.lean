/- Texts joined: what the walks of this claim stand on (part 33). -/
import Derived.Test.YtpaihpeoiliioaaLK32
set_option linter.all false
set_option maxRecDepth 20000
set_option maxHeartbeats 40000000
namespace Go.Proofs.Ytpaihpeoiliioaa
open Go.RowKit Old
theorem Aix(c:Cf)(bal:List U):kids (newS c bal).nodes 0 = []:=rfl
theorem Agt(c:Cf)(bal:List U)(W:List U)(L:List Bool):bestI (newS c bal).nodes W L 0 = -1:=by
 unfold bestI;rw[Aix];rfl
end Go.Proofs.Ytpaihpeoiliioaa
