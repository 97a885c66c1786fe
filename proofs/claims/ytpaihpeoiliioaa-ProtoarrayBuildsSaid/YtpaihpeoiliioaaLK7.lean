/- Texts joined: what the walks of this claim stand on (part 7). -/
import Derived.Test.YtpaihpeoiliioaaLK6
set_option linter.all false
set_option maxRecDepth 20000
set_option maxHeartbeats 40000000
namespace Go.Proofs.Ytpaihpeoiliioaa
open Go.RowKit Old
theorem AnE{s:Sto}{a b:Cp}(h:canU s a b=false):canR s a b=.tuple #[.agg (fl (cpP cp0)).toArray,.agg (fl (cpP cp0)).toArray,.bool false]:=by unfold canR;rw[h];rfl
theorem AmV{s:Sto}{a b:Cp}(h:canU s a b=true):canR s a b=.tuple #[.agg (fl (cpP a)).toArray,.agg (fl (cpP b)).toArray,.bool true]:=by unfold canR;rw[h];rfl
end Go.Proofs.Ytpaihpeoiliioaa
