/- Texts joined: what the walks of this claim stand on (part 8). -/
import Derived.Test.YtpaihpeoiliioaaGreatKK7
set_option linter.all false
set_option maxRecDepth 20000
set_option maxHeartbeats 40000000
namespace Go.Proofs.YtpaihpeoiliioaaGreat
open Go.RowKit Old
theorem ztCp:ZeroT Tryz.prog 37 (cpP cp0) [1,32]:=⟨fun w=>by kernel_rfl,AaC _⟩
def laterC(a j:Cp):Cp:=if a.e.n<j.e.n then j else a
def canU(s:Sto)(a b:Cp):Bool:=
 decide (0<=fndI s.nodes a.r)&&(decide (0<=fndI s.nodes b.r)&&(decide ((s.nodes.getD (fndI s.nodes a.r).toNat n0).st≠2)&&(decide ((s.nodes.getD (fndI s.nodes b.r).toNat n0).st≠2)&&(earB s (fndI s.nodes a.r).toNat a.e&&(earB s (fndI s.nodes b.r).toNat b.e &&
  (ancI s.nodes (fndI s.nodes b.r) (fndI s.nodes a.r)&&(decide (b.e.n<=a.e.n)&&(decide (a.e.n<=(epN s.now s.c.spe).n)&&decide (0<=idxI (fun t=>decide (t.c=a)) s.tabs)))))))))
def canR(s:Sto)(a b:Cp):Value:=if canU s a b=true then .tuple #[.agg (fl (cpP a)).toArray,.agg (fl (cpP b)).toArray,.bool true]else .tuple #[.agg (fl (cpP cp0)).toArray,.agg (fl (cpP cp0)).toArray,.bool false]
end Go.Proofs.YtpaihpeoiliioaaGreat
