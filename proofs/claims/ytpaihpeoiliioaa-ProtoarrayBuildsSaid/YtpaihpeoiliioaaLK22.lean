/- Texts joined: what the walks of this claim stand on (part 22). -/
import Derived.Test.YtpaihpeoiliioaaLK4
set_option linter.all false
set_option maxRecDepth 20000
set_option maxHeartbeats 40000000
namespace Go.Proofs.Ytpaihpeoiliioaa
open Go.RowKit Old
def puP(p:Cp × Cp):List (List Value):=[[.int .u64 (p.1.e.n:Int)],rc p.1.r,[.int .u64 (p.2.e.n:Int)],rc p.2.r]
abbrev puL:List Nat:=[1,32,1,32]
theorem AkF(p:Cp × Cp):(puP p).map List.length=puL:=by simp[puP,AaU]
theorem Anc(p:Cp × Cp):One (fl (puP p)):=One.cons (AbE _ _) (One.cons (Aaj _) (One.cons (AbE _ _) (Aaj _)))
theorem rtPu:RowT Try.prog 46 66:=⟨⟨_,Try.underlying46,rfl⟩,by kernel_rfl⟩
theorem ztPu:ZeroT Try.prog 46 (puP (cp0,cp0)) puL:=⟨fun w=>by kernel_rfl,AkF _⟩
theorem Agl(p:Cp × Cp):List.take 4 (puP p)=puP p:=rfl
def pendS(s:Bool × (Cp × Cp))(n:Nod):Bool × (Cp × Cp):=if n.st=2 then s else(true,(if s.1=false\/s.2.1.e.n<n.b.pj.e.n then n.b.pj else s.2.1),(if s.1=false\/s.2.2.e.n<n.b.pf.e.n then n.b.pf else s.2.2))
def pendTo(N:List Nod)(k:Nat):Bool × (Cp × Cp):=(N.take k).foldl pendS (false,(cp0,cp0))
def Sto.pend(s:Sto):Cp × Cp:=(s.nodes.foldl pendS (false,(cp0,cp0))).2
end Go.Proofs.Ytpaihpeoiliioaa
