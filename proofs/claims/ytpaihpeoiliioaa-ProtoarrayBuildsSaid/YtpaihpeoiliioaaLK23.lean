/- Texts joined: what the walks of this claim stand on (part 23). -/
import Derived.Test.YtpaihpeoiliioaaLK8
set_option linter.all false
set_option maxRecDepth 20000
set_option maxHeartbeats 40000000
namespace Go.Proofs.Ytpaihpeoiliioaa
open Go.RowKit Old
def LatP(Γ:Gam)(w:World)(z:Zst)(r:Rq)(e:Ending)(w':World):Prop:=∃(z':Zst) (x':Zls) (Γ':Gam),e=.returned (.agg (fl (zsP z' x')).toArray)/\ZsG Γ' x' z'/\z'.s=z.s/\z'.reqs=z.reqs/\z'.rets.length<=z.rets.length+1/\(∀q∈z'.rets,q∈z.rets\/q.tries=r.tries+1)/\Ext Γ w Γ' w'
theorem LatP.same{Γ:Gam}{w w':World}{z:Zst}{r:Rq}{x:Zls}(h:ZsG Γ x z)(hx:Ext Γ w Γ w')(b:Bool):LatP Γ w z r (.returned (.agg (fl (zsP {z with over:=b} x)).toArray)) w':=
 ⟨{z with over:=b},x,Γ,rfl,⟨h.s,h.reqs,h.rets⟩,rfl,rfl,Nat.le_succ _,fun q hq=>.inl hq,hx⟩
theorem Amj{L:List Rq}{q:Nat}(h1:q+1<L.length){P:Rq->Prop}(h:∀y∈L,P y):∀y∈(L.set (q+1) (L[q]'(by omega))).set q (L[q+1]'h1),P y:=fun y hy=>by
 rcases List.mem_or_eq_of_mem_set hy with hy|rfl
 .rcases List.mem_or_eq_of_mem_set hy with hy|rfl
  .exact h y hy
  .exact h _ (List.getElem_mem _)
 .exact h _ (List.getElem_mem _)
end Go.Proofs.Ytpaihpeoiliioaa
