/- Texts joined: what the walks of this claim stand on (part 28). -/
import Derived.Test.YtpaihpeoiliioaaLK26
set_option linter.all false
set_option maxRecDepth 20000
set_option maxHeartbeats 40000000
namespace Go.Proofs.Ytpaihpeoiliioaa
open Go.RowKit Old
theorem AnX(k:Nat)(d:Int)(m:Nat)(hd:d=(m:Int)):∃q:Nat,(k:Int) / d=(q:Int)/\q<=k:=⟨k / m,by subst hd;simp,Nat.div_le_self _ _⟩
abbrev atL:List Nat:=[1,32,1,32,1]
theorem stAt:StrT Try.prog 149 [(0,1),(1,32),(33,33),(66,1)] (atP at0 sl0) atL:=Aa3 Try.underlying149 (by kernel_rfl) (by kernel_rfl) (Aey _ _)
theorem ztAt:ZeroT Try.prog 149 (atP at0 sl0) atL:=⟨fun w=>by kernel_rfl,Aey _ _⟩
theorem AjQ(sl:U)(r:Rt)(A:Option Addr)(n c:Nat):Try.prog.built 149 [(0,.int .u64 (sl.n:Int)),(1,.agg (rc r).toArray),(3,.slice A n c)]=some (fl (atP ⟨sl,r,cp0,[]⟩ ⟨A,n,c⟩)).toArray:=by
 rw[stAt.eq]
 refine AaD (Q:=[[.int .u64 (sl.n:Int)]]) stAt.len rfl rfl rfl rfl rfl fun hl=>?_
 refine AaD (Q:=[rc r]) hl rfl rfl rfl (lenR r) rfl fun hl=>?_
 refine AaD (Q:=[[.slice A n c]]) hl rfl rfl rfl rfl rfl fun hl=>?_
 rfl
theorem AmE{C:World->Prop}{K:Act->Prop}{o:Oper}{a:Act}{parts:Array (Nat × Operand)}(sl:U)(r:Rt)(A:Option Addr)(n c:Nat)(ho:o.op=.build 149 parts)
  (hps:parts.toList.map (fun x=>(x.1,a.eval x.2)) = [(0,.int .u64 (sl.n:Int)),(1,.agg (rc r).toArray),(3,.slice A n c)])
  (h:K (a.put o.dst (.agg (fl (atP ⟨sl,r,cp0,[]⟩ ⟨A,n,c⟩)).toArray))):o.quiet Try.prog a C K:=AaJ 149 parts ho _ _ hps (AjQ sl r A n c) h
def AttB(Γ:Gam)(w:World)(e:Ending)(w':World):Prop:=∃(a:Att) (sl:Sl) (Γ':Gam),e=.returned (.agg (fl (atP a sl)).toArray)/\AtG Γ' a sl/\a.l.length<=100/\Ext Γ w Γ' w'
end Go.Proofs.Ytpaihpeoiliioaa
