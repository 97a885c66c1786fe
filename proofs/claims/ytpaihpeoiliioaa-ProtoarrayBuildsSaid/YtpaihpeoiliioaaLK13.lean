/- Texts joined: what the walks of this claim stand on (part 13). -/
import Derived.Test.YtpaihpeoiliioaaLK12
set_option linter.all false
set_option maxRecDepth 20000
set_option maxHeartbeats 40000000
namespace Go.Proofs.Ytpaihpeoiliioaa
open Go.RowKit Old
def kRt:List Value:=(List.replicate 32 [Value.int .u8 0]).flatten
def kCm:List Value:=kRt++(kRt++kRt)
theorem Fits.app2:∀{K l K' l':List Value},Fits K l->K.length=l.length->Fits K' l'->Fits (K++K') (l++l')
 |[],[],_,_,_,_,h=>h
 |[],_::_,_,_,_,h,_=>by simp at h
 |_::_,[],_,_,_,h,_=>by simp at h
 |k::K,v::l,K',l',h1,h2,h3=>⟨h1.1,Fits.app2 (K:=K) (l:=l) h1.2 (by simpa using h2) h3⟩
theorem AnD(c:Cm):(fl (cmP c)).length=96:=AaX (AiN c)
theorem Am9(c:Cm):Fits kCm (fl (cmP c)):=by
 show Fits (kRt++(kRt++kRt)) (rc c.head++(rc c.safe++rc c.fin))
 have hk:∀r:Rt,kRt.length=(rc r).length:=fun r=>by rw[AaU];rfl
 exact Fits.app2 (AbB c.head.len) (hk _) (Fits.app2 (AbB c.safe.len) (hk _) (AbB c.fin.len))
theorem Anl{a b:Cm}:fl (cmP a)=fl (cmP b)↔a=b:=by
 refine⟨fun h=>?_,fun h=>h▸rfl⟩
 have h':rc a.head++(rc a.safe++rc a.fin)=rc b.head++(rc b.safe++rc b.fin):=h
 obtain⟨h1,h2⟩:=List.append_inj h' (by rw[AaU,AaU])
 obtain⟨h3,h4⟩:=List.append_inj h2 (by rw[AaU,AaU])
 cases a;cases b
 simp only[Adb]at h1 h3 h4
 simp[h1,h3,h4]
abbrev cmx(c:Cm):List Value:=fl (cmP c)
def emtZ(z:Zst):Zst:=if z.sent=true/\z.last=z.s.cmd then z else {z with sent:=true,last:=z.s.cmd}
def emtL(z:Zst):List Cm:=if z.sent=true/\z.last=z.s.cmd then []else [z.s.cmd]
def EmtP(Γ:Gam)(w:World)(z:Zst)(x:Zls)(e:Ending)(w':World):Prop:=∃(A:Option Addr) (c:Nat) (Γ':Gam),e=.returned (.tuple #[.agg (fl (zsP (emtZ z) x)).toArray,.slice A (emtL z).length c])/\CapOk A (emtL z).length c/\SlG Γ' A (emtL z).length ((emtL z).flatMap cmx)/\Ext Γ w Γ' w'
end Go.Proofs.Ytpaihpeoiliioaa
