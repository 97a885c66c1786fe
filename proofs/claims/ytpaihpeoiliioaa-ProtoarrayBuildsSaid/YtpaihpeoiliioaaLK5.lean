/- Texts joined: what the walks of this claim stand on (part 5). -/
import Derived.Test.YtpaihpeoiliioaaLK4
set_option linter.all false
set_option maxRecDepth 20000
set_option maxHeartbeats 40000000
namespace Go.Proofs.Ytpaihpeoiliioaa
open Go.RowKit Old
def ChkP(Γ:Gam)(w:World)(a:Att)(s:Sto)(e:Ending)(w':World):Prop:=∃(ea:Bool) (er:Int),e=.returned (.tuple #[.bool ea,.int .i64 er])/\((er=0->VList a.l (s.bal.length:Int))/\er≠21)/\Ext Γ w Γ w'
structure Lt3(a b:Nat):Prop where
 i1:(a:Int)<(b:Int)
 i2:(a:Int)<=(b:Int)
 i3:((a:Int)==(b:Int))=false
 i4:((a:Int) != (b:Int))=true
 i5:((b:Int)==(a:Int))=false
 i6:((b:Int) != (a:Int))=true
 n1:a<b
 n2:a<=b
 m1:¬b<a
 m2:¬b<=a
 j1:¬(b:Int)<(a:Int)
 j2:¬(b:Int)<=(a:Int)
structure Eq3(a b:Nat):Prop where
 i1:((a:Int)==(b:Int))=true
 i2:((a:Int) != (b:Int))=false
 i5:((b:Int)==(a:Int))=true
 i6:((b:Int) != (a:Int))=false
 i3:(a:Int)<=(b:Int)
 i4:(b:Int)<=(a:Int)
 n1:a<=b
 n2:b<=a
 m1:¬a<b
 m2:¬b<a
 j1:¬(a:Int)<(b:Int)
 j2:¬(b:Int)<(a:Int)
theorem tri4(a b:Nat):Lt3 a b\/Eq3 a b\/Lt3 b a:=by
 rcases Nat.lt_trichotomy a b with h|h|h
 .exact .inl ⟨by omega,by omega,by simp;omega,by simp;omega,by simp;omega,by simp;omega,h,by omega,by omega,by omega,by omega,by omega⟩
 .subst h;exact .inr (.inl ⟨by simp,by simp,by simp,by simp,by omega,by omega,by omega,by omega,by omega,by omega,by omega,by omega⟩)
 .exact .inr (.inr ⟨by omega,by omega,by simp;omega,by simp;omega,by simp;omega,by simp;omega,h,by omega,by omega,by omega,by omega,by omega⟩)
theorem lt3{a b:Nat}(h:a<b):Lt3 a b:=by
 rcases tri4 a b with h1|h1|h1
 .exact h1
 .exact absurd h h1.m1
 .exact absurd h h1.m1
theorem Amh(z:Int):z<0\/∃n:Nat,z=(n:Int):=by
 by_cases h:z<0
 .exact .inl h
 .exact .inr ⟨z.toNat,by omega⟩
theorem AkX{N:List Nod}{r:Rt}(h:fndI N r<0):fndI N r = -1:=by
 rcases AaV (fun n:Nod=>decide (n.b.root=r)) N with⟨h1,_⟩|⟨k,hk,h1,_⟩
 .exact h1
 .unfold fndI at h;omega
theorem Am7(N:List Nod)(r:Rt):fndI N r = -1\/∃n:Nat,fndI N r=(n:Int):=by
 rcases Amh (fndI N r)with h|h
 .exact .inl (AkX h)
 .exact .inr h
theorem AnS{u:U}(h:u.n≠0):IntKind.u64.wrap ((u.n:Int)-1)=(((u.n-1:Nat)):Int):=by
 rw[AdW (by omega) (by have:=u.lt;omega)];omega
end Go.Proofs.Ytpaihpeoiliioaa
