/- Texts joined: what the walks of this claim stand on (part 27). -/
import Derived.Test.YtpaihpeoiliioaaLK26
set_option linter.all false
set_option maxRecDepth 20000
set_option maxHeartbeats 40000000
namespace Go.Proofs.Ytpaihpeoiliioaa
open Go.RowKit Old
theorem AnW(k:Nat)(d:Int)(m:Nat)(hd:d=(m:Int)):∃q:Nat,(k:Int) / d=(q:Int)/\q<=k:=⟨k / m,by subst hd;simp,Nat.div_le_self _ _⟩
theorem Akf(n:Nod):List.take 4 (noP n)=cpP n.b.pj++cpP n.b.pf:=rfl
theorem Akg(b:Blk):List.take 4 (blP b)=cpP b.pj++cpP b.pf:=rfl
def blk1(sl:U)(r pr:Rt)(tb:Bool)(j f pj pf:Cp):Blk:={b0 with slot:=sl,root:=r,parent:=pr,timely:=tb,just:=j,fin:=f,pj:=pj,pf:=pf}
theorem AjP(sl:U)(r pr:Rt)(tb:Bool)(j f pj pf:Cp):Try.prog.built 50 [(1,.int .u64 (sl.n:Int)),(2,.agg (rc r).toArray),(3,.agg (rc pr).toArray),(9,.bool tb),(7,.agg (fl (cpP j)).toArray),(8,.agg (fl (cpP f)).toArray),(0,.agg (fl (cpP pj++cpP pf)).toArray)]=some (fl (blP (blk1 sl r pr tb j f pj pf))).toArray:=by
 rw[stBl.eq]
 refine AaD (Q:=[[.int .u64 (sl.n:Int)]]) stBl.len rfl rfl rfl rfl rfl fun hl=>?_
 refine AaD (Q:=[rc r]) hl rfl rfl rfl (lenR r) rfl fun hl=>?_
 refine AaD (Q:=[rc pr]) hl rfl rfl rfl (lenR pr) rfl fun hl=>?_
 refine AaD (Q:=[[.bool tb]]) hl rfl rfl rfl rfl rfl fun hl=>?_
 refine AaD (Q:=cpP j) hl rfl rfl rfl (AaO j) rfl fun hl=>?_
 refine AaD (Q:=cpP f) hl rfl rfl rfl (AaO f) rfl fun hl=>?_
 refine AaD (Q:=cpP pj++cpP pf) hl rfl rfl rfl (by simp[cpP,AaU]) rfl fun hl=>?_
 rfl
theorem AmD{C:World->Prop}{K:Act->Prop}{o:Oper}{a:Act}{parts:Array (Nat × Operand)}(sl:U)(r pr:Rt){tb:Bool}(j f pj pf:Cp)(ho:o.op=.build 50 parts)
  (hps:parts.toList.map (fun x=>(x.1,a.eval x.2)) = [(1,.int .u64 (sl.n:Int)),(2,.agg (rc r).toArray),(3,.agg (rc pr).toArray),(9,.bool tb),(7,.agg (fl (cpP j)).toArray),(8,.agg (fl (cpP f)).toArray),(0,.agg (fl (cpP pj++cpP pf)).toArray)])
  (h:K (a.put o.dst (.agg (fl (blP (blk1 sl r pr tb j f pj pf))).toArray))):o.quiet Try.prog a C K:=AaJ 50 parts ho _ _ hps (AjP sl r pr tb j f pj pf) h
def w99:Wd:=wd4 99 0 0 0 (by intro y hy;simp at hy;omega)
def BloP(Γ:Gam)(w:World)(e:Ending)(w':World):Prop:=∃b:Blk,e=.returned (.agg (blx b).toArray)/\Ext Γ w Γ w'
abbrev wdc(w:Wd):List Value:=wc w
end Go.Proofs.Ytpaihpeoiliioaa
