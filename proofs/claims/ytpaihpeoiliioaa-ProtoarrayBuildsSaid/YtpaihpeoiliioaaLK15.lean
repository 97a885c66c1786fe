/- Texts joined: what the walks of this claim stand on (part 15). -/
import Derived.Test.YtpaihpeoiliioaaLK14
set_option linter.all false
set_option maxRecDepth 20000
set_option maxHeartbeats 40000000
namespace Go.Proofs.Ytpaihpeoiliioaa
open Go.RowKit Old
section
variable {Γ0 Γ:Gam}{w0 w:World}{L:List Ent}{R:List RowE}{Pg:Program}{ops:Array Oper}{rest:List Oper}{op:Oper}{a:Act}{Q:Exit->Act->World->Prop}
theorem Aky{t e:TypeId}{size bytes:Nat}(M:MM Γ0 w0 Γ w L R)(el:ElT Pg t e size bytes){P:List (List Value)}{ls:List Nat}{x:Operand}{v:Value}(ho:op.op=.buildSlice t 1 #[(0,x)])(hgd:op.guard=none)(hx:a.eval x=v)(hv:v.cells=(fl P).toArray)(hl:P.map List.length=ls)(hs:ls.sum=size)
  (h:∀w' A c,MM Γ0 w0 Γ w' L (⟨.slice A 1 c,e,size,1,fl P⟩::R)->wpList Pg ops Q rest (a.put op.dst (.slice A 1 c)) w'):wpList Pg ops Q (op::rest) a w:=
 wpList_plain hgd fun K hK=>by
  have hlen:(fl P).length=size:=by rw[AaX hl,hs]
  unfold Oper.wp
  rw[Ace el ho hx hv hlen,Oper.upon_value]
  exact hK _ _ (h _ _ _ (M.rowNew (ext_alloc _ _) ⟨by rw[hlen,Nat.one_mul],.inr ⟨w.heap.size,1,(fl P).toArray,rfl,Nat.le_refl _,heap_alloc_new w _,Nat.le_refl _,by unfold maxLen;omega,by simp[hlen],by rw[Nat.one_mul];show(fl P).take size=fl P;rw[<-hlen];exact List.take_length⟩⟩))
end
def BlkE(Γ:Gam)(w:World)(er:Int)(s':Sto)(l:List Rt)(e:Ending)(w':World):Prop:=∃(v':Sls) (A:Option Addr) (c:Nat) (Γ':Gam),e=.returned (.tuple #[.agg (fl (stP s' v')).toArray,.slice A l.length c,.int .i64 er])/\StG Γ' v' s'/\CapOk A l.length c/\SlG Γ' A l.length (l.flatMap rc)/\Ext Γ w Γ' w'
def BlkP(Γ:Gam)(w:World)(k:Nat)(s:Sto)(e:Ending)(w':World):Prop:=∃(er:Int) (s':Sto) (l:List Rt),BlkE Γ w er s' l e w'/\(er=0->SI k s'/\l.length<=9/\s'.now=s.now)/\er≠21
theorem BlkP.err{Γ Γ':Gam}{w w':World}{k:Nat}{s:Sto}{er:Int}(he:er≠0/\er≠21)(hx:Ext Γ w Γ' w'):BlkP Γ w k s (.returned (.tuple #[.agg (fl (stP st0 x0)).toArray,.slice none 0 0,.int .i64 er])) w':=
 ⟨er,st0,[],⟨x0,none,0,Γ',rfl,stG0 _,⟨Nat.le_refl _,Nat.zero_le _,fun _=>rfl⟩,fun h=>absurd h (Nat.lt_irrefl _),hx⟩,fun h=>absurd h he.1,he.2⟩
theorem SI.boost{k:Nat}{s:Sto}(h:SI k s)(r:Rt):SI k {s with boost:=r}:={h with spe:=⟨h.spe.1,h.spe.2⟩}
theorem SI.orphs{k:Nat}{s:Sto}(h:SI k s){l:List Blk}(hl:(l.length:Int)<=s.c.ol):SI k {s with orph:=l}:={h with spe:=⟨h.spe.1,h.spe.2⟩,ol:=⟨hl,h.ol.2⟩}
theorem Ann{Γ:Gam}{T:List Blk}{k n c:Nat}{A:Option Addr}(hn:n=T.length)(hk:k<T.length)(h1:CapOk A (k+(n-(k+1))) c)(h2:SlG Γ A (k+(n-(k+1))) ((T.flatMap blx).take (k*238)++(T.flatMap blx).drop ((k+1)*238))) :
  SlR Γ ⟨A,k+(n-(k+1)),c⟩ (T.take k++T.drop (k+1)).length ((T.take k++T.drop (k+1)).flatMap blx):=by
 refine⟨by simp[hn];omega,h1,?_⟩
 rw[Aco T (fun x _=>Ags x),Adm T (fun x _=>Ags x)]at h2
 rw[List.flatMap_append];exact h2
theorem AnG{Γ:Gam}{T:List Blk}{q:Blk}{A:Option Addr}{n c:Nat}(hn:n=T.length)(h1:CapOk A (n+1) c)(h2:SlG Γ A (n+1) (T.flatMap blx++fl (blP q))):SlR Γ ⟨A,n+1,c⟩ (T ++ [q]).length ((T ++ [q]).flatMap blx):=by
 refine⟨by simp[hn],h1,?_⟩
 have e:(T ++ [q]).flatMap blx=T.flatMap blx++fl (blP q):=by simp
 rw[e];exact h2
theorem Ak0(s:Sto):s.wait = -1\/∃i:Nat,i<s.orph.length/\s.wait=(i:Int):=by
 rcases AaV (fun b:Blk=>decide (0<=fndI s.nodes b.parent)) s.orph with⟨h,_⟩|⟨i,hi,h,_⟩
 .exact .inl h
 .exact .inr ⟨i,hi,h⟩
def orphN(w:World)(g:Nat):Nat:=match w.cell? ⟨g,114,none⟩with|some (.slice _ n _)=>n|_=>0
theorem AmF{w:World}{g:Nat}{s:Sto}{v:Sls}(h:HL w g (stP s v) stL):orphN w g=v.orph.n:=by
 have:=h.cell1 (o:=114) (k:=18) (v:=v.orph.v) rfl rfl
 unfold orphN
 rw[this]
end Go.Proofs.Ytpaihpeoiliioaa
