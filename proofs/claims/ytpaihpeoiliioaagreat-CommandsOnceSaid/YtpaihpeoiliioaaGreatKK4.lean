/- Texts joined: what the walks of this claim stand on (part 4). -/
import Derived.Test.YtpaihpeoiliioaaGreatKK3
set_option linter.all false
set_option maxRecDepth 20000
set_option maxHeartbeats 40000000
namespace Go.Proofs.YtpaihpeoiliioaaGreat
section
open Go.RowKit
theorem An0(l:List Nat):nis l=l.flatMap fun k=>[.int .i64 (k:Int)]:=by
 induction l with
 |nil=>rfl
 |cons a t ih=>simp only[List.flatMap_cons,<-ih];rfl
theorem Aet{Γ:Gam}{A:Option Addr}{l:List Nat}(h:SlG Γ A l.length (nis l))(i:Nat)(hi:i<l.length):∃g,A=some ⟨g,0,none⟩/\Chk Γ g i (fl [[.int .i64 (l[i]:Int)]]):=by
 rw[An0]at h
 obtain⟨g,h1,h2⟩:=h.at (k:=1) (fun x _=>rfl) rfl i hi
 exact⟨g,h1,by rw[Nat.mul_one]at h2;exact h2⟩
def Ahead(N:List Nod):Prop:=∀k (h:k<N.length),N[k].up<(k:Int)
def Sto.liveF(s:Sto):Nat->Int->Bool
 |0,_=>false
 |f+1,i=>s.qual i||(kids s.nodes i).any fun k=>s.liveF f (k:Int)
theorem Abz{N:List Nod}{i:Int}{k:Nat}(h:k∈kids N i):∃hk:k<N.length,N[k].up=i:=by
 unfold kids at h
 split at h
 .unfold kidsTo at h
  simp only[List.mem_filter,List.mem_range,decide_eq_true_eq]at h
  refine⟨h.1,Eq.trans ?_ h.2⟩
  simp[List.getD,List.getElem?_eq_getElem h.1]
 .cases h
theorem Aj7(N:List Nod)(i:Int):(kids N i).length<=N.length:=by
 unfold kids
 split
 .exact Nat.le_trans (List.length_filter_le _ _) (by simp)
 .simp
theorem AmI{s:Sto}{f:Nat}{i:Int}(h:s.qual i=true):s.liveF (f+1) i=true:=by simp[Sto.liveF,h]
theorem AmH{s:Sto}{f:Nat}{i:Int}{k:Nat}(hk:k<(kids s.nodes i).length)(h:s.liveF f ((kids s.nodes i)[k]:Int)=true):s.liveF (f+1) i=true:=by
 simp only[Sto.liveF,Bool.or_eq_true,List.any_eq_true]
 exact .inr ⟨_,List.getElem_mem hk,h⟩
theorem An6{s:Sto}{f:Nat}{i:Int}(h0:s.qual i=false)(h:∀j (hj:j<(kids s.nodes i).length),s.liveF f ((kids s.nodes i)[j]:Int)=false):s.liveF (f+1) i=false:=by
 simp only[Sto.liveF,h0,Bool.false_or,List.any_eq_false]
 intro x hx
 obtain⟨j,hj,rfl⟩:=List.getElem_of_mem hx
 simp[h j hj]
theorem AiK(s:Sto)(v:Sls)(hs:0<s.c.spe.n)(hb:s.nodes.length<=65535)(f:Nat)(i:Int)(Γ:Gam)(w:World)(ok:Ok Γ w)(h:StG Γ v s)
  (rec:∀k∈kids s.nodes i,∀(Γ:Gam) (w:World),Ok Γ w->StG Γ v s->Calls Tryz.prog 76 #[.agg (fl (stP s v)).toArray,.int .i64 (k:Int)] w fun e w'=>e=.returned (.bool (s.liveF f (k:Int)))/\Ext Γ w Γ w') :
  Calls Tryz.prog 76 #[.agg (fl (stP s v)).toArray,.int .i64 i] w fun e w'=>e=.returned (.bool (s.liveF (f+1) i))/\Ext Γ w Γ w':=by
 have M:=bx (MM.start ok)
 have QU:=bx (fun w ok=>AhA Γ s v i hs w ok h)
 have CH:=bx (fun w ok=>Aew Γ v.nodes s.nodes i w ok h.nodes hb)
 have LV:=bx (fun h:s.qual i=true=>AmI (f:=f) h)
 have LY:=bx (fun k (hk:k<(kids s.nodes i).length)=>AmH (s:=s) (f:=f) (i:=i) hk)
 have LN:=bx (fun h:s.qual i=false=>An6 (s:=s) (f:=f) h)
 have KL:=bx (Aj7 s.nodes i)
 have HB:=bx hb
 have HG:=bx h
 have RC:=bx rec
 have OK:=bx ok
 clear ok h hb hs rec
 generalize s.liveF (f+1) i=b at *
 generalize kids s.nodes i=K at *
 cases hq:s.qual i with
 |true=>
  rw[hq]at QU
  have LV':=bx (LV.o hq)
  clear LV LN LY hq
  go_enter Tryz.func76,Tryz.ntmps76
  go_wp2_with (first|(refine zBYo (AaD s v) ?_;clear M;intro w' g M)|refine zLDo (M.o.at0) ?_)
  refine zCA M (QU.o _ M.ok) ?_;clear M;intro w1 M
  go_wp2_with (fail)
  go_ret
  exact⟨by rw[LV'.o];rfl,M.o.ext⟩
 |false=>
  rw[hq]at QU
  have LN':=bx (LN.o hq)
  clear LV LN hq
  go_enter Tryz.func76,Tryz.ntmps76
  go_wp2_with (first|(refine zBYo (AaD s v) ?_;clear M;intro w' g M)|refine zLDo (M.o.at0) ?_)
  refine zCA M (QU.o _ M.ok) ?_;clear M;intro w1 M
  go_wp2_with (refine zLDo (M.o.at0) ?_)
  refine(CH.o _ M.ok).mono ?_
  rintro e1 w1 ⟨A,c,Γ',rfl,hcap,hsl,hx⟩
  replace M:=bx (M.o.call hx)
  have HG':=bx (HG.o.mono hx.le)
  have HS:=bx hsl
  have HX:=bx M.o.ext
  clear hcap hsl hx CH QU HG
  have hkl:K.length<=65535:=Nat.le_trans KL.o HB.o
  go_wp2_with fail
  go_loopw [6] (fun j wr=>∃k:Nat,k<=K.length/\j=.int .i64 k/\(∀m (hm:m<K.length),m<k->s.liveF f (K[m]:Int)=false)/\MM Γ w Γ' wr [⟨g,stP s v,stL⟩] []) (fun j _=>K.length-(intOf j).toNat)
  case atStart=>exact⟨0,Nat.zero_le _,rfl,fun j _ hj=>absurd hj (Nat.not_lt_zero _),M.o⟩
  case round=>
   obtain⟨k,hk,rfl,hno,hM⟩:=hrel
   clear M
   have M:=bx hM
   have HNO:=bx hno
   clear hM hno
   by_cases hkn:k<K.length
   .obtain⟨gk,rfl,hc⟩:=Aet HS.o k hkn
    have R1:=bx (fun w1 (o:Ok Γ' w1)=>RC.o _ (List.getElem_mem hkn) Γ' w1 o HG'.o)
    have Y1:=bx (LY.o k hkn)
    have NX:=bx (fun(e:s.liveF f (K[k]:Int)=false) m (hm:m<K.length) (hmk:m<k+1)=>(Nat.lt_or_eq_of_le (Nat.le_of_lt_succ hmk)).elim (HNO.o m hm) (fun h=>by subst h;exact e))
    have hki:(k:Int)<(K.length:Int):=by omega
    have hk0:0<=(k:Int):=by omega
    have HKN:=bx hkn
    have Q0:=bx M.o.at0.cls
    have QC:=bx (CL.cls (ls:=[1]) hc rfl M.ok)
    clear hc
    generalize K[k]=y at *
    have EC:=bx (clsE M.o R1.o)
    cases hlv:s.liveF f (y:Int)with
    |true=>
     rw[hlv]at EC
     have Y1':=bx (Y1.o hlv)
     clear Y1 NX hlv LN'
     go_wp2_with fail
     refine zRG ?_
     repeat((go_big_quiet_want;first|(first|((first|refine zQL Q0.o (AaD _ _) ?_|refine zQR QC.o rfl ?_|refine zQC (AaJ EC.o) Tryz.func76 ?_);go_big_quiet_on;refine zNM ?_))|(refine zQO ?_;go_big_quiet_on)))
     (refine zQN ?_;clear M;intro w4 M)
     clear Q0 QC EC
     go_wp2_with fail
     go_ret
     exact⟨by rw[Y1'.o];rfl,Ext.below OK.o M.bel⟩
    |false=>
     rw[hlv]at EC
     have NX':=bx (NX.o hlv)
     clear Y1 NX hlv LN'
     go_wp2_with fail
     refine zRG ?_
     repeat((go_big_quiet_want;first|(first|((first|refine zQL Q0.o (AaD _ _) ?_|refine zQR QC.o rfl ?_|refine zQC (AaJ EC.o) Tryz.func76 ?_);go_big_quiet_on;refine zNM ?_))|(refine zQO ?_;go_big_quiet_on)))
     (refine zQN ?_;clear M;intro w4 M)
     clear Q0 QC EC
     go_wp2_with fail
     go_roundw
     case rel=>exact⟨k+1,by omega,by go_num,NX'.o,M.o⟩
     case measure=>simp[intOf];omega
   .obtain rfl:k=K.length:=by omega
    have HR:=bx (LN'.o (fun j hj=>HNO.o j hj hj))
    go_wp2_with fail
    go_ret
    exact⟨by rw[HR.o];rfl,Ext.below OK.o M.bel⟩
theorem Aj5(s:Sto)(v:Sls)(hs:0<s.c.spe.n)(ha:Ahead s.nodes)(hb:s.nodes.length<=65535):∀(f:Nat) (i:Int) (Γ:Gam) (w:World),0<=i->(s.nodes.length:Int)<=i+f->Ok Γ w->StG Γ v s ->
  Calls Tryz.prog 76 #[.agg (fl (stP s v)).toArray,.int .i64 i] w fun e w'=>e=.returned (.bool (s.liveF (f+1) i))/\Ext Γ w Γ w'
 |0,i,Γ,w,hi,hf,ok,h=>AiK s v hs hb 0 i Γ w ok h fun k hk=>by
  obtain⟨h1,h2⟩:=Abz hk
  have:=ha k h1
  omega
 |f+1,i,Γ,w,hi,hf,ok,h=>AiK s v hs hb (f+1) i Γ w ok h fun k hk Γ' w' ok' h'=>by
  obtain⟨h1,h2⟩:=Abz hk
  have:=ha k h1
  exact Aj5 s v hs ha hb f k Γ' w' (by omega) (by omega) ok' h'
def Sto.lives(s:Sto):List Bool:=(List.range s.nodes.length).map fun(k:Nat)=>s.liveF (s.nodes.length+1) (k:Int)
def bls(l:List Bool):List Value:=l.map Value.bool
theorem Ao6:ElT Tryz.prog 102 4 1 1:=Abr Tryz.underlying102 (by kernel_rfl) (by decide) (by decide)
def BlsP(Γ:Gam)(w:World)(l:List Bool)(e:Ending)(w':World):Prop:=∃(A:Option Addr) (c:Nat) (Γ':Gam),e=.returned (.slice A l.length c)/\CapOk A l.length c/\SlG Γ' A l.length (bls l)/\Ext Γ w Γ' w'
theorem AiJ(Γ:Gam)(s:Sto)(v:Sls)(hs:0<s.c.spe.n)(ha:Ahead s.nodes)(hb:s.nodes.length<=65535)(w:World)(ok:Ok Γ w)(h:StG Γ v s) :
  Calls Tryz.prog 39 #[.agg (fl (stP s v)).toArray] w (BlsP Γ w s.lives):=by
 have M:=bx (MM.start ok)
 have LN:=bx h.nodes.n
 have LV:=bx (fun(k:Nat) w1 (o:Ok Γ w1)=>Aj5 s v hs ha hb s.nodes.length (k:Int) Γ w1 (by omega) (by omega) o h)
 have HL:Bx (s.lives.length=s.nodes.length):=⟨by simp[Sto.lives]⟩
 have HG:Bx (∀k (h:k<s.lives.length),s.lives[k]=s.liveF (s.nodes.length+1) (k:Int)):=⟨fun k h=>by simp[Sto.lives]⟩
 clear h hs ha ok
 generalize s.lives=LL at *
 go_enter Tryz.func39,Tryz.ntmps39
 go_wp2_with (refine zBYo (AaD s v) ?_;clear M;intro w' g M)
 go_loopw [3,4] (fun l j wr=>∃(k:Nat) (A1:Option Addr) (c1:Nat),k<=v.nodes.n/\j=.int .i64 k/\l=.slice A1 k c1/\MM Γ w Γ wr [⟨g,stP s v,stL⟩] [⟨.slice A1 k c1,4,1,k,bls (LL.take k)⟩]) (fun _ j _=>v.nodes.n-(intOf j).toNat)
 case atStart=>exact⟨0,none,0,Nat.zero_le _,rfl,rfl,M.o.row0 _ _⟩
 case round=>
  obtain⟨k,A1,c1,hk,rfl,rfl,hM⟩:=hrel
  clear M
  have M:=bx hM
  clear hM
  by_cases hkn:k<v.nodes.n
  .have hkl:k<LL.length:=by rw[HL.o,<-LN.o];exact hkn
   have hk5:k<65535:=by rw[LN.o]at hkn;omega
   have hki:(k:Int)<(v.nodes.n:Int):=by omega
   have hk0:0<=(k:Int):=by omega
   have HKN:=bx hkn
   have TK:Bx (bls (LL.take (k+1))=bls (LL.take k) ++ [.bool (s.liveF (s.nodes.length+1) (k:Int))]):=⟨by
    unfold bls
    rw[List.take_succ_eq_append_getElem hkl,List.map_append,HG.o k hkl];rfl⟩
   have L1:=bx (LV.o k)
   clear LV
   generalize s.liveF (s.nodes.length+1) (k:Int)=b at *
   go_wp2_with (refine zLDo (M.o.at0) ?_)
   refine zCA M (L1.o _ M.ok) ?_;clear M;intro w1 M
   go_wp2_with (first|((with_reducible apply Aa7 M.o Ao6);rfl;rfl;rfl;rfl;intro w' g M' hb';(replace M:=bx M';clear M');clear hb')|(at_builtin;(with_reducible apply AaU M.o Ao6);rfl;exact AjJ _;(unfold maxLen;omega);omega;rfl;rfl;rfl;rfl;intro A' c' w' M';(replace M:=bx M';clear M')))
   go_roundw
   case rel=>exact⟨k+1,A',c',by omega,by go_num,by go_num,by rw[TK.o];exact M.o⟩
   case measure=>have:=HKN.o;simp[intOf];omega
  .obtain rfl:k=v.nodes.n:=by omega
   have HT:Bx (LL.take v.nodes.n=LL):=⟨List.take_of_length_le (by rw[HL.o,LN.o];exact Nat.le_refl _)⟩
   have HE:Bx (v.nodes.n=LL.length):=⟨by rw[HL.o,LN.o]⟩
   go_wp2_with (refine zLDo (M.o.at0) ?_)
   go_ret
   obtain⟨Γ',h1,h2,h3,h4⟩:=M.o.frz
   rw[HT.o]at h2
   unfold BlsP
   rw[<-HE.o]
   exact⟨A1,c1,Γ',rfl,h1,h2,h4.ext⟩
end
namespace Old
open Go.RowKit
structure Bk where
 pre:List Value
 slot:Int
 root:List Int
 parent:List Int
 rest:List Value
def bc(b:Bk):List Value:=b.pre++(.int .u64 b.slot::(ints .u8 b.root++(ints .u8 b.parent++b.rest)))
structure BkOk(b:Bk):Prop where
 pre:b.pre.length=66
 root:b.root.length=32
 parent:b.parent.length=32
 rest:b.rest.length=107
 one1:∀u∈b.pre,u.oneCell'=true
 one2:∀u∈b.rest,u.oneCell'=true
theorem BkOk.len{b:Bk}(h:BkOk b):(bc b).length=238:=by simp[bc,ints,h.pre,h.root,h.parent,h.rest]
theorem BkOk.one{b:Bk}(h:BkOk b):∀u∈bc b,u.oneCell'=true:=fun u hu=>by
 simp only[bc,List.mem_append,List.mem_cons]at hu
 rcases hu with hu|rfl|hu|hu|hu
 .exact h.one1 u hu
 .rfl
 .obtain⟨x,_,rfl⟩:=List.mem_map.1 hu;rfl
 .obtain⟨x,_,rfl⟩:=List.mem_map.1 hu;rfl
 .exact h.one2 u hu
structure Nd where
 b:Bk
 up:Int
 st:Int
def nc(n:Nd):List Value:=bc n.b ++ [.int .i64 n.up,.int .i64 n.st]
def NOk(ns:List Nd):Prop:=∀x∈ns,BkOk x.b
theorem Al7{n:Nd}(h:BkOk n.b):(nc n).length=240:=by simp[nc,h.len]
theorem NOk.len{ns:List Nd}(h:NOk ns):∀x∈ns,(nc x).length=240:=fun x hx=>Al7 (h x hx)
theorem Aqh{n:Nd}(h:BkOk n.b):∀u∈nc n,u.oneCell'=true:=fun u hu=>by
 rcases List.mem_append.1 hu with hu|hu
 .exact h.one u hu
 .simp only[List.mem_cons,List.mem_nil_iff,or_false]at hu
  rcases hu with rfl|rfl<;>rfl
def NRow(w:World)(A:Option Addr)(n:Nat)(ns:List Nd):Prop:=ns.length=n/\NOk ns/\(0<n->∃g post,A=some ⟨g,0,none⟩/\Has w g (ns.flatMap nc++post))
theorem NRow.below{w w':World}{A:Option Addr}{n:Nat}{ns:List Nd}(h:NRow w A n ns)(hb:Below w.heap.size w w'):NRow w' A n ns:=
 ⟨h.1,h.2.1,fun hn=>by
  obtain⟨g,post,h1,h2⟩:=h.2.2 hn
  exact⟨g,post,h1,h2.below hb h2.lt⟩⟩
theorem Acr{w:World}{g o:Nat}{cs ds:List Value}(k:Nat)(h:w.rangeAt g o cs)(hp:∀j u,ds[j]? = some u->cs[k+j]? = some u):w.rangeAt g (o+k) ds:=fun j u hu=>by
 rw[Nat.add_assoc]
 exact h _ _ (hp j u hu)
theorem _root_.Go.Proofs.YtpaihpeoiliioaaGreat.Has.rangeAll{w:World}{g:Nat}{cs:List Value}(h:Has w g cs):w.rangeAt g 0 cs:=fun j u hu=>by rw[h.cell,Nat.zero_add];exact hu
theorem Ajd{b:Bk}(h:BkOk b):∀j u,(ints .u8 b.root)[j]? = some u->(bc b)[67+j]? = some u:=fun j u hu=>by
 have hj:j<(ints .u8 b.root).length:=(List.getElem?_eq_some_iff.1 hu).1
 unfold bc
 rw[List.getElem?_append_right (by rw[h.pre];omega),h.pre,show 67+j-66=j+1 by omega,List.getElem?_cons_succ,List.getElem?_append_left hj]
 exact hu
theorem Api{n:Nd}(h:BkOk n.b){k:Nat}{u:Value}(hk:(bc n.b)[k]? = some u):(nc n)[k]? = some u:=by
 unfold nc
 rw[List.getElem?_append_left (List.getElem?_eq_some_iff.1 hk).1]
 exact hk
theorem Aqg{n:Nd}(h:BkOk n.b):(nc n)[238]? = some (.int .i64 n.up):=by
 unfold nc
 rw[List.getElem?_append_right (by rw[h.len];omega),h.len];rfl
theorem Al6{n:Nd}(h:BkOk n.b):(nc n)[239]? = some (.int .i64 n.st):=by
 unfold nc
 rw[List.getElem?_append_right (by rw[h.len];omega),h.len];rfl
theorem _root_.Go.Proofs.YtpaihpeoiliioaaGreat.Has.nodeRoot{w:World}{g:Nat}{ns:List Nd}{post:List Value}(h:Has w g (ns.flatMap nc++post))(hk:NOk ns)(i:Nat)(hi:i<ns.length):w.rangeAt g (i*240+67) (ints .u8 ns[i].b.root):=
 Acr 67 (h.rangeP hk.len i hi) fun j u hu=>Api (hk _ (List.getElem_mem hi)) (Ajd (hk _ (List.getElem_mem hi)) j u hu)
theorem _root_.Go.Proofs.YtpaihpeoiliioaaGreat.Has.nodeCell{w:World}{g:Nat}{ns:List Nd}{post:List Value}(h:Has w g (ns.flatMap nc++post))(hk:NOk ns)(i:Nat)(hi:i<ns.length)(k:Nat)(u:Value)(hu:(nc ns[i])[k]? = some u):w.cell? ⟨g,i*240+k,none⟩=some u:=
 h.rangeP hk.len i hi k u hu
theorem Ab0{P:Program}{ops:Array Oper}{rest:List Oper}{op:Oper}{a:Act}{w:World}{Q:Exit->Act->World->Prop}(ty:TypeId)(x:Operand)(ho:op.op=.load ty x)
  (hgd:Region.wanted op (yielded ops a.tmps)=true) (g o:Nat) (cs:List Value) (hr:w.rangeAt g o cs) (hx:a.eval x=.pointer (some ⟨g,o,none⟩)) {d:TypeDesc} (hu:P.underlying ty=some d) (hd:d.isRow=true) (hc:P.cellsOf ty=cs.length)
  (h:wpList P ops Q rest (a.put op.dst (.agg cs.toArray)) w):wpList P ops Q (op::rest) a w:=
 Ab1 hgd fun K hK=>wp_load_mid ty x ho g o hx cs d hr hu hd (AbS hu hc) (hK _ _ h)
theorem Abl{P:Program}{C:World->Prop}{op:Oper}{a:Act}{K:Act->Prop}(ty:TypeId)(x:Operand)(ho:op.op=.load ty x)
  (g o:Nat) (cs:List Value) (hx:a.eval x=.pointer (some ⟨g,o,none⟩)) (hr:∀w,C w->w.rangeAt g o cs)
  {d:TypeDesc} (hu:P.underlying ty=some d) (hd:d.isRow=true) (hc:P.cellsOf ty=cs.length)
  (h:K (a.put op.dst (.agg cs.toArray))):op.quiet P a C K:=by
 refine⟨_,fun w hw=>?_,h⟩
 unfold Oper.quietAt execOp
 have:=run_loadVar_mid (P:=P) w g o ty cs d (hr w hw) hu hd (AbS hu hc)
 simp only[ho,hx,Instr.loadAt,Instr.sureAddr,Sem.run_bind,Sem.run_pure,Result.andThen_ok,this]
 exact⟨rfl,rfl⟩
theorem quiet_cell{P:Program}{C:World->Prop}{o:Oper}{a:Act}{K:Act->Prop}(ty:TypeId)(x:Operand)(ho:o.op=.load ty x)(p:Addr)(v:Value)
  (hx:a.eval x=.pointer (some p)) (hr:∀w,C w->(Instr.loadAt ty (.pointer (some p))).run P w=.ok v w) (hk:K (a.put o.dst v)):o.quiet P a C K:=by
 refine⟨_,fun w hw=>?_,hk⟩
 unfold Oper.quietAt execOp
 simp only[ho,hx,hr w hw,Sem.run_bind,Sem.run_pure,Result.andThen_ok]
 exact⟨rfl,rfl⟩
theorem Adr{w:World}{p:Addr}{v:Value}(hc:w.cell? p=some v):(Instr.loadAt 44 (.pointer (some p))).run Tryz.prog w=.ok v w:=by
 simp[Instr.loadAt,Instr.sureAddr,loadVar,isAgg,run_underlying Tryz.underlying44,run_load,hc]
theorem Ag8{w:World}{p:Addr}{v:Value}(hc:w.cell? p=some v):(Instr.loadAt 3 (.pointer (some p))).run Tryz.prog w=.ok v w:=by
 simp[Instr.loadAt,Instr.sureAddr,loadVar,isAgg,run_underlying Tryz.underlying3,run_load,hc]
theorem Ajn{w:World}{p:Addr}{v:Value}(hc:w.cell? p=some v):(Instr.loadAt 23 (.pointer (some p))).run Tryz.prog w=.ok v w:=by
 simp[Instr.loadAt,Instr.sureAddr,loadVar,isAgg,run_underlying Tryz.underlying23,run_load,hc]
theorem cells_root{l:List Int}(h:l.length=32):Tryz.prog.cellsOf 29=(ints .u8 l).length:=by rw[ints,List.length_map,h];kernel_rfl
def FP(ns:List Nd)(r:List Int)(w:World)(e:Ending)(w':World):Prop:=
 (∃k:Int,e=.returned (.int .i64 k)/\((k = -1/\∀x∈ns,x.b.root≠r)\/∃(i:Nat) (hi:i<ns.length),k=i/\ns[i].b.root=r/\∀j (hj:j<i),(ns[j]'(Nat.lt_trans hj hi)).b.root≠r))/\Below w.heap.size w w'
theorem AoL(A:Option Addr)(n c:Nat)(ns:List Nd)(r:List Int)(hr:r.length=32)(w:World)(h:NRow w A n ns)(hn:n<=4096) :
  Calls Tryz.prog 24 #[.agg #[.slice A n c],.agg (ints .u8 r).toArray] w (FP ns r w):=by
 have HR:=bx hr
 have HROW:=bx h
 have HLEN:=bx h.1
 have X0:Bx (Has ((w.alloc (.cells #[.slice A n c] 46)).alloc (.cells (ints .u8 r).toArray 29)) w.heap.size [.slice A n c]):=⟨(Has.new w [.slice A n c] 46).alloc _⟩
 have X1:Bx (Has ((w.alloc (.cells #[.slice A n c] 46)).alloc (.cells (ints .u8 r).toArray 29)) (w.heap.size+1) (ints .u8 r)):=⟨by have:=Has.new (w.alloc (.cells #[.slice A n c] 46)) (ints .u8 r) 29;simpa using this⟩
 have B0:Bx (Below w.heap.size w ((w.alloc (.cells #[.slice A n c] 46)).alloc (.cells (ints .u8 r).toArray 29))):=⟨((Below.refl w.heap.size w).alloc (Nat.le_refl _) _).alloc (by simp) _⟩
 clear h hr
 go_enter Tryz.func24,Tryz.ntmps24
 go_wp2_with fail
 go_loopw [5] (fun i wr=>∃k:Nat,k<=n/\i=.int .i64 k/\(∀j (hj:j<ns.length),j<k->ns[j].b.root≠r)/\Has wr w.heap.size [.slice A n c]/\Has wr (w.heap.size+1) (ints .u8 r)/\Below w.heap.size w wr) (fun i _=>n-(intOf i).toNat)
 case atStart=>exact⟨0,Nat.zero_le _,rfl,fun j _ hj=>absurd hj (Nat.not_lt_zero _),X0.o,X1.o,B0.o⟩
 case round=>
  obtain⟨k,hk,rfl,hno,hx0,hx1,hbel⟩:=hrel
  have HNO:=bx hno
  have Y0:=bx hx0
  have Y1:=bx hx1
  have BY:=bx hbel
  clear hno hx0 hx1 hbel X0 X1 B0
  have CN:=bx (fun(w1:World) (h1:Cls wr.heap.size wr w1)=>Adr ((Y0.o.below h1.o Y0.o.lt).cell 0))
  have hc:wr.cell? ⟨w.heap.size,0,none⟩=some (.slice A n c):=Y0.o.cell 0
  by_cases hkn:k<n
  .have hkl:k<ns.length:=by rw[HLEN.o];exact hkn
   obtain⟨g1,p1,rfl,hg1⟩:=(HROW.o.below BY.o).2.2 (by omega)
   have CR:=bx (fun(w1:World) (h1:Cls wr.heap.size wr w1)=>(hg1.below h1.o hg1.lt).nodeRoot HROW.o.2.1 k hkl)
   have C1:=bx (fun(w1:World) (h1:Cls wr.heap.size wr w1)=>Y1.o.below h1.o Y1.o.lt)
   have HRK:=bx ((HROW.o.2.1 _ (List.getElem_mem hkl)).root)
   have hq:=Acq HRK.o HR.o
   have HFD:Bx (ns[k].b.root=r->∀w',Below w.heap.size w w'->FP ns r w (.returned (.int .i64 k)) w'):=⟨fun e w' h=>
    ⟨⟨k,rfl,.inr ⟨k,hkl,rfl,e,fun j hj=>HNO.o j (Nat.lt_trans hj hkl) hj⟩⟩,h⟩⟩
   have HNX:Bx (ns[k].b.root≠r->∀j (hj:j<ns.length),j<k+1->ns[j].b.root≠r):=⟨fun e j hj hjk=>by
    rcases Nat.lt_or_eq_of_le (Nat.le_of_lt_succ hjk)with h|h
    .exact HNO.o j hj h
    .subst h;exact e⟩
   have hki:(k:Int)<(n:Int):=by omega
   have hk0:0<=(k:Int):=by omega
   clear hg1
   generalize ns[k].b.root=rk at *
   by_cases he:rk=r
   .rw[decide_eq_true he]at hq
    have HE:=bx he
    clear he
    go_wp2_with fail
    refine Aa3 wr.heap.size (by kernel_rfl) (by kernel_rfl) ?_
    repeat(first|go_big_quiet_skip|(go_big_quiet_want;first|(first|((with_reducible refine quiet_cell 44 _ rfl _ _ ?_ CN.o ?_);rfl;go_big_quiet_on;(simp only[Act.put,List.setIfInBounds_toArray,List.set_cons_succ,List.set_cons_zero]))|((with_reducible refine Abl 29 _ rfl g1 (k*240+67) (ints .u8 rk) ?_ CR.o Tryz.underlying29 ?_ ?_ ?_);rfl;rfl;exact cells_root HRK.o;go_big_quiet_on;(simp only[Act.put,List.setIfInBounds_toArray,List.set_cons_succ,List.set_cons_zero]))|((with_reducible refine Abu 29 _ rfl _ (ints .u8 r) ?_ C1.o Tryz.underlying29 rfl ?_ ?_);rfl;exact cells_root HR.o;go_big_quiet_on;(simp only[Act.put,List.setIfInBounds_toArray,List.set_cons_succ,List.set_cons_zero])))|(go_big_quiet_op;first|go_big_quiet_on|((with_reducible refine⟨_,fun _ _=>rfl,?_⟩);go_big_quiet_on))))
    refine wpQuiet_nil ?_
    intro w4 hw4
    have B4:=bx (BY.o.trans (hw4.o.mono BY.o.size))
    clear hw4
    go_wp2_with fail
    go_ret
    exact HFD.o HE.o _ B4.o
   .rw[decide_eq_false he]at hq
    have HE:=bx he
    clear he
    go_wp2_with fail
    refine Aa3 wr.heap.size (by kernel_rfl) (by kernel_rfl) ?_
    repeat(first|go_big_quiet_skip|(go_big_quiet_want;first|(first|((with_reducible refine quiet_cell 44 _ rfl _ _ ?_ CN.o ?_);rfl;go_big_quiet_on;(simp only[Act.put,List.setIfInBounds_toArray,List.set_cons_succ,List.set_cons_zero]))|((with_reducible refine Abl 29 _ rfl g1 (k*240+67) (ints .u8 rk) ?_ CR.o Tryz.underlying29 ?_ ?_ ?_);rfl;rfl;exact cells_root HRK.o;go_big_quiet_on;(simp only[Act.put,List.setIfInBounds_toArray,List.set_cons_succ,List.set_cons_zero]))|((with_reducible refine Abu 29 _ rfl _ (ints .u8 r) ?_ C1.o Tryz.underlying29 rfl ?_ ?_);rfl;exact cells_root HR.o;go_big_quiet_on;(simp only[Act.put,List.setIfInBounds_toArray,List.set_cons_succ,List.set_cons_zero])))|(go_big_quiet_op;first|go_big_quiet_on|((with_reducible refine⟨_,fun _ _=>rfl,?_⟩);go_big_quiet_on))))
    refine wpQuiet_nil ?_
    intro w4 hw4
    have B4:=bx (BY.o.trans (hw4.o.mono BY.o.size))
    have Y4:=bx (Y0.o.below hw4.o Y0.o.lt)
    have Y5:=bx (Y1.o.below hw4.o Y1.o.lt)
    clear hw4
    go_wp2_with fail
    go_roundw
    case rel=>exact⟨k+1,by omega,by go_num,HNX.o HE.o,Y4.o,Y5.o,B4.o⟩
    case measure=>simp[intOf];omega
  .obtain rfl:k=n:=by omega
   go_wp2_with fail
   go_ret
   exact⟨⟨-1,rfl,.inl ⟨rfl,fun x hx=>by
    obtain⟨j,hj,rfl⟩:=List.getElem_of_mem hx
    exact HNO.o j hj (by rw[<-HLEN.o];exact hj)⟩⟩,BY.o⟩
def zck:List Value:=.int .u64 0::ints .u8 zroot
def zpre:List Value:=zck++zck
def zrest(payload:List Int):List Value:=ints .u8 payload++(List.replicate 8 (.int .u64 0)++(zck++(zck ++ [.bool false])))
def mkB(slot:Int)(root parent payload:List Int):Bk:=⟨zpre,slot,root,parent,zrest payload⟩
def zBlk:Bk:=mkB 0 zroot zroot zroot
def zNode:Nd:=⟨zBlk,0,0⟩
theorem Ala(w:World):(zeroValue 80).run Tryz.prog w=.ok (.agg (nc zNode).toArray) w:=by kernel_rfl
theorem AeV(place:Nat->Option (Nat × Nat))(pre mid post l:List Value)(i:Nat)(v:Value)(rest:List (Nat × Value))(hp:place i=some (pre.length,l.length))(hv:v.cells=l.toArray)(hm:mid.length=l.length) :
  Instr.fill place (pre++mid++post).toArray ((i,v)::rest)=Instr.fill place (pre++l++post).toArray rest:=by
 have h1:v.cells.zipIdx.foldl (fun cs (x:Value × Nat)=>cs.setIfInBounds (pre.length+x.2) x.1) (pre++mid++post).toArray=(pre++l++post).toArray:=by
  have:=Ae9 pre.length l mid pre post 0 hm (by omega)
  rw[hv,<-Array.foldl_toList,Array.toList_zipIdx]
  exact this
 rw[Instr.fill]
 simp only[hp]
 rw[if_neg (by rw[hv];simp;omega)]
 exact congrArg (fun c=>Instr.fill place c rest) h1
theorem AgB(ps:List (Nat × Value)):Tryz.prog.built 80 ps=Instr.fill (fun i=>(#[(0,238),(238,1),(239,1)]:Array (Nat × Nat))[i]?) (nc zNode).toArray ps:=by kernel_rfl
theorem AlT{b:Bk}(h:BkOk b)(u s:Int):Tryz.prog.built 80 [(0,.agg (bc b).toArray),(1,.int .i64 u),(2,.int .i64 s)]=some (nc ⟨b,u,s⟩).toArray:=by
 rw[AgB]
 have e0:nc zNode = []++bc zBlk ++ [.int .i64 0,.int .i64 0]:=rfl
 rw[e0,AeV _ [] (bc zBlk) _ (bc b) 0 _ _ (by rw[h.len];rfl) rfl (by rw[h.len];rfl)]
 have e1:[]++bc b ++ [Value.int .i64 0,.int .i64 0]=bc b ++ [.int .i64 0] ++ [.int .i64 0]:=by simp
 rw[e1,AeV _ (bc b) [.int .i64 0] _ [.int .i64 u] 1 _ _ (by rw[h.len];rfl) rfl rfl]
 have e2:bc b ++ [Value.int .i64 u] ++ [.int .i64 0]=(bc b ++ [.int .i64 u]) ++ [.int .i64 0] ++ []:=by simp
 rw[e2,AeV _ (bc b ++ [Value.int .i64 u]) [Value.int .i64 0] _ [Value.int .i64 s] 2 _ _ (by simp[h.len]) rfl rfl]
 simp[Instr.fill,nc]
theorem AaT{P:Program}{C:World->Prop}{o:Oper}{a:Act}{K:Act->Prop}(t:TypeId)(parts:Array (Nat × Operand))(ho:o.op=.build t parts)
  (ps:List (Nat × Value)) (cells:List Value) (hps:parts.toList.map (fun x=>(x.1,a.eval x.2))=ps) (hf:P.built t ps=some cells.toArray) (h:K (a.put o.dst (.agg cells.toArray))):o.quiet P a C K:=by
 refine⟨_,fun w _=>?_,h⟩
 have e:(parts.map fun(i,x)=>(i,a.eval x))=ps.toArray:=Array.ext' (by rw[Array.toList_map];exact hps)
 have:=run_build (P:=P) w t ps.toArray cells.toArray hf
 unfold Oper.quietAt execOp
 simp only[ho,e,this,Sem.run_bind,Result.andThen_ok]
 exact⟨rfl,rfl⟩
theorem run_allocZ{P:Program}{ty:TypeId}{cs:List Value}(hz:∀w,(zeroValue ty).run P w=.ok (.agg cs.toArray) w){o:Oper}{a:Act}{w:World}(ho:o.op=.alloc ty) :
  (execOp a.eval o).run P w=.ok (.value (.pointer (some ⟨w.heap.size,0,none⟩))) (w.alloc (.cells cs.toArray ty)):=by
 unfold execOp
 simp only[ho]
 simp[Instr.alloc,Sem.run_bind,hz,newVar,Value.cells,newRow]
theorem own_ext{w w':World}{base:Nat}{e:TypeId}{size:Nat}{v:Value}{n:Nat}{xs:List Value}(h:w.ownsRow base e size v n xs)(hb:Below w.heap.size w w'):w'.ownsRow base e size v n xs:=by
 refine⟨h.1,?_⟩
 rcases h.2 with h1|⟨g,cap,cur,h1,h2,h3,h4⟩
 .exact .inl h1
 .exact .inr ⟨g,cap,cur,h1,h2,by rw[hb.block g (Array.getElem?_eq_some_iff.1 h3).1];exact h3,h4⟩
theorem own_slice{w:World}{base:Nat}{e:TypeId}{size:Nat}{v:Value}{n:Nat}{xs:List Value}(h:w.ownsRow base e size v n xs):∃A c,v=.slice A n c:=by
 rcases h.2 with⟨h1,h2⟩|⟨g,cap,cur,h1,_⟩
 .subst h2;exact⟨none,0,h1⟩
 .exact⟨_,_,h1⟩
theorem own_block{w:World}{base:Nat}{e:TypeId}{size:Nat}{v:Value}{n:Nat}{xs:List Value}(h:w.ownsRow base e size v n xs)(hn:0<n) :
  ∃g c post,v=.slice (some ⟨g,0,none⟩) n c/\base<=g/\Has w g (xs++post):=by
 rcases h.2 with⟨h1,h2⟩|⟨g,cap,cur,h1,h2,h3,h4,h5,h6,h7⟩
 .omega
 .refine⟨g,cap,cur.toList.drop (n*size),h1,h2,⟨e,?_⟩⟩
  rw[<-h7,List.take_append_drop]
  simpa using h3
theorem mix_run{P:Program}{ops:Array Oper}{o:Oper}{a:Act}{w w':World}{K:Act->World->Prop}{Q:Exit->Act->World->Prop}{E:Prop}{v:Value}
  (hr:(execOp a.eval o).run P w=.ok (.value v) w') (hw:Region.wanted o (yielded ops a.tmps)=true) (hk:K (a.put o.dst v) w'):if Region.wanted o (yielded ops a.tmps)=true then o.wp P a w K Q else E:=by
 rw[if_pos hw]
 unfold Oper.wp
 rw[hr,Oper.upon_value]
 exact hk
theorem ext_alloc(w:World)(o:Obj):Below w.heap.size w (w.alloc o):=(Below.refl _ _).alloc (Nat.le_refl _) o
theorem alloc_size(w:World)(o:Obj):(w.alloc o).heap.size=w.heap.size+1:=by simp
theorem ne_som{a b:Nat}(h:a≠b):some a≠some b:=fun e=>h (by injection e)
theorem run_sliceTo{P:Program}(w:World)(t e:TypeId)(len:Nat)(parts:Array (Nat × Value))(cells:Array Value)(hu:P.underlying t=some (.slice e))(hf:P.builtSlice e len parts.toList=some cells) :
  (Instr.buildSlice t len parts).run P w=.ok (.slice (some ⟨w.heap.size,0,none⟩) len len) (w.alloc (.cells cells e)):=by
 unfold Program.builtSlice at hf
 cases hie:P.info? e with
 |none=>simp[hie]at hf
 |some ie=>
  simp only[hie]at hf
  cases hz:ie.zero with
  |none=>simp[hz]at hf
  |some z=>
   simp only[hz]at hf
   by_cases hc:len*ie.size>2 ^ 24\/len*ie.size=0
   .simp[hc]at hf
   .rw[if_neg hc]at hf
    exact run_buildSlice w t e len parts cells ie z hu hie hz (fun h'=>hc (Or.inl h')) (fun h'=>hc (Or.inr h')) hf
theorem AlR{n:Nd}(h:BkOk n.b):Tryz.prog.cellsOf 80=(nc n).length:=by rw[Al7 h];kernel_rfl
theorem Abw(v:Value):Tryz.prog.cellsOf 46 = [v].length:=by kernel_rfl
theorem Ael(A:Option Addr)(n c:Nat):Tryz.prog.built 46 [(0,.slice A n c)]=some (#[.slice A n c]:Array Value):=by kernel_rfl
theorem own_mono{w:World}{base base':Nat}{e:TypeId}{size:Nat}{v:Value}{n:Nat}{xs:List Value}(h:w.ownsRow base e size v n xs)(hb:base'<=base):w.ownsRow base' e size v n xs:=by
 refine⟨h.1,?_⟩
 rcases h.2 with h1|⟨g,cap,cur,h1,h2,h3⟩
 .exact .inl h1
 .exact .inr ⟨g,cap,cur,h1,Nat.le_trans hb h2,h3⟩
theorem info_u64:(Tryz.prog.info? 23).map (fun i=>(i.zero,i.size,i.bytes))=some (some (.int .u64 0),1,8):=by kernel_rfl
theorem row_len{w:World}{B:Nat}{A:Option Addr}{n:Nat}{k:IntKind}{l:List Int}(h:Row w B 1 A n (ints k l)):l.length=n:=by have:=h.1;simpa [ints]using this
theorem getD_at{l:List Int}{i:Nat}(h:i<l.length):l.getD i 0=l[i]:=by simp[List.getD,List.getElem?_eq_getElem h]
theorem ints_at{k:IntKind}{l:List Int}{i:Nat}(h:i<l.length):(ints k l)[i]? = some (.int k (l.getD i 0)):=by
 unfold ints
 rw[List.getElem?_map,List.getElem?_eq_getElem h,getD_at h]
 rfl
theorem take_more{a b:List Int}{k:Nat}(ha:k<a.length)(hb:k<b.length)(h:a.take k=b.take k)(he:a.getD k 0=b.getD k 0):a.take (k+1)=b.take (k+1):=by
 rw[List.take_succ_eq_append_getElem ha,List.take_succ_eq_append_getElem hb,h,<-getD_at ha,<-getD_at hb,he]
theorem ints_push(k:IntKind)(l:List Int)(x:Int):ints k (l ++ [x])=ints k l ++ [.int k x]:=by simp[ints]
theorem ints_len(k:IntKind)(l:List Int):(ints k l).length=l.length:=by simp[ints]
structure Dl where
 p:Int
 m:Int
deriving DecidableEq
def U64(l:List Int):Prop:=∀x∈l,0<=x/\x<18446744073709551616
def URow(w:World)(A:Option Addr)(n:Nat)(xs:List Int):Prop:=xs.length=n/\(0<n->∃g post,A=some ⟨g,0,none⟩/\Has w g (ints .u64 xs++post))
theorem URow.below{w w':World}{A:Option Addr}{n:Nat}{xs:List Int}(h:URow w A n xs)(hb:Below w.heap.size w w'):URow w' A n xs:=
 ⟨h.1,fun hn=>by obtain⟨g,post,e,hg⟩:=h.2 hn;exact⟨g,post,e,hg.below hb hg.lt⟩⟩
theorem URow.row{w:World}{A:Option Addr}{n:Nat}{xs:List Int}(h:URow w A n xs):Row w w.heap.size 1 A n (ints .u64 xs):=by
 refine⟨by rw[ints_len,h.1,Nat.mul_one],fun j u hu=>?_⟩
 have hj:j<xs.length:=by have:=(List.getElem?_eq_some_iff.1 hu).1;rwa [ints_len]at this
 obtain⟨g,post,e,hg⟩:=h.2 (by rw[<-h.1];omega)
 refine⟨_,e,hg.lt,?_⟩
 rw[Ad5,Nat.zero_add,hg.cell,List.getElem?_append_left (by rw[ints_len];exact hj)]
 exact hu
theorem URow.own{w:World}{base:Nat}{e:TypeId}{A:Option Addr}{n c:Nat}{xs:List Int}(hl:xs.length=n)(h:w.ownsRow base e 1 (.slice A n c) n (ints .u64 xs)):URow w A n xs:=
 ⟨hl,fun hn=>by
  obtain⟨g,c',post,hv,_,hg⟩:=own_block h hn
  exact⟨g,post,by injection hv,hg⟩⟩
theorem URow.cell{w:World}{g:Nat}{xs:List Int}{post:List Value}(h:Has w g (ints .u64 xs++post)){k:Nat}(hk:k<xs.length):w.cell? ⟨g,k,none⟩=some (.int .u64 (xs.getD k 0)):=by
 rw[h.cell,List.getElem?_append_left (by rw[ints_len];exact hk)]
 exact ints_at hk
theorem U64.at{l:List Int}(h:U64 l){k:Nat}(hk:k<l.length):0<=l.getD k 0/\l.getD k 0<18446744073709551616:=by
 rw[getD_at hk];exact h _ (List.getElem_mem hk)
theorem _root_.Go.Proofs.YtpaihpeoiliioaaGreat.EqT.mono{P:Program}{m m':Nat}{t:TypeId}{K:List Value}(h:EqT P m t K)(hm:m<=m'):EqT P m' t K:=⟨h.1,fun d hd=>h.2 d (Nat.le_trans hm hd)⟩
def addV(a b:Int):Int:=if a+b<18446744073709551616 then a+b else 0
def addE(a b:Int):Int:=if a+b<18446744073709551616 then 0 else 4
def D1(d:Dl):Prop:=(0<=d.p/\d.p<18446744073709551616)/\(0<=d.m/\d.m<18446744073709551616)
def CloneP(t:TypeId)(k n:Nat)(cs:List Value)(w:World)(e:Ending)(w':World):Prop:=
 ∃(A:Option Addr) (c:Nat),e=.returned (.slice A n c)/\w'.ownsRow w.heap.size t k (.slice A n c) n cs/\Below w.heap.size w w'
theorem ApA(h n c:Nat)(cs post:List Value)(w:World)(hh:Has w h (cs++post))(hl:cs.length=n*1)(h1:∀u∈cs,u.oneCell'=true)(hn:n<=4096)(hpos:0<n) :
  Calls Tryz.prog 59 #[.slice (some ⟨h,0,none⟩) n c] w (CloneP 23 1 n cs w):=by
 obtain⟨i0,hi0,hz0,hz1,hz2⟩:=info_parts info_u64
 have HI:=bx (show Tryz.prog.info? 23=some i0 from hi0)
 have HL:=bx hl
 have H1:=bx h1
 have he:∀(n c:Nat) (w:World),(binOp .eql 30 (.slice (some ⟨h,0,none⟩) n c) (.slice none 0 0)).run Tryz.prog w=.ok (.bool false) w:=fun _ _ _=>rfl
 have HO:=bx (Apd.drew (.inl (World.ownsRow_made (base:=w.heap.size) (e:=23) (size:=1) w #[] 0 (Nat.le_refl _) (Nat.zero_le _) rfl):Apd (w.alloc (.cells #[] 23)) w.heap.size 23 1 (.slice (some ⟨w.heap.size,0,none⟩) 0 0) 0 []))
 have HO':Bx (Apd (w.alloc (.cells #[] 23)) w.heap.size 23 1 (.slice (some ⟨w.heap.size,0,none⟩) 0 0) 0 []):=⟨HO.o⟩
 have HC:Bx (∀j u,cs[j]? = some u->(w.alloc (.cells #[] 23)).cell? ((⟨h,0,none⟩:Addr).add j)=some u):=⟨fun j u hu=>by
  rw[Ad5,(hh.alloc _).cell,Nat.zero_add,List.getElem?_append_left (List.getElem?_eq_some_iff.1 hu).1];exact hu⟩
 have HM:Bx (0+n<=maxLen):=⟨by unfold maxLen;omega⟩
 have HM2:Bx ((0+n)*8<=140737488355328):=⟨by omega⟩
 have HB:Bx (w.heap.size<=(w.alloc (.cells #[] 23)).heap.size):=⟨by simp⟩
 have HB0:=bx ((Below.refl w.heap.size w).alloc (Nat.le_refl _) (.cells #[] 23))
 clear hh hi0 hl h1
 go_enter Tryz.func59,Tryz.ntmps59
 go_wp2_with (at_builtin;(with_reducible refine AcD rfl (.tmp 5) (.tmp 6) 30 rfl i0 _ 8 Tryz.underlying30 HI.o hz0 hz1 hz2 ?_ ?_ ?_ HO'.o ⟨h,0,none⟩ n c cs ?_ hpos HL.o HC.o H1.o HM.o HM2.o HB.o ?_);rfl;omega;rfl;rfl;intro v' w' hown' _ hbel' _;have HW:=bx hown';have HB1:=bx hbel';clear hown' hbel')
 go_ret
 have hw:=HW.o
 rw[Nat.zero_add,List.nil_append]at hw
 obtain⟨A2,c2,rfl⟩:=own_slice hw
 exact⟨A2,c2,rfl,hw,HB0.o.trans HB1.o⟩
theorem one_ints(k:IntKind)(l:List Int):∀u∈ints k l,u.oneCell'=true:=fun u hu=>by
 obtain⟨x,_,rfl⟩:=List.mem_map.1 hu
 rfl
def Bt(r:List Int):Prop:=∀x∈r,0<=x/\x<256
structure Wf(ns:List Nd):Prop where
 first:∀h:0<ns.length,ns[0].up = -1
 up:∀i (h:i<ns.length),0<i->∃(u:Nat) (hu:u<i),ns[i].up=u/\(ns[u]'(Nat.lt_trans hu h)).b.root=ns[i].b.parent/\(ns[u]'(Nat.lt_trans hu h)).b.slot<ns[i].b.slot
 diff:∀i j (hi:i<ns.length) (hj:j<ns.length),ns[i].b.root=ns[j].b.root->i=j
 st:∀x∈ns,0<=x.st/\x.st<=2
 nz:∀x∈ns,x.b.root≠zroot
 bt:∀x∈ns,Bt x.b.root
def TP(w:World)(e:Ending)(w':World):Prop:=
 (∃(A:Option Addr) (c:Nat) (ns:List Nd),0<ns.length/\ns.length<=9/\Wf ns/\e=.returned (.agg #[.slice A ns.length c])/\NRow w' A ns.length ns)/\Below w.heap.size w w'
def ups(ns:List Nd):List Int:=ns.map (·.up)
theorem Aos{ns:List Nd}{i:Nat}(h:i<ns.length):(ups ns).getD i 0=ns[i].up:=by
 rw[getD_at (by simpa [Old.ups]using h)];simp[Old.ups]
theorem U64.set{l:List Int}(h:U64 l){v:Int}(hv:0<=v/\v<18446744073709551616)(i:Nat):U64 (l.set i v):=fun x hx=>by
 rcases List.mem_or_eq_of_mem_set hx with hx|hx
 .exact h x hx
 .subst hx;exact hv
theorem AkB:(Tryz.prog.info? 3).map (fun i=>(i.zero,i.size,i.bytes))=some (some (.int .i64 0),1,8):=by kernel_rfl
theorem Aeg{ns:List Nd}:(Old.ups ns).length=ns.length:=by simp[Old.ups]
def nats(l:List Nat):List Int:=l.map (fun(n:Nat)=>(n:Int))
theorem An1(l:List Nat):(nats l).length=l.length:=by simp[nats]
theorem Aj3{l:List Nat}{i:Nat}:((i:Int)∈nats l)↔i∈l:=by
 unfold nats
 constructor
 .intro h
  obtain⟨a,ha,e⟩:=List.mem_map.1 h
  have:a=i:=by omega
  subst this;exact ha
 .intro h;exact List.mem_map.2 ⟨i,h,rfl⟩
def inB(i:Int)(n:Nat):Bool:=decide (0<=i/\i<n)
theorem Ao0(A:Option Addr)(n c:Nat)(i:Int)(w:World) :
  Calls Tryz.prog 88 #[.agg #[.slice A n c],.int .i64 i] w fun e w'=>e=.returned (.bool (inB i n))/\Below w.heap.size w w':=by
 have B:=bx (ext_alloc w (.cells #[.slice A n c] 46))
 by_cases h0:0<=i
 .have h0':i≥0:=h0
  by_cases h1:i<n
  .have HD:Bx (inB i n=true):=⟨decide_eq_true ⟨h0,h1⟩⟩
   go_enter Tryz.func88,Tryz.ntmps88
   go_wp2_with fail
   go_ret
   exact⟨by rw[HD.o];rfl,B.o⟩
  .have HD:Bx (inB i n=false):=⟨decide_eq_false (fun h=>h1 h.2)⟩
   go_enter Tryz.func88,Tryz.ntmps88
   go_wp2_with fail
   go_ret
   exact⟨by rw[HD.o];rfl,B.o⟩
 .have h0':decide (i≥0)=false:=decide_eq_false h0
  have HD:Bx (inB i n=false):=⟨decide_eq_false (fun h=>h0 h.1)⟩
  go_enter Tryz.func88,Tryz.ntmps88
  go_wp2_with fail
  go_ret
  exact⟨by rw[HD.o];rfl,B.o⟩
theorem AiE{l:List Int}{k:Nat}{x:Int}(hk:k<l.length)(h:x∉l.take k)(hne:l.getD k 0≠x):x∉l.take (k+1):=by
 rw[List.take_succ_eq_append_getElem hk]
 intro hm
 rcases List.mem_append.1 hm with hm|hm
 .exact h hm
 .rw[getD_at hk]at hne
  exact hne (show x=l[k]by simpa using hm).symm
theorem AhP(B:Nat)(A:Option Addr)(n c:Nat)(l:List Int)(x:Int)(w:World)(hr:Row w B 1 A n (ints .i64 l))(hn:n<=9223372036854775807) :
  Calls Tryz.prog 48 #[.slice A n c,.int .i64 x] w fun e w'=>e=.returned (.bool (decide (x∈l)))/\w=w':=by
 have LA:=bx (row_len hr)
 have HA:=bx hr
 clear hr
 go_enter Tryz.func48,Tryz.ntmps48
 go_wp2_with fail
 go_loop [5] (fun i=>∃k:Nat,k<=n/\i=.int .i64 k/\x∉l.take k) (fun i=>n-(intOf i).toNat)
 case atStart=>exact⟨0,Nat.zero_le _,rfl,by simp⟩
 case round=>
  obtain⟨k,hk,rfl,hno⟩:=hrel
  have HNO:=bx hno
  clear hno
  by_cases hkn:k<n
  .have hka:k<l.length:=by rw[LA.o];exact hkn
   obtain⟨ad,rfl,hb1,hc1⟩:=HA.o.at_ (ints_at hka)
   have hki:(k:Int)<(n:Int):=by omega
   have hk0:0<=(k:Int):=by omega
   have HTM:=bx (AiE hka HNO.o)
   have HIN:Bx (l.getD k 0∈l):=⟨by rw[getD_at hka];exact List.getElem_mem hka⟩
   generalize l.getD k 0=y at *
   by_cases hxy:y=x
   .subst hxy
    have HD:Bx (decide (y∈l)=true):=⟨decide_eq_true HIN.o⟩
    go_wp2_with fail
    go_ret
    exact⟨by rw[HD.o];rfl,rfl⟩
   .have hne:(y==x)=false:=by simpa using hxy
    have HX:=bx (HTM.o hxy)
    clear hxy
    go_wp2_with fail
    go_round
    case rel=>exact⟨k+1,by omega,by go_num,HX.o⟩
    case measure=>simp[intOf];omega
  .have hkk:k=n:=by omega
   subst hkk
   have HD:Bx (decide (x∈l)=false):=⟨decide_eq_false (by have:=HNO.o;rwa [List.take_of_length_le (by rw[LA.o];exact Nat.le_refl _)]at this)⟩
   go_wp2_with fail
   go_ret
   exact⟨by rw[HD.o];rfl,rfl⟩
theorem bsI(i:Int):Tryz.prog.builtSlice 3 1 [(0,.int .i64 i)]=some #[.int .i64 i]:=by kernel_rfl
theorem Alu{o:Oper}{a:Act}{w:World}{x:Operand}{i:Int}(ho:o.op=.buildSlice 22 1 #[(0,x)])(hx:a.eval x=.int .i64 i) :
  (execOp a.eval o).run Tryz.prog w=.ok (.value (.slice (some ⟨w.heap.size,0,none⟩) 1 1)) (w.alloc (.cells #[.int .i64 i] 3)):=by
 have e:(#[(0,x)].map fun(i,x)=>(i,a.eval x)) = #[(0,.int .i64 i)]:=by
  apply Array.ext'
  rw[Array.toList_map]
  show [(0,a.eval x)]=_
  rw[hx]
 have:=run_sliceTo (P:=Tryz.prog) w 22 3 1 #[(0,.int .i64 i)] _ Tryz.underlying22 (bsI i)
 unfold execOp
 simp only[ho,e,this,Sem.run_bind,Result.andThen_ok]
 rfl
theorem one_i64(i:Int):∀u ∈ [Value.int .i64 i],u.oneCell'=true:=fun u hu=>by simp at hu;subst hu;rfl
def NatsP(l:List Nat)(w:World)(e:Ending)(w':World):Prop:=
 ∃(A:Option Addr) (c:Nat),e=.returned (.slice A l.length c)/\w'.ownsRow w.heap.size 3 1 (.slice A l.length c) l.length (ints .i64 (nats l))/\Below w.heap.size w w'
theorem ApY{w:World}{base:Nat}{e:TypeId}{A:Option Addr}{n c:Nat}{k:IntKind}{l:List Int}(h:w.ownsRow base e 1 (.slice A n c) n (ints k l)):Row w w.heap.size 1 A n (ints k l):=Row.own h
def pathN(us:List Int)(j:Nat):List Nat:=pathF us j j
theorem Agk(us:List Int):pathN us 0 = [0]:=rfl
theorem Afb{us:List Int}(h:Lk us){j u:Nat}(hj:j<us.length)(h0:0<j)(hu:us.getD j 0=u)(huj:u<j):pathN us j=pathN us u ++ [j]:=by
 obtain⟨k,rfl⟩:∃k,j=k+1:=⟨j-1,by omega⟩
 unfold pathN
 rw[pathF,if_neg (by omega),hu,Int.toNat_natCast,AiB h k u u (by omega) (by omega) (Nat.le_refl _)]
theorem AeN{us:List Int}(h:Lk us):∀j,j<us.length->(pathN us j).length<=j+1
 |j,hj=>by
  rcases Nat.eq_zero_or_pos j with h0|h0
  .subst h0;simp[Agk]
  .obtain⟨u,hu,e⟩:=h.up hj h0
   rw[Afb h hj h0 e hu]
   have:=AeN h u (by omega)
   simp;omega
theorem Afe(l:List Nat)(j:Nat):nats (l ++ [j])=nats l ++ [(j:Int)]:=by simp[nats]
theorem ApZ(w:World)(cs:List Value)(t:TypeId)(n:Nat)(hl:cs.length=n)(hm:n<=maxLen):(w.alloc (.cells cs.toArray t)).ownsRow w.heap.size t 1 (.slice (some ⟨w.heap.size,0,none⟩) n n) n cs:=
 ⟨by rw[hl,Nat.mul_one],.inr ⟨w.heap.size,n,cs.toArray,rfl,Nat.le_refl _,heap_alloc_new w _,Nat.le_refl _,hm,by simp[hl],by rw[Nat.mul_one,<-hl];simp⟩⟩
theorem Ajy{ns:List Nd}(hk:Lk (Old.ups ns))(A:Option Addr)(n c:Nat)(hn:n<=4096):∀(i:Nat),i<n->∀(w:World),NRow w A n ns ->
  Calls Tryz.prog 49 #[.agg #[.slice A n c],.int .i64 i] w (NatsP (pathN (Old.ups ns) i) w):=by
 intro i
 induction i using Nat.strongRecOn with
 |_ i ih=>
  intro hi w h
  have HD:Bx (inB i n=true):=⟨decide_eq_true ⟨by omega,by omega⟩⟩
  obtain⟨i0,hi0,hz0,hz1,hz2⟩:=info_parts AkB
  have HI:=bx (show Tryz.prog.info? 3=some i0 from hi0)
  have ONE:=bx (one_i64 i)
  have ONEL:Bx ([Value.int .i64 i].length=1*1):=⟨rfl⟩
  clear hi0
  have LN:=bx h.1
  have HROW:=bx h
  have X0:=bx (Has.new w [.slice A n c] 46)
  have B0:=bx (ext_alloc w (.cells #[.slice A n c] 46))
  clear h
  rcases Nat.eq_zero_or_pos i with h0|h0
  .subst h0
   clear ih
   have HD:Bx (inB 0 n=true):=⟨HD.o⟩
   rw[show((0:Nat):Int)=0 from rfl]
   go_enter Tryz.func49,Tryz.ntmps49
   go_wp2_with fail
   refine(Ao0 A n c _ _).mono ?_;rintro e w1 ⟨rfl,hb⟩
   rw[HD.o]
   have B1:=bx (B0.o.trans (hb.mono B0.o.size))
   clear hb
   go_wp2_with fail
   go_ret
   have O:=ApZ w1 (ints .i64 (nats [0])) 3 1 rfl (by unfold maxLen;omega)
   exact⟨_,_,rfl,own_mono O B1.o.size,B1.o.trans ((ext_alloc _ _).mono B1.o.size)⟩
  .obtain⟨u,hu,e⟩:=hk.up (by rw[Aeg,LN.o];exact hi) h0
   have HP:=bx (Afb hk (by rw[Aeg,LN.o];exact hi) h0 e hu)
   have IH:=bx (ih u hu (by omega))
   rw[Aos (by rw[LN.o];exact hi)]at e
   have hin:(i:Int)<(n:Int):=by omega
   have hi0:0<=(i:Int):=by omega
   have hne:((i:Int)==0)=false:=by rw[beq_eq_false_iff_ne];omega
   have HIL:Bx (i<ns.length):=⟨by rw[LN.o];exact hi⟩
   have HPL:=AeN hk u (by rw[Aeg,LN.o];omega)
   have HM1:Bx ((pathN (Old.ups ns) u).length+1<=maxLen):=⟨by unfold maxLen;omega⟩
   have HM2:Bx (((pathN (Old.ups ns) u).length+1)*8<=140737488355328):=⟨by omega⟩
   clear ih hk HPL
   go_enter Tryz.func49,Tryz.ntmps49
   go_wp2_with ((with_reducible refine Aaj 46 _ rfl _ [.slice A n c] ?_ ?_ X0.o Tryz.underlying46 rfl ?_ ?_);rfl;rfl;exact Abw _)
   refine(Ao0 A n c _ _).mono ?_;rintro e1 w1 ⟨rfl,hb⟩
   rw[HD.o]
   have B1:=bx (B0.o.trans (hb.mono B0.o.size))
   have X1:=bx (X0.o.below hb X0.o.lt)
   clear hb X0 B0
   go_wp2_with fail
   obtain⟨g0,p0,rfl,hg0⟩:=(HROW.o.below B1.o).2.2 (by omega)
   have G0:Bx (Has w1.drew g0 (ns.flatMap nc++p0)):=⟨hg0⟩
   clear hg0
   have X2:Bx (Has w1.drew w.heap.size [.slice (some ⟨g0,0,none⟩) n c]):=⟨X1.o⟩
   have B2:Bx (Below w.heap.size w w1.drew):=⟨B1.o.drew⟩
   have N2:Bx (NRow w1.drew (some ⟨g0,0,none⟩) n ns):=⟨HROW.o.below B2.o⟩
   have CU:=bx (fun w5 (h5:Cls w1.drew.heap.size w1.drew w5)=>Ag8 ((G0.o.below h5.o G0.o.lt).nodeCell HROW.o.2.1 i HIL.o 238 _ (Aqg (HROW.o.2.1 _ (List.getElem_mem HIL.o)))))
   have CN:=bx (fun w5 (h5:Cls w1.drew.heap.size w1.drew w5)=>Adr ((X2.o.below h5.o X2.o.lt).cell 0))
   have CT:=bx (Has.cls X2.o)
   rw[e]at CU
   clear e
   refine Acg 10 (.steps [(0,0),(0,1),(0,2),(0,3),(0,4),(0,5),(0,6),(0,8)] (.fork 7 (.steps [(2,9)] .leaf) 9 (.steps [(2,7)] .leaf))) (by kernel_rfl) (by kernel_rfl) ?_
   simp only[MixT,MT.steps,stepAt,List.getD_cons_zero,List.getD_cons_succ,List.drop_succ_cons,List.drop_zero]
   repeat(first|(with_reducible refine wpQuiet_nil ?_)|(first|go_big_quiet_skip|(go_big_quiet_want;first|(first|((with_reducible refine Abu 46 _ rfl _ [.slice (some ⟨g0,0,none⟩) n c] ?_ CT.o Tryz.underlying46 rfl ?_ ?_);rfl;exact Abw _;go_big_quiet_on;(simp only[Act.put,List.setIfInBounds_toArray,List.set_cons_succ,List.set_cons_zero]))|((with_reducible refine quiet_cell 3 _ rfl _ _ ?_ CU.o ?_);rfl;go_big_quiet_on;(simp only[Act.put,List.setIfInBounds_toArray,List.set_cons_succ,List.set_cons_zero]))|((with_reducible refine quiet_cell 44 _ rfl _ _ ?_ CN.o ?_);rfl;go_big_quiet_on;(simp only[Act.put,List.setIfInBounds_toArray,List.set_cons_succ,List.set_cons_zero])))|(go_big_quiet_op;first|go_big_quiet_on|((with_reducible refine⟨_,fun _ _=>rfl,?_⟩);go_big_quiet_on)))))
   refine⟨?_,?_⟩
   focus
    refine AhH (IH.o _ N2.o) Tryz.func49 rfl rfl _ _ rfl rfl rfl ?_
    rintro e w5 ⟨A5,c5,rfl,ho,hb⟩
    refine⟨_,rfl,hb,?_⟩
    have O5:=bx ho
    have B5:=bx (B2.o.trans (hb.mono B2.o.size))
    clear hb ho X2 G0 CT CU CN X1 B1 N2
    refine mix_run (Alu (i:=(i:Int)) rfl rfl) rfl ?_
    refine⟨ext_alloc _ _,?_⟩
    have AP:Bx (Apd (w5.alloc (.cells #[.int .i64 i] 3)) w.heap.size 3 1 _ _ _):=⟨(Apd.alloc (.inl (own_mono O5.o B2.o.size)) _)⟩
    have NC:=bx (Acv w5 [.int .i64 i] 3)
    have B6:=bx (B5.o.trans ((ext_alloc w5 (.cells #[.int .i64 i] 3)).mono B5.o.size))
    clear O5 B5
    simp only[Act.put,List.setIfInBounds_toArray,List.set_cons_succ,List.set_cons_zero]
    generalize(pathN (Old.ups ns) u)=L at *
    go_wp2_with (at_builtin;(with_reducible refine AcD rfl (.tmp 19) (.tmp 21) 22 rfl i0 _ 8 Tryz.underlying22 HI.o hz0 hz1 hz2 ?_ ?_ ?_ AP.o ⟨w5.heap.size,0,none⟩ 1 1 [.int .i64 i] ?_ (by omega) ONEL.o NC.o ONE.o HM1.o HM2.o B6.o.size ?_);rfl;omega;rfl;rfl;intro v' w' hown' _ hbel' _;have HW:=bx hown';have HB1:=bx (B6.o.trans hbel');clear hown' hbel')
   rotate_left
   focus
    refine mix_run (Alu (i:=(i:Int)) rfl rfl) rfl ?_
    refine⟨ext_alloc _ _,?_⟩
    have BX:=bx (ext_alloc w1.drew (.cells #[.int .i64 i] 3))
    have G9:=bx (Has.new w1.drew [.int .i64 i] 3)
    refine AhH (IH.o _ (N2.o.below BX.o)) Tryz.func49 rfl rfl _ _ rfl rfl rfl ?_
    rintro e w5 ⟨A5,c5,rfl,ho,hb⟩
    refine⟨_,rfl,hb,?_⟩
    have B5:=bx (B2.o.trans ((BX.o.trans (hb.mono BX.o.size)).mono B2.o.size))
    have AP:Bx (Apd w5 w.heap.size 3 1 _ _ _):=⟨.inl (own_mono ho (Nat.le_trans B2.o.size BX.o.size))⟩
    have NC:Bx (∀j u,[Value.int .i64 i][j]? = some u->w5.cell? ((⟨w1.drew.heap.size,0,none⟩:Addr).add j)=some u):=⟨fun j u hu=>by
     rw[Ad5,Nat.zero_add,(G9.o.below hb G9.o.lt).cell];exact hu⟩
    clear hb ho X2 G0 CT CU CN X1 B1 N2 BX G9
    generalize(pathN (Old.ups ns) u)=L at *
    simp only[Act.put,List.setIfInBounds_toArray,List.set_cons_succ,List.set_cons_zero]
    go_wp2_with (at_builtin;(with_reducible refine AcD rfl (.tmp 19) (.tmp 21) 22 rfl i0 _ 8 Tryz.underlying22 HI.o hz0 hz1 hz2 ?_ ?_ ?_ AP.o ⟨w1.drew.heap.size,0,none⟩ 1 1 [.int .i64 i] ?_ (by omega) ONEL.o NC.o ONE.o HM1.o HM2.o B5.o.size ?_);rfl;omega;rfl;rfl;intro v' w' hown' _ hbel' _;have HW:=bx hown';have HB1:=bx (B5.o.trans hbel');clear hown' hbel')
   all_goals
    refine NoPanic.normal ?_
    go_wp2_with fail
    go_ret
    have hw:=HW.o
    rw[HP.o]
    obtain⟨A6,c6,rfl⟩:=own_slice hw
    exact⟨A6,c6,by simp,by rw[Afe,ints_push,List.length_append];exact hw,HB1.o⟩
def isAnc(us:List Int)(a:Int)(b:Nat):Bool:=decide (a∈nats (pathN us b))
theorem AoD{us:List Int}(h:Lk us){a b:Nat}(hb:b<us.length):isAnc us a b=anc us a b:=by
 unfold isAnc anc
 rw[Bool.eq_iff_iff,decide_eq_true_iff,decide_eq_true_iff,Aj3]
 exact Ajx h a b b hb (Nat.le_refl _)
theorem AmS{ns:List Nd}(hk:Lk (Old.ups ns))(A:Option Addr)(n c:Nat)(hn:n<=4096)(a:Int)(b:Nat)(hb:b<n)(w:World)(h:NRow w A n ns) :
  Calls Tryz.prog 25 #[.agg #[.slice A n c],.int .i64 a,.int .i64 b] w fun e w'=>e=.returned (.bool (isAnc (Old.ups ns) a b))/\Below w.heap.size w w':=by
 have X0:=bx (Has.new w [.slice A n c] 46)
 have B0:=bx (ext_alloc w (.cells #[.slice A n c] 46))
 have PA:=bx (Ajy hk A n c hn b hb _ (h.below B0.o))
 have PL:Bx ((pathN (Old.ups ns) b).length<=9223372036854775807):=⟨by have:=AeN hk b (by rw[Aeg,h.1];exact hb);omega⟩
 clear h hk
 unfold isAnc
 generalize pathN (Old.ups ns) b=L at *
 go_enter Tryz.func25,Tryz.ntmps25
 go_wp2_with ((with_reducible refine Aaj 46 _ rfl _ [.slice A n c] ?_ ?_ X0.o Tryz.underlying46 rfl ?_ ?_);rfl;rfl;exact Abw _)
 refine PA.o.mono ?_;rintro e w1 ⟨A1,c1,rfl,ho,hb1⟩
 have HB:=bx (AhP _ A1 L.length c1 (nats L) a w1 (ApY ho) PL.o)
 have B1:=bx (B0.o.trans (hb1.mono B0.o.size))
 clear ho hb1
 go_wp2_with fail
 refine HB.o.mono ?_;rintro e w2 ⟨rfl,rfl⟩
 go_wp2_with fail
 go_ret
 exact⟨rfl,B1.o⟩
def descN(us:List Int)(i k:Nat):List Nat:=(List.range k).filter fun j=>isAnc us i j
theorem Aie{us:List Int}{i k:Nat}(h:isAnc us i k=true):descN us i (k+1)=descN us i k ++ [k]:=by
 simp[descN,List.range_succ,List.filter_append,h]
theorem AkT{us:List Int}{i k:Nat}(h:isAnc us i k=false):descN us i (k+1)=descN us i k:=by
 simp[descN,List.range_succ,List.filter_append,h]
theorem Aif(us:List Int)(i k:Nat):(descN us i k).length<=k:=by
 have:=List.length_filter_le (fun j=>isAnc us i j) (List.range k)
 simpa [descN]using this
theorem AkS{ns:List Nd}(hk:Lk (Old.ups ns))(A:Option Addr)(n c:Nat)(hn:n<=4096)(i:Nat)(w:World)(h:NRow w A n ns) :
  Calls Tryz.prog 109 #[.agg #[.slice A n c],.int .i64 i] w (NatsP (descN (Old.ups ns) i n) w):=by
 obtain⟨i0,hi0,hz0,hz1,hz2⟩:=info_parts AkB
 have HI:=bx (show Tryz.prog.info? 3=some i0 from hi0)
 have X0:=bx (Has.new w [.slice A n c] 46)
 have B0:=bx (ext_alloc w (.cells #[.slice A n c] 46))
 have HA:=bx (fun b (hb:b<n) w1 (hw:Below w.heap.size w w1)=>AmS hk A n c hn i b hb w1 (h.below hw))
 clear hi0 h hk
 generalize Old.ups ns=us at *
 go_enter Tryz.func109,Tryz.ntmps109
 go_wp2_with fail
 go_loopw [5,6] (fun s j wr=>∃k:Nat,k<=n/\j=.int .i64 k/\wr.ownsRow (w.heap.size+1) 3 1 s (descN us i k).length (ints .i64 (nats (descN us i k)))/\Has wr w.heap.size [.slice A n c]/\Below w.heap.size w wr) (fun _ j _=>n-(intOf j).toNat)
 case atStart=>exact⟨0,Nat.zero_le _,rfl,World.ownsRow_nil _ _ _ _,X0.o,B0.o⟩
 case round=>
  obtain⟨k,hk,rfl,hown,hx,hbel⟩:=hrel
  have HOWN:=bx hown
  have XR:=bx hx
  have BR:=bx hbel
  have HDL:=Aif us i k
  clear hown hx hbel X0 B0
  obtain⟨A5,c5,hv⟩:=own_slice HOWN.o
  subst hv
  have hcb:wr.cell? ⟨w.heap.size,0,none⟩=some (.slice A n c):=XR.o.cell 0
  by_cases hkn:k<n
  .have hki:(k:Int)<(n:Int):=by omega
   have HM1:Bx ((descN us i k).length+1<=maxLen):=⟨by unfold maxLen;omega⟩
   have HM2:Bx (((descN us i k).length+1)*8<=140737488355328):=⟨by omega⟩
   have ONE:=bx (one_i64 k)
   have HKN:=bx hkn
   have DY:=bx (fun h=>Aie (us:=us) (i:=i) (k:=k) h)
   have DN:=bx (fun h=>AkT (us:=us) (i:=i) (k:=k) h)
   clear HDL
   go_wp2_with ((with_reducible refine Aaj 46 _ rfl _ [.slice A n c] ?_ ?_ XR.o Tryz.underlying46 rfl ?_ ?_);rfl;rfl;exact Abw _)
   refine(HA.o k HKN.o _ BR.o).mono ?_;rintro e w1 ⟨rfl,hb⟩
   have X5:=bx (XR.o.below hb XR.o.lt)
   have O5:=bx (own_ext HOWN.o hb)
   have B5:=bx (BR.o.trans (hb.mono BR.o.size))
   have SZ5:Bx (w.heap.size+1<=w1.heap.size):=⟨X5.o.lt⟩
   clear hb XR HOWN BR hcb
   cases hanc:isAnc us i k with
   |true=>
    have DY':=bx (DY.o hanc)
    clear DY DN hanc
    generalize descN us i k=L at *
    go_wp2_with (at_builtin;(with_reducible refine Ac0 rfl (.tmp 18) (.tmp 20) 22 rfl (w.heap.size+1) 3 i0 _ 1 8 Tryz.underlying22 HI.o hz0 hz1 hz2 ?_ (by omega) _ _ _ ?_ O5.o [.int .i64 k] ?_ ?_ ONE.o HM1.o HM2.o SZ5.o ?_);rfl;rfl;rfl;rfl;intro v' w' hown' hg' hbel' _;have HOWN3:=bx hown';have HB3:=bx (B5.o.trans (hbel'.mono (Nat.le_succ _)));have X3:=bx (X5.o.below hbel' (Nat.lt_succ_self _));clear hown' hg' hbel')
    go_roundw
    case rel=>exact⟨k+1,HKN.o,by go_num,by rw[DY'.o,Afe,ints_push,List.length_append];exact HOWN3.o,X3.o,HB3.o⟩
    case measure=>simp[intOf];omega
   |false=>
    have DN':=bx (DN.o hanc)
    clear DY DN hanc
    generalize descN us i k=L at *
    go_wp2_with fail
    go_roundw
    case rel=>exact⟨k+1,HKN.o,by go_num,by rw[DN'.o];exact O5.o,X5.o,B5.o⟩
    case measure=>simp[intOf];omega
  .have hkk:k=n:=by omega
   subst hkk
   go_wp2_with fail
   go_ret
   exact⟨_,_,rfl,own_mono HOWN.o (Nat.le_succ _),BR.o⟩
end Old
section
open Go.RowKit Old
def toBk(b:Blk):Bk:=⟨[.int .u64 (b.pj.e.n:Int)]++rc b.pj.r ++ [.int .u64 (b.pf.e.n:Int)]++rc b.pf.r,(b.slot.n:Int),b.root.l,b.parent.l,rc b.payload++wc b.diff++wc b.pdiff ++ [.int .u64 (b.just.e.n:Int)]++rc b.just.r ++ [.int .u64 (b.fin.e.n:Int)]++rc b.fin.r ++ [.bool b.timely]⟩
theorem Ahd(b:Blk):bc (toBk b)=blx b:=by simp[bc,toBk,blx,blP,fl,rc]
theorem Agz(b:Blk):BkOk (toBk b):=by
 refine⟨by simp[toBk,Aav],b.root.len,b.parent.len,by simp[toBk,Aav,AdR],fun u hu=>?_,fun u hu=>?_⟩
 .refine Acf b u ?_
  show u∈blx b
  rw[<-Ahd];unfold bc
  exact List.mem_append_left _ hu
 .refine Acf b u ?_
  show u∈blx b
  rw[<-Ahd];unfold bc
  refine List.mem_append_right _ (List.mem_cons_of_mem _ ?_)
  exact List.mem_append_right _ (List.mem_append_right _ hu)
def toNd(n:Nod):Nd:=⟨toBk n.b,n.up,n.st⟩
theorem Afd(n:Nod):nc (toNd n)=nox n:=by
 unfold nc toNd
 rw[Ahd]
 simp[blx,nox,blP,noP,fl]
theorem AmZ(N:List Nod):(N.map toNd).flatMap nc=N.flatMap nox:=by
 rw[List.flatMap_map]
 congr 1
 funext n;exact Afd n
theorem NG.nrow{Γ:Gam}{x:Sl}{N:List Nod}(h:NG Γ x N){w:World}(ok:Ok Γ w):NRow w x.A x.n (N.map toNd):=by
 refine⟨by rw[List.length_map,h.n],fun y hy=>?_,fun hn=>?_⟩
 .obtain⟨n,_,rfl⟩:=List.mem_map.1 hy
  exact Agz n.b
 .obtain⟨g,post,e,hg⟩:=h.sl hn
  obtain⟨p2,hh⟩:=ok _ _ hg
  exact⟨g,post++p2,e,by rw[AmZ,<-List.append_assoc];exact hh⟩
def upsN(N:List Nod):List Int:=N.map (·.up)
theorem Abx(N:List Nod):Old.ups (N.map toNd)=upsN N:=by
 unfold Old.ups upsN
 rw[List.map_map];rfl
theorem AcE(N:List Nod):(upsN N).length=N.length:=by simp[upsN]
theorem Ado{N:List Nod}{k:Nat}(h:k<N.length):(upsN N).getD k 0=N[k].up:=by simp[upsN,List.getD,List.getElem?_map,List.getElem?_eq_getElem h]
theorem Lk.ahead{N:List Nod}(h:Lk (upsN N)):Ahead N:=fun k hk=>by
 rcases h k (by rw[AcE];exact hk)with⟨h1,h2⟩|⟨u,h1,h2⟩
 .rw[Ado hk]at h2;omega
 .rw[Ado hk]at h2;omega
theorem AiG{Γ:Gam}{w w':World}{l:List Nat}{e:Ending}(ok:Ok Γ w)(h:NatsP l w e w'):NisP Γ w l e w':=by
 obtain⟨A,c,he,ho,hb⟩:=h
 have M:=(MM.start ok).rowNew hb ho
 obtain⟨Γ',h1,h2,h3,h4⟩:=M.frz
 exact⟨A,c,Γ',he,h1,h2,h4.ext⟩
def pathI(N:List Nod)(i:Int):List Nat:=if isI i N.length then pathN (upsN N) i.toNat else []
theorem Add(Γ:Gam)(x:Sl)(N:List Nod)(i:Int)(w:World)(ok:Ok Γ w)(h:NG Γ x N)(hk:Lk (upsN N))(hb:N.length<=4096):Calls Tryz.prog 49 #[.agg [x.v].toArray,.int .i64 i] w (NisP Γ w (pathI N i)):=by
 cases hi:isI i N.length with
 |true=>
  have h1:=AcF hi
  obtain⟨k,rfl⟩:∃k:Nat,i=(k:Int):=⟨i.toNat,by omega⟩
  have:=Ajy (ns:=N.map toNd) (by rw[Abx];exact hk) x.A x.n x.c (by rw[h.n];exact hb) k (by rw[h.n];omega) w (h.nrow ok)
  rw[Abx]at this
  refine this.mono fun e w' hp=>?_
  have hq:=AiG ok hp
  unfold pathI
  rw[if_pos hi]
  exact hq
 |false=>
  have M:=bx (MM.start ok)
  have IS:Bx (∀Γ w,Ok Γ w->Calls Tryz.prog 88 #[.agg [x.v].toArray,.int .i64 i] w fun e w'=>e=.returned (.bool false)/\Ext Γ w Γ w'):=⟨fun Γ w ok=>by have:=Adu Γ x i w ok;rwa [h.n,hi]at this⟩
  have HP:Bx (pathI N i = []):=⟨by unfold pathI;rw[hi];rfl⟩
  have hl:([[x.v]]:List (List Value)).map List.length = [1]:=rfl
  clear ok h hk hb hi
  change Calls Tryz.prog _ #[.agg (fl [[x.v]]).toArray,_] _ _
  go_enter Tryz.func49,Tryz.ntmps49
  go_wp2_with (first|(refine zBYo (hl) ?_;clear M;intro w' g M)|refine zLDo (M.o.at0) ?_)
  refine zCA M (IS.o _ _ M.ok) ?_;clear M;intro w1 M
  go_wp2_with fail
  go_ret
  unfold NisP
  rw[HP.o]
  exact⟨none,0,Γ,rfl,⟨Nat.le_refl _,Nat.zero_le _,fun _=>rfl⟩,fun h=>absurd h (Nat.lt_irrefl _),M.o.ext⟩
def ancI(N:List Nod)(a b:Int):Bool:=decide (a∈(pathI N b).map fun(k:Nat)=>(k:Int))
theorem Ac4{N:List Nod}(h:Lk (upsN N)){i:Int}{k:Nat}(hk:k∈pathI N i):k<N.length/\(k:Int)<=i:=by
 unfold pathI at hk
 split at hk
 .rename_i hi
  have h1:=AcF hi
  have:=AjG h i.toNat i.toNat (by rw[AcE];omega) (Nat.le_refl _) k hk
  omega
 .cases hk
theorem AeO{N:List Nod}(h:Lk (upsN N))(i:Int):(pathI N i).length<=N.length:=by
 unfold pathI
 split
 .rename_i hi
  have h1:=AcF hi
  have:=AeN h i.toNat (by rw[AcE];omega)
  omega
 .simp
theorem AoF(Γ:Gam)(A:Option Addr)(c:Nat)(l:List Nat)(x:Int)(w:World)(ok:Ok Γ w)(h:SlG Γ A l.length (nis l))(hb:l.length<=65535) :
  Calls Tryz.prog 48 #[.slice A l.length c,.int .i64 x] w fun e w'=>e=.returned (.bool (decide (x∈l.map fun(k:Nat)=>(k:Int))))/\Ext Γ w Γ w':=by
 have hr:=h.row (size:=1) (by rw[Aph,Nat.mul_one]) ok
 refine(AhP w.heap.size A l.length c (l.map fun(k:Nat)=>(k:Int)) x w hr (by omega)).mono ?_
 rintro e w' ⟨he,rfl⟩
 exact⟨he,Ext.refl ok⟩
theorem AeT(Γ:Gam)(x:Sl)(N:List Nod)(a b:Int)(w:World)(ok:Ok Γ w)(h:NG Γ x N)(hk:Lk (upsN N))(hb:N.length<=4096) :
  Calls Tryz.prog 25 #[.agg [x.v].toArray,.int .i64 a,.int .i64 b] w fun e w'=>e=.returned (.bool (ancI N a b))/\Ext Γ w Γ w':=by
 have M:=bx (MM.start ok)
 have OK:=bx ok
 have PA:=bx (fun w ok=>Add Γ x N b w ok h hk hb)
 have HA:=bx (fun(Γ:Gam) (A:Option Addr) (c:Nat) w ok h=>AoF Γ A c (pathI N b) a w ok h (Nat.le_trans (AeO hk b) (by omega)))
 have hl:([[x.v]]:List (List Value)).map List.length = [1]:=rfl
 clear ok h hk hb
 change Bx (∀Γ A c w ok h,Calls Tryz.prog _ _ w fun e w'=>e=.returned (.bool (ancI N a b))/\Ext Γ w Γ w')at HA
 change Calls Tryz.prog _ #[.agg (fl [[x.v]]).toArray,_,_] _ _
 go_enter Tryz.func25,Tryz.ntmps25
 go_wp2_with (first|(refine zBYo (hl) ?_;clear M;intro w' g M)|refine zLDo (M.o.at0) ?_)
 refine(PA.o _ M.ok).mono ?_
 rintro e1 w1 ⟨A,c,Γ',rfl,hcap,hsl,hx⟩
 replace M:=bx (M.o.call hx)
 have HS:=bx hsl
 clear hcap hsl hx
 go_wp2_with fail
 refine zCA M (HA.o Γ' A c _ M.ok HS.o) ?_;clear M;intro w1 M
 go_wp2_with fail
 go_ret
 exact⟨rfl,Ext.below OK.o M.bel⟩
def atS(N:List Nod)(l:List Nat)(slot:U):Int:=l.foldl (fun a k=>if(N.getD k n0).b.slot.n<=slot.n then(k:Int)else a) (-1)
def atI(N:List Nod)(i:Int)(slot:U):Int:=atS N (pathI N i) slot
theorem AqA{N:List Nod}{l:List Nat}{slot:U}{j:Nat}(hj:j<l.length)(h:(N.getD l[j] n0).b.slot.n<=slot.n):atS N (l.take (j+1)) slot=(l[j]:Int):=by
 unfold atS
 rw[List.take_succ_eq_append_getElem hj,List.foldl_append]
 simp only[List.foldl_cons,List.foldl_nil]
 rw[if_pos h]
theorem ArA{N:List Nod}{l:List Nat}{slot:U}{j:Nat}(hj:j<l.length)(h:¬(N.getD l[j] n0).b.slot.n<=slot.n):atS N (l.take (j+1)) slot=atS N (l.take j) slot:=by
 unfold atS
 rw[List.take_succ_eq_append_getElem hj,List.foldl_append]
 simp only[List.foldl_cons,List.foldl_nil]
 rw[if_neg h]
theorem AjN(Γ:Gam)(x:Sl)(N:List Nod)(i:Int)(slot:U)(w:World)(ok:Ok Γ w)(h:NG Γ x N)(hk:Lk (upsN N))(hb:N.length<=4096) :
  Calls Tryz.prog 148 #[.agg [x.v].toArray,.int .i64 i,.int .u64 (slot.n:Int)] w fun e w'=>e=.returned (.int .i64 (atI N i slot))/\Ext Γ w Γ w':=by
 have M:=bx (MM.start ok)
 have OK:=bx ok
 have LN:=bx h.n
 have HG:=bx h
 have PA:=bx (fun w ok=>Add Γ x N i w ok h hk hb)
 have PL:=bx (fun k (hm:k∈pathI N i)=>(Ac4 hk hm).1)
 have PN:=bx (Nat.le_trans (AeO hk i) hb)
 have hl:([[x.v]]:List (List Value)).map List.length = [1]:=rfl
 have AT:Bx (atI N i slot=atS N (pathI N i) slot):=⟨rfl⟩
 clear ok h hk hb
 generalize pathI N i=K at *
 change Calls Tryz.prog _ #[.agg (fl [[x.v]]).toArray,_,_] _ _
 go_enter Tryz.func148,Tryz.ntmps148
 go_wp2_with (first|(refine zBYo (hl) ?_;clear M;intro w' g M)|refine zLDo (M.o.at0) ?_)
 refine(PA.o _ M.ok).mono ?_
 rintro e1 w1 ⟨A,c,Γ',rfl,hcap,hsl,hx⟩
 replace M:=bx (M.o.call hx)
 have HG':Bx (NG Γ' x N):=⟨HG.o.mono hx.le⟩
 have HS:=bx hsl
 clear hcap hsl hx PA HG
 have hkl:K.length<=4096:=PN.o
 go_wp2_with fail
 go_loopw [7,9] (fun a j wr=>∃k:Nat,k<=K.length/\j=.int .i64 k/\a=.int .i64 (atS N (K.take k) slot)/\MM Γ w Γ' wr [⟨g,[[x.v]],[1]⟩] []) (fun _ j _=>K.length-(intOf j).toNat)
 case atStart=>exact⟨0,Nat.zero_le _,rfl,rfl,M.o⟩
 case round=>
  obtain⟨k,hk,rfl,rfl,hM⟩:=hrel
  clear M
  have M:=bx hM
  clear hM
  by_cases hkn:k<K.length
  .obtain⟨gk,rfl,hc⟩:=Aet HS.o k hkn
   have hyN:=PL.o _ (List.getElem_mem hkn)
   have YES:=bx (AqA (N:=N) (slot:=slot) hkn)
   have NO:=bx (ArA (N:=N) (slot:=slot) hkn)
   generalize K[k]=y at *
   obtain⟨gn,hA,hcn⟩:=HG'.o.at (fun x _=>AbH x) y hyN
   have HA:=bx (Aei hA)
   rw[nget hyN]at YES NO
   have hki:(k:Int)<(K.length:Int):=by omega
   have hk0:0<=(k:Int):=by omega
   have hyi:(y:Int)<(x.n:Int):=by rw[LN.o];omega
   have hy0:0<=(y:Int):=by omega
   have HKN:=bx hkn
   have Q0:=bx M.o.at0.cls
   have QC:=bx (CL.cls (ls:=[1]) hc rfl M.ok)
   have QN:=bx (CL.cls hcn (AaK _) M.ok)
   have HC:=bx hc
   clear hc hcn hA
   generalize N[y]=z at *
   by_cases hs:z.b.slot.n<=slot.n
   .have hsi:(z.b.slot.n:Int)<=(slot.n:Int):=by omega
    have YES':=bx (YES.o hs)
    clear YES NO
    go_wp2_with fail
    refine zRG ?_
    repeat((go_big_quiet_want;first|(first|((first|refine zQE Q0.o (HA.o) ?_|refine zQR QC.o rfl ?_|refine zQR QN.o (AaK _) ?_);go_big_quiet_on;refine zNM ?_))|(refine zQO ?_;go_big_quiet_on)))
    (refine zQN ?_;clear M;intro w4 M)
    clear Q0 QC QN
    go_wp2_with (refine zRD (CL.of (ls:=[1]) HC.o rfl M.ok) ?_)
    go_roundw
    case rel=>exact⟨k+1,by omega,by go_num,by rw[YES'.o],M.o⟩
    case measure=>have:=HKN.o;simp[intOf];omega
   .have hsi:(slot.n:Int)<(z.b.slot.n:Int):=by omega
    have NO':=bx (NO.o hs)
    clear YES NO
    go_wp2_with fail
    refine zRG ?_
    repeat((go_big_quiet_want;first|(first|((first|refine zQE Q0.o (HA.o) ?_|refine zQR QC.o rfl ?_|refine zQR QN.o (AaK _) ?_);go_big_quiet_on;refine zNM ?_))|(refine zQO ?_;go_big_quiet_on)))
    (refine zQN ?_;clear M;intro w4 M)
    clear Q0 QC QN
    go_wp2_with fail
    go_roundw
    case rel=>exact⟨k+1,by omega,by go_num,by rw[NO'.o],M.o⟩
    case measure=>have:=HKN.o;simp[intOf];omega
  .obtain rfl:k=K.length:=by omega
   have HT:Bx (K.take K.length=K):=⟨List.take_of_length_le (Nat.le_refl _)⟩
   go_wp2_with fail
   go_ret
   exact⟨by rw[AT.o,HT.o];rfl,Ext.below OK.o M.bel⟩
def statOf(b:Blk):Int:=if b.payload=r0 then 1 else 0
theorem Aht(Γ:Gam)(b:Blk)(w:World)(ok:Ok Γ w):Calls Tryz.prog 195 #[.agg (blx b).toArray] w fun e w'=>e=.returned (.int .i64 (statOf b))/\Ext Γ w Γ w':=by
 have M:=bx (MM.start ok)
 have hq:=Aa5 b.payload r0
 clear ok
 by_cases h:b.payload=r0
 focus
  rw[decide_eq_true h]at hq
  have HR:Bx (statOf b=1):=⟨if_pos h⟩
  clear h
 rotate_left
 focus
  rw[decide_eq_false h]at hq
  have HR:Bx (statOf b=0):=⟨if_neg h⟩
 all_goals
  go_enter Tryz.func195,Tryz.ntmps195
  go_wp2_with (first|(refine zBYo (AaZ b) ?_;clear M;intro w' g M)|refine zLDo (M.o.at0) ?_|refine zBDo 29 [] (rc r0) (by kernel_rfl) ?_)
  go_ret
  exact⟨by rw[HR.o];rfl,M.o.ext⟩
def isTr(p b:Blk):Bool:=decide (b.payload≠r0)&&decide (p.payload=r0)
theorem AoC(Γ:Gam)(p b:Blk)(w:World)(ok:Ok Γ w):Calls Tryz.prog 209 #[.agg (blx p).toArray,.agg (blx b).toArray] w fun e w'=>e=.returned (.bool (isTr p b))/\Ext Γ w Γ w':=by
 have M:=bx (MM.start ok)
 have hq:=Aa5 b.payload r0
 have hp:=Aa5 p.payload r0
 clear ok
 by_cases h:b.payload=r0
 .rw[decide_eq_true h]at hq
  have HR:Bx (isTr p b=false):=⟨by simp[isTr,h]⟩
  clear h
  go_enter Tryz.func209,Tryz.ntmps209
  go_wp2_with (first|go_skip|(refine zBYo (AaZ _) ?_;clear M;intro w' g M)|refine zLDo (M.o.at0) ?_|refine zBDo 29 [] (rc r0) (by kernel_rfl) ?_)
  go_ret
  exact⟨by rw[HR.o];rfl,M.o.ext⟩
 .rw[decide_eq_false h]at hq
  by_cases h2:p.payload=r0
  focus
   rw[decide_eq_true h2]at hp
   have HR:Bx (isTr p b=true):=⟨by simp[isTr,h,h2]⟩
  rotate_left
  focus
   rw[decide_eq_false h2]at hp
   have HR:Bx (isTr p b=false):=⟨by simp[isTr,h2]⟩
  all_goals
   clear h h2
   go_enter Tryz.func209,Tryz.ntmps209
   go_wp2_with (first|(refine zBYo (AaZ _) ?_;clear M;intro w' g M)|refine zLDo (M.o.at0) ?_|refine zLDo (M.o.at1) ?_|refine zBDo 29 [] (rc r0) (by kernel_rfl) ?_)
   go_ret
   exact⟨by rw[HR.o];rfl,M.o.ext⟩
def cmpTo(a b:List Int):Nat->Int
 |0=>0
 |k+1=>if a.getD k 0<b.getD k 0 then -1 else if b.getD k 0<a.getD k 0 then 1 else cmpTo a b k
def cmpWd(a b:Wd):Int:=cmpTo a.l b.l 4
theorem AqK(a:Wd){k:Nat}(h:k<4):(wc a)[k]? = some (.int .u64 (a.l.getD k 0)):=by
 unfold wc ints
 rw[List.getElem?_map,List.getElem?_eq_getElem (by rw[a.len];exact h),getD_at (by rw[a.len];exact h)]
 rfl
theorem Aii(Γ:Gam)(a b:Wd)(w:World)(ok:Ok Γ w):Calls Tryz.prog 210 #[.agg (wc a).toArray,.agg (wc b).toArray] w fun e w'=>e=.returned (.int .i64 (cmpWd a b))/\Ext Γ w Γ w':=by
 have M:=bx (MM.start ok)
 have ha:([wc a]:List (List Value)).map List.length = [4]:=by simp[AdR]
 have hb:([wc b]:List (List Value)).map List.length = [4]:=by simp[AdR]
 have HC:Bx (cmpWd a b=cmpTo a.l b.l 4):=⟨rfl⟩
 clear ok
 generalize cmpWd a b=r at *
 change Calls Tryz.prog _ #[.agg (fl [wc a]).toArray,.agg (fl [wc b]).toArray] _ _
 go_enter Tryz.func210,Tryz.ntmps210
 go_wp2_with (first|((first|refine zBYo (ha) ?_|refine zBYo (hb) ?_);clear M;intro w' g M))
 rename_i g1 _ _
 go_loopw [5] (fun i wr=>∃k:Nat,k<=4/\i=.int .i64 ((k:Int)-1)/\r=cmpTo a.l b.l k/\MM Γ w Γ wr [⟨g,[wc b],[4]⟩,⟨g1,[wc a],[4]⟩] []) (fun i _=>(intOf i+1).toNat)
 case atStart=>exact⟨4,Nat.le_refl _,rfl,HC.o,M.o⟩
 case round=>
  obtain⟨m,hm,rfl,hr,hM⟩:=hrel
  clear M HC
  have M:=bx hM
  have HR:=bx hr
  clear hM hr
  rcases Nat.eq_zero_or_pos m with h0|h0
  .subst h0
   go_wp2_with fail
   go_ret
   exact⟨by rw[HR.o];rfl,M.o.ext⟩
  .obtain⟨k,rfl⟩:∃k,m=k+1:=⟨m-1,by omega⟩
   have hkk:((k+1:Nat):Int)-1=(k:Int):=by omega
   rw[hkk]
   have hk4:k<4:=by omega
   have HA:=bx (AqK a hk4)
   have HB:=bx (AqK b hk4)
   have QA:=bx M.o.at1.cls
   have QB:=bx M.o.at0.cls
   have hki:(k:Int)<4:=by omega
   have hk0:0<=(k:Int):=by omega
   have hwk:IntKind.i64.wrap ((k:Int)-1)=(k:Int)-1:=IntWalk.i64_in _ (by omega)
   unfold cmpTo at HR
   generalize a.l.getD k 0=x at *
   generalize b.l.getD k 0=y at *
   clear hm h0 hkk
   by_cases h1:x<y
   .rw[if_pos h1]at HR
    go_wp2_with fail
    refine zRG ?_
    repeat((go_big_quiet_want;first|(first|((first|((with_reducible apply AbR QA.o HA.o);rfl;rfl;exact zots)|((with_reducible apply AbR QB.o HB.o);rfl;rfl;exact zots));go_big_quiet_on;refine zNM ?_))|(refine zQO ?_;go_big_quiet_on)))
    (refine zQN ?_;clear M;intro w4 M)
    clear QA QB
    go_wp2_with fail
    go_ret
    exact⟨by rw[HR.o];rfl,M.o.ext⟩
   .rw[if_neg h1]at HR
    go_wp2_with fail
    refine zRG ?_
    repeat((go_big_quiet_want;first|(first|((first|((with_reducible apply AbR QA.o HA.o);rfl;rfl;exact zots)|((with_reducible apply AbR QB.o HB.o);rfl;rfl;exact zots));go_big_quiet_on;refine zNM ?_))|(refine zQO ?_;go_big_quiet_on)))
    (refine zQN ?_;clear M;intro w4 M)
    clear QA QB
    have QA:=bx M.o.at1.cls
    have QB:=bx M.o.at0.cls
    by_cases h2:y<x
    .rw[if_pos h2]at HR
     go_wp2_with fail
     refine zRG ?_
     repeat((go_big_quiet_want;first|(first|((first|((with_reducible apply AbR QA.o HA.o);rfl;rfl;exact zots)|((with_reducible apply AbR QB.o HB.o);rfl;rfl;exact zots));go_big_quiet_on;refine zNM ?_))|(refine zQO ?_;go_big_quiet_on)))
     (refine zQN ?_;clear M;intro w4 M)
     clear QA QB
     go_wp2_with fail
     go_ret
     exact⟨by rw[HR.o];rfl,M.o.ext⟩
    .rw[if_neg h2]at HR
     go_wp2_with fail
     refine zRG ?_
     repeat((go_big_quiet_want;first|(first|((first|((with_reducible apply AbR QA.o HA.o);rfl;rfl;exact zots)|((with_reducible apply AbR QB.o HB.o);rfl;rfl;exact zots));go_big_quiet_on;refine zNM ?_))|(refine zQO ?_;go_big_quiet_on)))
     (refine zQN ?_;clear M;intro w4 M)
     clear QA QB
     go_wp2_with fail
     go_roundw
     case rel=>exact⟨k,by omega,by go_num,HR.o,M.o⟩
     case measure=>simp[intOf]
def fits11(ttd:Wd)(p b:Blk):Bool:=if b.payload=r0 then decide (p.payload=r0)else if isTr p b=true then decide (cmpWd b.pdiff ttd<0)&&decide (0<=cmpWd b.diff ttd)else true
theorem AlJ(Γ:Gam)(ttd:Wd)(p b:Blk)(w:World)(ok:Ok Γ w):Calls Tryz.prog 193 #[.agg (wc ttd).toArray,.agg (blx p).toArray,.agg (blx b).toArray] w fun e w'=>e=.returned (.bool (fits11 ttd p b))/\Ext Γ w Γ w':=by
 have M:=bx (MM.start ok)
 have ht:([wc ttd]:List (List Value)).map List.length = [4]:=by simp[AdR]
 have hq:=Aa5 b.payload r0
 have hp:=Aa5 p.payload r0
 have IT:=bx (fun w ok=>AoC Γ p b w ok)
 have C1:=bx (fun w ok=>Aii Γ b.pdiff ttd w ok)
 have C2:=bx (fun w ok=>Aii Γ b.diff ttd w ok)
 clear ok
 change Calls Tryz.prog _ #[.agg (fl [wc ttd]).toArray,_,_] _ _
 by_cases h:b.payload=r0
 .have HR:Bx (fits11 ttd p b=decide (p.payload=r0)):=⟨if_pos h⟩
  rw[decide_eq_true h]at hq
  clear h
  cases h2:decide (p.payload=r0)with
  |true=>
   rw[h2]at hp HR
   clear h2
   (go_enter Tryz.func193,Tryz.ntmps193);(go_wp2_with (first|((first|refine zBYo (ht) ?_|refine zBYo (AaZ _) ?_);clear M;intro w' g M)|refine zLDo (M.o.at0) ?_|refine zLDo (M.o.at1) ?_|refine zBDo 29 [] (rc r0) (by kernel_rfl) ?_))
   go_ret
   exact⟨by rw[HR.o];rfl,M.o.ext⟩
  |false=>
   rw[h2]at hp HR
   clear h2
   (go_enter Tryz.func193,Tryz.ntmps193);(go_wp2_with (first|((first|refine zBYo (ht) ?_|refine zBYo (AaZ _) ?_);clear M;intro w' g M)|refine zLDo (M.o.at0) ?_|refine zLDo (M.o.at1) ?_|refine zBDo 29 [] (rc r0) (by kernel_rfl) ?_))
   go_ret
   exact⟨by rw[HR.o];rfl,M.o.ext⟩
 .have HR:Bx (fits11 ttd p b=if isTr p b=true then decide (cmpWd b.pdiff ttd<0)&&decide (0<=cmpWd b.diff ttd)else true):=⟨if_neg h⟩
  rw[decide_eq_false h]at hq
  clear h hp
  generalize isTr p b=t at *
  cases t with
  |false=>
   have HR':Bx (fits11 ttd p b=true):=⟨by rw[HR.o];rfl⟩
   clear HR
   (go_enter Tryz.func193,Tryz.ntmps193);(go_wp2_with (first|((first|refine zBYo (ht) ?_|refine zBYo (AaZ _) ?_);clear M;intro w' g M)|refine zLDo (M.o.at0) ?_|refine zLDo (M.o.at1) ?_|refine zBDo 29 [] (rc r0) (by kernel_rfl) ?_))
   refine zCA M (IT.o _ M.ok) ?_;clear M;intro w1 M
   go_wp2_with (fail)
   go_ret
   exact⟨by rw[HR'.o];rfl,M.o.ext⟩
  |true=>
   have HR':Bx (fits11 ttd p b=(decide (cmpWd b.pdiff ttd<0)&&decide (0<=cmpWd b.diff ttd))):=⟨by rw[HR.o];rfl⟩
   clear HR
   generalize cmpWd b.pdiff ttd=x at *
   generalize cmpWd b.diff ttd=y at *
   by_cases hx:x<0
   .have HR2:Bx (fits11 ttd p b=decide (0<=y)):=⟨by rw[HR'.o];simp[hx]⟩
    clear HR'
    (go_enter Tryz.func193,Tryz.ntmps193);(go_wp2_with (first|((first|refine zBYo (ht) ?_|refine zBYo (AaZ _) ?_);clear M;intro w' g M)|refine zLDo (M.o.at0) ?_|refine zLDo (M.o.at1) ?_|refine zBDo 29 [] (rc r0) (by kernel_rfl) ?_))
    refine zCA M (IT.o _ M.ok) ?_;clear M;intro w1 M
    go_wp2_with (first|refine zLDo (M.o.at0) ?_|refine zLDo (M.o.at2) ?_)
    refine zCA M (C1.o _ M.ok) ?_;clear M;intro w1 M
    go_wp2_with (first|refine zLDo (M.o.at0) ?_|refine zLDo (M.o.at2) ?_)
    refine zCA M (C2.o _ M.ok) ?_;clear M;intro w1 M
    go_wp2_with (fail)
    go_ret
    exact⟨by rw[HR2.o];rfl,M.o.ext⟩
   .have HR2:Bx (fits11 ttd p b=false):=⟨by rw[HR'.o];simp[hx]⟩
    have hx':decide (x<0)=false:=decide_eq_false hx
    clear HR'
    (go_enter Tryz.func193,Tryz.ntmps193);(go_wp2_with (first|((first|refine zBYo (ht) ?_|refine zBYo (AaZ _) ?_);clear M;intro w' g M)|refine zLDo (M.o.at0) ?_|refine zLDo (M.o.at1) ?_|refine zBDo 29 [] (rc r0) (by kernel_rfl) ?_))
    refine zCA M (IT.o _ M.ok) ?_;clear M;intro w1 M
    go_wp2_with (first|refine zLDo (M.o.at0) ?_|refine zLDo (M.o.at2) ?_)
    refine zCA M (C1.o _ M.ok) ?_;clear M;intro w1 M
    go_wp2_with (go_skip)
    go_ret
    exact⟨by rw[HR2.o];rfl,M.o.ext⟩
theorem elNo:ElT Tryz.prog 44 80 240 352:=Abr Tryz.underlying44 (by kernel_rfl) (by decide) (by decide)
theorem AbM{α:Type}{f:α->List Value}{X:List α}(h:∀x∈X,One (f x)):One (X.flatMap f):=fun u hu=>by
 obtain⟨x,hx,hu⟩:=List.mem_flatMap.1 hu
 exact h x hx u hu
def isStat(st:Int):Bool:=decide (0<=st/\st<=2)
theorem Acy(st:Int)(w:World):Calls Tryz.prog 211 #[.int .i64 st] w fun e w'=>e=.returned (.bool (isStat st))/\Below w.heap.size w w':=by
 by_cases h:0<=st
 .by_cases h2:st<=2
  .have HR:Bx (isStat st=true):=⟨decide_eq_true ⟨h,h2⟩⟩
   go_enter Tryz.func211,Tryz.ntmps211
   go_wp2_with go_skip
   go_ret
   exact⟨by rw[HR.o];rfl,Below.refl _ _⟩
  .have HR:Bx (isStat st=false):=⟨decide_eq_false fun h=>h2 h.2⟩
   go_enter Tryz.func211,Tryz.ntmps211
   go_wp2_with go_skip
   go_ret
   exact⟨by rw[HR.o];rfl,Below.refl _ _⟩
 .have HR:Bx (isStat st=false):=⟨decide_eq_false fun h'=>h h'.1⟩
  go_enter Tryz.func211,Tryz.ntmps211
  go_wp2_with go_skip
  go_ret
  exact⟨by rw[HR.o];rfl,Below.refl _ _⟩
def insN(N:List Nod)(b:Blk)(st:Int):Int × List Nod:=
 if isStat st=false then(2,[])else if 0<=fndI N b.root then(9,[])else if fndI N b.parent<0 then(10,[])
 else if b.slot.n<=(N.getD (fndI N b.parent).toNat n0).b.slot.n then(14,[])else if 4096<=N.length then(11,[])else(0,N ++ [⟨b,fndI N b.parent,st⟩])
def TrE(Γ:Gam)(w:World)(r:Int × List Nod)(e:Ending)(w':World):Prop:=∃(x:Sl) (Γ':Gam),e=.returned (.tuple #[.agg [x.v].toArray,.int .i64 r.1])/\NG Γ' x r.2/\Ext Γ w Γ' w'
theorem TrE.err{Γ Γ':Gam}{w w':World}{r:Int × List Nod}{er:Int}(hr:r=(er,[]))(h:Ext Γ w Γ' w'):TrE Γ w r (.returned (.tuple #[.agg (fl [[.slice none 0 0]]).toArray,.int .i64 er])) w':=by
 subst hr
 exact⟨sl0,Γ',rfl,slR0 _,h⟩
theorem Akf(b:Blk)(u st:Int):Tryz.prog.built 80 [(0,.agg (blx b).toArray),(1,.int .i64 u),(2,.int .i64 st)]=some (nox ⟨b,u,st⟩).toArray:=by
 have:=AlT (Agz b) u st
 rw[Ahd]at this
 rw[this]
 congr 2
 exact Afd ⟨b,u,st⟩
theorem Ao1{Γ Γ':Gam}{w w':World}{r:Int × List Nod}{N:List Nod}{y:Nod}{n c:Nat}{A:Option Addr}(hr:r=(0,N ++ [y]))(hn:n=N.length)(h1:CapOk A (n+1) c)(h2:SlG Γ' A (n+1) (N.flatMap nox++fl (noP y)))(h:Ext Γ w Γ' w'):TrE Γ w r (.returned (.tuple #[.agg (fl [[.slice A (n+1) c]]).toArray,.int .i64 0])) w':=by
 subst hr
 exact⟨⟨A,n+1,c⟩,Γ',rfl,⟨by simp[hn],h1,by simpa using h2⟩,h⟩
theorem Aci{N:List Nod}{r:Rt}(h:0<=fndI N r):∃k:Nat,∃hk:k<N.length,fndI N r=(k:Int)/\N[k].b.root=r:=by
 rcases Aay (fun n:Nod=>decide (n.b.root=r)) N with⟨h1,_⟩|⟨k,hk,h1,h2,_⟩
 .unfold fndI at h;omega
 .exact⟨k,hk,h1,of_decide_eq_true h2⟩
theorem AjM(Γ:Gam)(x:Sl)(N:List Nod)(b:Blk)(st:Int)(w:World)(ok:Ok Γ w)(h:NG Γ x N)(hb:N.length<=65535) :
  Calls Tryz.prog 194 #[.agg [x.v].toArray,.agg (blx b).toArray,.int .i64 st] w (TrE Γ w (insN N b st)):=by
 have M:=bx (MM.start ok)
 have LN:=bx h.n
 have HG:=bx h
 have HB:=bx hb
 have hl:([[x.v]]:List (List Value)).map List.length = [1]:=rfl
 have FR:=bx (fun w ok=>Aag Γ x N b.root w ok h)
 have FP:=bx (fun w ok=>Aag Γ x N b.parent w ok h)
 have HI:Bx (insN N b st=insN N b st):=⟨rfl⟩
 have BN:=bx (Akf b)
 clear ok h hb
 change Calls Tryz.prog _ #[.agg (fl [[x.v]]).toArray,_,_] _ _
 cases hs:isStat st with
 |false=>
  have HR:Bx (insN N b st=(2,[])):=⟨if_pos hs⟩
  (go_enter Tryz.func194,Tryz.ntmps194);(go_wp2_with (first|((first|refine zBYo (hl) ?_|refine zBYo (AaZ b) ?_|refine zALo (Aa1) ?_);clear M;intro w' g M)));refine zCB M (Acy st _) ?_;clear M;intro w1 M
  rw[hs]
  go_wp2_with (first|refine zBDo 46 [] [.slice none 0 0] (by kernel_rfl) ?_|(refine zSSo M 0 [[.slice none 0 0]] [[.slice none 0 0]] (by rfl) (Aak _ _ _) ?_;clear M;intro w' M))
  (try refine zsm ?_);refine bodyPost_ret (AaN (by rfl) _ M.o.at0 (by rfl) Aap rfl) rfl ?_;exact TrE.err HR.o M.o.ext
 |true=>
  by_cases h9:0<=fndI N b.root
  .have HR:Bx (insN N b st=(9,[])):=⟨by unfold insN;rw[if_neg (by rw[hs];simp),if_pos h9]⟩
   (go_enter Tryz.func194,Tryz.ntmps194);(go_wp2_with (first|((first|refine zBYo (hl) ?_|refine zBYo (AaZ b) ?_|refine zALo (Aa1) ?_);clear M;intro w' g M)));refine zCB M (Acy st _) ?_;clear M;intro w1 M
   rw[hs]
   go_wp2_with (first|refine zLDo (M.o.at1) ?_|refine zLDo (M.o.at2) ?_)
   refine zCA M (FR.o _ M.ok) ?_;clear M;intro w1 M
   go_wp2_with (first|refine zBDo 46 [] [.slice none 0 0] (by kernel_rfl) ?_|(refine zSSo M 0 [[.slice none 0 0]] [[.slice none 0 0]] (by rfl) (Aak _ _ _) ?_;clear M;intro w' M))
   (try refine zsm ?_);refine bodyPost_ret (AaN (by rfl) _ M.o.at0 (by rfl) Aap rfl) rfl ?_;exact TrE.err HR.o M.o.ext
  .by_cases h10:fndI N b.parent<0
   .have HR:Bx (insN N b st=(10,[])):=⟨by unfold insN;rw[if_neg (by rw[hs];simp),if_neg h9,if_pos h10]⟩
    (go_enter Tryz.func194,Tryz.ntmps194);(go_wp2_with (first|((first|refine zBYo (hl) ?_|refine zBYo (AaZ b) ?_|refine zALo (Aa1) ?_);clear M;intro w' g M)));refine zCB M (Acy st _) ?_;clear M;intro w1 M
    rw[hs]
    go_wp2_with (first|refine zLDo (M.o.at1) ?_|refine zLDo (M.o.at2) ?_)
    refine zCA M (FR.o _ M.ok) ?_;clear M;intro w1 M
    go_wp2_with (first|refine zLDo (M.o.at1) ?_|refine zLDo (M.o.at2) ?_)
    refine zCA M (FP.o _ M.ok) ?_;clear M;intro w1 M
    go_wp2_with (first|refine zBDo 46 [] [.slice none 0 0] (by kernel_rfl) ?_|(refine zSSo M 0 [[.slice none 0 0]] [[.slice none 0 0]] (by rfl) (Aak _ _ _) ?_;clear M;intro w' M))
    (try refine zsm ?_);refine bodyPost_ret (AaN (by rfl) _ M.o.at0 (by rfl) Aap rfl) rfl ?_;exact TrE.err HR.o M.o.ext
   .obtain⟨k,hk,hku,hkr⟩:=Aci (show 0<=fndI N b.parent by omega)
    obtain⟨gn,hA,hc⟩:=HG.o.at (fun x _=>AbH x) k hk
    have HA:=bx (Aei hA)
    have HC:=bx hc
    have I0:Bx (insN N b st=if b.slot.n<=N[k].b.slot.n then(14,[])else if 4096<=N.length then(11,[])else(0,N ++ [⟨b,(k:Int),st⟩])):=⟨by
     unfold insN
     rw[if_neg (by rw[hs];simp),if_neg h9,if_neg h10,hku,Int.toNat_natCast,nget hk]⟩
    have hki:(k:Int)<(x.n:Int):=by rw[LN.o];omega
    have hk0:0<=(k:Int):=by omega
    have h9':decide (0<=fndI N b.root)=false:=decide_eq_false h9
    have hkd:decide ((k:Int)<0)=false:=by simp
    rw[hku]at FP
    have ROW:Bx (∀Γ' w',Le Γ Γ'->Ok Γ' w'->Row w' w'.heap.size 240 (some ⟨gn,0,none⟩) x.n (N.flatMap nox)):=⟨fun Γ' w' hl o=>hA▸(HG.o.sl.mono hl).row (size:=240) (by rw[Aah N (fun x _=>AbH x),LN.o]) o⟩
    have OneN:Bx (One (N.flatMap nox)):=⟨AbM fun x _=>AbX x⟩
    clear hc hA hku hkr h10 HI
    generalize insN N b st=r at *
    generalize fndI N b.root=fr at *
    generalize hz:N[k]=z at *
    clear hz
    by_cases h14:b.slot.n<=z.b.slot.n
    .have HR:=bx (I0.o.trans (if_pos h14))
     have hsi:(b.slot.n:Int)<=(z.b.slot.n:Int):=by omega
     clear I0
     (go_enter Tryz.func194,Tryz.ntmps194);(go_wp2_with (first|((first|refine zBYo (hl) ?_|refine zBYo (AaZ b) ?_|refine zALo (Aa1) ?_);clear M;intro w' g M)));refine zCB M (Acy st _) ?_;clear M;intro w1 M
     rw[hs]
     go_wp2_with (first|refine zLDo (M.o.at1) ?_|refine zLDo (M.o.at2) ?_)
     refine zCA M (FR.o _ M.ok) ?_;clear M;intro w1 M
     go_wp2_with (first|refine zLDo (M.o.at1) ?_|refine zLDo (M.o.at2) ?_)
     refine zCA M (FP.o _ M.ok) ?_;clear M;intro w1 M
     go_wp2_with (fail)
     have Q1:=bx M.o.at1.cls;have Q2:=bx M.o.at2.cls;have QC:=bx (CL.cls HC.o (AaK _) M.ok);(refine zRG ?_);(repeat((go_big_quiet_want;first|(first|((first|refine zQE Q2.o (HA.o) ?_|refine zQL Q1.o (AaZ _) ?_|refine zQR QC.o (AaK _) ?_);go_big_quiet_on;refine zNM ?_))|(refine zQO ?_;go_big_quiet_on))));(refine zQN ?_;clear M;intro w4 M);clear Q1 Q2 QC
     go_wp2_with (first|refine zBDo 46 [] [.slice none 0 0] (by kernel_rfl) ?_|(refine zSSo M 0 [[.slice none 0 0]] [[.slice none 0 0]] (by rfl) (Aak _ _ _) ?_;clear M;intro w' M))
     (try refine zsm ?_);refine bodyPost_ret (AaN (by rfl) _ M.o.at0 (by rfl) Aap rfl) rfl ?_;exact TrE.err HR.o M.o.ext
    .have I1:=bx (I0.o.trans (if_neg h14))
     have hsi:(z.b.slot.n:Int)<(b.slot.n:Int):=by omega
     clear I0 h14
     by_cases h11:4096<=N.length
     .have HR:=bx (I1.o.trans (if_pos h11))
      have hni:(4096:Int)<=(x.n:Int):=by rw[LN.o];omega
      clear I1
      (go_enter Tryz.func194,Tryz.ntmps194);(go_wp2_with (first|((first|refine zBYo (hl) ?_|refine zBYo (AaZ b) ?_|refine zALo (Aa1) ?_);clear M;intro w' g M)));refine zCB M (Acy st _) ?_;clear M;intro w1 M
      rw[hs]
      go_wp2_with (first|refine zLDo (M.o.at1) ?_|refine zLDo (M.o.at2) ?_)
      refine zCA M (FR.o _ M.ok) ?_;clear M;intro w1 M
      go_wp2_with (first|refine zLDo (M.o.at1) ?_|refine zLDo (M.o.at2) ?_)
      refine zCA M (FP.o _ M.ok) ?_;clear M;intro w1 M
      go_wp2_with (fail)
      have Q1:=bx M.o.at1.cls;have Q2:=bx M.o.at2.cls;have QC:=bx (CL.cls HC.o (AaK _) M.ok);(refine zRG ?_);(repeat((go_big_quiet_want;first|(first|((first|refine zQE Q2.o (HA.o) ?_|refine zQL Q1.o (AaZ _) ?_|refine zQR QC.o (AaK _) ?_);go_big_quiet_on;refine zNM ?_))|(refine zQO ?_;go_big_quiet_on))));(refine zQN ?_;clear M;intro w4 M);clear Q1 Q2 QC
      go_wp2_with (first|refine zLE M.o.at2 (HA.o) ?_|refine zBDo 46 [] [.slice none 0 0] (by kernel_rfl) ?_|(refine zSSo M 0 [[.slice none 0 0]] [[.slice none 0 0]] (by rfl) (Aak _ _ _) ?_;clear M;intro w' M))
      (try refine zsm ?_);refine bodyPost_ret (AaN (by rfl) _ M.o.at0 (by rfl) Aap rfl) rfl ?_;exact TrE.err HR.o M.o.ext
     .have HR:=bx (I1.o.trans (if_neg h11))
      have hni:(x.n:Int)<4096:=by rw[LN.o];omega
      clear I1
      (go_enter Tryz.func194,Tryz.ntmps194);(go_wp2_with (first|((first|refine zBYo (hl) ?_|refine zBYo (AaZ b) ?_|refine zALo (Aa1) ?_);clear M;intro w' g M)));refine zCB M (Acy st _) ?_;clear M;intro w1 M
      rw[hs]
      go_wp2_with (first|refine zLDo (M.o.at1) ?_|refine zLDo (M.o.at2) ?_)
      refine zCA M (FR.o _ M.ok) ?_;clear M;intro w1 M
      go_wp2_with (first|refine zLDo (M.o.at1) ?_|refine zLDo (M.o.at2) ?_)
      refine zCA M (FP.o _ M.ok) ?_;clear M;intro w1 M
      go_wp2_with (fail)
      have Q1:=bx M.o.at1.cls;have Q2:=bx M.o.at2.cls;have QC:=bx (CL.cls HC.o (AaK _) M.ok);(refine zRG ?_);(repeat((go_big_quiet_want;first|(first|((first|refine zQE Q2.o (HA.o) ?_|refine zQL Q1.o (AaZ _) ?_|refine zQR QC.o (AaK _) ?_);go_big_quiet_on;refine zNM ?_))|(refine zQO ?_;go_big_quiet_on))));(refine zQN ?_;clear M;intro w4 M);clear Q1 Q2 QC
      go_wp2_with (refine zLE M.o.at2 (HA.o) ?_)
      refine AaB [8,10] (.steps [(1,0),(0,1),(0,3),(1,4),(1,5),(1,6)] (.fork 2 (.steps [(2,7),(3,8),(1,9),(3,10),(1,11)] .leaf) 7 (.steps [(2,2),(3,8),(1,9),(3,10),(1,11)] .leaf))) (by kernel_rfl) (by kernel_rfl) ?_
      simp only[MixT6,MT.steps,stepAt,List.getD_cons_zero,List.getD_cons_succ]
      replace M:=bx (M.o.drew)
      have Q1:=bx M.o.at1.cls
      have Q2:=bx M.o.at2.cls
      (repeat(first|(with_reducible refine wpQuiet_nil ?_)|((go_big_quiet_want;first|(first|((first|refine zQE Q2.o (HA.o) ?_|refine zQL Q1.o (AaZ _) ?_|((with_reducible refine AaT 80 _ rfl [(0,.agg (blx b).toArray),(1,.int .i64 (k:Int)),(2,.int .i64 st)] (nox ⟨b,(k:Int),st⟩) ?_ (BN.o _ _) ?_);rfl));go_big_quiet_on;refine zNM ?_))|(refine zQO ?_;go_big_quiet_on)))))
      clear Q1 Q2
      refine⟨?_,?_⟩
      focus
       obtain⟨A1,c1,w1,hr,hM,hb⟩:=Aal elNo M.o 44 (some ⟨gn,0,none⟩) x.n x.c _ (ROW.o _ _ M.o.ext.le M.ok) (fun h=>by cases h) OneN.o (by unfold maxLen;omega) (by omega);refine AaA (AaE rfl rfl rfl hr) rfl ?_;refine⟨hb,?_⟩;clear M;have M:=bx hM;clear hM hr hb;refine zNM ?_
       refine AaA (Aau elNo rfl rfl (v:=.agg (nox ⟨b,(k:Int),st⟩).toArray) (cs:=nox ⟨b,(k:Int),st⟩) rfl (AbH _)) rfl ?_;refine⟨ext_alloc _ _,?_⟩;replace M:=bx (M.o.alloc (AaK ⟨b,(k:Int),st⟩) rfl 80);refine zNM ?_
      rotate_left
      focus
       refine AaA (Aau elNo rfl rfl (v:=.agg (nox ⟨b,(k:Int),st⟩).toArray) (cs:=nox ⟨b,(k:Int),st⟩) rfl (AbH _)) rfl ?_;refine⟨ext_alloc _ _,?_⟩;replace M:=bx (M.o.alloc (AaK ⟨b,(k:Int),st⟩) rfl 80);refine zNM ?_
       obtain⟨A1,c1,w1,hr,hM,hb⟩:=Aal elNo M.o 44 (some ⟨gn,0,none⟩) x.n x.c _ (ROW.o _ _ M.o.ext.le M.ok) (fun h=>by cases h) OneN.o (by unfold maxLen;omega) (by omega);refine AaA (AaE rfl rfl rfl hr) rfl ?_;refine⟨hb,?_⟩;clear M;have M:=bx hM;clear hM hr hb;refine zNM ?_
      all_goals
       obtain⟨v5,w5,hr,hM⟩:=AaW elNo M.o 44 _ 1 1 _ (Aaf M.o.at0 (m:=1) (size:=240) rfl) (fun h=>by cases h) (AbX _) (by unfold maxLen;omega) (by omega);obtain⟨A6,c6,e6⟩:=own_slice (hM.rows _ (List.mem_cons_self ..));simp only at e6;subst e6;refine AaA (AaE rfl rfl rfl hr) rfl ?_;replace M:=bx (hM.tail);clear hr hM;refine zNM ?_
       (repeat(first|(with_reducible refine wpQuiet_nil ?_)|((go_big_quiet_want;((with_reducible refine AaT 46 _ rfl [(0,.slice A6 (x.n+1) c6)] [.slice A6 (x.n+1) c6] ?_ (Ael _ _ _) ?_);rfl;go_big_quiet_on;refine zNM ?_)))));refine Aam M.o 0 [[.slice A6 (x.n+1) c6]] [[.slice A6 (x.n+1) c6]] rfl rfl rfl rfl Aap rfl rfl (Aak _ _ _) rfl rfl ?_;intro w7 M';(simp only[List.set_cons_zero]at M');(replace M:=bx M';clear M');refine zNM ?_;(repeat(first|(with_reducible refine wpQuiet_nil ?_)|((go_big_quiet_want;(refine zQO ?_;go_big_quiet_on)))));refine NoPanic.normal ?_;(go_wp2_with fail);obtain⟨Γ',h1,h2,h3,h4⟩:=M.o.frz;(try refine zsm ?_);refine bodyPost_ret (AaN (by rfl) _ h4.at0 (by rfl) Aap rfl) rfl ?_;exact Ao1 HR.o LN.o h1 h2 h4.ext
def NodP(Γ:Gam)(w:World)(N:List Nod)(e:Ending)(w':World):Prop:=∃(x:Sl) (Γ':Gam),e=.returned (.agg [x.v].toArray)/\NG Γ' x N/\Ext Γ w Γ' w'
theorem AkC(Γ:Gam)(b:Blk)(st:Int)(w:World)(ok:Ok Γ w):Calls Tryz.prog 65 #[.agg (blx b).toArray,.int .i64 st] w (NodP Γ w [⟨b,-1,st⟩]):=by
 have M:=bx (MM.start ok)
 have BN:=bx (Akf b)
 clear ok
 go_enter Tryz.func65,Tryz.ntmps65
 go_wp2_with (first|((first|refine zBYo (AaZ b) ?_|refine zALo (Aa1) ?_);clear M;intro w' g M)|refine zLDo (M.o.at1) ?_|refine zBDo 80 [(0,.agg (blx b).toArray),(1,.int .i64 (-1)),(2,.int .i64 st)] (nox ⟨b,-1,st⟩) (BN.o _ _) ?_|((with_reducible apply AbP M.o elNo);rfl;rfl;rfl;rfl;exact AaK ⟨b,-1,st⟩;rfl;intro w' g M' hb';(replace M:=bx M';clear M');clear hb')|refine zBDo 46 [(0,.slice (some ⟨g,0,none⟩) 1 1)] [.slice (some ⟨g,0,none⟩) 1 1] (Ael _ _ _) ?_|(refine zSSo M 1 [[.slice (some ⟨g,0,none⟩) 1 1]] [[.slice (some ⟨g,0,none⟩) 1 1]] (by rfl) (Aak _ _ _) ?_;clear M;intro w' M))
 obtain⟨Γ',h1,h2,h3⟩:=M.o.frzL
 refine zRb h3.at0 ?_
 exact⟨⟨some ⟨g,0,none⟩,1,1⟩,Γ',rfl,⟨rfl,⟨Nat.le_refl _,by show 1<=maxLen;unfold maxLen;omega,fun h=>by cases h⟩,fun _=>⟨g,[],rfl,by rw[h1];simp⟩⟩,h3.ext⟩
def descI(N:List Nod)(i:Nat):List Nat:=descN (upsN N) i N.length
theorem AmW(Γ:Gam)(x:Sl)(N:List Nod)(i:Nat)(w:World)(ok:Ok Γ w)(h:NG Γ x N)(hk:Lk (upsN N))(hb:N.length<=4096) :
  Calls Tryz.prog 109 #[.agg [x.v].toArray,.int .i64 (i:Int)] w (NisP Γ w (descI N i)):=by
 have:=AkS (ns:=N.map toNd) (by rw[Abx];exact hk) x.A x.n x.c (by rw[h.n];exact hb) i w (h.nrow ok)
 rw[Abx]at this
 refine this.mono fun e w' hp=>?_
 have hq:=AiG ok hp
 unfold descI
 rw[<-h.n]
 exact hq
theorem AkU{N:List Nod}{i k:Nat}(h:k∈descI N i):k<N.length:=by
 unfold descI descN at h
 exact List.mem_range.1 (List.mem_filter.1 h).1
theorem Amp(N:List Nod)(i:Nat):(descI N i).length<=N.length:=by
 unfold descI descN
 exact Nat.le_trans (List.length_filter_le _ _) (by simp)
def setF(st fb:Int):List Nod->List Nat->Option (List Nod)
 |N,[]=>some N
 |N,k::l=>if(N.getD k n0).st=fb then none else setF st fb (N.set k {N.getD k n0 with st:=st}) l
theorem Ahw(st fb:Int):∀(N:List Nod) (l:List Nat) (k:Nat),setF st fb N (l ++ [k])=(setF st fb N l).bind fun M=>if(M.getD k n0).st=fb then none else some (M.set k {M.getD k n0 with st:=st})
 |N,[],k=>rfl
 |N,j::l,k=>by
  simp only[List.cons_append,setF]
  split
  .rfl
  .exact Ahw st fb _ l k
theorem Ag6{st fb:Int}:∀{N M:List Nod} {l:List Nat},setF st fb N l=some M->M.length=N.length
 |N,M,[],h=>by simp only[setF,Option.some.injEq]at h;rw[h]
 |N,M,k::l,h=>by
  simp only[setF]at h
  split at h
  .cases h
  .rw[Ag6 h,List.length_set]
theorem Ahx{st fb:Int}:∀{N:List Nod} {l l':List Nat},setF st fb N l=none->setF st fb N (l++l')=none
 |N,[],l',h=>by cases h
 |N,k::l,l',h=>by
  simp only[List.cons_append,setF]at h |-
  split
  .rfl
  .rw[if_neg (by assumption)]at h;exact Ahx h
theorem Alt{st fb:Int}{N M:List Nod}{l:List Nat}{j:Nat}(hj:j<l.length)(h:setF st fb N (l.take j)=some M) :
  setF st fb N (l.take (j+1))=if(M.getD l[j] n0).st=fb then none else some (M.set l[j] {M.getD l[j] n0 with st:=st}):=by
 rw[List.take_succ_eq_append_getElem hj,Ahw,h];rfl
theorem Ape(y:Nod)(st:Int):(nox y).set 239 (.int .i64 st)=nox {y with st:=st}:=by
 have h1:nox y=nc (toNd y):=(Afd y).symm
 have h2:nox {y with st:=st}=nc (toNd {y with st:=st}):=(Afd _).symm
 rw[h1,h2]
 unfold nc
 have hl:(bc (toNd y).b).length=238:=(Agz y.b).len
 rw[List.set_append_right _ _ (by omega),hl]
 rfl
theorem Apq{N:List Nod}{k:Nat}(hk:k<N.length)(st:Int):(N.flatMap nox).set (k*240+239) (.int .i64 st)=(N.set k {N[k]with st:=st}).flatMap nox:=by
 have e:=Abv (f:=nox) N k hk
 have hp:((N.take k).flatMap nox).length=k*240:=Ac6 N k hk (fun x _=>AbH x)
 rw[AhR N k _ hk,e,List.append_assoc,List.set_append_right _ _ (by omega),hp,Nat.add_sub_cancel_left,List.set_append_left _ _ (by rw[AbH];omega),Ape,List.append_assoc]
def SetP(Γ:Gam)(w:World)(r:Option (List Nod))(e:Ending)(w':World):Prop:=∃(x:Sl) (Γ':Gam),e=.returned (.tuple #[.agg [x.v].toArray,.bool r.isSome])/\NG Γ' x (r.getD [])/\Ext Γ w Γ' w'
theorem ArO{N:List Nod}{k:Nat}(hk:k<N.length)(rest:List Value):(fl [N.flatMap nox,rest])[k*240+239]? = some (.int .i64 N[k].st):=by
 have hl:=Aah (f:=nox) N (fun x _=>AbH x)
 have hb:(k+1)*240<=N.length*240:=Nat.mul_le_mul_right _ hk
 show(N.flatMap nox++rest)[k*240+239]? = _
 rw[List.getElem?_append_left (by omega),AhS (f:=nox) N (fun x _=>AbH x) k 239 hk (by omega),<-Afd]
 exact Al6 (Agz _)
theorem AqR{N:List Nod}{k:Nat}(hk:k<N.length)(rest:List Value)(st:Int):fl [(N.set k {N[k]with st:=st}).flatMap nox,rest]=(fl [N.flatMap nox,rest]).set (k*240+239) (.int .i64 st):=by
 have hl:=Aah (f:=nox) N (fun x _=>AbH x)
 have hb:(k+1)*240<=N.length*240:=Nat.mul_le_mul_right _ hk
 show _++rest=(N.flatMap nox++rest).set _ _
 rw[List.set_append_left _ _ (by omega),Apq hk]
theorem Aj8(Γ:Gam)(x:Sl)(N:List Nod)(A:Option Addr)(c:Nat)(l:List Nat)(st fb:Int)(w:World)(ok:Ok Γ w)(h:NG Γ x N)(h1:0<N.length)(hb:N.length<=4096)(hl:SlG Γ A l.length (nis l))(hlt:∀k∈l,k<N.length)(hlb:l.length<=65535) :
  Calls Tryz.prog 213 #[.agg [x.v].toArray,.slice A l.length c,.int .i64 st,.int .i64 fb] w (SetP Γ w (setF st fb N l)):=by
 have M:=bx (MM.start ok)
 have LN:=bx h.n
 have HG:=bx h
 have HB:=bx hb
 have HLB:=bx hlb
 have HLT:=bx hlt
 have HS:=bx hl
 have H1:=bx h1
 have ht:([[x.v]]:List (List Value)).map List.length = [1]:=rfl
 have hxb:x.n<=4096:=by rw[h.n];exact hb
 have ROW:Bx (∀w',Ok Γ w'->Row w' w'.heap.size 240 x.A x.n (N.flatMap nox)):=⟨fun w' o=>h.sl.row (size:=240) (by rw[Aah N (fun x _=>AbH x),h.n]) o⟩
 have OneN:Bx (One (N.flatMap nox)):=⟨AbM fun x _=>AbX x⟩
 have CAP:=bx h.cap.nil
 clear ok h hb hl hlt hlb h1
 change Calls Tryz.prog _ #[.agg (fl [[x.v]]).toArray,_,_,_] _ _
 go_enter Tryz.func213,Tryz.ntmps213
 go_wp2_with (first|((first|refine zBYo (ht) ?_|refine zALo (Aa1) ?_);clear M;intro w' g M)|refine zLDo (M.o.at1) ?_|(at_builtin;(with_reducible apply Aae (M.o.row0 80 240) elNo (ROW.o _ M.ok) CAP.o);exact OneN.o;(unfold maxLen;omega);omega;rfl;rfl;rfl;rfl;intro A' c' w' M';(simp only[Nat.zero_add,List.nil_append]at M');(replace M:=bx M';clear M'))|(refine zSSo M 0 [[.slice A' x.n c']] [[.slice A' x.n c']] (by rfl) (Aak _ _ _) ?_;clear M;intro w' M))
 have hx1:0<x.n:=by rw[LN.o];exact H1.o
 rename_i gt _ gres _ _ _ _
 obtain⟨gr,rest,rfl,hcap,M'⟩:=M.o.rowL hx1
 (replace M:=bx M';clear M')
 have HCAP:=bx hcap
 clear hcap ROW OneN CAP
 have hkl:l.length<=65535:=HLB.o
 go_wp2_with fail
 go_loopw [11] (fun j wr=>∃(k:Nat) (Nk:List Nod),k<=l.length/\j=.int .i64 k/\setF st fb N (l.take k)=some Nk/\MM Γ w Γ wr [⟨gr,[Nk.flatMap nox,rest],[(N.flatMap nox).length,rest.length]⟩,⟨g,[[.slice (some ⟨gr,0,none⟩) x.n c']],[1]⟩,⟨gres,[[.slice none 0 0]],[1]⟩,⟨gt,[[x.v]],[1]⟩] []) (fun j _=>l.length-(intOf j).toNat)
 case atStart=>exact⟨0,N,Nat.zero_le _,rfl,rfl,M.o⟩
 case round=>
  obtain⟨k,Nk,hk,rfl,hset,hM⟩:=hrel
  clear M
  have M:=bx hM
  have HSET:=bx hset
  have NL:Bx (Nk.length=N.length):=⟨Ag6 hset⟩
  clear hM hset
  by_cases hkn:k<l.length
  .obtain⟨gk,rfl,hc⟩:=Aet HS.o k hkn
   have hyN:=HLT.o _ (List.getElem_mem hkn)
   have ST:=bx (Alt hkn HSET.o)
   have LD:Bx (l=l.take (k+1)++l.drop (k+1)):=⟨(List.take_append_drop _ _).symm⟩
   generalize l[k]=y at *
   have hyK:y<Nk.length:=by rw[NL.o];exact hyN
   rw[nget hyK]at ST
   have HZ:Bx ((fl [Nk.flatMap nox,rest])[y*240+239]? = some (.int .i64 Nk[y].st)):=⟨ArO hyK rest⟩
   have FS:Bx (fl [(Nk.set y {Nk[y]with st:=st}).flatMap nox,rest]=(fl [Nk.flatMap nox,rest]).set (y*240+239) (.int .i64 st)):=⟨AqR hyK rest st⟩
   have hlt2:y*240+239<(fl [Nk.flatMap nox,rest]).length:=(List.getElem?_eq_some_iff.1 HZ.o).1
   have FL:Bx (([(Nk.set y {Nk[y]with st:=st}).flatMap nox,rest]:List (List Value)).map List.length = [(N.flatMap nox).length,rest.length]):=⟨by
    have h1:=Aah (f:=nox) (Nk.set y {Nk[y]with st:=st}) (fun x _=>AbH x)
    have h2:=Aah (f:=nox) N (fun x _=>AbH x)
    simp only[List.map_cons,List.map_nil,h1,h2,List.length_set,NL.o]⟩
   generalize hz:Nk[y]=z at *
   clear hz
   have hki:(k:Int)<(l.length:Int):=by omega
   have hk0:0<=(k:Int):=by omega
   have hyi:(y:Int)<(x.n:Int):=by rw[LN.o];omega
   have hy0:0<=(y:Int):=by omega
   have HKN:=bx hkn
   have QC:=bx (CL.cls (ls:=[1]) hc rfl M.ok)
   have HC:=bx hc
   have Q0:=bx M.o.at0.has.cls
   have Q1:=bx M.o.at1.cls
   clear hc
   by_cases hs:z.st=fb
   .have hsb:(z.st==fb)=true:=by simpa using hs
    have HN:Bx (setF st fb N l=none):=⟨by rw[LD.o];exact Ahx (ST.o.trans (if_pos hs))⟩
    clear hs ST
    go_wp2_with fail
    refine zRG ?_
    repeat((go_big_quiet_want;first|(first|((first|((with_reducible apply Ah7 Q0.o HZ.o);rfl;rfl;exact zots)|refine zQL Q1.o rfl ?_|refine zQR QC.o rfl ?_);go_big_quiet_on;refine zNM ?_))|(refine zQO ?_;go_big_quiet_on)))
    (refine zQN ?_;clear M;intro w4 M)
    clear Q0 Q1 QC
    go_wp2_with (first|refine zBDo 46 [] [.slice none 0 0] (by kernel_rfl) ?_|(refine zSSo M 2 [[.slice none 0 0]] [[.slice none 0 0]] (by rfl) (Aak _ _ _) ?_;clear M;intro w' M))
    (try refine zsm ?_);refine bodyPost_ret (AaN (by rfl) _ M.o.at2 (by rfl) Aap rfl) rfl ?_
    unfold SetP
    rw[HN.o]
    exact⟨sl0,Γ,rfl,slR0 _,M.o.ext⟩
   .have hsb:(z.st==fb)=false:=by simpa using hs
    have ST':=bx (ST.o.trans (if_neg hs))
    clear hs ST
    go_wp2_with fail
    refine zRG ?_
    repeat((go_big_quiet_want;first|(first|((first|((with_reducible apply Ah7 Q0.o HZ.o);rfl;rfl;exact zots)|refine zQL Q1.o rfl ?_|refine zQR QC.o rfl ?_);go_big_quiet_on;refine zNM ?_))|(refine zQO ?_;go_big_quiet_on)))
    (refine zQN ?_;clear M;intro w4 M)
    clear Q0 Q1 QC
    go_wp2_with fail
    refine AaB [9] (.steps [(1,0),(0,1),(1,2),(1,3),(1,4),(0,5),(1,6),(1,7),(1,8),(3,9)] .leaf) (by kernel_rfl) (by kernel_rfl) ?_
    simp only[MixT6,MT.steps,stepAt,List.getD_cons_zero,List.getD_cons_succ]
    replace M:=bx (M.o.drew)
    have Q1:=bx M.o.at1.cls
    have QC:=bx (CL.cls (ls:=[1]) HC.o rfl M.ok)
    (repeat(first|(with_reducible refine wpQuiet_nil ?_)|((go_big_quiet_want;first|(first|((first|refine zQL Q1.o rfl ?_|refine zQR QC.o rfl ?_);go_big_quiet_on;refine zNM ?_))|(refine zQO ?_;go_big_quiet_on)))))
    clear Q1 QC
    refine AcB M.o 0 (.int .i64 st) (P':=[(Nk.set y {z with st:=st}).flatMap nox,rest]) rfl hlt2 FS.o FL.o rfl rfl rfl Ac5 rfl rfl rfl ?_
    intro w7 M'
    simp only[List.set_cons_zero]at M'
    (replace M:=bx M';clear M')
    refine zNM ?_
    refine NoPanic.normal ?_
    go_wp2_with fail
    go_roundw
    case rel=>exact⟨k+1,_,by omega,by go_num,ST'.o,M.o⟩
    case measure=>have:=HKN.o;simp[intOf];omega
  .obtain rfl:k=l.length:=by omega
   have HT:Bx (setF st fb N l=some Nk):=⟨by have:=HSET.o;rwa [List.take_of_length_le (Nat.le_refl _)]at this⟩
   go_wp2_with (first|refine zLDo (M.o.at1) ?_|(refine zSSo M 2 [[.slice (some ⟨gr,0,none⟩) x.n c']] [[.slice (some ⟨gr,0,none⟩) x.n c']] (by rfl) (Aak _ _ _) ?_;clear M;intro w' M))
   obtain⟨Γ',h1,h2,h3⟩:=M.o.frzL
   (try refine zsm ?_);refine bodyPost_ret (AaN (by rfl) _ h3.at1 (by rfl) Aap rfl) rfl ?_
   unfold SetP
   rw[HT.o]
   exact⟨⟨some ⟨gr,0,none⟩,x.n,c'⟩,Γ',rfl,⟨by show x.n=Nk.length;rw[NL.o,LN.o],HCAP.o,fun _=>⟨gr,rest,rfl,h1⟩⟩,h3.ext⟩
end
end Go.Proofs.YtpaihpeoiliioaaGreat
