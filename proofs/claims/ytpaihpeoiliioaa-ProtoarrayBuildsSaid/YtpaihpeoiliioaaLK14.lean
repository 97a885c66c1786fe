/- Texts joined: what the walks of this claim stand on (part 14). -/
import Derived.Test.YtpaihpeoiliioaaLK7
import Derived.Test.YtpaihpeoiliioaaLK8
set_option linter.all false
set_option maxRecDepth 20000
set_option maxHeartbeats 40000000
namespace Go.Proofs.Ytpaihpeoiliioaa
open Go.RowKit Old
theorem elBl:ElT Try.prog 68 50 238 336:=Acq Try.underlying68 (by kernel_rfl) (by decide) (by decide)
def later(at_:U)(l:List Blk):List Blk:=l.filter fun o=>decide (at_.n<o.slot.n)
theorem Ala{a:U}{l:List Blk}{k:Nat}(hk:k<l.length)(h:a.n<l[k].slot.n):later a (l.take (k+1))=later a (l.take k) ++ [l[k]]:=by
 unfold later;rw[List.take_add_one,List.getElem?_eq_getElem hk,List.filter_append];simp[h]
theorem AmK{a:U}{l:List Blk}{k:Nat}(hk:k<l.length)(h:¬a.n<l[k].slot.n):later a (l.take (k+1))=later a (l.take k):=by
 unfold later;rw[List.take_add_one,List.getElem?_eq_getElem hk,List.filter_append];simp;omega
theorem Ahu(a:U)(l:List Blk):(later a l).length<=l.length:=List.length_filter_le _ _
def pruS(s:Sto)(k:Nat)(at_:U):Sto:={s with nodes:=pruneN s.nodes k,boost:=if fndI (pruneN s.nodes k) s.boost<0 then r0 else s.boost,orph:=later at_ s.orph}
def updS(s:Sto)(a b:Cp):Sto:=if b=s.fin then {s with tabs:=dropT s.tabs a.e.n,just:=a,fin:=b}else pruS {s with tabs:=dropT s.tabs a.e.n,just:=a,fin:=b} (fndI s.nodes b.r).toNat (stU b.e s.c.spe)
def updR(s:Sto)(j f:Cp):Sto:=if canU s (laterC s.just j) (laterC s.fin f)=true then updS s (laterC s.just j) (laterC s.fin f)else s
theorem AmU{s:Sto}{a b:Cp}(hc:canU s a b=true):∃k:Nat,k<s.nodes.length/\fndI s.nodes b.r=(k:Int):=by
 unfold canU at hc
 simp only[Bool.and_eq_true,decide_eq_true_eq]at hc
 obtain⟨k,hk,e,_⟩:=AcV hc.2.1
 exact⟨k,hk,e⟩
abbrev cps4(a b c d:Cp):List (List Value):=cpP a++cpP b++cpP c++cpP d
abbrev cps4L:List Nat:=[1,32,1,32,1,32,1,32]
theorem AjG(a b c d:Cp):(cps4 a b c d).map List.length=cps4L:=by simp[cps4,cpP,AaU]
theorem AnC(a b c d:Cp):fl (cps4 a b c d) = [a,b,c,d].flatMap fun c=>fl (cpP c):=by simp[Abd]
theorem Akh(ps:List (Nat × Value)):Try.prog.builtSlice 44 4 ps=Instr.fill (fun i=>some (i*33,33)) (fl (cps4 cp0 cp0 cp0 cp0)).toArray ps:=by kernel_rfl
theorem Alw(a b c d:Cp):Try.prog.builtSlice 44 4 [(0,.agg (fl (cpP a)).toArray),(1,.agg (fl (cpP b)).toArray),(2,.agg (fl (cpP c)).toArray),(3,.agg (fl (cpP d)).toArray)]=some (fl (cps4 a b c d)).toArray:=by
 rw[Akh]
 refine AaD (Q:=cpP a) (AjG _ _ _ _) rfl rfl rfl (AaO a) rfl fun hl=>?_
 refine AaD (Q:=cpP b) hl rfl rfl rfl (AaO b) rfl fun hl=>?_
 refine AaD (Q:=cpP c) hl rfl rfl rfl (AaO c) rfl fun hl=>?_
 refine AaD (Q:=cpP d) hl rfl rfl rfl (AaO d) rfl fun hl=>?_
 rfl
theorem Al3{N:List Nod}(h:Lk (upsN N))(i:Int)(slot:U):atI N i slot = -1\/∃k:Nat,k<N.length/\atI N i slot=(k:Int):=by
 have key:∀(l:List Nat) (a:Int),(a = -1\/∃k:Nat,k<N.length/\a=(k:Int))->(∀k∈l,k<N.length) ->
   (l.foldl (fun a k=>if(N.getD k n0).b.slot.n<=slot.n then(k:Int)else a) a = -1\/∃k:Nat,k<N.length/\l.foldl (fun a k=>if(N.getD k n0).b.slot.n<=slot.n then(k:Int)else a) a=(k:Int)):=by
  intro l
  induction l with
  |nil=>intro a ha _;exact ha
  |cons x t ih=>
   intro a ha hl
   refine ih _ ?_ (fun k hk=>hl k (by simp[hk]))
   simp only
   by_cases hx:(N.getD x n0).b.slot.n<=slot.n
   .rw[if_pos hx];exact .inr ⟨x,hl x (by simp),rfl⟩
   .rw[if_neg hx];exact ha
 exact key _ _ (.inl rfl) fun k hk=>(Aek h hk).1
def FitP(Γ:Gam)(w:World)(s:Sto)(b:Blk)(e:Ending)(w':World):Prop:=∃r:Bool,e=.returned (.bool r)/\(r=true->ordrd s b=true)/\Ext Γ w Γ w'
structure ChkOk(s:Sto)(b:Blk):Prop where
 nz:b.root≠r0
 new:s.known b.root=false
 now:b.slot.n<=s.now.n
 par:∃p,∃hp:p<s.nodes.length,fndI s.nodes b.parent=(p:Int)/\s.nodes[p].b.slot.n<b.slot.n/\s.nodes[p].st≠2/\fits11 s.c.ttd s.nodes[p].b b=true
 ord:ordrd s b=true
 room:(s.nodes.length:Int)<s.c.nl
def ChbP(Γ:Gam)(w:World)(s:Sto)(b:Blk)(e:Ending)(w':World):Prop:=∃er:Int,e=.returned (.int .i64 er)/\((er=0->ChkOk s b)/\er≠21)/\Ext Γ w Γ w'
structure CanOk(s:Sto)(a b:Cp):Prop where
 ex:∃i k,∃hi:i<s.nodes.length,∃hk:k<s.nodes.length,fndI s.nodes a.r=(i:Int)/\fndI s.nodes b.r=(k:Int)/\s.nodes[i].st≠2/\s.nodes[k].st≠2/\ancI s.nodes (k:Int) (i:Int)=true/\s.nodes[i].b.root=a.r/\s.nodes[k].b.root=b.r
 le:b.e.n<=a.e.n
 now:a.e.n<=(epN s.now s.c.spe).n
 tab:∃t∈s.tabs,t.c=a
theorem AiS{s:Sto}{a b:Cp}(h:canU s a b=true):CanOk s a b:=by
 unfold canU at h
 simp only[Bool.and_eq_true,decide_eq_true_eq]at h
 obtain⟨h1,h2,h3,h4,h5,h6,h7,h8,h9,h10⟩:=h
 obtain⟨i,hi,e1,r1⟩:=AcV h1
 obtain⟨k,hk,e2,r2⟩:=AcV h2
 rw[e1,Int.toNat_natCast,nget hi]at h3
 rw[e2,Int.toNat_natCast,nget hk]at h4
 rw[e1,e2]at h7
 refine⟨⟨i,k,hi,hk,e1,e2,h3,h4,h7,r1,r2⟩,h8,h9,?_⟩
 rcases AaV (fun t=>decide (t.c=a)) s.tabs with⟨h1,_⟩|⟨j,hj,_,h2,_⟩
 .omega
 .exact⟨_,List.getElem_mem hj,of_decide_eq_true h2⟩
structure CfOk(c:Cf)(bal:List U):Prop where
 spe:1<=c.spe.n/\c.spe.n<=64
 bp:c.bp.n<=100
 nb:bal.length<=1024
 nl:1<=c.nl/\c.nl<=4096
 ol:0<=c.ol/\c.ol<=64
 el:0<=c.el/\c.el<=256
 tl:1<=c.tl/\c.tl<=64
 rl:0<=c.rl/\c.rl<=256
 bo:1<=c.bo.n/\c.bo.n<=1048576
 gen:c.gen≠r0
 sum:tbE bal (bal.length:Int)=0
structure SI(k:Nat)(s:Sto):Prop where
 t:TI s.nodes
 spe:SpeOk s
 nl:(s.nodes.length:Int)<=s.c.nl/\s.c.nl<=14
 ol:(s.orph.length:Int)<=s.c.ol/\s.c.ol<=8
 el:(s.early.length:Int)<=s.c.el/\s.c.el<=8
 tl:(s.tabs.length:Int)<=s.c.tl/\s.c.tl<=8
 bp:s.c.bp.n<=100
 bal:1<=s.bal.length/\s.bal.length<=6
 lat:s.lat.length=s.bal.length
 just:∃j,∃hj:j<s.nodes.length,s.nodes[j].b.root=s.just.r/\s.nodes[j].st≠2
 fin:∃h:0<s.nodes.length,s.nodes[0].b.root=s.fin.r
 ord:∀n∈s.nodes,ordrd s n.b=true/\n.b.slot.n<=s.now.n
 tab:∃t∈s.tabs,t.c=s.just
 tbs:∀t∈s.tabs,tbE t.b (s.bal.length:Int)=0
 att:∀a∈s.early,a.l.length<=100
 eqv:s.eqv.length<=100*k
 now:s.now.n<=k
 cf:CfOk s.c s.bal
 lv:∀v∈s.lat,v.has=false->v=vo0
 eqr:∀x∈s.eqv,0<=x/\x<(s.bal.length:Int)
 eqa:s.eqv.Pairwise (· < ·)
 asc:AscQ s.tabs
theorem SI.more{k k':Nat}{s:Sto}(h:SI k s)(hk:k<=k'):SI k' s:={h with eqv:=by have:=h.eqv;omega,now:=by have:=h.now;omega}
theorem Adg{T:List Tbl}{e:Nat}{t:Tbl}:t∈dropT T e↔t∈T/\e<=t.c.e.n:=by unfold dropT;simp
theorem Afi{T:List Tbl}(h:AscQ T)(e:Nat):AscQ (dropT T e):=List.Pairwise.sublist List.filter_sublist h
theorem Agi(T:List Tbl)(e:Nat):(dropT T e).length<=T.length:=List.length_filter_le _ _
structure UpdK(s s':Sto):Prop where
 c:s'.c=s.c
 bal:s'.bal=s.bal
 lat:s'.lat=s.lat
 eqv:s'.eqv=s.eqv
 early:s'.early=s.early
 now:s'.now=s.now
 nodes:s'.nodes.length<=s.nodes.length
 tabs:s'.tabs.length<=s.tabs.length
 orph:s'.orph.length<=s.orph.length
theorem UpdK.refl(s:Sto):UpdK s s:=⟨rfl,rfl,rfl,rfl,rfl,rfl,Nat.le_refl _,Nat.le_refl _,Nat.le_refl _⟩
theorem UpdK.trans{s s' s'':Sto}(h:UpdK s s')(h':UpdK s' s''):UpdK s s'':=
 ⟨h'.c.trans h.c,h'.bal.trans h.bal,h'.lat.trans h.lat,h'.eqv.trans h.eqv,h'.early.trans h.early,h'.now.trans h.now,Nat.le_trans h'.nodes h.nodes,Nat.le_trans h'.tabs h.tabs,Nat.le_trans h'.orph h.orph⟩
theorem Aed{s:Sto}(t:TI s.nodes)(j f:Cp):UpdK s (updR s j f)/\TI (updR s j f).nodes:=by
 unfold updR
 split
 .rename_i hc
  have hok:=AiS hc
  obtain⟨i,k,hi,hk,e1,e2,h3,h4,h5,r1,r2⟩:=hok.ex
  unfold updS
  split
  .exact⟨⟨rfl,rfl,rfl,rfl,rfl,rfl,Nat.le_refl _,Agi _ _,Nat.le_refl _⟩,t⟩
  .unfold pruS
   rw[e2,Int.toNat_natCast]
   have hp:=AgQ t hk
   exact⟨⟨rfl,rfl,rfl,rfl,rfl,rfl,hp.len,Agi _ _,Ahu _ _⟩,hp.t⟩
 .exact⟨UpdK.refl s,t⟩
theorem Aja{k:Nat}{s:Sto}(h:SI k s)(j f:Cp):SI k (updR s j f):=by
 obtain⟨K,T⟩:=Aed h.t j f
 have base:(∃i,∃hi:i<(updR s j f).nodes.length,(updR s j f).nodes[i].b.root=(updR s j f).just.r/\(updR s j f).nodes[i].st≠2)/\(∃h:0<(updR s j f).nodes.length,(updR s j f).nodes[0].b.root=(updR s j f).fin.r) /\
   (∀n∈(updR s j f).nodes,∃m∈s.nodes,n.b=m.b)/\(∃t∈(updR s j f).tabs,t.c=(updR s j f).just)/\(∀t∈(updR s j f).tabs,t∈s.tabs)/\AscQ (updR s j f).tabs:=by
  unfold updR
  split
  .rename_i hc
   have hok:=AiS hc
   obtain⟨i,q,hi,hq,e1,e2,h3,h4,h5,r1,r2⟩:=hok.ex
   obtain⟨t,ht,et⟩:=hok.tab
   have htab:∃x∈dropT s.tabs (laterC s.just j).e.n,x.c=laterC s.just j:=⟨t,Adg.2 ⟨ht,by rw[et];exact Nat.le_refl _⟩,et⟩
   unfold updS
   split
   .rename_i he
    refine⟨⟨i,hi,r1,h3⟩,⟨h.t.pos,?_⟩,fun n hn=>⟨n,hn,rfl⟩,htab,fun x hx=>(Adg.1 hx).1,Afi h.asc _⟩
    obtain⟨_,e0⟩:=h.fin
    rw[e0];simp only;rw[he]
   .unfold pruS
    rw[e2,Int.toNat_natCast]
    have hp:=AgQ h.t hq
    obtain⟨p,hp1,hp2,hp3⟩:=hp.has i hi h5
    refine⟨⟨p,hp1,by rw[hp2];exact r1,by rw[hp3];exact h3⟩,⟨hp.t.pos,?_⟩,fun n hn=>?_,htab,fun x hx=>(Adg.1 hx).1,Afi h.asc _⟩
    .have:=hp.first hq hp.t.pos
     simp only
     rw[this]
     exact r2
    .obtain⟨m,hm,hb,_⟩:=hp.src n hn
     exact⟨m,hm,hb⟩
  .obtain⟨i,hi,r1,h3⟩:=h.just
   exact⟨⟨i,hi,r1,h3⟩,h.fin,fun n hn=>⟨n,hn,rfl⟩,h.tab,fun _ hx=>hx,h.asc⟩
 obtain⟨b1,b2,b3,b4,b5,b6⟩:=base
 have n1:=h.nl;have n2:=h.ol;have n3:=h.el;have n4:=h.tl
 have k1:=K.nodes;have k2:=K.orph;have k3:=K.tabs
 exact {t:=T,spe:=⟨by rw[K.c];exact h.spe.1,by rw[K.c];exact h.spe.2⟩,nl:=by rw[K.c];omega,ol:=by rw[K.c];omega,el:=by rw[K.c,K.early];exact n3,tl:=by rw[K.c];omega,bp:=by rw[K.c];exact h.bp,bal:=by rw[K.bal];exact h.bal,lat:=by rw[K.lat,K.bal];exact h.lat,just:=b1,fin:=b2,tab:=b4,tbs:=fun t ht=>by rw[K.bal];exact h.tbs t (b5 t ht),att:=by rw[K.early];exact h.att,eqv:=by rw[K.eqv];exact h.eqv,now:=by rw[K.now];exact h.now,cf:=by rw[K.c,K.bal];exact h.cf,lv:=by rw[K.lat];exact h.lv,eqr:=by rw[K.eqv,K.bal];exact h.eqr,eqa:=by rw[K.eqv];exact h.eqa,asc:=b6,ord:=fun n hn=>by
         obtain⟨m,hm,hb⟩:=b3 n hn
         obtain⟨o1,o2⟩:=h.ord m hm
         rw[hb,K.now]
         refine⟨?_,o2⟩
         unfold ordrd at o1 |-
         rw[K.c];exact o1}
theorem AiP{s:Sto}{b:Blk}(t:TI s.nodes)(h:ChkOk s b)(hn:s.nodes.length<4096):∃u:Nat,∃_:u<s.nodes.length,insN s.nodes b (statOf b)=(0,s.nodes ++ [⟨b,(u:Int),statOf b⟩])/\TI (s.nodes ++ [⟨b,(u:Int),statOf b⟩]):=by
 obtain⟨p,hp,e,h1,h2,h3⟩:=h.par
 have hk:=h.new
 unfold Sto.known at hk
 rw[Bool.or_eq_false_iff]at hk
 have hk2:fndI s.nodes b.root<0:=by have:=of_decide_eq_false hk.2;omega
 have hst:isStat (statOf b)=true:=by unfold statOf isStat;split<;>rfl
 have hroot:s.nodes[p].b.root=b.parent:=by
  obtain⟨k,hk,e',r⟩:=AcV (N:=s.nodes) (r:=b.parent) (by omega)
  obtain rfl:k=p:=by omega
  exact r
 refine⟨p,hp,?_,t.push hp h.nz (Ai4 hk2) hroot h1 h2 (fun hpay=>?_)⟩
 .unfold insN
  rw[if_neg (by rw[hst];exact fun e=>(by cases e)),if_neg (by omega),e,if_neg (by omega),Int.toNat_natCast,nget hp,if_neg (by omega),if_neg (by omega)]
 .unfold fits11 at h3
  rw[if_pos hpay]at h3
  exact of_decide_eq_true h3
def insS(s:Sto)(b:Blk):Sto:=
 let s2:=updR {s with nodes:=(insN s.nodes b (statOf b)).2} b.just b.fin
 if(epN b.slot s2.c.spe).n<(epN s2.now s2.c.spe).n then updR s2 b.pj b.pf else s2
theorem Ani{k:Nat}{s:Sto}{b:Blk}(h:SI k s)(hc:ChkOk s b):SI k (insS s b):=by
 obtain⟨u,hu,e,t1⟩:=AiP h.t hc (by have:=h.nl;omega)
 have h1:SI k {s with nodes:=s.nodes ++ [⟨b,(u:Int),statOf b⟩]}:=by
  obtain⟨j,hj,r1,r2⟩:=h.just
  obtain⟨h0,r0'⟩:=h.fin
  have hl:(s.nodes ++ [(⟨b,(u:Int),statOf b⟩:Nod)]).length=s.nodes.length+1:=by simp
  exact {h with
   t:=t1
   spe:=⟨h.spe.1,h.spe.2⟩
   nl:=by have:=hc.room;have:=h.nl;simp only[hl];omega
   just:=⟨j,by simp only[hl];omega,by simp only;rw[List.getElem_append_left hj];exact r1,by simp only;rw[List.getElem_append_left hj];exact r2⟩
   fin:=⟨by simp only[hl];omega,by simp only;rw[List.getElem_append_left h0];exact r0'⟩
   ord:=fun n hn=>by
    rcases List.mem_append.1 hn with hn|hn
    .exact h.ord n hn
    .have:n=⟨b,(u:Int),statOf b⟩:=by simpa using hn
     subst this
     exact⟨hc.ord,hc.now⟩}
 unfold insS
 rw[e]
 simp only
 have h2:=Aja h1 b.just b.fin
 split
 .exact Aja h2 _ _
 .exact h2
theorem Am4{s:Sto}{b:Blk}(t:TI s.nodes)(hc:ChkOk s b)(hn:s.nodes.length<4096):(insS s b).now=s.now/\(insS s b).orph.length<=s.orph.length/\(insS s b).c=s.c:=by
 obtain⟨u,hu,e,t1⟩:=AiP t hc hn
 unfold insS
 rw[e]
 simp only
 obtain⟨k1,t2⟩:=Aed (s:={s with nodes:=s.nodes ++ [⟨b,(u:Int),statOf b⟩]}) t1 b.just b.fin
 split
 .obtain⟨k2,_⟩:=Aed t2 b.pj b.pf
  exact⟨k2.now.trans k1.now,Nat.le_trans k2.orph k1.orph,k2.c.trans k1.c⟩
 .exact⟨k1.now,k1.orph,k1.c⟩
theorem elAt:ElT Try.prog 67 149 67 104:=Acq Try.underlying67 (by kernel_rfl) (by decide) (by decide)
def AttP(Γ:Gam)(w:World)(s:Sto)(a:Att)(e:Ending)(w':World):Prop:=
 (∃er:Int,er≠0/\er≠21/\StE Γ w er st0 e w')\/(VList a.l (s.bal.length:Int)/\(StE Γ w 0 {s with lat:=(castV s.lat a.t.e a.r a.l).1} e w'\/((s.early.length:Int)<s.c.el/\StE Γ w 0 {s with early:=s.early ++ [a]} e w')))
theorem VList.mem{l:List Int}{n:Int}(h:VList l n):∀y∈l,0<=y/\y<n:=fun y hy=>by
 obtain⟨j,hj,rfl⟩:=List.getElem_of_mem hy
 exact(h.2 j hj hj).1
theorem VList.pos{l:List Int}{n:Int}(h:VList l n):0<n:=by
 obtain⟨y,t,e⟩:=List.exists_cons_of_ne_nil h.1
 have:=h.mem y (by rw[e];simp)
 omega
theorem AmZ{Γ:Gam}{X:List (Att × Sl)}{T:List Att}{a:Att}{y:Sl}{A:Option Addr}{n c:Nat}(hX:X.map Prod.fst=T)(hA:∀x∈X,AtG Γ x.1 x.2)(hn:n=T.length)(h1:CapOk A (n+1) c)(h2:SlG Γ A (n+1) (X.flatMap atx++fl (atP a y)))(ha:AtG Γ a y):AtsG Γ ⟨A,n+1,c⟩ (T ++ [a]):=by
 refine⟨X ++ [(a,y)],by rw[List.map_append,hX];rfl,fun x hx=>?_,by simp[hn],h1,?_⟩
 .rcases List.mem_append.1 hx with hx|hx
  .exact hA x hx
  .have:x=(a,y):=by simpa using hx
   subst this;exact ha
 .have e:(X ++ [(a,y)]).flatMap atx=X.flatMap atx++fl (atP a y):=by simp
  rw[e];exact h2
def CasP(Γ:Gam)(w:World)(s:Sto)(v:Sls)(l:List Vo)(e:Ending)(w':World):Prop:=∃(x1:Sl) (Γ':Gam),e=.returned (.agg (fl (stP {s with lat:=l} {v with lat:=x1})).toArray)/\SlR Γ' x1 l.length (l.flatMap vox)/\Ext Γ w Γ' w'
theorem MM.frzD{Γ0 Γ:Gam}{w0 w:World}{L:List Ent}{R:List RowE}{A:Option Addr}{c:Nat}{e:TypeId}{size n:Nat}{xs:List Value}(M:MM Γ0 w0 Γ w L (⟨.slice A n c,e,size,n,xs⟩::R)) :
  ∃Γ1,CapOk A n c/\SlG Γ1 A n xs/\Le Γ Γ1/\(∀w',Below w.heap.size w w'->Ok Γ1 w')/\∀g,Γ1 g=Γ g\/Γ1 g=some xs:=by
 have hr:=M.rows _ (List.mem_cons_self ..)
 have ho:=M.roff _ (List.mem_cons_self ..)
 rcases hr.2 with⟨h1,h2⟩|⟨g,cap,cur,h1,h2,h3,h4,h5,h6,h7⟩
 .simp only at h1 h2
  injection h1 with e1 e2 e3
  subst e1 e2 e3
  exact⟨Γ,⟨Nat.le_refl _,Nat.zero_le _,fun _=>rfl⟩,fun h=>absurd h (Nat.lt_irrefl _),Le.refl _,fun w' hb=>M.ext.ok.below hb,fun _=>.inl rfl⟩
 .simp only at h1 h3 h6 h7
  injection h1 with e1 e2 e3
  subst e1 e3
  obtain⟨hn,_⟩:=ho g rfl
  have hh:Has w g (xs++cur.toList.drop (n*size)):=⟨e,by rw[<-h7,List.take_append_drop];simpa using h3⟩
  have hok:Ok (Γ.add g xs) w:=fun k cs ek=>by
   by_cases hkg:k=g
   .subst hkg
    simp only[Gam.add,if_true,Option.some.injEq]at ek
    subst ek
    exact⟨_,hh⟩
   .simp only[Gam.add,if_neg hkg]at ek;exact M.ext.ok k cs ek
  refine⟨Γ.add g xs,⟨h4,h5,(fun h=>by cases h)⟩,fun _=>⟨g,[],rfl,by simp[Gam.add]⟩,AfU hn,fun w' hb=>hok.below hb,fun k=>?_⟩
  by_cases hkg:k=g
  .right;simp[Gam.add,hkg]
  .left;simp[Gam.add,hkg]
theorem SlG.cutD{Γ Γ1 Γ2:Gam}{w w':World}{A:Option Addr}{n:Nat}{xs row:List Value}(h:SlG Γ2 A n xs)(hx:Ext Γ1 w Γ2 w')(hd:∀g,Γ1 g=Γ g\/Γ1 g=some row)(hne:∀post,row≠xs++post):SlG (cutG Γ Γ2 w) A n xs:=fun hn=>by
 obtain⟨g,post,e,hg⟩:=h hn
 refine⟨g,post,e,?_⟩
 unfold cutG
 by_cases hlt:g<w.heap.size
 .rw[if_pos hlt]
  cases h1:Γ1 g with
  |none=>rw[hx.new g h1 hlt]at hg;cases hg
  |some cs=>
   have h2:=hx.le g cs h1
   rw[hg]at h2
   injection h2 with h2
   rcases hd g with h3|h3
   .rw[<-h3,h1,h2]
   .rw[h1]at h3
    injection h3 with h3
    exact absurd (h3.symm.trans h2.symm) (hne post)
 .rw[if_neg hlt];exact hg
theorem Al7{l:List Vo}{Y:List (Att × Sl)}(hl:0<l.length):∀post,Y.flatMap atx≠l.flatMap vox++post:=fun post e=>by
 cases l with
 |nil=>simp at hl
 |cons a t=>
  cases Y with
  |nil=>simp[vox,voP,fl]at e
  |cons y u=>simp[vox,voP,fl,atx,atP]at e
end Go.Proofs.Ytpaihpeoiliioaa
