/- Texts joined: what the walks of this claim stand on (part 20 of 43). -/
import Derived.Test.YtmgeheaneohldaaGreatYK7
import Derived.Test.YtmgeheaneohldaaGreatYK8
import Derived.Test.YtmgeheaneohldaaGreatYK9
import Derived.Test.YtmgeheaneohldaaGreatYK10
import Derived.Test.YtmgeheaneohldaaGreatYK11
import Derived.Test.YtmgeheaneohldaaGreatYK12
import Derived.Test.YtmgeheaneohldaaGreatYK13
import Derived.Test.YtmgeheaneohldaaGreatYK14
import Derived.Test.YtmgeheaneohldaaGreatYK15
import Derived.Test.YtmgeheaneohldaaGreatYK16
import Derived.Test.YtmgeheaneohldaaGreatYK17
import Derived.Test.YtmgeheaneohldaaGreatYK18
import Derived.Test.YtmgeheaneohldaaGreatYK19
set_option linter.all false
set_option maxRecDepth 20000
set_option maxHeartbeats 40000000
namespace Go.Proofs.YtmgeheaneohldaaGreat
open Go.RowKit Go.Proofs.YtmgeheaneohldaaGreat.Old
theorem AcE{s:Sto}{a b:Cp}(h:canU s a b=false):canR s a b=.tuple #[.agg (fl (cpP cp0)).toArray,.agg (fl (cpP cp0)).toArray,.bool false]:=by unfold canR;rw[h];rfl
theorem AiH{s:Sto}{a b:Cp}(h:canU s a b=true):canR s a b=.tuple #[.agg (fl (cpP a)).toArray,.agg (fl (cpP b)).toArray,.bool true]:=by unfold canR;rw[h];rfl
theorem Afx(Γ:Gam)(s:Sto)(v:Sls)(j f:Cp)(hs:SpeOk s)(hk:Lk (upsN s.nodes))(hb:s.nodes.length<=4096)(ht:s.tabs.length<=65535)(w:World)(ok:Ok Γ w)(h:StG Γ v s) :
  Calls Tryz.prog 166 #[.agg (fl (stP s v)).toArray,.agg (fl (cpP j)).toArray,.agg (fl (cpP f)).toArray] w fun e w'=>e=.returned (canR s (laterC s.just j) (laterC s.fin f))/\Ext Γ w Γ w':=by
 obtain⟨ca,hca⟩:∃ca,laterC s.just j=ca:=⟨_,rfl⟩
 obtain⟨cb,hcb⟩:∃cb,laterC s.fin f=cb:=⟨_,rfl⟩
 have HD:canU s ca cb=(decide (0<=fndI s.nodes ca.r)&&(decide (0<=fndI s.nodes cb.r)&&(decide ((s.nodes.getD (fndI s.nodes ca.r).toNat n0).st≠2)&&(decide ((s.nodes.getD (fndI s.nodes cb.r).toNat n0).st≠2)&&(earB s (fndI s.nodes ca.r).toNat ca.e&&(earB s (fndI s.nodes cb.r).toNat cb.e &&
  (ancI s.nodes (fndI s.nodes cb.r) (fndI s.nodes ca.r)&&(decide (cb.e.n<=ca.e.n)&&(decide (ca.e.n<=(epN s.now s.c.spe).n)&&decide (0<=idxI (fun t=>decide (t.c=ca)) s.tabs)))))))))):=rfl
 rw[hca,hcb]
 rcases AcD s.nodes ca.r with n1|⟨i,hi,n1⟩
 .rw[AcE (by rw[HD,n1];rfl)]
  exact AnC Γ s v j f hs hk hb ht w ok h ca cb hca hcb n1
 rcases AcD s.nodes cb.r with n2|⟨k,hk2,n2⟩
 .rw[AcE (by rw[HD,n2];simp)]
  exact AnB Γ s v j f hs hk hb ht w ok h ca cb hca hcb i n1 n2
 have hi0:decide (0<=(i:Int))=true:=decide_eq_true (by omega)
 have hk0:decide (0<=(k:Int))=true:=decide_eq_true (by omega)
 rw[n1,n2,hi0,hk0,Int.toNat_natCast,Int.toNat_natCast,nget hi,nget hk2,Bool.true_and,Bool.true_and]at HD
 by_cases c1:s.nodes[i].st=2
 .rw[AcE (by rw[HD,decide_eq_false (by simpa using c1)];rfl)]
  exact AnL Γ s v j f hs hk hb ht w ok h ca cb hca hcb i k hi hk2 n1 n2 (by simp[c1])
 rw[decide_eq_true (show s.nodes[i].st≠2 from c1),Bool.true_and]at HD
 have d1:(s.nodes[i].st==2)=false:=beq_eq_false_iff_ne.2 c1
 by_cases c2:s.nodes[k].st=2
 .rw[AcE (by rw[HD,decide_eq_false (by simpa using c2)];rfl)]
  exact AnK Γ s v j f hs hk hb ht w ok h ca cb hca hcb i k hi hk2 n1 n2 d1 (by simp[c2])
 rw[decide_eq_true (show s.nodes[k].st≠2 from c2),Bool.true_and]at HD
 have d2:(s.nodes[k].st==2)=false:=beq_eq_false_iff_ne.2 c2
 cases c3:earB s i ca.e with
 |false=>rw[AcE (by rw[HD,c3];rfl)];exact AnJ Γ s v j f hs hk hb ht w ok h ca cb hca hcb i k hi hk2 n1 n2 d1 d2 c3
 |true=>
 rw[c3,Bool.true_and]at HD
 cases c4:earB s k cb.e with
 |false=>rw[AcE (by rw[HD,c4];rfl)];exact AnI Γ s v j f hs hk hb ht w ok h ca cb hca hcb i k hi hk2 n1 n2 d1 d2 c3 c4
 |true=>
 rw[c4,Bool.true_and]at HD
 cases c5:ancI s.nodes (k:Int) (i:Int)with
 |false=>rw[AcE (by rw[HD,c5];rfl)];exact AnH Γ s v j f hs hk hb ht w ok h ca cb hca hcb i k hi hk2 n1 n2 d1 d2 c3 c4 c5
 |true=>
 rw[c5,Bool.true_and]at HD
 by_cases c6:cb.e.n<=ca.e.n
 .rw[decide_eq_true c6,Bool.true_and]at HD
  by_cases c7:ca.e.n<=(epN s.now s.c.spe).n
  .rw[decide_eq_true c7,Bool.true_and]at HD
   by_cases c8:0<=idxI (fun t=>decide (t.c=ca)) s.tabs
   .rw[AiH (by rw[HD,decide_eq_true c8])]
    exact AnD Γ s v j f hs hk hb ht w ok h ca cb hca hcb i k hi hk2 n1 n2 d1 d2 c3 c4 c5 c6 c7 c8
   .rw[AcE (by rw[HD,decide_eq_false c8])]
    exact AnE Γ s v j f hs hk hb ht w ok h ca cb hca hcb i k hi hk2 n1 n2 d1 d2 c3 c4 c5 c6 c7 c8
  .rw[AcE (by rw[HD,decide_eq_false c7];rfl)]
   exact AnF Γ s v j f hs hk hb ht w ok h ca cb hca hcb i k hi hk2 n1 n2 d1 d2 c3 c4 c5 c6 c7
 .rw[AcE (by rw[HD,decide_eq_false c6];rfl)]
  exact AnG Γ s v j f hs hk hb ht w ok h ca cb hca hcb i k hi hk2 n1 n2 d1 d2 c3 c4 c5 c6
structure CanOk(s:Sto)(a b:Cp):Prop where
 ex:∃i k,∃hi:i<s.nodes.length,∃hk:k<s.nodes.length,fndI s.nodes a.r=(i:Int)/\fndI s.nodes b.r=(k:Int)/\s.nodes[i].st≠2/\s.nodes[k].st≠2/\ancI s.nodes (k:Int) (i:Int)=true/\s.nodes[i].b.root=a.r/\s.nodes[k].b.root=b.r
 le:b.e.n<=a.e.n
 now:a.e.n<=(epN s.now s.c.spe).n
 tab:∃t∈s.tabs,t.c=a
theorem Ajz{s:Sto}{a b:Cp}(h:canU s a b=true):CanOk s a b:=by
 unfold canU at h
 simp only[Bool.and_eq_true,decide_eq_true_eq]at h
 obtain⟨h1,h2,h3,h4,h5,h6,h7,h8,h9,h10⟩:=h
 obtain⟨i,hi,e1,r1⟩:=Acf h1
 obtain⟨k,hk,e2,r2⟩:=Acf h2
 rw[e1,Int.toNat_natCast,nget hi]at h3
 rw[e2,Int.toNat_natCast,nget hk]at h4
 rw[e1,e2]at h7
 refine⟨⟨i,k,hi,hk,e1,e2,h3,h4,h7,r1,r2⟩,h8,h9,?_⟩
 rcases Aa2 (fun t=>decide (t.c=a)) s.tabs with⟨h1,_⟩|⟨j,hj,_,h2,_⟩
 .omega
 .exact⟨_,List.getElem_mem hj,of_decide_eq_true h2⟩
theorem Adq(Γ:Gam)(s:Sto)(v:Sls)(j f:Cp)(hs:SpeOk s)(hk:Lk (upsN s.nodes))(hb:s.nodes.length<=4096)(ht:s.tabs.length<=65535)(hob:s.orph.length<=30000)(w:World)(ok:Ok Γ w)(h:StG Γ v s) :
  Calls Tryz.prog 139 #[.agg (fl (stP s v)).toArray,.agg (fl (cpP j)).toArray,.agg (fl (cpP f)).toArray] w (StP Γ w (updR s j f)):=by
 have cu:=fun w ok=>Afx Γ s v j f hs hk hb ht w ok h
 unfold updR
 generalize laterC s.just j=ca at *
 generalize laterC s.fin f=cb at *
 cases hc:canU s ca cb with
 |false=>
  rw[if_neg Bool.false_ne_true]
  rw[AcE hc]at cu
  exact Ait Γ s v j f w ok h cu
 |true=>
  rw[if_pos rfl]
  rw[AiH hc]at cu
  obtain⟨k,hkl,hfk⟩:=Ak7 hc
  unfold updS
  by_cases he:cb=s.fin
  .rw[if_pos he]
   exact Aiv Γ s v j f ca cb hs hk hb ht hob w ok h cu he
  .rw[if_neg he,hfk,Int.toNat_natCast]
   exact Aiu Γ s v j f ca cb hs hk hb ht hob w ok h cu he k hkl hfk
structure CfOk(c:Cf)(bal:List U):Prop where
 spe:1<=c.spe.n/\c.spe.n<=64
 bp:c.bp.n<=100
 nb:bal.length<=1024
 nl:1<=c.nl/\c.nl<=4096
 ol:0<=c.ol/\c.ol<=64
 el:0<=c.el/\c.el<=256
 tl:1<=c.tl/\c.tl<=64
 rl:0<=c.rl/\c.rl<=256
 bo:1<=c.bo.n/\c.bo.n<=1048576
 gen:c.gen≠r0
 sum:tbE bal (bal.length:Int)=0
structure SI(k:Nat)(s:Sto):Prop where
 t:TI s.nodes
 spe:SpeOk s
 nl:(s.nodes.length:Int)<=s.c.nl/\s.c.nl<=14
 ol:(s.orph.length:Int)<=s.c.ol/\s.c.ol<=8
 el:(s.early.length:Int)<=s.c.el/\s.c.el<=8
 tl:(s.tabs.length:Int)<=s.c.tl/\s.c.tl<=8
 bp:s.c.bp.n<=100
 bal:1<=s.bal.length/\s.bal.length<=6
 lat:s.lat.length=s.bal.length
 just:∃j,∃hj:j<s.nodes.length,s.nodes[j].b.root=s.just.r/\s.nodes[j].st≠2
 fin:∃h:0<s.nodes.length,s.nodes[0].b.root=s.fin.r
 ord:∀n∈s.nodes,ordrd s n.b=true/\n.b.slot.n<=s.now.n
 tab:∃t∈s.tabs,t.c=s.just
 tbs:∀t∈s.tabs,tbE t.b (s.bal.length:Int)=0
 att:∀a∈s.early,a.l.length<=100
 eqv:s.eqv.length<=100*k
 now:s.now.n<=k
 cf:CfOk s.c s.bal
 lv:∀v∈s.lat,v.has=false->v=vo0
 eqr:∀x∈s.eqv,0<=x/\x<(s.bal.length:Int)
 eqa:s.eqv.Pairwise (· < ·)
 asc:AscQ s.tabs
theorem SI.more{k k':Nat}{s:Sto}(h:SI k s)(hk:k<=k'):SI k' s:={h with eqv:=by have:=h.eqv;omega,now:=by have:=h.now;omega}
theorem Aec{T:List Tbl}{e:Nat}{t:Tbl}:t∈dropT T e↔t∈T/\e<=t.c.e.n:=by unfold dropT;simp
theorem Agm{T:List Tbl}(h:AscQ T)(e:Nat):AscQ (dropT T e):=List.Pairwise.sublist List.filter_sublist h
theorem Ah9(T:List Tbl)(e:Nat):(dropT T e).length<=T.length:=List.length_filter_le _ _
structure UpdK(s s':Sto):Prop where
 c:s'.c=s.c
 bal:s'.bal=s.bal
 lat:s'.lat=s.lat
 eqv:s'.eqv=s.eqv
 early:s'.early=s.early
 now:s'.now=s.now
 nodes:s'.nodes.length<=s.nodes.length
 tabs:s'.tabs.length<=s.tabs.length
 orph:s'.orph.length<=s.orph.length
theorem UpdK.refl(s:Sto):UpdK s s:=⟨rfl,rfl,rfl,rfl,rfl,rfl,Nat.le_refl _,Nat.le_refl _,Nat.le_refl _⟩
theorem AeG{s:Sto}(t:TI s.nodes)(j f:Cp):UpdK s (updR s j f)/\TI (updR s j f).nodes:=by
 unfold updR
 split
 .rename_i hc
  have hok:=Ajz hc
  obtain⟨i,k,hi,hk,e1,e2,h3,h4,h5,r1,r2⟩:=hok.ex
  unfold updS
  split
  .exact⟨⟨rfl,rfl,rfl,rfl,rfl,rfl,Nat.le_refl _,Ah9 _ _,Nat.le_refl _⟩,t⟩
  .unfold pruS
   rw[e2,Int.toNat_natCast]
   have hp:=Ahp t hk
   exact⟨⟨rfl,rfl,rfl,rfl,rfl,rfl,hp.len,Ah9 _ _,AgZ _ _⟩,hp.t⟩
 .exact⟨UpdK.refl s,t⟩
theorem Aiw{k:Nat}{s:Sto}(h:SI k s)(j f:Cp):SI k (updR s j f):=by
 obtain⟨K,T⟩:=AeG h.t j f
 have base:(∃i,∃hi:i<(updR s j f).nodes.length,(updR s j f).nodes[i].b.root=(updR s j f).just.r/\(updR s j f).nodes[i].st≠2)/\(∃h:0<(updR s j f).nodes.length,(updR s j f).nodes[0].b.root=(updR s j f).fin.r) /\
   (∀n∈(updR s j f).nodes,∃m∈s.nodes,n.b=m.b)/\(∃t∈(updR s j f).tabs,t.c=(updR s j f).just)/\(∀t∈(updR s j f).tabs,t∈s.tabs)/\AscQ (updR s j f).tabs:=by
  unfold updR
  split
  .rename_i hc
   have hok:=Ajz hc
   obtain⟨i,q,hi,hq,e1,e2,h3,h4,h5,r1,r2⟩:=hok.ex
   obtain⟨t,ht,et⟩:=hok.tab
   have htab:∃x∈dropT s.tabs (laterC s.just j).e.n,x.c=laterC s.just j:=⟨t,Aec.2 ⟨ht,by rw[et];exact Nat.le_refl _⟩,et⟩
   unfold updS
   split
   .rename_i he
    refine⟨⟨i,hi,r1,h3⟩,⟨h.t.pos,?_⟩,fun n hn=>⟨n,hn,rfl⟩,htab,fun x hx=>(Aec.1 hx).1,Agm h.asc _⟩
    obtain⟨_,e0⟩:=h.fin
    rw[e0];simp only;rw[he]
   .unfold pruS
    rw[e2,Int.toNat_natCast]
    have hp:=Ahp h.t hq
    obtain⟨p,hp1,hp2,hp3⟩:=hp.has i hi h5
    refine⟨⟨p,hp1,by rw[hp2];exact r1,by rw[hp3];exact h3⟩,⟨hp.t.pos,?_⟩,fun n hn=>?_,htab,fun x hx=>(Aec.1 hx).1,Agm h.asc _⟩
    .have:=hp.first hq hp.t.pos
     simp only
     rw[this]
     exact r2
    .obtain⟨m,hm,hb,_⟩:=hp.src n hn
     exact⟨m,hm,hb⟩
  .obtain⟨i,hi,r1,h3⟩:=h.just
   exact⟨⟨i,hi,r1,h3⟩,h.fin,fun n hn=>⟨n,hn,rfl⟩,h.tab,fun _ hx=>hx,h.asc⟩
 obtain⟨b1,b2,b3,b4,b5,b6⟩:=base
 have n1:=h.nl;have n2:=h.ol;have n3:=h.el;have n4:=h.tl
 have k1:=K.nodes;have k2:=K.orph;have k3:=K.tabs
 exact {t:=T,spe:=⟨by rw[K.c];exact h.spe.1,by rw[K.c];exact h.spe.2⟩,nl:=by rw[K.c];omega,ol:=by rw[K.c];omega,el:=by rw[K.c,K.early];exact n3,tl:=by rw[K.c];omega,bp:=by rw[K.c];exact h.bp,bal:=by rw[K.bal];exact h.bal,lat:=by rw[K.lat,K.bal];exact h.lat,just:=b1,fin:=b2,tab:=b4,tbs:=fun t ht=>by rw[K.bal];exact h.tbs t (b5 t ht),att:=by rw[K.early];exact h.att,eqv:=by rw[K.eqv];exact h.eqv,now:=by rw[K.now];exact h.now,cf:=by rw[K.c,K.bal];exact h.cf,lv:=by rw[K.lat];exact h.lv,eqr:=by rw[K.eqv,K.bal];exact h.eqr,eqa:=by rw[K.eqv];exact h.eqa,asc:=b6,ord:=fun n hn=>by
         obtain⟨m,hm,hb⟩:=b3 n hn
         obtain⟨o1,o2⟩:=h.ord m hm
         rw[hb,K.now]
         refine⟨?_,o2⟩
         unfold ordrd at o1 |-
         rw[K.c];exact o1}
theorem AhZ{s:Sto}{b:Blk}(t:TI s.nodes)(h:ChkOk s b)(hn:s.nodes.length<4096):∃u:Nat,∃_:u<s.nodes.length,insN s.nodes b (statOf b)=(0,s.nodes ++ [⟨b,(u:Int),statOf b⟩])/\TI (s.nodes ++ [⟨b,(u:Int),statOf b⟩]):=by
 obtain⟨p,hp,e,h1,h2,h3⟩:=h.par
 have hk:=h.new
 unfold Sto.known at hk
 rw[Bool.or_eq_false_iff]at hk
 have hk2:fndI s.nodes b.root<0:=by have:=of_decide_eq_false hk.2;omega
 have hst:isStat (statOf b)=true:=by unfold statOf isStat;split<;>rfl
 have hroot:s.nodes[p].b.root=b.parent:=by
  obtain⟨k,hk,e',r⟩:=Acf (N:=s.nodes) (r:=b.parent) (by omega)
  obtain rfl:k=p:=by omega
  exact r
 refine⟨p,hp,?_,t.push hp h.nz (Akw hk2) hroot h1 h2 (fun hpay=>?_)⟩
 .unfold insN
  rw[if_neg (by rw[hst];exact fun e=>(by cases e)),if_neg (by omega),e,if_neg (by omega),Int.toNat_natCast,nget hp,if_neg (by omega),if_neg (by omega)]
 .unfold fits11 at h3
  rw[if_pos hpay]at h3
  exact of_decide_eq_true h3
def insS(s:Sto)(b:Blk):Sto:=
 let s2:=updR {s with nodes:=(insN s.nodes b (statOf b)).2} b.just b.fin
 if(epN b.slot s2.c.spe).n<(epN s2.now s2.c.spe).n then updR s2 b.pj b.pf else s2
theorem Ale{k:Nat}{s:Sto}{b:Blk}(h:SI k s)(hc:ChkOk s b):SI k (insS s b):=by
 obtain⟨u,hu,e,t1⟩:=AhZ h.t hc (by have:=h.nl;omega)
 have h1:SI k {s with nodes:=s.nodes ++ [⟨b,(u:Int),statOf b⟩]}:=by
  obtain⟨j,hj,r1,r2⟩:=h.just
  obtain⟨h0,r0'⟩:=h.fin
  have hl:(s.nodes ++ [(⟨b,(u:Int),statOf b⟩:Nod)]).length=s.nodes.length+1:=by simp
  exact {h with
   t:=t1
   spe:=⟨h.spe.1,h.spe.2⟩
   nl:=by have:=hc.room;have:=h.nl;simp only[hl];omega
   just:=⟨j,by simp only[hl];omega,by simp only;rw[List.getElem_append_left hj];exact r1,by simp only;rw[List.getElem_append_left hj];exact r2⟩
   fin:=⟨by simp only[hl];omega,by simp only;rw[List.getElem_append_left h0];exact r0'⟩
   ord:=fun n hn=>by
    rcases List.mem_append.1 hn with hn|hn
    .exact h.ord n hn
    .have:n=⟨b,(u:Int),statOf b⟩:=by simpa using hn
     subst this
     exact⟨hc.ord,hc.now⟩}
 unfold insS
 rw[e]
 simp only
 have h2:=Aiw h1 b.just b.fin
 split
 .exact Aiw h2 _ _
 .exact h2
theorem Aja{s:Sto}{b:Blk}(t:TI s.nodes)(hc:ChkOk s b)(hn:s.nodes.length<4096):(insS s b).now=s.now/\(insS s b).orph.length<=s.orph.length/\(insS s b).c=s.c:=by
 obtain⟨u,hu,e,t1⟩:=AhZ t hc hn
 unfold insS
 rw[e]
 simp only
 obtain⟨k1,t2⟩:=AeG (s:={s with nodes:=s.nodes ++ [⟨b,(u:Int),statOf b⟩]}) t1 b.just b.fin
 split
 .obtain⟨k2,_⟩:=AeG t2 b.pj b.pf
  exact⟨k2.now.trans k1.now,Nat.le_trans k2.orph k1.orph,k2.c.trans k1.c⟩
 .exact⟨k1.now,k1.orph,k1.c⟩
theorem insert_any(Γ:Gam)(s:Sto)(v:Sls)(b:Blk)(N1:List Nod)(hs:SpeOk s)(hI:insN s.nodes b (statOf b)=(0,N1))(t1:TI N1)(hb0:s.nodes.length<=4096)(hb:N1.length<=4096)(ht:s.tabs.length<=65535)(hob:s.orph.length<=30000)(w:World)(ok:Ok Γ w)(h:StG Γ v s) :
  Calls Tryz.prog 146 #[.agg (fl (stP s v)).toArray,.agg (blx b).toArray] w (StP Γ w (insS s b)):=by
 have M:=bx (MM.start ok)
 have HG:=bx h
 have SO:=bx (fun w ok=>Af7 Γ b w ok)
 have IN:Bx (∀w,Ok Γ w->Calls Tryz.prog 174 #[.agg [v.nodes.v].toArray,.agg (blx b).toArray,.int .i64 (statOf b)] w (TrE Γ w (0,N1))):=⟨fun w ok=>by
  have:=AhR Γ v.nodes s.nodes b (statOf b) w ok h.nodes (by omega)
  rwa [hI]at this⟩
 have K1:=AeG (s:={s with nodes:=N1}) t1 b.just b.fin
 have UP:=bx (fun(Γ':Gam) (v':Sls) w ok h=>Adq Γ' {s with nodes:=N1} v' b.just b.fin ⟨hs.1,hs.2⟩ t1.lk hb ht hob w ok h)
 have hins:insS s b=if(epN b.slot (updR {s with nodes:=N1} b.just b.fin).c.spe).n<(epN (updR {s with nodes:=N1} b.just b.fin).now (updR {s with nodes:=N1} b.just b.fin).c.spe).n then updR (updR {s with nodes:=N1} b.just b.fin) b.pj b.pf else updR {s with nodes:=N1} b.just b.fin:=by
  unfold insS;rw[hI]
 rw[hins]
 clear hins
 generalize updR {s with nodes:=N1} b.just b.fin=s2 at *
 obtain⟨K,T2⟩:=K1
 have hs2:SpeOk s2:=⟨by rw[K.c];exact hs.1,by rw[K.c];exact hs.2⟩
 have UP2:=bx (fun(Γ':Gam) (v':Sls) j f w ok h=>Adq Γ' s2 v' j f hs2 T2.lk (Nat.le_trans K.nodes hb) (Nat.le_trans K.tabs ht) (Nat.le_trans K.orph hob) w ok h)
 have EP1:=bx (fun(Γ':Gam) (v':Sls) w ok=>Aar Γ' s2 v' b.slot hs2.1 w ok)
 have EP2:=bx (fun(Γ':Gam) (v':Sls) w ok=>Aar Γ' s2 v' s2.now hs2.1 w ok)
 clear ok h hI t1 hb0 hb ht hob K T2 hs hs2
 generalize epN b.slot s2.c.spe=ea at *
 generalize epN s2.now s2.c.spe=eb at *
 by_cases hlt:ea.n<eb.n
 .rw[if_pos hlt]
  have hlt':(ea.n:Int)<(eb.n:Int):=by omega
  clear hlt
  go_enter Tryz.func146,Tryz.ntmps146
  (go_wp2_with (first|go_skip|(refine zBXd ?_;clear M;intro w' g M)|(refine zALd (ztSt) ?_;clear M;intro w' g M)|refine zLAd ?_|fail))
  refine AaE [10] (.steps [(1,0),(0,1),(0,2),(0,3),(2,4),(2,5),(1,6),(1,7),(1,8),(1,9),(3,10)] .leaf) (by kernel_rfl) (by kernel_rfl) ?_;(simp only[MixT6,MT.steps,stepAt,List.getD_cons_zero,List.getD_cons_succ]);replace M:=bx (M.out.drew)
  refine zNM ?_
  refine zMRd ?_
  refine zMC (SO.out _ M.ok) Tryz.func175 ?_
  rintro e2 w2 ⟨rfl,hx2⟩
  refine⟨_,rfl,hx2.bel,?_⟩
  replace M:=bx (M.out.call hx2)
  clear hx2
  refine zNM ?_
  refine zMRd ?_
  refine zMC (IN.out _ M.ok) Tryz.func174 ?_
  rintro e3 w3 ⟨x3,Γ3,rfl,hn3,hx3⟩
  refine⟨_,rfl,hx3.bel,?_⟩
  replace M:=bx (M.out.call hx3)
  have HN3:=bx hn3
  clear hx3 hn3 SO IN
  refine zNM ?_
  refine zMRd ?_
  refine AbE M.out 2 [[x3.v]] (stP {s with nodes:=N1} {v with nodes:=x3}) rfl rfl rfl rfl Aav rfl rfl (Aal _ _ _) rfl rfl ?_
  intro w7 M'
  simp only[List.set_cons_zero,List.set_cons_succ]at M'
  (replace M:=bx M';clear M')
  refine zNM ?_
  refine zMRd ?_
  refine NoPanic.normal ?_
  have HG1:Bx (StG Γ3 {v with nodes:=x3} {s with nodes:=N1}):=⟨{HG.out.mono M.out.ext.le with nodes:=HN3.out}⟩
  (go_wp2_with (first|go_skip|(refine zBXd ?_;clear M;intro w' g M)|(refine zALd (ztSt) ?_;clear M;intro w' g M)|refine zLAd ?_|fail))
  refine(UP.out Γ3 {v with nodes:=x3} _ M.ok HG1.out).mono ?_
  rintro e4 w4 ⟨v4,Γ4,rfl,hg4,hx4⟩
  replace M:=bx (M.out.call hx4)
  have HG4:=bx hg4
  clear hg4 hx4 UP HG1 HN3
  have UP2':=bx (fun w ok=>UP2.out Γ4 v4 b.pj b.pf w ok HG4.out)
  clear UP2
  go_wp2_with (first|(refine zSSd M 2 (stP s2 v4) (stP s2 v4) (AaD _ _) (Aac _ _) ?_;clear M;intro w' M))
  have EP1':=bx (clsE M.out (fun w ok=>EP1.out Γ4 v4 w ok))
  have EP2':=bx (clsE M.out (fun w ok=>EP2.out Γ4 v4 w ok))
  clear EP1 EP2
  refine zRG ?_;(repeat(first|go_big_quiet_skip|(go_big_quiet_want;first|((with_reducible refine Aaw ?_);first|(refine zQC (AaI EP1'.out) Tryz.func49 ?_;go_big_quiet_on;refine zNM ?_)|(refine zQC (AaI EP2'.out) Tryz.func49 ?_;go_big_quiet_on;refine zNM ?_))|(refine zQAd ?_;go_big_quiet_on;refine zNM ?_)|(refine zQO ?_;go_big_quiet_on))));(refine zQN ?_;clear M;intro w4 M)
  clear EP1' EP2'
  (go_wp2_with (first|go_skip|(refine zBXd ?_;clear M;intro w' g M)|(refine zALd (ztSt) ?_;clear M;intro w' g M)|refine zLAd ?_|fail))
  refine(UP2'.out _ M.ok).mono ?_
  rintro e5 w5 ⟨v5,Γ5,rfl,hg5,hx5⟩
  replace M:=bx (M.out.call hx5)
  have HG5:=bx hg5
  clear hg5 hx5 UP2'
  generalize updR s2 b.pj b.pf=s3 at *
  (go_wp2_with (first|go_skip|(refine zBXd ?_;clear M;intro w' g M)|(refine zALd (ztSt) ?_;clear M;intro w' g M)|refine zLAd ?_|(refine zSSd M 2 (stP s3 v5) (stP s3 v5) (AaD _ _) (Aac _ _) ?_;clear M;intro w' M)|(refine zSSd M 0 (stP s3 v5) (stP s3 v5) (AaD _ _) (Aac _ _) ?_;clear M;intro w' M)))
  refine zR M.out.at0 ?_
  exact StP.mk _ HG5.out M.out.ext
 .rw[if_neg hlt]
  have hlt':¬(ea.n:Int)<(eb.n:Int):=by omega
  clear hlt
  go_enter Tryz.func146,Tryz.ntmps146
  (go_wp2_with (first|go_skip|(refine zBXd ?_;clear M;intro w' g M)|(refine zALd (ztSt) ?_;clear M;intro w' g M)|refine zLAd ?_|fail))
  refine AaE [10] (.steps [(1,0),(0,1),(0,2),(0,3),(2,4),(2,5),(1,6),(1,7),(1,8),(1,9),(3,10)] .leaf) (by kernel_rfl) (by kernel_rfl) ?_;(simp only[MixT6,MT.steps,stepAt,List.getD_cons_zero,List.getD_cons_succ]);replace M:=bx (M.out.drew)
  refine zNM ?_
  refine zMRd ?_
  refine zMC (SO.out _ M.ok) Tryz.func175 ?_
  rintro e2 w2 ⟨rfl,hx2⟩
  refine⟨_,rfl,hx2.bel,?_⟩
  replace M:=bx (M.out.call hx2)
  clear hx2
  refine zNM ?_
  refine zMRd ?_
  refine zMC (IN.out _ M.ok) Tryz.func174 ?_
  rintro e3 w3 ⟨x3,Γ3,rfl,hn3,hx3⟩
  refine⟨_,rfl,hx3.bel,?_⟩
  replace M:=bx (M.out.call hx3)
  have HN3:=bx hn3
  clear hx3 hn3 SO IN
  refine zNM ?_
  refine zMRd ?_
  refine AbE M.out 2 [[x3.v]] (stP {s with nodes:=N1} {v with nodes:=x3}) rfl rfl rfl rfl Aav rfl rfl (Aal _ _ _) rfl rfl ?_
  intro w7 M'
  simp only[List.set_cons_zero,List.set_cons_succ]at M'
  (replace M:=bx M';clear M')
  refine zNM ?_
  refine zMRd ?_
  refine NoPanic.normal ?_
  have HG1:Bx (StG Γ3 {v with nodes:=x3} {s with nodes:=N1}):=⟨{HG.out.mono M.out.ext.le with nodes:=HN3.out}⟩
  (go_wp2_with (first|go_skip|(refine zBXd ?_;clear M;intro w' g M)|(refine zALd (ztSt) ?_;clear M;intro w' g M)|refine zLAd ?_|fail))
  refine(UP.out Γ3 {v with nodes:=x3} _ M.ok HG1.out).mono ?_
  rintro e4 w4 ⟨v4,Γ4,rfl,hg4,hx4⟩
  replace M:=bx (M.out.call hx4)
  have HG4:=bx hg4
  clear hg4 hx4 UP HG1 HN3
  have UP2':=bx (fun w ok=>UP2.out Γ4 v4 b.pj b.pf w ok HG4.out)
  clear UP2
  go_wp2_with (first|(refine zSSd M 2 (stP s2 v4) (stP s2 v4) (AaD _ _) (Aac _ _) ?_;clear M;intro w' M))
  have EP1':=bx (clsE M.out (fun w ok=>EP1.out Γ4 v4 w ok))
  have EP2':=bx (clsE M.out (fun w ok=>EP2.out Γ4 v4 w ok))
  clear EP1 EP2
  refine zRG ?_;(repeat(first|go_big_quiet_skip|(go_big_quiet_want;first|((with_reducible refine Aaw ?_);first|(refine zQC (AaI EP1'.out) Tryz.func49 ?_;go_big_quiet_on;refine zNM ?_)|(refine zQC (AaI EP2'.out) Tryz.func49 ?_;go_big_quiet_on;refine zNM ?_))|(refine zQAd ?_;go_big_quiet_on;refine zNM ?_)|(refine zQO ?_;go_big_quiet_on))));(refine zQN ?_;clear M;intro w4 M)
  clear EP1' EP2'
  (go_wp2_with (first|go_skip|(refine zBXd ?_;clear M;intro w' g M)|(refine zALd (ztSt) ?_;clear M;intro w' g M)|refine zLAd ?_|(refine zSSd M 0 (stP s2 v4) (stP s2 v4) (AaD _ _) (Aac _ _) ?_;clear M;intro w' M)))
  refine zR M.out.at0 ?_
  exact StP.mk _ HG4.out M.out.ext
def TicP(Γ:Gam)(w:World)(k:Nat)(e:Ending)(w':World):Prop:=∃(er:Int) (s':Sto),StE Γ w er s' e w'/\(er=0->SI k s')/\er≠21
theorem SI.tick{k:Nat}{s:Sto}(h:SI k s){u:U}(hu:u.n=s.now.n+1):SI (k+1) {s with now:=u,boost:=r0}:=
 {h with spe:=⟨h.spe.1,h.spe.2⟩,eqv:=by have:=h.eqv;simp only;omega,now:=by have:=h.now;simp only;omega,ord:=fun n hn=>⟨(h.ord n hn).1,by have:=(h.ord n hn).2;simp only;omega⟩}
theorem SI.early{k:Nat}{s:Sto}(h:SI k s){l:List Att}(h1:(l.length:Int)<=s.c.el)(h2:∀a∈l,a.l.length<=100):SI k {s with early:=l}:=
 {h with spe:=⟨h.spe.1,h.spe.2⟩,el:=⟨h1,h.el.2⟩,att:=h2}
theorem SI.lats{k:Nat}{s:Sto}(h:SI k s){l:List Vo}(h1:l.length=s.lat.length)(h2:∀v∈l,v.has=false->v=vo0):SI k {s with lat:=l}:=
 {h with spe:=⟨h.spe.1,h.spe.2⟩,lat:=h1.trans h.lat,lv:=h2}
theorem AoP(p:Cp × Cp):List.take 2 (puP p)=cpP p.1:=rfl
theorem AoO(p:Cp × Cp):List.take 2 (List.drop 2 (puP p))=cpP p.2:=rfl
theorem AkN{k:Nat}(Γ:Gam)(s:Sto)(v:Sls)(hs:SI k s)(w:World)(ok:Ok Γ w)(h:StG Γ v s) :
  Calls Tryz.prog 116 #[.agg (fl (stP s v)).toArray] w (TicP Γ w (k+1)):=by
 have M:=bx (MM.start ok)
 have HG:=bx h
 have HSI:=bx hs
 clear ok h hs
 by_cases hm:1099511627776<=s.now.n
 .have hm':(1099511627776:Int)<=(s.now.n:Int):=by omega
  clear hm
  go_enter Tryz.func116,Tryz.ntmps116
  (go_wp2_with (first|go_skip|(refine zBXd ?_;clear M;intro w' g M)|(refine zALd (ztSt) ?_;clear M;intro w' g M)|(refine zALd (ztPu) ?_;clear M;intro w' g M)|(refine zSSd M 0 (stP st0 x0) (stP st0 x0) (AaD _ _) (Aac _ _) ?_;clear M;intro w' M)|refine zLAd ?_|refine zBDd 49 [] (fl (stP st0 x0)) (by kernel_rfl) ?_|refine zBDd 29 [] (rc r0) (by kernel_rfl) ?_))
  refine zRt M.out.at0 ?_
  exact⟨3,st0,StE.err M.out.ext,fun h=>absurd h (by decide),by decide⟩
 .have hm':¬(1099511627776:Int)<=(s.now.n:Int):=by omega
  obtain⟨u,hu⟩:∃u:U,u.n=s.now.n+1:=⟨⟨s.now.n+1,by omega⟩,rfl⟩
  have hw:IntKind.u64.wrap ((s.now.n:Int)+1)=(u.n:Int):=by rw[hu];rw[AdI (by omega) (by omega)];omega
  have HS1:=bx (HSI.out.tick hu)
  have hsp:¬(s.c.spe.n:Int)=0:=by have:=HSI.out.spe.1;omega
  have hsp0:((s.c.spe.n:Int)==0)=false:=beq_eq_false_iff_ne.2 hsp
  clear hm hu HSI
  obtain⟨s1,hs1⟩:∃s1,s1 = {s with now:=u,boost:=r0}:=⟨_,rfl⟩
  have HS2:Bx (SI (k+1) s1):=⟨by rw[hs1];exact HS1.out⟩
  have HG2:Bx (StG Γ v s1):=⟨by rw[hs1];exact⟨HG.out.bal,HG.out.lat,HG.out.eqv,HG.out.early,HG.out.orph,HG.out.nodes,HG.out.tabs⟩⟩
  have HP:Bx (stP {s with now:=u,boost:=r0} v=stP s1 v):=⟨by rw[hs1]⟩
  have PE:=bx (fun w ok=>AhK Γ s1 v w ok HG2.out (by have:=HS2.out.nl;omega))
  have UP:=bx (fun j f w ok=>Adq Γ s1 v j f HS2.out.spe HS2.out.t.lk (by have:=HS2.out.nl;omega) (by have:=HS2.out.tl;omega) (by have:=HS2.out.ol;omega) w ok HG2.out)
  have US:=bx (fun j f=>Aiw HS2.out j f)
  clear hs1 HS1 HG
  go_enter Tryz.func116,Tryz.ntmps116
  go_upto_region 5 with(first|go_skip|(refine zBXd ?_;clear M;intro w' g M)|(refine zALd (ztSt) ?_;clear M;intro w' g M)|refine zLAd ?_|refine zBDd 29 [] (rc r0) (by kernel_rfl) ?_|(refine zS1d M 1 (.int .u64 (u.n:Int)) (stP {s with now:=u} v) ?_;clear M;intro w' M)|(refine zSSd M 1 [rc r0] (stP {s with now:=u,boost:=r0} v) (lenR _) (Aah _) ?_;clear M;intro w' M))
  rename_i gs _ _ _ _ _ _
  rw[HP.out]at M
  clear HP hw hsp hsp0
  have hsp:0<s1.c.spe.n:=HS2.out.spe.1
  have hsp1:¬(s1.c.spe.n:Int)=0:=by omega
  have hsp0:((s1.c.spe.n:Int)==0)=false:=beq_eq_false_iff_ne.2 hsp1
  have hrm:((s1.now.n:Int)%(s1.c.spe.n:Int))=((s1.now.n%s1.c.spe.n:Nat):Int):=by omega
  have hrl:s1.now.n%s1.c.spe.n<18446744073709551616:=Nat.lt_of_le_of_lt (Nat.mod_le _ _) s1.now.lt
  have hrw:IntKind.u64.wrap ((s1.now.n%s1.c.spe.n:Nat):Int)=((s1.now.n%s1.c.spe.n:Nat):Int):=AdI (by omega) (by omega)
  generalize s1.now.n%s1.c.spe.n=rem at *
  go_upto_if 25 with(first|go_skip|refine zLAd ?_)
  go_cut [4]from 7 (fun s4 wx=>∃(s2:Sto) (v2:Sls) (Γ2:Gam),(SI (k+1) s2/\StG Γ2 v2 s2)/\MM Γ w Γ2 wx [⟨g,stP st0 x0,stL⟩,⟨gs,stP s2 v2,stL⟩] [])
  case first=>
   by_cases hr:rem=0
   .have b1:((rem:Int)==0)=true:=by simp[hr]
    clear hr
    (go_wp2_with (first|go_skip|(refine zBXd ?_;clear M;intro w' g M)|(refine zALd (ztSt) ?_;clear M;intro w' g M)|(refine zALd (ztPu) ?_;clear M;intro w' g M)|fail|refine zLAd ?_|refine zBDd 49 [] (fl (stP st0 x0)) (by kernel_rfl) ?_|refine zBDd 29 [] (rc r0) (by kernel_rfl) ?_))
    refine zCA M (PE.out _ M.ok) ?_;clear M;intro w1 M
    generalize s1.pend=pp at *
    (go_wp2_with (first|go_skip|(refine zBXd ?_;clear M;intro w' g M)|(refine zALd (ztSt) ?_;clear M;intro w' g M)|(refine zALd (ztPu) ?_;clear M;intro w' g M)|(refine zSSd M 0 (puP pp) (puP pp) (AhE _) (AlY _) ?_;clear M;intro w' M)|refine zLAd ?_|refine zBDd 49 [] (fl (stP st0 x0)) (by kernel_rfl) ?_|refine zBDd 29 [] (rc r0) (by kernel_rfl) ?_))
    refine(UP.out pp.1 pp.2 _ M.ok).mono ?_
    rintro e2 w2 ⟨v2,Γ2,rfl,hg2,hx2⟩
    replace M:=bx (M.out.call hx2)
    have HG3:=bx hg2
    clear hg2 hx2
    have US':=bx (US.out pp.1 pp.2)
    generalize updR s1 pp.1 pp.2=s2 at *
    (go_wp2_with (first|go_skip|(refine zBXd ?_;clear M;intro w' g M)|(refine zALd (ztSt) ?_;clear M;intro w' g M)|(refine zALd (ztPu) ?_;clear M;intro w' g M)|(refine zSSd M 2 (stP s2 v2) (stP s2 v2) (AaD _ _) (Aac _ _) ?_;clear M;intro w' M)|refine zLAd ?_|refine zBDd 49 [] (fl (stP st0 x0)) (by kernel_rfl) ?_|refine zBDd 29 [] (rc r0) (by kernel_rfl) ?_))
    go_meet
    case rel=>exact⟨s2,v2,Γ2,⟨US'.out,HG3.out⟩,M.out.tail⟩
   .have b1:((rem:Int)==0)=false:=beq_eq_false_iff_ne.2 (by omega)
    clear hr
    (go_wp2_with (first|go_skip|(refine zBXd ?_;clear M;intro w' g M)|(refine zALd (ztSt) ?_;clear M;intro w' g M)|(refine zALd (ztPu) ?_;clear M;intro w' g M)|fail|refine zLAd ?_|refine zBDd 49 [] (fl (stP st0 x0)) (by kernel_rfl) ?_|refine zBDd 29 [] (rc r0) (by kernel_rfl) ?_))
    go_meet
    case rel=>exact⟨s1,v,Γ,⟨HS2.out,HG2.out⟩,M.out⟩
  case rest=>
   obtain⟨s2,v2,Γ2,⟨k1,k2⟩,hM⟩:=hcut
   clear M PE UP US HS2 HG2 hrm hrl hrw hsp hsp1 hsp0
   have M:=bx hM
   have K1:=bx k1
   obtain⟨X,hX,hXA,hXS⟩:=k2.early
   have hXl:X.length=s2.early.length:=by rw[<-hX,List.length_map]
   obtain⟨A0,c0,hv,hsl⟩:∃A0 c0,v2.early.v=.slice A0 X.length c0/\SlG Γ2 A0 X.length (X.flatMap atx):=⟨v2.early.A,v2.early.c,by rw[hXl,<-hXS.n],by have:=hXS.sl;rwa [hXS.n,<-hXl]at this⟩
   have HV:=bx hv
   have HS:=bx hsl
   have XA:=bx hXA
   have XT:Bx (∀a∈X,a.1.l.length<=100):=⟨fun a ha=>k1.att a.1 (by rw[<-hX];exact List.mem_map_of_mem ha)⟩
   have XL:Bx ((X.length:Int)<=s2.c.el/\X.length<=8):=⟨by have:=k1.el;omega⟩
   have K2:Bx (SI (k+1) {s2 with early:=[]}/\StG Γ2 {v2 with early:=sl0} {s2 with early:=[]}):=⟨k1.early (by have:=k1.el;simp;omega) (fun a ha=>by simp at ha),{k2 with early:=⟨[],rfl,fun _ h=>absurd h (by simp),slR0 Γ2⟩}⟩
   clear hM k1 k2 hX hXA hXS hXl hv hsl K1
   (go_wp2_with (first|go_skip|(refine zBXd ?_;clear M;intro w' g M)|(refine zALd (ztSt) ?_;clear M;intro w' g M)|(refine zALd (ztPu) ?_;clear M;intro w' g M)|refine zLHd HV ?_|(refine zS1d M 1 (.slice none 0 0) (stP s2 {v2 with early:=sl0}) ?_;clear M;intro w' M)|refine zLAd ?_|refine zBDd 49 [] (fl (stP st0 x0)) (by kernel_rfl) ?_|refine zBDd 29 [] (rc r0) (by kernel_rfl) ?_))
   go_loopw [6] (fun jj wr=>∃(q:Nat) (Γk:Gam) (sk:Sto) (vk:Sls) (Y:List (Att × Sl)) (A:Option Addr) (c:Nat),(q<=X.length/\Y.length<=q/\SI (k+1) sk/\sk.c=s2.c/\sk.early = []/\Le Γ2 Γk/\StG Γk vk sk/\(∀a∈Y,a.1.l.length<=100/\AtG Γk a.1 a.2))/\jj=.int .i64 q /\
    MM Γ w Γk wr [⟨g,stP st0 x0,stL⟩,⟨gs,stP sk {vk with early:=⟨A,Y.length,c⟩},stL⟩] [⟨.slice A Y.length c,120,67,Y.length,Y.flatMap atx⟩]) (fun jj _=>X.length-(intOf jj).toNat)
   case atStart=>exact⟨0,Γ2,{s2 with early:=[]},{v2 with early:=sl0},[],none,0,⟨Nat.zero_le _,Nat.le_refl _,K2.out.1,rfl,rfl,Le.refl _,K2.out.2,fun _ h=>absurd h (by simp)⟩,rfl,M.out.row0 _ _⟩
   case round=>
    obtain⟨q,Γk,sk,vk,Y,A,c,⟨q1,q2,q3,q4,q5,q6,q7,q8⟩,rfl,hM⟩:=hrel
    clear M
    have M:=bx hM
    have Q3:=bx q3
    have Q4:=bx q4
    have Q5:=bx q5
    have Q6:=bx q6
    have Q7:=bx q7
    have Q8:=bx q8
    clear hM q3 q4 q5 q6 q7 q8
    have xl:=XL.out.2
    by_cases hqn:q<X.length
    .obtain⟨gk,rfl,hf⟩:=(HS.out.mono Q6.out).at (f:=atx) (fun x _=>Agw _ _) rfl q hqn
     have F1:Bx (Fz Γk gk (q*67) (atP X[q].1 X[q].2) [1,32,1,32,1]):=⟨hf,AbY _ _⟩
     have HA1:Bx (X[q].1.l.length<=100/\AtG Γk X[q].1 X[q].2):=⟨XT.out _ (List.getElem_mem hqn),(XA.out _ (List.getElem_mem hqn)).mono Q6.out⟩
     have hki:(q:Int)<(X.length:Int):=by omega
     have hk0:0<=(q:Int):=by omega
     clear hf
     generalize X[q]=ay at *
     obtain⟨a,y⟩:=ay
     simp only at F1 HA1
     rcases two2 a.slot.n sk.now.n with⟨j1,j2⟩|⟨j1,j2⟩
     .have j3:¬(sk.now.n:Int)<=(a.slot.n:Int):=by omega
      have j4:decide ((sk.now.n:Int)<=(a.slot.n:Int))=false:=decide_eq_false j3
      have j5:decide (sk.now.n<=a.slot.n)=false:=decide_eq_false (by omega)
      have j6:¬sk.now.n<=a.slot.n:=by omega
      clear j1 j2
      (go_wp2_with (first|go_skip|(refine zBXd ?_;clear M;intro w' g M)|(refine zALd (ztSt) ?_;clear M;intro w' g M)|(refine zALd (ztPu) ?_;clear M;intro w' g M)|fail|refine zLAd ?_|refine zBDd 49 [] (fl (stP st0 x0)) (by kernel_rfl) ?_|refine zBDd 29 [] (rc r0) (by kernel_rfl) ?_))
      refine zRG ?_;(repeat(first|go_big_quiet_skip|(go_big_quiet_want;first|(refine zQFd F1 ?_;go_big_quiet_on;refine zNM ?_)|(refine zQAd ?_;go_big_quiet_on;refine zNM ?_)|(refine zQO ?_;go_big_quiet_on))));(refine zQN ?_;clear M;intro w4 M)
      go_upto_region 15 with fail
      obtain⟨Γ1,r1,r2,r3,r4,r5⟩:=M.out.frzD;have HZ:Bx (StG Γ1 {vk with early:=⟨A,Y.length,c⟩} {sk with early:=Y.map Prod.fst}):=⟨{Q7.out.mono r3 with early:=⟨Y,rfl,fun b hb=>(Q8.out b hb).2.mono r3,by simp,r1,r2⟩}⟩;have R3:=bx r3;have R4:=bx r4;have R5:=bx r5;clear r1 r2 r3 r4 r5
      have hlat:sk.lat.length=sk.bal.length:=Q3.out.lat
      have hbal:=Q3.out.bal
      have HSE:=bx (show SpeOk {sk with early:=Y.map Prod.fst}from⟨Q3.out.spe.1,Q3.out.spe.2⟩)
      have CK:=bx (Ad6 Γ1 {sk with early:=Y.map Prod.fst} {vk with early:=⟨A,Y.length,c⟩} a y HSE.out Q3.out.t.lk (by have:=Q3.out.nl;show sk.nodes.length<=4096;omega) (by have:=HA1.out.1;omega))
      refine AaE [] (.steps [(0,0),(1,1),(1,2),(1,3),(0,4),(2,5),(1,6),(1,7),(1,8),(1,9),(1,10)] .leaf) (by kernel_rfl) (by kernel_rfl) ?_;(simp only[MixT6,MT.steps,stepAt,List.getD_cons_zero,List.getD_cons_succ]);replace M:=bx (M.out.drew)
      refine zNM ?_
      (repeat(first|refine zM0 ?_|(go_big_quiet_want;first|(refine zQFd F1 ?_;go_big_quiet_on;refine zNM ?_)|(refine zQAd ?_;go_big_quiet_on;refine zNM ?_)|(refine zQO ?_;go_big_quiet_on))))
      refine zMC (CK.out _ (R4.out _ (Below.refl _ _).drew) HZ.out (HA1.out.2.mono R3.out)) Tryz.func140 ?_
      rintro e4 w4 ⟨ea,er,rfl,hvl,hx4⟩
      refine⟨_,rfl,hx4.bel,?_⟩
      replace M:=bx (M.out.below hx4.bel)
      have HVL:=bx hvl
      clear hvl hx4 CK HZ R3 R4 R5
      refine zNM ?_
      refine zMRd ?_
      refine NoPanic.normal ?_
      by_cases h0:er=0
      .have b0:(er==0)=true:=by rw[h0];rfl
       have HV2:=bx (HVL.out.1 h0)
       clear HVL h0
       (go_wp2_with (first|go_skip|(refine zBXd ?_;clear M;intro w' g M)|(refine zALd (ztSt) ?_;clear M;intro w' g M)|(refine zALd (ztPu) ?_;clear M;intro w' g M)|fail|refine zLAd ?_|refine zBDd 49 [] (fl (stP st0 x0)) (by kernel_rfl) ?_|refine zBDd 29 [] (rc r0) (by kernel_rfl) ?_))
       refine AaE [6] (.steps [(0,0),(1,1),(1,2),(1,3),(0,4),(2,5),(3,6)] .leaf) (by kernel_rfl) (by kernel_rfl) ?_;(simp only[MixT6,MT.steps,stepAt,List.getD_cons_zero,List.getD_cons_succ]);replace M:=bx (M.out.drew)
       refine zNM ?_
       (repeat(first|refine zM0 ?_|(go_big_quiet_want;first|(refine zQFd F1 ?_;go_big_quiet_on;refine zNM ?_)|(refine zQAd ?_;go_big_quiet_on;refine zNM ?_)|(refine zQO ?_;go_big_quiet_on))))
       obtain⟨Γ1,r1,r2,r3,r4,r5⟩:=M.out.frzD;have HZ:Bx (StG Γ1 {vk with early:=⟨A,Y.length,c⟩} {sk with early:=Y.map Prod.fst}):=⟨{Q7.out.mono r3 with early:=⟨Y,rfl,fun b hb=>(Q8.out b hb).2.mono r3,by simp,r1,r2⟩}⟩;have R3:=bx r3;have R4:=bx r4;have R5:=bx r5;clear r1 r2 r3 r4 r5
       refine AgR (Ahb Γ1 {sk with early:=Y.map Prod.fst} {vk with early:=⟨A,Y.length,c⟩} a y _ (R4.out _ (Below.refl _ _)) HZ.out (HA1.out.2.mono R3.out) (by show 0<sk.lat.length;omega) (by show sk.lat.length<=65535;omega) (by have:=HA1.out.1;omega) (by
        show ∀z∈a.l,0<=z/\z<(sk.lat.length:Int)
        rw[hlat];exact HV2.out.mem)) Tryz.func141 rfl rfl _ _ rfl rfl rfl ?_
       rintro e5 w5 ⟨x5,Γ5,rfl,hl5,hx5⟩
       refine⟨_,rfl,hx5.bel,?_⟩
       have hx6:=Ext.cut M.ok hx5
       have hcl:=(Aet sk.lat a.t.e a.r a.l).1
       have HCV:=bx (AiG Q3.out.lv a.t.e a.r a.l)
       simp only at hl5
       generalize(castV sk.lat a.t.e a.r a.l).1=lv at *
       have HL6:Bx (SlR (cutG Γk Γ5 _) x5 lv.length (lv.flatMap vox)):=⟨hl5.n,hl5.cap,hl5.sl.cutD hx5 R5.out (AkK (by omega))⟩
       have L6:=bx hx6.le
       replace M:=bx (M.out.call hx6)
       clear hx5 hx6 hl5 HZ R3 R4 R5
       generalize cutG Γk Γ5 _=Γ6 at *
       refine zNM ?_
       refine zMRd ?_
       refine AbE M.out 1 (stP {sk with lat:=lv} {vk with lat:=x5,early:=⟨A,Y.length,c⟩}) (stP {sk with lat:=lv} {vk with lat:=x5,early:=⟨A,Y.length,c⟩}) rfl rfl rfl rfl rtSt rfl (AaD _ _) (Aac _ _) rfl rfl ?_
       intro w7 M'
       simp only[List.set_cons_zero,List.set_cons_succ]at M'
       (replace M:=bx M';clear M')
       refine zNM ?_
       refine zMRd ?_
       refine NoPanic.normal ?_
       (go_wp2_with (first|go_skip|(refine zBXd ?_;clear M;intro w' g M)|(refine zALd (ztSt) ?_;clear M;intro w' g M)|(refine zALd (ztPu) ?_;clear M;intro w' g M)|fail|refine zLAd ?_|refine zBDd 49 [] (fl (stP st0 x0)) (by kernel_rfl) ?_|refine zBDd 29 [] (rc r0) (by kernel_rfl) ?_))
       go_roundw
       case rel=>exact⟨q+1,Γ6,{sk with lat:=lv},{vk with lat:=x5},Y,A,c,⟨by omega,by omega,Q3.out.lats hcl HCV.out,Q4.out,Q5.out,Q6.out.trans L6.out,{Q7.out.mono L6.out with lat:=HL6.out},fun b hb=>⟨(Q8.out b hb).1,(Q8.out b hb).2.mono L6.out⟩⟩,by go_num,M.out⟩
       case measure=>simp[intOf]<;>omega
      .have b0:(er==0)=false:=beq_eq_false_iff_ne.2 h0
       clear HVL h0
       (go_wp2_with (first|go_skip|(refine zBXd ?_;clear M;intro w' g M)|(refine zALd (ztSt) ?_;clear M;intro w' g M)|(refine zALd (ztPu) ?_;clear M;intro w' g M)|fail|refine zLAd ?_|refine zBDd 49 [] (fl (stP st0 x0)) (by kernel_rfl) ?_|refine zBDd 29 [] (rc r0) (by kernel_rfl) ?_))
       go_roundw
       case rel=>exact⟨q+1,Γk,sk,vk,Y,A,c,⟨by omega,by omega,Q3.out,Q4.out,Q5.out,Q6.out,Q7.out,Q8.out⟩,by go_num,M.out⟩
       case measure=>simp[intOf]<;>omega
     .have j3:(sk.now.n:Int)<=(a.slot.n:Int):=by omega
      (go_wp2_with (first|go_skip|(refine zBXd ?_;clear M;intro w' g M)|(refine zALd (ztSt) ?_;clear M;intro w' g M)|(refine zALd (ztPu) ?_;clear M;intro w' g M)|fail|refine zLAd ?_|refine zBDd 49 [] (fl (stP st0 x0)) (by kernel_rfl) ?_|refine zBDd 29 [] (rc r0) (by kernel_rfl) ?_))
      refine zRG ?_;(repeat(first|go_big_quiet_skip|(go_big_quiet_want;first|(refine zQFd F1 ?_;go_big_quiet_on;refine zNM ?_)|(refine zQAd ?_;go_big_quiet_on;refine zNM ?_)|(refine zQO ?_;go_big_quiet_on))));(refine zQN ?_;clear M;intro w4 M)
      (go_wp2_with (first|go_skip|(refine zBXd ?_;clear M;intro w' g M)|(refine zALd (ztSt) ?_;clear M;intro w' g M)|(refine zALd (ztPu) ?_;clear M;intro w' g M)|fail|refine zLAd ?_|refine zBDd 49 [] (fl (stP st0 x0)) (by kernel_rfl) ?_|refine zBDd 29 [] (rc r0) (by kernel_rfl) ?_))
      refine AaE [8,11] (.steps [(1,0),(1,1),(0,2),(1,3),(1,4),(1,5),(0,6),(2,7),(3,8),(1,9),(1,10),(3,11)] .leaf) (by kernel_rfl) (by kernel_rfl) ?_;(simp only[MixT6,MT.steps,stepAt,List.getD_cons_zero,List.getD_cons_succ]);replace M:=bx (M.out.drew)
      refine zNM ?_
      (repeat(first|refine zM0 ?_|(go_big_quiet_want;first|(refine zQFd F1 ?_;go_big_quiet_on;refine zNM ?_)|(refine zQAd ?_;go_big_quiet_on;refine zNM ?_)|(refine zQO ?_;go_big_quiet_on))))
      refine AaB (Aa3 elAt rfl rfl (v:=.agg (fl (atP a y)).toArray) (cs:=fl (atP a y)) rfl (Agw _ _)) rfl ?_;refine⟨ext_alloc _ _,?_⟩;replace M:=bx (M.out.alloc (P:=(atP a y)) (AbY _ _) rfl 120);refine zNM ?_
      (obtain⟨v5,w5,hr,hM⟩:=AaU elAt M.out 40 _ 1 1 _ (Aae M.out.at0 (m:=1) rfl) (fun h=>by cases h) (Ad8 _ _) (by unfold maxLen;omega) (by omega));refine AaB (AaG rfl rfl rfl hr) rfl ?_;replace M:=bx (hM.tail);clear hr hM;refine zNM ?_
      refine zMRd ?_
      (obtain⟨A6,c6,e6⟩:=own_slice (M.out.rows _ (List.mem_cons_self ..));simp only at e6;subst e6)
      refine AbL M.out 1 (.slice A6 (Y.length+1) c6) (stP sk {vk with early:=⟨A6,Y.length+1,c6⟩}) rfl rfl rfl rfl Akc rfl rfl rfl rfl rfl rfl ?_
      intro w7 M'
      simp only[List.set_cons_zero,List.set_cons_succ]at M'
      (replace M:=bx M';clear M')
      refine zNM ?_
      refine zMRd ?_
      refine NoPanic.normal ?_
      (go_wp2_with (first|go_skip|(refine zBXd ?_;clear M;intro w' g M)|(refine zALd (ztSt) ?_;clear M;intro w' g M)|(refine zALd (ztPu) ?_;clear M;intro w' g M)|fail|refine zLAd ?_|refine zBDd 49 [] (fl (stP st0 x0)) (by kernel_rfl) ?_|refine zBDd 29 [] (rc r0) (by kernel_rfl) ?_))
      go_roundw
      case rel=>
       refine⟨q+1,Γk,sk,vk,Y ++ [(a,y)],A6,c6,⟨by omega,by simp;omega,Q3.out,Q4.out,Q5.out,Q6.out,Q7.out,fun x hx=>?_⟩,by go_num,?_⟩
       .rcases List.mem_append.1 hx with hx|hx
        .exact Q8.out x hx
        .have:x=(a,y):=by simpa using hx
         subst this;exact HA1.out
       .simp only[List.flatMap_append,List.flatMap_cons,List.flatMap_nil,List.append_nil,List.length_append,List.length_cons,List.length_nil,Nat.zero_add]
        exact M.out
      case measure=>simp[intOf]<;>omega
    .have hki:(X.length:Int)<=(q:Int):=by omega
     (go_wp2_with (first|go_skip|(refine zBXd ?_;clear M;intro w' g M)|(refine zALd (ztSt) ?_;clear M;intro w' g M)|(refine zALd (ztPu) ?_;clear M;intro w' g M)|(refine zSSd M 0 (stP sk {vk with early:=⟨A,Y.length,c⟩}) (stP sk {vk with early:=⟨A,Y.length,c⟩}) (AaD _ _) (Aac _ _) ?_;clear M;intro w' M)|refine zLAd ?_|refine zBDd 49 [] (fl (stP st0 x0)) (by kernel_rfl) ?_|refine zBDd 29 [] (rc r0) (by kernel_rfl) ?_))
     obtain⟨Γ',h1,h2,h3,h4⟩:=M.out.frz
     refine zRt h4.at0 ?_
     exact⟨0,{sk with early:=Y.map Prod.fst},StE.mk {vk with early:=⟨A,Y.length,c⟩} {Q7.out.mono h3 with early:=⟨Y,rfl,fun a ha=>(Q8.out a ha).2.mono h3,by simp,h1,h2⟩} h4.ext,fun _=>Q3.out.early (by rw[Q4.out];have:=XL.out.1;simp;omega) (fun a ha=>by
       obtain⟨b,hb,rfl⟩:=List.mem_map.1 ha
       exact(Q8.out b hb).1),by decide⟩
theorem Ahx{T:List Tbl}{t x:Tbl}:x∈addT T t↔x=t\/x∈T:=by
 unfold addT
 rw[List.mem_append,List.mem_cons]
 constructor
 .rintro(h|h|h)
  .exact .inr ((List.takeWhile_sublist _).subset h)
  .exact .inl h
  .exact .inr ((List.dropWhile_sublist _).subset h)
 .rintro(h|h)
  .exact .inr (.inl h)
  .rw[<-List.takeWhile_append_dropWhile (p:=fun x=>decide (cmpCp x.c t.c<0)) (l:=T)]at h
   rcases List.mem_append.1 h with h|h
   .exact .inl h
   .exact .inr (.inr h)
theorem AlP(T:List Tbl)(t:Tbl):(addT T t).length=T.length+1:=by
 unfold addT
 rw[List.length_append,List.length_cons]
 have:=congrArg List.length (List.takeWhile_append_dropWhile (p:=fun x=>decide (cmpCp x.c t.c<0)) (l:=T))
 rw[List.length_append]at this
 omega
theorem Amm{k:Nat}{s:Sto}{t:Tbl}(h:SI k s)(h0:(regS s t).1=0):SI k (regS s t).2:=by
 unfold regS at h0 |-
 split
 .rename_i hc;rw[if_pos hc]at h0;exact absurd h0 hc
 .rename_i hv
  rw[if_neg hv]at h0
  split
  .rename_i hc;rw[if_pos hc]at h0;simp at h0
  .rename_i hc
   rw[if_neg hc]at h0
   split
   .rename_i hc2;rw[if_pos hc2]at h0;exact absurd h0 hc2
   .rename_i hr
    have hr':(regM s.tabs t (s.bal.length:Int) s.c.tl).1=0:=by
     by_cases hx:(regM s.tabs t (s.bal.length:Int) s.c.tl).1=0
     .exact hx
     .exact absurd hx hr
    have hv':tbE t.b (s.bal.length:Int)=0:=by
     by_cases hx:tbE t.b (s.bal.length:Int)=0
     .exact hx
     .exact absurd hx hv
    have key:(s.tabs.length:Int)<s.c.tl/\(regM s.tabs t (s.bal.length:Int) s.c.tl).2=addT s.tabs t/\∀x∈s.tabs,x.c≠t.c:=by
     unfold regM at hr' |-
     rw[if_neg (by rw[hv'];simp)]at hr' |-
     split at hr'
     .simp at hr'
     .rename_i h1
      rw[if_neg h1]
      split at hr'
      .simp at hr'
      .rename_i h2
       rw[if_neg h2]
       exact⟨by omega,rfl,Aie h1⟩
    have htl:=h.tl
    simp only
    exact {h with
     spe:=⟨h.spe.1,h.spe.2⟩
     tl:=by simp only[key.2.1,AlP];omega
     asc:=by simp only[key.2.1];exact AkH h.asc key.2.2
     tab:=by
      obtain⟨x,hx,e⟩:=h.tab
      exact⟨x,by simp only[key.2.1];exact Ahx.2 (.inr hx),e⟩
     tbs:=fun x hx=>by
      simp only[key.2.1]at hx
      rcases Ahx.1 hx with rfl|hx
      .exact hv'
      .exact h.tbs x hx}
theorem AnR{k:Nat}{s:Sto}{a:Att}(h:SI k s):SI k {s with lat:=(castV s.lat a.t.e a.r a.l).1}:=h.lats (Aet _ _ _ _).1 (AiG h.lv _ _ _)
theorem Ak1{k:Nat}{s:Sto}{a:Att}(h:SI k s)(ha:a.l.length<=100)(hr:(s.early.length:Int)<s.c.el):SI k {s with early:=s.early ++ [a]}:=
 h.early (by simp;omega) (fun x hx=>by
  rcases List.mem_append.1 hx with hx|hx
  .exact h.att x hx
  .have:x=a:=by simpa using hx
   subst this;exact ha)
theorem Ak6(x:Slh):(culI x).length<=x.a.l.length:=by
 have:=Aen x x.a.l.length
 unfold culTo at this
 rwa [List.take_of_length_le (Nat.le_refl _)]at this
theorem Agc{l:List Int}{n:Int}(h:l.Pairwise (· < ·)):(insI l n).Pairwise (· < ·)/\∀y∈insI l n,y=n\/y∈l:=by
 have hcat:l.takeWhile (fun x=>decide (x<n))++l.dropWhile (fun x=>decide (x<n))=l:=List.takeWhile_append_dropWhile
 have hA:∀x∈l.takeWhile (fun x=>decide (x<n)),x<n:=fun x hx=>by
  have:=List.all_eq_true.1 (List.all_takeWhile (p:=fun x=>decide (x<n)) (l:=l)) x hx
  simpa using this
 have hB:∀d t,l.dropWhile (fun x=>decide (x<n))=d::t->¬d<n:=fun d t e=>by
  have:=List.head?_dropWhile_not (p:=fun x=>decide (x<n)) l
  rw[e]at this
  simpa using this
 have hp:=h
 rw[<-hcat,List.pairwise_append]at hp
 obtain⟨h1,h2,h3⟩:=hp
 unfold insI
 generalize l.takeWhile (fun x=>decide (x<n))=A at *
 generalize l.dropWhile (fun x=>decide (x<n))=B at *
 split
 .exact⟨h,fun y hy=>.inr hy⟩
 .rename_i hne
  refine⟨?_,fun y hy=>?_⟩
  .rw[List.pairwise_append,List.pairwise_cons]
   have hn:∀b∈B,n<b:=fun b hb=>by
    cases B with
    |nil=>cases hb
    |cons d t=>
     have e1:=hB d t rfl
     have e2:d≠n:=fun e=>hne (by simp[e])
     rcases List.mem_cons.1 hb with rfl|hb
     .omega
     .have:=(List.pairwise_cons.1 h2).1 b hb
      omega
   refine⟨h1,⟨hn,h2⟩,fun a ha b hb=>?_⟩
   rcases List.mem_cons.1 hb with rfl|hb
   .exact hA a ha
   .exact h3 a ha b hb
  .rw[List.mem_append,List.mem_cons]at hy
   rcases hy with hy|rfl|hy
   .exact .inr (by rw[<-hcat];exact List.mem_append.2 (.inl hy))
   .exact .inl rfl
   .exact .inr (by rw[<-hcat];exact List.mem_append.2 (.inr hy))
theorem AgL:∀(l s:List Int),s.Pairwise (· < ·)->(punI s l).Pairwise (· < ·)/\∀y∈punI s l,y∈s\/y∈l
 |[],s,h=>⟨h,fun y hy=>.inl hy⟩
 |a::t,s,h=>by
  obtain⟨h1,h2⟩:=Agc (n:=a) h
  obtain⟨h3,h4⟩:=AgL t (insI s a) h1
  refine⟨h3,fun y hy=>?_⟩
  rcases h4 y hy with h|h
  .rcases h2 y h with rfl|h
   .exact .inr (by simp)
   .exact .inl h
  .exact .inr (by simp[h])
theorem Ajr(x:Slh):(culI x).Pairwise (· < ·)/\∀y∈culI x,y∈x.a.l:=by
 unfold culI
 suffices hs:∀(l acc:List Int),acc.Pairwise (· < ·)->(l.foldl (fun acc y=>if y∈x.b.l then insI acc y else acc) acc).Pairwise (· < ·)/\∀y∈l.foldl (fun acc y=>if y∈x.b.l then insI acc y else acc) acc,y∈acc\/y∈l by
  obtain⟨h1,h2⟩:=hs x.a.l [] List.Pairwise.nil
  exact⟨h1,fun y hy=>(h2 y hy).elim (fun h=>(by cases h)) id⟩
 intro l
 induction l with
 |nil=>intro acc h;exact⟨h,fun y hy=>.inl hy⟩
 |cons a t ih=>
  intro acc h
  rw[List.foldl_cons]
  by_cases hb:a∈x.b.l
  .rw[if_pos hb]
   obtain⟨h1,h2⟩:=Agc (n:=a) h
   obtain⟨h3,h4⟩:=ih _ h1
   refine⟨h3,fun y hy=>?_⟩
   rcases h4 y hy with h|h
   .rcases h2 y h with rfl|h
    .exact .inr (by simp)
    .exact .inl h
   .exact .inr (by simp[h])
  .rw[if_neg hb]
   obtain⟨h3,h4⟩:=ih acc h
   exact⟨h3,fun y hy=>(h4 y hy).elim .inl fun h=>.inr (by simp[h])⟩
theorem AkP{k:Nat}{s:Sto}{x:Slh}(h:SI k s)(hx:x.a.l.length<=100)(hv:VList x.a.l (s.bal.length:Int)):SI (k+1) {s with eqv:=punI s.eqv (culI x)}:=by
 have h1:=Aho s.eqv (culI x)
 have h2:=Ak6 x
 have h3:=h.eqv
 obtain⟨p1,p2⟩:=AgL (culI x) s.eqv h.eqa
 obtain⟨_,c2⟩:=Ajr x
 exact {h with spe:=⟨h.spe.1,h.spe.2⟩,eqv:=by simp only;omega,now:=by have:=h.now;simp only;omega,eqa:=p1,eqr:=fun y hy=>(p2 y hy).elim (h.eqr y) fun hc=>hv.mem y (c2 y hc)}
theorem Akp{k:Nat}{s:Sto}{M:List Nod}{i:Nat}{v:Vd}{r:Rt}(h:SI k s)(hi:i<s.nodes.length)
  (hj:judgeN s.nodes (i:Int) v [fndI s.nodes s.just.r,fndI s.nodes s.fin.r]=(0,M)):SI k {s with nodes:=M,boost:=r}:=by
 obtain⟨j,hjl,r1,r2⟩:=h.just
 obtain⟨h0,f1⟩:=h.fin
 have e1:fndI s.nodes s.just.r=(j:Int):=by rw[<-r1];exact Ajc h.t.diff hjl
 have e2:fndI s.nodes s.fin.r=((0:Nat):Int):=by rw[<-f1];exact Ajc h.t.diff h0
 rw[e1,e2]at hj
 obtain⟨J,K⟩:=Ako (keep:=[j,0]) h.t hi hj
 have hl:=J.same.len
 exact {h with
  t:=J.t
  spe:=⟨h.spe.1,h.spe.2⟩
  nl:=by simp only[hl];exact h.nl
  just:=⟨j,by simp only[hl];exact hjl,by simp only;rw[(J.same.b j hjl (by omega)).1];exact r1,K j (by simp) hjl (by omega) r2⟩
  fin:=⟨by simp only[hl];exact h0,by simp only;rw[(J.same.b 0 h0 (by omega)).1];exact f1⟩
  ord:=fun n hn=>by
   obtain⟨q,hq,rfl⟩:=List.getElem_of_mem hn
   have hq':q<s.nodes.length:=by rw[<-hl];exact hq
   have:=h.ord _ (List.getElem_mem hq')
   rw[(J.same.b q hq' hq).1]
   exact this}
end Go.Proofs.YtmgeheaneohldaaGreat
