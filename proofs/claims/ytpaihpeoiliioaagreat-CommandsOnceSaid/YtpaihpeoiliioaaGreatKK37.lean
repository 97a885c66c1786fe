/- Texts joined: what the walks of this claim stand on (part 37). -/
import Derived.Test.YtpaihpeoiliioaaGreatKK15
import Derived.Test.YtpaihpeoiliioaaGreatKK20
import Derived.Test.YtpaihpeoiliioaaGreatKK35
import Derived.Test.YtpaihpeoiliioaaGreatKK36
set_option linter.all false
set_option maxRecDepth 20000
set_option maxHeartbeats 40000000
namespace Go.Proofs.YtpaihpeoiliioaaGreat
section
open Go.RowKit Old
def TicP(Γ:Gam)(w:World)(k:Nat)(e:Ending)(w':World):Prop:=∃(er:Int) (s':Sto),StE Γ w er s' e w'/\(er=0->SI k s')/\er≠21
theorem SI.tick{k:Nat}{s:Sto}(h:SI k s){u:U}(hu:u.n=s.now.n+1):SI (k+1) {s with now:=u,boost:=r0}:=
 {h with spe:=⟨h.spe.1,h.spe.2⟩,eqv:=by have:=h.eqv;simp only;omega,now:=by have:=h.now;simp only;omega,ord:=fun n hn=>⟨(h.ord n hn).1,by have:=(h.ord n hn).2;simp only;omega⟩}
theorem SI.early{k:Nat}{s:Sto}(h:SI k s){l:List Att}(h1:(l.length:Int)<=s.c.el)(h2:∀a∈l,a.l.length<=100):SI k {s with early:=l}:=
 {h with spe:=⟨h.spe.1,h.spe.2⟩,el:=⟨h1,h.el.2⟩,att:=h2}
theorem SI.lats{k:Nat}{s:Sto}(h:SI k s){l:List Vo}(h1:l.length=s.lat.length)(h2:∀v∈l,v.has=false->v=vo0):SI k {s with lat:=l}:=
 {h with spe:=⟨h.spe.1,h.spe.2⟩,lat:=h1.trans h.lat,lv:=h2}
theorem Ams(p:Cp × Cp):List.take 2 (puP p)=cpP p.1:=rfl
theorem Amr(p:Cp × Cp):List.take 2 (List.drop 2 (puP p))=cpP p.2:=rfl
theorem Ang{k:Nat}(Γ:Gam)(s:Sto)(v:Sls)(hs:SI k s)(w:World)(ok:Ok Γ w)(h:StG Γ v s) :
  Calls Tryz.prog 125 #[.agg (fl (stP s v)).toArray] w (TicP Γ w (k+1)):=by
 have M:=bx (MM.start ok)
 have HG:=bx h
 have HSI:=bx hs
 clear ok h hs
 by_cases hm:1099511627776<=s.now.n
 .have hm':(1099511627776:Int)<=(s.now.n:Int):=by omega
  clear hm
  go_enter Tryz.func125,Tryz.ntmps125
  (go_wp2_with (first|((first|refine zBXd ?_|refine zALd (ztSt) ?_);clear M;intro w' g M)|(refine zSSd M 0 (stP st0 x0) (stP st0 x0) (AaD _ _) (Aaa _ _) ?_;clear M;intro w' M)|refine zLAd ?_|refine zBDd 49 [] (fl (stP st0 x0)) (by kernel_rfl) ?_))
  refine zRt M.o.at0 ?_
  exact⟨3,st0,StE.err M.o.ext,fun h=>absurd h (by decide),by decide⟩
 .have hm':¬(1099511627776:Int)<=(s.now.n:Int):=by omega
  obtain⟨u,hu⟩:∃u:U,u.n=s.now.n+1:=⟨⟨s.now.n+1,by omega⟩,rfl⟩
  have hw:IntKind.u64.wrap ((s.now.n:Int)+1)=(u.n:Int):=by rw[hu];rw[AdS (by omega) (by omega)];omega
  have HS1:=bx (HSI.o.tick hu)
  have hsp:¬(s.c.spe.n:Int)=0:=by have:=HSI.o.spe.1;omega
  have hsp0:((s.c.spe.n:Int)==0)=false:=beq_eq_false_iff_ne.2 hsp
  clear hm hu HSI
  obtain⟨s1,hs1⟩:∃s1,s1 = {s with now:=u,boost:=r0}:=⟨_,rfl⟩
  have HS2:Bx (SI (k+1) s1):=⟨by rw[hs1];exact HS1.o⟩
  have HG2:Bx (StG Γ v s1):=⟨by rw[hs1];exact⟨HG.o.bal,HG.o.lat,HG.o.eqv,HG.o.early,HG.o.orph,HG.o.nodes,HG.o.tabs⟩⟩
  have HP:Bx (stP {s with now:=u,boost:=r0} v=stP s1 v):=⟨by rw[hs1]⟩
  have PE:=bx (fun w ok=>AjF Γ s1 v w ok HG2.o (by have:=HS2.o.nl;omega))
  have UP:=bx (fun j f w ok=>Aeh Γ s1 v j f HS2.o.spe HS2.o.t.lk (by have:=HS2.o.nl;omega) (by have:=HS2.o.tl;omega) (by have:=HS2.o.ol;omega) w ok HG2.o)
  have US:=bx (fun j f=>Alk HS2.o j f)
  clear hs1 HS1 HG
  go_enter Tryz.func125,Tryz.ntmps125
  go_upto_region 5 with(first|((first|refine zBXd ?_|refine zALd (ztSt) ?_);clear M;intro w' g M)|refine zLAd ?_|refine zBDd 29 [] (rc r0) (by kernel_rfl) ?_|((first|refine zS1d M 1 (.int .u64 (u.n:Int)) (stP {s with now:=u} v) ?_|refine zSSd M 1 [rc r0] (stP {s with now:=u,boost:=r0} v) (lenR _) (Aac _) ?_);clear M;intro w' M))
  rename_i gs _ _ _ _ _ _
  rw[HP.o]at M
  clear HP hw hsp hsp0
  have hsp:0<s1.c.spe.n:=HS2.o.spe.1
  have hsp1:¬(s1.c.spe.n:Int)=0:=by omega
  have hsp0:((s1.c.spe.n:Int)==0)=false:=beq_eq_false_iff_ne.2 hsp1
  have hrm:((s1.now.n:Int)%(s1.c.spe.n:Int))=((s1.now.n%s1.c.spe.n:Nat):Int):=by omega
  have hrl:s1.now.n%s1.c.spe.n<18446744073709551616:=Nat.lt_of_le_of_lt (Nat.mod_le _ _) s1.now.lt
  have hrw:IntKind.u64.wrap ((s1.now.n%s1.c.spe.n:Nat):Int)=((s1.now.n%s1.c.spe.n:Nat):Int):=AdS (by omega) (by omega)
  generalize s1.now.n%s1.c.spe.n=rem at *
  go_upto_if 25 with(refine zLAd ?_)
  go_cut [4]from 7 (fun s4 wx=>∃(s2:Sto) (v2:Sls) (Γ2:Gam),(SI (k+1) s2/\StG Γ2 v2 s2)/\MM Γ w Γ2 wx [⟨g,stP st0 x0,stL⟩,⟨gs,stP s2 v2,stL⟩] [])
  case first=>
   by_cases hr:rem=0
   .have b1:((rem:Int)==0)=true:=by simp[hr]
    clear hr
    (go_wp2_with (refine zLAd ?_))
    refine zCA M (PE.o _ M.ok) ?_;clear M;intro w1 M
    generalize s1.pend=pp at *
    (go_wp2_with (first|(refine zALd (ztPu) ?_;clear M;intro w' g M)|(refine zSSd M 0 (puP pp) (puP pp) (Ai9 _) (Aox _) ?_;clear M;intro w' M)|refine zLAd ?_))
    refine(UP.o pp.1 pp.2 _ M.ok).mono ?_
    rintro e2 w2 ⟨v2,Γ2,rfl,hg2,hx2⟩
    replace M:=bx (M.o.call hx2)
    have HG3:=bx hg2
    clear hg2 hx2
    have US':=bx (US.o pp.1 pp.2)
    generalize updR s1 pp.1 pp.2=s2 at *
    (go_wp2_with (refine zSSd M 2 (stP s2 v2) (stP s2 v2) (AaD _ _) (Aaa _ _) ?_;clear M;intro w' M))
    go_meet
    case rel=>exact⟨s2,v2,Γ2,⟨US'.o,HG3.o⟩,M.o.tail⟩
   .have b1:((rem:Int)==0)=false:=beq_eq_false_iff_ne.2 (by omega)
    clear hr
    (go_wp2_with (fail))
    go_meet
    case rel=>exact⟨s1,v,Γ,⟨HS2.o,HG2.o⟩,M.o⟩
  case rest=>
   obtain⟨s2,v2,Γ2,⟨k1,k2⟩,hM⟩:=hcut
   clear M PE UP US HS2 HG2 hrm hrl hrw hsp hsp1 hsp0
   have M:=bx hM
   have K1:=bx k1
   obtain⟨X,hX,hXA,hXS⟩:=k2.early
   have hXl:X.length=s2.early.length:=by rw[<-hX,List.length_map]
   obtain⟨A0,c0,hv,hsl⟩:∃A0 c0,v2.early.v=.slice A0 X.length c0/\SlG Γ2 A0 X.length (X.flatMap atx):=⟨v2.early.A,v2.early.c,by rw[hXl,<-hXS.n],by have:=hXS.sl;rwa [hXS.n,<-hXl]at this⟩
   have HV:=bx hv
   have HS:=bx hsl
   have XA:=bx hXA
   have XT:Bx (∀a∈X,a.1.l.length<=100):=⟨fun a ha=>k1.att a.1 (by rw[<-hX];exact List.mem_map_of_mem ha)⟩
   have XL:Bx ((X.length:Int)<=s2.c.el/\X.length<=8):=⟨by have:=k1.el;omega⟩
   have K2:Bx (SI (k+1) {s2 with early:=[]}/\StG Γ2 {v2 with early:=sl0} {s2 with early:=[]}):=⟨k1.early (by have:=k1.el;simp;omega) (fun a ha=>by simp at ha),{k2 with early:=⟨[],rfl,fun _ h=>absurd h (by simp),slR0 Γ2⟩}⟩
   clear hM k1 k2 hX hXA hXS hXl hv hsl K1
   (go_wp2_with (first|refine zLHd HV ?_|(refine zS1d M 1 (.slice none 0 0) (stP s2 {v2 with early:=sl0}) ?_;clear M;intro w' M)))
   go_loopw [6] (fun jj wr=>∃(q:Nat) (Γk:Gam) (sk:Sto) (vk:Sls) (Y:List (Att × Sl)) (A:Option Addr) (c:Nat),(q<=X.length/\Y.length<=q/\SI (k+1) sk/\sk.c=s2.c/\sk.early = []/\Le Γ2 Γk/\StG Γk vk sk/\(∀a∈Y,a.1.l.length<=100/\AtG Γk a.1 a.2))/\jj=.int .i64 q /\
    MM Γ w Γk wr [⟨g,stP st0 x0,stL⟩,⟨gs,stP sk {vk with early:=⟨A,Y.length,c⟩},stL⟩] [⟨.slice A Y.length c,113,67,Y.length,Y.flatMap atx⟩]) (fun jj _=>X.length-(intOf jj).toNat)
   case atStart=>exact⟨0,Γ2,{s2 with early:=[]},{v2 with early:=sl0},[],none,0,⟨Nat.zero_le _,Nat.le_refl _,K2.o.1,rfl,rfl,Le.refl _,K2.o.2,fun _ h=>absurd h (by simp)⟩,rfl,M.o.row0 _ _⟩
   case round=>
    obtain⟨q,Γk,sk,vk,Y,A,c,⟨q1,q2,q3,q4,q5,q6,q7,q8⟩,rfl,hM⟩:=hrel
    clear M
    have M:=bx hM
    have Q3:=bx q3
    have Q4:=bx q4
    have Q5:=bx q5
    have Q6:=bx q6
    have Q7:=bx q7
    have Q8:=bx q8
    clear hM q3 q4 q5 q6 q7 q8
    have xl:=XL.o.2
    by_cases hqn:q<X.length
    .obtain⟨gk,rfl,hf⟩:=(HS.o.mono Q6.o).at (f:=atx) (fun x _=>Aio _ _) rfl q hqn
     have F1:Bx (Fz Γk gk (q*67) (atP X[q].1 X[q].2) [1,32,1,32,1]):=⟨hf,AbB _ _⟩
     have HA1:Bx (X[q].1.l.length<=100/\AtG Γk X[q].1 X[q].2):=⟨XT.o _ (List.getElem_mem hqn),(XA.o _ (List.getElem_mem hqn)).mono Q6.o⟩
     have hki:(q:Int)<(X.length:Int):=by omega
     have hk0:0<=(q:Int):=by omega
     clear hf
     generalize X[q]=ay at *
     obtain⟨a,y⟩:=ay
     simp only at F1 HA1
     rcases two2 a.slot.n sk.now.n with⟨j1,j2⟩|⟨j1,j2⟩
     .have j3:¬(sk.now.n:Int)<=(a.slot.n:Int):=by omega
      have j4:decide ((sk.now.n:Int)<=(a.slot.n:Int))=false:=decide_eq_false j3
      have j5:decide (sk.now.n<=a.slot.n)=false:=decide_eq_false (by omega)
      have j6:¬sk.now.n<=a.slot.n:=by omega
      clear j1 j2
      (go_wp2_with (fail))
      refine zRG ?_;(repeat((go_big_quiet_want;first|((first|refine zQFd F1 ?_|refine zQAd ?_);go_big_quiet_on;refine zNM ?_)|(refine zQO ?_;go_big_quiet_on))));(refine zQN ?_;clear M;intro w4 M)
      go_upto_region 15 with fail
      obtain⟨Γ1,r1,r2,r3,r4,r5⟩:=M.o.frzD;have HZ:Bx (StG Γ1 {vk with early:=⟨A,Y.length,c⟩} {sk with early:=Y.map Prod.fst}):=⟨{Q7.o.mono r3 with early:=⟨Y,rfl,fun b hb=>(Q8.o b hb).2.mono r3,by simp,r1,r2⟩}⟩;have R3:=bx r3;have R4:=bx r4;have R5:=bx r5;clear r1 r2 r3 r4 r5
      have hlat:sk.lat.length=sk.bal.length:=Q3.o.lat
      have hbal:=Q3.o.bal
      have HSE:=bx (show SpeOk {sk with early:=Y.map Prod.fst}from⟨Q3.o.spe.1,Q3.o.spe.2⟩)
      have CK:=bx (Aex Γ1 {sk with early:=Y.map Prod.fst} {vk with early:=⟨A,Y.length,c⟩} a y HSE.o Q3.o.t.lk (by have:=Q3.o.nl;show sk.nodes.length<=4096;omega) (by have:=HA1.o.1;omega))
      refine AaB [] (.steps [(0,0),(1,1),(1,2),(1,3),(0,4),(2,5),(1,6),(1,7),(1,8),(1,9),(1,10)] .leaf) (by kernel_rfl) (by kernel_rfl) ?_;(simp only[MixT6,MT.steps,stepAt,List.getD_cons_zero,List.getD_cons_succ]);replace M:=bx (M.o.drew)
      refine zNM ?_
      (repeat(first|refine zM0 ?_|(go_big_quiet_want;first|((first|refine zQFd F1 ?_|refine zQAd ?_);go_big_quiet_on;refine zNM ?_)|(refine zQO ?_;go_big_quiet_on))))
      refine zMC (CK.o _ (R4.o _ (Below.refl _ _).drew) HZ.o (HA1.o.2.mono R3.o)) Tryz.func158 ?_
      rintro e4 w4 ⟨ea,er,rfl,hvl,hx4⟩
      refine⟨_,rfl,hx4.bel,?_⟩
      replace M:=bx (M.o.below hx4.bel)
      have HVL:=bx hvl
      clear hvl hx4 CK HZ R3 R4 R5
      refine zNM ?_
      refine zMRd ?_
      refine NoPanic.normal ?_
      by_cases h0:er=0
      .have b0:(er==0)=true:=by rw[h0];rfl
       have HV2:=bx (HVL.o.1 h0)
       clear HVL h0
       (go_wp2_with (fail))
       refine AaB [6] (.steps [(0,0),(1,1),(1,2),(1,3),(0,4),(2,5),(3,6)] .leaf) (by kernel_rfl) (by kernel_rfl) ?_;(simp only[MixT6,MT.steps,stepAt,List.getD_cons_zero,List.getD_cons_succ]);replace M:=bx (M.o.drew)
       refine zNM ?_
       (repeat(first|refine zM0 ?_|(go_big_quiet_want;first|((first|refine zQFd F1 ?_|refine zQAd ?_);go_big_quiet_on;refine zNM ?_)|(refine zQO ?_;go_big_quiet_on))))
       obtain⟨Γ1,r1,r2,r3,r4,r5⟩:=M.o.frzD;have HZ:Bx (StG Γ1 {vk with early:=⟨A,Y.length,c⟩} {sk with early:=Y.map Prod.fst}):=⟨{Q7.o.mono r3 with early:=⟨Y,rfl,fun b hb=>(Q8.o b hb).2.mono r3,by simp,r1,r2⟩}⟩;have R3:=bx r3;have R4:=bx r4;have R5:=bx r5;clear r1 r2 r3 r4 r5
       refine AiH (Ajb Γ1 {sk with early:=Y.map Prod.fst} {vk with early:=⟨A,Y.length,c⟩} a y _ (R4.o _ (Below.refl _ _)) HZ.o (HA1.o.2.mono R3.o) (by show 0<sk.lat.length;omega) (by show sk.lat.length<=65535;omega) (by have:=HA1.o.1;omega) (by
        show ∀z∈a.l,0<=z/\z<(sk.lat.length:Int)
        rw[hlat];exact HV2.o.mem)) Tryz.func159 rfl rfl _ _ rfl rfl rfl ?_
       rintro e5 w5 ⟨x5,Γ5,rfl,hl5,hx5⟩
       refine⟨_,rfl,hx5.bel,?_⟩
       have hx6:=Ext.cut M.ok hx5
       have hcl:=(Af8 sk.lat a.t.e a.r a.l).1
       have HCV:=bx (Akc Q3.o.lv a.t.e a.r a.l)
       simp only at hl5
       generalize(castV sk.lat a.t.e a.r a.l).1=lv at *
       have HL6:Bx (SlR (cutG Γk Γ5 _) x5 lv.length (lv.flatMap vox)):=⟨hl5.n,hl5.cap,hl5.sl.cutD hx5 R5.o (Anc (by omega))⟩
       have L6:=bx hx6.le
       replace M:=bx (M.o.call hx6)
       clear hx5 hx6 hl5 HZ R3 R4 R5
       generalize cutG Γk Γ5 _=Γ6 at *
       refine zNM ?_
       refine zMRd ?_
       refine Aam M.o 1 (stP {sk with lat:=lv} {vk with lat:=x5,early:=⟨A,Y.length,c⟩}) (stP {sk with lat:=lv} {vk with lat:=x5,early:=⟨A,Y.length,c⟩}) rfl rfl rfl rfl rtSt rfl (AaD _ _) (Aaa _ _) rfl rfl ?_
       intro w7 M'
       simp only[List.set_cons_zero,List.set_cons_succ]at M'
       (replace M:=bx M';clear M')
       refine zNM ?_
       refine zMRd ?_
       refine NoPanic.normal ?_
       (go_wp2_with (fail))
       go_roundw
       case rel=>exact⟨q+1,Γ6,{sk with lat:=lv},{vk with lat:=x5},Y,A,c,⟨by omega,by omega,Q3.o.lats hcl HCV.o,Q4.o,Q5.o,Q6.o.trans L6.o,{Q7.o.mono L6.o with lat:=HL6.o},fun b hb=>⟨(Q8.o b hb).1,(Q8.o b hb).2.mono L6.o⟩⟩,by go_num,M.o⟩
       case measure=>simp[intOf]<;>omega
      .have b0:(er==0)=false:=beq_eq_false_iff_ne.2 h0
       clear HVL h0
       (go_wp2_with (fail))
       go_roundw
       case rel=>exact⟨q+1,Γk,sk,vk,Y,A,c,⟨by omega,by omega,Q3.o,Q4.o,Q5.o,Q6.o,Q7.o,Q8.o⟩,by go_num,M.o⟩
       case measure=>simp[intOf]<;>omega
     .have j3:(sk.now.n:Int)<=(a.slot.n:Int):=by omega
      (go_wp2_with (fail))
      refine zRG ?_;(repeat((go_big_quiet_want;first|((first|refine zQFd F1 ?_|refine zQAd ?_);go_big_quiet_on;refine zNM ?_)|(refine zQO ?_;go_big_quiet_on))));(refine zQN ?_;clear M;intro w4 M)
      (go_wp2_with (fail))
      refine AaB [8,11] (.steps [(1,0),(1,1),(0,2),(1,3),(1,4),(1,5),(0,6),(2,7),(3,8),(1,9),(1,10),(3,11)] .leaf) (by kernel_rfl) (by kernel_rfl) ?_;(simp only[MixT6,MT.steps,stepAt,List.getD_cons_zero,List.getD_cons_succ]);replace M:=bx (M.o.drew)
      refine zNM ?_
      (repeat(first|refine zM0 ?_|(go_big_quiet_want;first|((first|refine zQFd F1 ?_|refine zQAd ?_);go_big_quiet_on;refine zNM ?_)|(refine zQO ?_;go_big_quiet_on))))
      refine AaA (Aau elAt rfl rfl (v:=.agg (fl (atP a y)).toArray) (cs:=fl (atP a y)) rfl (Aio _ _)) rfl ?_;refine⟨ext_alloc _ _,?_⟩;replace M:=bx (M.o.alloc (P:=(atP a y)) (AbB _ _) rfl 113);refine zNM ?_
      (obtain⟨v5,w5,hr,hM⟩:=AaW elAt M.o 40 _ 1 1 _ (Aaf M.o.at0 (m:=1) rfl) (fun h=>by cases h) (Adl _ _) (by unfold maxLen;omega) (by omega));refine AaA (AaE rfl rfl rfl hr) rfl ?_;replace M:=bx (hM.tail);clear hr hM;refine zNM ?_
      refine zMRd ?_
      (obtain⟨A6,c6,e6⟩:=own_slice (M.o.rows _ (List.mem_cons_self ..));simp only at e6;subst e6)
      refine Aa6 M.o 1 (.slice A6 (Y.length+1) c6) (stP sk {vk with early:=⟨A6,Y.length+1,c6⟩}) rfl rfl rfl rfl Anx rfl rfl rfl rfl rfl rfl ?_
      intro w7 M'
      simp only[List.set_cons_zero,List.set_cons_succ]at M'
      (replace M:=bx M';clear M')
      refine zNM ?_
      refine zMRd ?_
      refine NoPanic.normal ?_
      (go_wp2_with (fail))
      go_roundw
      case rel=>
       refine⟨q+1,Γk,sk,vk,Y ++ [(a,y)],A6,c6,⟨by omega,by simp;omega,Q3.o,Q4.o,Q5.o,Q6.o,Q7.o,fun x hx=>?_⟩,by go_num,?_⟩
       .rcases List.mem_append.1 hx with hx|hx
        .exact Q8.o x hx
        .have:x=(a,y):=by simpa using hx
         subst this;exact HA1.o
       .simp only[List.flatMap_append,List.flatMap_cons,List.flatMap_nil,List.append_nil,List.length_append,List.length_cons,List.length_nil,Nat.zero_add]
        exact M.o
      case measure=>simp[intOf]<;>omega
    .have hki:(X.length:Int)<=(q:Int):=by omega
     (go_wp2_with (first|(refine zSSd M 0 (stP sk {vk with early:=⟨A,Y.length,c⟩}) (stP sk {vk with early:=⟨A,Y.length,c⟩}) (AaD _ _) (Aaa _ _) ?_;clear M;intro w' M)|refine zLAd ?_))
     obtain⟨Γ',h1,h2,h3,h4⟩:=M.o.frz
     refine zRt h4.at0 ?_
     exact⟨0,{sk with early:=Y.map Prod.fst},StE.mk {vk with early:=⟨A,Y.length,c⟩} {Q7.o.mono h3 with early:=⟨Y,rfl,fun a ha=>(Q8.o a ha).2.mono h3,by simp,h1,h2⟩} h4.ext,fun _=>Q3.o.early (by rw[Q4.o];have:=XL.o.1;simp;omega) (fun a ha=>by
       obtain⟨b,hb,rfl⟩:=List.mem_map.1 ha
       exact(Q8.o b hb).1),by decide⟩
theorem Aj4{T:List Tbl}{t x:Tbl}:x∈addT T t↔x=t\/x∈T:=by
 unfold addT
 rw[List.mem_append,List.mem_cons]
 constructor
 .rintro(h|h|h)
  .exact .inr ((List.takeWhile_sublist _).subset h)
  .exact .inl h
  .exact .inr ((List.dropWhile_sublist _).subset h)
 .rintro(h|h)
  .exact .inr (.inl h)
  .rw[<-List.takeWhile_append_dropWhile (p:=fun x=>decide (cmpCp x.c t.c<0)) (l:=T)]at h
   rcases List.mem_append.1 h with h|h
   .exact .inl h
   .exact .inr (.inr h)
theorem Aop(T:List Tbl)(t:Tbl):(addT T t).length=T.length+1:=by
 unfold addT
 rw[List.length_append,List.length_cons]
 have:=congrArg List.length (List.takeWhile_append_dropWhile (p:=fun x=>decide (cmpCp x.c t.c<0)) (l:=T))
 rw[List.length_append]at this
 omega
theorem AqY{k:Nat}{s:Sto}{t:Tbl}(h:SI k s)(h0:(regS s t).1=0):SI k (regS s t).2:=by
 unfold regS at h0 |-
 split
 .rename_i hc;rw[if_pos hc]at h0;exact absurd h0 hc
 .rename_i hv
  rw[if_neg hv]at h0
  split
  .rename_i hc;rw[if_pos hc]at h0;simp at h0
  .rename_i hc
   rw[if_neg hc]at h0
   split
   .rename_i hc2;rw[if_pos hc2]at h0;exact absurd h0 hc2
   .rename_i hr
    have hr':(regM s.tabs t (s.bal.length:Int) s.c.tl).1=0:=by
     by_cases hx:(regM s.tabs t (s.bal.length:Int) s.c.tl).1=0
     .exact hx
     .exact absurd hx hr
    have hv':tbE t.b (s.bal.length:Int)=0:=by
     by_cases hx:tbE t.b (s.bal.length:Int)=0
     .exact hx
     .exact absurd hx hv
    have key:(s.tabs.length:Int)<s.c.tl/\(regM s.tabs t (s.bal.length:Int) s.c.tl).2=addT s.tabs t/\∀x∈s.tabs,x.c≠t.c:=by
     unfold regM at hr' |-
     rw[if_neg (by rw[hv'];simp)]at hr' |-
     split at hr'
     .simp at hr'
     .rename_i h1
      rw[if_neg h1]
      split at hr'
      .simp at hr'
      .rename_i h2
       rw[if_neg h2]
       exact⟨by omega,rfl,AlK h1⟩
    have htl:=h.tl
    simp only
    exact {h with
     spe:=⟨h.spe.1,h.spe.2⟩
     tl:=by simp only[key.2.1,Aop];omega
     asc:=by simp only[key.2.1];exact AnY h.asc key.2.2
     tab:=by
      obtain⟨x,hx,e⟩:=h.tab
      exact⟨x,by simp only[key.2.1];exact Aj4.2 (.inr hx),e⟩
     tbs:=fun x hx=>by
      simp only[key.2.1]at hx
      rcases Aj4.1 hx with rfl|hx
      .exact hv'
      .exact h.tbs x hx}
theorem Aq8{k:Nat}{s:Sto}{a:Att}(h:SI k s):SI k {s with lat:=(castV s.lat a.t.e a.r a.l).1}:=h.lats (Af8 _ _ _ _).1 (Akc h.lv _ _ _)
theorem AoM{k:Nat}{s:Sto}{a:Att}(h:SI k s)(ha:a.l.length<=100)(hr:(s.early.length:Int)<s.c.el):SI k {s with early:=s.early ++ [a]}:=
 h.early (by simp;omega) (fun x hx=>by
  rcases List.mem_append.1 hx with hx|hx
  .exact h.att x hx
  .have:x=a:=by simpa using hx
   subst this;exact ha)
theorem AoT(x:Slh):(culI x).length<=x.a.l.length:=by
 have:=Af2 x x.a.l.length
 unfold culTo at this
 rwa [List.take_of_length_le (Nat.le_refl _)]at this
theorem AiR{l:List Int}{n:Int}(h:l.Pairwise (· < ·)):(insI l n).Pairwise (· < ·)/\∀y∈insI l n,y=n\/y∈l:=by
 have hcat:l.takeWhile (fun x=>decide (x<n))++l.dropWhile (fun x=>decide (x<n))=l:=List.takeWhile_append_dropWhile
 have hA:∀x∈l.takeWhile (fun x=>decide (x<n)),x<n:=fun x hx=>by
  have:=List.all_eq_true.1 (List.all_takeWhile (p:=fun x=>decide (x<n)) (l:=l)) x hx
  simpa using this
 have hB:∀d t,l.dropWhile (fun x=>decide (x<n))=d::t->¬d<n:=fun d t e=>by
  have:=List.head?_dropWhile_not (p:=fun x=>decide (x<n)) l
  rw[e]at this
  simpa using this
 have hp:=h
 rw[<-hcat,List.pairwise_append]at hp
 obtain⟨h1,h2,h3⟩:=hp
 unfold insI
 generalize l.takeWhile (fun x=>decide (x<n))=A at *
 generalize l.dropWhile (fun x=>decide (x<n))=B at *
 split
 .exact⟨h,fun y hy=>.inr hy⟩
 .rename_i hne
  refine⟨?_,fun y hy=>?_⟩
  .rw[List.pairwise_append,List.pairwise_cons]
   have hn:∀b∈B,n<b:=fun b hb=>by
    cases B with
    |nil=>cases hb
    |cons d t=>
     have e1:=hB d t rfl
     have e2:d≠n:=fun e=>hne (by simp[e])
     rcases List.mem_cons.1 hb with rfl|hb
     .omega
     .have:=(List.pairwise_cons.1 h2).1 b hb
      omega
   refine⟨h1,⟨hn,h2⟩,fun a ha b hb=>?_⟩
   rcases List.mem_cons.1 hb with rfl|hb
   .exact hA a ha
   .exact h3 a ha b hb
  .rw[List.mem_append,List.mem_cons]at hy
   rcases hy with hy|rfl|hy
   .exact .inr (by rw[<-hcat];exact List.mem_append.2 (.inl hy))
   .exact .inl rfl
   .exact .inr (by rw[<-hcat];exact List.mem_append.2 (.inr hy))
theorem Ah9:∀(l s:List Int),s.Pairwise (· < ·)->(punI s l).Pairwise (· < ·)/\∀y∈punI s l,y∈s\/y∈l
 |[],s,h=>⟨h,fun y hy=>.inl hy⟩
 |a::t,s,h=>by
  obtain⟨h1,h2⟩:=AiR (n:=a) h
  obtain⟨h3,h4⟩:=Ah9 t (insI s a) h1
  refine⟨h3,fun y hy=>?_⟩
  rcases h4 y hy with h|h
  .rcases h2 y h with rfl|h
   .exact .inr (by simp)
   .exact .inl h
  .exact .inr (by simp[h])
theorem Amu(x:Slh):(culI x).Pairwise (· < ·)/\∀y∈culI x,y∈x.a.l:=by
 unfold culI
 suffices hs:∀(l acc:List Int),acc.Pairwise (· < ·)->(l.foldl (fun acc y=>if y∈x.b.l then insI acc y else acc) acc).Pairwise (· < ·)/\∀y∈l.foldl (fun acc y=>if y∈x.b.l then insI acc y else acc) acc,y∈acc\/y∈l by
  obtain⟨h1,h2⟩:=hs x.a.l [] List.Pairwise.nil
  exact⟨h1,fun y hy=>(h2 y hy).elim (fun h=>(by cases h)) id⟩
 intro l
 induction l with
 |nil=>intro acc h;exact⟨h,fun y hy=>.inl hy⟩
 |cons a t ih=>
  intro acc h
  rw[List.foldl_cons]
  by_cases hb:a∈x.b.l
  .rw[if_pos hb]
   obtain⟨h1,h2⟩:=AiR (n:=a) h
   obtain⟨h3,h4⟩:=ih _ h1
   refine⟨h3,fun y hy=>?_⟩
   rcases h4 y hy with h|h
   .rcases h2 y h with rfl|h
    .exact .inr (by simp)
    .exact .inl h
   .exact .inr (by simp[h])
  .rw[if_neg hb]
   obtain⟨h3,h4⟩:=ih acc h
   exact⟨h3,fun y hy=>(h4 y hy).elim .inl fun h=>.inr (by simp[h])⟩
theorem Ank{k:Nat}{s:Sto}{x:Slh}(h:SI k s)(hx:x.a.l.length<=100)(hv:VList x.a.l (s.bal.length:Int)):SI (k+1) {s with eqv:=punI s.eqv (culI x)}:=by
 have h1:=Aju s.eqv (culI x)
 have h2:=AoT x
 have h3:=h.eqv
 obtain⟨p1,p2⟩:=Ah9 (culI x) s.eqv h.eqa
 obtain⟨_,c2⟩:=Amu x
 exact {h with spe:=⟨h.spe.1,h.spe.2⟩,eqv:=by simp only;omega,now:=by have:=h.now;simp only;omega,eqa:=p1,eqr:=fun y hy=>(p2 y hy).elim (h.eqr y) fun hc=>hv.mem y (c2 y hc)}
theorem AoB{k:Nat}{s:Sto}{M:List Nod}{i:Nat}{v:Vd}{r:Rt}(h:SI k s)(hi:i<s.nodes.length)
  (hj:judgeN s.nodes (i:Int) v [fndI s.nodes s.just.r,fndI s.nodes s.fin.r]=(0,M)):SI k {s with nodes:=M,boost:=r}:=by
 obtain⟨j,hjl,r1,r2⟩:=h.just
 obtain⟨h0,f1⟩:=h.fin
 have e1:fndI s.nodes s.just.r=(j:Int):=by rw[<-r1];exact Agm h.t.diff hjl
 have e2:fndI s.nodes s.fin.r=((0:Nat):Int):=by rw[<-f1];exact Agm h.t.diff h0
 rw[e1,e2]at hj
 obtain⟨J,K⟩:=AoA (keep:=[j,0]) h.t hi hj
 have hl:=J.same.len
 exact {h with
  t:=J.t
  spe:=⟨h.spe.1,h.spe.2⟩
  nl:=by simp only[hl];exact h.nl
  just:=⟨j,by simp only[hl];exact hjl,by simp only;rw[(J.same.b j hjl (by omega)).1];exact r1,K j (by simp) hjl (by omega) r2⟩
  fin:=⟨by simp only[hl];exact h0,by simp only;rw[(J.same.b 0 h0 (by omega)).1];exact f1⟩
  ord:=fun n hn=>by
   obtain⟨q,hq,rfl⟩:=List.getElem_of_mem hn
   have hq':q<s.nodes.length:=by rw[<-hl];exact hq
   have:=h.ord _ (List.getElem_mem hq')
   rw[(J.same.b q hq' hq).1]
   exact this
  rtn:=fun n hn=>by
   obtain⟨q,hq,rfl⟩:=List.getElem_of_mem hn
   have hq':q<s.nodes.length:=by rw[<-hl];exact hq
   have:=h.rtn _ (List.getElem_mem hq')
   rw[(J.same.b q hq' hq).1]
   exact this}
structure ZI(k:Nat)(z:Zst):Prop where
 s:SI k z.s
 nreq:z.reqs.length<=40*k
 nret:z.rets.length<=k
 tries:∀q,q∈z.reqs\/q∈z.rets->0<=q.tries/\q.tries<=(k:Int)
theorem ZI.more{k k':Nat}{z:Zst}(h:ZI k z)(hk:k<=k'):ZI k' z:=
 ⟨h.s.more hk,by have:=h.nreq;omega,by have:=h.nret;omega,fun q hq=>by have:=h.tries q hq;omega⟩
theorem ZI.halt{k:Nat}{z:Zst}(h:ZI k z)(b:Bool):ZI k {z with halt:=b}:=⟨h.s,h.nreq,h.nret,h.tries⟩
theorem ZI.emt{k:Nat}{z:Zst}(h:ZI k z):ZI k (emtZ z):=by
 unfold emtZ
 split
 .exact h
 .exact⟨h.s,h.nreq,h.nret,h.tries⟩
theorem ZI.store{k:Nat}{z:Zst}(h:ZI k z){s:Sto}(hs:SI k s):ZI k {z with s:=s}:=⟨hs,h.nreq,h.nret,h.tries⟩
theorem AiI{N:List Nod}{l:List Rq}{q:Rq}(h:q∈knownR N l):q∈l:=(List.mem_filter.1 h).1
theorem AeQ(N:List Nod)(l:List Rq):(knownR N l).length<=l.length:=List.length_filter_le _ _
theorem ZI.drop{k:Nat}{z:Zst}(h:ZI k z):ZI k (dropZ z):=
 ⟨h.s,Nat.le_trans (AeQ _ _) h.nreq,Nat.le_trans (AeQ _ _) h.nret,fun q hq=>h.tries q (hq.elim (fun h=>.inl (AiI h)) fun h=>.inr (AiI h))⟩
theorem Aj1:∀(l:List Rt) (z:Zst),(opTo z l).rets=z.rets/\∀q∈(opTo z l).reqs,q∈z.reqs\/q.tries=0
 |[],z=>⟨rfl,fun q hq=>.inl hq⟩
 |a::t,z=>by
  obtain⟨h1,h2⟩:=Aj1 t (opS z a)
  have e:opTo z (a::t)=opTo (opS z a) t:=rfl
  have h3:(opS z a).rets=z.rets/\∀q∈(opS z a).reqs,q∈z.reqs\/q.tries=0:=by
   unfold opS
   split
   .refine⟨rfl,fun q hq=>?_⟩
    rcases List.mem_append.1 hq with hq|hq
    .exact .inl hq
    .have:q=⟨z.ntag,a,0,u0⟩:=by simpa using hq
     rw[this];exact .inr rfl
   .exact⟨rfl,fun q hq=>.inl hq⟩
  rw[e]
  exact⟨h1.trans h3.1,fun q hq=>(h2 q hq).elim (h3.2 q) .inr⟩
theorem ZI.opens{k:Nat}{z:Zst}(h:ZI k z){l:List Rt}(hl:l.length<=9):ZI (k+1) (opTo z l):=by
 obtain⟨h1,h2⟩:=Aoy z l
 obtain⟨h3,h4⟩:=Aj1 l z
 have h5:=h.more (Nat.le_succ k)
 refine⟨by rw[h1];exact h5.s,by have:=h.nreq;omega,by rw[h3];exact h5.nret,fun q hq=>?_⟩
 rcases hq with hq|hq
 .rcases h4 q hq with hq|hq
  .exact h5.tries q (.inl hq)
  .rw[hq];omega
 .rw[h3]at hq;exact h5.tries q (.inr hq)
theorem AoN(l:List Rq):∀y:Zst,∀q,q∈(l.foldl dueS y).reqs\/q∈(l.foldl dueS y).rets->(q∈y.reqs\/q∈y.rets)\/∃r∈l,q.tries=r.tries:=by
 induction l with
 |nil=>intro y q hq;exact .inl hq
 |cons a t ih=>
  intro y q hq
  rw[List.foldl_cons]at hq
  rcases ih (dueS y a) q hq with h|⟨r,hr,e⟩
  .unfold dueS at h
   split at h
   .rcases h with h|h
    .exact .inl (.inl h)
    .rcases List.mem_append.1 h with h|h
     .exact .inl (.inr h)
     .have:q=a:=by simpa using h
      exact .inr ⟨a,by simp,by rw[this]⟩
   .split at h
    .rcases h with h|h
     .rcases List.mem_append.1 h with h|h
      .exact .inl (.inl h)
      .have:q=⟨y.ntag,a.block,a.tries,u0⟩:=by simpa using h
       exact .inr ⟨a,by simp,by rw[this]⟩
     .exact .inl (.inr h)
    .exact .inl h
  .exact .inr ⟨r,by simp[hr],e⟩
theorem ZI.due{k:Nat}{z:Zst}(h:ZI (k+1) z)(e2:z.reqs.length<=40*k)(e1:z.rets.length<=k)(hk:k<=40):ZI (k+1) (dueZ z):=by
 obtain⟨h1,h2,h3⟩:=Aml z z.rets
 refine⟨by unfold dueZ;rw[h1];exact h.s,by unfold dueZ;omega,by unfold dueZ;omega,fun q hq=>?_⟩
 unfold dueZ dueTo at hq
 rcases AoN z.rets _ q hq with(hq|hq)|⟨r,hr,e⟩
 .exact h.tries q (.inl hq)
 .cases hq
 .rw[e];exact h.tries r (.inr hr)
theorem ZI.cut{k:Nat}{z:Zst}(h:ZI k z)(j:Nat):ZI k {z with reqs:=z.reqs.take j++z.reqs.drop (j+1)}:=by
 have hm:∀q∈z.reqs.take j++z.reqs.drop (j+1),q∈z.reqs:=fun q hq=>by
  rcases List.mem_append.1 hq with hq|hq
  .exact List.mem_of_mem_take hq
  .exact List.mem_of_mem_drop hq
 refine⟨h.s,?_,h.nret,fun q hq=>h.tries q (hq.imp (hm q) id)⟩
 have:=h.nreq
 simp only[List.length_append,List.length_take,List.length_drop]
 omega
theorem ZI.later{k:Nat}{z z':Zst}{r:Rq}(h:ZI k z)(hr:0<=r.tries/\r.tries<=(k:Int))(e1:z'.s=z.s)(e2:z'.reqs=z.reqs)(e3:z'.rets.length<=z.rets.length+1)(e4:∀q∈z'.rets,q∈z.rets\/q.tries=r.tries+1):ZI (k+1) z':=by
 have h5:=h.more (Nat.le_succ k)
 refine⟨by rw[e1];exact h5.s,by rw[e2];exact h5.nreq,by have:=h.nret;omega,fun q hq=>?_⟩
 rcases hq with hq|hq
 .rw[e2]at hq;exact h5.tries q (.inl hq)
 .rcases e4 q hq with hq|hq
  .exact h5.tries q (.inr hq)
  .rw[hq];omega
theorem ZI.judge{k:Nat}{z:Zst}{M:List Nod}{i:Nat}{v:Vd}{r:Rt}(h:ZI k z)(hi:i<z.s.nodes.length)
  (hj:judgeN z.s.nodes (i:Int) v [fndI z.s.nodes z.s.just.r,fndI z.s.nodes z.s.fin.r]=(0,M)):ZI k {z with s:={z.s with nodes:=M,boost:=r}}:=
 ⟨AoB h.s hi hj,h.nreq,h.nret,h.tries⟩
end
section
open Go.RowKit
def FitsL:List (List Value)->List (List Value)->Prop
 |[],[]=>True
 |k::K,p::P=>(Fits k p/\k.length=p.length)/\FitsL K P
 |_,_=>False
theorem FitsL.fl:∀{K P:List (List Value)},FitsL K P->Fits (fl K) (fl P)
 |[],[],_=>trivial
 |[],_::_,h=>h.elim
 |_::_,[],h=>h.elim
 |k::K,p::P,h=>by
  rw[Ade,Ade]
  exact Fits.app2 h.1.1 h.1.2 (FitsL.fl (K:=K) (P:=P) h.2)
theorem Ao4:∀{P Q:List (List Value)} {ls:List Nat},P.map List.length=ls->Q.map List.length=ls->fl P=fl Q->P=Q
 |[],[],_,_,_,_=>rfl
 |[],_::_,_,h1,h2,_=>by subst h1;simp at h2
 |_::_,[],_,h1,h2,_=>by subst h1;simp at h2
 |p::P,q::Q,ls,h1,h2,h=>by
  subst h1
  rw[Ade,Ade]at h
  simp only[List.map_cons,List.cons.injEq]at h2
  obtain⟨e1,e2⟩:=List.append_inj h h2.1.symm
  rw[e1,Ao4 (P:=P) (Q:=Q) rfl h2.2 e2]
theorem AcC(n:Int):Fits [.int .u64 0] [.int .u64 n] /\ [Value.int .u64 0].length = [Value.int .u64 n].length:=⟨⟨rfl,trivial⟩,rfl⟩
theorem AkN(b:Bool):Fits [.bool false] [.bool b] /\ [Value.bool false].length = [Value.bool b].length:=⟨⟨rfl,trivial⟩,rfl⟩
theorem Abs(r:Rt):Fits kRt (rc r)/\kRt.length=(rc r).length:=⟨Ab9 r.len,by rw[Aav];rfl⟩
def kWd:List Value:=(List.replicate 4 [Value.int .u64 0]).flatten
theorem eqWd:EqT Tryz.prog 2 27 kWd:=EqT.array (EqT.int Tryz.underlying23 (by kernel_rfl)) Tryz.underlying27 (by kernel_rfl) (info_of_underlying Tryz.underlying23)
theorem AkL(r:Wd):Fits kWd (wc r)/\kWd.length=(wc r).length:=⟨Fits.ints r.len,by rw[AdR];rfl⟩
def ksBl:List (List Value):=[[.int .u64 0],kRt,[.int .u64 0],kRt,[.int .u64 0],kRt,kRt,kRt,kWd,kWd,[.int .u64 0],kRt,[.int .u64 0],kRt,[.bool false]]
def kBl:List Value:=fl ksBl
theorem eqPu:EqT Tryz.prog 4 76 (kCk++kCk):=by
 refine EqT.struct Tryz.underlying76 (by kernel_rfl) (by kernel_rfl) (by kernel_rfl) ?_
 refine⟨kCk,kCk,rfl,by decide,rfl,eqCk,?_⟩
 exact⟨kCk,[],by simp,by decide,rfl,eqCk,rfl⟩
theorem eqBl:EqT Tryz.prog 5 78 kBl:=by
 refine EqT.struct Tryz.underlying78 (by kernel_rfl) (by kernel_rfl) (by kernel_rfl) ?_
 refine⟨kCk++kCk,fl (ksBl.drop 4),rfl,by decide,rfl,eqPu,?_⟩
 refine⟨[.int .u64 0],fl (ksBl.drop 5),rfl,by decide,rfl,(EqT.int Tryz.underlying23 (by kernel_rfl)).mono' (by omega),?_⟩
 refine⟨kRt,fl (ksBl.drop 6),rfl,by decide,rfl,Adf.mono' (by omega),?_⟩
 refine⟨kRt,fl (ksBl.drop 7),rfl,by decide,rfl,Adf.mono' (by omega),?_⟩
 refine⟨kRt,fl (ksBl.drop 8),rfl,by decide,rfl,Adf.mono' (by omega),?_⟩
 refine⟨kWd,fl (ksBl.drop 9),rfl,by decide,rfl,eqWd.mono' (by omega),?_⟩
 refine⟨kWd,fl (ksBl.drop 10),rfl,by decide,rfl,eqWd.mono' (by omega),?_⟩
 refine⟨kCk,fl (ksBl.drop 12),rfl,by decide,rfl,eqCk.mono' (by omega),?_⟩
 refine⟨kCk,fl (ksBl.drop 14),rfl,by decide,rfl,eqCk.mono' (by omega),?_⟩
 exact⟨[.bool false],[],rfl,by decide,rfl,(EqT.bool Tryz.underlying4 (by kernel_rfl)).mono' (by omega),rfl⟩
theorem Ami(a:Blk):Fits kBl (fl (blP a)):=
 FitsL.fl ⟨AcC _,Abs _,AcC _,Abs _,AcC _,Abs _,Abs _,Abs _,AkL _,AkL _,AcC _,Abs _,AcC _,Abs _,AkN _,trivial⟩
theorem Akb{a b:Cp}(h1:(a.e.n:Int)=(b.e.n:Int))(h2:rc a.r=rc b.r):a=b:=by
 obtain⟨e,r⟩:=a
 obtain⟨e',r'⟩:=b
 simp only at h1 h2
 rw[AfX.1 h2,U.ext' (Int.ofNat.inj h1)]
theorem Aq5{a b:Blk}:fl (blP a)=fl (blP b)↔a=b:=by
 refine⟨fun h=>?_,fun h=>h▸rfl⟩
 have h':=Ao4 (AaZ a) (AaZ b) h
 simp only[blP,List.cons.injEq,Value.int.injEq,Value.bool.injEq,true_and,and_true]at h'
 obtain⟨h1,h2,h3,h4,h5,h6,h7,h8,h9,h10,h11,h12,h13,h14,h15⟩:=h'
 have e1:=Akb h1 h2
 have e2:=Akb h3 h4
 have e3:=Akb h11 h12
 have e4:=Akb h13 h14
 have e5:a.slot=b.slot:=U.ext' (Int.ofNat.inj h5)
 have e6:=AfX.1 h6
 have e7:=AfX.1 h7
 have e8:=AfX.1 h8
 have e9:=Aor.1 h9
 have e10:=Aor.1 h10
 cases a;cases b
 simp only at e1 e2 e3 e4 e5 e6 e7 e8 e9 e10 h15
 subst e1 e2 e3 e4 e5 e6 e7 e8 e9 e10 h15
 rfl
theorem Ap6(a b:Blk)(w:World):(Op.equalIn 10000 78 (.agg (fl (blP a)).toArray) (.agg (fl (blP b)).toArray)).run Tryz.prog w=.ok (decide (a=b)) w:=
 eqBl.same (by omega) (Aa0 Tryz.underlying78) (AaV Tryz.underlying78) (Ami a) (Ami b) (by rw[Aea];rfl) (by rw[Aea];rfl) (by simp[Aq5]) w
end
section
open Go.RowKit Old
theorem Ak0(Γ:Gam)(t t':Tbl)(A A':Option Addr)(c c':Nat)(hb:t.b.length<=4000)(hb':t'.b.length<=4000)(h:SlG Γ A t.b.length (us t.b))(h':SlG Γ A' t'.b.length (us t'.b))(w:World)(ok:Ok Γ w) :
  Calls Tryz.prog 119 #[.agg (fl (tbP t.c (.slice A t.b.length c))).toArray,.agg (fl (tbP t'.c (.slice A' t'.b.length c'))).toArray] w (SmB w):=by
 have M:=bx (MM.start ok)
 have SN:Bx (∀w',Ok Γ w'->Calls Tryz.prog 83 #[.slice A t.b.length c,.slice A' t'.b.length c'] w' (SmB w')):=⟨fun w' ok'=>
  (sameNumbers_any _ A A' t.b.length t'.b.length c c' (t.b.map fun x=>(x.n:Int)) (t'.b.map fun x=>(x.n:Int)) _ (Nat.le_refl _) ((AdV t.b)▸h.row (size:=1) (by rw[AcY,Nat.mul_one]) ok') ((AdV t'.b)▸h'.row (size:=1) (by rw[AcY,Nat.mul_one]) ok') (by omega) (by omega)).mono fun _ _ ⟨e,hb⟩=>⟨_,e,hb⟩⟩
 clear ok h h' hb hb'
 have hq:=Adg t.c t'.c
 generalize decide (t.c=t'.c)=q at *
 cases q with
 |false=>go_enter Tryz.func119,Tryz.ntmps119;((go_wp2_with (first|go_skip|(refine zBXo ?_;clear M;intro w' g M)|refine zLAo ?_));go_ret;exact⟨_,rfl,M.bel⟩)
 |true=>
  go_enter Tryz.func119,Tryz.ntmps119
  (go_wp2_with (first|(refine zBXo ?_;clear M;intro w' g M)|refine zLAo ?_))
  (refine(SN.o _ M.ok).mono ?_;rintro e w1 ⟨bb,rfl,hb⟩;replace M:=bx (M.o.below hb);clear hb;cases bb)
  ·((go_wp2_with (fail));go_ret;exact⟨_,rfl,M.bel⟩)
  ·((go_wp2_with (fail));go_ret;exact⟨_,rfl,M.bel⟩)
theorem Ak1(Γ:Gam)(o p:OpD)(x y:OpS)(h:OpR Γ o x)(h':OpR Γ p y)(w:World)(ok:Ok Γ w) :
  Calls Tryz.prog 124 #[.agg (fl (opP o x)).toArray,.agg (fl (opP p y)).toArray] w (SmB w):=by
 have M:=bx (MM.start ok)
 obtain⟨⟨A1,c1,e1,q1,l1⟩,⟨A2,c2,e2,q2,l2⟩,⟨A3,c3,e3,q3,l3⟩,⟨A4,c4,e4,q4,l4⟩⟩:=h
 obtain⟨⟨B1,d1,f1,r1,m1⟩,⟨B2,d2,f2,r2,m2⟩,⟨B3,d3,f3,r3,m3⟩,⟨B4,d4,f4,r4,m4⟩⟩:=h'
 obtain⟨x1,x2,x3,x4⟩:=x
 obtain⟨y1,y2,y3,y4⟩:=y
 simp only at e1 e2 e3 e4 f1 f2 f3 f4
 subst e1 e2 e3 e4 f1 f2 f3 f4
 have SA:=bx (fun w' ok'=>Ai2 Γ o.a p.a A1 B1 c1 d1 l1 m1 q1 r1 w' ok')
 have SS:=bx (fun w' ok'=>Ag3 Γ o.s p.s A2 A3 B2 B3 c2 c3 d2 d3 l2 l3 m2 m3 q2 q3 r2 r3 w' ok')
 have ST:Bx (∀w',Ok Γ w'->Calls Tryz.prog 119 #[.agg (fl (tbP o.t.c (.slice A4 o.t.b.length c4))).toArray,.agg (fl (tbP p.t.c (.slice B4 p.t.b.length d4))).toArray] w' (SmB w')):=⟨fun w' ok'=>Ak0 Γ o.t p.t A4 B4 c4 d4 l4 m4 q4 r4 w' ok'⟩
 clear ok q1 q2 q3 q4 l1 l2 l3 l4 r1 r2 r3 r4 m1 m2 m3 m4
 obtain⟨kd,b,a,s,t,v,wr,kp⟩:=o
 obtain⟨kd',b',a',s',t',v',wr',kp'⟩:=p
 simp only at SA SS ST
 have hq:=Ap6 b b'
 generalize decide (b=b')=q at *
 have hv:=ApH v v'
 generalize decide (v=v')=qv at *
 by_cases h0:kd=kd'
 .subst h0
  cases q with
  |false=>go_enter Tryz.func124,Tryz.ntmps124;((go_wp2_with (first|go_skip|(refine zBXo ?_;clear M;intro w' g M)|refine zLAo ?_));go_ret;exact⟨_,rfl,M.bel⟩)
  |true=>
   go_enter Tryz.func124,Tryz.ntmps124
   (go_wp2_with (first|(refine zBXo ?_;clear M;intro w' g M)|refine zLAo ?_))
   (refine(SA.o _ M.ok).mono ?_;rintro e w1 ⟨bb,rfl,hb⟩;replace M:=bx (M.o.below hb);clear hb;cases bb)
   ·((go_wp2_with (go_skip));go_ret;exact⟨_,rfl,M.bel⟩)
   ·(go_wp2_with (refine zLAo ?_))
    (refine(SS.o _ M.ok).mono ?_;rintro e w1 ⟨bb,rfl,hb⟩;replace M:=bx (M.o.below hb);clear hb;cases bb)
    ·((go_wp2_with (go_skip));go_ret;exact⟨_,rfl,M.bel⟩)
    ·(go_wp2_with (refine zLAo ?_))
     (refine(ST.o _ M.ok).mono ?_;rintro e w1 ⟨bb,rfl,hb⟩;replace M:=bx (M.o.below hb);clear hb;cases bb)
     ·((go_wp2_with (go_skip));go_ret;exact⟨_,rfl,M.bel⟩)
     .cases qv with
      |false=>((go_wp2_with (first|go_skip|refine zLAo ?_));go_ret;exact⟨_,rfl,M.bel⟩)
      |true=>
       by_cases h1:wr=wr'
       .subst h1
        ((go_wp2_with (refine zLAo ?_));go_ret;exact⟨_,rfl,M.bel⟩)
       .have e1:(wr==wr')=false:=by simp[h1]
        ((go_wp2_with (first|go_skip|refine zLAo ?_));go_ret;exact⟨_,rfl,M.bel⟩)
 .have e0:(kd==kd')=false:=by simp[h0]
  go_enter Tryz.func124,Tryz.ntmps124;((go_wp2_with (first|go_skip|(refine zBXo ?_;clear M;intro w' g M)|refine zLAo ?_));go_ret;exact⟨_,rfl,M.bel⟩)
end
end Go.Proofs.YtpaihpeoiliioaaGreat
