/- Texts joined: what the walks of this claim stand on (part 7). -/
import Derived.Test.YtpaihpeoiliioaaGreatKK6
set_option linter.all false
set_option maxRecDepth 20000
set_option maxHeartbeats 40000000
namespace Go.Proofs.YtpaihpeoiliioaaGreat
open Go.RowKit Old
def ChkP(Γ:Gam)(w:World)(a:Att)(s:Sto)(e:Ending)(w':World):Prop:=∃(ea:Bool) (er:Int),e=.returned (.tuple #[.bool ea,.int .i64 er])/\((er=0->VList a.l (s.bal.length:Int))/\er≠21)/\Ext Γ w Γ w'
structure Lt3(a b:Nat):Prop where
 i1:(a:Int)<(b:Int)
 i2:(a:Int)<=(b:Int)
 i3:((a:Int)==(b:Int))=false
 i4:((a:Int) != (b:Int))=true
 i5:((b:Int)==(a:Int))=false
 i6:((b:Int) != (a:Int))=true
 n1:a<b
 n2:a<=b
 m1:¬b<a
 m2:¬b<=a
 j1:¬(b:Int)<(a:Int)
 j2:¬(b:Int)<=(a:Int)
structure Eq3(a b:Nat):Prop where
 i1:((a:Int)==(b:Int))=true
 i2:((a:Int) != (b:Int))=false
 i5:((b:Int)==(a:Int))=true
 i6:((b:Int) != (a:Int))=false
 i3:(a:Int)<=(b:Int)
 i4:(b:Int)<=(a:Int)
 n1:a<=b
 n2:b<=a
 m1:¬a<b
 m2:¬b<a
 j1:¬(a:Int)<(b:Int)
 j2:¬(b:Int)<(a:Int)
theorem tri4(a b:Nat):Lt3 a b\/Eq3 a b\/Lt3 b a:=by
 rcases Nat.lt_trichotomy a b with h|h|h
 .exact .inl ⟨by omega,by omega,by simp;omega,by simp;omega,by simp;omega,by simp;omega,h,by omega,by omega,by omega,by omega,by omega⟩
 .subst h;exact .inr (.inl ⟨by simp,by simp,by simp,by simp,by omega,by omega,by omega,by omega,by omega,by omega,by omega,by omega⟩)
 .exact .inr (.inr ⟨by omega,by omega,by simp;omega,by simp;omega,by simp;omega,by simp;omega,h,by omega,by omega,by omega,by omega,by omega⟩)
theorem lt3{a b:Nat}(h:a<b):Lt3 a b:=by
 rcases tri4 a b with h1|h1|h1
 .exact h1
 .exact absurd h h1.m1
 .exact absurd h h1.m1
theorem ArN(z:Int):z<0\/∃n:Nat,z=(n:Int):=by
 by_cases h:z<0
 .exact .inl h
 .exact .inr ⟨z.toNat,by omega⟩
theorem Apo{N:List Nod}{r:Rt}(h:fndI N r<0):fndI N r = -1:=by
 rcases Aay (fun n:Nod=>decide (n.b.root=r)) N with⟨h1,_⟩|⟨k,hk,h1,_⟩
 .exact h1
 .unfold fndI at h;omega
theorem Afp(N:List Nod)(r:Rt):fndI N r = -1\/∃n:Nat,fndI N r=(n:Int):=by
 rcases ArN (fndI N r)with h|h
 .exact .inl (Apo h)
 .exact .inr h
theorem AqO{u:U}(h:u.n≠0):IntKind.u64.wrap ((u.n:Int)-1)=(((u.n-1:Nat)):Int):=by
 rw[AdS (by omega) (by have:=u.lt;omega)];omega
theorem Aex(Γ:Gam)(s:Sto)(v:Sls)(a:Att)(x:Sl)(hs:SpeOk s)(hk:Lk (upsN s.nodes))(hb:s.nodes.length<=4096)(hlb:a.l.length<=65535)(w:World)(ok:Ok Γ w)(h:StG Γ v s)(ha:AtG Γ a x) :
  Calls Tryz.prog 158 #[.agg (fl (stP s v)).toArray,.agg (fl (atP a x)).toArray] w (ChkP Γ w a s):=by
 have M:=bx (MM.start ok)
 have HG:=bx h
 have LN:=bx h.nodes.n
 have hsp:0<s.c.spe.n:=hs.1
 have VA:=bx (fun w ok=>Ach Γ s v w ok h)
 have VL:Bx (∀w,Ok Γ w->Calls Tryz.prog 182 #[x.v,.int .i64 (s.bal.length:Int)] w fun e w'=>∃er:Int,e=.returned (.int .i64 er)/\((er=0↔VList a.l (s.bal.length:Int))/\er≠21)/\Ext Γ w Γ w'):=⟨fun w ok=>by
  have hs:=ha.sl
  rw[ha.n]at hs
  have:=Aco Γ x.A x.c a.l (s.bal.length:Int) w ok hs (by omega)
  rwa [<-ha.n]at this⟩
 have EN:=bx (fun w ok=>AbZ Γ s v s.now hsp w ok)
 have EA:=bx (fun w ok=>AbZ Γ s v a.slot hsp w ok)
 have FR:=bx (fun w ok=>Aag Γ v.nodes s.nodes a.r w ok h.nodes)
 have FG:=bx (fun w ok=>Aag Γ v.nodes s.nodes a.t.r w ok h.nodes)
 have SR:=bx (fun w ok=>AdW Γ s v a.t.e hs w ok)
 have AT:=bx (fun i w ok=>AjN Γ v.nodes s.nodes i (stU a.t.e s.c.spe) w ok h.nodes hk hb)
 clear ok h ha hk hb hlb hs hsp
 have US:=bx (AqO (u:=epN s.now s.c.spe))
 unfold ChkP
 generalize epN s.now s.c.spe=en at *
 generalize epN a.slot s.c.spe=ea at *
 go_enter Tryz.func158,Tryz.ntmps158;(go_wp2_with (refine zBXd ?_;clear M;intro w' g M));refine AaB [] (.steps [(1,0),(0,1),(0,2),(2,3),(2,4),(1,5)] .leaf) (by kernel_rfl) (by kernel_rfl) ?_;(simp only[MixT6,MT.steps,stepAt,List.getD_cons_zero,List.getD_cons_succ]);replace M:=bx (M.o.drew);refine zMRd ?_;refine zMC (VA.o _ M.ok) Tryz.func167 ?_;rintro e2 w2 ⟨rfl,hx2⟩;refine⟨_,rfl,hx2.bel,?_⟩;replace M:=bx (M.o.call hx2);clear hx2;refine zNM ?_;refine zMC (VL.o _ M.ok) Tryz.func182 ?_;rintro e3 w3 ⟨er,rfl,hv,hx3⟩;refine⟨_,rfl,hx3.bel,?_⟩;replace M:=bx (M.o.call hx3);have HV:=bx hv;clear hv hx3;refine zNM ?_;refine zMRd ?_;refine NoPanic.normal ?_
 by_cases h0:er=0
 .subst h0
  rcases tri4 a.t.e.n ea.n with⟨a_1,a_2,a_3,a_4,a_5,a_6,a_7,a_8,a_9,a_10,a_11,a_12⟩|⟨a_1,a_2,a_3,a_4,a_5,a_6,a_7,a_8,a_9,a_10,a_11,a_12⟩|⟨a_1,a_2,a_3,a_4,a_5,a_6,a_7,a_8,a_9,a_10,a_11,a_12⟩
  ·(go_wp2_with (refine zLAd ?_));refine zCA M (EN.o _ M.ok) ?_;clear M;intro w1 M;have EAc:=bx (clsE M.o EA.o);(go_wp2_with (fail));refine zRG ?_;(repeat(first|go_big_quiet_skip|(go_big_quiet_want;first|((first|refine zQC (AaJ EAc.o) Tryz.func143 ?_|refine zQAd ?_);go_big_quiet_on;refine zNM ?_)|(refine zQO ?_;go_big_quiet_on))));(refine zQN ?_;clear M;intro w4 M);clear EAc
   (go_wp2_with (fail))
   go_ret2;exact⟨_,_,rfl,⟨fun e=>(by cases e),by decide⟩,M.o.ext⟩
  .rcases tri4 a.t.e.n en.n with⟨b_1,b_2,b_3,b_4,b_5,b_6,b_7,b_8,b_9,b_10,b_11,b_12⟩|⟨b_1,b_2,b_3,b_4,b_5,b_6,b_7,b_8,b_9,b_10,b_11,b_12⟩|⟨b_1,b_2,b_3,b_4,b_5,b_6,b_7,b_8,b_9,b_10,b_11,b_12⟩
   .have zp:0<en.n:=by omega
    have z1:((en.n:Int)==0)=false:=beq_eq_false_iff_ne.2 (by omega)
    have z2:=US.o (by omega)
    clear US
    rcases tri4 a.t.e.n (en.n-1)with⟨c_1,c_2,c_3,c_4,c_5,c_6,c_7,c_8,c_9,c_10,c_11,c_12⟩|⟨c_1,c_2,c_3,c_4,c_5,c_6,c_7,c_8,c_9,c_10,c_11,c_12⟩|⟨c_1,c_2,c_3,c_4,c_5,c_6,c_7,c_8,c_9,c_10,c_11,c_12⟩
    ·(go_wp2_with (refine zLAd ?_));refine zCA M (EN.o _ M.ok) ?_;clear M;intro w1 M;have EAc:=bx (clsE M.o EA.o);(go_wp2_with (fail));refine zRG ?_;(repeat((go_big_quiet_want;first|((first|refine zQC (AaJ EAc.o) Tryz.func143 ?_|refine zQAd ?_);go_big_quiet_on;refine zNM ?_)|(refine zQO ?_;go_big_quiet_on))));(refine zQN ?_;clear M;intro w4 M);clear EAc
     (go_wp2_with (fail))
     go_ret2;exact⟨_,_,rfl,⟨fun e=>(by cases e),by decide⟩,M.o.ext⟩
    (go_wp2_with (refine zLAd ?_));refine zCA M (EN.o _ M.ok) ?_;clear M;intro w1 M;have EAc:=bx (clsE M.o EA.o);(go_wp2_with (fail));refine zRG ?_;(repeat((go_big_quiet_want;first|((first|refine zQC (AaJ EAc.o) Tryz.func143 ?_|refine zQAd ?_);go_big_quiet_on;refine zNM ?_)|(refine zQO ?_;go_big_quiet_on))));(refine zQN ?_;clear M;intro w4 M);clear EAc
    rcases Afp s.nodes a.r with h5|⟨r,h5⟩
    .rw[h5]at FR
     have FRc:=bx (clsE M.o FR.o)
     have FGc:=bx (clsE M.o FG.o)
     (go_wp2_with (fail))
     refine zRG ?_;(repeat((go_big_quiet_want;first|((first|refine zQC (AaJ FRc.o) Tryz.func24 ?_|refine zQC (AaJ FGc.o) Tryz.func24 ?_|refine zQAd ?_);go_big_quiet_on;refine zNM ?_)|(refine zQO ?_;go_big_quiet_on))));(refine zQN ?_;clear M;intro w4 M)
     clear FRc FGc
     (go_wp2_with (fail))
     go_ret2;exact⟨_,_,rfl,⟨fun e=>(by cases e),by decide⟩,M.o.ext⟩
    .have RLT:=bx (Aci (N:=s.nodes) (r:=a.r) (by omega))
     rw[h5]at FR RLT
     rcases Afp s.nodes a.t.r with h6|⟨q,h6⟩
     .rw[h6]at FG
      have FRc:=bx (clsE M.o FR.o)
      have FGc:=bx (clsE M.o FG.o)
      have hr0:0<=(r:Int):=by omega
      (go_wp2_with (fail))
      refine zRG ?_;(repeat((go_big_quiet_want;first|((first|refine zQC (AaJ FRc.o) Tryz.func24 ?_|refine zQC (AaJ FGc.o) Tryz.func24 ?_|refine zQAd ?_);go_big_quiet_on;refine zNM ?_)|(refine zQO ?_;go_big_quiet_on))));(refine zQN ?_;clear M;intro w4 M)
      clear FRc FGc
      (go_wp2_with (fail))
      go_ret2;exact⟨_,_,rfl,⟨fun e=>(by cases e),by decide⟩,M.o.ext⟩
     .rw[h6]at FG
      have FRc:=bx (clsE M.o FR.o)
      have FGc:=bx (clsE M.o FG.o)
      obtain⟨r',hr',e',_⟩:=RLT.o
      obtain rfl:r=r':=by omega
      obtain⟨gn,hA,hf⟩:=HG.o.nodeAt r hr'
      have HA:=bx hA
      have F1:=bx hf
      have hr0:0<=(r:Int):=by omega
      have hq0:0<=(q:Int):=by omega
      have hri:(r:Int)<(v.nodes.n:Int):=by rw[LN.o];omega
      have AT':=bx (AT.o (r:Int))
      clear hA hf RLT AT e' h5 h6
      generalize s.nodes[r]=y at *
      rcases two2 a.slot.n y.b.slot.n with⟨j1,j2⟩|⟨j1,j2⟩
      ·(go_wp2_with (fail))
       refine zRG ?_;(repeat((go_big_quiet_want;first|((first|refine zQC (AaJ FRc.o) Tryz.func24 ?_|refine zQC (AaJ FGc.o) Tryz.func24 ?_|refine zQAd ?_);go_big_quiet_on;refine zNM ?_)|(refine zQO ?_;go_big_quiet_on))));(refine zQN ?_;clear M;intro w4 M)
       clear FRc FGc
       (go_wp2_with (fail))
       refine zRG ?_;(repeat((go_big_quiet_want;first|((first|refine zQHd HA ?_|refine zQFd F1 ?_|refine zQAd ?_);go_big_quiet_on;refine zNM ?_)|(refine zQO ?_;go_big_quiet_on))));(refine zQN ?_;clear M;intro w4 M)
       (go_wp2_with (fail))
       go_ret2;exact⟨_,_,rfl,⟨fun e=>(by cases e),by decide⟩,M.o.ext⟩
      ·(go_wp2_with (fail))
       refine zRG ?_;(repeat((go_big_quiet_want;first|((first|refine zQC (AaJ FRc.o) Tryz.func24 ?_|refine zQC (AaJ FGc.o) Tryz.func24 ?_|refine zQAd ?_);go_big_quiet_on;refine zNM ?_)|(refine zQO ?_;go_big_quiet_on))));(refine zQN ?_;clear M;intro w4 M)
       clear FRc FGc
       (go_wp2_with (fail))
       refine zRG ?_;(repeat((go_big_quiet_want;first|((first|refine zQHd HA ?_|refine zQFd F1 ?_|refine zQAd ?_);go_big_quiet_on;refine zNM ?_)|(refine zQO ?_;go_big_quiet_on))));(refine zQN ?_;clear M;intro w4 M)
       (go_wp2_with (refine zLAd ?_))
       refine zCA M (SR.o _ M.ok) ?_;clear M;intro w1 M
       (go_wp2_with (refine zLAd ?_))
       refine zCA M (AT'.o _ M.ok) ?_;clear M;intro w1 M
       by_cases h7:((atI s.nodes r (stU a.t.e s.c.spe)) != (q:Int))=true
       .generalize atI s.nodes r (stU a.t.e s.c.spe)=z at *
        (go_wp2_with (fail))
        go_ret2;exact⟨_,_,rfl,⟨fun e=>(by cases e),by decide⟩,M.o.ext⟩
       .have h7':((atI s.nodes r (stU a.t.e s.c.spe)) != (q:Int))=false:=by simpa using h7
        clear h7
        generalize atI s.nodes r (stU a.t.e s.c.spe)=z at *
        (go_wp2_with (refine zLAd ?_))
        go_ret2
        exact⟨_,0,rfl,⟨fun _=>HV.o.1.1 (by simp),by decide⟩,M.o.ext⟩
    .exfalso;omega
   .skip
    (go_wp2_with (refine zLAd ?_));refine zCA M (EN.o _ M.ok) ?_;clear M;intro w1 M;have EAc:=bx (clsE M.o EA.o);(go_wp2_with (fail));refine zRG ?_;(repeat(first|go_big_quiet_skip|(go_big_quiet_want;first|((first|refine zQC (AaJ EAc.o) Tryz.func143 ?_|refine zQAd ?_);go_big_quiet_on;refine zNM ?_)|(refine zQO ?_;go_big_quiet_on))));(refine zQN ?_;clear M;intro w4 M);clear EAc
    rcases Afp s.nodes a.r with h5|⟨r,h5⟩
    .rw[h5]at FR
     have FRc:=bx (clsE M.o FR.o)
     have FGc:=bx (clsE M.o FG.o)
     (go_wp2_with (fail))
     refine zRG ?_;(repeat((go_big_quiet_want;first|((first|refine zQC (AaJ FRc.o) Tryz.func24 ?_|refine zQC (AaJ FGc.o) Tryz.func24 ?_|refine zQAd ?_);go_big_quiet_on;refine zNM ?_)|(refine zQO ?_;go_big_quiet_on))));(refine zQN ?_;clear M;intro w4 M)
     clear FRc FGc
     (go_wp2_with (fail))
     go_ret2;exact⟨_,_,rfl,⟨fun e=>(by cases e),by decide⟩,M.o.ext⟩
    .have RLT:=bx (Aci (N:=s.nodes) (r:=a.r) (by omega))
     rw[h5]at FR RLT
     rcases Afp s.nodes a.t.r with h6|⟨q,h6⟩
     .rw[h6]at FG
      have FRc:=bx (clsE M.o FR.o)
      have FGc:=bx (clsE M.o FG.o)
      have hr0:0<=(r:Int):=by omega
      (go_wp2_with (fail))
      refine zRG ?_;(repeat((go_big_quiet_want;first|((first|refine zQC (AaJ FRc.o) Tryz.func24 ?_|refine zQC (AaJ FGc.o) Tryz.func24 ?_|refine zQAd ?_);go_big_quiet_on;refine zNM ?_)|(refine zQO ?_;go_big_quiet_on))));(refine zQN ?_;clear M;intro w4 M)
      clear FRc FGc
      (go_wp2_with (fail))
      go_ret2;exact⟨_,_,rfl,⟨fun e=>(by cases e),by decide⟩,M.o.ext⟩
     .rw[h6]at FG
      have FRc:=bx (clsE M.o FR.o)
      have FGc:=bx (clsE M.o FG.o)
      obtain⟨r',hr',e',_⟩:=RLT.o
      obtain rfl:r=r':=by omega
      obtain⟨gn,hA,hf⟩:=HG.o.nodeAt r hr'
      have HA:=bx hA
      have F1:=bx hf
      have hr0:0<=(r:Int):=by omega
      have hq0:0<=(q:Int):=by omega
      have hri:(r:Int)<(v.nodes.n:Int):=by rw[LN.o];omega
      have AT':=bx (AT.o (r:Int))
      clear hA hf RLT AT e' h5 h6
      generalize s.nodes[r]=y at *
      rcases two2 a.slot.n y.b.slot.n with⟨j1,j2⟩|⟨j1,j2⟩
      ·(go_wp2_with (fail))
       refine zRG ?_;(repeat((go_big_quiet_want;first|((first|refine zQC (AaJ FRc.o) Tryz.func24 ?_|refine zQC (AaJ FGc.o) Tryz.func24 ?_|refine zQAd ?_);go_big_quiet_on;refine zNM ?_)|(refine zQO ?_;go_big_quiet_on))));(refine zQN ?_;clear M;intro w4 M)
       clear FRc FGc
       (go_wp2_with (fail))
       refine zRG ?_;(repeat((go_big_quiet_want;first|((first|refine zQHd HA ?_|refine zQFd F1 ?_|refine zQAd ?_);go_big_quiet_on;refine zNM ?_)|(refine zQO ?_;go_big_quiet_on))));(refine zQN ?_;clear M;intro w4 M)
       (go_wp2_with (fail))
       go_ret2;exact⟨_,_,rfl,⟨fun e=>(by cases e),by decide⟩,M.o.ext⟩
      ·(go_wp2_with (fail))
       refine zRG ?_;(repeat((go_big_quiet_want;first|((first|refine zQC (AaJ FRc.o) Tryz.func24 ?_|refine zQC (AaJ FGc.o) Tryz.func24 ?_|refine zQAd ?_);go_big_quiet_on;refine zNM ?_)|(refine zQO ?_;go_big_quiet_on))));(refine zQN ?_;clear M;intro w4 M)
       clear FRc FGc
       (go_wp2_with (fail))
       refine zRG ?_;(repeat((go_big_quiet_want;first|((first|refine zQHd HA ?_|refine zQFd F1 ?_|refine zQAd ?_);go_big_quiet_on;refine zNM ?_)|(refine zQO ?_;go_big_quiet_on))));(refine zQN ?_;clear M;intro w4 M)
       (go_wp2_with (refine zLAd ?_))
       refine zCA M (SR.o _ M.ok) ?_;clear M;intro w1 M
       (go_wp2_with (refine zLAd ?_))
       refine zCA M (AT'.o _ M.ok) ?_;clear M;intro w1 M
       by_cases h7:((atI s.nodes r (stU a.t.e s.c.spe)) != (q:Int))=true
       .generalize atI s.nodes r (stU a.t.e s.c.spe)=z at *
        (go_wp2_with (fail))
        go_ret2;exact⟨_,_,rfl,⟨fun e=>(by cases e),by decide⟩,M.o.ext⟩
       .have h7':((atI s.nodes r (stU a.t.e s.c.spe)) != (q:Int))=false:=by simpa using h7
        clear h7
        generalize atI s.nodes r (stU a.t.e s.c.spe)=z at *
        (go_wp2_with (refine zLAd ?_))
        go_ret2
        exact⟨_,0,rfl,⟨fun _=>HV.o.1.1 (by simp),by decide⟩,M.o.ext⟩
   .rcases Nat.eq_zero_or_pos en.n with z0|z0
    .have z1:((en.n:Int)==0)=true:=by rw[z0];rfl
     clear z0
     (go_wp2_with (refine zLAd ?_));refine zCA M (EN.o _ M.ok) ?_;clear M;intro w1 M;have EAc:=bx (clsE M.o EA.o);(go_wp2_with (fail));refine zRG ?_;(repeat(first|go_big_quiet_skip|(go_big_quiet_want;first|((first|refine zQC (AaJ EAc.o) Tryz.func143 ?_|refine zQAd ?_);go_big_quiet_on;refine zNM ?_)|(refine zQO ?_;go_big_quiet_on))));(refine zQN ?_;clear M;intro w4 M);clear EAc
     (go_wp2_with (fail))
     go_ret2;exact⟨_,_,rfl,⟨fun e=>(by cases e),by decide⟩,M.o.ext⟩
    .have z1:((en.n:Int)==0)=false:=beq_eq_false_iff_ne.2 (by omega)
     have z2:=US.o (by omega)
     obtain⟨c_1,c_2,c_3,c_4,c_5,c_6,c_7,c_8,c_9,c_10,c_11,c_12⟩:=lt3 (show en.n-1<a.t.e.n by omega)
     clear US
     (go_wp2_with (refine zLAd ?_));refine zCA M (EN.o _ M.ok) ?_;clear M;intro w1 M;have EAc:=bx (clsE M.o EA.o);(go_wp2_with (fail));refine zRG ?_;(repeat((go_big_quiet_want;first|((first|refine zQC (AaJ EAc.o) Tryz.func143 ?_|refine zQAd ?_);go_big_quiet_on;refine zNM ?_)|(refine zQO ?_;go_big_quiet_on))));(refine zQN ?_;clear M;intro w4 M);clear EAc
     (go_wp2_with (fail))
     go_ret2;exact⟨_,_,rfl,⟨fun e=>(by cases e),by decide⟩,M.o.ext⟩
  ·(go_wp2_with (refine zLAd ?_));refine zCA M (EN.o _ M.ok) ?_;clear M;intro w1 M;have EAc:=bx (clsE M.o EA.o);(go_wp2_with (fail));refine zRG ?_;(repeat(first|go_big_quiet_skip|(go_big_quiet_want;first|((first|refine zQC (AaJ EAc.o) Tryz.func143 ?_|refine zQAd ?_);go_big_quiet_on;refine zNM ?_)|(refine zQO ?_;go_big_quiet_on))));(refine zQN ?_;clear M;intro w4 M);clear EAc
   (go_wp2_with (fail))
   go_ret2;exact⟨_,_,rfl,⟨fun e=>(by cases e),by decide⟩,M.o.ext⟩
 .have h0b:(er==0)=false:=beq_eq_false_iff_ne.2 h0
  have H0:=bx h0
  clear h0
  (go_wp2_with (fail))
  go_ret2
  exact⟨_,_,rfl,⟨fun e=>absurd e H0.o,HV.o.2⟩,M.o.ext⟩
end Go.Proofs.YtpaihpeoiliioaaGreat
