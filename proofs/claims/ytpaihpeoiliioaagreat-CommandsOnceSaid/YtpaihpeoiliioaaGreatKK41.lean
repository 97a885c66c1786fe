/- Texts joined: what the walks of this claim stand on (part 41). -/
import Derived.Test.YtpaihpeoiliioaaGreatKK40
set_option linter.all false
set_option maxRecDepth 20000
set_option maxHeartbeats 40000000
namespace Go.Proofs.YtpaihpeoiliioaaGreat
open Go.RowKit Old
theorem Ad1(k:Nat)(d:Int)(m:Nat)(hd:d=(m:Int)):∃q:Nat,(k:Int) / d=(q:Int)/\q<=k:=⟨k / m,by subst hd;simp,Nat.div_le_self _ _⟩
theorem Apu(n:Nod):List.take 4 (noP n)=cpP n.b.pj++cpP n.b.pf:=rfl
theorem Apv(b:Blk):List.take 4 (blP b)=cpP b.pj++cpP b.pf:=rfl
def blk1(sl:U)(r pr:Rt)(tb:Bool)(j f pj pf:Cp):Blk:={b0 with slot:=sl,root:=r,parent:=pr,timely:=tb,just:=j,fin:=f,pj:=pj,pf:=pf}
theorem Aog(sl:U)(r pr:Rt)(tb:Bool)(j f pj pf:Cp):Tryz.prog.built 78 [(1,.int .u64 (sl.n:Int)),(2,.agg (rc r).toArray),(3,.agg (rc pr).toArray),(9,.bool tb),(7,.agg (fl (cpP j)).toArray),(8,.agg (fl (cpP f)).toArray),(0,.agg (fl (cpP pj++cpP pf)).toArray)]=some (fl (blP (blk1 sl r pr tb j f pj pf))).toArray:=by
 rw[stBl.eq]
 refine AaG (Q:=[[.int .u64 (sl.n:Int)]]) stBl.len rfl rfl rfl rfl rfl fun hl=>?_
 refine AaG (Q:=[rc r]) hl rfl rfl rfl (lenR r) rfl fun hl=>?_
 refine AaG (Q:=[rc pr]) hl rfl rfl rfl (lenR pr) rfl fun hl=>?_
 refine AaG (Q:=[[.bool tb]]) hl rfl rfl rfl rfl rfl fun hl=>?_
 refine AaG (Q:=cpP j) hl rfl rfl rfl (AaC j) rfl fun hl=>?_
 refine AaG (Q:=cpP f) hl rfl rfl rfl (AaC f) rfl fun hl=>?_
 refine AaG (Q:=cpP pj++cpP pf) hl rfl rfl rfl (by simp[cpP,Aav]) rfl fun hl=>?_
 rfl
theorem Anu{C:World->Prop}{K:Act->Prop}{o:Oper}{a:Act}{parts:Array (Nat × Operand)}(sl:U)(r pr:Rt){tb:Bool}(j f pj pf:Cp)(ho:o.op=.build 78 parts)
  (hps:parts.toList.map (fun x=>(x.1,a.eval x.2)) = [(1,.int .u64 (sl.n:Int)),(2,.agg (rc r).toArray),(3,.agg (rc pr).toArray),(9,.bool tb),(7,.agg (fl (cpP j)).toArray),(8,.agg (fl (cpP f)).toArray),(0,.agg (fl (cpP pj++cpP pf)).toArray)])
  (h:K (a.put o.dst (.agg (fl (blP (blk1 sl r pr tb j f pj pf))).toArray))):o.quiet Tryz.prog a C K:=AaT 78 parts ho _ _ hps (Aog sl r pr tb j f pj pf) h
def w99:Wd:=wd4 99 0 0 0 (by intro y hy;simp at hy;omega)
def BloP(Γ:Gam)(w:World)(e:Ending)(w':World):Prop:=∃b:Blk,e=.returned (.agg (blx b).toArray)/\RtOk b.root/\Ext Γ w Γ w'
abbrev wdc(w:Wd):List Value:=wc w
noncomputable def blkA(Γ:Gam)(s:Sto)(v:Sls)(n k:Nat)(hn:n<=100000)(hk:k<=100000000)(hsp:0<s.c.spe.n)(hrn:RtOk (rtB (n:Int)))(hnr:∀nd∈s.nodes,RtOk nd.b.root)(w:World):PSigma fun R:Prop=>(Nat->R)->Lk (upsN s.nodes)->0<s.nodes.length->s.nodes.length<=4096->Ok Γ w->StG Γ v s->Calls Tryz.prog 89 #[.agg (fl (stP s v)).toArray,.int .i64 n,.int .i64 k] w (BloP Γ w):=by
 apply PSigma.mk
 case snd=>
  intro hR hL hpos hb ok h
  have M:=bx (MM.start ok)
  have HG:=bx h
  have LN:=bx h.nodes.n
  have AT:=bx (fun i e w ok=>Aje Γ s v hL hb i e w ok h)
  have hN:v.nodes.n=s.nodes.length:=h.nodes.n
  clear ok h hL
  obtain⟨N,hNN⟩:∃N,v.nodes.n=N:=⟨_,rfl⟩
  have HV:Bx (v.nodes.v=.slice v.nodes.A N v.nodes.c):=⟨by rw[<-hNN]⟩
  rw[hNN]at hN
  have HNL:=bx hN
  have hN1:1<=N:=by omega
  have hN2:N<=4096:=by omega
  clear hNN hN hpos hb
  have nz:((N:Int)==0)=false:=by rw[beq_eq_false_iff_ne];omega
  obtain⟨p0,hp0,hp1⟩:∃p0:Nat,(k:Int)%(N:Int)=(p0:Int)/\p0<N:=⟨k%N,by omega,Nat.mod_lt _ (by omega)⟩
  have hki:(k:Int)<=100000000:=by omega
  have hk0:(0:Int)<=(k:Int):=by omega
  obtain⟨q6,hq6,i6⟩:=Ad1 k 64 64 rfl;obtain⟨r6,e6,f6⟩:=AbL q6 3 (by decide) 3 rfl;have c6:(0:Int)<=(q6:Int):=(by omega);have d6:(0:Int)<=(r6:Int):=(by omega)
  go_enter Tryz.func89,Tryz.ntmps89
  go_upto_region 1 with(first|((refine zBYd (AaD _ _) ?_;clear M;intro w' g M);(obtain⟨g3,hg0⟩:∃y,y=g:=⟨_,rfl⟩);subst hg0)|((refine zALd (ztBl) ?_;clear M;intro w' g M);(obtain⟨g6,hg0⟩:∃y,y=g:=⟨_,rfl⟩);subst hg0))
  go_upto_if 21 with(refine zLHd HV ?_)
  go_cut [7]from 12 (fun s7 wx=>∃p:Nat,p<N/\s7=.int .i64 (p:Int)/\MM Γ w Γ wx [⟨g6,blP b0,blL⟩,⟨g3,stP s v,stL⟩] [])
  case first=>
   as_aux_lemma=>
    rcases Nat.eq_zero_or_pos r6 with hr|hr
    .subst hr
     (go_wp2_with (fail))
     go_meet
     case rel=>exact⟨p0,hp1,by rw[hp0],M.o⟩
    .have hr':(0:Int)<(r6:Int):=by omega
     obtain⟨m3,hm3,hm4,hm5⟩:∃m3:Nat,min (3:Int) (N:Int)=(m3:Int)/\1<=m3/\m3<=N:=⟨min 3 N,by omega,by omega,by omega⟩
     obtain⟨p1,hp2,hp3⟩:∃p1:Nat,(p0:Int)%(m3:Int)=(p1:Int)/\p1<m3:=⟨p0%m3,by omega,Nat.mod_lt _ (by omega)⟩
     obtain⟨p2,hp4,hp5⟩:∃p2:Nat,(N:Int)-1-(p1:Int)=(p2:Int)/\p2<N:=⟨N-1-p1,by omega,by omega⟩
     have nz3:((m3:Int)==0)=false:=by rw[beq_eq_false_iff_ne];omega
     have b1:(0:Int)<=(p0:Int):=by omega
     have b2:(0:Int)<=(p1:Int):=by omega
     (go_wp2_with (fail))
     refine zRG ?_;(repeat((go_big_quiet_want;first|(refine zQHd HV ?_;go_big_quiet_on;refine zNM ?_)|(refine zQO ?_;go_big_quiet_on))));(refine zQN ?_;clear M;intro w4 M)
     (go_wp2_with (fail))
     go_meet
     case rel=>exact⟨p2,hp5,(by rfl),M.o⟩
  case rest=>
   clear hp0 hp1 M e6 f6 d6 i6 hq6 c6 nz
   obtain⟨p,hp,rfl,hM⟩:=hcut
   have M:=bx hM
   clear hM
   have hps:p<s.nodes.length:=by rw[<-HNL.o];exact hp
   obtain⟨gn,hA,hf⟩:=HG.o.nodeAt p hps
   have HA:=bx hA
   have F1:=bx hf
   have hpi:(p:Int)<(v.nodes.n:Int):=by rw[LN.o];omega
   have hp0:0<=(p:Int):=by omega
   clear hA hf LN
   generalize s.nodes[p]=y at *
   clear hps hp
   go_upto_region 5 with(first|((refine zALd (ztNo) ?_;clear M;intro w' g M);(obtain⟨g8,hg0⟩:∃y,y=g:=⟨_,rfl⟩);subst hg0)|refine zLHd HA ?_|refine zRFd F1 ?_|(refine zSSd M 0 (noP y) (noP y) (AaK _) (AbX _) ?_;clear M;intro w' M))
   clear HA F1
   obtain⟨q8,hq8,i8⟩:=Ad1 k 256 256 rfl;obtain⟨r8,e8,f8⟩:=AbL q8 3 (by decide) 3 rfl;have c8:(0:Int)<=(q8:Int):=(by omega);have d8:(0:Int)<=(r8:Int):=(by omega)
   refine Aad [22] (.steps [(1,0),(0,1),(1,2),(1,4),(1,5),(0,6),(1,7),(1,8),(1,9),(1,10),(1,11),(1,12),(0,13),(1,14),(1,15),(0,16),(1,17),(1,18),(0,19),(4,3),(1,20),(2,21),(3,22)] .leaf) (by kernel_rfl) (by kernel_rfl) ?_;(simp only[MixT8,MT.steps,stepAt,List.getD_cons_zero,List.getD_cons_succ]);replace M:=bx (M.o.drew)
   refine zNM ?_
   refine zMRd ?_
   (refine Aa4 (fun w' hw'=>((AbQ (n:Int) _))) Tryz.func14 rfl rfl rfl ?_ ?_ ?_);rfl;rfl;refine zNM ?_
   (repeat(first|refine zM0 ?_|(go_big_quiet_want;((with_reducible apply Anu s.now (rtB n) y.b.root y.b.just y.b.fin y.b.pj y.b.pf);rfl;rfl;go_big_quiet_on;refine zNM ?_))))
   refine zH8 M ?_;clear M;intro w8 M
   refine AaA (AaR rfl ztBl) rfl ?_;refine⟨ext_alloc _ _,?_⟩;replace M:=bx (M.o.alloc (P:=(blP b0)) (ls:=blL) (AaZ _) rfl 78);refine zNM ?_
   refine zMRd ?_
   refine zH8 M ?_;clear M;intro w8 M
   generalize hb1:blk1 s.now (rtB n) y.b.root _ y.b.just y.b.fin y.b.pj y.b.pf=b1 at *
   have HR:RtOk b1.root:=by rw[<-hb1];exact hrn
   clear hb1
   refine zXS M 0 (blP b1) (blP b1) (AaZ _) (Acf _) ?_;clear M;intro w7 M
   refine zH8 M ?_;clear M;intro w9 M;refine NoPanic.normal ?_
   (obtain⟨g9,hg9⟩:=AgN M.o);rw[<-hg9]at M |-;clear hg9
   clear e8 f8 d8 i8 hq8 c8
   obtain⟨q10,hq10,i10⟩:=Ad1 k 1024 1024 rfl;obtain⟨r10,e10,f10⟩:=AbL q10 5 (by decide) 5 rfl;have c10:(0:Int)<=(q10:Int):=(by omega);have d10:(0:Int)<=(r10:Int):=(by omega)
   go_upto_region 6 with fail
   go_cut [70]from 12 (fun s70 wx=>∃bb,s70=.bool bb/\MM Γ w Γ wx [⟨g9,blP b1,blL⟩,⟨g8,noP y,noL⟩,⟨g6,blP b0,blL⟩,⟨g3,stP s v,stL⟩] [])
   case first=>
    as_aux_lemma=>
     by_cases hr:r10=0
     .subst hr
      by_cases hz:s.now.n=0
      .have h1:(s.now.n:Int)=0:=by omega
       (go_wp2_with (refine zLAd ?_))
       go_meet;(case rel=>exact⟨_,rfl,M.o⟩)
      .have h1:(0:Int)<(s.now.n:Int):=by omega
       (go_wp2_with (refine zLAd ?_))
       go_meet;(case rel=>exact⟨_,rfl,M.o⟩)
     .have h1:((r10:Int)==0)=false:=by rw[beq_eq_false_iff_ne];omega
      go_wp2_with fail
      go_meet;(case rel=>exact⟨_,rfl,M.o⟩)
   clear e10 f10 d10 i10 hq10 c10
   clear M;(obtain⟨bb,rfl,hM⟩:=hcut);have M:=bx hM;clear hM
   go_upto_if 70 with fail
   go_cut []from 12 (fun wx=>∃b,RtOk b.root/\MM Γ w Γ wx [⟨g9,blP b,blL⟩,⟨g8,noP y,noL⟩,⟨g6,blP b0,blL⟩,⟨g3,stP s v,stL⟩] [])
   case first=>
    as_aux_lemma=>
     cases bb with
     |true=>
      obtain⟨u,hu⟩:=Aiz ((s.now.n:Int)-1)
      (go_wp2_with (first|(refine zS1d M 0 (.int .u64 (u.n:Int)) (blP {b1 with slot:=u}) ?_;clear M;intro w' M)|refine zLAd ?_))
      go_meet;(case rel=>exact⟨{b1 with slot:=u},(by exact HR),M.o⟩)
     |false=>
      (go_wp2_with (fail))
      go_meet;(case rel=>exact⟨b1,HR,M.o⟩)
   clear M HR;(obtain⟨b2,HR,hM⟩:=hcut);have M:=bx hM;clear hM
   clear b1
   obtain⟨q12,hq12,i12⟩:=Ad1 k 4096 4096 rfl;obtain⟨r12,e12,f12⟩:=AbL q12 16 (by decide) 16 rfl;have c12:(0:Int)<=(q12:Int):=(by omega);have d12:(0:Int)<=(r12:Int):=(by omega)
   obtain⟨q16,hq16,i16⟩:=Ad1 k 65536 65536 rfl;obtain⟨r16,e16,f16⟩:=AbL q16 3 (by decide) 3 rfl;have c16:(0:Int)<=(q16:Int):=(by omega);have d16:(0:Int)<=(r16:Int):=(by omega)
   have hni:(n:Int)<=100000:=by omega
   have hn0:(0:Int)<=(n:Int):=by omega
   have h16:(r16:Int)<3:=by omega
   go_upto_if 78 with fail
   go_cut []from 12 (fun wx=>∃b,RtOk b.root/\MM Γ w Γ wx [⟨g9,blP b,blL⟩,⟨g8,noP y,noL⟩,⟨g6,blP b0,blL⟩,⟨g3,stP s v,stL⟩] [])
   case first=>
    as_aux_lemma=>
     by_cases hr:r12=0
     .subst hr
      (go_wp2_with (fail))
      refine zCB M (AbQ _ _) ?_;clear M;intro w1 M
      (go_wp2_with ((refine zSSd M 0 [rc (rtB ((n:Int)+1+(r16:Int)))] (blP {b2 with parent:=rtB ((n:Int)+1+(r16:Int))}) (lenR _) (Aac _) ?_;clear M;intro w' M)))
      go_meet;(case rel=>exact⟨_,(by exact HR),M.o⟩)
     .have h1:((r12:Int)==0)=false:=by rw[beq_eq_false_iff_ne];omega
      (go_wp2_with (fail))
      go_meet;(case rel=>exact⟨b2,HR,M.o⟩)
   clear e12 f12 d12 i12 hq12 c12
   clear M HR;(obtain⟨b3,HR,hM⟩:=hcut);have M:=bx hM;clear hM
   clear b2
   rename_i K hK
   revert HG AT hki hk0 hni hn0 N p y g3 g6 g8 g9 q16 r16 K wc u12 u13 u14 u15 u16 u17 u18 u19 u20 u21 u22 u23 u24 u25 u26 u27 u28 u29 u30 u31 u32 u33 u34 u35 u36 u37 u38 u39 u40 u41 u42 u43 u44 u45 u46 u47 u48 u49 u50 u51 u52 u53 u54 u55 u56 u57 u58 u59 u60 u61 u62 u63 u64 u65 u66 u67 u68 u69 u70 u71 u72 u73 u74 u75 u76 u77 u78 u79 u80 u81 u82 u83 u84 u85 u86 u87 u88 u89 u90 u91 u92 u93 u94 u95 u96 u97 u98 u99 u100 u101 u102 u103 u104 u105 u106 u107 u108 u109 u110 u111 u112 u113 u114 u115 u116 u117 u118 u119 u120 u121 u122 u123 u124 u125 u126 u127 u128 u129 u130 u131 u132 u133 u134 u135 u136 u137 u138 u139 u140 u141 u142 u143 u144 u145 u146 u147 u148 u149 u150 u151 u152 u153 u154 u155 u156 u157 u158 u159 u160 u161 u162 u163 u164 u165 u166 u167 u168 u169 u170 u171 u172 u173 u174 u175 u176 u177 u178 u179 u180 u181 u182 u183 u184 u185 u186 u187 u188 u189 u190 u191 u192 u193 u194 u195 u196 u197 u198 u199 u200 u201 u202 u203 u204 u205 u206 u207 u208 u209 u210 u211 u212 u213 u214 u215 u216 u217 u218 u219 u220 u221 u222 u223 u224 u225 u226 u227 u228 u229 u230 u231 u232 u233 b3
   exact hR 0
end Go.Proofs.YtpaihpeoiliioaaGreat
