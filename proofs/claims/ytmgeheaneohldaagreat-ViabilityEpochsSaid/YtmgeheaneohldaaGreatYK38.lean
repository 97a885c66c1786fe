/- Texts joined: what the walks of this claim stand on (part 38 of 43). -/
import Derived.Test.YtmgeheaneohldaaGreatYK33
set_option linter.all false
set_option maxRecDepth 20000
set_option maxHeartbeats 40000000
namespace Go.Proofs.YtmgeheaneohldaaGreat
open Go.RowKit Go.Proofs.YtmgeheaneohldaaGreat.Old
abbrev clL:List Nat:=[1,1,32,1]
abbrev slL:List Nat:=[1,1,32,1,1,1,32,1]
theorem stCl:StrT Tryz.prog 122 [(0,1),(1,1),(2,32),(34,1)] (clP cl0 sl0) clL:=AbB Tryz.underlying122 (by kernel_rfl) (by kernel_rfl) (Acw _ _)
theorem stSl:StrT Tryz.prog 124 [(0,35),(35,35)] (slP slh0 sl0 sl0) slL:=AbB Tryz.underlying124 (by kernel_rfl) (by kernel_rfl) (Acm _ _ _)
theorem ztSl:ZeroT Tryz.prog 124 (slP slh0 sl0 sl0) slL:=⟨fun w=>by kernel_rfl,Acm _ _ _⟩
theorem AiK(a b:U)(r:Rt)(A:Option Addr)(n c:Nat):Tryz.prog.built 122 [(0,.int .u64 (a.n:Int)),(1,.int .u64 (b.n:Int)),(2,.agg (rc r).toArray),(3,.slice A n c)]=some (fl (clP ⟨a,b,r,[]⟩ ⟨A,n,c⟩)).toArray:=by
 rw[stCl.eq]
 refine AaJ (Q:=[[.int .u64 (a.n:Int)]]) stCl.len rfl rfl rfl rfl rfl fun hl=>?_
 refine AaJ (Q:=[[.int .u64 (b.n:Int)]]) hl rfl rfl rfl rfl rfl fun hl=>?_
 refine AaJ (Q:=[rc r]) hl rfl rfl rfl (lenR r) rfl fun hl=>?_
 refine AaJ (Q:=[[.slice A n c]]) hl rfl rfl rfl rfl rfl fun hl=>?_
 rfl
theorem AlD(x:Slh)(s t:Sl):Tryz.prog.built 124 [(0,.agg (fl (clP x.a s)).toArray),(1,.agg (fl (clP x.b t)).toArray)]=some (fl (slP x s t)).toArray:=by
 rw[stSl.eq]
 refine AaJ (Q:=clP x.a s) stSl.len rfl rfl rfl (Acw _ _) rfl fun hl=>?_
 refine AaJ (Q:=clP x.b t) hl rfl rfl rfl (Acw _ _) rfl fun hl=>?_
 rfl
def SomG(Γ:Gam)(n:Nat)(w:World)(e:Ending)(w':World):Prop:=∃(s:Sl) (l:List Int) (Γ':Gam),e=.returned s.v/\SlR Γ' s l.length (ints .i64 l)/\l.length<=n+1/\Ext Γ w Γ' w'
theorem Af8(Γ:Gam)(n:Nat)(hn:n<=64)(b:Int)(w:World)(ok:Ok Γ w):Calls Tryz.prog 113 #[.int .i64 n,.int .i64 b] w (SomG Γ n w):=by
 refine(AeQ n hn b w).mono ?_
 rintro e w' ⟨A,c,l,rfl,hl,hr,hb⟩
 obtain⟨Γ',h1,h2,_,h4⟩:=((MM.start ok).rowNew hb hr).frz
 exact⟨⟨A,l.length,c⟩,l,Γ',rfl,⟨rfl,h1,h2⟩,hl,h4.ext⟩
def SlaP' (Γ:Gam)(w:World)(e:Ending)(w':World):Prop:=∃(x:Slh) (s t:Sl) (Γ':Gam),e=.returned (.agg (fl (slP x s t)).toArray)/\SlG2 Γ' x s t/\x.a.l.length<=100/\x.b.l.length<=100/\Ext Γ w Γ' w'
def u1':U:=⟨1,by decide⟩
def u2':U:=⟨2,by decide⟩
def u4':U:=⟨4,by decide⟩
def u5':U:=⟨5,by decide⟩
def u6':U:=⟨6,by decide⟩
theorem AiU(Γ:Gam)(n k:Nat)(hn:n<=64)(hk:k<=100000000)(w:World)(ok:Ok Γ w) :
  Calls Tryz.prog 97 #[.int .i64 n,.int .i64 k] w (SlaP' Γ w):=by
 have M:=bx (MM.start ok)
 have HN:=bx hn
 clear ok hn
 have hki:(k:Int)<=100000000:=by omega
 have hk0:(0:Int)<=(k:Int):=by omega
 obtain⟨q6,hq6,i6⟩:∃q:Nat,(k:Int) / 64=(q:Int)/\q<=k:=⟨k / 64,by simp,Nat.div_le_self _ _⟩
 have c6:(0:Int)<=(q6:Int):=by omega
 go_enter Tryz.func97,Tryz.ntmps97
 go_upto_region 1 with(first|((refine zALd (ztSl) ?_;clear M;intro w' g M);(obtain⟨g4,hg0⟩:∃y,y=g:=⟨_,rfl⟩);subst hg0))
 (go_wp2_with (first|go_skip|(refine zBXd ?_;clear M;intro w' g M)|(refine zALd (ztSl) ?_;clear M;intro w' g M)|fail|refine zLAd ?_))
 refine zCB M (AbN _ _) ?_;clear M;intro w1 M
 (go_wp2_with (first|go_skip|(refine zBXd ?_;clear M;intro w' g M)|(refine zALd (ztSl) ?_;clear M;intro w' g M)|fail|refine zLAd ?_))
 (refine(Af8 Γ n HN.out (k:Int) _ M.ok).mono ?_)
 rintro e1 w1 ⟨s1,l1,Γ1,rfl,hs,hl,hx⟩
 replace M:=bx (M.out.call hx)
 have HS1:=bx hs
 have HL1:=bx hl
 clear hs hl hx
 have HB1:=bx (AiK u1' u5' (rtB 2) s1.A s1.n s1.c)
 (go_wp2_with (first|go_skip|(refine zBXd ?_;clear M;intro w' g M)|(refine zALd (ztSl) ?_;clear M;intro w' g M)|refine zBDd 122 [(0,.int .u64 (u1'.n:Int)),(1,.int .u64 (u5'.n:Int)),(2,.agg (rc (rtB 2)).toArray),(3,.slice s1.A s1.n s1.c)] (fl (clP ⟨u1',u5',rtB 2,[]⟩ s1)) HB1.out ?_|refine zLAd ?_))
 refine zCB M (AbN _ _) ?_;clear M;intro w1 M
 (go_wp2_with (first|go_skip|(refine zBXd ?_;clear M;intro w' g M)|(refine zALd (ztSl) ?_;clear M;intro w' g M)|fail|refine zLAd ?_))
 (refine(Af8 Γ1 n HN.out (q6:Int) _ M.ok).mono ?_)
 rintro e1 w1 ⟨s2,l2,Γ2,rfl,hs,hl,hx⟩
 replace M:=bx (M.out.call hx)
 have HS2:=bx hs
 have HS1':=bx (HS1.out.mono hx.le)
 have HL2:=bx hl
 clear hs hl hx HS1
 have HB2:=bx (AiK u2' u4' (rtB 2) s2.A s2.n s2.c)
 obtain⟨x1,hx1⟩:∃x:Slh,x=⟨⟨u1',u5',rtB 2,l1⟩,⟨u2',u4',rtB 2,l2⟩⟩:=⟨_,rfl⟩
 have HB3:=bx (AlD x1 s1 s2)
 have HX1:=bx hx1
 have X1a:Bx (fl (clP ⟨u1',u5',rtB 2,[]⟩ s1)=fl (clP x1.a s1)):=⟨by rw[hx1];rfl⟩
 have X1b:Bx (fl (clP ⟨u2',u4',rtB 2,[]⟩ s2)=fl (clP x1.b s2)):=⟨by rw[hx1];rfl⟩
 clear hx1
 rw[X1a.out]
 rw[X1b.out]at HB2
 go_upto_region 2 with(first|go_skip|((refine zALd (ztSl) ?_;clear M;intro w' g M);(obtain⟨g5,hg0⟩:∃y,y=g:=⟨_,rfl⟩);subst hg0)|refine zBDd 122 [(0,.int .u64 (u2'.n:Int)),(1,.int .u64 (u4'.n:Int)),(2,.agg (rc (rtB 2)).toArray),(3,.slice s2.A s2.n s2.c)] (fl (clP x1.b s2)) HB2.out ?_|refine zBDd 124 [(0,.agg (fl (clP x1.a s1)).toArray),(1,.agg (fl (clP x1.b s2)).toArray)] (fl (slP x1 s1 s2)) HB3.out ?_|(refine zSSd M 0 (slP x1 s1 s2) (slP x1 s1 s2) (Acm _ _ _) (Ai2 _ _ _) ?_;clear M;intro w' M)|refine zLAd ?_)
 have HSS:Bx (SlG2 Γ2 x1 s1 s2):=⟨by rw[HX1.out];exact⟨HS1'.out,HS2.out⟩⟩
 have HLA:Bx (x1.a.l.length<=100/\x1.b.l.length<=100):=⟨by rw[HX1.out];have:=HL1.out;have:=HL2.out;have:=HN.out;constructor<;>(simp only;omega)⟩
 clear HX1 X1a X1b HB1 HB2 HB3 HS1' HS2 HL1 HL2 hq6 c6 i6
 obtain⟨q12,hq12,i12⟩:∃q:Nat,(k:Int) / 4096=(q:Int)/\q<=k:=⟨k / 4096,by simp,Nat.div_le_self _ _⟩;obtain⟨r12,e12,f12⟩:=AbJ q12 8 (by decide) 8 rfl;have c12:(0:Int)<=(q12:Int):=(by omega);have d12:(0:Int)<=(r12:Int):=(by omega)
 go_upto_block 0 with fail
 go_cut []from 6 (fun wx=>∃(x:Slh) (s t:Sl),SlG2 Γ2 x s t/\x.a.l.length<=100/\x.b.l.length<=100/\MM Γ w Γ2 wx [⟨g5,slP x s t,slL⟩,⟨g4,slP slh0 sl0 sl0,slL⟩] [])
 case first=>
  rcases(by omega:r12=0\/r12=1\/r12=2\/r12=3\/r12=4\/5<=r12)with hr|hr|hr|hr|hr|hr
  .subst hr
   (go_wp2_with (first|go_skip|(refine zBXd ?_;clear M;intro w' g M)|(refine zALd (ztSl) ?_;clear M;intro w' g M)|(refine zSSd M 0 (clP x1.b s2) (slP ⟨x1.b,x1.b⟩ s2 s2) (Acw _ _) (Ajw _ _) ?_;clear M;intro w' M)|(refine zSSd M 0 (clP x1.a s1) (slP ⟨x1.b,x1.a⟩ s2 s1) (Acw _ _) (Ajw _ _) ?_;clear M;intro w' M)|refine zLAd ?_))
   go_meet
   case rel=>exact⟨⟨x1.b,x1.a⟩,s2,s1,⟨HSS.out.b,HSS.out.a⟩,HLA.out.2,HLA.out.1,M.out⟩
  .subst hr
   (go_wp2_with (first|go_skip|(refine zBXd ?_;clear M;intro w' g M)|(refine zALd (ztSl) ?_;clear M;intro w' g M)|(refine zS1d M 0 (.int .u64 (u5'.n:Int)) (slP ⟨x1.a,{x1.b with tgt:=u5'}⟩ s1 s2) ?_;clear M;intro w' M)|refine zLAd ?_))
   go_meet
   case rel=>exact⟨⟨x1.a,{x1.b with tgt:=u5'}⟩,s1,s2,⟨HSS.out.a,HSS.out.b⟩,HLA.out.1,HLA.out.2,M.out⟩
  .subst hr
   (go_wp2_with (first|go_skip|(refine zBXd ?_;clear M;intro w' g M)|(refine zALd (ztSl) ?_;clear M;intro w' g M)|(refine zSSd M 0 (clP x1.a s1) (slP ⟨x1.a,x1.a⟩ s1 s1) (Acw _ _) (Ajw _ _) ?_;clear M;intro w' M)|refine zLAd ?_))
   go_meet
   case rel=>exact⟨⟨x1.a,x1.a⟩,s1,s1,⟨HSS.out.a,HSS.out.a⟩,HLA.out.1,HLA.out.1,M.out⟩
  .subst hr
   (go_wp2_with (first|go_skip|(refine zBXd ?_;clear M;intro w' g M)|(refine zALd (ztSl) ?_;clear M;intro w' g M)|(refine zS1d M 0 (.int .u64 (u6'.n:Int)) (slP ⟨x1.a,{x1.b with src:=u6'}⟩ s1 s2) ?_;clear M;intro w' M)|refine zLAd ?_))
   go_meet
   case rel=>exact⟨⟨x1.a,{x1.b with src:=u6'}⟩,s1,s2,⟨HSS.out.a,HSS.out.b⟩,HLA.out.1,HLA.out.2,M.out⟩
  .subst hr
   (go_wp2_with (first|go_skip|(refine zBXd ?_;clear M;intro w' g M)|(refine zALd (ztSl) ?_;clear M;intro w' g M)|fail|refine zLAd ?_))
   refine zCB M (AbN _ _) ?_;clear M;intro w1 M
   (go_wp2_with (first|go_skip|(refine zBXd ?_;clear M;intro w' g M)|(refine zALd (ztSl) ?_;clear M;intro w' g M)|(refine zS1d M 0 (.int .u64 (u5'.n:Int)) (slP ⟨x1.a,{x1.b with tgt:=u5'}⟩ s1 s2) ?_;clear M;intro w' M)|(refine zS1d M 0 (.int .u64 (u1'.n:Int)) (slP ⟨x1.a,{x1.b with tgt:=u5',src:=u1'}⟩ s1 s2) ?_;clear M;intro w' M)|(refine zSSd M 0 [rc (rtB 3)] (slP ⟨x1.a,⟨u1',u5',rtB 3,x1.b.l⟩⟩ s1 s2) (lenR _) (Aah _) ?_;clear M;intro w' M)|refine zLAd ?_))
   go_meet
   case rel=>exact⟨⟨x1.a,⟨u1',u5',rtB 3,x1.b.l⟩⟩,s1,s2,⟨HSS.out.a,HSS.out.b⟩,HLA.out.1,HLA.out.2,M.out⟩
  .have h0:((r12:Int)==0)=false:=by rw[beq_eq_false_iff_ne];omega
   have h1:((r12:Int)==1)=false:=by rw[beq_eq_false_iff_ne];omega
   have h2:((r12:Int)==2)=false:=by rw[beq_eq_false_iff_ne];omega
   have h3:((r12:Int)==3)=false:=by rw[beq_eq_false_iff_ne];omega
   have h4:((r12:Int)==4)=false:=by rw[beq_eq_false_iff_ne];omega
   (go_wp2_with (first|go_skip|(refine zBXd ?_;clear M;intro w' g M)|(refine zALd (ztSl) ?_;clear M;intro w' g M)|fail|refine zLAd ?_))
   go_meet
   case rel=>exact⟨x1,s1,s2,HSS.out,HLA.out.1,HLA.out.2,M.out⟩
 clear M HSS HLA
 obtain⟨x,s,t,hs,ha,hb,hM⟩:=hcut
 have M:=bx hM
 have HSS:=bx hs
 have HLA:=bx (And.intro ha hb)
 clear hM hs ha hb
 (go_wp2_with (first|go_skip|(refine zBXd ?_;clear M;intro w' g M)|(refine zALd (ztSl) ?_;clear M;intro w' g M)|(refine zSSd M 1 (slP x s t) (slP x s t) (Acm _ _ _) (Ai2 _ _ _) ?_;clear M;intro w' M)|refine zLAd ?_))
 refine zR M.out.at1 ?_
 exact⟨x,s,t,Γ2,rfl,HSS.out,HLA.out.1,HLA.out.2,M.out.ext⟩
theorem MM.regr{Γ0 Γ:Gam}{w0 w:World}{L:List Ent}{R:List RowE}{g:Nat}{P P':List (List Value)}{ls ls':List Nat}(M:MM Γ0 w0 Γ w (⟨g,P,ls⟩::L) R)(h:fl P'=fl P)(hl:P'.map List.length=ls'):MM Γ0 w0 Γ w (⟨g,P',ls'⟩::L) R where
 ext:=M.ext
 has:=fun p hp=>by
  rcases List.mem_cons.1 hp with rfl|hp
  .show Has w g (fl P')
   rw[h];exact M.has ⟨g,P,ls⟩ (by simp)
  .exact M.has p (by simp[hp])
 len:=fun p hp=>by
  rcases List.mem_cons.1 hp with rfl|hp
  .exact hl
  .exact M.len p (by simp[hp])
 off:=fun p hp=>by
  rcases List.mem_cons.1 hp with rfl|hp
  .exact M.off ⟨g,P,ls⟩ (by simp)
  .exact M.off p (by simp[hp])
 lo:=fun p hp=>by
  rcases List.mem_cons.1 hp with rfl|hp
  .exact M.lo ⟨g,P,ls⟩ (by simp)
  .exact M.lo p (by simp[hp])
 nd:=by
  have:=M.nd
  rw[List.pairwise_cons]at this |-
  exact⟨fun q hq=>this.1 q hq,this.2⟩
 rows:=M.rows
 roff:=fun r hr g' hg=>by
  have:=M.roff r hr g' hg
  refine⟨this.1,fun p hp=>?_⟩
  rcases List.mem_cons.1 hp with rfl|hp
  .exact this.2 ⟨g,P,ls⟩ (by simp)
  .exact this.2 p (by simp[hp])
 rnd:=M.rnd
abbrev tbL:List Nat:=[1,32,1]
abbrev tbN(c:Cp):List (List Value):=tbP c (.slice none 0 0)
theorem Amh:StrT Tryz.prog 107 [(0,33),(33,1)] (tbN cp0) tbL:=AbB Tryz.underlying107 (by kernel_rfl) (by kernel_rfl) (Aaf _ _)
theorem Aj0(c:Cp):Tryz.prog.built 107 [(0,.agg (fl (cpP c)).toArray)]=some (fl (tbN c)).toArray:=by
 rw[Amh.eq]
 refine AaJ (Q:=cpP c) Amh.len rfl rfl rfl (AaA _) rfl fun hl=>?_
 rfl
def TblP(Γ:Gam)(w:World)(e:Ending)(w':World):Prop:=∃(t:Tbl) (sl:Sl) (Γ':Gam),e=.returned (.agg (fl (tbP t.c sl.v)).toArray)/\SlR Γ' sl t.b.length (us t.b)/\t.b.length<=100/\Ext Γ w Γ' w'
theorem AiR(Γ:Gam)(s:Sto)(v:Sls)(k:Nat)(hk:k<=100000000)(hL:Lk (upsN s.nodes))(hpos:0<s.nodes.length)(hb:s.nodes.length<=4096)(hbal:1<=s.bal.length/\s.bal.length<=64)(hsp:0<s.c.spe.n)(w:World)(ok:Ok Γ w)(h:StG Γ v s) :
  Calls Tryz.prog 98 #[.agg (fl (stP s v)).toArray,.int .i64 k] w (TblP Γ w):=by
 have M:=bx (MM.start ok)
 have HG:=bx h
 have HBN:Bx (1<=v.bal.n/\v.bal.n<=64):=⟨by rw[h.bal.n];exact hbal⟩
 have AT:=bx (fun i e w ok=>Ahe Γ s v hL hb i e w ok h)
 have hN:v.nodes.n=s.nodes.length:=h.nodes.n
 clear ok h hL hbal
 obtain⟨N,hNN⟩:∃N,v.nodes.n=N:=⟨_,rfl⟩
 have HV:Bx (v.nodes.v=.slice v.nodes.A N v.nodes.c):=⟨by rw[<-hNN]⟩
 obtain⟨nb,hnb⟩:∃n,v.bal.n=n:=⟨_,rfl⟩
 have HVB:Bx (v.bal.v=.slice v.bal.A nb v.bal.c):=⟨by rw[<-hnb]⟩
 rw[hnb]at HBN
 have hnb1:=HBN.out.1
 have hnb2:=HBN.out.2
 rw[hNN]at hN
 have HNL:=bx hN
 have hN1:1<=N:=by omega
 clear hNN hN hpos hb hnb
 have nz:((N:Int)==0)=false:=by rw[beq_eq_false_iff_ne];omega
 have nzs:((s.c.spe.n:Int)==0)=false:=by rw[beq_eq_false_iff_ne];omega
 obtain⟨p,hp0,hp⟩:∃p:Nat,(k:Int)%(N:Int)=(p:Int)/\p<N:=⟨k%N,by omega,Nat.mod_lt _ (by omega)⟩
 have hki:(k:Int)<=100000000:=by omega
 have hk0:(0:Int)<=(k:Int):=by omega
 have hps:p<s.nodes.length:=by rw[<-HNL.out];exact hp
 obtain⟨gn,hA,hf⟩:=HG.out.nodeAt p hps
 have HA:Bx (v.nodes.v=.slice (some ⟨gn,0,none⟩) N v.nodes.c):=⟨by rw[hA];have:=HV.out;simp only[Value.slice.injEq]at this;rw[this.2.1]⟩
 have F1:=bx hf
 have hpi:(p:Int)<(N:Int):=by omega
 have hp1:0<=(p:Int):=by omega
 clear hA hf HNL
 generalize s.nodes[p]=y at *
 clear hps hp
 have BT:=bx (Aj0 y.b.pj)
 obtain⟨q5,hq5,i5⟩:∃q:Nat,(k:Int) / 32=(q:Int)/\q<=k:=⟨k / 32,by simp,Nat.div_le_self _ _⟩;obtain⟨r5,e5,f5⟩:=AbJ q5 4 (by decide) 4 rfl;have c5:(0:Int)<=(q5:Int):=(by omega);have d5:(0:Int)<=(r5:Int):=(by omega)
 go_enter Tryz.func98,Tryz.ntmps98
 go_upto_region 1 with(first|((refine zBYd (AaD _ _) ?_;clear M;intro w' g M);(obtain⟨g2,hg0⟩:∃y,y=g:=⟨_,rfl⟩);subst hg0)|((refine zALd (AeA) ?_;clear M;intro w' g M);(obtain⟨g4,hg0⟩:∃y,y=g:=⟨_,rfl⟩);subst hg0))
 go_upto_region 3 with(first|go_skip|((refine zALd (AeA) ?_;clear M;intro w' g M);(obtain⟨g6,hg0⟩:∃y,y=g:=⟨_,rfl⟩);subst hg0)|refine zLHd HA ?_|refine zRFd F1 ?_|refine zBDd 107 [(0,.agg (fl (cpP y.b.pj)).toArray)] (fl (tbN y.b.pj)) BT.out ?_|(refine zSSd M 0 (tbN y.b.pj) (tbN y.b.pj) (Aaf _ _) (AfF _ _ _ _) ?_;clear M;intro w' M)|refine zLAd ?_)
 clear nz hp0 HA F1 BT
 go_upto_if 27 with fail
 go_cut []from 8 (fun wx=>∃c,MM Γ w Γ wx [⟨g6,tbP c (.slice none 0 0),tbL⟩,⟨g4,tbN cp0,tbL⟩,⟨g2,stP s v,stL⟩] [])
 case first=>
  by_cases hr:r5=0
  .subst hr
   have hy:=Adu s.now s.c.spe
   generalize epN s.now s.c.spe=eu at *
   (go_wp2_with (first|go_skip|(refine zBXd ?_;clear M;intro w' g M)|(refine zALd (AeA) ?_;clear M;intro w' g M)|fail|refine zLAd ?_))
   refine Aab [10] (.steps [(0,0),(1,1),(1,2),(0,3),(1,4),(1,5),(0,6),(1,7),(2,8),(1,9),(3,10)] .leaf) (by kernel_rfl) (by kernel_rfl) ?_;(simp only[MixT8,MT.steps,stepAt,List.getD_cons_zero,List.getD_cons_succ]);replace M:=bx (M.out.drew)
   refine zNM ?_
   refine zMRd ?_
   refine zH8 M ?_;clear M;intro w8 M
   refine zMC (AT.out ((k:Int)%(N:Int)) eu _ M.ok) Tryz.func111 ?_
   rintro e1 w1 ⟨cc,rfl,hx⟩
   refine⟨_,rfl,hx.bel,?_⟩
   replace M:=bx (M.out.call hx)
   clear hx
   refine zNM ?_
   refine zMRd ?_
   refine zH8 M ?_;clear M;intro w8 M
   refine zXS M 0 (cpP cc) (tbN cc) (AaA _) (AaF _) ?_;clear M;intro w7 M
   refine zH8 M ?_;clear M;intro w9 M;refine NoPanic.normal ?_
   (go_wp2_with (first|go_skip|(refine zBXd ?_;clear M;intro w' g M)|(refine zALd (AeA) ?_;clear M;intro w' g M)|fail|refine zLAd ?_))
   go_meet;(case rel=>exact⟨cc,M.out⟩)
  .have h1:((r5:Int)==0)=false:=by rw[beq_eq_false_iff_ne];omega
   (go_wp2_with (first|go_skip|(refine zBXd ?_;clear M;intro w' g M)|(refine zALd (AeA) ?_;clear M;intro w' g M)|fail|refine zLAd ?_))
   go_meet;(case rel=>exact⟨_,M.out⟩)
 clear e5 f5 d5 i5 hq5 c5 AT nzs
 clear M;(obtain⟨cc,hM⟩:=hcut);have M:=bx hM;clear hM
 clear hpi hp1
 (go_wp2_with (first|go_skip|(refine zBXd ?_;clear M;intro w' g M)|(refine zALd (AeA) ?_;clear M;intro w' g M)|fail|refine zLAd ?_))
 replace M:=bx (M.out.row0 23 1)
 go_loopw [7] (fun i wr=>∃(j:Nat) (bal:List U) (A':Option Addr) (c':Nat),j<=nb/\i=.int .i64 j/\bal.length=j/\MM Γ w Γ wr [⟨g6,tbP cc (.slice A' j c'),tbL⟩,⟨g4,tbN cp0,tbL⟩,⟨g2,stP s v,stL⟩] [⟨.slice A' j c',23,1,j,us bal⟩]) (fun i _=>nb-(intOf i).toNat)
 case atStart=>exact⟨0,[],none,0,Nat.zero_le _,rfl,rfl,M.out⟩
 case round=>
  obtain⟨j,bal,A0,c0,hj,rfl,hbl,hM⟩:=hrel
  clear M
  have M:=bx hM
  have HBX:=bx hbl
  clear hM hbl
  by_cases hjn:j<nb
  .have hji:(j:Int)<(nb:Int):=by omega
   obtain⟨qj,hqj⟩:∃q:Nat,(k:Int) / 2 ^ j=(q:Int):=⟨k / 2 ^ j,by rw[Int.natCast_ediv,Int.natCast_pow];rfl⟩
   obtain⟨rj,ej,fj⟩:=AbJ qj 50 (by decide) 50 rfl
   have cj:(0:Int)<=(qj:Int):=by omega
   have dj:(0:Int)<=(rj:Int):=by omega
   have gj:(rj:Int)<50:=by omega
   obtain⟨bu,hbu⟩:∃u:U,u.n=rj:=⟨⟨rj,by omega⟩,rfl⟩
   have HBU:=bx hbu
   clear hbu
   (go_wp2_with (first|go_skip|(refine zBXd ?_;clear M;intro w' g M)|(refine zALd (AeA) ?_;clear M;intro w' g M)|refine zLHd HVB ?_|((with_reducible apply Aa6 M.out Agk);rfl;rfl;rfl;rfl;intro w' g M' hb';(replace M:=bx M';clear M');clear hb';refine zNM ?_)|(at_builtin;(with_reducible apply AaW M.out Agk);rfl;exact One.v rfl;(unfold maxLen;omega);omega;rfl;rfl;rfl;rfl;intro A' c' w' M';(replace M:=bx M';clear M'))|(refine zS1d M 0 (.slice A' (j+1) c') (tbP cc (.slice A' (j+1) c')) ?_;clear M;intro w' M)|refine zLAd ?_))
   go_roundw
   case rel=>
    have hM:MM Γ w Γ w' [⟨g6,tbP cc (.slice A' (j+1) c'),tbL⟩,⟨g4,tbN cp0,tbL⟩,⟨g2,stP s v,stL⟩] [⟨.slice A' (j+1) c',23,1,j+1,us bal++fl [[Value.int .u64 (rj:Int)]]⟩]:=M.out
    rw[show us bal++fl [[Value.int .u64 (rj:Int)]]=us (bal ++ [bu])by rw[<-HBU.out];simp[us,fl,U.v]]at hM
    exact⟨j+1,bal ++ [bu],A',c',by omega,by go_num,by simp[HBX.out],hM⟩
   case measure=>simp[intOf];omega
  .obtain rfl:j=nb:=by omega
   obtain⟨q12,hq12,i12⟩:∃q:Nat,(k:Int) / 4096=(q:Int)/\q<=k:=⟨k / 4096,by simp,Nat.div_le_self _ _⟩;obtain⟨r12,e12,f12⟩:=AbJ q12 16 (by decide) 16 rfl;have c12:(0:Int)<=(q12:Int):=(by omega);have d12:(0:Int)<=(r12:Int):=(by omega)
   go_upto_block 2 with(first|go_skip|refine zLHd HVB ?_|refine zLAd ?_)
   go_cut []from 8 (fun wx=>∃(Γx:Gam) (A:Option Addr) (n c:Nat) (bl:List U),bl.length=n/\n<=100/\CapOk A n c/\SlG Γx A n (us bl)/\MM Γ w Γx wx [⟨g6,tbP cc (.slice A n c),tbL⟩,⟨g4,tbN cp0,tbL⟩,⟨g2,stP s v,stL⟩] [])
   case first=>
    rcases(by omega:r12=0\/r12=1\/2<=r12)with hr|hr|hr
    .subst hr
     (go_wp2_with (first|go_skip|(refine zBXd ?_;clear M;intro w' g M)|(refine zALd (AeA) ?_;clear M;intro w' g M)|((with_reducible apply Aa6 M.out Agk);rfl;rfl;rfl;rfl;intro w' g M' hb';(replace M:=bx M';clear M');clear hb';refine zNM ?_)|(at_builtin;(with_reducible apply AaW M.out Agk);rfl;exact One.v rfl;(unfold maxLen;omega);omega;rfl;rfl;rfl;rfl;intro A' c' w' M';(replace M:=bx M';clear M'))|(refine zS1d M 0 (.slice A' (j+1) c') (tbP cc (.slice A' (j+1) c')) ?_;clear M;intro w' M)|refine zLAd ?_))
     go_meet
     case rel=>
      obtain⟨Γ',h1,h2,h3,h4⟩:=M.out.frz
      have h2:SlG Γ' A' (j+1) (us bal++fl [[Value.int .u64 1]]):=h2
      rw[show us bal++fl [[Value.int .u64 1]]=us (bal ++ [⟨1,by decide⟩])by simp[us,fl,U.v]]at h2
      exact⟨Γ',A',j+1,c',bal ++ [⟨1,by decide⟩],by simp[HBX.out],by omega,h1,h2,h4⟩
    .subst hr
     have hj0:(0:Int)<(j:Int):=by omega
     obtain⟨g,rest,rfl,hcap,hM⟩:=M.out.rowL (by omega)
     have hbl:=HBX.out
     obtain⟨b0,bt,rfl⟩:∃b0 bt,bal=b0::bt:=by
      cases bal with
      |nil=>simp at hbl;omega
      |cons b0 bt=>exact⟨b0,bt,rfl⟩
     have hM2:=hM.regr (P':=[[.int .u64 (b0.n:Int)],us bt,rest]) (ls':=[1,(us bt).length,rest.length]) (by simp[fl,us,U.v]) rfl
     clear M hM
     have M:=bx hM2
     have HCP:=bx hcap
     clear hM2 hcap hbl
     (go_wp2_with (first|go_skip|(refine zBXd ?_;clear M;intro w' g M)|(refine zALd (AeA) ?_;clear M;intro w' g M)|(refine zS1d M 0 (.int .u64 4611686018427387904) [[.int .u64 4611686018427387904],us bt,rest] ?_;clear M;intro w' M)|refine zLAd ?_))
     go_meet
     case rel=>
      obtain⟨Γ',h1,h3,h4⟩:=M.out.frzL
      refine⟨Γ',some ⟨g,0,none⟩,j,c0,⟨4611686018427387904,by decide⟩::bt,by rw[<-HBX.out];rfl,by omega,HCP.out,fun _=>⟨g,rest,rfl,?_⟩,h4⟩
      rw[h1];simp[fl,us,U.v]
    .have h0:((r12:Int)==0)=false:=by rw[beq_eq_false_iff_ne];omega
     have h1:((r12:Int)==1)=false:=by rw[beq_eq_false_iff_ne];omega
     (go_wp2_with (first|go_skip|(refine zBXd ?_;clear M;intro w' g M)|(refine zALd (AeA) ?_;clear M;intro w' g M)|fail|refine zLAd ?_))
     go_meet
     case rel=>
      obtain⟨Γ',h1,h2,h3,h4⟩:=M.out.frz
      exact⟨Γ',A0,j,c0,bal,HBX.out,by omega,h1,h2,h4⟩
   clear M
   obtain⟨Γx,A,n,c,bl,hn,hn2,hcap,hsl,hM⟩:=hcut
   have M:=bx hM
   have HB2:=bx (And.intro hn (And.intro hn2 (And.intro hcap hsl)))
   clear hM hn hn2 hcap hsl
   (go_wp2_with (first|go_skip|(refine zBXd ?_;clear M;intro w' g M)|(refine zALd (AeA) ?_;clear M;intro w' g M)|(refine zSSd M 1 (tbP cc (.slice A n c)) (tbP cc (.slice A n c)) (Aaf _ _) (AfF _ _ _ _) ?_;clear M;intro w' M)|refine zLAd ?_))
   refine zR M.out.at1 ?_
   obtain⟨hn,hn2,hcap,hsl⟩:=HB2.out
   exact⟨⟨cc,bl⟩,⟨A,n,c⟩,Γx,rfl,⟨hn.symm,hcap,hsl⟩,by show bl.length<=100;omega,M.out.ext⟩
end Go.Proofs.YtmgeheaneohldaaGreat
