/- Texts joined: what the walks of this claim stand on (part 48). -/
import Derived.Test.YtpaihpeoiliioaaGreatKK43
import Derived.Test.YtpaihpeoiliioaaGreatKK44
import Derived.Test.YtpaihpeoiliioaaGreatKK46
import Derived.Test.YtpaihpeoiliioaaGreatKK47
set_option linter.all false
set_option maxRecDepth 20000
set_option maxHeartbeats 40000000
namespace Go.Proofs.YtpaihpeoiliioaaGreat
open Go.RowKit Old
abbrev clL:List Nat:=[1,1,32,1]
abbrev slL:List Nat:=[1,1,32,1,1,1,32,1]
theorem stCl:StrT Tryz.prog 115 [(0,1),(1,1),(2,32),(34,1)] (clP cl0 sl0) clL:=Aa9 Tryz.underlying115 (by kernel_rfl) (by kernel_rfl) (Adi _ _)
theorem stSl:StrT Tryz.prog 117 [(0,35),(35,35)] (slP slh0 sl0 sl0) slL:=Aa9 Tryz.underlying117 (by kernel_rfl) (by kernel_rfl) (AdY _ _ _)
theorem ztSl:ZeroT Tryz.prog 117 (slP slh0 sl0 sl0) slL:=⟨fun w=>by kernel_rfl,AdY _ _ _⟩
theorem Aki(a b:U)(r:Rt)(A:Option Addr)(n c:Nat):Tryz.prog.built 115 [(0,.int .u64 (a.n:Int)),(1,.int .u64 (b.n:Int)),(2,.agg (rc r).toArray),(3,.slice A n c)]=some (fl (clP ⟨a,b,r,[]⟩ ⟨A,n,c⟩)).toArray:=by
 rw[stCl.eq]
 refine AaG (Q:=[[.int .u64 (a.n:Int)]]) stCl.len rfl rfl rfl rfl rfl fun hl=>?_
 refine AaG (Q:=[[.int .u64 (b.n:Int)]]) hl rfl rfl rfl rfl rfl fun hl=>?_
 refine AaG (Q:=[rc r]) hl rfl rfl rfl (lenR r) rfl fun hl=>?_
 refine AaG (Q:=[[.slice A n c]]) hl rfl rfl rfl rfl rfl fun hl=>?_
 rfl
theorem Aob(x:Slh)(s t:Sl):Tryz.prog.built 117 [(0,.agg (fl (clP x.a s)).toArray),(1,.agg (fl (clP x.b t)).toArray)]=some (fl (slP x s t)).toArray:=by
 rw[stSl.eq]
 refine AaG (Q:=clP x.a s) stSl.len rfl rfl rfl (Adi _ _) rfl fun hl=>?_
 refine AaG (Q:=clP x.b t) hl rfl rfl rfl (Adi _ _) rfl fun hl=>?_
 rfl
def SomG(Γ:Gam)(n:Nat)(w:World)(e:Ending)(w':World):Prop:=∃(s:Sl) (l:List Int) (Γ':Gam),e=.returned s.v/\SlR Γ' s l.length (ints .i64 l)/\l.length<=n+1/\Ext Γ w Γ' w'
theorem Ahu(Γ:Gam)(n:Nat)(hn:n<=64)(b:Int)(w:World)(ok:Ok Γ w):Calls Tryz.prog 122 #[.int .i64 n,.int .i64 b] w (SomG Γ n w):=by
 refine(AfS n hn b w).mono ?_
 rintro e w' ⟨A,c,l,rfl,hl,hr,hb⟩
 obtain⟨Γ',h1,h2,_,h4⟩:=((MM.start ok).rowNew hb hr).frz
 exact⟨⟨A,l.length,c⟩,l,Γ',rfl,⟨rfl,h1,h2⟩,hl,h4.ext⟩
def SlaP' (Γ:Gam)(w:World)(e:Ending)(w':World):Prop:=∃(x:Slh) (s t:Sl) (Γ':Gam),e=.returned (.agg (fl (slP x s t)).toArray)/\SlG2 Γ' x s t/\x.a.l.length<=100/\x.b.l.length<=100/\Ext Γ w Γ' w'
def u1':U:=⟨1,by decide⟩
def u2':U:=⟨2,by decide⟩
def u4':U:=⟨4,by decide⟩
def u5':U:=⟨5,by decide⟩
def u6':U:=⟨6,by decide⟩
theorem Ak2(Γ:Gam)(n k:Nat)(hn:n<=64)(hk:k<=100000000)(w:World)(ok:Ok Γ w) :
  Calls Tryz.prog 91 #[.int .i64 n,.int .i64 k] w (SlaP' Γ w):=by
 have M:=bx (MM.start ok)
 have HN:=bx hn
 clear ok hn
 have hki:(k:Int)<=100000000:=by omega
 have hk0:(0:Int)<=(k:Int):=by omega
 obtain⟨q6,hq6,i6⟩:∃q:Nat,(k:Int) / 64=(q:Int)/\q<=k:=⟨k / 64,by simp,Nat.div_le_self _ _⟩
 have c6:(0:Int)<=(q6:Int):=by omega
 go_enter Tryz.func91,Tryz.ntmps91
 go_upto_region 1 with(((refine zALd (ztSl) ?_;clear M;intro w' g M);(obtain⟨g4,hg0⟩:∃y,y=g:=⟨_,rfl⟩);subst hg0))
 (go_wp2_with (fail))
 refine zCB M (AbQ _ _) ?_;clear M;intro w1 M
 (go_wp2_with (fail))
 (refine(Ahu Γ n HN.o (k:Int) _ M.ok).mono ?_)
 rintro e1 w1 ⟨s1,l1,Γ1,rfl,hs,hl,hx⟩
 replace M:=bx (M.o.call hx)
 have HS1:=bx hs
 have HL1:=bx hl
 clear hs hl hx
 have HB1:=bx (Aki u1' u5' (rtB 2) s1.A s1.n s1.c)
 (go_wp2_with (refine zBDd 115 [(0,.int .u64 (u1'.n:Int)),(1,.int .u64 (u5'.n:Int)),(2,.agg (rc (rtB 2)).toArray),(3,.slice s1.A s1.n s1.c)] (fl (clP ⟨u1',u5',rtB 2,[]⟩ s1)) HB1.o ?_))
 refine zCB M (AbQ _ _) ?_;clear M;intro w1 M
 (go_wp2_with (fail))
 (refine(Ahu Γ1 n HN.o (q6:Int) _ M.ok).mono ?_)
 rintro e1 w1 ⟨s2,l2,Γ2,rfl,hs,hl,hx⟩
 replace M:=bx (M.o.call hx)
 have HS2:=bx hs
 have HS1':=bx (HS1.o.mono hx.le)
 have HL2:=bx hl
 clear hs hl hx HS1
 have HB2:=bx (Aki u2' u4' (rtB 2) s2.A s2.n s2.c)
 obtain⟨x1,hx1⟩:∃x:Slh,x=⟨⟨u1',u5',rtB 2,l1⟩,⟨u2',u4',rtB 2,l2⟩⟩:=⟨_,rfl⟩
 have HB3:=bx (Aob x1 s1 s2)
 have HX1:=bx hx1
 have X1a:Bx (fl (clP ⟨u1',u5',rtB 2,[]⟩ s1)=fl (clP x1.a s1)):=⟨by rw[hx1];rfl⟩
 have X1b:Bx (fl (clP ⟨u2',u4',rtB 2,[]⟩ s2)=fl (clP x1.b s2)):=⟨by rw[hx1];rfl⟩
 clear hx1
 rw[X1a.o]
 rw[X1b.o]at HB2
 go_upto_region 2 with(first|((refine zALd (ztSl) ?_;clear M;intro w' g M);(obtain⟨g5,hg0⟩:∃y,y=g:=⟨_,rfl⟩);subst hg0)|refine zBDd 115 [(0,.int .u64 (u2'.n:Int)),(1,.int .u64 (u4'.n:Int)),(2,.agg (rc (rtB 2)).toArray),(3,.slice s2.A s2.n s2.c)] (fl (clP x1.b s2)) HB2.o ?_|refine zBDd 117 [(0,.agg (fl (clP x1.a s1)).toArray),(1,.agg (fl (clP x1.b s2)).toArray)] (fl (slP x1 s1 s2)) HB3.o ?_|(refine zSSd M 0 (slP x1 s1 s2) (slP x1 s1 s2) (AdY _ _ _) (Als _ _ _) ?_;clear M;intro w' M))
 have HSS:Bx (SlG2 Γ2 x1 s1 s2):=⟨by rw[HX1.o];exact⟨HS1'.o,HS2.o⟩⟩
 have HLA:Bx (x1.a.l.length<=100/\x1.b.l.length<=100):=⟨by rw[HX1.o];have:=HL1.o;have:=HL2.o;have:=HN.o;constructor<;>(simp only;omega)⟩
 clear HX1 X1a X1b HB1 HB2 HB3 HS1' HS2 HL1 HL2 hq6 c6 i6
 obtain⟨q12,hq12,i12⟩:∃q:Nat,(k:Int) / 4096=(q:Int)/\q<=k:=⟨k / 4096,by simp,Nat.div_le_self _ _⟩;obtain⟨r12,e12,f12⟩:=AbL q12 8 (by decide) 8 rfl;have c12:(0:Int)<=(q12:Int):=(by omega);have d12:(0:Int)<=(r12:Int):=(by omega)
 go_upto_block 0 with fail
 go_cut []from 6 (fun wx=>∃(x:Slh) (s t:Sl),SlG2 Γ2 x s t/\x.a.l.length<=100/\x.b.l.length<=100/\MM Γ w Γ2 wx [⟨g5,slP x s t,slL⟩,⟨g4,slP slh0 sl0 sl0,slL⟩] [])
 case first=>
  rcases(by omega:r12=0\/r12=1\/r12=2\/r12=3\/r12=4\/5<=r12)with hr|hr|hr|hr|hr|hr
  .subst hr
   (go_wp2_with (first|((first|refine zSSd M 0 (clP x1.b s2) (slP ⟨x1.b,x1.b⟩ s2 s2) (Adi _ _) (Am3 _ _) ?_|refine zSSd M 0 (clP x1.a s1) (slP ⟨x1.b,x1.a⟩ s2 s1) (Adi _ _) (Am3 _ _) ?_);clear M;intro w' M)|refine zLAd ?_))
   go_meet
   case rel=>exact⟨⟨x1.b,x1.a⟩,s2,s1,⟨HSS.o.b,HSS.o.a⟩,HLA.o.2,HLA.o.1,M.o⟩
  .subst hr
   (go_wp2_with ((refine zS1d M 0 (.int .u64 (u5'.n:Int)) (slP ⟨x1.a,{x1.b with tgt:=u5'}⟩ s1 s2) ?_;clear M;intro w' M)))
   go_meet
   case rel=>exact⟨⟨x1.a,{x1.b with tgt:=u5'}⟩,s1,s2,⟨HSS.o.a,HSS.o.b⟩,HLA.o.1,HLA.o.2,M.o⟩
  .subst hr
   (go_wp2_with (first|(refine zSSd M 0 (clP x1.a s1) (slP ⟨x1.a,x1.a⟩ s1 s1) (Adi _ _) (Am3 _ _) ?_;clear M;intro w' M)|refine zLAd ?_))
   go_meet
   case rel=>exact⟨⟨x1.a,x1.a⟩,s1,s1,⟨HSS.o.a,HSS.o.a⟩,HLA.o.1,HLA.o.1,M.o⟩
  .subst hr
   (go_wp2_with ((refine zS1d M 0 (.int .u64 (u6'.n:Int)) (slP ⟨x1.a,{x1.b with src:=u6'}⟩ s1 s2) ?_;clear M;intro w' M)))
   go_meet
   case rel=>exact⟨⟨x1.a,{x1.b with src:=u6'}⟩,s1,s2,⟨HSS.o.a,HSS.o.b⟩,HLA.o.1,HLA.o.2,M.o⟩
  .subst hr
   (go_wp2_with (fail))
   refine zCB M (AbQ _ _) ?_;clear M;intro w1 M
   (go_wp2_with (first|((first|refine zS1d M 0 (.int .u64 (u5'.n:Int)) (slP ⟨x1.a,{x1.b with tgt:=u5'}⟩ s1 s2) ?_|refine zS1d M 0 (.int .u64 (u1'.n:Int)) (slP ⟨x1.a,{x1.b with tgt:=u5',src:=u1'}⟩ s1 s2) ?_|refine zSSd M 0 [rc (rtB 3)] (slP ⟨x1.a,⟨u1',u5',rtB 3,x1.b.l⟩⟩ s1 s2) (lenR _) (Aac _) ?_);clear M;intro w' M)))
   go_meet
   case rel=>exact⟨⟨x1.a,⟨u1',u5',rtB 3,x1.b.l⟩⟩,s1,s2,⟨HSS.o.a,HSS.o.b⟩,HLA.o.1,HLA.o.2,M.o⟩
  .have h0:((r12:Int)==0)=false:=by rw[beq_eq_false_iff_ne];omega
   have h1:((r12:Int)==1)=false:=by rw[beq_eq_false_iff_ne];omega
   have h2:((r12:Int)==2)=false:=by rw[beq_eq_false_iff_ne];omega
   have h3:((r12:Int)==3)=false:=by rw[beq_eq_false_iff_ne];omega
   have h4:((r12:Int)==4)=false:=by rw[beq_eq_false_iff_ne];omega
   (go_wp2_with (fail))
   go_meet
   case rel=>exact⟨x1,s1,s2,HSS.o,HLA.o.1,HLA.o.2,M.o⟩
 clear M HSS HLA
 obtain⟨x,s,t,hs,ha,hb,hM⟩:=hcut
 have M:=bx hM
 have HSS:=bx hs
 have HLA:=bx (And.intro ha hb)
 clear hM hs ha hb
 (go_wp2_with (first|(refine zSSd M 1 (slP x s t) (slP x s t) (AdY _ _ _) (Als _ _ _) ?_;clear M;intro w' M)|refine zLAd ?_))
 refine zR M.o.at1 ?_
 exact⟨x,s,t,Γ2,rfl,HSS.o,HLA.o.1,HLA.o.2,M.o.ext⟩
theorem MM.regr{Γ0 Γ:Gam}{w0 w:World}{L:List Ent}{R:List RowE}{g:Nat}{P P':List (List Value)}{ls ls':List Nat}(M:MM Γ0 w0 Γ w (⟨g,P,ls⟩::L) R)(h:fl P'=fl P)(hl:P'.map List.length=ls'):MM Γ0 w0 Γ w (⟨g,P',ls'⟩::L) R where
 ext:=M.ext
 has:=fun p hp=>by
  rcases List.mem_cons.1 hp with rfl|hp
  .show Has w g (fl P')
   rw[h];exact M.has ⟨g,P,ls⟩ (by simp)
  .exact M.has p (by simp[hp])
 len:=fun p hp=>by
  rcases List.mem_cons.1 hp with rfl|hp
  .exact hl
  .exact M.len p (by simp[hp])
 off:=fun p hp=>by
  rcases List.mem_cons.1 hp with rfl|hp
  .exact M.off ⟨g,P,ls⟩ (by simp)
  .exact M.off p (by simp[hp])
 lo:=fun p hp=>by
  rcases List.mem_cons.1 hp with rfl|hp
  .exact M.lo ⟨g,P,ls⟩ (by simp)
  .exact M.lo p (by simp[hp])
 nd:=by
  have:=M.nd
  rw[List.pairwise_cons]at this |-
  exact⟨fun q hq=>this.1 q hq,this.2⟩
 rows:=M.rows
 roff:=fun r hr g' hg=>by
  have:=M.roff r hr g' hg
  refine⟨this.1,fun p hp=>?_⟩
  rcases List.mem_cons.1 hp with rfl|hp
  .exact this.2 ⟨g,P,ls⟩ (by simp)
  .exact this.2 p (by simp[hp])
 rnd:=M.rnd
abbrev tbL:List Nat:=[1,32,1]
abbrev tbN(c:Cp):List (List Value):=tbP c (.slice none 0 0)
theorem AqS:StrT Tryz.prog 119 [(0,33),(33,1)] (tbN cp0) tbL:=Aa9 Tryz.underlying119 (by kernel_rfl) (by kernel_rfl) (AaS _ _)
theorem AnB(c:Cp):Tryz.prog.built 119 [(0,.agg (fl (cpP c)).toArray)]=some (fl (tbN c)).toArray:=by
 rw[AqS.eq]
 refine AaG (Q:=cpP c) AqS.len rfl rfl rfl (AaC _) rfl fun hl=>?_
 rfl
def TblP(Γ:Gam)(w:World)(e:Ending)(w':World):Prop:=∃(t:Tbl) (sl:Sl) (Γ':Gam),e=.returned (.agg (fl (tbP t.c sl.v)).toArray)/\SlR Γ' sl t.b.length (us t.b)/\t.b.length<=100/\Ext Γ w Γ' w'
theorem Akx(Γ:Gam)(s:Sto)(v:Sls)(k:Nat)(hk:k<=100000000)(hL:Lk (upsN s.nodes))(hpos:0<s.nodes.length)(hb:s.nodes.length<=4096)(hbal:1<=s.bal.length/\s.bal.length<=64)(hsp:0<s.c.spe.n)(w:World)(ok:Ok Γ w)(h:StG Γ v s) :
  Calls Tryz.prog 92 #[.agg (fl (stP s v)).toArray,.int .i64 k] w (TblP Γ w):=by
 have M:=bx (MM.start ok)
 have HG:=bx h
 have HBN:Bx (1<=v.bal.n/\v.bal.n<=64):=⟨by rw[h.bal.n];exact hbal⟩
 have AT:=bx (fun i e w ok=>Aje Γ s v hL hb i e w ok h)
 have hN:v.nodes.n=s.nodes.length:=h.nodes.n
 clear ok h hL hbal
 obtain⟨N,hNN⟩:∃N,v.nodes.n=N:=⟨_,rfl⟩
 have HV:Bx (v.nodes.v=.slice v.nodes.A N v.nodes.c):=⟨by rw[<-hNN]⟩
 obtain⟨nb,hnb⟩:∃n,v.bal.n=n:=⟨_,rfl⟩
 have HVB:Bx (v.bal.v=.slice v.bal.A nb v.bal.c):=⟨by rw[<-hnb]⟩
 rw[hnb]at HBN
 have hnb1:=HBN.o.1
 have hnb2:=HBN.o.2
 rw[hNN]at hN
 have HNL:=bx hN
 have hN1:1<=N:=by omega
 clear hNN hN hpos hb hnb
 have nz:((N:Int)==0)=false:=by rw[beq_eq_false_iff_ne];omega
 have nzs:((s.c.spe.n:Int)==0)=false:=by rw[beq_eq_false_iff_ne];omega
 obtain⟨p,hp0,hp⟩:∃p:Nat,(k:Int)%(N:Int)=(p:Int)/\p<N:=⟨k%N,by omega,Nat.mod_lt _ (by omega)⟩
 have hki:(k:Int)<=100000000:=by omega
 have hk0:(0:Int)<=(k:Int):=by omega
 have hps:p<s.nodes.length:=by rw[<-HNL.o];exact hp
 obtain⟨gn,hA,hf⟩:=HG.o.nodeAt p hps
 have HA:Bx (v.nodes.v=.slice (some ⟨gn,0,none⟩) N v.nodes.c):=⟨by rw[hA];have:=HV.o;simp only[Value.slice.injEq]at this;rw[this.2.1]⟩
 have F1:=bx hf
 have hpi:(p:Int)<(N:Int):=by omega
 have hp1:0<=(p:Int):=by omega
 clear hA hf HNL
 generalize s.nodes[p]=y at *
 clear hps hp
 have BT:=bx (AnB y.b.pj)
 obtain⟨q5,hq5,i5⟩:∃q:Nat,(k:Int) / 32=(q:Int)/\q<=k:=⟨k / 32,by simp,Nat.div_le_self _ _⟩;obtain⟨r5,e5,f5⟩:=AbL q5 4 (by decide) 4 rfl;have c5:(0:Int)<=(q5:Int):=(by omega);have d5:(0:Int)<=(r5:Int):=(by omega)
 go_enter Tryz.func92,Tryz.ntmps92
 go_upto_region 1 with(first|((refine zBYd (AaD _ _) ?_;clear M;intro w' g M);(obtain⟨g2,hg0⟩:∃y,y=g:=⟨_,rfl⟩);subst hg0)|((refine zALd (ApC) ?_;clear M;intro w' g M);(obtain⟨g4,hg0⟩:∃y,y=g:=⟨_,rfl⟩);subst hg0))
 go_upto_region 3 with(first|((refine zALd (ApC) ?_;clear M;intro w' g M);(obtain⟨g6,hg0⟩:∃y,y=g:=⟨_,rfl⟩);subst hg0)|refine zLHd HA ?_|refine zRFd F1 ?_|refine zBDd 119 [(0,.agg (fl (cpP y.b.pj)).toArray)] (fl (tbN y.b.pj)) BT.o ?_|(refine zSSd M 0 (tbN y.b.pj) (tbN y.b.pj) (AaS _ _) (Aeo _ _ _ _) ?_;clear M;intro w' M))
 clear nz hp0 HA F1 BT
 go_upto_if 27 with fail
 go_cut []from 8 (fun wx=>∃c,MM Γ w Γ wx [⟨g6,tbP c (.slice none 0 0),tbL⟩,⟨g4,tbN cp0,tbL⟩,⟨g2,stP s v,stL⟩] [])
 case first=>
  by_cases hr:r5=0
  .subst hr
   have hy:=Afr s.now s.c.spe
   generalize epN s.now s.c.spe=eu at *
   (go_wp2_with (fail))
   refine Aad [10] (.steps [(0,0),(1,1),(1,2),(0,3),(1,4),(1,5),(0,6),(1,7),(2,8),(1,9),(3,10)] .leaf) (by kernel_rfl) (by kernel_rfl) ?_;(simp only[MixT8,MT.steps,stepAt,List.getD_cons_zero,List.getD_cons_succ]);replace M:=bx (M.o.drew)
   refine zNM ?_
   refine zMRd ?_
   refine zH8 M ?_;clear M;intro w8 M
   refine zMC (AT.o ((k:Int)%(N:Int)) eu _ M.ok) Tryz.func120 ?_
   rintro e1 w1 ⟨cc,rfl,hx⟩
   refine⟨_,rfl,hx.bel,?_⟩
   replace M:=bx (M.o.call hx)
   clear hx
   refine zNM ?_
   refine zMRd ?_
   refine zH8 M ?_;clear M;intro w8 M
   refine zXS M 0 (cpP cc) (tbN cc) (AaC _) (AaO _) ?_;clear M;intro w7 M
   refine zH8 M ?_;clear M;intro w9 M;refine NoPanic.normal ?_
   (go_wp2_with (fail))
   go_meet;(case rel=>exact⟨cc,M.o⟩)
  .have h1:((r5:Int)==0)=false:=by rw[beq_eq_false_iff_ne];omega
   (go_wp2_with (fail))
   go_meet;(case rel=>exact⟨_,M.o⟩)
 clear e5 f5 d5 i5 hq5 c5 AT nzs
 clear M;(obtain⟨cc,hM⟩:=hcut);have M:=bx hM;clear hM
 clear hpi hp1
 (go_wp2_with (fail))
 replace M:=bx (M.o.row0 23 1)
 go_loopw [7] (fun i wr=>∃(j:Nat) (bal:List U) (A':Option Addr) (c':Nat),j<=nb/\i=.int .i64 j/\bal.length=j/\MM Γ w Γ wr [⟨g6,tbP cc (.slice A' j c'),tbL⟩,⟨g4,tbN cp0,tbL⟩,⟨g2,stP s v,stL⟩] [⟨.slice A' j c',23,1,j,us bal⟩]) (fun i _=>nb-(intOf i).toNat)
 case atStart=>exact⟨0,[],none,0,Nat.zero_le _,rfl,rfl,M.o⟩
 case round=>
  obtain⟨j,bal,A0,c0,hj,rfl,hbl,hM⟩:=hrel
  clear M
  have M:=bx hM
  have HBX:=bx hbl
  clear hM hbl
  by_cases hjn:j<nb
  .have hji:(j:Int)<(nb:Int):=by omega
   obtain⟨qj,hqj⟩:∃q:Nat,(k:Int) / 2 ^ j=(q:Int):=⟨k / 2 ^ j,by rw[Int.natCast_ediv,Int.natCast_pow];rfl⟩
   obtain⟨rj,ej,fj⟩:=AbL qj 50 (by decide) 50 rfl
   have cj:(0:Int)<=(qj:Int):=by omega
   have dj:(0:Int)<=(rj:Int):=by omega
   have gj:(rj:Int)<50:=by omega
   obtain⟨bu,hbu⟩:∃u:U,u.n=rj:=⟨⟨rj,by omega⟩,rfl⟩
   have HBU:=bx hbu
   clear hbu
   (go_wp2_with (first|refine zLHd HVB ?_|((with_reducible apply Aa7 M.o Aia);rfl;rfl;rfl;rfl;intro w' g M' hb';(replace M:=bx M';clear M');clear hb';refine zNM ?_)|(at_builtin;(with_reducible apply AaU M.o Aia);rfl;exact One.v rfl;(unfold maxLen;omega);omega;rfl;rfl;rfl;rfl;intro A' c' w' M';(replace M:=bx M';clear M'))|(refine zS1d M 0 (.slice A' (j+1) c') (tbP cc (.slice A' (j+1) c')) ?_;clear M;intro w' M)|refine zLAd ?_))
   go_roundw
   case rel=>
    have hM:MM Γ w Γ w' [⟨g6,tbP cc (.slice A' (j+1) c'),tbL⟩,⟨g4,tbN cp0,tbL⟩,⟨g2,stP s v,stL⟩] [⟨.slice A' (j+1) c',23,1,j+1,us bal++fl [[Value.int .u64 (rj:Int)]]⟩]:=M.o
    rw[show us bal++fl [[Value.int .u64 (rj:Int)]]=us (bal ++ [bu])by rw[<-HBU.o];simp[us,fl,U.v]]at hM
    exact⟨j+1,bal ++ [bu],A',c',by omega,by go_num,by simp[HBX.o],hM⟩
   case measure=>simp[intOf];omega
  .obtain rfl:j=nb:=by omega
   obtain⟨q12,hq12,i12⟩:∃q:Nat,(k:Int) / 4096=(q:Int)/\q<=k:=⟨k / 4096,by simp,Nat.div_le_self _ _⟩;obtain⟨r12,e12,f12⟩:=AbL q12 16 (by decide) 16 rfl;have c12:(0:Int)<=(q12:Int):=(by omega);have d12:(0:Int)<=(r12:Int):=(by omega)
   go_upto_block 2 with(refine zLHd HVB ?_)
   go_cut []from 8 (fun wx=>∃(Γx:Gam) (A:Option Addr) (n c:Nat) (bl:List U),bl.length=n/\n<=100/\CapOk A n c/\SlG Γx A n (us bl)/\MM Γ w Γx wx [⟨g6,tbP cc (.slice A n c),tbL⟩,⟨g4,tbN cp0,tbL⟩,⟨g2,stP s v,stL⟩] [])
   case first=>
    rcases(by omega:r12=0\/r12=1\/2<=r12)with hr|hr|hr
    .subst hr
     (go_wp2_with (first|((with_reducible apply Aa7 M.o Aia);rfl;rfl;rfl;rfl;intro w' g M' hb';(replace M:=bx M';clear M');clear hb';refine zNM ?_)|(at_builtin;(with_reducible apply AaU M.o Aia);rfl;exact One.v rfl;(unfold maxLen;omega);omega;rfl;rfl;rfl;rfl;intro A' c' w' M';(replace M:=bx M';clear M'))|(refine zS1d M 0 (.slice A' (j+1) c') (tbP cc (.slice A' (j+1) c')) ?_;clear M;intro w' M)|refine zLAd ?_))
     go_meet
     case rel=>
      obtain⟨Γ',h1,h2,h3,h4⟩:=M.o.frz
      have h2:SlG Γ' A' (j+1) (us bal++fl [[Value.int .u64 1]]):=h2
      rw[show us bal++fl [[Value.int .u64 1]]=us (bal ++ [⟨1,by decide⟩])by simp[us,fl,U.v]]at h2
      exact⟨Γ',A',j+1,c',bal ++ [⟨1,by decide⟩],by simp[HBX.o],by omega,h1,h2,h4⟩
    .subst hr
     have hj0:(0:Int)<(j:Int):=by omega
     obtain⟨g,rest,rfl,hcap,hM⟩:=M.o.rowL (by omega)
     have hbl:=HBX.o
     obtain⟨b0,bt,rfl⟩:∃b0 bt,bal=b0::bt:=by
      cases bal with
      |nil=>simp at hbl;omega
      |cons b0 bt=>exact⟨b0,bt,rfl⟩
     have hM2:=hM.regr (P':=[[.int .u64 (b0.n:Int)],us bt,rest]) (ls':=[1,(us bt).length,rest.length]) (by simp[fl,us,U.v]) rfl
     clear M hM
     have M:=bx hM2
     have HCP:=bx hcap
     clear hM2 hcap hbl
     (go_wp2_with (first|(refine zS1d M 0 (.int .u64 4611686018427387904) [[.int .u64 4611686018427387904],us bt,rest] ?_;clear M;intro w' M)|refine zLAd ?_))
     go_meet
     case rel=>
      obtain⟨Γ',h1,h3,h4⟩:=M.o.frzL
      refine⟨Γ',some ⟨g,0,none⟩,j,c0,⟨4611686018427387904,by decide⟩::bt,by rw[<-HBX.o];rfl,by omega,HCP.o,fun _=>⟨g,rest,rfl,?_⟩,h4⟩
      rw[h1];simp[fl,us,U.v]
    .have h0:((r12:Int)==0)=false:=by rw[beq_eq_false_iff_ne];omega
     have h1:((r12:Int)==1)=false:=by rw[beq_eq_false_iff_ne];omega
     (go_wp2_with (fail))
     go_meet
     case rel=>
      obtain⟨Γ',h1,h2,h3,h4⟩:=M.o.frz
      exact⟨Γ',A0,j,c0,bal,HBX.o,by omega,h1,h2,h4⟩
   clear M
   obtain⟨Γx,A,n,c,bl,hn,hn2,hcap,hsl,hM⟩:=hcut
   have M:=bx hM
   have HB2:=bx (And.intro hn (And.intro hn2 (And.intro hcap hsl)))
   clear hM hn hn2 hcap hsl
   (go_wp2_with (first|(refine zSSd M 1 (tbP cc (.slice A n c)) (tbP cc (.slice A n c)) (AaS _ _) (Aeo _ _ _ _) ?_;clear M;intro w' M)|refine zLAd ?_))
   refine zR M.o.at1 ?_
   obtain⟨hn,hn2,hcap,hsl⟩:=HB2.o
   exact⟨⟨cc,bl⟩,⟨A,n,c⟩,Γx,rfl,⟨hn.symm,hcap,hsl⟩,by show bl.length<=100;omega,M.o.ext⟩
structure OpK(Γ:Gam)(o:OpD)(x:OpS):Prop where
 kind:1<=o.kind/\o.kind<=6
 a:SlR Γ x.a o.a.l.length (ints .i64 o.a.l)
 s1:SlR Γ x.s1 o.s.a.l.length (ints .i64 o.s.a.l)
 s2:SlR Γ x.s2 o.s.b.l.length (ints .i64 o.s.b.l)
 t:SlR Γ x.t o.t.b.length (us o.t.b)
 la:o.a.l.length<=100
 l1:o.s.a.l.length<=100
 l2:o.s.b.l.length<=100
 lt:o.t.b.length<=100
 rb:RtOk o.b.root
theorem OpK.mono{Γ Γ':Gam}{o:OpD}{x:OpS}(h:OpK Γ o x)(hl:Le Γ Γ'):OpK Γ' o x:=⟨h.kind,h.a.mono hl,h.s1.mono hl,h.s2.mono hl,h.t.mono hl,h.la,h.l1,h.l2,h.lt,h.rb⟩
theorem Ajm{Γ:Gam}{s:Sl}{n:Nat}{xs:List Value}(h:SlR Γ s n xs)(hn:n<=4000):∃A c,s=⟨A,n,c⟩/\SlG Γ A n xs/\n<=4000:=by
 obtain⟨A,m,c⟩:=s
 obtain rfl:m=n:=h.n
 exact⟨A,c,rfl,h.sl,hn⟩
theorem OpK.r{Γ:Gam}{o:OpD}{x:OpS}(h:OpK Γ o x):OpR Γ o x:=⟨Ajm h.a (by have:=h.la;omega),Ajm h.s1 (by have:=h.l1;omega),Ajm h.s2 (by have:=h.l2;omega),Ajm h.t (by have:=h.lt;omega)⟩
theorem VerP.mono{Γ:Gam}{w:World}{k k':Nat}{e:Ending}{w':World}(h:VerP Γ w k e w')(hk:k<=k'):VerP Γ w k' e w':=by
 obtain⟨z',x',Γ',er,h1,h2,h3,h4⟩:=h
 exact⟨z',x',Γ',er,h1,h2,fun h=>(h3 h).more hk,h4⟩
theorem VerP.mk{Γ Γ':Gam}{w w':World}{k:Nat}(z':Zst)(x':Zls)(er:Int)(h:ZsG Γ' x' z')(h1:er=0\/er=21->ZI k z')(hx:Ext Γ w Γ' w'):VerP Γ w k (.returned (.tuple #[.agg (fl (zsP z' x')).toArray,.int .i64 er])) w':=⟨z',x',Γ',er,rfl,h,h1,hx⟩
theorem ZsG.sto{Γ Γ':Gam}{x:Zls}{z:Zst}(h:ZsG Γ x z)(hl:Le Γ Γ'){s:Sto}{v:Sls}(hs:StG Γ' v s):ZsG Γ' {x with s:=v} {z with s:=s}:=⟨hs,h.reqs.mono hl,h.rets.mono hl⟩
def StoO(Γ:Gam)(w:World)(k:Nat)(e:Ending)(w':World):Prop:=∃(er:Int) (s':Sto) (v':Sls) (Γ':Gam),e=.returned (.tuple #[.agg (fl (stP s' v')).toArray,.int .i64 er])/\StG Γ' v' s'/\Ext Γ w Γ' w'/\(er=0->SI k s')/\er≠21
theorem StoO.of{Γ:Gam}{w:World}{k:Nat}{er:Int}{s':Sto}{e:Ending}{w':World}(h:StE Γ w er s' e w')(h0:er=0->SI k s')(h1:er≠21):StoO Γ w k e w':=by
 obtain⟨v,Γ',h2,h3,h4⟩:=h
 exact⟨er,s',v,Γ',h2,h3,h4,h0,h1⟩
theorem Ajl(b:List U)(v:Int):tbE b v≠21:=by
 unfold tbE valE
 split
 .split<;>decide
 .decide
theorem Alw(T:List Tbl)(t:Tbl)(v lim:Int):(regM T t v lim).1≠21:=by
 unfold regM
 split
 .exact Ajl _ _
 .split
  .exact(by decide:(9:Int)≠21)
  .split
   .exact(by decide:(11:Int)≠21)
   .exact(by decide:(0:Int)≠21)
theorem Ant(s:Sto)(t:Tbl):(regS s t).1≠21:=by
 unfold regS
 split
 .exact Ajl _ _
 .split
  .exact(by decide:(13:Int)≠21)
  .split
   .exact Alw _ _ _ _
   .exact(by decide:(0:Int)≠21)
theorem AiA{k:Nat}(hk:k<=30)(Γ:Gam)(z:Zst)(x:Zls)(o:OpD)(y:OpS)(hz:ZI k z)(ho:OpK Γ o y)(h1:o.kind=1)(w:World)(ok:Ok Γ w)(h:ZsG Γ x z) :
  Calls Tryz.prog 95 #[.agg (fl (zsP z x)).toArray,.agg (fl (opP o y)).toArray] w (VerP Γ w (k+1)):=by
 have M:=bx (MM.start ok)
 have HZ:=bx hz
 have HG:=bx h
 have TK:=bx (fun w ok=>Ang Γ z.s x.s hz.s w ok h.s)
 have b1:(o.kind==1)=true:=by rw[h1];rfl
 clear ok h hz h1 ho
 go_enter Tryz.func95,Tryz.ntmps95;(go_wp2_with (first|((first|refine zBXd ?_|refine zALd (ztZs) ?_);clear M;intro w' g M)|(refine zSSd M 0 (zsP z x) (zsP z x) (AaH _ _) (AaP _ _) ?_;clear M;intro w' M)|refine zLAd ?_))
 refine(TK.o _ M.ok).mono ?_
 rintro e1 w1 ⟨er,s',⟨v',Γ1,rfl,hs,hx⟩,hsi,h21⟩
 replace M:=bx (M.o.call hx)
 have HG1:=bx (HG.o.sto hx.le hs)
 have HSI:=bx hsi
 clear hx hs hsi TK
 by_cases he:er=0
 .subst he
  obtain⟨z1,hz1⟩:∃z1:Zst,z1 = {z with s:=s'}:=⟨_,rfl⟩
  obtain⟨x1,hx1⟩:∃x1:Zls,x1 = {x with s:=v'}:=⟨_,rfl⟩
  rw[<-hz1,<-hx1]at HG1
  have HZ2:Bx (ZI (k+1) z1):=⟨by rw[hz1];exact(HZ.o.more (Nat.le_succ k)).store (HSI.o rfl)⟩
  have LN1:Bx (z1.reqs.length<=40*k/\z1.rets.length<=k):=⟨by rw[hz1];exact⟨HZ.o.nreq,HZ.o.nret⟩⟩
  clear HSI HG HZ
  have DR:=bx (fun w ok=>AkQ Γ1 z1 x1 w ok HG1.o (by have:=LN1.o;omega) (by have:=LN1.o;omega))
  have HZ3:=bx (HZ2.o.drop)
  have LN3:Bx ((dropZ z1).reqs.length<=40*k/\(dropZ z1).rets.length<=k):=⟨Nat.le_trans (AeQ _ _) LN1.o.1,Nat.le_trans (AeQ _ _) LN1.o.2⟩
  clear HG1 HZ2 LN1
  generalize hz3:dropZ z1=z3 at *
  clear hz3
  (go_wp2_with (first|(refine zSSd M 0 (stP s' v') (zsP {z with s:=s'} {x with s:=v'}) (AaD _ _) (Aaa _ _) ?_;clear M;intro w' M)|refine zLAd ?_))
  rw[<-hz1,<-hx1]
  refine(DR.o _ M.ok).mono ?_
  rintro e1 w1 ⟨x3,Γ3,rfl,hz3,hx⟩
  replace M:=bx (M.o.call hx)
  have HG3:=bx hz3
  clear hx hz3 DR
  have DU:=bx (fun w ok=>Apr Γ3 z3 x3 w ok HG3.o (by have:=LN3.o;omega) (by have:=LN3.o;omega))
  have HZ4:=bx (HZ3.o.due LN3.o.1 LN3.o.2 (by omega))
  generalize dueZ z3=z4 at *
  clear HZ3 LN3 HG3
  (go_wp2_with (fail))
  refine(DU.o _ M.ok).mono ?_
  rintro e1 w1 ⟨x4,Γ4,rfl,hz4,hx⟩
  replace M:=bx (M.o.call hx)
  have HG4:=bx hz4
  clear hx hz4 DU
  (go_wp2_with (first|((first|refine zSSd M 0 (zsP z4 x4) (zsP z4 x4) (AaH _ _) (AaP _ _) ?_|refine zSSd M 1 (zsP z4 x4) (zsP z4 x4) (AaH _ _) (AaP _ _) ?_);clear M;intro w' M)|refine zLAd ?_))
  refine zRt M.o.at1 ?_
  exact VerP.mk z4 x4 0 HG4.o (fun _=>HZ4.o) M.o.ext
 .have b0:(er==0)=false:=beq_eq_false_iff_ne.2 he
  (go_wp2_with (first|((first|refine zSSd M 1 (zsP {z with s:=s'} {x with s:=v'}) (zsP {z with s:=s'} {x with s:=v'}) (AaH _ _) (AaP _ _) ?_|refine zSSd M 0 (stP s' v') (zsP {z with s:=s'} {x with s:=v'}) (AaD _ _) (Aaa _ _) ?_);clear M;intro w' M)|refine zLAd ?_));refine zRt M.o.at1 ?_
  exact VerP.mk _ _ er HG1.o (fun h=>h.elim (fun h=>absurd h he) fun h=>absurd h h21) M.o.ext
theorem AhD{k:Nat}(hk:k<=30)(Γ:Gam)(z:Zst)(x:Zls)(o:OpD)(y:OpS)(hz:ZI k z)(ho:OpK Γ o y)(h1:o.kind=2)(w:World)(ok:Ok Γ w)(h:ZsG Γ x z) :
  Calls Tryz.prog 95 #[.agg (fl (zsP z x)).toArray,.agg (fl (opP o y)).toArray] w (VerP Γ w (k+1)):=by
 have M:=bx (MM.start ok)
 have HZ:=bx hz
 have HG:=bx h
 have TK:=bx (fun w ok=>AnN Γ z.s x.s o.b hz.s ho.rb w ok h.s)
 have b1:(o.kind==1)=false:=by rw[h1];rfl
 have b2:(o.kind==2)=true:=by rw[h1];rfl
 clear ok h hz h1 ho
 go_enter Tryz.func95,Tryz.ntmps95;(go_wp2_with (first|((first|refine zBXd ?_|refine zALd (ztZs) ?_);clear M;intro w' g M)|(refine zSSd M 0 (zsP z x) (zsP z x) (AaH _ _) (AaP _ _) ?_;clear M;intro w' M)|refine zLAd ?_))
 refine(TK.o _ M.ok).mono ?_
 rintro e1 w1 ⟨er,s',l,⟨v',Al,cl,Γ1,rfl,hs,hca,hsl,hx⟩,hsi,h21⟩
 replace M:=bx (M.o.call hx)
 have HG1:=bx (HG.o.sto hx.le hs)
 have HSI:=bx hsi
 have HSL:=bx hsl
 clear hx hs hsi TK hca hsl
 by_cases he:er=0
 .subst he
  obtain⟨z1,hz1⟩:∃z1:Zst,z1 = {z with s:=s'}:=⟨_,rfl⟩
  obtain⟨x1,hx1⟩:∃x1:Zls,x1 = {x with s:=v'}:=⟨_,rfl⟩
  rw[<-hz1,<-hx1]at HG1
  have HZ2:Bx (ZI k z1):=⟨by rw[hz1];exact HZ.o.store (HSI.o rfl).1⟩
  have hl9:l.length<=9:=(HSI.o rfl).2.1
  clear HSI HG HZ
  have DR:=bx (fun w ok=>AkQ Γ1 z1 x1 w ok HG1.o (by have:=HZ2.o.nreq;omega) (by have:=HZ2.o.nret;omega))
  have HZ3:=bx (HZ2.o.drop)
  clear HG1 HZ2
  generalize hz3:dropZ z1=z3 at *
  clear hz3
  (go_wp2_with (first|(refine zSSd M 0 (stP s' v') (zsP {z with s:=s'} {x with s:=v'}) (AaD _ _) (Aaa _ _) ?_;clear M;intro w' M)|refine zLAd ?_))
  rw[<-hz1,<-hx1]
  refine(DR.o _ M.ok).mono ?_
  rintro e1 w1 ⟨x3,Γ3,rfl,hz3,hx⟩
  replace M:=bx (M.o.call hx)
  have HG3:=bx hz3
  have HSL3:=bx (HSL.o.mono hx.le)
  clear hx hz3 DR HSL
  have DU:=bx (fun w ok=>AjI Γ3 z3 x3 Al cl l w ok HG3.o HSL3.o (by have:=HZ3.o.nreq;omega) (by omega))
  have HZ4:=bx (HZ3.o.opens hl9)
  generalize opTo z3 l=z4 at *
  clear HZ3 HG3
  (go_wp2_with (fail))
  refine(DU.o _ M.ok).mono ?_
  rintro e1 w1 ⟨x4,Γ4,rfl,hz4,hx⟩
  replace M:=bx (M.o.call hx)
  have HG4:=bx hz4
  clear hx hz4 DU
  (go_wp2_with (first|((first|refine zSSd M 0 (zsP z4 x4) (zsP z4 x4) (AaH _ _) (AaP _ _) ?_|refine zSSd M 1 (zsP z4 x4) (zsP z4 x4) (AaH _ _) (AaP _ _) ?_);clear M;intro w' M)|refine zLAd ?_))
  refine zRt M.o.at1 ?_
  exact VerP.mk z4 x4 0 HG4.o (fun _=>HZ4.o) M.o.ext
 .have b0:(er==0)=false:=beq_eq_false_iff_ne.2 he
  (go_wp2_with (first|((first|refine zSSd M 1 (zsP {z with s:=s'} {x with s:=v'}) (zsP {z with s:=s'} {x with s:=v'}) (AaH _ _) (AaP _ _) ?_|refine zSSd M 0 (stP s' v') (zsP {z with s:=s'} {x with s:=v'}) (AaD _ _) (Aaa _ _) ?_);clear M;intro w' M)|refine zLAd ?_));refine zRt M.o.at1 ?_
  exact VerP.mk _ _ er HG1.o (fun h=>h.elim (fun h=>absurd h he) fun h=>absurd h h21) M.o.ext
theorem AjD{k:Nat}(hk:k<=30)(Γ:Gam)(z:Zst)(x:Zls)(o:OpD)(y:OpS)(hz:ZI k z)(ho:OpK Γ o y)(h1:o.kind=3)(w:World)(ok:Ok Γ w)(h:ZsG Γ x z) :
  Calls Tryz.prog 95 #[.agg (fl (zsP z x)).toArray,.agg (fl (opP o y)).toArray] w (VerP Γ w (k+1)):=by
 have M:=bx (MM.start ok)
 have HZ:=bx hz
 have HG:=bx h
 have TK:Bx (∀w,Ok Γ w->Calls Tryz.prog 130 #[.agg (fl (stP z.s x.s)).toArray,.agg (fl (atP o.a y.a)).toArray] w (StoO Γ w (k+1))):=⟨fun w ok=>by
  have l1:=ho.la
  have l2:=hz.s.nl;have l3:=hz.s.bal;have l4:=hz.s.lat;have l5:=hz.s.el
  refine(AlW Γ z.s x.s o.a y.a hz.s.spe hz.s.t.lk (by omega) (by omega) hz.s.lat (by omega) (by omega) w ok h.s ho.a).mono ?_
  rintro e w' (⟨er,e0,e21,hE⟩|⟨hv,hE|⟨hr,hE⟩⟩)
  .exact StoO.of hE (fun e=>absurd e e0) e21
  .exact StoO.of hE (fun _=>(Aq8 hz.s).more (Nat.le_succ k)) (by decide)
  .exact StoO.of hE (fun _=>(AoM hz.s (by omega) hr).more (Nat.le_succ k)) (by decide)⟩
 have b1:(o.kind==1)=false:=by rw[h1];rfl
 have b2:(o.kind==2)=false:=by rw[h1];rfl
 have b3:(o.kind==3)=true:=by rw[h1];rfl
 clear ok h hz h1 ho
 go_enter Tryz.func95,Tryz.ntmps95;(go_wp2_with (first|((first|refine zBXd ?_|refine zALd (ztZs) ?_);clear M;intro w' g M)|(refine zSSd M 0 (zsP z x) (zsP z x) (AaH _ _) (AaP _ _) ?_;clear M;intro w' M)|refine zLAd ?_))
 refine(TK.o _ M.ok).mono ?_
 rintro e1 w1 ⟨er,s',v',Γ1,rfl,hs,hx,hsi,h21⟩
 replace M:=bx (M.o.call hx)
 have HG1:=bx (HG.o.sto hx.le hs)
 have HZ2:Bx (er=0->ZI (k+1) {z with s:=s'}):=⟨fun e=>(HZ.o.more (Nat.le_succ k)).store (hsi e)⟩
 clear hx hs TK hsi
 (go_wp2_with (first|((first|refine zSSd M 1 (zsP {z with s:=s'} {x with s:=v'}) (zsP {z with s:=s'} {x with s:=v'}) (AaH _ _) (AaP _ _) ?_|refine zSSd M 0 (stP s' v') (zsP {z with s:=s'} {x with s:=v'}) (AaD _ _) (Aaa _ _) ?_);clear M;intro w' M)|refine zLAd ?_));refine zRt M.o.at1 ?_
 exact VerP.mk _ _ er HG1.o (fun h=>h.elim HZ2.o fun h=>absurd h h21) M.o.ext
theorem AhC{k:Nat}(hk:k<=30)(Γ:Gam)(z:Zst)(x:Zls)(o:OpD)(y:OpS)(hz:ZI k z)(ho:OpK Γ o y)(h1:o.kind=4)(w:World)(ok:Ok Γ w)(h:ZsG Γ x z) :
  Calls Tryz.prog 95 #[.agg (fl (zsP z x)).toArray,.agg (fl (opP o y)).toArray] w (VerP Γ w (k+1)):=by
 have M:=bx (MM.start ok)
 have HZ:=bx hz
 have HG:=bx h
 have TK:Bx (∀w,Ok Γ w->Calls Tryz.prog 131 #[.agg (fl (stP z.s x.s)).toArray,.agg (fl (slP o.s y.s1 y.s2)).toArray] w (StoO Γ w (k+1))):=⟨fun w ok=>by
  have l1:=ho.l1;have l2:=ho.l2;have l3:=hz.s.eqv
  refine(Alr Γ z.s x.s o.s y.s1 y.s2 w ok h.s ⟨ho.s1,ho.s2⟩ (by omega) (by omega) (by omega)).mono ?_
  rintro e w' (⟨er,e0,e21,hE⟩|⟨hv,_,hE⟩)
  .exact StoO.of hE (fun e=>absurd e e0) e21
  .exact StoO.of hE (fun _=>Ank hz.s l1 hv) (by decide)⟩
 have b1:(o.kind==1)=false:=by rw[h1];rfl
 have b2:(o.kind==2)=false:=by rw[h1];rfl
 have b3:(o.kind==3)=false:=by rw[h1];rfl
 have b4:(o.kind==4)=true:=by rw[h1];rfl
 clear ok h hz h1 ho
 go_enter Tryz.func95,Tryz.ntmps95;(go_wp2_with (first|((first|refine zBXd ?_|refine zALd (ztZs) ?_);clear M;intro w' g M)|(refine zSSd M 0 (zsP z x) (zsP z x) (AaH _ _) (AaP _ _) ?_;clear M;intro w' M)|refine zLAd ?_))
 refine(TK.o _ M.ok).mono ?_
 rintro e1 w1 ⟨er,s',v',Γ1,rfl,hs,hx,hsi,h21⟩
 replace M:=bx (M.o.call hx)
 have HG1:=bx (HG.o.sto hx.le hs)
 have HZ2:Bx (er=0->ZI (k+1) {z with s:=s'}):=⟨fun e=>(HZ.o.more (Nat.le_succ k)).store (hsi e)⟩
 clear hx hs TK hsi
 (go_wp2_with (first|((first|refine zSSd M 1 (zsP {z with s:=s'} {x with s:=v'}) (zsP {z with s:=s'} {x with s:=v'}) (AaH _ _) (AaP _ _) ?_|refine zSSd M 0 (stP s' v') (zsP {z with s:=s'} {x with s:=v'}) (AaD _ _) (Aaa _ _) ?_);clear M;intro w' M)|refine zLAd ?_));refine zRt M.o.at1 ?_
 exact VerP.mk _ _ er HG1.o (fun h=>h.elim HZ2.o fun h=>absurd h h21) M.o.ext
theorem AjC{k:Nat}(hk:k<=30)(Γ:Gam)(z:Zst)(x:Zls)(o:OpD)(y:OpS)(hz:ZI k z)(ho:OpK Γ o y)(h1:o.kind=5)(w:World)(ok:Ok Γ w)(h:ZsG Γ x z) :
  Calls Tryz.prog 95 #[.agg (fl (zsP z x)).toArray,.agg (fl (opP o y)).toArray] w (VerP Γ w (k+1)):=by
 have M:=bx (MM.start ok)
 have HZ:=bx hz
 have HG:=bx h
 have TK:Bx (∀w,Ok Γ w->Calls Tryz.prog 132 #[.agg (fl (stP z.s x.s)).toArray,.agg (fl (tbP o.t.c y.t.v)).toArray] w (StoO Γ w (k+1))):=⟨fun w ok=>by
  have l1:=ho.lt;have l2:=hz.s.tl
  refine(Ah2 Γ z.s x.s o.t y.t (by omega) (by omega) w ok h.s ho.t).mono fun e w' hE=>?_
  exact StoO.of hE (fun e=>(AqY hz.s e).more (Nat.le_succ k)) (Ant _ _)⟩
 have b1:(o.kind==1)=false:=by rw[h1];rfl
 have b2:(o.kind==2)=false:=by rw[h1];rfl
 have b3:(o.kind==3)=false:=by rw[h1];rfl
 have b4:(o.kind==4)=false:=by rw[h1];rfl
 have b5:(o.kind==5)=true:=by rw[h1];rfl
 clear ok h hz h1 ho
 go_enter Tryz.func95,Tryz.ntmps95;(go_wp2_with (first|((first|refine zBXd ?_|refine zALd (ztZs) ?_);clear M;intro w' g M)|(refine zSSd M 0 (zsP z x) (zsP z x) (AaH _ _) (AaP _ _) ?_;clear M;intro w' M)|refine zLAd ?_))
 refine(TK.o _ M.ok).mono ?_
 rintro e1 w1 ⟨er,s',v',Γ1,rfl,hs,hx,hsi,h21⟩
 replace M:=bx (M.o.call hx)
 have HG1:=bx (HG.o.sto hx.le hs)
 have HZ2:Bx (er=0->ZI (k+1) {z with s:=s'}):=⟨fun e=>(HZ.o.more (Nat.le_succ k)).store (hsi e)⟩
 clear hx hs TK hsi
 (go_wp2_with (first|((first|refine zSSd M 1 (zsP {z with s:=s'} {x with s:=v'}) (zsP {z with s:=s'} {x with s:=v'}) (AaH _ _) (AaP _ _) ?_|refine zSSd M 0 (stP s' v') (zsP {z with s:=s'} {x with s:=v'}) (AaD _ _) (Aaa _ _) ?_);clear M;intro w' M)|refine zLAd ?_));refine zRt M.o.at1 ?_
 exact VerP.mk _ _ er HG1.o (fun h=>h.elim HZ2.o fun h=>absurd h h21) M.o.ext
theorem AjB{k:Nat}(hk:k<=30)(Γ:Gam)(z:Zst)(x:Zls)(o:OpD)(y:OpS)(hz:ZI k z)(ho:OpK Γ o y)(h1:o.kind=6)(w:World)(ok:Ok Γ w)(h:ZsG Γ x z) :
  Calls Tryz.prog 95 #[.agg (fl (zsP z x)).toArray,.agg (fl (opP o y)).toArray] w (VerP Γ w (k+1)):=by
 have M:=bx (MM.start ok)
 have HZ:=bx hz
 have HG:=bx h
 have TK:=bx (fun w ok=>Aiw (k:=k) (by omega) Γ z x o.v hz w ok h)
 have b1:(o.kind==1)=false:=by rw[h1];rfl
 have b2:(o.kind==2)=false:=by rw[h1];rfl
 have b3:(o.kind==3)=false:=by rw[h1];rfl
 have b4:(o.kind==4)=false:=by rw[h1];rfl
 have b5:(o.kind==5)=false:=by rw[h1];rfl
 have b6:(o.kind==6)=true:=by rw[h1];rfl
 clear ok h hz h1 ho
 go_enter Tryz.func95,Tryz.ntmps95;(go_wp2_with (first|((first|refine zBXd ?_|refine zALd (ztZs) ?_);clear M;intro w' g M)|(refine zSSd M 0 (zsP z x) (zsP z x) (AaH _ _) (AaP _ _) ?_;clear M;intro w' M)|refine zLAd ?_))
 refine(TK.o _ M.ok).mono ?_
 rintro e1 w1 ⟨z',x',Γ',er,rfl,hg,hzi,hx⟩
 replace M:=bx (M.o.call hx)
 have HG1:=bx hg
 have HZ1:=bx hzi
 clear hx hg hzi TK
 (go_wp2_with (first|(refine zSSd M 1 (zsP z' x') (zsP z' x') (AaH _ _) (AaP _ _) ?_;clear M;intro w' M)|refine zLAd ?_))
 refine zRt M.o.at1 ?_
 exact VerP.mk z' x' er HG1.o HZ1.o M.o.ext
theorem AjE{k:Nat}(hk:k<=30)(Γ:Gam)(z:Zst)(x:Zls)(o:OpD)(y:OpS)(hz:ZI k z)(ho:OpK Γ o y)(w:World)(ok:Ok Γ w)(h:ZsG Γ x z) :
  Calls Tryz.prog 95 #[.agg (fl (zsP z x)).toArray,.agg (fl (opP o y)).toArray] w (VerP Γ w (k+1)):=by
 have hkd:=ho.kind
 rcases(by omega:o.kind=1\/o.kind=2\/o.kind=3\/o.kind=4\/o.kind=5\/o.kind=6)with e|e|e|e|e|e
 .exact AiA hk Γ z x o y hz ho e w ok h
 .exact AhD hk Γ z x o y hz ho e w ok h
 .exact AjD hk Γ z x o y hz ho e w ok h
 .exact AhC hk Γ z x o y hz ho e w ok h
 .exact AjC hk Γ z x o y hz ho e w ok h
 .exact AjB hk Γ z x o y hz ho e w ok h
abbrev opB(b:Blk):OpD:={op0 2 with b:=b}
abbrev opA(a:Att):OpD:={op0 3 with a:=a}
abbrev opSl(s:Slh):OpD:={op0 4 with s:=s}
abbrev opT(t:Tbl):OpD:={op0 5 with t:=t}
abbrev opV(v:Vd):OpD:={op0 6 with v:=v}
theorem Adj(b:Blk):Tryz.prog.built 125 [(0,.int .i64 2),(1,.agg (blx b).toArray)]=some (fl (opP (opB b) os0)).toArray:=by
 rw[stOp.eq]
 refine AaG (Q:=[[.int .i64 2]]) stOp.len rfl rfl rfl rfl rfl fun hl=>?_
 refine AaG (Q:=blP b) hl rfl rfl rfl (AaZ b) rfl fun hl=>?_
 rfl
theorem AgA(a:Att)(s:Sl):Tryz.prog.built 125 [(0,.int .i64 3),(2,.agg (fl (atP a s)).toArray)]=some (fl (opP (opA a) {os0 with a:=s})).toArray:=by
 rw[stOp.eq]
 refine AaG (Q:=[[.int .i64 3]]) stOp.len rfl rfl rfl rfl rfl fun hl=>?_
 refine AaG (Q:=atP a s) hl rfl rfl rfl (AbB _ _) rfl fun hl=>?_
 rfl
theorem AnF(x:Slh)(s t:Sl):Tryz.prog.built 125 [(0,.int .i64 4),(3,.agg (fl (slP x s t)).toArray)]=some (fl (opP (opSl x) {os0 with s1:=s,s2:=t})).toArray:=by
 rw[stOp.eq]
 refine AaG (Q:=[[.int .i64 4]]) stOp.len rfl rfl rfl rfl rfl fun hl=>?_
 refine AaG (Q:=slP x s t) hl rfl rfl rfl (AdY _ _ _) rfl fun hl=>?_
 rfl
theorem AnE(t:Tbl)(s:Sl):Tryz.prog.built 125 [(0,.int .i64 5),(4,.agg (fl (tbP t.c s.v)).toArray)]=some (fl (opP (opT t) {os0 with t:=s})).toArray:=by
 rw[stOp.eq]
 refine AaG (Q:=[[.int .i64 5]]) stOp.len rfl rfl rfl rfl rfl fun hl=>?_
 refine AaG (Q:=tbP t.c s.v) hl rfl rfl rfl (AaS _ _) rfl fun hl=>?_
 rfl
theorem Af9(v:Vd):Tryz.prog.built 125 [(0,.int .i64 6),(5,.agg (fl (vdP v)).toArray)]=some (fl (opP (opV v) os0)).toArray:=by
 rw[stOp.eq]
 refine AaG (Q:=[[.int .i64 6]]) stOp.len rfl rfl rfl rfl rfl fun hl=>?_
 refine AaG (Q:=vdP v) hl rfl rfl rfl (Abe _) rfl fun hl=>?_
 rfl
theorem opK0(Γ:Gam){k:Int}(hk:1<=k/\k<=6):OpK Γ (op0 k) os0:=⟨hk,slR0 Γ,slR0 Γ,slR0 Γ,slR0 Γ,Nat.zero_le _,Nat.zero_le _,Nat.zero_le _,Nat.zero_le _,by show b0.root.l.getD 1 0≠11;decide⟩
def OppP(Γ:Gam)(w:World)(e:Ending)(w':World):Prop:=∃(o:OpD) (y:OpS) (Γ':Gam),e=.returned (.agg (fl (opP o y)).toArray)/\OpK Γ' o y/\Ext Γ w Γ' w'
theorem Apc{i:Nat}(Γ:Gam)(z:Zst)(x:Zls)(n k:Nat)(hn:n<=100000)(hrn:RtOk (rtB (n:Int)))(hk:k<=100000000)(hz:ZI i z)(w:World)(ok:Ok Γ w)(h:ZsG Γ x z) :
  Calls Tryz.prog 51 #[.agg (fl (zsP z x)).toArray,.int .i64 n,.int .i64 k] w (OppP Γ w):=by
 have M:=bx (MM.start ok)
 obtain⟨q,hq,iq⟩:∃q:Nat,(k:Int) / 16=(q:Int)/\q<=k:=⟨k / 16,by simp,Nat.div_le_self _ _⟩
 have hq8:q<=100000000:=by omega
 have hL:=hz.s.t.lk
 have hpos:0<z.s.nodes.length:=by obtain⟨j,hj,_⟩:=hz.s.just;omega
 have hb:z.s.nodes.length<=4096:=by have:=hz.s.nl;omega
 have hsp:0<z.s.c.spe.n:=hz.s.cf.spe.1
 have hrt:=hz.s.rtn
 have hbn:x.s.bal.n=z.s.bal.length:=h.s.bal.n
 have hbl:=hz.s.bal
 have BK:=bx (fun w ok=>AlU Γ z.s x.s n q hn hq8 hL hpos hb hsp hrn hrt w ok h.s)
 have AT:=bx (fun w ok=>Aon Γ z.s x.s q hq8 hL hpos hb (by omega) hsp w ok h.s)
 have SL:=bx (fun w ok=>Ak2 Γ x.s.bal.n q (by omega) hq8 w ok)
 have TB:=bx (fun w ok=>Akx Γ z.s x.s q hq8 hL hpos hb (by omega) hsp w ok h.s)
 have VD:=bx (fun w ok=>Ane Γ z x q hq8 hL hpos hb w ok h)
 clear ok h hz hL hpos hb hsp hbn hbl hq8 iq
 obtain⟨r,er,fr⟩:=AbL k 16 (by decide) 16 rfl
 have hki:(k:Int)<=100000000:=by omega
 have hk0:(0:Int)<=(k:Int):=by omega
 have hc0:(0:Int)<=(q:Int):=by omega
 rcases(by omega:r=0\/r=1\/r=2\/r=3\/r=4\/r=5\/r=6\/r=7\/r=8\/r=9\/r=10\/r=11\/r=12\/r=13\/r=14\/r=15)with hr|hr|hr|hr|hr|hr|hr|hr|hr|hr|hr|hr|hr|hr|hr|hr
 .subst hr;(go_enter Tryz.func51,Tryz.ntmps51);((go_wp2_with (first|((first|refine zBXd ?_|refine zALd (ztOp) ?_);clear M;intro w' g M)|refine zBDd 125 [(0,.int .i64 1)] (fl (opP (op0 1) os0)) (AcI _) ?_|(refine zSSd M 0 (opP (op0 1) os0) (opP (op0 1) os0) (Aat _ _) (AbN _ _) ?_;clear M;intro w' M)|refine zLAd ?_)));(refine zR M.o.at0 ?_);exact⟨op0 1,os0,Γ,rfl,opK0 Γ (by decide),M.o.ext⟩
 .subst hr;(go_enter Tryz.func51,Tryz.ntmps51);((go_wp2_with (first|((first|refine zBXd ?_|refine zALd (ztOp) ?_);clear M;intro w' g M)|refine zBDd 125 [(0,.int .i64 1)] (fl (opP (op0 1) os0)) (AcI _) ?_|(refine zSSd M 0 (opP (op0 1) os0) (opP (op0 1) os0) (Aat _ _) (AbN _ _) ?_;clear M;intro w' M)|refine zLAd ?_)));(refine zR M.o.at0 ?_);exact⟨op0 1,os0,Γ,rfl,opK0 Γ (by decide),M.o.ext⟩
 .subst hr;(go_enter Tryz.func51,Tryz.ntmps51);((go_wp2_with (first|((first|refine zBXd ?_|refine zALd (ztOp) ?_);clear M;intro w' g M)|refine zBDd 125 [(0,.int .i64 1)] (fl (opP (op0 1) os0)) (AcI _) ?_|(refine zSSd M 0 (opP (op0 1) os0) (opP (op0 1) os0) (Aat _ _) (AbN _ _) ?_;clear M;intro w' M)|refine zLAd ?_)));(refine zR M.o.at0 ?_);exact⟨op0 1,os0,Γ,rfl,opK0 Γ (by decide),M.o.ext⟩
 .subst hr;(go_enter Tryz.func51,Tryz.ntmps51);((go_wp2_with (first|((first|refine zBXd ?_|refine zALd (ztOp) ?_);clear M;intro w' g M)|refine zLAd ?_)));(refine(BK.o _ M.ok).mono ?_);rintro e1 w1 ⟨b,rfl,hbr,hx⟩;replace M:=bx (M.o.call hx);have HBR:=bx hbr;clear hx hbr BK AT SL TB VD;((go_wp2_with (first|refine zBDd 125 [(0,.int .i64 2),(1,.agg (blx b).toArray)] (fl (opP (opB b) os0)) (Adj _) ?_|(refine zSSd M 0 (opP (opB b) os0) (opP (opB b) os0) (Aat _ _) (AbN _ _) ?_;clear M;intro w' M)|refine zLAd ?_)));(refine zR M.o.at0 ?_);exact⟨opB b,os0,Γ,rfl,{opK0 Γ (k:=2) (by decide)with rb:=HBR.o},M.o.ext⟩
 .subst hr;(go_enter Tryz.func51,Tryz.ntmps51);((go_wp2_with (first|((first|refine zBXd ?_|refine zALd (ztOp) ?_);clear M;intro w' g M)|refine zLAd ?_)));(refine(BK.o _ M.ok).mono ?_);rintro e1 w1 ⟨b,rfl,hbr,hx⟩;replace M:=bx (M.o.call hx);have HBR:=bx hbr;clear hx hbr BK AT SL TB VD;((go_wp2_with (first|refine zBDd 125 [(0,.int .i64 2),(1,.agg (blx b).toArray)] (fl (opP (opB b) os0)) (Adj _) ?_|(refine zSSd M 0 (opP (opB b) os0) (opP (opB b) os0) (Aat _ _) (AbN _ _) ?_;clear M;intro w' M)|refine zLAd ?_)));(refine zR M.o.at0 ?_);exact⟨opB b,os0,Γ,rfl,{opK0 Γ (k:=2) (by decide)with rb:=HBR.o},M.o.ext⟩
 .subst hr;(go_enter Tryz.func51,Tryz.ntmps51);((go_wp2_with (first|((first|refine zBXd ?_|refine zALd (ztOp) ?_);clear M;intro w' g M)|refine zLAd ?_)));(refine(BK.o _ M.ok).mono ?_);rintro e1 w1 ⟨b,rfl,hbr,hx⟩;replace M:=bx (M.o.call hx);have HBR:=bx hbr;clear hx hbr BK AT SL TB VD;((go_wp2_with (first|refine zBDd 125 [(0,.int .i64 2),(1,.agg (blx b).toArray)] (fl (opP (opB b) os0)) (Adj _) ?_|(refine zSSd M 0 (opP (opB b) os0) (opP (opB b) os0) (Aat _ _) (AbN _ _) ?_;clear M;intro w' M)|refine zLAd ?_)));(refine zR M.o.at0 ?_);exact⟨opB b,os0,Γ,rfl,{opK0 Γ (k:=2) (by decide)with rb:=HBR.o},M.o.ext⟩
 .subst hr;(go_enter Tryz.func51,Tryz.ntmps51);((go_wp2_with (first|((first|refine zBXd ?_|refine zALd (ztOp) ?_);clear M;intro w' g M)|refine zLAd ?_)));(refine(BK.o _ M.ok).mono ?_);rintro e1 w1 ⟨b,rfl,hbr,hx⟩;replace M:=bx (M.o.call hx);have HBR:=bx hbr;clear hx hbr BK AT SL TB VD;((go_wp2_with (first|refine zBDd 125 [(0,.int .i64 2),(1,.agg (blx b).toArray)] (fl (opP (opB b) os0)) (Adj _) ?_|(refine zSSd M 0 (opP (opB b) os0) (opP (opB b) os0) (Aat _ _) (AbN _ _) ?_;clear M;intro w' M)|refine zLAd ?_)));(refine zR M.o.at0 ?_);exact⟨opB b,os0,Γ,rfl,{opK0 Γ (k:=2) (by decide)with rb:=HBR.o},M.o.ext⟩
 .subst hr;(go_enter Tryz.func51,Tryz.ntmps51);((go_wp2_with (first|((first|refine zBXd ?_|refine zALd (ztOp) ?_);clear M;intro w' g M)|refine zLAd ?_)));(refine(BK.o _ M.ok).mono ?_);rintro e1 w1 ⟨b,rfl,hbr,hx⟩;replace M:=bx (M.o.call hx);have HBR:=bx hbr;clear hx hbr BK AT SL TB VD;((go_wp2_with (first|refine zBDd 125 [(0,.int .i64 2),(1,.agg (blx b).toArray)] (fl (opP (opB b) os0)) (Adj _) ?_|(refine zSSd M 0 (opP (opB b) os0) (opP (opB b) os0) (Aat _ _) (AbN _ _) ?_;clear M;intro w' M)|refine zLAd ?_)));(refine zR M.o.at0 ?_);exact⟨opB b,os0,Γ,rfl,{opK0 Γ (k:=2) (by decide)with rb:=HBR.o},M.o.ext⟩
 .subst hr;(go_enter Tryz.func51,Tryz.ntmps51);((go_wp2_with (first|((first|refine zBXd ?_|refine zALd (ztOp) ?_);clear M;intro w' g M)|refine zLAd ?_)));(refine(AT.o _ M.ok).mono ?_);rintro e1 w1 ⟨a,sl,Γ1,rfl,hs,hl,hx⟩;replace M:=bx (M.o.call hx);have HS:=bx (And.intro hs hl);clear hx hs hl BK AT SL TB VD;((go_wp2_with (first|refine zBDd 125 [(0,.int .i64 3),(2,.agg (fl (atP a sl)).toArray)] (fl (opP (opA a) {os0 with a:=sl})) (AgA _ _) ?_|(refine zSSd M 0 (opP (opA a) {os0 with a:=sl}) (opP (opA a) {os0 with a:=sl}) (Aat _ _) (AbN _ _) ?_;clear M;intro w' M)|refine zLAd ?_)));(refine zR M.o.at0 ?_);exact⟨opA a,{os0 with a:=sl},Γ1,rfl,{opK0 Γ1 (k:=3) (by decide)with a:=HS.o.1,la:=HS.o.2},M.o.ext⟩
 .subst hr;(go_enter Tryz.func51,Tryz.ntmps51);((go_wp2_with (first|((first|refine zBXd ?_|refine zALd (ztOp) ?_);clear M;intro w' g M)|refine zLAd ?_)));(refine(AT.o _ M.ok).mono ?_);rintro e1 w1 ⟨a,sl,Γ1,rfl,hs,hl,hx⟩;replace M:=bx (M.o.call hx);have HS:=bx (And.intro hs hl);clear hx hs hl BK AT SL TB VD;((go_wp2_with (first|refine zBDd 125 [(0,.int .i64 3),(2,.agg (fl (atP a sl)).toArray)] (fl (opP (opA a) {os0 with a:=sl})) (AgA _ _) ?_|(refine zSSd M 0 (opP (opA a) {os0 with a:=sl}) (opP (opA a) {os0 with a:=sl}) (Aat _ _) (AbN _ _) ?_;clear M;intro w' M)|refine zLAd ?_)));(refine zR M.o.at0 ?_);exact⟨opA a,{os0 with a:=sl},Γ1,rfl,{opK0 Γ1 (k:=3) (by decide)with a:=HS.o.1,la:=HS.o.2},M.o.ext⟩
 .subst hr;(go_enter Tryz.func51,Tryz.ntmps51);((go_wp2_with (first|((first|refine zBXd ?_|refine zALd (ztOp) ?_);clear M;intro w' g M)|refine zLAd ?_)));(refine(AT.o _ M.ok).mono ?_);rintro e1 w1 ⟨a,sl,Γ1,rfl,hs,hl,hx⟩;replace M:=bx (M.o.call hx);have HS:=bx (And.intro hs hl);clear hx hs hl BK AT SL TB VD;((go_wp2_with (first|refine zBDd 125 [(0,.int .i64 3),(2,.agg (fl (atP a sl)).toArray)] (fl (opP (opA a) {os0 with a:=sl})) (AgA _ _) ?_|(refine zSSd M 0 (opP (opA a) {os0 with a:=sl}) (opP (opA a) {os0 with a:=sl}) (Aat _ _) (AbN _ _) ?_;clear M;intro w' M)|refine zLAd ?_)));(refine zR M.o.at0 ?_);exact⟨opA a,{os0 with a:=sl},Γ1,rfl,{opK0 Γ1 (k:=3) (by decide)with a:=HS.o.1,la:=HS.o.2},M.o.ext⟩
 .subst hr;(go_enter Tryz.func51,Tryz.ntmps51);((go_wp2_with (first|((first|refine zBXd ?_|refine zALd (ztOp) ?_);clear M;intro w' g M)|refine zLAd ?_)));(refine(SL.o _ M.ok).mono ?_);rintro e1 w1 ⟨a,s1,s2,Γ1,rfl,hs,h1,h2,hx⟩;replace M:=bx (M.o.call hx);have HS:=bx (And.intro hs (And.intro h1 h2));clear hx hs h1 h2 BK AT SL TB VD;((go_wp2_with (first|refine zBDd 125 [(0,.int .i64 4),(3,.agg (fl (slP a s1 s2)).toArray)] (fl (opP (opSl a) {os0 with s1:=s1,s2:=s2})) (AnF _ _ _) ?_|(refine zSSd M 0 (opP (opSl a) {os0 with s1:=s1,s2:=s2}) (opP (opSl a) {os0 with s1:=s1,s2:=s2}) (Aat _ _) (AbN _ _) ?_;clear M;intro w' M)|refine zLAd ?_)));(refine zR M.o.at0 ?_);exact⟨opSl a,{os0 with s1:=s1,s2:=s2},Γ1,rfl,{opK0 Γ1 (k:=4) (by decide)with s1:=HS.o.1.a,s2:=HS.o.1.b,l1:=HS.o.2.1,l2:=HS.o.2.2},M.o.ext⟩
 .subst hr;(go_enter Tryz.func51,Tryz.ntmps51);((go_wp2_with (first|((first|refine zBXd ?_|refine zALd (ztOp) ?_);clear M;intro w' g M)|refine zLAd ?_)));(refine(TB.o _ M.ok).mono ?_);rintro e1 w1 ⟨a,sl,Γ1,rfl,hs,hl,hx⟩;replace M:=bx (M.o.call hx);have HS:=bx (And.intro hs hl);clear hx hs hl BK AT SL TB VD;((go_wp2_with (first|refine zBDd 125 [(0,.int .i64 5),(4,.agg (fl (tbP a.c sl.v)).toArray)] (fl (opP (opT a) {os0 with t:=sl})) (AnE _ _) ?_|(refine zSSd M 0 (opP (opT a) {os0 with t:=sl}) (opP (opT a) {os0 with t:=sl}) (Aat _ _) (AbN _ _) ?_;clear M;intro w' M)|refine zLAd ?_)));(refine zR M.o.at0 ?_);exact⟨opT a,{os0 with t:=sl},Γ1,rfl,{opK0 Γ1 (k:=5) (by decide)with t:=HS.o.1,lt:=HS.o.2},M.o.ext⟩
 skip
 rotate_left
 skip
 rotate_left
 skip
 all_goals
  subst hr;(go_enter Tryz.func51,Tryz.ntmps51);((go_wp2_with (first|((first|refine zBXd ?_|refine zALd (ztOp) ?_);clear M;intro w' g M)|refine zLAd ?_)));(refine(VD.o _ M.ok).mono ?_);rintro e1 w1 ⟨v,rfl,hx⟩;replace M:=bx (M.o.call hx);clear hx BK AT SL TB VD;((go_wp2_with (first|refine zBDd 125 [(0,.int .i64 6),(5,.agg (fl (vdP v)).toArray)] (fl (opP (opV v) os0)) (Af9 _) ?_|(refine zSSd M 0 (opP (opV v) os0) (opP (opV v) os0) (Aat _ _) (AbN _ _) ?_;clear M;intro w' M)|refine zLAd ?_)));(refine zR M.o.at0 ?_);exact⟨opV v,os0,Γ,rfl,{opK0 Γ (k:=6) (by decide)with},M.o.ext⟩
theorem StpP.nil{Γ Γ':Gam}{w w':World}{k:Nat}(z':Zst)(x':Zls)(er:Int)(h:ZsG Γ' x' z')(h1:ZI k z')(hx:Ext Γ w Γ' w'):StpP Γ w k (.returned (.tuple #[.agg (fl (zsP z' x')).toArray,.slice Option.none 0 0,.int .i64 er])) w':=
 ⟨z',x',Γ',Option.none,0,0,[],er,rfl,rfl,⟨Nat.le_refl _,Nat.zero_le _,fun _=>rfl⟩,fun h=>absurd h (Nat.lt_irrefl _),h,h1,hx⟩
theorem Anj{k:Nat}(hk:k<=30)(Γ:Gam)(z:Zst)(x:Zls)(o:OpD)(y:OpS)(hz:ZI k z)(ho:OpK Γ o y)(w:World)(ok:Ok Γ w)(h:ZsG Γ x z) :
  Calls Tryz.prog 52 #[.agg (fl (zsP z x)).toArray,.agg (fl (opP o y)).toArray] w (StpP Γ w (k+1)):=by
 have M:=bx (MM.start ok)
 have HZ:=bx (hz.more (Nat.le_succ k))
 have HG:=bx h
 have VO:=bx (fun w ok=>Aiy Γ o y ho.kind ho.r w ok)
 have PF:=bx (fun w ok=>AjE hk Γ z x o y hz ho w ok h)
 clear ok h hz ho
 cases hh:z.halt with
 |true=>
  have HH:Bx (Value.bool z.halt=.bool true):=⟨by rw[hh]⟩
  clear hh
  go_enter Tryz.func52,Tryz.ntmps52
  (go_wp2_with (first|((first|refine zBXd ?_|refine zALd (ztZs) ?_);clear M;intro w' g M)|refine zLHd HH ?_|(refine zSSd M 0 (zsP z x) (zsP z x) (AaH _ _) (AaP _ _) ?_;clear M;intro w' M)|refine zLAd ?_))
  (try refine zsm ?_);refine bodyPost_ret (Aaz (by rfl) _ M.o.at0 (by rfl) rtZs rfl) rfl ?_
  exact StpP.nil z x 22 HG.o HZ.o M.o.ext
 |false=>
  have HH:Bx (Value.bool z.halt=.bool false):=⟨by rw[hh]⟩
  clear hh
  go_enter Tryz.func52,Tryz.ntmps52
  (go_wp2_with (first|((first|refine zBXd ?_|refine zALd (ztZs) ?_);clear M;intro w' g M)|refine zLHd HH ?_|refine zLAd ?_))
  refine(VO.o _ M.ok).mono ?_
  rintro e1 w1 ⟨er,rfl,hb⟩
  replace M:=bx (M.o.below hb)
  clear hb VO
  by_cases he:er=0
  .subst he
   (go_wp2_with (refine zLAd ?_))
   refine(PF.o _ M.ok).mono ?_
   rintro e1 w1 ⟨z1,x1,Γ1,er,rfl,hg,hzi,hx⟩
   replace M:=bx (M.o.call hx)
   have HG1:=bx hg
   have HZ1:=bx hzi
   have LX:=bx hx.le
   clear hx hg hzi PF
   by_cases h21:er=21
   .subst h21
    (go_wp2_with (first|(refine zALd (ztZs) ?_;clear M;intro w' g M)|((first|refine zSSd M 0 (zsP z1 x1) (zsP z1 x1) (AaH _ _) (AaP _ _) ?_|refine zSSd M 1 (zsP z1 x1) (zsP z1 x1) (AaH _ _) (AaP _ _) ?_);clear M;intro w' M)|refine zLAd ?_))
    (try refine zsm ?_);refine bodyPost_ret (Aaz (by rfl) _ M.o.at1 (by rfl) rtZs rfl) rfl ?_
    exact StpP.nil z1 x1 21 HG1.o (HZ1.o (by simp)) M.o.ext
   .have b21:(er==21)=false:=beq_eq_false_iff_ne.2 h21
    by_cases h0:er=0
    .subst h0
     have HZ2:=bx (HZ1.o (by simp))
     have EM:=bx (fun w ok=>AkP Γ1 z1 x1 (HZ2.o.s.wok (by omega)) w ok HG1.o)
     clear HZ1
     (go_wp2_with (first|(refine zALd (ztZs) ?_;clear M;intro w' g M)|(refine zSSd M 0 (zsP z1 x1) (zsP z1 x1) (AaH _ _) (AaP _ _) ?_;clear M;intro w' M)|refine zLAd ?_))
     refine(EM.o _ M.ok).mono ?_
     rintro e1 w1 ⟨A,cc,Γ2,rfl,hA,hL,hx⟩
     replace M:=bx (M.o.call hx)
     have HL:=bx (And.intro hA hL)
     have HG2:=bx (Aqv (HG1.o.mono hx.le))
     have HZ3:=bx HZ2.o.emt
     clear hx hA hL EM HG1 HZ2
     generalize emtZ z1=z2 at *
     generalize emtL z1=L2 at *
     (go_wp2_with (first|(refine zALd (ztZs) ?_;clear M;intro w' g M)|((first|refine zSSd M 0 (zsP z2 x1) (zsP z2 x1) (AaH _ _) (AaP _ _) ?_|refine zSSd M 2 (zsP z2 x1) (zsP z2 x1) (AaH _ _) (AaP _ _) ?_);clear M;intro w' M)|refine zLAd ?_))
     (try refine zsm ?_);refine bodyPost_ret (Aaz (by rfl) _ M.o.at2 (by rfl) rtZs rfl) rfl ?_
     exact⟨z2,x1,Γ2,A,_,cc,L2,0,rfl,rfl,HL.o.1,HL.o.2,HG2.o,HZ3.o,M.o.ext⟩
    .have b0:(er != 0)=true:=by simp[h0]
     (go_wp2_with (first|(refine zALd (ztZs) ?_;clear M;intro w' g M)|((first|refine zSSd M 0 (zsP z1 x1) (zsP z1 x1) (AaH _ _) (AaP _ _) ?_|refine zSSd M 1 (zsP z x) (zsP z x) (AaH _ _) (AaP _ _) ?_);clear M;intro w' M)|refine zLAd ?_))
     (try refine zsm ?_);refine bodyPost_ret (Aaz (by rfl) _ M.o.at1 (by rfl) rtZs rfl) rfl ?_
     exact StpP.nil z x er (HG.o.mono LX.o) HZ.o M.o.ext
  .have he':(er != 0)=true:=by simp[he]
   (go_wp2_with (first|(refine zSSd M 0 (zsP z x) (zsP z x) (AaH _ _) (AaP _ _) ?_;clear M;intro w' M)|refine zLAd ?_))
   (try refine zsm ?_);refine bodyPost_ret (Aaz (by rfl) _ M.o.at0 (by rfl) rtZs rfl) rfl ?_
   exact StpP.nil z x er HG.o HZ.o M.o.ext
theorem elOp:ElT Tryz.prog 83 125 446 720:=Abr Tryz.underlying83 (by kernel_rfl) (by decide) (by decide)
abbrev opx(o:OpD × OpS):List Value:=fl (opP o.1 o.2)
theorem Ai5{Pg:Program}{w:World}{fn:Func}{p q r:Tmp}{ty ty2:TypeId}(h:fn.results = #[.cell p ty,.tmp q,.cell r ty2])(tmps:Array Value){g n g2 n2:Nat}{P P2:List (List Value)}{ls ls2:List Nat}(H:HL w g P ls)(hp:tmps.getD p undef=.pointer (some ⟨g,0,none⟩))(rt:RowT Pg ty n)(hn:ls.sum=n)
  (H2:HL w g2 P2 ls2) (hp2:tmps.getD r undef=.pointer (some ⟨g2,0,none⟩)) (rt2:RowT Pg ty2 n2) (hn2:ls2.sum=n2) :
  (results fn tmps).run Pg w=.ok (.tuple #[.agg (fl P).toArray,tmps.getD q undef,.agg (fl P2).toArray]) w:=by
 obtain⟨d,hu,hd⟩:=rt.ex
 obtain⟨d2,hu2,hd2⟩:=rt2.ex
 have hp':tmps[p]?.getD undef=.pointer (some ⟨g,0,none⟩):=by simpa using hp
 have hp2':tmps[r]?.getD undef=.pointer (some ⟨g2,0,none⟩):=by simpa using hp2
 have h1:=Ab2 (P:=Pg) (g:=g) H.has hu (by cases d<;>first|rfl|cases hd) (by rw[rt.n,AbE H.len,hn])
 have h2:=Ab2 (P:=Pg) (g:=g2) H2.has hu2 (by cases d2<;>first|rfl|cases hd2) (by rw[rt2.n,AbE H2.len,hn2])
 simp[results,h,hp',hp2',asAddr,h1,h2]
structure RunG(Γ:Gam)(cf:Cf)(sb:Sl)(bal:List U)(so:Sl)(ops:List (OpD × OpS))(x:Zls)(z:Zst):Prop where
 cb:CfB cf bal
 sb:SlR Γ sb bal.length (us bal)
 kps:∀o∈ops,OpK Γ o.1 o.2
 so:SlR Γ so ops.length (ops.flatMap opx)
 no:ops.length<=24
 zi:ZI 24 z
 zg:ZsG Γ x z
def RunP(Γ:Gam)(w:World)(e:Ending)(w':World):Prop:=∃(cf:Cf) (sb:Sl) (bal:List U) (so:Sl) (ops:List (OpD × OpS)) (x:Zls) (z:Zst) (Γ':Gam),e=.returned (.tuple #[.agg (fl (cfP cf sb)).toArray,so.v,.agg (fl (zsP z x)).toArray])/\RunG Γ' cf sb bal so ops x z/\Ext Γ w Γ' w'
theorem Ano(Γ:Gam)(A:Option Addr)(n c:Nat)(l:List Int)(w:World)(ok:Ok Γ w)(hr:Row w w.heap.size 1 A n (ints .i64 l))(hn:n<=maxLen) :
  Calls Tryz.prog 26 #[.slice A n c] w (RunP Γ w):=by
 have M:=bx (MM.start ok)
 have CFG:Bx (∀w',Below w.heap.size w w'->Ok Γ w'->Calls Tryz.prog 31 #[.slice A n c] w' (CfgP Γ w')):=⟨fun w' hb ok'=>Af4 Γ A n c l w' ok' ((hr.below hb).more hb.size) hn⟩
 obtain⟨a16,l16,t16⟩:=AnR (c:=c) hr hn 16 (by decide) 16 rfl
 obtain⟨a17,l17,t17⟩:=AnR (c:=c) hr hn 17 (by decide) 17 rfl
 have ATX:=bx (fun i hi j hj=>AnR (c:=c) hr hn i hi j hj)
 have T16:=bx t16
 have T17:=bx t17
 clear ok hr hn t16 t17 l16 l17
 obtain⟨r16,q16,p16⟩:=AbL a16 25 (by decide) 25 rfl
 obtain⟨r17,q17,p17⟩:=AbL a17 4 (by decide) 4 rfl
 have b16:(0:Int)<=(a16:Int):=by omega
 have b17:(0:Int)<=(a17:Int):=by omega
 have d16:(0:Int)<=(r16:Int):=by omega
 have d17:(0:Int)<=(r17:Int):=by omega
 go_enter Tryz.func26,Tryz.ntmps26
 go_upto_region 1 with(first|((refine zALd (ztCf) ?_;clear M;intro w' g M);(obtain⟨g2,hg0⟩:∃y,y=g:=⟨_,rfl⟩);subst hg0)|((refine zALd (ztZs) ?_;clear M;intro w' g M);(obtain⟨g4,hg0⟩:∃y,y=g:=⟨_,rfl⟩);subst hg0))
 (go_wp2_with (fail))
 refine(CFG.o _ M.bel M.ok).mono ?_
 rintro e1 w1 ⟨cf,sb,bal,Γ1,rfl,hcb,hsb,hx⟩
 replace M:=bx (M.o.call hx)
 have HCB:=bx hcb
 have HSB:=bx hsb
 clear hx hcb hsb CFG
 go_upto_region 2 with(first|((refine zALd (ztCf) ?_;clear M;intro w' g M);(obtain⟨g5,hg0⟩:∃y,y=g:=⟨_,rfl⟩);subst hg0)|(refine zSSd M 0 (cfP cf sb) (cfP cf sb) (AbA _ _) (Ad4 _ _) ?_;clear M;intro w' M))
 (go_wp2_with (refine zLAd ?_))
 refine(AnQ Γ1 cf sb bal HCB.o _ M.ok HSB.o).mono ?_
 rintro e1 w1 ⟨x1,Γ2,A1,n1,c1,L1,rfl,hn1,hca1,hsl1,hz1,hx⟩
 replace M:=bx (M.o.call hx)
 have HG1:=bx hz1
 have HSB2:=bx (HSB.o.mono hx.le)
 have HZ1:=bx (Aq7 HCB.o)
 clear hx hn1 hca1 hsl1 hz1 HSB
 generalize begZ cf bal=z1 at *
 go_upto_region 3 with(first|((refine zALd (ztZs) ?_;clear M;intro w' g M);(obtain⟨g6,hg0⟩:∃y,y=g:=⟨_,rfl⟩);subst hg0)|(refine zSSd M 0 (zsP z1 x1) (zsP z1 x1) (AaH _ _) (AaP _ _) ?_;clear M;intro w' M))
 (go_wp2_with (fail))
 (refine(T16.o _ M.bel).mono ?_);rintro e1 w1 ⟨rfl,hx1⟩;replace M:=bx (M.o.below hx1);clear hx1
 (go_wp2_with (fail))
 (refine(T17.o _ M.bel).mono ?_);rintro e1 w1 ⟨rfl,hx1⟩;replace M:=bx (M.o.below hx1);clear hx1
 go_upto_if 28 with fail
 go_cut [10]from 14 (fun s10 wx=>∃m:Nat,m<=24/\s10=.int .i64 (m:Int)/\MM Γ w Γ2 wx [⟨g6,zsP z1 x1,zsL⟩,⟨g5,cfP cf sb,cfL⟩,⟨g4,zsP zs0 zx0,zsL⟩,⟨g2,cfP cf0 sl0,cfL⟩] [])
 case first=>
  by_cases hr:r17=0
  .subst hr
   (go_wp2_with (fail))
   go_meet
   case rel=>exact⟨r16,by omega,rfl,M.o⟩
  .have hr':(0:Int)<(r17:Int):=by omega
   (go_wp2_with (fail))
   go_meet
   case rel=>exact⟨24,Nat.le_refl _,rfl,M.o⟩
 clear M q16 p16 q17 p17 b16 b17 d16 d17 T16 T17
 obtain⟨m,hm,rfl,hM⟩:=hcut
 have M:=bx hM
 clear hM
 (go_wp2_with (fail))
 replace M:=bx (M.o.row0 125 446)
 have LG2:=bx (Le.refl Γ2)
 go_loopw [9,11,12,13] (fun s9 s11 s12 s13 wr=>∃(i:Nat) (z:Zst) (x:Zls) (Γi:Gam) (ops:List (OpD × OpS)) (A0:Option Addr) (c0:Nat),i<=m/\s11=.int .i64 (i:Int)/\s9=.slice A0 i c0/\ZI i z/\ZsG Γi x z/\Le Γ2 Γi/\(∀o∈ops,OpK Γi o.1 o.2)/\ops.length=i/\MM Γ w Γi wr [⟨g6,zsP z x,zsL⟩,⟨g5,cfP cf sb,cfL⟩,⟨g4,zsP zs0 zx0,zsL⟩,⟨g2,cfP cf0 sl0,cfL⟩] [⟨.slice A0 i c0,125,446,i,ops.flatMap opx⟩]) (fun _ i _ _ _=>m-(intOf i).toNat)
 case atStart=>exact⟨0,z1,x1,Γ2,[],none,0,Nat.zero_le _,rfl,rfl,HZ1.o,HG1.o,LG2.o,fun o ho=>(by cases ho),rfl,M.o⟩
 case round=>
  obtain⟨i,z,x,Γi,ops,A0,c0,him,rfl,rfl,hzi,hzg,hle,hops,hol,hM⟩:=hrel
  clear M
  have M:=bx hM
  have HZ:=bx hzi
  have HG:=bx hzg
  have HO:=bx (And.intro hle (And.intro hops hol))
  clear hM hzi hzg hle hops hol
  by_cases hin:i<m
  .have hii:(i:Int)<(m:Int):=by omega
   have hi24:(i:Int)<24:=by omega
   have hi0:(0:Int)<=(i:Int):=by omega
   obtain⟨ak,lk,tk⟩:=ATX.o (18+i) (by omega) (18+(i:Int)) (by omega)
   have TK:=bx tk
   have hak:ak<=100000000:=by omega
   clear tk lk
   (go_wp2_with (fail))
   (refine(TK.o _ M.bel).mono ?_);rintro e1 w1 ⟨rfl,hx1⟩;replace M:=bx (M.o.below hx1);clear hx1 TK
   go_upto_if 39 with fail
   go_cut [12]from 29 to 55 (fun s12 wx=>∃kk:Nat,kk<=100000000/\s12=.int .i64 (kk:Int)/\MM Γ w Γi wx [⟨g6,zsP z x,zsL⟩,⟨g5,cfP cf sb,cfL⟩,⟨g4,zsP zs0 zx0,zsL⟩,⟨g2,cfP cf0 sl0,cfL⟩] [⟨.slice A0 i c0,125,446,i,ops.flatMap opx⟩])
   case first=>
    by_cases hz:i=0
    .subst hz
     (go_wp2_with (fail))
     go_meet
     case rel=>exact⟨0,by omega,rfl,M.o⟩
    .have h1:((i:Int)==0)=false:=by rw[beq_eq_false_iff_ne];omega
     (go_wp2_with (fail))
     go_meet
     case rel=>exact⟨ak,hak,rfl,M.o⟩
   clear M hak
   obtain⟨kk,hkk,rfl,hM⟩:=hcut
   have M:=bx hM
   clear hM
   have OPF:Bx (∀w' (ok':Ok Γi w'),Calls Tryz.prog 51 #[.agg (fl (zsP z x)).toArray,.int .i64 (10+(i:Int)),.int .i64 (kk:Int)] w' (OppP Γi w')):=⟨fun w' ok'=>by
    have:=Apc Γi z x (10+i) kk (by omega) (Ard (by omega)) hkk HZ.o w' ok' HG.o
    rw[show((10+i:Nat):Int)=10+(i:Int)by omega]at this
    exact this⟩
   (go_wp2_with (refine zLAd ?_))
   refine(OPF.o _ M.ok).mono ?_
   rintro e1 w1 ⟨o,y,Γo,rfl,hok,hx⟩
   replace M:=bx (M.o.call hx)
   have HOK:=bx hok
   have LX:=bx hx.le
   clear hx hok OPF
   have STP:=bx (fun w' ok'=>Anj (k:=i) (by omega) Γo z x o y HZ.o HOK.o w' ok' (HG.o.mono LX.o))
   go_upto_region 14 with(first|((refine zALd (ztOp) ?_;clear M;intro w' g M);(obtain⟨g13,hg0⟩:∃y,y=g:=⟨_,rfl⟩);subst hg0)|(refine zSSd M 0 (opP o y) (opP o y) (Aat _ _) (AbN _ _) ?_;clear M;intro w' M))
   (go_wp2_with (first|((with_reducible apply AbP M.o (elOp) (P:=opP o y) (ls:=opL));rfl;rfl;rfl;rfl;exact Aat _ _;rfl;intro w' g M' hb';(replace M:=bx M';clear M');clear hb';refine zNM ?_)|(at_builtin;(with_reducible apply AaU M.o elOp);rfl;exact AbN _ _;(unfold maxLen;omega);omega;rfl;rfl;rfl;rfl;intro A' c' w' M';(replace M:=bx M';clear M'))|refine zLAd ?_))
   refine(STP.o _ M.ok).mono ?_
   rintro e1 w1 ⟨z',x',Γs,A2,n2,c2,L2,er,rfl,hn2,hca,hsl,hzg,hzi,hx⟩
   replace M:=bx (M.o.call hx)
   have HZ':=bx hzi
   have HG':=bx hzg
   have LX2:=bx hx.le
   clear hx hn2 hca hsl hzg hzi STP
   (go_wp2_with (refine zSSd M 1 (zsP z' x') (zsP z' x') (AaH _ _) (AaP _ _) ?_;clear M;intro w' M))
   go_roundw
   case rel=>
    have hM:=M.o.tail
    have e1:ops.flatMap opx++fl (opP o y)=(ops ++ [(o,y)]).flatMap opx:=by simp
    rw[e1]at hM
    refine⟨i+1,z',x',Γs,ops ++ [(o,y)],A',c',by omega,by go_num,rfl,HZ'.o,HG'.o,HO.o.1.trans (LX.o.trans LX2.o),fun p hp=>?_,by simp[HO.o.2.2],hM⟩
    rcases List.mem_append.1 hp with hp|hp
    .exact(HO.o.2.1 p hp).mono (LX.o.trans LX2.o)
    .have:p=(o,y):=by simpa using hp
     rw[this];exact HOK.o.mono LX2.o
   case measure=>simp[intOf];omega
  .obtain rfl:i=m:=by omega
   obtain⟨Γ',h1,h2,h3,h4⟩:=M.o.frz
   clear M
   have M:=bx h4
   have HR:=bx (And.intro h1 (And.intro h2 h3))
   clear h1 h2 h3 h4
   (go_wp2_with (fail))
   refine AaF (fun w'=>HL w' g5 (cfP cf sb) cfL/\HL w' g6 (zsP z x) zsL) (.steps [(0,0),(1,1),(0,2),(3,3),(1,4),(3,5)] .leaf) (by kernel_rfl) (by kernel_rfl) ⟨M.o.drew.at1,M.o.drew.at0⟩ ?_;(simp only[MixT7,MT.steps,stepI,List.getD_cons_zero,List.getD_cons_succ]);replace M:=bx (M.o.drew)
   refine zNM ?_
   (repeat(first|refine zM0 ?_|(go_big_quiet_want;first|((first|((with_reducible apply AaI (fun _ h=>h.1) (AbA _ _));rfl;rfl;exact zrts;rfl;refine zCT ?_)|((with_reducible apply AaI (fun _ h=>h.2) (AaH _ _));rfl;rfl;exact zrts;rfl;refine zCT ?_));go_big_quiet_on;refine zNM ?_)|(refine zQO ?_;go_big_quiet_on))))
   refine zXS M 3 (cfP cf sb) (cfP cf sb) (AbA _ _) (Ad4 _ _) ?_;clear M;intro w7 M
   refine⟨⟨M.o.at1,M.o.at0⟩,?_⟩
   refine zMR7 ?_
   refine zXS M 2 (zsP z x) (zsP z x) (AaH _ _) (AaP _ _) ?_;clear M;intro w7 M
   refine⟨⟨M.o.at1,M.o.at0⟩,?_⟩
   refine NoPanic.normal ?_
   (go_wp2_with (refine zLAd ?_))
   (try refine zsm ?_);refine bodyPost_ret (Ai5 (by rfl) _ M.o.at3 (by rfl) rtCf rfl M.o.at2 (by rfl) rtZs rfl) rfl ?_
   have hl:=HO.o.2.2
   refine⟨cf,sb,bal,⟨A0,i,c0⟩,ops,x,z,Γ',rfl,⟨HCB.o,HSB2.o.mono (HO.o.1.trans HR.o.2.2),fun p hp=>(HO.o.2.1 p hp).mono HR.o.2.2,⟨hl.symm,HR.o.1,HR.o.2.1⟩,by omega,HZ.o.more hm,HG.o.mono HR.o.2.2⟩,M.o.ext⟩
def StaP(Γ:Gam)(w:World)(e:Ending)(w':World):Prop:=∃(x:Zls) (z:Zst) (Γ':Gam),e=.returned (.agg (fl (zsP z x)).toArray)/\ZI 24 z/\ZsG Γ' x z/\Ext Γ w Γ' w'
theorem Agf(Γ:Gam)(A:Option Addr)(n c:Nat)(l:List Int)(w:World)(ok:Ok Γ w)(hr:Row w w.heap.size 1 A n (ints .i64 l))(hn:n<=maxLen) :
  Calls Tryz.prog 7 #[.slice A n c] w (StaP Γ w):=by
 have M:=bx (MM.start ok)
 have RUN:Bx (∀w',Below w.heap.size w w'->Ok Γ w'->Calls Tryz.prog 26 #[.slice A n c] w' (RunP Γ w')):=⟨fun w' hb ok'=>Ano Γ A n c l w' ok' ((hr.below hb).more hb.size) hn⟩
 clear ok hr hn
 go_enter Tryz.func7,Tryz.ntmps7
 (go_wp2_with (refine zALd (ztZs) ?_;clear M;intro w' g M))
 refine(RUN.o _ M.bel M.ok).mono ?_
 rintro e1 w1 ⟨cf,sb,bal,so,ops,x,z,Γ',rfl,hR,hx⟩
 replace M:=bx (M.o.call hx)
 have HR:=bx hR
 clear hx hR RUN
 go_upto_region 2 with(first|((first|refine zALd (ztCf) ?_|refine zALd (ztZs) ?_);clear M;intro w' g M)|((first|refine zSSd M 1 (cfP cf sb) (cfP cf sb) (AbA _ _) (Ad4 _ _) ?_|refine zSSd M 0 (zsP z x) (zsP z x) (AaH _ _) (AaP _ _) ?_);clear M;intro w' M))
 (go_wp2_with (first|(refine zSSd M 2 (zsP z x) (zsP z x) (AaH _ _) (AaP _ _) ?_;clear M;intro w' M)|refine zLAd ?_))
 refine zR M.o.at2 ?_
 exact⟨x,z,Γ',rfl,HR.o.zi,HR.o.zg,M.o.ext⟩
end Go.Proofs.YtpaihpeoiliioaaGreat
