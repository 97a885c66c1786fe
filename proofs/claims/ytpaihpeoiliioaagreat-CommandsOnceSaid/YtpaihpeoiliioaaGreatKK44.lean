/- Texts joined: what the walks of this claim stand on (part 44). -/
import Derived.Test.YtpaihpeoiliioaaGreatKK40
set_option linter.all false
set_option maxRecDepth 20000
set_option maxHeartbeats 40000000
namespace Go.Proofs.YtpaihpeoiliioaaGreat
open Go.RowKit Old
theorem Ahv(k:Nat)(d:Int)(m:Nat)(hd:d=(m:Int)):∃q:Nat,(k:Int) / d=(q:Int)/\q<=k:=⟨k / m,by subst hd;simp,Nat.div_le_self _ _⟩
abbrev atL:List Nat:=[1,32,1,32,1]
theorem stAt:StrT Tryz.prog 113 [(0,1),(1,32),(33,33),(66,1)] (atP at0 sl0) atL:=Aa9 Tryz.underlying113 (by kernel_rfl) (by kernel_rfl) (AbB _ _)
theorem ztAt:ZeroT Tryz.prog 113 (atP at0 sl0) atL:=⟨fun w=>by kernel_rfl,AbB _ _⟩
theorem Aoh(sl:U)(r:Rt)(A:Option Addr)(n c:Nat):Tryz.prog.built 113 [(0,.int .u64 (sl.n:Int)),(1,.agg (rc r).toArray),(3,.slice A n c)]=some (fl (atP ⟨sl,r,cp0,[]⟩ ⟨A,n,c⟩)).toArray:=by
 rw[stAt.eq]
 refine AaG (Q:=[[.int .u64 (sl.n:Int)]]) stAt.len rfl rfl rfl rfl rfl fun hl=>?_
 refine AaG (Q:=[rc r]) hl rfl rfl rfl (lenR r) rfl fun hl=>?_
 refine AaG (Q:=[[.slice A n c]]) hl rfl rfl rfl rfl rfl fun hl=>?_
 rfl
theorem Ajt{C:World->Prop}{K:Act->Prop}{o:Oper}{a:Act}{parts:Array (Nat × Operand)}(sl:U)(r:Rt)(A:Option Addr)(n c:Nat)(ho:o.op=.build 113 parts)
  (hps:parts.toList.map (fun x=>(x.1,a.eval x.2)) = [(0,.int .u64 (sl.n:Int)),(1,.agg (rc r).toArray),(3,.slice A n c)])
  (h:K (a.put o.dst (.agg (fl (atP ⟨sl,r,cp0,[]⟩ ⟨A,n,c⟩)).toArray))):o.quiet Tryz.prog a C K:=AaT 113 parts ho _ _ hps (Aoh sl r A n c) h
def AttB(Γ:Gam)(w:World)(e:Ending)(w':World):Prop:=∃(a:Att) (sl:Sl) (Γ':Gam),e=.returned (.agg (fl (atP a sl)).toArray)/\AtG Γ' a sl/\a.l.length<=100/\Ext Γ w Γ' w'
theorem Aon(Γ:Gam)(s:Sto)(v:Sls)(k:Nat)(hk:k<=100000000)(hL:Lk (upsN s.nodes))(hpos:0<s.nodes.length)(hb:s.nodes.length<=4096)(hbal:s.bal.length<=64)(hsp:0<s.c.spe.n)(w:World)(ok:Ok Γ w)(h:StG Γ v s) :
  Calls Tryz.prog 90 #[.agg (fl (stP s v)).toArray,.int .i64 k] w (AttB Γ w):=by
 have M:=bx (MM.start ok)
 have HG:=bx h
 have LN:=bx h.nodes.n
 have HBN:Bx (v.bal.n<=64):=⟨by rw[h.bal.n];exact hbal⟩
 have AT:=bx (fun i e w ok=>Aje Γ s v hL hb i e w ok h)
 have hN:v.nodes.n=s.nodes.length:=h.nodes.n
 clear ok h hL hbal
 obtain⟨N,hNN⟩:∃N,v.nodes.n=N:=⟨_,rfl⟩
 have HV:Bx (v.nodes.v=.slice v.nodes.A N v.nodes.c):=⟨by rw[<-hNN]⟩
 rw[hNN]at hN
 have HNL:=bx hN
 have hN1:1<=N:=by omega
 have hN2:N<=4096:=by omega
 clear hNN hN hpos hb
 have nz:((N:Int)==0)=false:=by rw[beq_eq_false_iff_ne];omega
 have nzs:((s.c.spe.n:Int)==0)=false:=by rw[beq_eq_false_iff_ne];omega
 obtain⟨p,hp0,hp⟩:∃p:Nat,(k:Int)%(N:Int)=(p:Int)/\p<N:=⟨k%N,by omega,Nat.mod_lt _ (by omega)⟩
 have hki:(k:Int)<=100000000:=by omega
 have hk0:(0:Int)<=(k:Int):=by omega
 obtain⟨q3,hq3,i3⟩:=Ahv k 8 8 rfl
 have c3:(0:Int)<=(q3:Int):=by omega
 have hps:p<s.nodes.length:=by rw[<-HNL.o];exact hp
 obtain⟨gn,hA,hf⟩:=HG.o.nodeAt p hps
 have HA:Bx (v.nodes.v=.slice (some ⟨gn,0,none⟩) N v.nodes.c):=⟨by rw[hA];have:=HV.o;simp only[Value.slice.injEq]at this;rw[this.2.1]⟩
 have F1:=bx hf
 have hpi:(p:Int)<(N:Int):=by omega
 have hp1:0<=(p:Int):=by omega
 clear hA hf LN
 generalize s.nodes[p]=y at *
 clear hps hp
 go_enter Tryz.func90,Tryz.ntmps90
 go_upto_region 1 with(first|((refine zBYd (AaD _ _) ?_;clear M;intro w' g M);(obtain⟨g2,hg0⟩:∃y,y=g:=⟨_,rfl⟩);subst hg0)|((refine zALd (ztAt) ?_;clear M;intro w' g M);(obtain⟨g4,hg0⟩:∃y,y=g:=⟨_,rfl⟩);subst hg0))
 go_upto_region 2 with(refine zLHd HV ?_)
 go_cut [6]from 7 (fun s6 wx=>∃(g6:Nat) (a:Att) (A:Option Addr) (n c:Nat) (l:List Int),l.length=n/\n<=66/\s6=.pointer (some ⟨g6,0,none⟩)/\MM Γ w Γ wx [⟨g6,atP a ⟨A,n,c⟩,atL⟩,⟨g4,atP at0 sl0,atL⟩,⟨g2,stP s v,stL⟩] [⟨.slice A n c,3,1,n,ints .i64 l⟩])
 case first=>
  refine Aad [19] (.steps [(1,0),(0,1),(1,2),(1,3),(0,4),(1,5),(1,6),(1,7),(1,8),(0,9),(1,10),(1,11),(0,12),(1,13),(1,14),(1,15)] (.fork 16 (.steps [(1,17),(2,18),(3,19)] .leaf) 18 (.steps [(2,16),(1,17),(3,19)] .leaf))) (by kernel_rfl) (by kernel_rfl) ?_;(simp only[MixT8,MT.steps,stepAt,List.getD_cons_zero,List.getD_cons_succ]);replace M:=bx (M.o.drew)
  refine zNM ?_
  (repeat(first|refine zM0 ?_|(go_big_quiet_want;first|((first|refine zQHd HA ?_|refine zQFd F1 ?_|refine zQAd ?_);go_big_quiet_on;refine zNM ?_)|(refine zQO ?_;go_big_quiet_on))))
  refine zH8 M ?_;clear M;intro w8 M
  refine⟨?_,?_⟩
  focus
   refine zMC (AfS v.bal.n HBN.o (q3:Int) _) Tryz.func122 ?_;rintro e1 w1 ⟨A,c,l,rfl,hl,hrow,hb⟩;refine⟨_,rfl,hb,?_⟩;replace M:=bx (M.o.rowNew hb hrow);have HLL:=bx hl;clear hl hrow hb;refine zNM ?_
   (repeat(first|refine zM0 ?_|(go_big_quiet_want;((with_reducible apply Ajt s.now y.b.root A l.length c);rfl;rfl;go_big_quiet_on;refine zNM ?_))))
   refine zH8 M ?_;clear M;intro w8 M
   refine AaA (AaR rfl ztAt) rfl ?_;refine⟨ext_alloc _ _,?_⟩;replace M:=bx (M.o.alloc (P:=(atP at0 sl0)) (ls:=atL) (AbB _ _) rfl 113);refine zNM ?_
   refine zMRd ?_
  rotate_left
  focus
   refine AaA (AaR rfl ztAt) rfl ?_;refine⟨ext_alloc _ _,?_⟩;replace M:=bx (M.o.alloc (P:=(atP at0 sl0)) (ls:=atL) (AbB _ _) rfl 113);refine zNM ?_
   refine zMRd ?_
   refine zH8 M ?_;clear M;intro w8 M
   refine zMC (AfS v.bal.n HBN.o (q3:Int) _) Tryz.func122 ?_;rintro e1 w1 ⟨A,c,l,rfl,hl,hrow,hb⟩;refine⟨_,rfl,hb,?_⟩;replace M:=bx (M.o.rowNew hb hrow);have HLL:=bx hl;clear hl hrow hb;refine zNM ?_
   (repeat(first|refine zM0 ?_|(go_big_quiet_want;((with_reducible apply Ajt s.now y.b.root A l.length c);rfl;rfl;go_big_quiet_on;refine zNM ?_))))
  all_goals
   refine zH8 M ?_;clear M;intro w8 M
   refine zXS M 0 (atP ⟨s.now,y.b.root,cp0,[]⟩ ⟨A,l.length,c⟩) (atP ⟨s.now,y.b.root,cp0,[]⟩ ⟨A,l.length,c⟩) (AbB _ _) (Adl _ _) ?_;clear M;intro w7 M
   refine zH8 M ?_;clear M;intro w9 M;refine NoPanic.normal ?_
   (go_wp2_with (fail))
   go_meet;(case rel=>exact⟨_,_,A,l.length,c,l,rfl,by have:=HLL.o;have:=HBN.o;omega,rfl,M.o⟩)
 clear M hp0
 obtain⟨g6,a1,A,n,c,l,hl,hn66,rfl,hM⟩:=hcut
 have M:=bx hM
 have HLL:=bx hl
 clear hM hl
 obtain⟨q9,hq9,i9⟩:=Ahv k 512 512 rfl;obtain⟨r9,e9,f9⟩:=AbL q9 4 (by decide) 4 rfl;have c9:(0:Int)<=(q9:Int):=(by omega);have d9:(0:Int)<=(r9:Int):=(by omega)
 go_upto_region 3 with fail
 go_cut [39]from 7 (fun s39 wx=>∃bb,s39=.bool bb/\MM Γ w Γ wx [⟨g6,atP a1 ⟨A,n,c⟩,atL⟩,⟨g4,atP at0 sl0,atL⟩,⟨g2,stP s v,stL⟩] [⟨.slice A n c,3,1,n,ints .i64 l⟩])
 case first=>
  by_cases hr:r9=0
  .subst hr
   go_wp2_with fail
   go_meet;(case rel=>exact⟨_,rfl,M.o⟩)
  .have hr':(0:Int)<(r9:Int):=by omega
   by_cases hz:s.now.n=0
   .have h1:(s.now.n:Int)=0:=by omega
    (go_wp2_with (refine zLAd ?_))
    go_meet;(case rel=>exact⟨_,rfl,M.o⟩)
   .have h1:(0:Int)<(s.now.n:Int):=by omega
    (go_wp2_with (refine zLAd ?_))
    go_meet;(case rel=>exact⟨_,rfl,M.o⟩)
 clear e9 f9 d9 i9 hq9 c9
 clear M;(obtain⟨bb,rfl,hM⟩:=hcut);have M:=bx hM;clear hM
 go_upto_if 39 with fail
 go_cut []from 7 (fun wx=>∃a,MM Γ w Γ wx [⟨g6,atP a ⟨A,n,c⟩,atL⟩,⟨g4,atP at0 sl0,atL⟩,⟨g2,stP s v,stL⟩] [⟨.slice A n c,3,1,n,ints .i64 l⟩])
 case first=>
  cases bb with
  |true=>
   obtain⟨u,hu⟩:=Aiz ((s.now.n:Int)-1)
   (go_wp2_with (first|(refine zS1d M 0 (.int .u64 (u.n:Int)) (atP {a1 with slot:=u} ⟨A,n,c⟩) ?_;clear M;intro w' M)|refine zLAd ?_))
   go_meet;(case rel=>exact⟨{a1 with slot:=u},M.o⟩)
  |false=>
   (go_wp2_with (fail))
   go_meet;(case rel=>exact⟨a1,M.o⟩)
 clear M;(obtain⟨a2,hM⟩:=hcut);have M:=bx hM;clear hM
 clear a1
 go_upto_region 5 with fail
 go_cut []from 7 (fun wx=>∃a,MM Γ w Γ wx [⟨g6,atP a ⟨A,n,c⟩,atL⟩,⟨g4,atP at0 sl0,atL⟩,⟨g2,stP s v,stL⟩] [⟨.slice A n c,3,1,n,ints .i64 l⟩])
 case first=>
  have hy:=Afr a2.slot s.c.spe
  generalize epN a2.slot s.c.spe=eu at *
  refine Aad [10] (.steps [(0,0),(1,1),(1,2),(0,3),(1,4),(1,5),(0,6),(1,7),(2,8),(1,9),(3,10)] .leaf) (by kernel_rfl) (by kernel_rfl) ?_;(simp only[MixT8,MT.steps,stepAt,List.getD_cons_zero,List.getD_cons_succ]);replace M:=bx (M.o.drew)
  refine zNM ?_
  refine zMRd ?_
  refine zH8 M ?_;clear M;intro w8 M
  refine zMC (AT.o ((k:Int)%(N:Int)) eu _ M.ok) Tryz.func120 ?_
  rintro e1 w1 ⟨cc,rfl,hx⟩
  refine⟨_,rfl,hx.bel,?_⟩
  replace M:=bx (M.o.call hx)
  clear hx
  refine zNM ?_
  refine zMRd ?_
  refine zH8 M ?_;clear M;intro w8 M
  refine zXS M 0 (cpP cc) (atP {a2 with t:=cc} ⟨A,n,c⟩) (AaC _) (AaO _) ?_;clear M;intro w7 M
  refine zH8 M ?_;clear M;intro w9 M;refine NoPanic.normal ?_
  (go_wp2_with (fail))
  go_meet;(case rel=>exact⟨{a2 with t:=cc},M.o⟩)
 clear M;(obtain⟨a3,hM⟩:=hcut);have M:=bx hM;clear hM
 clear a2 AT
 obtain⟨q12,hq12,i12⟩:=Ahv k 4096 4096 rfl;obtain⟨r12,e12,f12⟩:=AbL q12 20 (by decide) 20 rfl;have c12:(0:Int)<=(q12:Int):=(by omega);have d12:(0:Int)<=(r12:Int):=(by omega)
 obtain⟨q17,hq17,i17⟩:=Ahv k 131072 131072 rfl;obtain⟨r17,e17,f17⟩:=AbL q17 9 (by decide) 9 rfl;have c17:(0:Int)<=(q17:Int):=(by omega);have d17:(0:Int)<=(r17:Int):=(by omega)
 obtain⟨q4,hq4,i4⟩:=Ahv k 16 16 rfl
 have c4:(0:Int)<=(q4:Int):=by omega
 go_upto_block 0 with fail
 go_cut []from 7 (fun wx=>∃(a:Att) (A:Option Addr) (n c:Nat) (l:List Int),l.length=n/\n<=67/\MM Γ w Γ wx [⟨g6,atP a ⟨A,n,c⟩,atL⟩,⟨g4,atP at0 sl0,atL⟩,⟨g2,stP s v,stL⟩] [⟨.slice A n c,3,1,n,ints .i64 l⟩])
 case first=>
  rcases(by omega:r12=0\/r12=1\/r12=2\/r12=3\/r12=4\/5<=r12)with hr|hr|hr|hr|hr|hr
  .subst hr
   obtain⟨u,hu⟩:=Aiz ((a3.t.e.n:Int)+1)
   (go_wp2_with (first|(refine zS1d M 0 (.int .u64 (u.n:Int)) (atP {a3 with t:=⟨u,a3.t.r⟩} ⟨A,n,c⟩) ?_;clear M;intro w' M)|refine zLAd ?_))
   go_meet;(case rel=>exact⟨_,A,n,c,l,HLL.o,by omega,M.o⟩)
  .subst hr
   (go_wp2_with (fail))
   refine zCB M (AbQ _ _) ?_;clear M;intro w1 M
   (go_wp2_with (refine zSSd M 0 [rc (rtB 5000)] (atP {a3 with r:=rtB 5000} ⟨A,n,c⟩) (lenR _) (Aac _) ?_;clear M;intro w' M))
   go_meet;(case rel=>exact⟨_,A,n,c,l,HLL.o,by omega,M.o⟩)
  .subst hr
   obtain⟨p5,hp5,hp6⟩:∃p5:Nat,(q4:Int)%(N:Int)=(p5:Int)/\p5<N:=⟨q4%N,by omega,Nat.mod_lt _ (by omega)⟩
   have nzN:((N:Int)==0)=false:=by rw[beq_eq_false_iff_ne];omega
   have hps:p5<s.nodes.length:=by rw[<-HNL.o];exact hp6
   obtain⟨gm,hA,hf⟩:=HG.o.nodeAt p5 hps
   have hpi5:(p5:Int)<(N:Int):=by omega
   have hp50:0<=(p5:Int):=by omega
   have HA5:Bx (v.nodes.v=.slice (some ⟨gm,0,none⟩) N v.nodes.c):=⟨by rw[hA];have:=HV.o;simp only[Value.slice.injEq]at this;rw[this.2.1]⟩
   have F5:=bx hf
   clear hA hf
   generalize s.nodes[p5]=y5 at *
   clear hps hp6
   (go_wp2_with (fail))
   refine Aad [16] (.steps [(1,0),(1,1),(0,2),(1,3),(1,4),(1,5),(1,6),(0,7),(1,8),(1,9),(1,10),(1,11),(1,12),(0,13),(1,14),(1,15),(3,16)] .leaf) (by kernel_rfl) (by kernel_rfl) ?_;(simp only[MixT8,MT.steps,stepAt,List.getD_cons_zero,List.getD_cons_succ]);replace M:=bx (M.o.drew)
   refine zNM ?_
   (repeat(first|refine zM0 ?_|(go_big_quiet_want;first|((first|refine zQHd HA5 ?_|refine zQFd F5 ?_);go_big_quiet_on;refine zNM ?_)|(refine zQO ?_;go_big_quiet_on))))
   refine zH8 M ?_;clear M;intro w8 M
   refine zXS M 0 [rc y5.b.root] (atP {a3 with t:=⟨a3.t.e,y5.b.root⟩} ⟨A,n,c⟩) (lenR _) (Aac _) ?_;clear M;intro w7 M
   refine zH8 M ?_;clear M;intro w9 M;refine NoPanic.normal ?_
   (go_wp2_with (fail))
   go_meet;(case rel=>exact⟨_,A,n,c,l,HLL.o,by omega,M.o⟩)
  .subst hr
   obtain⟨u,hu⟩:=Aiz ((a3.slot.n:Int)+1)
   (go_wp2_with (first|(refine zS1d M 0 (.int .u64 (u.n:Int)) (atP {a3 with slot:=u} ⟨A,n,c⟩) ?_;clear M;intro w' M)|refine zLAd ?_))
   go_meet;(case rel=>exact⟨_,A,n,c,l,HLL.o,by omega,M.o⟩)
  .subst hr
   (go_wp2_with (first|((with_reducible apply Aa7 M.o AbO);rfl;rfl;rfl;rfl;intro w' g M' hb';(replace M:=bx M';clear M');clear hb';refine zNM ?_)|(at_builtin;(with_reducible apply AaU M.o AbO);rfl;exact One.v rfl;(unfold maxLen;omega);omega;rfl;rfl;rfl;rfl;intro A' c' w' M';(replace M:=bx M';clear M'))|(refine zS1d M 0 (.slice A' (n+1) c') (atP a3 ⟨A',n+1,c'⟩) ?_;clear M;intro w' M)|refine zLAd ?_))
   go_meet
   case rel=>
    have hM:MM Γ w Γ w' [⟨g6,atP a3 ⟨A',n+1,c'⟩,atL⟩,⟨g4,atP at0 sl0,atL⟩,⟨g2,stP s v,stL⟩] [⟨.slice A' (n+1) c',3,1,n+1,ints .i64 l++fl [[Value.int .i64 ((q17:Int)%9)]]⟩]:=M.o
    rw[e17,show ints .i64 l++fl [[Value.int .i64 (r17:Int)]]=ints .i64 (l ++ [(r17:Int)])by simp[ints,fl]]at hM
    exact⟨a3,A',n+1,c',l ++ [(r17:Int)],by simp[HLL.o],by omega,hM⟩
  .have h0:((r12:Int)==0)=false:=by rw[beq_eq_false_iff_ne];omega
   have h1:((r12:Int)==1)=false:=by rw[beq_eq_false_iff_ne];omega
   have h2:((r12:Int)==2)=false:=by rw[beq_eq_false_iff_ne];omega
   have h3:((r12:Int)==3)=false:=by rw[beq_eq_false_iff_ne];omega
   have h4:((r12:Int)==4)=false:=by rw[beq_eq_false_iff_ne];omega
   (go_wp2_with (fail))
   go_meet;(case rel=>exact⟨a3,A,n,c,l,HLL.o,by omega,M.o⟩)
 clear M HLL
 obtain⟨a4,A4,n4,c4',l4,hl,hn67,hM⟩:=hcut
 have M:=bx hM
 have HLL:=bx hl
 clear hM hl
 (go_wp2_with (first|(refine zSSd M 1 (atP a4 ⟨A4,n4,c4'⟩) (atP a4 ⟨A4,n4,c4'⟩) (AbB _ _) (Adl _ _) ?_;clear M;intro w' M)|refine zLAd ?_))
 obtain⟨Γ',h1,h2,h3,h4⟩:=M.o.frz
 refine zR h4.at1 ?_
 exact⟨{a4 with l:=l4},⟨A4,n4,c4'⟩,Γ',rfl,⟨HLL.o.symm,h1,by show SlG Γ' A4 n4 (ints .i64 l4);exact h2⟩,by have:=HLL.o;show l4.length<=100;omega,h4.ext⟩
end Go.Proofs.YtpaihpeoiliioaaGreat
