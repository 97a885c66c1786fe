/- Texts joined: what the walks of this claim stand on (part 46). -/
import Derived.Test.YtpaihpeoiliioaaGreatKK40
import Derived.Test.YtpaihpeoiliioaaGreatKK45
set_option linter.all false
set_option maxRecDepth 20000
set_option maxHeartbeats 40000000
namespace Go.Proofs.YtpaihpeoiliioaaGreat
open Go.RowKit Old
abbrev vdL:List Nat:=[1,1,32]
theorem stVd:StrT Tryz.prog 123 [(0,1),(1,1),(2,32)] (vdP vd0) vdL:=Aa9 Tryz.underlying123 (by kernel_rfl) (by kernel_rfl) (Abe _)
theorem ztVd:ZeroT Tryz.prog 123 (vdP vd0) vdL:=⟨fun w=>by kernel_rfl,Abe _⟩
theorem Adx(t:U)(n:Int):Tryz.prog.built 123 [(0,.agg (fl [[.int .u64 (t.n:Int)]]).toArray),(1,.int .i64 n)]=some (fl (vdP ⟨t,n,r0⟩)).toArray:=by
 rw[stVd.eq]
 refine AaG (Q:=[[.int .u64 (t.n:Int)]]) stVd.len rfl rfl rfl rfl rfl fun hl=>?_
 refine AaG (Q:=[[.int .i64 n]]) hl rfl rfl rfl rfl rfl fun hl=>?_
 rfl
theorem Acx:Tryz.prog.builtSlice 3 6 [(0,.int .i64 1),(1,.int .i64 1),(2,.int .i64 2),(3,.int .i64 2),(4,.int .i64 3),(5,.int .i64 4)]=some (fl [[.int .i64 1],[.int .i64 1],[.int .i64 2],[.int .i64 2],[.int .i64 3],[.int .i64 4]]).toArray:=by kernel_rfl
def VrdP(Γ:Gam)(w:World)(e:Ending)(w':World):Prop:=∃v:Vd,e=.returned (.agg (fl (vdP v)).toArray)/\Ext Γ w Γ w'
theorem Ane(Γ:Gam)(z:Zst)(x:Zls)(k:Nat)(hk:k<=100000000)(hL:Lk (upsN z.s.nodes))(hpos:0<z.s.nodes.length)(hb:z.s.nodes.length<=4096)(w:World)(ok:Ok Γ w)(h:ZsG Γ x z) :
  Calls Tryz.prog 93 #[.agg (fl (zsP z x)).toArray,.int .i64 k] w (VrdP Γ w):=by
 have M:=bx (MM.start ok)
 have OK:=bx ok
 have HG:=bx h
 have FND:=bx (fun r w ok=>Aag Γ x.s.nodes z.s.nodes r w ok h.s.nodes)
 have PA:=bx (fun i w ok=>Add Γ x.s.nodes z.s.nodes i w ok h.s.nodes hL hb)
 have PL:=bx (fun i k (hm:k∈pathI z.s.nodes i)=>(Ac4 hL hm).1)
 have hN:x.s.nodes.n=z.s.nodes.length:=h.s.nodes.n
 have hRn:x.reqs.n=z.reqs.length:=h.reqs.n
 clear ok h hL
 obtain⟨N,hNN⟩:∃N,x.s.nodes.n=N:=⟨_,rfl⟩
 have HV:Bx (x.s.nodes.v=.slice x.s.nodes.A N x.s.nodes.c):=⟨by rw[<-hNN]⟩
 obtain⟨nr,hnr⟩:∃n,x.reqs.n=n:=⟨_,rfl⟩
 have HVR:Bx (x.reqs.v=.slice x.reqs.A nr x.reqs.c):=⟨by rw[<-hnr]⟩
 rw[hnr]at hRn
 have HRL:=bx hRn
 rw[hNN]at hN
 have HNL:=bx hN
 have hN1:1<=N:=by omega
 clear hNN hN hpos hb hnr hRn
 have nz:((N:Int)==0)=false:=by rw[beq_eq_false_iff_ne];omega
 obtain⟨p,hp0,hp⟩:∃p:Nat,(k:Int)%(N:Int)=(p:Int)/\p<N:=⟨k%N,by omega,Nat.mod_lt _ (by omega)⟩
 have hki:(k:Int)<=100000000:=by omega
 have hk0:(0:Int)<=(k:Int):=by omega
 have hps:p<z.s.nodes.length:=by rw[<-HNL.o];exact hp
 obtain⟨gn,hA,hf⟩:=HG.o.s.nodeAt p hps
 have HA:Bx (x.s.nodes.v=.slice (some ⟨gn,0,none⟩) N x.s.nodes.c):=⟨by rw[hA];have:=HV.o;simp only[Value.slice.injEq]at this;rw[this.2.1]⟩
 have F1:=bx hf
 have hpi:(p:Int)<(N:Int):=by omega
 have hp1:0<=(p:Int):=by omega
 clear hA hf
 generalize z.s.nodes[p]=y at *
 clear hps hp
 obtain⟨tg,htg,htl⟩:∃t:U,(k:Int)%9=(t.n:Int)/\(t.n:Int)<9:=⟨⟨k%9,by omega⟩,by simp,by simp;omega⟩
 have htl0:(0:Int)<=(tg.n:Int):=by omega
 obtain⟨q4,hq4,i4⟩:∃q:Nat,(k:Int) / 16=(q:Int)/\q<=k:=⟨k / 16,by simp,Nat.div_le_self _ _⟩;have c4:(0:Int)<=(q4:Int):=(by omega)
 obtain⟨r4,e4,f4⟩:=AbL q4 6 (by decide) 6 rfl;have d4:(0:Int)<=(r4:Int):=(by omega)
 go_enter Tryz.func93,Tryz.ntmps93
 go_upto_region 1 with(first|((refine zBYd (AaH _ _) ?_;clear M;intro w' g M);(obtain⟨g2,hg0⟩:∃y,y=g:=⟨_,rfl⟩);subst hg0)|((refine zALd (ztVd) ?_;clear M;intro w' g M);(obtain⟨g4,hg0⟩:∃y,y=g:=⟨_,rfl⟩);subst hg0))
 go_cut [5]from 11 (fun s5 wx=>∃(g5:Nat) (vv:Vd),s5=.pointer (some ⟨g5,0,none⟩)/\MM Γ w Γ wx [⟨g5,vdP vv,vdL⟩,⟨g4,vdP vd0,vdL⟩,⟨g2,zsP z x,zsL⟩] [])
 case first=>
  rcases(by omega:r4=0\/r4=1\/r4=2\/r4=3\/r4=4\/r4=5)with hr|hr|hr|hr|hr|hr
  .subst hr;(go_wp2_with (first|((refine zALd (ztVd) ?_;clear M;intro w' g M);(obtain⟨g5,hg0⟩:∃y,y=g:=⟨_,rfl⟩);subst hg0)|refine zBDd 121 [(0,.int .u64 (tg.n:Int))] (fl [[.int .u64 (tg.n:Int)]]) (Ace _) ?_|((with_reducible apply Abt M.o Tryz.underlying22 [(0,.int .i64 1),(1,.int .i64 1),(2,.int .i64 2),(3,.int .i64 2),(4,.int .i64 3),(5,.int .i64 4)] [[.int .i64 1],[.int .i64 1],[.int .i64 2],[.int .i64 2],[.int .i64 3],[.int .i64 4]]);rfl;rfl;rfl;exact Acx;rfl;intro w' g M' hb';(replace M:=bx M';clear M');clear hb';refine zNM ?_)|refine zBDd 123 [(0,.agg (fl [[.int .u64 (tg.n:Int)]]).toArray),(1,.int .i64 1)] (fl (vdP ⟨tg,1,r0⟩)) (Adx tg 1) ?_|(refine zSSd M 0 (vdP ⟨tg,1,r0⟩) (vdP ⟨tg,1,r0⟩) (Abe _) (Aen _) ?_;clear M;intro w' M)|refine zLAd ?_));replace M:=bx (M.o.drop2);go_meet;(case rel=>exact⟨g5,_,rfl,M.o⟩)
  .subst hr;(go_wp2_with (first|((refine zALd (ztVd) ?_;clear M;intro w' g M);(obtain⟨g5,hg0⟩:∃y,y=g:=⟨_,rfl⟩);subst hg0)|refine zBDd 121 [(0,.int .u64 (tg.n:Int))] (fl [[.int .u64 (tg.n:Int)]]) (Ace _) ?_|((with_reducible apply Abt M.o Tryz.underlying22 [(0,.int .i64 1),(1,.int .i64 1),(2,.int .i64 2),(3,.int .i64 2),(4,.int .i64 3),(5,.int .i64 4)] [[.int .i64 1],[.int .i64 1],[.int .i64 2],[.int .i64 2],[.int .i64 3],[.int .i64 4]]);rfl;rfl;rfl;exact Acx;rfl;intro w' g M' hb';(replace M:=bx M';clear M');clear hb';refine zNM ?_)|refine zBDd 123 [(0,.agg (fl [[.int .u64 (tg.n:Int)]]).toArray),(1,.int .i64 1)] (fl (vdP ⟨tg,1,r0⟩)) (Adx tg 1) ?_|(refine zSSd M 0 (vdP ⟨tg,1,r0⟩) (vdP ⟨tg,1,r0⟩) (Abe _) (Aen _) ?_;clear M;intro w' M)|refine zLAd ?_));replace M:=bx (M.o.drop2);go_meet;(case rel=>exact⟨g5,_,rfl,M.o⟩)
  .subst hr;(go_wp2_with (first|((refine zALd (ztVd) ?_;clear M;intro w' g M);(obtain⟨g5,hg0⟩:∃y,y=g:=⟨_,rfl⟩);subst hg0)|refine zBDd 121 [(0,.int .u64 (tg.n:Int))] (fl [[.int .u64 (tg.n:Int)]]) (Ace _) ?_|((with_reducible apply Abt M.o Tryz.underlying22 [(0,.int .i64 1),(1,.int .i64 1),(2,.int .i64 2),(3,.int .i64 2),(4,.int .i64 3),(5,.int .i64 4)] [[.int .i64 1],[.int .i64 1],[.int .i64 2],[.int .i64 2],[.int .i64 3],[.int .i64 4]]);rfl;rfl;rfl;exact Acx;rfl;intro w' g M' hb';(replace M:=bx M';clear M');clear hb';refine zNM ?_)|refine zBDd 123 [(0,.agg (fl [[.int .u64 (tg.n:Int)]]).toArray),(1,.int .i64 2)] (fl (vdP ⟨tg,2,r0⟩)) (Adx tg 2) ?_|(refine zSSd M 0 (vdP ⟨tg,2,r0⟩) (vdP ⟨tg,2,r0⟩) (Abe _) (Aen _) ?_;clear M;intro w' M)|refine zLAd ?_));replace M:=bx (M.o.drop2);go_meet;(case rel=>exact⟨g5,_,rfl,M.o⟩)
  .subst hr;(go_wp2_with (first|((refine zALd (ztVd) ?_;clear M;intro w' g M);(obtain⟨g5,hg0⟩:∃y,y=g:=⟨_,rfl⟩);subst hg0)|refine zBDd 121 [(0,.int .u64 (tg.n:Int))] (fl [[.int .u64 (tg.n:Int)]]) (Ace _) ?_|((with_reducible apply Abt M.o Tryz.underlying22 [(0,.int .i64 1),(1,.int .i64 1),(2,.int .i64 2),(3,.int .i64 2),(4,.int .i64 3),(5,.int .i64 4)] [[.int .i64 1],[.int .i64 1],[.int .i64 2],[.int .i64 2],[.int .i64 3],[.int .i64 4]]);rfl;rfl;rfl;exact Acx;rfl;intro w' g M' hb';(replace M:=bx M';clear M');clear hb';refine zNM ?_)|refine zBDd 123 [(0,.agg (fl [[.int .u64 (tg.n:Int)]]).toArray),(1,.int .i64 2)] (fl (vdP ⟨tg,2,r0⟩)) (Adx tg 2) ?_|(refine zSSd M 0 (vdP ⟨tg,2,r0⟩) (vdP ⟨tg,2,r0⟩) (Abe _) (Aen _) ?_;clear M;intro w' M)|refine zLAd ?_));replace M:=bx (M.o.drop2);go_meet;(case rel=>exact⟨g5,_,rfl,M.o⟩)
  .subst hr;(go_wp2_with (first|((refine zALd (ztVd) ?_;clear M;intro w' g M);(obtain⟨g5,hg0⟩:∃y,y=g:=⟨_,rfl⟩);subst hg0)|refine zBDd 121 [(0,.int .u64 (tg.n:Int))] (fl [[.int .u64 (tg.n:Int)]]) (Ace _) ?_|((with_reducible apply Abt M.o Tryz.underlying22 [(0,.int .i64 1),(1,.int .i64 1),(2,.int .i64 2),(3,.int .i64 2),(4,.int .i64 3),(5,.int .i64 4)] [[.int .i64 1],[.int .i64 1],[.int .i64 2],[.int .i64 2],[.int .i64 3],[.int .i64 4]]);rfl;rfl;rfl;exact Acx;rfl;intro w' g M' hb';(replace M:=bx M';clear M');clear hb';refine zNM ?_)|refine zBDd 123 [(0,.agg (fl [[.int .u64 (tg.n:Int)]]).toArray),(1,.int .i64 3)] (fl (vdP ⟨tg,3,r0⟩)) (Adx tg 3) ?_|(refine zSSd M 0 (vdP ⟨tg,3,r0⟩) (vdP ⟨tg,3,r0⟩) (Abe _) (Aen _) ?_;clear M;intro w' M)|refine zLAd ?_));replace M:=bx (M.o.drop2);go_meet;(case rel=>exact⟨g5,_,rfl,M.o⟩)
  .subst hr;(go_wp2_with (first|((refine zALd (ztVd) ?_;clear M;intro w' g M);(obtain⟨g5,hg0⟩:∃y,y=g:=⟨_,rfl⟩);subst hg0)|refine zBDd 121 [(0,.int .u64 (tg.n:Int))] (fl [[.int .u64 (tg.n:Int)]]) (Ace _) ?_|((with_reducible apply Abt M.o Tryz.underlying22 [(0,.int .i64 1),(1,.int .i64 1),(2,.int .i64 2),(3,.int .i64 2),(4,.int .i64 3),(5,.int .i64 4)] [[.int .i64 1],[.int .i64 1],[.int .i64 2],[.int .i64 2],[.int .i64 3],[.int .i64 4]]);rfl;rfl;rfl;exact Acx;rfl;intro w' g M' hb';(replace M:=bx M';clear M');clear hb';refine zNM ?_)|refine zBDd 123 [(0,.agg (fl [[.int .u64 (tg.n:Int)]]).toArray),(1,.int .i64 4)] (fl (vdP ⟨tg,4,r0⟩)) (Adx tg 4) ?_|(refine zSSd M 0 (vdP ⟨tg,4,r0⟩) (vdP ⟨tg,4,r0⟩) (Abe _) (Aen _) ?_;clear M;intro w' M)|refine zLAd ?_));replace M:=bx (M.o.drop2);go_meet;(case rel=>exact⟨g5,_,rfl,M.o⟩)
 clear M htg htl e4 f4 d4 i4 hq4 c4
 obtain⟨g5,v1,rfl,hM⟩:=hcut
 have M:=bx hM
 clear hM
 go_upto_region 2 with fail
 go_cut [6]from 11 (fun s6 wx=>∃(g6:Nat) (r:Rt),s6=.pointer (some ⟨g6,0,none⟩)/\MM Γ w Γ wx [⟨g6,[rc r],[32]⟩,⟨g5,vdP v1,vdL⟩,⟨g4,vdP vd0,vdL⟩,⟨g2,zsP z x,zsL⟩] [])
 case first=>
  refine Aad [16] (.steps [(1,0),(1,1),(1,2),(0,3),(1,4),(1,5),(1,6),(1,7),(0,8),(1,9),(1,10),(1,11),(1,12),(1,13),(0,14),(2,15),(3,16)] .leaf) (by kernel_rfl) (by kernel_rfl) ?_;(simp only[MixT8,MT.steps,stepAt,List.getD_cons_zero,List.getD_cons_succ]);replace M:=bx (M.o.drew)
  refine zNM ?_
  (repeat(first|refine zM0 ?_|(go_big_quiet_want;first|((first|refine zQHd HA ?_|refine zQFd F1 ?_);go_big_quiet_on;refine zNM ?_)|(refine zQO ?_;go_big_quiet_on))))
  refine zH8 M ?_;clear M;intro w8 M
  refine AaA (AaR rfl ztRt) rfl ?_;refine⟨ext_alloc _ _,?_⟩;replace M:=bx (M.o.alloc (P:=[rc r0]) (ls:=[32]) (lenR _) rfl 29);refine zNM ?_
  refine zMRd ?_
  refine zH8 M ?_;clear M;intro w8 M
  refine zXS M 0 [rc y.b.root] [rc y.b.root] (lenR _) (Aac _) ?_;clear M;intro w7 M
  refine zH8 M ?_;clear M;intro w9 M;refine NoPanic.normal ?_
  (go_wp2_with (fail))
  go_meet;(case rel=>exact⟨_,_,rfl,M.o⟩)
 clear M hp0 hpi hp1 F1 nz
 obtain⟨g6,r1,rfl,hM⟩:=hcut
 have M:=bx hM
 clear hM
 obtain⟨q8,hq8,i8⟩:∃q:Nat,(k:Int) / 256=(q:Int)/\q<=k:=⟨k / 256,by simp,Nat.div_le_self _ _⟩;have c8:(0:Int)<=(q8:Int):=(by omega)
 obtain⟨r8,e8,f8⟩:=AbL q8 8 (by decide) 8 rfl;have d8:(0:Int)<=(r8:Int):=(by omega)
 obtain⟨q11,hq11,i11⟩:∃q:Nat,(k:Int) / 2048=(q:Int)/\q<=k:=⟨k / 2048,by simp,Nat.div_le_self _ _⟩;have c11:(0:Int)<=(q11:Int):=(by omega)
 go_upto_region 4 with(refine zLHd HVR ?_)
 go_cut [47]from 11 (fun s47 wx=>∃bb,s47=.bool bb/\(bb=true->0<nr)/\MM Γ w Γ wx [⟨g6,[rc r1],[32]⟩,⟨g5,vdP v1,vdL⟩,⟨g4,vdP vd0,vdL⟩,⟨g2,zsP z x,zsL⟩] [])
 case first=>
  by_cases hz:¬0<nr
  .have h1:¬(0:Int)<(nr:Int):=by omega
   clear hz
   (go_wp2_with (fail))
   go_meet;(case rel=>exact⟨_,rfl,fun h=>(by cases h),M.o⟩)
  .have h1:(0:Int)<(nr:Int):=by omega
   by_cases hr:r8=0
   .subst hr
    (go_wp2_with (fail))
    go_meet;(case rel=>exact⟨_,rfl,fun h=>(by cases h),M.o⟩)
   .have hr':(0:Int)<(r8:Int):=by omega
    (go_wp2_with (fail))
    go_meet;(case rel=>exact⟨_,rfl,fun _=>(by omega),M.o⟩)
 clear M e8 f8 d8 i8 hq8 c8
 obtain⟨bb,rfl,hbb,hM⟩:=hcut
 have M:=bx hM
 clear hM
 go_upto_if 47 with fail
 go_cut [8]from 11 (fun s8 wx=>∃(vv:Vd) (r:Rt),MM Γ w Γ wx [⟨g6,[rc r],[32]⟩,⟨g5,vdP vv,vdL⟩,⟨g4,vdP vd0,vdL⟩,⟨g2,zsP z x,zsL⟩] [])
 case first=>
  cases bb with
  |true=>
   have hnr1:=hbb rfl
   clear hbb
   obtain⟨p7,hp7,hp8⟩:∃p7:Nat,(q11:Int)%(nr:Int)=(p7:Int)/\p7<nr:=⟨q11%nr,by omega,Nat.mod_lt _ (by omega)⟩
   have nzr:((nr:Int)==0)=false:=by rw[beq_eq_false_iff_ne];omega
   have hps:p7<z.reqs.length:=by rw[<-HRL.o];exact hp8
   obtain⟨gr,hA,hf⟩:=HG.o.reqs.fz (f:=rqP) (k:=35) AaY rfl p7 hps
   have hpr:(p7:Int)<(nr:Int):=by omega
   have hpr0:0<=(p7:Int):=by omega
   have HAR:Bx (x.reqs.v=.slice (some ⟨gr,0,none⟩) nr x.reqs.c):=⟨by rw[hA];have:=HVR.o;simp only[Value.slice.injEq]at this;rw[this.2.1]⟩
   have F7:=bx hf
   clear hA hf
   generalize z.reqs[p7]=q at *
   clear hps hp8
   (go_wp2_with (fail))
   refine Aad [9] (.steps [(1,0),(0,1),(1,2),(1,3),(1,4),(1,5),(1,6),(0,7),(2,8),(3,9)] .leaf) (by kernel_rfl) (by kernel_rfl) ?_;(simp only[MixT8,MT.steps,stepAt,List.getD_cons_zero,List.getD_cons_succ]);replace M:=bx (M.o.drew)
   refine zNM ?_
   (repeat(first|refine zM0 ?_|(go_big_quiet_want;first|((first|refine zQHd HAR ?_|refine zQFd F7 ?_);go_big_quiet_on;refine zNM ?_)|(refine zQO ?_;go_big_quiet_on))))
   refine zH8 M ?_;clear M;intro w8 M
   refine AaA (AaR rfl ztRq) rfl ?_;refine⟨ext_alloc _ _,?_⟩;replace M:=bx (M.o.alloc (P:=(rqP rq0)) (ls:=[1,32,1,1]) (AaY _) rfl 151);refine zNM ?_
   refine zMRd ?_
   refine zH8 M ?_;clear M;intro w8 M
   refine zXS M 0 (rqP q) (rqP q) (AaY _) (AbF _) ?_;clear M;intro w7 M
   refine zH8 M ?_;clear M;intro w9 M;refine NoPanic.normal ?_
   (go_wp2_with (fail))
   (obtain⟨g8,hg8⟩:=AgN M.o);rw[<-hg8]at M |-;clear hg8
   refine AaF (fun w'=>HL w' g8 (rqP q) [1,32,1,1]) (.steps [(1,0),(1,1),(0,2),(1,3),(0,4),(1,5),(1,6),(3,7),(3,8)] .leaf) (by kernel_rfl) (by kernel_rfl) M.o.drew.at0 ?_;(simp only[MixT7,MT.steps,stepI,List.getD_cons_zero,List.getD_cons_succ]);replace M:=bx (M.o.drew)
   refine zNM ?_
   (repeat(first|refine zM0 ?_|(go_big_quiet_want;first|(refine zQL (fun _ h=>h) (AaY _) ?_;go_big_quiet_on;refine zNM ?_)|(refine zQO ?_;go_big_quiet_on))))
   refine zX1 M 2 (.int .u64 (q.tag.n:Int)) (vdP {v1 with tag:=q.tag}) ?_;clear M;intro w7 M
   refine⟨M.o.at0,?_⟩
   refine zMR7 ?_
   refine zXS M 1 [rc q.block] [rc q.block] (lenR _) (Aac _) ?_;clear M;intro w7 M
   refine⟨M.o.at0,?_⟩
   refine NoPanic.normal ?_
   (go_wp2_with (fail))
   go_meet;(case rel=>exact⟨_,_,M.o.tail⟩)
  |false=>
   (go_wp2_with (fail))
   go_meet;(case rel=>exact⟨_,_,M.o⟩)
 clear M hbb HVR HRL q11 hq11 i11 c11
 obtain⟨v2,r2,hM⟩:=hcut
 have M:=bx hM
 clear hM r1 v1
 (go_wp2_with (refine zLAd ?_))
 refine zCA M (FND.o r2 _ M.ok) ?_;clear M;intro w1 M
 generalize fndI z.s.nodes r2=fi at *
 (go_wp2_with (refine zLAd ?_))
 (refine(PA.o fi _ M.ok).mono ?_)
 rintro e1 w1 ⟨A,c,Γ',rfl,hcap,hsl,hx⟩
 replace M:=bx (M.o.call hx)
 have HG2:=bx (HG.o.mono hx.le)
 have HS:=bx hsl
 have PL2:=bx (PL.o fi)
 clear hcap hsl hx PA FND HG PL
 generalize pathI z.s.nodes fi=K at *
 obtain⟨q14,hq14,i14⟩:∃q:Nat,(k:Int) / 16384=(q:Int)/\q<=k:=⟨k / 16384,by simp,Nat.div_le_self _ _⟩;have c14:(0:Int)<=(q14:Int):=(by omega)
 obtain⟨r14,e14,f14⟩:=AbL q14 4 (by decide) 4 rfl;have d14:(0:Int)<=(r14:Int):=(by omega)
 obtain⟨q16,hq16,i16⟩:∃q:Nat,(k:Int) / 65536=(q:Int)/\q<=k:=⟨k / 65536,by simp,Nat.div_le_self _ _⟩;have c16:(0:Int)<=(q16:Int):=(by omega)
 go_upto_region 9 with fail
 go_cut [81]from 11 (fun s81 wx=>∃bb,s81=.bool bb/\(bb=true->0<K.length)/\MM Γ w Γ' wx [⟨g6,[rc r2],[32]⟩,⟨g5,vdP v2,vdL⟩,⟨g4,vdP vd0,vdL⟩,⟨g2,zsP z x,zsL⟩] [])
 case first=>
  by_cases hz:¬0<K.length
  .have h1:¬(0:Int)<(K.length:Int):=by omega
   clear hz
   (go_wp2_with (fail))
   go_meet;(case rel=>exact⟨_,rfl,fun h=>(by cases h),M.o⟩)
  .have h1:(0:Int)<(K.length:Int):=by omega
   by_cases hr:r14=0
   .subst hr
    (go_wp2_with (fail))
    go_meet;(case rel=>exact⟨_,rfl,fun h=>(by cases h),M.o⟩)
   .have hr':(0:Int)<(r14:Int):=by omega
    (go_wp2_with (fail))
    go_meet;(case rel=>exact⟨_,rfl,fun _=>(by omega),M.o⟩)
 clear M e14 f14 d14 r14
 obtain⟨bb,rfl,hbb,hM⟩:=hcut
 have M:=bx hM
 clear hM
 go_upto_if 81 with fail
 go_cut []from 11 (fun wx=>∃(vv:Vd),MM Γ w Γ' wx [⟨g6,[rc r2],[32]⟩,⟨g5,vdP vv,vdL⟩,⟨g4,vdP vd0,vdL⟩,⟨g2,zsP z x,zsL⟩] [])
 case first=>
  cases bb with
  |true=>
   have hK1:=hbb rfl
   clear hbb
   obtain⟨p7,hp7,hp8⟩:∃p7:Nat,(q16:Int)%(K.length:Int)=(p7:Int)/\p7<K.length:=⟨q16%K.length,by omega,Nat.mod_lt _ (by omega)⟩
   have nzr:((K.length:Int)==0)=false:=by rw[beq_eq_false_iff_ne];omega
   obtain⟨gk,rfl,hc⟩:=Aet HS.o p7 hp8
   have hyN:=PL2.o _ (List.getElem_mem hp8)
   have hpk:(p7:Int)<(K.length:Int):=by omega
   have hpk0:0<=(p7:Int):=by omega
   generalize K[p7]=j at *
   have F8:Bx (Fz Γ' gk p7 [[.int .i64 (j:Int)]] [1]):=⟨⟨hc,rfl⟩⟩
   obtain⟨gm,hA,hf⟩:=HG2.o.s.nodeAt j hyN
   have HAN:Bx (x.s.nodes.v=.slice (some ⟨gm,0,none⟩) N x.s.nodes.c):=⟨by rw[hA];have:=HV.o;simp only[Value.slice.injEq]at this;rw[this.2.1]⟩
   have F9:=bx hf
   have hjN:(j:Int)<(N:Int):=by have:=HNL.o;omega
   have hj0:0<=(j:Int):=by omega
   clear hA hf hc
   generalize z.s.nodes[j]=y9 at *
   clear hyN hp8
   (go_wp2_with (fail))
   refine Aad [17] (.steps [(1,0),(1,1),(1,2),(0,3),(1,4),(1,5),(1,6),(1,7),(1,8),(1,9),(1,10),(0,11),(1,12),(1,13),(1,14),(0,15),(1,16),(3,17)] .leaf) (by kernel_rfl) (by kernel_rfl) ?_;(simp only[MixT8,MT.steps,stepAt,List.getD_cons_zero,List.getD_cons_succ]);replace M:=bx (M.o.drew)
   refine zNM ?_
   (repeat(first|refine zM0 ?_|(go_big_quiet_want;first|((first|refine zQHd HAN ?_|refine zQFd F8 ?_|refine zQFd F9 ?_);go_big_quiet_on;refine zNM ?_)|(refine zQO ?_;go_big_quiet_on))))
   refine zH8 M ?_;clear M;intro w8 M
   refine zXS M 1 [rc y9.b.payload] (vdP {v2 with latest:=y9.b.payload}) (lenR _) (Aac _) ?_;clear M;intro w7 M
   refine zH8 M ?_;clear M;intro w9 M;refine NoPanic.normal ?_
   (go_wp2_with (fail))
   go_meet;(case rel=>exact⟨_,M.o⟩)
  |false=>
   (go_wp2_with (fail))
   go_meet;(case rel=>exact⟨_,M.o⟩)
 clear M hbb HG2 HS PL2
 obtain⟨v3,hM⟩:=hcut
 have M:=bx hM
 clear hM v2
 obtain⟨r14,e14,f14⟩:=AbL q14 16 (by decide) 16 rfl;have d14:(0:Int)<=(r14:Int):=(by omega)
 go_upto_if 102 with fail
 go_cut []from 11 (fun wx=>∃(vv:Vd),MM Γ w Γ' wx [⟨g6,[rc r2],[32]⟩,⟨g5,vdP vv,vdL⟩,⟨g4,vdP vd0,vdL⟩,⟨g2,zsP z x,zsL⟩] [])
 case first=>
  by_cases hr:r14=0
  .subst hr
   (go_wp2_with (fail))
   refine zCB M (AbQ _ _) ?_;clear M;intro w1 M
   (go_wp2_with (refine zSSd M 1 [rc (rtB 4000)] (vdP {v3 with latest:=rtB 4000}) (lenR _) (Aac _) ?_;clear M;intro w' M))
   go_meet;(case rel=>exact⟨_,M.o⟩)
  .have h1:((r14:Int)==0)=false:=by rw[beq_eq_false_iff_ne];omega
   (go_wp2_with (fail))
   go_meet;(case rel=>exact⟨_,M.o⟩)
 clear M
 obtain⟨v4,hM⟩:=hcut
 have M:=bx hM
 clear hM v3
 (go_wp2_with (first|(refine zSSd M 2 (vdP v4) (vdP v4) (Abe _) (Aen _) ?_;clear M;intro w' M)|refine zLAd ?_))
 refine zR M.o.at2 ?_
 exact⟨v4,rfl,Ext.below OK.o M.bel⟩
end Go.Proofs.YtpaihpeoiliioaaGreat
