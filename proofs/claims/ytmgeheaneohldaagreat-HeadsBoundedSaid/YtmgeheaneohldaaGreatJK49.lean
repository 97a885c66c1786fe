/- Texts joined: what the walks of this claim stand on (part 49). -/
import Derived.Test.YtmgeheaneohldaaGreatJK48
set_option linter.all false
set_option maxRecDepth 20000
set_option maxHeartbeats 40000000
namespace Go.Proofs.YtmgeheaneohldaaGreat
open Go.RowKit Old
theorem headsBounded_walk(a0:Option Addr)(n0 c0:Nat)(l0:List Int)(w:World)(_:Fit .i64 l0)(_:l0.length=n0)(hr0:Row w w.heap.size 1 a0 n0 (ints .i64 l0))(hnc0:n0<=c0)(hcm0:c0<=maxLen) :
  Calls Tryz.prog 9 #[.slice a0 n0 c0] w fun e w'=>e=.returned (.bool true)/\Below w.heap.size w w':=by
 have M:=bx (MM.start (Acy w))
 have ST:=bx (Ab9 g0 a0 n0 c0 l0 w (Acy w) hr0 (Nat.le_trans hnc0 hcm0))
 clear hr0 hnc0 hcm0
 go_enter Tryz.func9,Tryz.ntmps9
 (go_wp2_with (fail))
 refine ST.o.mono ?_
 rintro e1 w1 ⟨x,z,Γ1,rfl,hz,hg,hx⟩
 replace M:=bx (M.o.call hx)
 have H:=bx (HOk.mk hz.s (by decide) hg.s)
 clear hx hz hg ST
 go_upto_region 2 with(first|((with_reducible apply Ab7 Aj7);rfl;rfl;rfl;exact AaJ _ _;exact zrts;rfl;refine zCT ?_)|((refine zALd (ztSt) ?_;clear M;intro w' g M);(obtain⟨g5,hg0⟩:∃y,y=g:=⟨_,rfl⟩);subst hg0)|(refine zSSd M 0 (stP z.s x.s) (stP z.s x.s) (AaD _ _) (AaX _ _) ?_;clear M;intro w' M))
 generalize z.s=s at *
 generalize x.s=v at *
 (go_wp2_with (refine zLAd ?_))
 refine(AbP Γ1 s v _ H.o.si H.o.k _ M.ok H.o.g).mono ?_
 rintro e1 w1 ⟨A1,c1,Γ2,rfl,hcap,hsl,hx⟩
 replace M:=bx (M.o.call hx)
 have H2:=bx (H.o.mono hx.le)
 have HS1:=bx hsl
 clear hx hcap hsl H
 have hw:=H2.o.si.wok H2.o.k
 have HN0:v.nodes.n=s.nodes.length:=H2.o.g.nodes.n
 have HV:Bx (v.nodes.v=.slice v.nodes.A s.nodes.length v.nodes.c):=⟨by rw[<-HN0]⟩
 have BA:=bx (fun w ok=>AfV Γ2 s v w ok H2.o.g hw.tb)
 have SM:Bx (∀(A:Option Addr) (c:Nat) w,Ok Γ2 w->SlG Γ2 A s.balj.length (us s.balj)->Calls Tryz.prog 37 #[.slice A s.balj.length c] w fun e w'=>e=.returned (.tuple #[.int .u64 (Old.sumV (ub s.balj)),.int .i64 (Old.sumE (ub s.balj))])/\w=w'):=⟨fun A c w ok hA=>by
  have:=(AeL hA ok).row
  exact Old.ref_sum w.heap.size A s.balj.length c (ub s.balj) w this (AmG _) (by have:=hw.b7;omega)⟩
 have hsum:=Aca hw.sm.1
 have hsumb:=hw.sm.2
 have AM:Bx (∀w,Calls Tryz.prog 39 #[.agg (fl (cfP s.c v.bal)).toArray,.int .u64 (ub s.balj).sum] w fun e w'=>e=.returned (.tuple #[.int .u64 (amt (s.c.spe.n:Int) (s.c.bp.n:Int) (ub s.balj).sum),.int .i64 (amtE (s.c.spe.n:Int) (s.c.bp.n:Int) (ub s.balj).sum)])/\Below w.heap.size w w'):=⟨fun w=>
  Aef (fl (cfP s.c v.bal)) (s.c.spe.n:Int) (s.c.bp.n:Int) (ub s.balj).sum w rfl rfl (by omega) (by have:=s.c.spe.lt;omega) (by omega) (by have:=s.c.bp.lt;omega) hsum (by omega)⟩
 have SA:Bx (amt (s.c.spe.n:Int) (s.c.bp.n:Int) (ub s.balj).sum=s.am):=⟨by unfold Sto.am;rw[AkR hw.sm]⟩
 have SVT:=bx (AkR hw.sm)
 have AMB:=bx (AkL hw.sm)
 have HB:=bx (fun i (hi:i<s.nodes.length)=>Agv H2.o.si.t hw.sm hi)
 have KL:=bx (fun i u (hi:i<s.nodes.length) (hu:u<s.nodes.length) e=>Al5 H2.o.si.t hw.sm hi hu e)
 have WI:=bx (fun i (hi:i<s.nodes.length) h2=>ApM H2.o.si.t hw.sm s.nodes.length i hi (by omega) h2)
 have WR:=bx (Apk H2.o.si.t hw.sm)
 have LK:=bx H2.o.si.t.lk
 have hnb:=hw.nb
 have hps:=hw.pos
 have WL:=bx (Abd s)
 have HGN:=bx H2.o.g.nodes
 have HS1':Bx (SlG Γ2 A1 s.wts.length (us s.wts)):=⟨by rw[Abd];exact HS1.o⟩
 rw[SVT.o]at SM
 rw[SA.o]at AM
 have hw64:(ub s.balj).sum+s.am<18446744073709551616:=by have:=AMB.o;omega
 have hwr:IntKind.u64.wrap ((ub s.balj).sum+s.am)=(ub s.balj).sum+s.am:=Acn (by have:=AMB.o;omega) (by omega)
 clear hw HN0 H2 SVT SA hsumb HS1
 generalize(ub s.balj).sum=sm at *
 generalize s.am=am at *
 (go_wp2_with (first|refine zLHd HV ?_|refine zLAd ?_))
 refine(BA.o _ M.ok).mono ?_
 rintro e1 w1 ⟨A3,c3,rfl,hc3,hs3,hx⟩
 replace M:=bx (M.o.call hx)
 have HS3:=bx hs3
 clear hc3 hs3 hx BA
 (go_wp2_with (fail))
 refine(SM.o A3 c3 _ M.ok HS3.o).mono ?_
 rintro e2 w2 ⟨rfl,rfl⟩
 clear SM HS3
 (go_wp2_with (refine zLAd ?_))
 refine(AM.o _).mono ?_
 rintro e3 w3 ⟨rfl,hx3⟩
 replace M:=bx (M.o.below hx3)
 clear hx3 AM
 obtain⟨N,hN⟩:∃N,s.nodes.length=N:=⟨_,rfl⟩
 have HLN:=bx hN
 rw[hN]at HV hnb hps WL |-
 clear hN
 (go_wp2_with (fail))
 go_loopw [9] (fun i wr=>∃j:Nat,1<=j/\j<=N/\i=.int .i64 (j:Int)/\MM g0 w Γ2 wr [⟨g5,stP s v,stL⟩] []) (fun i _=>N-(intOf i).toNat)
 case atStart=>exact⟨1,Nat.le_refl _,hps,rfl,M.o⟩
 case round=>
  obtain⟨j,hj1,hj,rfl,hM⟩:=hrel
  clear M
  have M:=bx hM
  clear hM
  by_cases hjN:j<N
  .have hjl:j<s.nodes.length:=by rw[HLN.o];exact hjN
   have hjw:j<s.wts.length:=by rw[WL.o];exact hjN
   obtain⟨u,hu,eu⟩:∃u:Nat,u<j/\s.nodes[j].up=(u:Int):=by
    rcases Adn LK.o hjl with⟨h0,_⟩|h
    .omega
    .exact h
   have hul:u<s.nodes.length:=by omega
   have huw:u<s.wts.length:=by rw[WL.o];omega
   obtain⟨g1,hA1,hf1⟩:=Ac4 HS1'.o j hjw
   subst hA1
   obtain⟨g1',e1',hf2⟩:=Ac4 HS1'.o u huw
   obtain rfl:g1=g1':=by simpa using e1'
   obtain⟨gn,hA,hfn⟩:=HGN.o.fz (f:=noP) (k:=240) AaI rfl j hjl
   have HA:Bx (v.nodes.v=.slice (some ⟨gn,0,none⟩) N v.nodes.c):=⟨by rw[hA,HGN.o.n,HLN.o]⟩
   have F1:Bx (Fz Γ2 g1 j [[.int .u64 (s.wts[j].n:Int)]] [1]):=⟨hf1,rfl⟩
   have F2:Bx (Fz Γ2 g1 u [[.int .u64 (s.wts[u].n:Int)]] [1]):=⟨hf2,rfl⟩
   have F3:=bx hfn
   have b1:=HB.o j hjl
   have b2:=HB.o u hul
   have b3:=KL.o j u hjl hul eu
   have hz:s.nodes[j].st=2->s.wts[j].n=0:=fun h2=>by
    have:=WI.o j hjl h2
    rw[List.getD,List.getElem?_eq_getElem hjw,Option.getD_some]at b1
    omega
   rw[List.getD,List.getElem?_eq_getElem hjw,Option.getD_some]at b1
   rw[List.getD,List.getElem?_eq_getElem huw,Option.getD_some]at b2
   have hle:s.wts[j].n<=s.wts[u].n:=by omega
   have hji:(j:Int)<(N:Int):=by omega
   have hj0:(0:Int)<=(j:Int):=by omega
   have hui:(u:Int)<(N:Int):=by omega
   have hu0:(0:Int)<=(u:Int):=by omega
   have hMs:N-(j+1)<N-j:=by omega
   have HMS:=bx hMs
   clear hf1 hf2 e1' hA hfn b1 b2 b3 hMs
   generalize s.wts[j]=wj at *
   generalize s.wts[u]=wu at *
   generalize s.nodes[j]=y at *
   have hd1:decide ((wu.n:Int)<(wj.n:Int))=false:=decide_eq_false (by omega)
   have hd2:¬(wu.n:Int)<(wj.n:Int):=by omega
   have hd3:¬wu.n<wj.n:=by omega
   have hd4:decide (wu.n<wj.n)=false:=decide_eq_false hd3
   have HUP:=bx eu
   by_cases h2:y.st=2
   .have hst:(y.st==2)=true:=by simp[h2]
    have hw0:=hz h2
    have hne:((wj.n:Int) != 0)=false:=by simp[hw0]
    have hne2:((wj.n:Int)==0)=true:=by simp[hw0]
    clear hz h2 hw0 hle
    (go_wp2_with (fail))
    refine zRG ?_;(repeat((go_big_quiet_want;first|(refine zQFd F1 ?_;go_big_quiet_on;refine zNM ?_)|(refine zQFd F2 ?_;go_big_quiet_on;refine zNM ?_)|(refine zQHd HA ?_;go_big_quiet_on;refine zNM ?_)|(refine zQFd F3 ?_;go_big_quiet_on;refine zNM ?_)|(refine zQO ?_;go_big_quiet_on))));(refine zQN ?_;clear M;intro w4 M)
    (go_wp2_with (fail))
    go_roundw
    case rel=>exact⟨j+1,by omega,by omega,by go_num,M.o⟩
    case measure=>have:=HMS.o;simp[intOf];omega
   .have hst:(y.st==2)=false:=by simpa using h2
    clear hz h2 hle
    (go_wp2_with (fail))
    refine zRG ?_;(repeat(first|go_big_quiet_skip|(go_big_quiet_want;first|(refine zQFd F1 ?_;go_big_quiet_on;refine zNM ?_)|(refine zQFd F2 ?_;go_big_quiet_on;refine zNM ?_)|(refine zQHd HA ?_;go_big_quiet_on;refine zNM ?_)|(refine zQFd F3 ?_;go_big_quiet_on;refine zNM ?_)|(refine zQO ?_;go_big_quiet_on))));(refine zQN ?_;clear M;intro w4 M)
    (go_wp2_with (fail))
    go_roundw
    case rel=>exact⟨j+1,by omega,by omega,by go_num,M.o⟩
    case measure=>have:=HMS.o;simp[intOf];omega
  .obtain rfl:j=N:=by omega
   have h0w:0<s.wts.length:=by rw[WL.o];exact hps
   obtain⟨g1,hA1,hf1⟩:=Ac4 HS1'.o 0 h0w
   subst hA1
   have F1:Bx (Fz Γ2 g1 0 [[.int .u64 (s.wts[0].n:Int)]] [1]):=⟨hf1,rfl⟩
   have b1:=HB.o 0 (by rw[HLN.o];exact hps)
   rw[List.getD,List.getElem?_eq_getElem h0w,Option.getD_some]at b1
   have hle:(s.wts[0].n:Int)<=sm+am:=by have:=WR.o;omega
   have hled:decide ((s.wts[0].n:Int)<=sm+am)=true:=decide_eq_true hle
   clear hf1 b1
   generalize s.wts[0]=w0 at *
   (go_wp2_with (refine zRFd F1 ?_))
   refine zCB M (Acj _) ?_;clear M;intro w1 M
   (go_wp2_with (fail))
   go_ret
   exact⟨rfl,M.bel⟩
end Go.Proofs.YtmgeheaneohldaaGreat
