/- Texts joined: what the walks of this claim stand on (part 41 of 43). -/
import Derived.Test.YtmgeheaneohldaaGreatYK40
set_option linter.all false
set_option maxRecDepth 20000
set_option maxHeartbeats 40000000
namespace Go.Proofs.YtmgeheaneohldaaGreat
open Go.RowKit Go.Proofs.YtmgeheaneohldaaGreat.Old
theorem AmE:FldT Tryz.prog 54 0 0 49:=⟨_,_,Tryz.underlying54,rfl,rfl,rfl⟩
theorem Ang:FldT Tryz.prog 37 1 1 29:=⟨_,_,Tryz.underlying37,rfl,rfl,rfl⟩
theorem Ahv(c:Cf)(bal:List U):(newS c bal).nod 0=some ⟨genB c,-1,1⟩:=rfl
theorem Alt(c:Cf)(bal:List U):(newS c bal).src 0=⟨u0,c.gen⟩:=by
 unfold Sto.src
 rw[Ahv]
 unfold Sto.srcN
 simp only[]
 split<;>rfl
theorem AgK(c:Cf)(bal:List U):(newS c bal).qual 0=true:=by
 unfold Sto.qual
 rw[Ahv]
 unfold Sto.qualN
 have h1:decide ((1:Int)≠2)=true:=rfl
 have h2:decide ((newS c bal).just.e.n=0)=true:=rfl
 simp only[h2,Bool.true_or,Bool.and_true]
 rfl
theorem AjB(c:Cf)(bal:List U):(newS c bal).qual 1=false:=rfl
theorem AjP(c:Cf)(bal:List U):(newS c bal).lives = [true]:=by
 show [(newS c bal).liveF (1+1) 0] = [true]
 rw[AgW (AgK c bal)]
theorem AmH(c:Cp):fl (List.take 1 (List.drop 1 (cpP c)))=rc c.r:=by show fl [rc c.r]=rc c.r;simp[fl]
theorem Abd(w:World):Calls Tryz.prog 20 #[] w fun e w'=>e=.returned (.bool true)/\Below w.heap.size w w':=by
 have M:=bx (MM.start (AeE w))
 go_enter Tryz.func20,Tryz.ntmps20
 (go_wp2_with (first|go_skip|(refine zBXd ?_;clear M;intro w' g M)|(refine zALd (ztSt) ?_;clear M;intro w' g M)|fail|refine zLAd ?_))
 refine(Aep g0 none 0 0 [] _ M.ok (Row.nil ..) (Nat.zero_le _)).mono ?_
 rintro e1 w1 ⟨cf,sb,bal,Γ1,rfl,hcb,hsb,hx⟩
 replace M:=bx (M.out.call hx)
 have HCB:=bx hcb
 have HSB:=bx hsb
 clear hx hcb hsb
 (go_wp2_with (first|go_skip|(refine zBXd ?_;clear M;intro w' g M)|(refine zALd (ztSt) ?_;clear M;intro w' g M)|fail|refine zLAd ?_))
 refine(new_any Γ1 cf sb bal HCB.out.ok _ M.ok HSB.out).mono ?_
 rintro e1 w1 ⟨v,Γ2,rfl,hg,hx⟩
 replace M:=bx (M.out.call hx)
 have SO:=bx (Alt cf bal)
 have Q0:=bx (AgK cf bal)
 have Q1:=bx (AjB cf bal)
 have LI:=bx (AjP cf bal)
 have HI:=bx (AjG HCB.out)
 have HGC:Bx ((newS cf bal).c.gen=cf.gen):=⟨rfl⟩
 have HG:=bx hg
 clear hx hg HSB HCB
 generalize newS cf bal=s at *
 have LV:=bx (fun w ok=>Ado Γ2 s v HI.out.spe (Abu HI.out.t.lk) (Aln HI.out.t.lk) HI.out.t.pos (by have:=HI.out.nl;omega) w ok HG.out)
 rw[LI.out]at LV
 (go_wp2_with (first|go_skip|(refine zBXd ?_;clear M;intro w' g M)|(refine zALd (ztSt) ?_;clear M;intro w' g M)|(refine zSSd M 0 (stP s v) (stP s v) (AaD _ _) (Aac _ _) ?_;clear M;intro w' M)|refine zLAd ?_))
 refine(LV.out _ M.ok).mono ?_
 rintro e1 w1 ⟨A,c,Γ3,rfl,hcap,hsl,hx⟩
 replace M:=bx (M.out.call hx)
 obtain⟨gl,rfl,hfl⟩:=Ady hsl 0 (by decide)
 have FL:Bx (Fz Γ3 gl 0 [[.bool true]] [1]):=⟨⟨hfl,rfl⟩⟩
 have HG3:=bx (HG.out.mono hx.le)
 clear hx hcap hsl hfl LV LI HG
 have V0:Bx (∀w',Ok Γ3 w'->Calls Tryz.prog 18 #[.agg (fl (stP s v)).toArray,.int .i64 0] w' fun e w''=>e=.returned (.bool true)/\Ext Γ3 w' Γ3 w''):=⟨fun w' ok'=>by have:=AbK Γ3 s v 0 HI.out.spe w' ok' HG3.out;rwa [Q0.out]at this⟩
 have V1:Bx (∀w',Ok Γ3 w'->Calls Tryz.prog 18 #[.agg (fl (stP s v)).toArray,.int .i64 1] w' fun e w''=>e=.returned (.bool false)/\Ext Γ3 w' Γ3 w''):=⟨fun w' ok'=>by have:=AbK Γ3 s v 1 HI.out.spe w' ok' HG3.out;rwa [Q1.out]at this⟩
 have V2:Bx (∀w',Ok Γ3 w'->Calls Tryz.prog 16 #[.agg (fl (stP s v)).toArray,.int .i64 0] w' fun e w''=>e=.returned (.agg (fl (cpP ⟨u0,cf.gen⟩)).toArray)/\Ext Γ3 w' Γ3 w''):=⟨fun w' ok'=>by have:=Acc Γ3 s v 0 HI.out.spe w' ok' HG3.out;rwa [SO.out]at this⟩
 rw[<-HGC.out]at V2
 clear Q0 Q1 SO HGC HG3 HI
 (go_wp2_with (first|go_skip|(refine zBXd ?_;clear M;intro w' g M)|(refine zALd (ztSt) ?_;clear M;intro w' g M)|fail|refine zLAd ?_))
 have C0:=bx (clsE M.out fun w' ok'=>V0.out w' ok')
 have C1:=bx (clsE M.out fun w' ok'=>V1.out w' ok')
 have C2:=bx (clsE M.out fun w' ok'=>V2.out w' ok')
 clear V0 V1 V2
 have hq:∀w,(Op.equalIn 10000 29 (.agg (rc s.c.gen).toArray) (.agg (rc s.c.gen).toArray)).run Tryz.prog w=.ok true w:=fun w=>by rw[AbC];simp
 refine zRG ?_;(repeat(first|go_big_quiet_skip|(go_big_quiet_want;first|(refine zQC (AaI C0.out) Tryz.func18 ?_;go_big_quiet_on;refine zNM ?_)|(refine zQC (AaI C1.out) Tryz.func18 ?_;go_big_quiet_on;refine zNM ?_)|(refine zQC (AaI C2.out) Tryz.func16 ?_;go_big_quiet_on;refine zNM ?_)|(refine zQFd FL ?_;go_big_quiet_on;refine zNM ?_)|((with_reducible apply AcS Ang);rfl;rfl;exact AaA _;exact zrts;rfl;(simp only[Nat.zero_add,AmH]);go_big_quiet_on;refine zNM ?_)|(refine zQAd ?_;go_big_quiet_on;refine zNM ?_)|(refine zQO ?_;go_big_quiet_on))));(refine zQN ?_;clear M;intro w4 M)
 (go_wp2_with (first|go_skip|(refine zBXd ?_;clear M;intro w' g M)|(refine zALd (ztSt) ?_;clear M;intro w' g M)|fail|refine zLAd ?_))
 go_ret
 exact⟨rfl,M.bel⟩
theorem viabilityExact_walk(a0:Option Addr)(n0 c0:Nat)(l0:List Int)(a1:Int)(w:World)(_:Fit .i64 l0)(_:l0.length=n0)(hr0:Row w w.heap.size 1 a0 n0 (ints .i64 l0))(hnc0:n0<=c0)(hcm0:c0<=maxLen)(_:(Lit.int .i64 a1).wf=true) :
  Calls Tryz.prog 3 #[.slice a0 n0 c0,.int .i64 a1] w fun e w'=>e=.returned (.bool true)/\Below w.heap.size w w':=by
 have M:=bx (MM.start (AeE w))
 have ST:=bx (Adr g0 a0 n0 c0 l0 w (AeE w) hr0 (Nat.le_trans hnc0 hcm0))
 clear hr0 hnc0 hcm0
 go_enter Tryz.func3,Tryz.ntmps3
 (go_wp2_with (first|go_skip|(refine zBXd ?_;clear M;intro w' g M)|(refine zALd (ztSt) ?_;clear M;intro w' g M)|fail|refine zLAd ?_))
 refine ST.out.mono ?_
 rintro e1 w1 ⟨x,z,Γ1,rfl,hz,hg,hx⟩
 replace M:=bx (M.out.call hx)
 have HI:=bx hz.s
 have HG:=bx hg.s
 have HN0:x.s.nodes.n=z.s.nodes.length:=hg.s.nodes.n
 clear hx hz hg ST
 go_upto_region 2 with(first|go_skip|((with_reducible apply Adn AmE);rfl;rfl;rfl;exact AaL _ _;exact zrts;rfl;refine zCT ?_)|((refine zALd (ztSt) ?_;clear M;intro w' g M);(obtain⟨g5,hg0⟩:∃y,y=g:=⟨_,rfl⟩);subst hg0)|(refine zSSd M 0 (stP z.s x.s) (stP z.s x.s) (AaD _ _) (Aac _ _) ?_;clear M;intro w' M)|refine zLAd ?_)
 generalize z.s=s at *
 generalize x.s=v at *
 have hlo:=HI.out.spe.lo
 have LVc:Bx (∀Γ' w,Le Γ1 Γ'->Ok Γ' w->Calls Tryz.prog 14 #[.agg (fl (stP s v)).toArray] w (BlsP Γ' w s.lives)):=⟨fun Γ' w hl ok=>Ado Γ' s v HI.out.spe (Abu HI.out.t.lk) (Aln HI.out.t.lk) HI.out.t.pos (by have:=HI.out.nl;omega) w ok (HG.out.mono hl)⟩
 have RLc:Bx (∀Γ' w,Le Γ1 Γ'->Ok Γ' w->Calls Tryz.prog 15 #[.agg (fl (stP s v)).toArray] w (BlsP Γ' w s.lives)):=⟨fun Γ' w hl ok=>AgU Γ' s v hlo (Abu HI.out.t.lk) (by have:=HI.out.nl;omega) w ok (HG.out.mono hl)⟩
 have LL:Bx (s.lives.length=s.nodes.length):=⟨by simp[Sto.lives]⟩
 obtain⟨N,hN⟩:∃N,v.nodes.n=N:=⟨_,rfl⟩
 have HV:Bx (v.nodes.v=.slice v.nodes.A N v.nodes.c):=⟨by rw[<-hN]⟩
 rw[hN]at HN0
 rw[<-HN0]at LL
 have HLN:=bx HN0
 clear HN0 hN
 generalize s.lives=lv at *
 refine Aab [] (.steps [(0,0),(0,2),(2,1),(2,3),(1,4),(1,5)] .leaf) (by kernel_rfl) (by kernel_rfl) ?_;(simp only[MixT8,MT.steps,stepAt,List.getD_cons_zero,List.getD_cons_succ]);replace M:=bx (M.out.drew)
 refine zNM ?_
 refine zMRd ?_
 refine zH8 M ?_;clear M;intro w8 M
 refine zMC (LVc.out Γ1 _ (Le.refl _) M.ok) Tryz.func14 ?_
 rintro e1 w1 ⟨A,c,Γ2,rfl,hcap,hsl,hx⟩
 refine⟨_,rfl,hx.bel,?_⟩
 replace M:=bx (M.out.call hx)
 have HL1:=bx hsl
 have LE1:=bx hx.le
 clear hx hcap hsl LVc
 refine zNM ?_
 refine zMRd ?_
 refine zH8 M ?_;clear M;intro w8 M
 refine zMC (RLc.out Γ2 _ LE1.out M.ok) Tryz.func15 ?_
 rintro e1 w1 ⟨B,c',Γ3,rfl,hcap,hsl,hx⟩
 refine⟨_,rfl,hx.bel,?_⟩
 replace M:=bx (M.out.call hx)
 have HL2:=bx hsl
 have HL1':=bx (HL1.out.mono hx.le)
 have HG3:=bx (HG.out.mono (LE1.out.trans hx.le))
 clear hx hcap hsl RLc HL1 LE1 HG
 refine zNM ?_
 refine zMRd ?_
 refine zH8 M ?_;clear M;intro w9 M;refine NoPanic.normal ?_
 have VS:=bx (fun i w' ok'=>Acc Γ3 s v i HI.out.spe w' ok' HG3.out)
 have RS:=bx (fun i w' ok'=>AfG Γ3 s v i hlo w' ok' HG3.out)
 have VQ:=bx (fun i w' ok'=>AbK Γ3 s v i HI.out.spe w' ok' HG3.out)
 have RQ:=bx (fun i w' ok'=>AdY Γ3 s v i hlo w' ok' HG3.out)
 have hnb:N<=4096:=by have h1:=HI.out.nl;have h2:=HLN.out;omega
 clear HG3 HI hlo
 obtain⟨nl,hnl⟩:∃n,lv.length=n:=⟨_,rfl⟩
 have HNL:=bx hnl
 rw[hnl]at HL1' HL2 LL |-
 have hNN:nl=N:=LL.out
 subst hNN
 clear hnl LL
 (go_wp2_with (first|go_skip|(refine zBXd ?_;clear M;intro w' g M)|(refine zALd (ztSt) ?_;clear M;intro w' g M)|fail|refine zLAd ?_))
 go_loopw [8] (fun i wr=>∃j:Nat,j<=nl+2/\i=.int .i64 ((j:Int)-1)/\MM g0 w Γ3 wr [⟨g5,stP s v,stL⟩] []) (fun i _=>nl+3-(intOf i+1).toNat)
 case atStart=>exact⟨0,by omega,rfl,M.out⟩
 case round=>
  obtain⟨j,hj,rfl,hM⟩:=hrel
  clear M
  have M:=bx hM
  clear hM
  obtain⟨i,hi⟩:∃i:Int,(j:Int)-1=i:=⟨_,rfl⟩
  rw[hi]
  by_cases hin:i<=(nl:Int)
  .have hi0:-1<=i:=by omega
   (go_wp2_with (first|go_skip|(refine zBXd ?_;clear M;intro w' g M)|(refine zALd (ztSt) ?_;clear M;intro w' g M)|refine zLHd HV ?_|refine zLAd ?_))
   have C0:=bx (clsE M.out fun w' ok'=>VS.out i w' ok');have C1:=bx (clsE M.out fun w' ok'=>RS.out i w' ok');have C2:=bx (clsE M.out fun w' ok'=>VQ.out i w' ok');have C3:=bx (clsE M.out fun w' ok'=>RQ.out i w' ok')
   have hq:∀w,(Op.equalIn 10000 37 (.agg (fl (cpP (s.src i))).toArray) (.agg (fl (cpP (s.src i))).toArray)).run Tryz.prog w=.ok true w:=fun w=>by rw[AdS];simp
   generalize s.src i=sc at *
   generalize s.qual i=qq at *
   by_cases h0:0<=i
   .by_cases hN:i<(nl:Int)
    .obtain⟨k,rfl⟩:∃k:Nat,i=(k:Int):=⟨i.toNat,by omega⟩
     have hk:k<lv.length:=by rw[HNL.out];omega
     obtain⟨g1,rfl,hc1⟩:=Ady (by rw[HNL.out];exact HL1'.out) k hk
     obtain⟨g2,rfl,hc2⟩:=Ady (by rw[HNL.out];exact HL2.out) k hk
     have F1:Bx (Fz Γ3 g1 k [[.bool lv[k]]] [1]):=⟨⟨hc1,rfl⟩⟩
     have F2:Bx (Fz Γ3 g2 k [[.bool lv[k]]] [1]):=⟨⟨hc2,rfl⟩⟩
     clear hc1 hc2
     generalize lv[k]=bk at *
     clear hk
     cases bk<;>cases qq<;>(focus(refine zRG ?_;(repeat(first|go_big_quiet_skip|(go_big_quiet_want;first|(refine zQC (AaI C0.out) Tryz.func16 ?_;go_big_quiet_on;refine zNM ?_)|(refine zQC (AaI C1.out) Tryz.func17 ?_;go_big_quiet_on;refine zNM ?_)|(refine zQC (AaI C2.out) Tryz.func18 ?_;go_big_quiet_on;refine zNM ?_)|(refine zQC (AaI C3.out) Tryz.func19 ?_;go_big_quiet_on;refine zNM ?_)|(refine zQFd F1 ?_;go_big_quiet_on;refine zNM ?_)|(refine zQFd F2 ?_;go_big_quiet_on;refine zNM ?_)|(refine zQAd ?_;go_big_quiet_on;refine zNM ?_)|(refine zQO ?_;go_big_quiet_on))));(refine zQN ?_;clear M;intro w4 M);(go_wp2_with (first|go_skip|(refine zBXd ?_;clear M;intro w' g M)|(refine zALd (ztSt) ?_;clear M;intro w' g M)|fail|refine zLAd ?_));go_roundw;(case rel=>exact⟨j+1,by omega,by rw[show((j+1:Nat):Int)-1=(k:Int)+1 by omega],M.out⟩);(case measure=>simp[intOf];omega)))
    .cases qq<;>(focus(refine zRG ?_;(repeat(first|go_big_quiet_skip|(go_big_quiet_want;first|(refine zQC (AaI C0.out) Tryz.func16 ?_;go_big_quiet_on;refine zNM ?_)|(refine zQC (AaI C1.out) Tryz.func17 ?_;go_big_quiet_on;refine zNM ?_)|(refine zQC (AaI C2.out) Tryz.func18 ?_;go_big_quiet_on;refine zNM ?_)|(refine zQC (AaI C3.out) Tryz.func19 ?_;go_big_quiet_on;refine zNM ?_)|fail|(refine zQAd ?_;go_big_quiet_on;refine zNM ?_)|(refine zQO ?_;go_big_quiet_on))));(refine zQN ?_;clear M;intro w4 M);(go_wp2_with (first|go_skip|(refine zBXd ?_;clear M;intro w' g M)|(refine zALd (ztSt) ?_;clear M;intro w' g M)|fail|refine zLAd ?_));go_roundw;(case rel=>exact⟨j+1,by omega,by rw[show((j+1:Nat):Int)-1=i+1 by omega],M.out⟩);(case measure=>simp[intOf];omega)))
   .cases qq<;>(focus(refine zRG ?_;(repeat(first|go_big_quiet_skip|(go_big_quiet_want;first|(refine zQC (AaI C0.out) Tryz.func16 ?_;go_big_quiet_on;refine zNM ?_)|(refine zQC (AaI C1.out) Tryz.func17 ?_;go_big_quiet_on;refine zNM ?_)|(refine zQC (AaI C2.out) Tryz.func18 ?_;go_big_quiet_on;refine zNM ?_)|(refine zQC (AaI C3.out) Tryz.func19 ?_;go_big_quiet_on;refine zNM ?_)|fail|(refine zQAd ?_;go_big_quiet_on;refine zNM ?_)|(refine zQO ?_;go_big_quiet_on))));(refine zQN ?_;clear M;intro w4 M);(go_wp2_with (first|go_skip|(refine zBXd ?_;clear M;intro w' g M)|(refine zALd (ztSt) ?_;clear M;intro w' g M)|fail|refine zLAd ?_));go_roundw;(case rel=>exact⟨j+1,by omega,by rw[show((j+1:Nat):Int)-1=i+1 by omega],M.out⟩);(case measure=>simp[intOf];omega)))
  .clear HL1' HL2
   (go_wp2_with (first|go_skip|(refine zBXd ?_;clear M;intro w' g M)|(refine zALd (ztSt) ?_;clear M;intro w' g M)|refine zLHd HV ?_|refine zLAd ?_))
   have C0:=bx (clsE M.out fun w' ok'=>VS.out a1 w' ok')
   have C1:=bx (clsE M.out fun w' ok'=>RS.out a1 w' ok')
   have C2:=bx (clsE M.out fun w' ok'=>VQ.out a1 w' ok')
   have C3:=bx (clsE M.out fun w' ok'=>RQ.out a1 w' ok')
   have hq:∀w,(Op.equalIn 10000 37 (.agg (fl (cpP (s.src a1))).toArray) (.agg (fl (cpP (s.src a1))).toArray)).run Tryz.prog w=.ok true w:=fun w=>by rw[AdS];simp
   generalize s.src a1=sc at *
   generalize s.qual a1=qq at *
   cases qq<;>(focus(refine zRG ?_;(repeat(first|go_big_quiet_skip|(go_big_quiet_want;first|(refine zQC (AaI C0.out) Tryz.func16 ?_;go_big_quiet_on;refine zNM ?_)|(refine zQC (AaI C1.out) Tryz.func17 ?_;go_big_quiet_on;refine zNM ?_)|(refine zQC (AaI C2.out) Tryz.func18 ?_;go_big_quiet_on;refine zNM ?_)|(refine zQC (AaI C3.out) Tryz.func19 ?_;go_big_quiet_on;refine zNM ?_)|(refine zQC (AdL (fun w' _=>Abd w')) Tryz.func20 ?_;go_big_quiet_on;refine zNM ?_)|(refine zQAd ?_;go_big_quiet_on;refine zNM ?_)|(refine zQO ?_;go_big_quiet_on))));(refine zQN ?_;clear M;intro w4 M);(go_wp2_with (first|go_skip|(refine zBXd ?_;clear M;intro w' g M)|(refine zALd (ztSt) ?_;clear M;intro w' g M)|fail|refine zLAd ?_));go_ret;exact⟨rfl,M.bel⟩))
end Go.Proofs.YtmgeheaneohldaaGreat
