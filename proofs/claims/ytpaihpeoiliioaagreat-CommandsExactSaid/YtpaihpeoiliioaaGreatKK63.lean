/- Texts joined (KK63). -/
import Derived.Test.YtpaihpeoiliioaaGreatKK61
set_option linter.all false
set_option maxRecDepth 20000
set_option maxHeartbeats 40000000
namespace Go.Proofs.YtpaihpeoiliioaaGreat
open Go.RowKit Old
theorem commandsExact_walk(a0:Option Addr)(n0 c0:Nat)(l0:List Int)(a1:Int)(w:World)(_:Fit .i64 l0)(_:l0.length=n0)(hr0:Row w w.heap.size 1 a0 n0 (ints .i64 l0))(hnc0:n0<=c0)(hcm0:c0<=maxLen)(_:(Lit.int .i64 a1).wf=true) :
  Calls Tryz.prog 4 #[.slice a0 n0 c0,.int .i64 a1] w fun e w'=>e=.returned (.bool true)/\Below w.heap.size w w':=by
 have M:=bx (MM.start (AiD w))
 have ST:=bx (Agf g0 a0 n0 c0 l0 w (AiD w) hr0 (Nat.le_trans hnc0 hcm0))
 clear hr0 hnc0 hcm0
 go_enter Tryz.func4,Tryz.ntmps4
 (go_wp2_with (first|go_skip|((first|refine zBXd ?_|refine zALd (ztZs) ?_);clear M;intro w' g M)|fail|refine zLAd ?_))
 refine ST.o.mono ?_
 rintro e1 w1 ⟨x,z,Γ1,rfl,hz,hg,hx⟩
 replace M:=bx (M.o.call hx)
 have HZ:=bx hz
 have HG:=bx hg
 clear hx hz hg ST
 go_upto_region 2 with(first|go_skip|((refine zALd (ztZs) ?_;clear M;intro w' g M);(obtain⟨g5,hg0⟩:∃y,y=g:=⟨_,rfl⟩);subst hg0)|(refine zSSd M 0 (zsP z x) (zsP z x) (AaH _ _) (AaP _ _) ?_;clear M;intro w' M)|refine zLAd ?_)
 go_upto_block 0 with fail
 go_cut []from 10 (fun wx=>∃q:Zst,q.s=z.s/\q.reqs=z.reqs/\q.rets=z.rets/\MM g0 w Γ1 wx [⟨g5,zsP q x,zsL⟩] [])
 case first=>
  as_aux_lemma=>
   generalize hb:bits .and .i64 a1 3=b at *
   clear hb
   by_cases h0:b=0
   .subst h0
    (go_wp2_with (first|go_skip|((first|refine zBXd ?_|refine zALd (ztZs) ?_);clear M;intro w' g M)|refine zBDd 52 [] (fl (cmP cm0)) (by kernel_rfl) ?_|((first|refine zS1d M 0 (.bool false) (zsP {z with sent:=false} x) ?_|refine zSSd M 0 (cmP cm0) (zsP {z with sent:=false,last:=cm0} x) (Aai _) (AdT _) ?_);clear M;intro w' M)|refine zLAd ?_))
    go_meet;(case rel=>exact⟨{z with sent:=false,last:=cm0},rfl,rfl,rfl,M.o⟩)
   .by_cases h1:b=1
    .subst h1
     (go_wp2_with (first|go_skip|((first|refine zBXd ?_|refine zALd (ztZs) ?_);clear M;intro w' g M)|fail|refine zLAd ?_))
     refine zCB M (AbQ _ _) ?_;clear M;intro w1 M
     (go_wp2_with (first|go_skip|((first|refine zBXd ?_|refine zALd (ztZs) ?_);clear M;intro w' g M)|(refine zSSd M 0 [rc (rtB _)] (zsP {z with last:=⟨z.last.head,rtB _,z.last.fin⟩} x) (lenR _) (Aac _) ?_;clear M;intro w' M)|refine zLAd ?_))
     go_meet;(case rel=>exact⟨{z with last:=⟨z.last.head,rtB _,z.last.fin⟩},rfl,rfl,rfl,M.o⟩)
    .by_cases h2:b=2
     .subst h2
      (go_wp2_with (first|go_skip|((first|refine zBXd ?_|refine zALd (ztZs) ?_);clear M;intro w' g M)|fail|refine zLAd ?_))
      refine zCB M (AbQ _ _) ?_;clear M;intro w1 M
      (go_wp2_with (first|go_skip|((first|refine zBXd ?_|refine zALd (ztZs) ?_);clear M;intro w' g M)|(refine zSSd M 0 [rc (rtB _)] (zsP {z with last:=⟨rtB _,z.last.safe,z.last.fin⟩} x) (lenR _) (Aac _) ?_;clear M;intro w' M)|refine zLAd ?_))
      go_meet;(case rel=>exact⟨{z with last:=⟨rtB _,z.last.safe,z.last.fin⟩},rfl,rfl,rfl,M.o⟩)
     .have e0:(b==0)=false:=by simp[h0]
      have e1:(b==1)=false:=by simp[h1]
      have e2:(b==2)=false:=by simp[h2]
      (go_wp2_with (first|go_skip|((first|refine zBXd ?_|refine zALd (ztZs) ?_);clear M;intro w' g M)|fail|refine zLAd ?_))
      go_meet;(case rel=>exact⟨z,rfl,rfl,rfl,M.o⟩)
 clear M
 obtain⟨q,hqs,hqr,hqt,hM⟩:=hcut
 have M:=bx hM
 have H:Bx (HOk Γ1 q.s x.s 24):=⟨⟨by rw[hqs];exact HZ.o.s,by decide,by rw[hqs];exact HG.o.s⟩⟩
 have GZ:Bx (ZsG Γ1 x q):=⟨⟨by rw[hqs];exact HG.o.s,by rw[hqr];exact HG.o.reqs,by rw[hqt];exact HG.o.rets⟩⟩
 have B1:Bx (q.reqs.length<=4096):=⟨by rw[hqr];have:=HZ.o.nreq;omega⟩
 have B2:Bx (q.rets.length<=4096):=⟨by rw[hqt];have:=HZ.o.nret;omega⟩
 have SZ:Bx (SzK q.s):=⟨H.o.si.szk (by decide)⟩
 have WK:Bx (WOk q.s):=⟨H.o.si.wok (by decide)⟩
 clear hM hqs hqr hqt HZ HG
 (go_wp2_with (first|go_skip|((first|refine zBXd ?_|refine zALd (ztZs) ?_);clear M;intro w' g M)|fail|refine zLAd ?_))
 refine(Aqz Γ1 q x 24 H.o SZ.o B1.o B2.o _ M.ok GZ.o).mono ?_
 rintro e1 w1 ⟨y,A2,c2,Γ2,rfl,hc2,hs2,hy,hx⟩
 replace M:=bx (M.o.call hx)
 have H2:=bx (H.o.mono hx.le)
 have G2:=bx (GZ.o.mono hx.le)
 have Y2:=bx hy
 have L2:Bx (SlR Γ2 ⟨A2,(emtL q).length,c2⟩ (emtL q).length ((emtL q).flatMap cmx)):=⟨⟨rfl,hc2,hs2⟩⟩
 clear hx hy hs2 hc2 H GZ
 go_upto_region 10 with(first|go_skip|((refine zALd (ztZs) ?_;clear M;intro w' g M);(obtain⟨g6,hg0⟩:∃y,y=g:=⟨_,rfl⟩);subst hg0)|(refine zSSd M 0 (zsP (emtZ q) y) (zsP (emtZ q) y) (AaH _ _) (AaP _ _) ?_;clear M;intro w' M)|refine zLAd ?_)
 (go_wp2_with (first|go_skip|((first|refine zBXd ?_|refine zALd (ztZs) ?_);clear M;intro w' g M)|fail|refine zLAd ?_))
 refine(AkP Γ2 q x WK.o _ M.ok G2.o).mono ?_
 rintro e1 w1 ⟨A3,c3,Γ3,rfl,hc3,hs3,hx⟩
 replace M:=bx (M.o.call hx)
 have H3:=bx (H2.o.mono hx.le)
 have G3:=bx (Aqv (G2.o.mono hx.le))
 have Y3:=bx (Aqv (Y2.o.mono hx.le))
 have EL:Bx ((emtL q).length<=4096):=⟨by unfold emtL;split<;>simp⟩
 have L4:=bx (L2.o.mono hx.le)
 have L5:Bx (SlR Γ3 ⟨A3,(emtL q).length,c3⟩ (emtL q).length ((emtL q).flatMap cmx)):=⟨⟨rfl,hc3,hs3⟩⟩
 have B3:Bx ((emtZ q).reqs.length<=4096/\(emtZ q).rets.length<=4096/\SzK (emtZ q).s):=⟨by unfold emtZ;split<;>exact⟨B1.o,B2.o,SZ.o⟩⟩
 clear hx hs3 hc3 H2 G2 Y2 L2 B1 B2 SZ
 go_upto_region 11 with(first|go_skip|((refine zALd (ztZs) ?_;clear M;intro w' g M);(obtain⟨g8,hg0⟩:∃y,y=g:=⟨_,rfl⟩);subst hg0)|(refine zSSd M 0 (zsP (emtZ q) x) (zsP (emtZ q) x) (AaH _ _) (AaP _ _) ?_;clear M;intro w' M)|refine zLAd ?_)
 have C1:=bx (clsE M.o fun w' ok'=>Amv Γ3 q.s x.s H3.o.nb w' ok' H3.o.g)
 have C2:=bx (clsE M.o fun w' ok'=>Anm Γ3 q.s x.s w' ok' H3.o.g)
 have C3:=bx (clsE M.o fun w' ok'=>Ail Γ3 q.s x.s 24 H3.o w' ok')
 have C4:=bx (clsE M.o fun w' ok'=>AjV Γ3 q.s x.s WK.o w' ok' H3.o.g)
 have C5:=bx (clsE M.o fun w' ok'=>sameZs_any Γ3 (emtZ q) y x B3.o.2.2 B3.o.1 B3.o.2.1 w' ok' Y3.o G3.o)
 have C6:=bx (clsE M.o fun w' ok'=>AqH Γ3 ⟨A2,(emtL q).length,c2⟩ ⟨A3,(emtL q).length,c3⟩ (emtL q) EL.o w' ok' L4.o L5.o)
 have hq1:=ApS (safeR q.s)
 have hq2:=Apy q.s.cmd
 clear H3 WK B3 Y3 G3 EL L4 L5
 generalize emtZ q=ez at *
 generalize emtL q=el at *
 generalize safeR q.s=sr at *
 generalize q.s.cmd=cm at *
 (go_wp2_with (first|go_skip|((first|refine zBXd ?_|refine zALd (ztZs) ?_);clear M;intro w' g M)|fail|refine zLAd ?_))
 refine zRG ?_;(repeat(first|go_big_quiet_skip|(go_big_quiet_want;first|((first|refine zQC (AaJ C1.o) Tryz.func17 ?_|refine zQC (AaJ C2.o) Tryz.func18 ?_|refine zQC (AaJ C3.o) Tryz.func19 ?_|refine zQC (AaJ C4.o) Tryz.func20 ?_|refine zQC (AaJ C5.o) Tryz.func21 ?_|refine zQC (AaJ C6.o) Tryz.func22 ?_|refine zQC (AfY (fun w1 _=>awake29_any w1)) Tryz.func23 ?_|refine zQAd ?_);go_big_quiet_on;refine zNM ?_)|(refine zQO ?_;go_big_quiet_on))));(refine zQN ?_;clear M;intro w4 M)
 (go_wp2_with (first|go_skip|((first|refine zBXd ?_|refine zALd (ztZs) ?_);clear M;intro w' g M)|fail|refine zLAd ?_))
 go_ret
 exact⟨rfl,M.bel⟩
end Go.Proofs.YtpaihpeoiliioaaGreat
