/- Texts joined: what the walks of this claim stand on (part 43 of 43). -/
import Derived.Test.YtmgeheaneohldaaGreatYK41
set_option linter.all false
set_option maxRecDepth 20000
set_option maxHeartbeats 40000000
namespace Go.Proofs.YtmgeheaneohldaaGreat
open Go.RowKit Go.Proofs.YtmgeheaneohldaaGreat.Old
theorem Aka{s:Sto}{i:Nat}(hi:i<s.nodes.length)(h:s.nodes[i].st=2):s.qual (i:Int)=false:=by
 unfold Sto.qual
 rw[AeZ hi]
 exact AdZ h
theorem AlW{s:Sto}{i:Nat}(hi:i<s.nodes.length):s.src (i:Int)=s.srcN s.nodes[i]:=by
 unfold Sto.src
 rw[AeZ hi]
theorem AjA{s:Sto}{i:Nat}(hi:i<s.nodes.length)(h:s.nodes[i].st≠2) :
  s.qual (i:Int)=(decide (s.just.e.n=0)||decide ((s.src (i:Int)).e.n=s.just.e.n)||decide ((s.ep s.now).n<=(s.src (i:Int)).e.n+2)):=by
 rw[AlW hi]
 unfold Sto.qual
 rw[AeZ hi]
 simp only[]
 rw[AeW h,Bool.or_assoc (decide (s.just.e.n=0)||_),<-Bool.decide_or]
 congr 1
 rw[<-Bool.decide_or,decide_eq_decide]
 omega
theorem Amj{k:Nat}{s:Sto}(h:SI k s)(u:U){i:Nat}(hi:i<s.nodes.length):(({s with now:=u}:Sto).src (i:Int)).e.n<=k:=by
 rw[AlW (s:={s with now:=u}) hi]
 have ho:=h.ord s.nodes[i] (List.getElem_mem hi)
 have hn:=h.now
 unfold ordrd at ho
 obtain⟨h1,h2⟩:=ho
 have h3:=of_decide_eq_true h1
 have h4:(epN s.nodes[i].b.slot s.c.spe).n<=s.nodes[i].b.slot.n:=Nat.div_le_self _ _
 show(({s with now:=u}:Sto).srcN s.nodes[i]).e.n<=k
 unfold Sto.srcN
 split<;>omega
theorem viabilityEpochs_walk(a0:Option Addr)(n0 c0:Nat)(l0:List Int)(a1 a2:Int)(w:World)(_:Fit .i64 l0)(_:l0.length=n0)(hr0:Row w w.heap.size 1 a0 n0 (ints .i64 l0))(hnc0:n0<=c0)(hcm0:c0<=maxLen)(_:(Lit.int .i64 a1).wf=true)(hw2:(Lit.int .u64 a2).wf=true) :
  Calls Tryz.prog 5 #[.slice a0 n0 c0,.int .i64 a1,.int .u64 a2] w fun e w'=>e=.returned (.bool true)/\Below w.heap.size w w':=by
 have M:=bx (MM.start (AeE w))
 have ST:=bx (Adr g0 a0 n0 c0 l0 w (AeE w) hr0 (Nat.le_trans hnc0 hcm0))
 clear hr0 hnc0 hcm0
 have hA2:0<=a2/\a2<18446744073709551616:=by
  have h:IntKind.u64.min<=a2/\a2<=IntKind.u64.max:=by simpa [Lit.wf]using hw2
  have e1:IntKind.u64.min=0:=by first|rfl|decide
  have e2:IntKind.u64.max=18446744073709551615:=by first|rfl|decide
  omega
 have hand:=Alo a2 5 (by decide) hA2.1 hA2.2
 obtain⟨r,hr,hr1⟩:∃r:Nat,a2%((2 ^ 5:Nat):Int)=(r:Int)/\r<=31:=⟨(a2%32).toNat,by simp;omega,by omega⟩
 rw[hr]at hand
 clear hr hA2 hw2
 have hat:=Agy a1
 obtain⟨m,hm,hm0⟩:∃m:Nat,a1%65536=(m:Int)/\m<65536:=⟨(a1%65536).toNat,by omega,by omega⟩
 rw[hm]at hat
 clear hm
 go_enter Tryz.func5,Tryz.ntmps5
 (go_wp2_with (first|go_skip|(refine zBXd ?_;clear M;intro w' g M)|(refine zALd (ztSt) ?_;clear M;intro w' g M)|fail|refine zLAd ?_))
 refine ST.out.mono ?_
 rintro e1 w1 ⟨x,z,Γ1,rfl,hz,hg,hx⟩
 replace M:=bx (M.out.call hx)
 have HI:=bx hz.s
 have HG:=bx hg.s
 have HN0:x.s.nodes.n=z.s.nodes.length:=hg.s.nodes.n
 clear hx hz hg ST
 go_upto_region 2 with(first|go_skip|((with_reducible apply Adn AmE);rfl;rfl;rfl;exact AaL _ _;exact zrts;rfl;refine zCT ?_)|((refine zALd (ztSt) ?_;clear M;intro w' g M);(obtain⟨g5,hg0⟩:∃y,y=g:=⟨_,rfl⟩);subst hg0)|(refine zSSd M 0 (stP z.s x.s) (stP z.s x.s) (AaD _ _) (Aac _ _) ?_;clear M;intro w' M)|refine zLAd ?_)
 generalize z.s=s0 at *
 generalize x.s=v at *
 have hnow:=HI.out.now
 obtain⟨u,hu,hu2⟩:∃u:U,IntKind.u64.wrap ((s0.now.n:Int)+(r:Int))=(u.n:Int)/\(u.n:Int)=(s0.now.n:Int)+(r:Int):=⟨⟨s0.now.n+r,by omega⟩,by simp[IntKind.wrap,IntKind.bits,IntKind.signed];omega,by simp⟩
 have hand1:bits BinOp.and IntKind.u64 a2 31=(r:Int):=hand
 obtain⟨s,hs⟩:∃s:Sto,s = {s0 with now:=u}:=⟨_,rfl⟩
 have hspe:SpeOk s:=by rw[hs];exact⟨HI.out.spe.lo,HI.out.spe.hi⟩
 have HS:Bx (SpeOk s):=⟨hspe⟩
 have hnz:((s.c.spe.n:Int)==0)=false:=by have:=hspe.lo;rw[beq_eq_false_iff_ne];omega
 have hnz0:¬s.c.spe.n=0:=by have:=hspe.lo;omega
 have hN:v.nodes.n=s.nodes.length:=by rw[hs];exact HN0
 have hpos:0<s.nodes.length:=by rw[hs];exact HI.out.t.pos
 have HGS:Bx (StG Γ1 v s):=⟨by rw[hs];exact⟨HG.out.bal,HG.out.lat,HG.out.eqv,HG.out.early,HG.out.orph,HG.out.nodes,HG.out.tabs⟩⟩
 have SL:∀i,i<s.nodes.length->(s.src (i:Int)).e.n<=24:=by rw[hs];exact fun i hi=>Amj HI.out u hi
 have HP:Bx (stP {s0 with now:=u} v=stP s v):=⟨by rw[hs]⟩
 clear hspe HN0 HG hnow
 obtain⟨N,hNN⟩:∃N,v.nodes.n=N:=⟨_,rfl⟩
 rw[hNN]at hN
 have HV:Bx (v.nodes.v=.slice v.nodes.A N v.nodes.c):=⟨by rw[<-hNN]⟩
 have hN1:0<N:=by omega
 have nz:((N:Int)==0)=false:=by rw[beq_eq_false_iff_ne];omega
 obtain⟨i,hi0,hi1⟩:∃i:Nat,(m:Int)%(N:Int)=(i:Int)/\i<N:=⟨m%N,by omega,Nat.mod_lt _ hN1⟩
 have hil:i<s.nodes.length:=by omega
 have hii:(i:Int)<(N:Int):=by omega
 have hi2:(0:Int)<=(i:Int):=by omega
 have hm2:(0:Int)<=(m:Int):=by omega
 go_upto_region 3 with(first|go_skip|((rw[<-hu2]);(refine zS1d M 0 (.int .u64 (u.n:Int)) (stP {s0 with now:=u} v) ?_;clear M;intro w' M))|refine zLAd ?_)
 rw[HP.out]at M
 have SE:=SL i hil
 have QI:=bx (fun h=>Aka (s:=s) hil h)
 have QW:=bx (fun h=>AjA (s:=s) hil h)
 obtain⟨gn,hA,hf⟩:=HGS.out.nodeAt i hil
 have HA:Bx (v.nodes.v=.slice (some ⟨gn,0,none⟩) N v.nodes.c):=⟨by rw[hA];have:=HV.out;simp only[Value.slice.injEq]at this;rw[this.2.1]⟩
 have F1:=bx hf
 have VQ:=bx (fun w' ok'=>AbK Γ1 s v (i:Int) HS.out w' ok' HGS.out)
 have VS:=bx (fun w' ok'=>Acc Γ1 s v (i:Int) HS.out w' ok' HGS.out)
 clear hs HP SL hf hA HGS HS HI hu hu2 hr1 hand1 hand hm0 hpos hN hNN
 generalize s.nodes[i]=y at *
 generalize s.src (i:Int)=sc at *
 by_cases hst:y.st=2
 .have hs2:(y.st==2)=true:=by rw[hst];rfl
  have hq:=QI.out hst
  rw[hq]at VQ
  clear QI QW VS hq
  (go_wp2_with (first|go_skip|(refine zBXd ?_;clear M;intro w' g M)|(refine zALd (ztSt) ?_;clear M;intro w' g M)|refine zLHd HA ?_|refine zRFd F1 ?_|refine zLAd ?_))
  refine zCA M (VQ.out _ M.ok) ?_;clear M;intro w1 M
  (go_wp2_with (first|go_skip|(refine zBXd ?_;clear M;intro w' g M)|(refine zALd (ztSt) ?_;clear M;intro w' g M)|fail|refine zLAd ?_))
  refine zCB M (Abd _) ?_;clear M;intro w1 M
  (go_wp2_with (first|go_skip|(refine zBXd ?_;clear M;intro w' g M)|(refine zALd (ztSt) ?_;clear M;intro w' g M)|fail|refine zLAd ?_))
  go_ret
  exact⟨rfl,M.bel⟩
 .have hs2:(y.st==2)=false:=beq_eq_false_iff_ne.2 hst
  have hq:=QW.out hst
  have hep:=Adu s.now s.c.spe
  change _=((s.ep s.now).n:Int)at hep
  generalize s.ep s.now=ep at *
  clear QI QW
  go_upto_region 6 with(first|go_skip|refine zLHd HA ?_|refine zRFd F1 ?_|refine zLAd ?_)
  rw[hi0]
  have C0:=bx (clsE M.out fun w' ok'=>VS.out w' ok')
  refine zRG ?_;(repeat(first|go_big_quiet_skip|(go_big_quiet_want;first|(refine zQC (AaI C0.out) Tryz.func16 ?_;go_big_quiet_on;refine zNM ?_)|((with_reducible apply Acq Adh);rfl;rfl;exact AaA _;exact zots;rfl;rfl;go_big_quiet_on;refine zNM ?_)|((with_reducible apply AcS Adh);rfl;rfl;exact AaA _;exact zrts;rfl;refine zCT ?_;go_big_quiet_on;refine zNM ?_)|(refine zQAd ?_;go_big_quiet_on;refine zNM ?_)|(refine zQO ?_;go_big_quiet_on))));(refine zQN ?_;clear M;intro w4 M)
  clear C0 VS
  have e2:IntKind.u64.wrap ((sc.e.n:Int)+2)=(sc.e.n:Int)+2:=by simp[IntKind.wrap,IntKind.bits,IntKind.signed];omega
  by_cases c1:s.just.e.n=0
  .have d1:((s.just.e.n:Int)==0)=true:=by rw[beq_iff_eq];omega
   have hq2:s.qual (i:Int)=true:=by rw[hq,decide_eq_true c1];rfl
   rw[hq2]at VQ
   clear hq hq2 c1
   (go_wp2_with (first|go_skip|(refine zBXd ?_;clear M;intro w' g M)|(refine zALd (ztSt) ?_;clear M;intro w' g M)|fail|refine zLAd ?_));(refine zCA M (VQ.out _ M.ok) ?_;clear M;intro w1 M);((go_wp2_with (first|go_skip|(refine zBXd ?_;clear M;intro w' g M)|(refine zALd (ztSt) ?_;clear M;intro w' g M)|fail|refine zLAd ?_)));(refine zCB M (Abd _) ?_;clear M;intro w1 M);((go_wp2_with (first|go_skip|(refine zBXd ?_;clear M;intro w' g M)|(refine zALd (ztSt) ?_;clear M;intro w' g M)|fail|refine zLAd ?_)));go_ret;exact⟨rfl,M.bel⟩
  .have d1:((s.just.e.n:Int)==0)=false:=by rw[beq_eq_false_iff_ne];omega
   by_cases c2:sc.e.n=s.just.e.n
   .have d2:((sc.e.n:Int)==(s.just.e.n:Int))=true:=by rw[beq_iff_eq];omega
    have hq2:s.qual (i:Int)=true:=by rw[hq,decide_eq_true c2,Bool.or_true];rfl
    rw[hq2]at VQ
    clear hq hq2 c1 c2
    (go_wp2_with (first|go_skip|(refine zBXd ?_;clear M;intro w' g M)|(refine zALd (ztSt) ?_;clear M;intro w' g M)|fail|refine zLAd ?_));(refine zCA M (VQ.out _ M.ok) ?_;clear M;intro w1 M);((go_wp2_with (first|go_skip|(refine zBXd ?_;clear M;intro w' g M)|(refine zALd (ztSt) ?_;clear M;intro w' g M)|fail|refine zLAd ?_)));(refine zCB M (Abd _) ?_;clear M;intro w1 M);((go_wp2_with (first|go_skip|(refine zBXd ?_;clear M;intro w' g M)|(refine zALd (ztSt) ?_;clear M;intro w' g M)|fail|refine zLAd ?_)));go_ret;exact⟨rfl,M.bel⟩
   .have d2:((sc.e.n:Int)==(s.just.e.n:Int))=false:=by rw[beq_eq_false_iff_ne];omega
    by_cases c3:ep.n<=sc.e.n+2
    .have d3:(ep.n:Int)<=(sc.e.n:Int)+2:=by omega
     have hq2:s.qual (i:Int)=true:=by rw[hq,decide_eq_true c3,Bool.or_true]
     rw[hq2]at VQ
     clear hq hq2 c1 c2 c3
     (go_wp2_with (first|go_skip|(refine zBXd ?_;clear M;intro w' g M)|(refine zALd (ztSt) ?_;clear M;intro w' g M)|fail|refine zLAd ?_));(refine zCA M (VQ.out _ M.ok) ?_;clear M;intro w1 M);((go_wp2_with (first|go_skip|(refine zBXd ?_;clear M;intro w' g M)|(refine zALd (ztSt) ?_;clear M;intro w' g M)|fail|refine zLAd ?_)));(refine zCB M (Abd _) ?_;clear M;intro w1 M);((go_wp2_with (first|go_skip|(refine zBXd ?_;clear M;intro w' g M)|(refine zALd (ztSt) ?_;clear M;intro w' g M)|fail|refine zLAd ?_)));go_ret;exact⟨rfl,M.bel⟩
    .have d3:¬(ep.n:Int)<=(sc.e.n:Int)+2:=by omega
     have hq2:s.qual (i:Int)=false:=by rw[hq,decide_eq_false c1,decide_eq_false c2,decide_eq_false c3];rfl
     rw[hq2]at VQ
     clear hq hq2 c1 c2 c3
     (go_wp2_with (first|go_skip|(refine zBXd ?_;clear M;intro w' g M)|(refine zALd (ztSt) ?_;clear M;intro w' g M)|fail|refine zLAd ?_));(refine zCA M (VQ.out _ M.ok) ?_;clear M;intro w1 M);((go_wp2_with (first|go_skip|(refine zBXd ?_;clear M;intro w' g M)|(refine zALd (ztSt) ?_;clear M;intro w' g M)|fail|refine zLAd ?_)));(refine zCB M (Abd _) ?_;clear M;intro w1 M);((go_wp2_with (first|go_skip|(refine zBXd ?_;clear M;intro w' g M)|(refine zALd (ztSt) ?_;clear M;intro w' g M)|fail|refine zLAd ?_)));go_ret;exact⟨rfl,M.bel⟩
end Go.Proofs.YtmgeheaneohldaaGreat
