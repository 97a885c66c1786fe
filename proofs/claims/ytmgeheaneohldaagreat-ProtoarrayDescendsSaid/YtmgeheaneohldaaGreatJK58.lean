/- Texts joined: what the walks of this claim stand on (part 58). -/
import Derived.Test.YtmgeheaneohldaaGreatJK57
set_option linter.all false
set_option maxRecDepth 20000
set_option maxHeartbeats 40000000
namespace Go.Proofs.YtmgeheaneohldaaGreat
open Go.RowKit Old
def endI(s:Sto)(i:Int):Int:=headF s.nodes s.wts s.lives s.nodes.length i
theorem ArD{s:Sto}(hk:Lk (upsN s.nodes)){c:Nat}(hc:c<s.nodes.length):∃m:Nat,endI s (c:Int)=(m:Int)/\c<=m/\m<s.nodes.length:=by
 obtain⟨m,h1,h2,h3⟩:=Aeb (W:=s.wts) (L:=s.lives) hk hc ⟨s.nodes.length,rfl⟩
 refine⟨m,h2,?_,h1⟩
 have:=AhQ hk h1 h3
 omega
theorem protoarrayDescends_walk(a0:Option Addr)(n0 c0:Nat)(l0:List Int)(w:World)(_:Fit .i64 l0)(_:l0.length=n0)(hr0:Row w w.heap.size 1 a0 n0 (ints .i64 l0))(hnc0:n0<=c0)(hcm0:c0<=maxLen) :
  Calls Tryz.prog 12 #[.slice a0 n0 c0] w fun e w'=>e=.returned (.bool true)/\Below w.heap.size w w':=by
 have M:=bx (MM.start (Acy w))
 have ST:=bx (Ab9 g0 a0 n0 c0 l0 w (Acy w) hr0 (Nat.le_trans hnc0 hcm0))
 clear hr0 hnc0 hcm0
 go_enter Tryz.func12,Tryz.ntmps12
 (go_wp2_with (first|go_skip|(refine zBXd ?_;clear M;intro w' g M)|(refine zALd (ztSt) ?_;clear M;intro w' g M)|fail|refine zLAd ?_))
 refine ST.o.mono ?_
 rintro e1 w1 ⟨x,z,Γ1,rfl,hz,hg,hx⟩
 replace M:=bx (M.o.call hx)
 have H:=bx (HOk.mk hz.s (by decide) hg.s)
 clear hx hz hg ST
 go_upto_region 2 with(first|go_skip|((with_reducible apply Ab7 Aj7);rfl;rfl;rfl;exact AaJ _ _;exact zrts;rfl;refine zCT ?_)|((refine zALd (ztSt) ?_;clear M;intro w' g M);(obtain⟨g5,hg0⟩:∃y,y=g:=⟨_,rfl⟩);subst hg0)|(refine zSSd M 0 (stP z.s x.s) (stP z.s x.s) (AaD _ _) (AaX _ _) ?_;clear M;intro w' M)|refine zLAd ?_)
 generalize z.s=s at *
 generalize x.s=v at *
 (go_wp2_with (first|go_skip|(refine zBXd ?_;clear M;intro w' g M)|(refine zALd (ztSt) ?_;clear M;intro w' g M)|fail|refine zLAd ?_))
 refine(AhU Γ1 s v _ H.o _ M.ok).mono ?_
 rintro e1 w1 ⟨g,B,D,cb,cd,y,di,A2,c2,Γ2,rfl,hg,ha,hx⟩
 replace M:=bx (M.o.call hx)
 have H2:=bx (H.o.mono hx.le)
 have hk:=H2.o.si.t.lk
 have hps:=H2.o.si.t.pos
 have hnb:=H2.o.nb
 have hX:(bstL s.nodes s.wts s.lives).length=s.nodes.length:=Aal _ _
 have hY:(dscL s.nodes s.wts s.lives).length=s.nodes.length:=Aal _ _
 have F:Bx (Fz Γ2 g 0 (arP (.slice B (bstL s.nodes s.wts s.lives).length cb) (.slice D (bstL s.nodes s.wts s.lives).length cd) y.v di (.slice A2 s.nodes.length c2) (fndI s.nodes s.just.r)) arL):=⟨by rw[hX];exact Aqb hg⟩
 have SB:Bx (SlG Γ2 B (bstL s.nodes s.wts s.lives).length (ints .i64 (bstL s.nodes s.wts s.lives))):=⟨by rw[hX];exact ha.b⟩
 have SD:Bx (SlG Γ2 D (bstL s.nodes s.wts s.lives).length (ints .i64 (dscL s.nodes s.wts s.lives))):=⟨by rw[hX];exact ha.d⟩
 have xi:∀i,i<s.nodes.length->nthI (bstL s.nodes s.wts s.lives) (-1) ((i:Nat):Int)=bestI s.nodes s.wts s.lives (i:Int):=fun i hi=>by
  rw[AeN (by rw[hX];exact hi)];simp[bstL,lst]
 have yi:∀i,i<s.nodes.length->nthI (dscL s.nodes s.wts s.lives) (-1) ((i:Nat):Int)=dsc s.nodes s.wts s.lives (i:Int):=fun i hi=>by
  rw[AeN (by rw[hY];exact hi)];simp[dscL,lst]
 have BO:Bx (∀(i:Nat),i<s.nodes.length->∀w,Ok Γ2 w->Calls Tryz.prog 43 #[.pointer (some ⟨g,0,none⟩),.int .i64 (i:Int)] w fun e w'=>e=.returned (.tuple #[.int .i64 (bestI s.nodes s.wts s.lives (i:Int)),.int .i64 (dsc s.nodes s.wts s.lives (i:Int))])/\Ext Γ2 w Γ2 w'):=⟨fun i hi w ok=>by
  have:=Adl Γ2 g 0 B D cb cd y.v di (.slice A2 s.nodes.length c2) (fndI s.nodes s.just.r) _ _ (hY.trans hX.symm) (i:Int) w ok F.o SB.o SD.o
  rwa [xi i hi,yi i hi]at this⟩
 obtain⟨j,hj,ej,_⟩:=Adv H2.o.si
 have HE:Bx (∀w,Ok Γ2 w->Calls Tryz.prog 44 #[.pointer (some ⟨g,0,none⟩)] w fun e w'=>e=.returned (.int .i64 (if 0<=dsc s.nodes s.wts s.lives (j:Int)then dsc s.nodes s.wts s.lives (j:Int)else(j:Int)))/\Ext Γ2 w Γ2 w'):=⟨fun w ok=>by
  have:=Agn Γ2 g 0 B D cb cd y.v di (.slice A2 s.nodes.length c2) (fndI s.nodes s.just.r) _ _ (hY.trans hX.symm) w ok F.o SB.o SD.o
  rwa [ej,yi j hj]at this⟩
 have FI:=bx (fun w ok=>Aaa Γ2 v.nodes s.nodes s.just.r w ok H2.o.g.nodes)
 rw[ej]at FI
 obtain⟨gt,hA,hf0⟩:=SlR.fz (f:=noP) (k:=240) H2.o.g.nodes AaI rfl 0 hps
 have FN:Bx (∀c (hc:c<s.nodes.length),Fz Γ2 gt (c*240) (noP s.nodes[c]) noL):=⟨fun c hc=>by
  obtain⟨g',h1,h2⟩:=SlR.fz (f:=noP) (k:=240) H2.o.g.nodes AaI rfl c hc
  rw[h1]at hA
  injection hA with e1
  injection e1 with e1
  injection e1 with e1
  subst e1
  exact h2⟩
 rw[H2.o.g.nodes.n]at hA
 have HV:=bx hA
 have KB:Bx (∀m:Nat,m<s.nodes.length->(bestI s.nodes s.wts s.lives (m:Int) = -1/\endI s (m:Int)=(m:Int)/\dsc s.nodes s.wts s.lives (m:Int) = -1)\/∃c:Nat,bestI s.nodes s.wts s.lives (m:Int)=(c:Int)/\m<c/\c<s.nodes.length/\(s.nodes.getD c Go.Proofs.YtmgeheaneohldaaGreat.n0).up=(m:Int)/\endI s (m:Int)=endI s (c:Int)/\dsc s.nodes s.wts s.lives (m:Int)=endI s (m:Int)):=⟨fun m hm=>by
  rcases AdK (N:=s.nodes) (W:=s.wts) (L:=s.lives) (m:Int)with h|⟨c,h,_⟩
  .exact .inl ⟨h.1,Aeq hk hm (by rw[h.1];decide),by unfold dsc;rw[if_pos (by rw[h.1];decide)]⟩
  .obtain⟨hc,hu⟩:=Ab3 (Abb h).1
   have hlt:=AbH hk c hc
   exact .inr ⟨c,h,by omega,hc,by rw[nget hc];exact hu,Aep hk hm h (by omega),by unfold dsc;rw[if_neg (by rw[h];omega)];rfl⟩⟩
 have EG:=bx (fun c hc=>ArD (s:=s) hk (c:=c) hc)
 obtain⟨n,hn⟩:∃n,s.nodes.length=n:=⟨_,rfl⟩
 have HN:=bx hn
 rw[hn]at BO HV KB EG hps hnb hj
 clear hg ha hx H hX hY F SB SD xi yi ej H2 hk hA hf0 hn
 (go_wp2_with (first|go_skip|(refine zBXd ?_;clear M;intro w' g M)|(refine zALd (ztSt) ?_;clear M;intro w' g M)|fail|refine zLAd ?_))
 go_loopw [5,6,7,8,9,10,11] (fun i _ _ _ _ _ _ wr=>∃q:Nat,q<=n/\i=.int .i64 (q:Int)/\MM g0 w Γ2 wr [⟨g5,stP s v,stL⟩] []) (fun i _ _ _ _ _ _ _=>n-(intOf i).toNat)
 case atStart=>exact⟨0,Nat.zero_le _,rfl,M.o⟩
 case round=>
  obtain⟨i,hi,rfl,hM⟩:=hrel
  clear M
  have M:=bx hM
  clear hM
  by_cases hin:i<n
  .have hii:(i:Int)<(n:Int):=by omega
   (go_wp2_with (first|go_skip|(refine zBXd ?_;clear M;intro w' g M)|(refine zALd (ztSt) ?_;clear M;intro w' g M)|refine zLHd HV ?_|refine zLAd ?_))
   go_loopw [6,7,8,9] (fun a k _ _ wr=>∃(q m:Nat),m<n/\i+q<=m/\a=.int .i64 (m:Int)/\k=.int .i64 (q:Int)/\endI s (i:Int)=endI s (m:Int)/\MM g0 w Γ2 wr [⟨g5,stP s v,stL⟩] []) (fun _ k _ _ _=>n+1-(intOf k).toNat)
   case atStart=>exact⟨0,i,hin,Nat.le_refl _,rfl,rfl,rfl,M.o⟩
   case round=>
    obtain⟨q,m,hm,hqm,rfl,rfl,he,hM⟩:=hrel
    clear M
    have M:=bx hM
    clear hM
    have hq1:(q:Int)<=(n:Int):=by omega
    (go_wp2_with (first|go_skip|(refine zBXd ?_;clear M;intro w' g M)|(refine zALd (ztSt) ?_;clear M;intro w' g M)|refine zLHd HV ?_|refine zLAd ?_))
    have BOm:=bx (BO.o m hm)
    rcases KB.o m hm with⟨e1,e2,e3⟩|⟨c,e1,e2,e3,e4,e5,e6⟩
    .rw[e1,e3]at BOm
     rw[e2]at he
     refine(BOm.o _ M.ok).mono ?_
     rintro e1 w1 ⟨rfl,hx⟩
     replace M:=bx (M.o.call hx)
     clear hx BOm
     (go_wp2_with (first|go_skip|(refine zBXd ?_;clear M;intro w' g M)|(refine zALd (ztSt) ?_;clear M;intro w' g M)|fail|refine zLAd ?_))
     have BOi:=bx (BO.o i hin)
     rcases KB.o i hin with⟨f1,f2,f3⟩|⟨c,f1,f2,f3,f4,f5,f6⟩
     .rw[f1,f3]at BOi
      have hmi:m=i:=by omega
      subst hmi
      clear f1 f2 f3 he e2 e3
      refine(BOi.o _ M.ok).mono ?_
      rintro e1 w1 ⟨rfl,hx⟩
      replace M:=bx (M.o.call hx)
      clear hx BOi
      go_wp2_with (first|go_skip|go_guarded)
      go_roundw
      case rel=>exact⟨m+1,by omega,by go_num,M.o⟩
      case measure=>simp[intOf];omega
     .obtain⟨m',g1,g2,g3⟩:=EG.o c f3
      have hmm:m'=m:=by omega
      subst hmm
      rw[f6,he]at BOi
      generalize bestI s.nodes s.wts s.lives (i:Int)=bi at *
      have hne:¬(m':Int)=(i:Int):=by omega
      have hneb:((m':Int)==(i:Int))=false:=by simpa using hne
      have hm0:0<=(m':Int):=by omega
      clear f1 f4 f5 f6 he e2 e3 g1 hqm
      refine(BOi.o _ M.ok).mono ?_
      rintro e1 w1 ⟨rfl,hx⟩
      replace M:=bx (M.o.call hx)
      clear hx BOi
      go_wp2_with (first|go_skip|go_guarded)
      go_roundw
      case rel=>exact⟨i+1,by omega,by go_num,M.o⟩
      case measure=>simp[intOf];omega
    .rw[e1]at BOm
     rw[e5]at he
     generalize dsc s.nodes s.wts s.lives (m:Int)=dm at *
     refine(BOm.o _ M.ok).mono ?_
     rintro e1 w1 ⟨rfl,hx⟩
     replace M:=bx (M.o.call hx)
     clear hx BOm
     have hcn:c<s.nodes.length:=by rw[HN.o];exact e3
     have FC:=bx (FN.o c hcn)
     rw[nget hcn]at e4
     have hci:(c:Int)<(n:Int):=by omega
     have hc0:0<=(c:Int):=by omega
     have hcd:decide (n<=c)=false:=decide_eq_false (by omega)
     have hcd2:decide ((c:Int)<0)=false:=decide_eq_false (by omega)
     clear e5 e6
     generalize s.nodes[c]=yc at *
     (go_wp2_with (first|go_skip|(refine zBXd ?_;clear M;intro w' g M)|(refine zALd (ztSt) ?_;clear M;intro w' g M)|refine zLHd HV ?_|refine zRFd FC ?_|refine zLAd ?_))
     go_roundw
     case rel=>exact⟨q+1,c,e3,by omega,rfl,by go_num,he,M.o⟩
     case measure=>simp[intOf];omega
  .have hii:(n:Int)<=(i:Int):=by omega
   have BOj:=bx (BO.o j hj)
   clear BO KB EG FN
   generalize dsc s.nodes s.wts s.lives (j:Int)=d at *
   generalize bestI s.nodes s.wts s.lives (j:Int)=b at *
   (go_wp2_with (first|go_skip|(refine zBXd ?_;clear M;intro w' g M)|(refine zALd (ztSt) ?_;clear M;intro w' g M)|refine zLHd HV ?_|refine zLAd ?_))
   refine(FI.o _ M.ok).mono ?_
   rintro e1 w1 ⟨rfl,hx⟩
   replace M:=bx (M.o.call hx)
   clear hx FI
   (go_wp2_with (first|go_skip|(refine zBXd ?_;clear M;intro w' g M)|(refine zALd (ztSt) ?_;clear M;intro w' g M)|fail|refine zLAd ?_))
   refine(BOj.o _ M.ok).mono ?_
   rintro e1 w1 ⟨rfl,hx⟩
   replace M:=bx (M.o.call hx)
   clear hx BOj
   by_cases hd:d<0
   .have hdd:decide (d<0)=true:=decide_eq_true hd
    go_wp2_with (first|go_skip|go_guarded)
    refine(AeV _).mono ?_
    rintro e1 w1 ⟨rfl,hx⟩
    replace M:=bx (M.o.below hx)
    clear hx
    (go_wp2_with (first|go_skip|(refine zBXd ?_;clear M;intro w' g M)|(refine zALd (ztSt) ?_;clear M;intro w' g M)|fail|refine zLAd ?_))
    go_ret
    exact⟨rfl,M.bel⟩
   .have hdd:decide (d<0)=false:=decide_eq_false hd
    rw[if_pos (by omega)]at HE
    (go_wp2_with (first|go_skip|(refine zBXd ?_;clear M;intro w' g M)|(refine zALd (ztSt) ?_;clear M;intro w' g M)|fail|refine zLAd ?_))
    refine(HE.o _ M.ok).mono ?_
    rintro e1 w1 ⟨rfl,hx⟩
    replace M:=bx (M.o.call hx)
    clear hx HE
    (go_wp2_with (first|go_skip|(refine zBXd ?_;clear M;intro w' g M)|(refine zALd (ztSt) ?_;clear M;intro w' g M)|fail|refine zLAd ?_))
    refine(AeV _).mono ?_
    rintro e1 w1 ⟨rfl,hx⟩
    replace M:=bx (M.o.below hx)
    clear hx
    (go_wp2_with (first|go_skip|(refine zBXd ?_;clear M;intro w' g M)|(refine zALd (ztSt) ?_;clear M;intro w' g M)|fail|refine zLAd ?_))
    go_ret
    exact⟨rfl,M.bel⟩
end Go.Proofs.YtmgeheaneohldaaGreat
