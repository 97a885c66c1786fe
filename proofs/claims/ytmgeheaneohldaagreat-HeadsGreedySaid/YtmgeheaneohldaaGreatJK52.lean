/- Texts joined: what the walks of this claim stand on (part 52). -/
import Derived.Test.YtmgeheaneohldaaGreatJK48
set_option linter.all false
set_option maxRecDepth 20000
set_option maxHeartbeats 40000000
namespace Go.Proofs.YtmgeheaneohldaaGreat
open Go.RowKit Old
theorem AoG{s:Sto}(t:TI s.nodes){j m:Nat}(hj:j<s.nodes.length)(hm:m<s.nodes.length)(h:Stp s.nodes s.wts s.lives (j:Int) (m:Int))(hne:m≠j) :
  ∃u:Nat,u<m/\s.nodes[m].up=(u:Int)/\Stp s.nodes s.wts s.lives (j:Int) (u:Int)/\s.lives.getD m false=true/\∀x∈kids s.nodes (u:Int),s.lives.getD x false=true->NoB s.nodes s.wts x m:=by
 rcases h.inv with e|⟨u,hu,hb,_⟩
 .exact absurd (by omega) hne
 .obtain⟨p,hp,ep,_⟩:=Aeb t.lk hj hu
  subst ep
  obtain⟨h1,h2,h3⟩:=Abb hb
  obtain⟨_,h4⟩:=Ab3 h1
  have:=AbH t.lk m hm
  exact⟨p,by omega,h4,hu,h2,h3⟩
theorem headsGreedy_walk(a0:Option Addr)(n0 c0:Nat)(l0:List Int)(w:World)(_:Fit .i64 l0)(_:l0.length=n0)(hr0:Row w w.heap.size 1 a0 n0 (ints .i64 l0))(hnc0:n0<=c0)(hcm0:c0<=maxLen) :
  Calls Tryz.prog 7 #[.slice a0 n0 c0] w fun e w'=>e=.returned (.bool true)/\Below w.heap.size w w':=by
 have M:=bx (MM.start (Acy w))
 have ST:=bx (Ab9 g0 a0 n0 c0 l0 w (Acy w) hr0 (Nat.le_trans hnc0 hcm0))
 clear hr0 hnc0 hcm0
 go_enter Tryz.func7,Tryz.ntmps7
 (go_wp2_with (fail))
 refine ST.o.mono ?_
 rintro e1 w1 ⟨x,z,Γ1,rfl,hz,hg,hx⟩
 replace M:=bx (M.o.call hx)
 have H:=bx (HOk.mk hz.s (by decide) hg.s)
 clear hx hz hg ST
 go_upto_region 2 with(first|((with_reducible apply Ab7 Aj7);rfl;rfl;rfl;exact AaJ _ _;exact zrts;rfl;refine zCT ?_)|((refine zALd (ztSt) ?_;clear M;intro w' g M);(obtain⟨g5,hg0⟩:∃y,y=g:=⟨_,rfl⟩);subst hg0)|(refine zSSd M 0 (stP z.s x.s) (stP z.s x.s) (AaD _ _) (AaX _ _) ?_;clear M;intro w' M))
 generalize z.s=s at *
 generalize x.s=v at *
 have VH:=bx (fun w ok=>AcZ Γ1 s v _ H.o w ok)
 have LL:=bx (AbD s)
 obtain⟨h,hh,eh⟩:=Ah2 (H.o.si.wok H.o.k)
 rw[eh]at VH
 refine AaR [] (.steps [(0,0),(0,2),(0,4),(2,1),(2,3),(2,5),(1,6),(1,7),(1,8)] .leaf) (by kernel_rfl) (by kernel_rfl) ?_;(simp only[MixT8,MT.steps,stepAt,List.getD_cons_zero,List.getD_cons_succ]);replace M:=bx (M.o.drew)
 refine zNM ?_;refine zMRd ?_;refine zH8 M ?_;clear M;intro w8 M
 refine zMC (VH.o _ M.ok) Tryz.func28 ?_
 rintro e1 w1 ⟨rfl,hx⟩
 refine⟨_,rfl,hx.bel,?_⟩
 replace M:=bx (M.o.call hx)
 clear hx VH
 refine zNM ?_;refine zMRd ?_;refine zH8 M ?_;clear M;intro w8 M
 refine zMC (AbP Γ1 s v _ H.o.si H.o.k _ M.ok H.o.g) Tryz.func23 ?_
 rintro e1 w1 ⟨A1,c1,Γ2,rfl,hcap,hsl,hx⟩
 refine⟨_,rfl,hx.bel,?_⟩
 replace M:=bx (M.o.call hx)
 have H2:=bx (H.o.mono hx.le)
 have HS1:=bx hsl
 clear hx hcap hsl H
 refine zNM ?_;refine zMRd ?_;refine zH8 M ?_;clear M;intro w8 M
 refine zMC (H2.o.live _ M.ok) Tryz.func14 ?_
 rintro e1 w1 ⟨A2,c2,Γ3,rfl,hcap,hsl,hx⟩
 refine⟨_,rfl,hx.bel,?_⟩
 replace M:=bx (M.o.call hx)
 rw[LL.o]at hsl
 rw[LL.o]
 have H3:=bx (H2.o.mono hx.le)
 have HS1':=bx (HS1.o.mono hx.le)
 have HWS:Bx (SlG Γ3 A1 s.wts.length (us s.wts)):=⟨by rw[Abd];exact HS1'.o⟩
 have HLS:Bx (SlG Γ3 A2 s.lives.length (bls s.lives)):=⟨by rw[AbD];exact hsl⟩
 clear hx hcap hsl H2 HS1 HS1'
 refine zNM ?_
 refine zMRd ?_
 refine zH8 M ?_;clear M;intro w9 M;refine NoPanic.normal ?_
 have HN0:v.nodes.n=s.nodes.length:=H3.o.g.nodes.n
 obtain⟨N,hN⟩:∃N,s.nodes.length=N:=⟨_,rfl⟩
 have HV:Bx (v.nodes.v=.slice v.nodes.A N v.nodes.c):=⟨by rw[<-hN,<-HN0]⟩
 have HLN:=bx hN
 have WL:=bx (Abd s)
 obtain⟨j,hj,ej,hj2⟩:=Adv H3.o.si
 have FI:=bx (fun w ok=>Aaa Γ3 v.nodes s.nodes s.just.r w ok H3.o.g.nodes)
 rw[ej]at FI
 have STP:=bx (Akp (s:=s) ej)
 rw[eh]at STP
 have HNO:=bx (AiD (Am9 H3.o.si.t.lk hj ej))
 rw[eh]at HNO
 have hst2:=ApQ H3.o.si.t hj hj2 hh STP.o
 have TS:=bx (fun m (hm:m<s.nodes.length) st hne=>AoG H3.o.si.t hj hm st hne)
 have IA:=bx (fun w ok=>AdR Γ3 v.nodes s.nodes (j:Int) (h:Int) w ok H3.o.g.nodes H3.o.si.t.lk H3.o.nb)
 obtain⟨p,_,ep,hanc⟩:=Aeb H3.o.si.t.lk hj STP.o
 rw[<-ep]at hanc
 rw[hanc]at IA
 have CHh:=bx (fun(Γ':Gam) (hl:Le Γ3 Γ') i w ok=>Acq Γ' v.nodes s.nodes i w ok (H3.o.g.nodes.mono hl) (by have:=H3.o.nb;omega))
 have HGN:=bx H3.o.g.nodes
 have KL:Bx (∀i,∀x∈kids s.nodes i,x<s.nodes.length):=⟨fun i x hx=>(AbZ hx).1⟩
 have KN:Bx (∀i,(kids s.nodes i).length<=65535):=⟨fun i=>Nat.le_trans (Aem s.nodes i) (by have:=H3.o.nb;omega)⟩
 obtain⟨gn,hA,hf⟩:=H3.o.g.nodeAt h hh
 have HA:Bx (v.nodes.v=.slice (some ⟨gn,0,none⟩) N v.nodes.c):=⟨by rw[hA,HN0,hN]⟩
 have F3:=bx hf
 have hhN:(h:Int)<(N:Int):=by omega
 have hh0:(0:Int)<=(h:Int):=by omega
 have hh1:¬(h:Int)<0:=by omega
 have hh2:decide ((h:Int)<0)=false:=decide_eq_false hh1
 have hh3:decide ((N:Int)<=(h:Int))=false:=decide_eq_false (by omega)
 have hh4:¬N<=h:=by omega
 have hh5:decide (N<=h)=false:=decide_eq_false hh4
 have hstb:(s.nodes[h].st==2)=false:=by simpa using hst2
 have HHH:=bx hh
 rw[hN]
 clear HN0 hN H3 eh ej hj2 hst2 hanc hA hf ep
 generalize s.nodes[h]=yh at *
 (go_wp2_with (refine zLAd ?_))
 refine(FI.o _ M.ok).mono ?_
 rintro e1 w1 ⟨rfl,hx⟩
 replace M:=bx (M.o.call hx)
 clear hx FI
 (go_wp2_with (first|refine zLHd HA ?_|refine zLAd ?_))
 refine(IA.o _ M.ok).mono ?_
 rintro e1 w1 ⟨rfl,hx⟩
 replace M:=bx (M.o.call hx)
 clear hx IA
 (go_wp2_with (first|refine zLHd HA ?_|refine zRFd F3 ?_))
 clear hh1 hh2 hh3 hh4 hh5 hstb F3
 have HJB:=bx hj
 go_loopw [8] (fun s8 wr=>∃(m:Nat) (Γi:Gam),m<s.nodes.length/\Stp s.nodes s.wts s.lives (j:Int) (m:Int)/\s8=.int .i64 (m:Int)/\Le Γ3 Γi/\MM g0 w Γi wr [⟨g5,stP s v,stL⟩] []) (fun s8 _=>(intOf s8).toNat)
 case atStart=>exact⟨h,Γ3,HHH.o,STP.o,rfl,Le.refl _,M.o⟩
 case round=>
  obtain⟨m,Γi,hm,hst,rfl,hle,hM⟩:=hrel
  clear M
  have M:=bx hM
  have HLE:=bx hle
  have HM:=bx hm
  have HST:=bx hst
  clear hM hle hst
  by_cases hmj:m=j
  .have hbne:((m:Int) != (j:Int))=false:=by simp[hmj]
   have hbeq:((m:Int)==(j:Int))=true:=by simp[hmj]
   have CH:=bx (fun w ok=>CHh.o Γi HLE.o (h:Int) w ok)
   have HLS':=bx (HLS.o.mono HLE.o)
   have KL':=bx (KL.o (h:Int))
   have hkl:=KN.o (h:Int)
   clear hmj TS CHh KL KN HLS
   generalize kids s.nodes (h:Int)=K at *
   (go_wp2_with (refine zLAd ?_))
   refine(CH.o _ M.ok).mono ?_
   rintro e1 w1 ⟨A4,c4,Γ4,rfl,hcap,hsl,hx⟩
   replace M:=bx (M.o.call hx)
   have HK:=bx hsl
   have HL4:=bx (HLS'.o.mono hx.le)
   clear hx hcap hsl CH HLS'
   (go_wp2_with (fail))
   go_loopw [13] (fun i wr=>∃q:Nat,q<=K.length/\i=.int .i64 (q:Int)/\MM g0 w Γ4 wr [⟨g5,stP s v,stL⟩] []) (fun i _=>K.length-(intOf i).toNat)
   case atStart=>exact⟨0,Nat.zero_le _,rfl,M.o⟩
   case round=>
    obtain⟨q,hq,rfl,hM⟩:=hrel
    clear M
    have M:=bx hM
    clear hM
    by_cases hqK:q<K.length
    .have hqi:(q:Int)<(K.length:Int):=by omega
     have hq0:(0:Int)<=(q:Int):=by omega
     have hcl:=KL'.o _ (List.getElem_mem hqK)
     have hcL:K[q]<s.lives.length:=by rw[LL.o];exact hcl
     have hcn:(K[q]:Int)<(N:Int):=by have:=HLN.o;omega
     have hc0:(0:Int)<=(K[q]:Int):=by omega
     obtain⟨gk,hk1,hk2⟩:=Acc HK.o q hqK
     subst hk1
     have F0:Bx (Fz Γ4 gk q [[.int .i64 (K[q]:Int)]] [1]):=⟨hk2,rfl⟩
     obtain⟨gl,hk1,hk4⟩:=AeT HL4.o K[q] hcL
     subst hk1
     have hno:=HNO.o _ (List.getElem_mem hqK)
     rw[List.getD,List.getElem?_eq_getElem hcL,Option.getD_some]at hno
     rw[hno]at hk4
     have F2:Bx (Fz Γ4 gl K[q] [[.bool false]] [1]):=⟨hk4,rfl⟩
     clear hk2 hk4 hno hcl hcL
     generalize K[q]=c at *
     (go_wp2_with (first|refine zRFd F0 ?_|refine zRFd F2 ?_))
     go_roundw
     case rel=>exact⟨q+1,by omega,by go_num,M.o⟩
     case measure=>simp[intOf];omega
    .obtain rfl:q=K.length:=by omega
     (go_wp2_with (fail))
     refine zCB M (Acj _) ?_;clear M;intro w1 M
     (go_wp2_with (fail))
     go_ret
     exact⟨rfl,M.bel⟩
  .have hbne:((m:Int) != (j:Int))=true:=by simp;omega
   have hbeq:((m:Int)==(j:Int))=false:=by simp;omega
   obtain⟨u,hum,hup,hsu,hlm,hnb⟩:=TS.o m hm HST.o hmj
   have HNB:=bx hnb
   have HSU:=bx hsu
   have HUM:Bx (u<s.nodes.length/\u<m):=⟨by omega,hum⟩
   have HLi:=bx (HLS.o.mono HLE.o)
   have HWi:=bx (HWS.o.mono HLE.o)
   have HGi:=bx (HGN.o.mono HLE.o)
   have hmL:m<s.lives.length:=by rw[LL.o];exact hm
   have hmW:m<s.wts.length:=by rw[WL.o];exact hm
   rw[List.getD,List.getElem?_eq_getElem hmL,Option.getD_some]at hlm
   obtain⟨gl,hk1,hk4⟩:=AeT HLi.o m hmL
   subst hk1
   rw[hlm]at hk4
   have F2:Bx (Fz Γi gl m [[.bool true]] [1]):=⟨hk4,rfl⟩
   obtain⟨gw,hk1,hk3⟩:=Ac4 HWi.o m hmW
   subst hk1
   have F1:Bx (Fz Γi gw m [[.int .u64 (s.wts[m].n:Int)]] [1]):=⟨hk3,rfl⟩
   obtain⟨gm,hA2,hf2⟩:=HGi.o.fz (f:=noP) (k:=240) AaI rfl m hm
   obtain rfl:gn=gm:=by
    have:=HA.o
    rw[hA2]at this
    injection this with this
    injection this with this
    injection this with this
    exact this.symm
   have F4:=bx hf2
   have hmN:(m:Int)<(N:Int):=by have:=HLN.o;omega
   have hm0:(0:Int)<=(m:Int):=by omega
   have CH:=bx (fun w ok=>CHh.o Γi HLE.o s.nodes[m].up w ok)
   rw[hup]at CH
   have KL':=bx (KL.o (u:Int))
   have hkl:=KN.o (u:Int)
   have HUP:=bx hup
   clear hk3 hk4 hf2 hA2 hum hup hsu hnb hlm hmL
   have gWm:s.wts.getD m u0=s.wts[m]:=by simp[List.getD,List.getElem?_eq_getElem hmW]
   have gNm:=nget hm
   have NB2:Bx (∀x∈kids s.nodes (u:Int),s.lives.getD x false=true->(s.wts.getD x u0).n<s.wts[m].n\/((s.wts.getD x u0).n=s.wts[m].n/\cmpRt (s.nodes.getD x Go.Proofs.YtmgeheaneohldaaGreat.n0).b.root s.nodes[m].b.root<=0)):=⟨fun x hx hl=>by
    have:=HNB.o x hx hl
    unfold NoB at this
    rwa [gWm,gNm]at this⟩
   clear gWm gNm HNB TS CHh KL KN
   generalize kids s.nodes (u:Int)=K at *
   generalize s.wts[m]=wm at *
   generalize s.nodes[m]=ym at *
   (go_wp2_with (refine zRFd F2 ?_))
   have hupv:=HUP.o
   refine AaR [] (.steps [(1,0),(0,1),(1,2),(1,3),(0,4),(1,5),(1,6),(1,7),(0,8),(2,9),(1,10)] .leaf) (by kernel_rfl) (by kernel_rfl) ?_;(simp only[MixT8,MT.steps,stepAt,List.getD_cons_zero,List.getD_cons_succ]);replace M:=bx (M.o.drew)
   refine zNM ?_
   (repeat(first|refine zM0 ?_|(go_big_quiet_want;first|(refine zQHd HA ?_;go_big_quiet_on;refine zNM ?_)|(refine zQFd F4 ?_;go_big_quiet_on;refine zNM ?_)|(refine zQAd ?_;go_big_quiet_on;refine zNM ?_)|(refine zQO ?_;go_big_quiet_on))))
   rw[hupv]
   refine zH8 M ?_;clear M;intro w8 M
   refine zMC (CH.o _ M.ok) Tryz.func35 ?_
   rintro e1 w1 ⟨A4,c4,Γ4,rfl,hcap,hsl,hx⟩
   refine⟨_,rfl,hx.bel,?_⟩
   replace M:=bx (M.o.call hx)
   have HK:=bx hsl
   have LE4:=bx hx.le
   have HL4:=bx (HLi.o.mono hx.le)
   have HW4:=bx (HWi.o.mono hx.le)
   have HG4:=bx (HGi.o.mono hx.le)
   have F1':=bx (F1.o.mono hx.le)
   have F4':=bx (F4.o.mono hx.le)
   clear hx hcap hsl CH F1 F2 F4 HLi HWi HGi hupv
   refine zNM ?_
   refine zMRd ?_
   refine zH8 M ?_;clear M;intro w9 M;refine NoPanic.normal ?_
   (go_wp2_with (fail))
   go_loopw [10,11] (fun kk xx wr=>∃q:Nat,q<=K.length/\kk=.int .i64 (q:Int)/\MM g0 w Γ4 wr [⟨g5,stP s v,stL⟩] []) (fun kk _ _=>K.length-(intOf kk).toNat)
   case atStart=>exact⟨0,Nat.zero_le _,rfl,M.o⟩
   case round=>
    obtain⟨q,hq,rfl,hM⟩:=hrel
    clear M
    have M:=bx hM
    clear hM
    by_cases hqK:q<K.length
    .have hqi:(q:Int)<(K.length:Int):=by omega
     have hq0:(0:Int)<=(q:Int):=by omega
     have hcl:=KL'.o _ (List.getElem_mem hqK)
     have hcL:K[q]<s.lives.length:=by rw[LL.o];exact hcl
     have hcW:K[q]<s.wts.length:=by rw[WL.o];exact hcl
     have hcn:(K[q]:Int)<(N:Int):=by have:=HLN.o;omega
     have hc0:(0:Int)<=(K[q]:Int):=by omega
     obtain⟨gk,hk1,hk2⟩:=Acc HK.o q hqK
     subst hk1
     have F0:Bx (Fz Γ4 gk q [[.int .i64 (K[q]:Int)]] [1]):=⟨hk2,rfl⟩
     obtain⟨gl',hk1,hk4⟩:=AeT HL4.o K[q] hcL
     obtain rfl:gl=gl':=by simpa using hk1
     have F2:Bx (Fz Γ4 gl K[q] [[.bool s.lives[K[q]]]] [1]):=⟨hk4,rfl⟩
     obtain⟨gw',hk1',hk3⟩:=Ac4 HW4.o K[q] hcW
     obtain rfl:gw=gw':=by simpa using hk1'
     have F5:Bx (Fz Γ4 gw K[q] [[.int .u64 (s.wts[K[q]].n:Int)]] [1]):=⟨hk3,rfl⟩
     obtain⟨gm,hA2,hf2⟩:=HG4.o.fz (f:=noP) (k:=240) AaI rfl K[q] hcl
     obtain rfl:gn=gm:=by
      have:=HA.o
      rw[hA2]at this
      injection this with this
      injection this with this
      injection this with this
      exact this.symm
     have F6:=bx hf2
     have gL:s.lives.getD K[q] false=s.lives[K[q]]:=by simp[List.getD,List.getElem?_eq_getElem hcL]
     have gW:s.wts.getD K[q] u0=s.wts[K[q]]:=by simp[List.getD,List.getElem?_eq_getElem hcW]
     have gN:=nget hcl
     have NB3:=NB2.o _ (List.getElem_mem hqK)
     rw[gL,gW,gN]at NB3
     have CR:=bx (fun w (_:Ok Γ4 w)=>AcL s.nodes[K[q]].b.root ym.b.root w)
     clear hk1 hk1' hk2 hk3 hk4 hA2 hf2 gL gW gN
     generalize s.lives[K[q]]=lc at *
     generalize s.wts[K[q]]=wc at *
     generalize s.nodes[K[q]]=yc at *
     clear hcL hcW hcl
     generalize hcr:cmpRt yc.b.root ym.b.root=cr at *
     clear hcr
     by_cases hcm:K[q]=m
     .have hb1:((K[q]:Int) != (m:Int))=false:=by simp[hcm]
      have hb2:((K[q]:Int)==(m:Int))=true:=by simp[hcm]
      clear NB3 hcm
      generalize K[q]=c at *
      (go_wp2_with (refine zRFd F0 ?_))
      refine zRG ?_;(repeat(first|go_big_quiet_skip|(go_big_quiet_want;(refine zQO ?_;go_big_quiet_on))));(refine zQN ?_;clear M;intro w4 M)
      (go_wp2_with (fail))
      go_roundw
      case rel=>exact⟨q+1,by omega,by go_num,M.o⟩
      case measure=>simp[intOf];omega
     .have hb1:((K[q]:Int) != (m:Int))=true:=by simp;omega
      have hb2:((K[q]:Int)==(m:Int))=false:=by simp;omega
      clear hcm
      generalize K[q]=c at *
      cases lc with
      |false=>
       clear NB3
       (go_wp2_with (refine zRFd F0 ?_))
       refine zRG ?_;(repeat(first|go_big_quiet_skip|(go_big_quiet_want;first|(refine zQFd F2 ?_;go_big_quiet_on;refine zNM ?_)|(refine zQO ?_;go_big_quiet_on))));(refine zQN ?_;clear M;intro w4 M)
       (go_wp2_with (fail))
       go_roundw
       case rel=>exact⟨q+1,by omega,by go_num,M.o⟩
       case measure=>simp[intOf];omega
      |true=>
       rcases NB3 rfl with hlt|⟨heq,hc⟩
       .have d1:decide ((wm.n:Int)<(wc.n:Int))=false:=decide_eq_false (by omega)
        have d2:¬(wm.n:Int)<(wc.n:Int):=by omega
        have d3:decide (wm.n<wc.n)=false:=decide_eq_false (by omega)
        have d4:((wc.n:Int)==(wm.n:Int))=false:=by simp;omega
        have d5:¬wm.n<wc.n:=by omega
        clear NB3 hlt
        (go_wp2_with (refine zRFd F0 ?_))
        refine zRG ?_;(repeat(first|go_big_quiet_skip|(go_big_quiet_want;first|(refine zQFd F2 ?_;go_big_quiet_on;refine zNM ?_)|(refine zQFd F5 ?_;go_big_quiet_on;refine zNM ?_)|(refine zQFd F1' ?_;go_big_quiet_on;refine zNM ?_)|(refine zQO ?_;go_big_quiet_on))));(refine zQN ?_;clear M;intro w4 M)
        (go_wp2_with (fail))
        go_roundw
        case rel=>exact⟨q+1,by omega,by go_num,M.o⟩
        case measure=>simp[intOf];omega
       .have d1:decide ((wm.n:Int)<(wc.n:Int))=false:=decide_eq_false (by omega)
        have d2:¬(wm.n:Int)<(wc.n:Int):=by omega
        have d3:decide (wm.n<wc.n)=false:=decide_eq_false (by omega)
        have d4:((wc.n:Int)==(wm.n:Int))=true:=by simp;omega
        have d5:¬wm.n<wc.n:=by omega
        have z1:decide (0<cr)=false:=decide_eq_false (by omega)
        clear NB3 heq hc
        (go_wp2_with (refine zRFd F0 ?_))
        refine zRG ?_;(repeat((go_big_quiet_want;first|(refine zQFd F2 ?_;go_big_quiet_on;refine zNM ?_)|(refine zQFd F5 ?_;go_big_quiet_on;refine zNM ?_)|(refine zQFd F1' ?_;go_big_quiet_on;refine zNM ?_)|(refine zQHd HA ?_;go_big_quiet_on;refine zNM ?_)|(refine zQFd F6 ?_;go_big_quiet_on;refine zNM ?_)|(refine zQFd F4' ?_;go_big_quiet_on;refine zNM ?_)|(refine zQC (AfO (clsE M.o CR.o)) Tryz.func36 ?_;go_big_quiet_on;refine zNM ?_)|(refine zQO ?_;go_big_quiet_on))));(refine zQN ?_;clear M;intro w4 M)
        (go_wp2_with (fail))
        go_roundw
        case rel=>exact⟨q+1,by omega,by go_num,M.o⟩
        case measure=>simp[intOf];omega
    .obtain rfl:q=K.length:=by omega
     (go_wp2_with (first|refine zLHd HA ?_|refine zRFd F4' ?_))
     go_roundw
     case rel=>exact⟨u,Γ4,HUM.o.1,HSU.o,by rw[HUP.o],HLE.o.trans LE4.o,M.o⟩
     case measure=>have:=HUM.o.2;simp[intOf,HUP.o];omega
end Go.Proofs.YtmgeheaneohldaaGreat
