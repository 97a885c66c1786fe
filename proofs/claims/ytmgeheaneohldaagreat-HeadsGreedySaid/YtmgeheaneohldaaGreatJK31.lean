/- Texts joined: what the walks of this claim stand on (part 31). -/
import Derived.Test.YtmgeheaneohldaaGreatJK27
import Derived.Test.YtmgeheaneohldaaGreatJK29
import Derived.Test.YtmgeheaneohldaaGreatJK30
set_option linter.all false
set_option maxRecDepth 20000
set_option maxHeartbeats 40000000
namespace Go.Proofs.YtmgeheaneohldaaGreat
open Go.RowKit Old
theorem AmA(Γ:Gam)(x:Sl)(N:List Nod)(A2 A3:Option Addr)(c2 c3:Nat)(W:List U)(L:List Bool)(i:Int)(ha:Ahead N)(hb:N.length<=65535)(hW:W.length=N.length)(hL:L.length=N.length)(w:World)(ok:Ok Γ w)(h:NG Γ x N)(h2:SlG Γ A2 N.length (us W))(h3:SlG Γ A3 N.length (bls L)) :
  Calls Tryz.prog 57 #[.agg [x.v].toArray,.slice A2 N.length c2,.slice A3 N.length c3,.int .i64 i] w fun e w'=>e=.returned (.int .i64 (bestI N W L i))/\Ext Γ w Γ w':=by
 have M:=bx (MM.start ok)
 have OK0:=bx ok
 have H3:Bx (SlG Γ A3 L.length (bls L)):=⟨by rw[hL];exact h3⟩
 have CH:=bx (fun w ok=>AhV Γ x N i w ok h ha hb)
 have BT:=bx (fun(Γ':Gam) (hl:Le Γ Γ') (a b:Nat) (ha:a<N.length) (hb:b<N.length) w (ok:Ok Γ' w)=>Afx Γ' x N A2 c2 W a b hW ha hb w ok (h.mono hl) (h2.mono hl))
 have KM:Bx (∀k∈kids N i,k<N.length):=⟨fun k hk=>(AbZ hk).1⟩
 have PT:Bx (∀q (hq:q<(kids N i).length),bestK N W L ((kids N i).take (q+1))=betB N W L (bestK N W L ((kids N i).take q)) (kids N i)[q]):=⟨fun q hq=>Aba (betB N W L) (-1) hq⟩
 have BC:Bx (∀q,bestK N W L ((kids N i).take q) = -1\/∃k:Nat,k<N.length/\bestK N W L ((kids N i).take q)=(k:Int)):=⟨fun q=>by
  rcases AeU N W L ((kids N i).take q)with h|⟨k,hk,h⟩
  .exact .inl h
  .exact .inr ⟨k,(AbZ (List.mem_of_mem_take hk)).1,h⟩⟩
 have HR:Bx (bestI N W L i=bestK N W L ((kids N i).take (kids N i).length)):=⟨by unfold bestI;rw[List.take_of_length_le (Nat.le_refl _)]⟩
 have HLL:=bx hL
 have hkl:(kids N i).length<=65535:=Nat.le_trans (Aem N i) hb
 have HKL:=bx hkl
 clear ok h h2 h3 hb hW hL hkl ha
 rw[HR.o]
 generalize kids N i=K at *
 change Calls Tryz.prog _ #[.agg (fl [[x.v]]).toArray,_,_,_] _ _
 go_enter Tryz.func57,Tryz.ntmps57
 (go_wp2_with (first|(refine zBXd ?_;clear M;intro w' g M)|refine zLAd ?_))
 refine(CH.o _ M.ok).mono ?_
 rintro e1 w1 ⟨A1,c1,Γ1,rfl,hcap,hsl,hx⟩
 replace M:=bx (M.o.call hx)
 have HS:=bx hsl
 have L1:=bx hx.le
 clear hcap hsl hx CH HR
 (go_wp2_with (fail))
 go_loopw [9,16] (fun s9 jj wr=>∃q:Nat,q<=K.length/\jj=.int .i64 q/\s9=.int .i64 (bestK N W L (K.take q))/\MM Γ w Γ1 wr [⟨g,[[x.v]],[1]⟩] []) (fun _ jj _=>K.length-(intOf jj).toNat)
 case atStart=>exact⟨0,Nat.zero_le _,rfl,rfl,M.o⟩
 case round=>
  obtain⟨q,hq,rfl,e9,hM⟩:=hrel
  clear M
  have M:=bx hM
  clear hM
  have hkl:=HKL.o
  by_cases hqn:q<K.length
  .obtain⟨gk,rfl,hc⟩:=Acc HS.o q hqn
   have F0:Bx (Fz Γ1 gk q [[.int .i64 (K[q]:Int)]] [1]):=⟨hc,rfl⟩
   have hcl:K[q]<N.length:=KM.o _ (List.getElem_mem hqn)
   have PT':=bx (PT.o q hqn)
   have hki:(q:Int)<(K.length:Int):=by omega
   have hk0:0<=(q:Int):=by omega
   have BC':=BC.o q
   clear hc PT BC
   generalize hk1:bestK N W L (K.take (q+1))=b1 at *
   generalize bestK N W L (K.take q)=b at *
   generalize K[q]=c at *
   subst e9
   have hcL:c<L.length:=by rw[HLL.o];exact hcl
   obtain⟨g3,rfl,hf3⟩:=AeT (H3.o.mono L1.o) c hcL
   have F2:Bx (Fz Γ1 g3 c [[.bool L[c]]] [1]):=⟨hf3,rfl⟩
   have hcn:(c:Int)<(N.length:Int):=by omega
   have hc0:0<=(c:Int):=by omega
   have gL:L.getD c false=L[c]:=by simp[List.getD,List.getElem?_eq_getElem hcL]
   clear hf3
   cases hl:L[c]with
   |false=>
    rw[hl]at F2 gL
    have E:Bx (b1=b):=⟨by rw[PT'.o];unfold betB;rw[gL,if_neg (fun h=>by cases h.1)]⟩
    clear PT' hl gL BT BC'
    (go_wp2_with (first|refine zRFd F0 ?_|refine zRFd F2 ?_))
    go_roundw
    case rel=>exact⟨q+1,by omega,by go_num,by rw[hk1,E.o],M.o⟩
    case measure=>simp[intOf]<;>omega
   |true=>
    rw[hl]at F2 gL
    clear hl
    rcases BC' with hb|⟨k,hk,hb⟩
    .subst hb
     have E:Bx (b1=(c:Int)):=⟨by rw[PT'.o];unfold betB;rw[if_pos ⟨gL,.inl (by decide)⟩]⟩
     clear PT' gL BT
     (go_wp2_with (first|go_guarded|refine zRFd F0 ?_|refine zRFd F2 ?_))
     go_roundw
     case rel=>exact⟨q+1,by omega,by go_num,by rw[hk1,E.o],M.o⟩
     case measure=>simp[intOf]<;>omega
    .subst hb
     have hkk0:0<=(k:Int):=by omega
     have hkk1:¬(k:Int)<0:=by omega
     have hkk2:decide ((k:Int)<0)=false:=decide_eq_false hkk1
     have B1:=bx (fun w (ok:Ok Γ1 w)=>BT.o Γ1 L1.o c k hcl hk w ok)
     have PT2:=bx (PT'.o.trans (AjT (N:=N) (W:=W) gL))
     clear PT' BT gL
     generalize betC N W c k=r at *
     (go_wp2_with (first|refine zRFd F0 ?_|refine zRFd F2 ?_|refine zLAd ?_))
     refine(B1.o _ M.ok).mono ?_
     rintro e1 w1 ⟨rfl,hx⟩
     replace M:=bx (M.o.call hx)
     clear hx B1
     cases r with
     |true=>
      have E:Bx (b1=(c:Int)):=⟨by rw[PT2.o];rfl⟩
      clear PT2
      (go_wp2_with (fail))
      go_roundw
      case rel=>exact⟨q+1,by omega,by go_num,by rw[hk1,E.o],M.o⟩
      case measure=>simp[intOf]<;>omega
     |false=>
      have E:Bx (b1=(k:Int)):=⟨by rw[PT2.o];rfl⟩
      clear PT2
      (go_wp2_with (fail))
      go_roundw
      case rel=>exact⟨q+1,by omega,by go_num,by rw[hk1,E.o],M.o⟩
      case measure=>simp[intOf]<;>omega
  .have hki:(K.length:Int)<=(q:Int):=by omega
   obtain rfl:q=K.length:=by omega
   subst e9
   (go_wp2_with (fail))
   go_ret
   exact⟨rfl,Ext.below OK0.o M.bel⟩
theorem HOk.best{Γ:Gam}{s:Sto}{v:Sls}{k:Nat}(h:HOk Γ s v k)(A2 A3:Option Addr)(c2 c3:Nat)(i:Int)(w:World)(ok:Ok Γ w)(h2:SlG Γ A2 s.nodes.length (us s.wts))(h3:SlG Γ A3 s.nodes.length (bls s.lives)) :
  Calls Tryz.prog 57 #[.agg #[v.nodes.v],.slice A2 s.nodes.length c2,.slice A3 s.nodes.length c3,.int .i64 i] w fun e w'=>e=.returned (.int .i64 (bestI s.nodes s.wts s.lives i))/\Ext Γ w Γ w':=
 AmA Γ v.nodes s.nodes A2 A3 c2 c3 s.wts s.lives i (AbH h.si.t.lk) (by have:=h.nb;omega) (Abd s) (AbD s) w ok h.g.nodes h2 h3
theorem AiO(Γ:Gam)(s:Sto)(v:Sls)(k:Nat)(h:HOk Γ s v k)(i:Int)(w:World)(ok:Ok Γ w) :
  Calls Tryz.prog 25 #[.agg (fl (stP s v)).toArray,.int .i64 i] w fun e w'=>e=.returned (.int .i64 (bestI s.nodes s.wts s.lives i))/\Ext Γ w Γ w':=by
 have M:=bx (MM.start ok)
 have OK0:=bx ok
 have H:=bx h
 have LL:=bx (AbD s)
 clear ok h
 go_enter Tryz.func25,Tryz.ntmps25
 (go_wp2_with (refine zBXd ?_;clear M;intro w' g M))
 refine AaB [] (.steps [(1,0),(0,1),(0,2),(0,4),(1,6),(2,3),(2,5),(2,7),(1,8)] .leaf) (by kernel_rfl) (by kernel_rfl) ?_;(simp only[MixT6,MT.steps,stepAt,List.getD_cons_zero,List.getD_cons_succ]);replace M:=bx (M.o.drew)
 refine zNM ?_
 refine zMRd ?_
 refine zMC (AbP Γ s v k H.o.si H.o.k _ M.ok H.o.g) Tryz.func23 ?_
 rintro e5 w5 ⟨A5,c5,Γ5,rfl,hc5,hs5,hx5⟩
 refine⟨_,rfl,hx5.bel,?_⟩
 replace M:=bx (M.o.call hx5)
 have H5:=bx (H.o.mono hx5.le)
 have HS5:=bx hs5
 clear hc5 hs5 hx5 H
 refine zNM ?_
 refine zMRd ?_
 refine zMC (H5.o.live _ M.ok) Tryz.func14 ?_
 rintro e6 w6 ⟨A6,c6,Γ6,rfl,hc6,hs6,hx6⟩
 refine⟨_,rfl,hx6.bel,?_⟩
 replace M:=bx (M.o.call hx6)
 rw[LL.o]at hs6
 rw[LL.o]
 have H6:=bx (H5.o.mono hx6.le)
 have HS6:=bx hs6
 have HS5':=bx (HS5.o.mono hx6.le)
 clear hc6 hs6 hx6 H5 HS5
 refine zNM ?_
 refine zMRd ?_
 refine zMC (H6.o.best A5 A6 c5 c6 i _ M.ok HS5'.o HS6.o) Tryz.func57 ?_
 rintro e7 w7 ⟨rfl,hx7⟩
 refine⟨_,rfl,hx7.bel,?_⟩
 replace M:=bx (M.o.call hx7)
 clear hx7
 refine zNM ?_
 refine zMRd ?_
 refine NoPanic.normal ?_
 (go_wp2_with (fail))
 go_ret
 exact⟨rfl,Ext.below OK0.o M.bel⟩
theorem AcZ(Γ:Gam)(s:Sto)(v:Sls)(k:Nat)(h:HOk Γ s v k)(w:World)(ok:Ok Γ w) :
  Calls Tryz.prog 28 #[.agg (fl (stP s v)).toArray] w fun e w'=>e=.returned (.int .i64 s.head)/\Ext Γ w Γ w':=by
 have M:=bx (MM.start ok)
 have OK0:=bx ok
 have H:=bx h
 have LL:=bx (AbD s)
 obtain⟨j,hj,ej,_⟩:=Adv h.si
 have EJ:=bx ej
 have LK:=bx h.si.t.lk
 have HD:Bx (∀f,bestI s.nodes s.wts s.lives (headF s.nodes s.wts s.lives f (j:Int))<0->s.head=headF s.nodes s.wts s.lives f (j:Int)):=⟨fun f hf=>by
  unfold Sto.head;rw[ej];exact AgJ h.si.t.lk hj hf⟩
 clear ok h ej
 go_enter Tryz.func28,Tryz.ntmps28
 go_upto_region 1 with(refine zBXd ?_;clear M;intro w' g M)
 go_step3
 go_upto_region 1 with(fail)
 refine AaB [] (.steps [(0,0),(0,2),(2,1),(2,3),(1,4),(1,5)] .leaf) (by kernel_rfl) (by kernel_rfl) ?_;(simp only[MixT6,MT.steps,stepAt,List.getD_cons_zero,List.getD_cons_succ]);replace M:=bx (M.o.drew)
 refine zNM ?_
 refine zMRd ?_
 refine zMC (AbP Γ s v k H.o.si H.o.k _ M.ok H.o.g) Tryz.func23 ?_
 rintro e5 w5 ⟨A5,c5,Γ5,rfl,hc5,hs5,hx5⟩
 refine⟨_,rfl,hx5.bel,?_⟩
 replace M:=bx (M.o.call hx5)
 have H5:=bx (H.o.mono hx5.le)
 have HS5:=bx hs5
 clear hc5 hs5 hx5 H
 refine zNM ?_
 refine zMRd ?_
 refine zMC (H5.o.live _ M.ok) Tryz.func14 ?_
 rintro e6 w6 ⟨A6,c6,Γ6,rfl,hc6,hs6,hx6⟩
 refine⟨_,rfl,hx6.bel,?_⟩
 replace M:=bx (M.o.call hx6)
 rw[LL.o]at hs6
 rw[LL.o]
 have H6:=bx (H5.o.mono hx6.le)
 have HS6:=bx hs6
 have HS5':=bx (HS5.o.mono hx6.le)
 clear hc6 hs6 hx6 H5 HS5
 refine zNM ?_
 refine zMRd ?_
 refine NoPanic.normal ?_
 (go_wp2_with (refine zLAd ?_))
 refine(AiN Γ6 v.nodes s.nodes s.just.r _ M.ok H6.o.g.nodes H6.o.nb).mono ?_
 rintro e7 w7 ⟨rfl,hx7⟩
 replace M:=bx (M.o.call hx7)
 clear hx7
 rw[EJ.o]
 have BE:=bx (fun i w ok=>H6.o.best A5 A6 c5 c6 i w ok HS5'.o HS6.o)
 clear HS5' HS6 EJ LL
 (go_wp2_with (fail))
 go_step3
 (go_wp2_with (fail))
 go_loopw [5] (fun s5 wr=>∃(f m:Nat),m<s.nodes.length/\headF s.nodes s.wts s.lives f (j:Int)=(m:Int)/\s5=.int .i64 (m:Int)/\MM Γ w Γ6 wr [⟨g,stP s v,stL⟩] []) (fun s5 _=>s.nodes.length-(intOf s5).toNat)
 case atStart=>exact⟨0,j,hj,rfl,rfl,M.o⟩
 case round=>
  obtain⟨f,m,hm,hf,rfl,hM⟩:=hrel
  clear M
  have M:=bx hM
  have HF:=bx hf
  clear hM hf
  (go_wp2_with (refine zLAd ?_))
  refine(BE.o (m:Int) _ M.ok).mono ?_
  rintro e8 w8 ⟨rfl,hx8⟩
  replace M:=bx (M.o.call hx8)
  clear hx8
  have HD':=bx (fun h=>HD.o f (by rw[HF.o];exact h))
  have SN:=bx (AcB (N:=s.nodes) (W:=s.wts) (L:=s.lives) f (j:Int))
  rw[HF.o]at HD' SN
  rcases Acu (N:=s.nodes) (W:=s.wts) (L:=s.lives) (i:=(m:Int))with hb|⟨c,hb⟩
  .have HE:=bx (HD'.o hb)
   have hb':decide (bestI s.nodes s.wts s.lives (m:Int)<0)=true:=decide_eq_true hb
   clear HD HD' SN
   generalize bestI s.nodes s.wts s.lives (m:Int)=bb at *
   (go_wp2_with (fail))
   (try rw[Exit.noGoto_ret])
   go_ret
   exact⟨by rw[HE.o];rfl,Ext.below OK0.o M.bel⟩
  .have HC:Bx (∃hc:c<s.nodes.length,m<c):=⟨by
    obtain⟨hc,hu⟩:=AiE hb
    have:=AbH LK.o c hc
    exact⟨hc,by omega⟩⟩
   have SN':Bx (headF s.nodes s.wts s.lives (f+1) (j:Int)=(c:Int)):=⟨by rw[SN.o,hb,if_neg (by omega)]⟩
   rw[hb]
   have hc0:¬(c:Int)<0:=by omega
   have hc2:decide ((c:Int)<0)=false:=decide_eq_false hc0
   clear HD' SN hb
   (go_wp2_with (fail))
   go_roundw
   case rel=>exact⟨f+1,c,HC.o.1,SN'.o,rfl,M.o⟩
   case measure=>have:=HC.o.1;have:=HC.o.2;simp[intOf];omega
theorem Ag7(Γ:Gam)(s:Sto)(v:Sls)(k:Nat)(h:HOk Γ s v k)(w:World)(ok:Ok Γ w) :
  Calls Tryz.prog 30 #[.agg (fl (stP s v)).toArray] w (NisP Γ w (pathI s.nodes s.head)):=by
 have M:=bx (MM.start ok)
 have H:=bx h
 clear ok h
 go_enter Tryz.func30,Tryz.ntmps30
 (go_wp2_with (refine zBXd ?_;clear M;intro w' g M))
 refine AaB [] (.steps [(1,0),(0,1),(0,2),(2,3),(2,4),(1,5)] .leaf) (by kernel_rfl) (by kernel_rfl) ?_;(simp only[MixT6,MT.steps,stepAt,List.getD_cons_zero,List.getD_cons_succ]);replace M:=bx (M.o.drew)
 refine zNM ?_
 refine zMRd ?_
 refine zMC (AcZ Γ s v k H.o _ M.ok) Tryz.func28 ?_
 rintro e5 w5 ⟨rfl,hx5⟩
 refine⟨_,rfl,hx5.bel,?_⟩
 replace M:=bx (M.o.call hx5)
 clear hx5
 refine zNM ?_
 refine zMRd ?_
 refine zMC (Al8 Γ v.nodes s.nodes s.head _ M.ok H.o.g.nodes H.o.si.t.lk H.o.nb) Tryz.func60 ?_
 rintro e6 w6 ⟨A6,c6,Γ6,rfl,hc6,hs6,hx6⟩
 refine⟨_,rfl,hx6.bel,?_⟩
 replace M:=bx (M.o.call hx6)
 have HS6:=bx hs6
 have HC6:=bx hc6
 clear hc6 hs6 hx6
 refine zNM ?_
 refine zMRd ?_
 refine NoPanic.normal ?_
 (go_wp2_with (fail))
 go_ret
 exact⟨A6,c6,Γ6,rfl,HC6.o,HS6.o,M.o.ext⟩
end Go.Proofs.YtmgeheaneohldaaGreat
