/- Texts joined: what the walks of this claim stand on (part 48). -/
import Derived.Test.YtmgeheaneohldaaGreatJK31
import Derived.Test.YtmgeheaneohldaaGreatJK47
set_option linter.all false
set_option maxRecDepth 20000
set_option maxHeartbeats 40000000
namespace Go.Proofs.YtmgeheaneohldaaGreat
open Go.RowKit Old
theorem Aif(Γ:Gam)(A A':Option Addr)(c c':Nat)(l:List Nat)(hl:l.length<=65535)(h:SlG Γ A l.length (nis l))(h':SlG Γ A' l.length (nis l))(w:World)(ok:Ok Γ w) :
  Calls Tryz.prog 29 #[.slice A l.length c,.slice A' l.length c'] w fun e w'=>e=.returned (.bool true)/\Ext Γ w Γ w':=by
 have M:=bx (MM.start ok)
 have H:=bx h
 have H':=bx h'
 clear ok h h'
 go_enter Tryz.func29,Tryz.ntmps29
 (go_wp2_with (fail))
 go_loopw [5] (fun i wr=>∃k:Nat,k<=l.length/\i=.int .i64 (k:Int)/\MM Γ w Γ wr [] []) (fun i _=>l.length-(intOf i).toNat)
 case atStart=>exact⟨0,Nat.zero_le _,rfl,M.o⟩
 case round=>
  obtain⟨k,hk,rfl,hM⟩:=hrel
  clear M
  have M:=bx hM
  clear hM
  by_cases hkn:k<l.length
  .obtain⟨g1,rfl,hc1⟩:=Acc H.o k hkn
   obtain⟨g2,rfl,hc2⟩:=Acc H'.o k hkn
   have F1:Bx (Fz Γ g1 k [[.int .i64 (l[k]:Int)]] [1]):=⟨hc1,rfl⟩
   have F2:Bx (Fz Γ g2 k [[.int .i64 (l[k]:Int)]] [1]):=⟨hc2,rfl⟩
   have hki:(k:Int)<(l.length:Int):=by omega
   have hk0:0<=(k:Int):=by omega
   clear hc1 hc2
   generalize l[k]=y at *
   (go_wp2_with (fail))
   refine zRG ?_;(repeat((go_big_quiet_want;first|(refine zQFd F1 ?_;go_big_quiet_on;refine zNM ?_)|(refine zQFd F2 ?_;go_big_quiet_on;refine zNM ?_)|(refine zQO ?_;go_big_quiet_on))));(refine zQN ?_;clear M;intro w4 M)
   (go_wp2_with (fail))
   go_roundw
   case rel=>exact⟨k+1,by omega,by go_num,M.o⟩
   case measure=>simp[intOf];omega
  .obtain rfl:k=l.length:=by omega
   (go_wp2_with (fail))
   go_ret
   exact⟨rfl,M.o.ext⟩
theorem AmR(Γ:Gam)(A A':Option Addr)(c c':Nat)(l:List U)(hl:l.length<=65535)(h:SlG Γ A l.length (us l))(h':SlG Γ A' l.length (us l))(w:World)(ok:Ok Γ w) :
  Calls Tryz.prog 22 #[.slice A l.length c,.slice A' l.length c'] w fun e w'=>e=.returned (.bool true)/\Ext Γ w Γ w':=by
 have h1:=(AeL h ok).row
 have h2:=(AeL h' ok).row
 refine(sameNumbers_any w.heap.size A A' l.length l.length c c' (ub l) (ub l) w (Nat.le_refl _) h1 h2 (by omega) (by omega)).mono ?_
 rintro e w' ⟨rfl,hb⟩
 exact⟨by simp,Ext.below ok hb⟩
theorem HOk.refBest{Γ:Gam}{s:Sto}{v:Sls}{k:Nat}(h:HOk Γ s v k)(A2 A3:Option Addr)(c2 c3:Nat)(i:Int)(w:World)(ok:Ok Γ w)(h2:SlG Γ A2 s.nodes.length (us s.wts))(h3:SlG Γ A3 s.nodes.length (bls s.lives)) :
  Calls Tryz.prog 58 #[.agg #[v.nodes.v],.slice A2 s.nodes.length c2,.slice A3 s.nodes.length c3,.int .i64 i] w fun e w'=>e=.returned (.int .i64 (bestI s.nodes s.wts s.lives i))/\Ext Γ w Γ w':=
 AfG Γ v.nodes s.nodes A2 A3 c2 c3 s.wts s.lives i (by have:=h.nb;omega) (Abd s) (AbD s) w ok h.g.nodes h2 h3
theorem AmY(Γ:Gam)(s:Sto)(v:Sls)(k:Nat)(h:HOk Γ s v k)(i:Int)(w:World)(ok:Ok Γ w) :
  Calls Tryz.prog 26 #[.agg (fl (stP s v)).toArray,.int .i64 i] w fun e w'=>e=.returned (.int .i64 (bestI s.nodes s.wts s.lives i))/\Ext Γ w Γ w':=by
 have M:=bx (MM.start ok)
 have OK0:=bx ok
 have H:=bx h
 have LL:=bx (AbD s)
 clear ok h
 go_enter Tryz.func26,Tryz.ntmps26
 (go_wp2_with (refine zBXd ?_;clear M;intro w' g M))
 refine AaB [] (.steps [(1,0),(0,1),(0,2),(0,4),(1,6),(2,3),(2,5),(2,7),(1,8)] .leaf) (by kernel_rfl) (by kernel_rfl) ?_;(simp only[MixT6,MT.steps,stepAt,List.getD_cons_zero,List.getD_cons_succ]);replace M:=bx (M.o.drew)
 refine zNM ?_
 refine zMRd ?_
 refine zMC (H.o.refWeights _ M.ok) Tryz.func24 ?_
 rintro e5 w5 ⟨A5,c5,Γ5,rfl,hc5,hs5,hx5⟩
 refine⟨_,rfl,hx5.bel,?_⟩
 replace M:=bx (M.o.call hx5)
 have H5:=bx (H.o.mono hx5.le)
 have HS5:=bx hs5
 clear hc5 hs5 hx5 H
 refine zNM ?_
 refine zMRd ?_
 refine zMC (H5.o.refLive _ M.ok) Tryz.func15 ?_
 rintro e6 w6 ⟨A6,c6,Γ6,rfl,hc6,hs6,hx6⟩
 refine⟨_,rfl,hx6.bel,?_⟩
 replace M:=bx (M.o.call hx6)
 rw[LL.o]at hs6
 rw[LL.o]
 have H6:=bx (H5.o.mono hx6.le)
 have HS6:=bx hs6
 have HS5':=bx (HS5.o.mono hx6.le)
 clear hc6 hs6 hx6 H5 HS5
 refine zNM ?_
 refine zMRd ?_
 refine zMC (H6.o.refBest A5 A6 c5 c6 i _ M.ok HS5'.o HS6.o) Tryz.func58 ?_
 rintro e7 w7 ⟨rfl,hx7⟩
 refine⟨_,rfl,hx7.bel,?_⟩
 replace M:=bx (M.o.call hx7)
 clear hx7
 refine zNM ?_
 refine zMRd ?_
 refine NoPanic.normal ?_
 (go_wp2_with (fail))
 go_ret
 exact⟨rfl,Ext.below OK0.o M.bel⟩
theorem Aon(c:Cf)(bal:List U)(h:CfB c bal):(newS c bal).head=0:=by
 obtain⟨j,hj,ej,_⟩:=Adv (Af9 h)
 have hj':j<1:=hj
 obtain rfl:j=0:=by omega
 have:=AgJ (W:=(newS c bal).wts) (L:=(newS c bal).lives) (Af9 h).t.lk hj (f:=0) (by
  show bestI (newS c bal).nodes _ _ 0<0
  rw[Afr];decide)
 unfold Sto.head
 rw[ej]
 exact this
theorem AoS(c:Cf)(bal:List U):pathI (newS c bal).nodes 0 = [0]:=rfl
theorem AlP{Γ0 Γ:Gam}{w0 w:World}{L:List Ent}{R:List RowE}{Pg:Program}{ops:Array Oper}{rest:List Oper}{op:Oper}{a:Act}{Q:Exit->Act->World->Prop}{t e:TypeId}{bytes:Nat}(M:MM Γ0 w0 Γ w L R)(el:ElT Pg t e 1 bytes){x:Operand}{v:Value}(ho:op.op=.buildSlice t 1 #[(0,x)])
  (hgd:Region.wanted op (yielded ops a.tmps)=true) (hx:a.eval x=v) (hv:v.cells = #[v]) (h:∀w' g,MM Γ0 w0 Γ w' (⟨g,[[v]],[1]⟩::L) R->wpList Pg ops Q rest (a.put op.dst (.slice (some ⟨g,0,none⟩) 1 1)) w'):wpList Pg ops Q (op::rest) a w:=
 Abx hgd fun K hK=>by
  unfold Oper.wp
  rw[Aa1 el ho hx (cs:=[v]) hv rfl,Oper.upon_value]
  exact hK _ _ (h _ _ (M.alloc (P:=[[v]]) (ls:=[1]) rfl rfl e))
theorem Acj(w:World):Calls Tryz.prog 32 #[] w fun e w'=>e=.returned (.bool true)/\Below w.heap.size w w':=by
 have M:=bx (MM.start (Acy w))
 go_enter Tryz.func32,Tryz.ntmps32
 (go_wp2_with (fail))
 refine(AeP g0 none 0 0 [] _ M.ok (Row.nil ..) (Nat.zero_le _)).mono ?_
 rintro e1 w1 ⟨cf,sb,bal,Γ1,rfl,hcb,hsb,hx⟩
 replace M:=bx (M.o.call hx)
 have HCB:=bx hcb
 have HSB:=bx hsb
 clear hx hcb hsb
 (go_wp2_with (fail))
 refine(new_any Γ1 cf sb bal HCB.o.ok _ M.ok HSB.o).mono ?_
 rintro e1 w1 ⟨v,Γ2,rfl,hg,hx⟩
 replace M:=bx (M.o.call hx)
 have H:Bx (HOk Γ2 (newS cf bal) v 0):=⟨⟨Af9 HCB.o,by decide,hg⟩⟩
 have HH:=bx (Aon cf bal HCB.o)
 have HB:=bx (Afr cf bal (newS cf bal).wts (newS cf bal).lives)
 have HP:=bx (AoS cf bal)
 have HL:Bx ((newS cf bal).nodes.length=1):=⟨rfl⟩
 clear hx hg HSB HCB
 generalize newS cf bal=s at *
 (go_wp2_with (first|(refine zALd (ztSt) ?_;clear M;intro w' g M)|(refine zSSd M 0 (stP s v) (stP s v) (AaD _ _) (AaX _ _) ?_;clear M;intro w' M)|refine zLAd ?_))
 refine(AcZ Γ2 s v 0 H.o _ M.ok).mono ?_
 rintro e1 w1 ⟨rfl,hx⟩
 replace M:=bx (M.o.call hx)
 rw[HH.o]
 clear hx
 (go_wp2_with (refine zLAd ?_))
 refine(AiO Γ2 s v 0 H.o 0 _ M.ok).mono ?_
 rintro e1 w1 ⟨rfl,hx⟩
 replace M:=bx (M.o.call hx)
 rw[HB.o]
 clear hx
 (go_wp2_with (refine zLAd ?_))
 refine(AbP Γ2 s v 0 H.o.si H.o.k _ M.ok H.o.g).mono ?_
 rintro e1 w1 ⟨A,c,Γ3,rfl,hc,hs,hx⟩
 replace M:=bx (M.o.call hx)
 have H3:=bx (H.o.mono hx.le)
 rw[HL.o]
 clear hc hs hx H
 (go_wp2_with (refine zLAd ?_))
 refine(Ag7 Γ3 s v 0 H3.o _ M.ok).mono ?_
 rintro e1 w1 ⟨A4,c4,Γ4,rfl,hc,hs,hx⟩
 replace M:=bx (M.o.call hx)
 rw[HH.o,HP.o]at hs
 rw[HH.o,HP.o]
 have HS4:=bx hs
 clear hc hs hx H3 HH HB HP
 (go_wp2_with (((with_reducible apply AlP M.o AbE);rfl;rfl;rfl;rfl;intro w' g M';(replace M:=bx M';clear M');refine zNM ?_)))
 obtain⟨Γ5,h5,hle5,hM5⟩:=M.o.frzL
 clear M
 have M:=bx hM5
 have HS5:=bx (HS4.o.mono hle5)
 have HS6:Bx (SlG Γ5 (some ⟨g,0,none⟩) [0].length (nis [0])):=⟨fun _=>⟨g,[],rfl,by rw[h5];rfl⟩⟩
 clear h5 hle5 hM5 HS4
 refine(Aif Γ5 A4 (some ⟨g,0,none⟩) c4 1 [0] (by decide) HS5.o HS6.o _ M.ok).mono ?_
 rintro e1 w1 ⟨rfl,hx⟩
 replace M:=bx (M.o.call hx)
 clear hx
 (go_wp2_with (fail))
 go_ret
 exact⟨rfl,M.bel⟩
theorem headsExact_walk(a0:Option Addr)(n0 c0:Nat)(l0:List Int)(a1:Int)(w:World)(_:Fit .i64 l0)(_:l0.length=n0)(hr0:Row w w.heap.size 1 a0 n0 (ints .i64 l0))(hnc0:n0<=c0)(hcm0:c0<=maxLen)(_:(Lit.int .i64 a1).wf=true) :
  Calls Tryz.prog 6 #[.slice a0 n0 c0,.int .i64 a1] w fun e w'=>e=.returned (.bool true)/\Below w.heap.size w w':=by
 have M:=bx (MM.start (Acy w))
 have ST:=bx (Ab9 g0 a0 n0 c0 l0 w (Acy w) hr0 (Nat.le_trans hnc0 hcm0))
 clear hr0 hnc0 hcm0
 go_enter Tryz.func6,Tryz.ntmps6
 (go_wp2_with (fail))
 refine ST.o.mono ?_
 rintro e1 w1 ⟨x,z,Γ1,rfl,hz,hg,hx⟩
 replace M:=bx (M.o.call hx)
 have H:=bx (HOk.mk hz.s (by decide) hg.s)
 clear hx hz hg ST
 go_upto_region 2 with(first|((with_reducible apply Ab7 Aj7);rfl;rfl;rfl;exact AaJ _ _;exact zrts;rfl;refine zCT ?_)|((refine zALd (ztSt) ?_;clear M;intro w' g M);(obtain⟨g5,hg0⟩:∃y,y=g:=⟨_,rfl⟩);subst hg0)|(refine zSSd M 0 (stP z.s x.s) (stP z.s x.s) (AaD _ _) (AaX _ _) ?_;clear M;intro w' M))
 generalize z.s=s at *
 generalize x.s=v at *
 refine AaR [] (.steps [(0,0),(0,2),(2,1),(2,3),(2,4),(1,5)] .leaf) (by kernel_rfl) (by kernel_rfl) ?_;(simp only[MixT8,MT.steps,stepAt,List.getD_cons_zero,List.getD_cons_succ]);replace M:=bx (M.o.drew)
 refine zNM ?_;refine zMRd ?_;refine zH8 M ?_;clear M;intro w8 M
 refine zMC (AbP Γ1 s v _ H.o.si H.o.k _ M.ok H.o.g) Tryz.func23 ?_
 rintro e1 w1 ⟨A1,c1,Γ2,rfl,hcap,hsl,hx⟩
 refine⟨_,rfl,hx.bel,?_⟩
 replace M:=bx (M.o.call hx)
 have H2:=bx (H.o.mono hx.le)
 have HS1:=bx hsl
 clear hx hcap hsl H
 refine zNM ?_;refine zMRd ?_;refine zH8 M ?_;clear M;intro w8 M
 refine zMC (H2.o.refWeights _ M.ok) Tryz.func24 ?_
 rintro e1 w1 ⟨A2,c2,Γ3,rfl,hcap,hsl,hx⟩
 refine⟨_,rfl,hx.bel,?_⟩
 replace M:=bx (M.o.call hx)
 have H3:=bx (H2.o.mono hx.le)
 have HS2:=bx hsl
 have HS1':=bx (HS1.o.mono hx.le)
 clear hx hcap hsl H2 HS1
 have WL:=bx (Abd s)
 have SU:Bx (∀w,Ok Γ3 w->Calls Tryz.prog 22 #[.slice A1 s.nodes.length c1,.slice A2 s.nodes.length c2] w fun e w'=>e=.returned (.bool true)/\Ext Γ3 w Γ3 w'):=⟨fun w ok=>by
  have:=AmR Γ3 A1 A2 c1 c2 s.wts (by rw[Abd];have:=H3.o.nb;omega) (by rw[Abd];exact HS1'.o) (by rw[Abd];exact HS2.o) w ok
  rwa [Abd]at this⟩
 clear HS1' HS2 WL
 refine zNM ?_;refine zMRd ?_;refine zH8 M ?_;clear M;intro w8 M
 refine zMC (SU.o _ M.ok) Tryz.func22 ?_
 rintro e1 w1 ⟨rfl,hx⟩
 refine⟨_,rfl,hx.bel,?_⟩
 replace M:=bx (M.o.call hx)
 clear hx SU
 refine zNM ?_
 refine zMRd ?_
 refine zH8 M ?_;clear M;intro w9 M;refine NoPanic.normal ?_
 have HN0:v.nodes.n=s.nodes.length:=H3.o.g.nodes.n
 obtain⟨N,hN⟩:∃N,v.nodes.n=N:=⟨_,rfl⟩
 have HV:Bx (v.nodes.v=.slice v.nodes.A N v.nodes.c):=⟨by rw[<-hN]⟩
 rw[hN]at HN0
 have hnb:N<=4096:=by have:=H3.o.nb;omega
 have VB:=bx (fun i w' ok'=>AiO Γ3 s v _ H3.o i w' ok')
 have RB:=bx (fun i w' ok'=>AmY Γ3 s v _ H3.o i w' ok')
 clear HN0 hN
 (go_wp2_with (fail))
 go_loopw [6] (fun i wr=>∃j:Nat,j<=N+2/\i=.int .i64 ((j:Int)-1)/\MM g0 w Γ3 wr [⟨g5,stP s v,stL⟩] []) (fun i _=>N+3-(intOf i+1).toNat)
 case atStart=>exact⟨0,by omega,rfl,M.o⟩
 case round=>
  obtain⟨j,hj,rfl,hM⟩:=hrel
  clear M
  have M:=bx hM
  clear hM
  obtain⟨i,hi⟩:∃i:Int,(j:Int)-1=i:=⟨_,rfl⟩
  rw[hi]
  by_cases hin:i<=(N:Int)
  .have hi0:-1<=i:=by omega
   (go_wp2_with (refine zLHd HV ?_))
   have C0:=bx (clsE M.o fun w' ok'=>VB.o i w' ok')
   have C1:=bx (clsE M.o fun w' ok'=>RB.o i w' ok')
   generalize bestI s.nodes s.wts s.lives i=b at *
   refine zRG ?_;(repeat((go_big_quiet_want;first|(refine zQC (AaH C0.o) Tryz.func25 ?_;go_big_quiet_on;refine zNM ?_)|(refine zQC (AaH C1.o) Tryz.func26 ?_;go_big_quiet_on;refine zNM ?_)|(refine zQAd ?_;go_big_quiet_on;refine zNM ?_)|(refine zQO ?_;go_big_quiet_on))));(refine zQN ?_;clear M;intro w4 M)
   (go_wp2_with (fail))
   go_roundw
   case rel=>exact⟨j+1,by omega,by rw[show((j+1:Nat):Int)-1=i+1 by omega],M.o⟩
   case measure=>simp[intOf];omega
  ·(go_wp2_with (first|refine zLHd HV ?_|refine zLAd ?_))
   refine(H3.o.refHead _ M.ok).mono ?_
   rintro e1 w1 ⟨rfl,hx⟩
   replace M:=bx (M.o.call hx)
   clear hx
   have VB1:=bx (VB.o a1)
   have RB1:=bx (RB.o a1)
   have VH:=bx (fun w ok=>AcZ Γ3 s v _ H3.o w ok)
   have VC:=bx (fun w ok=>Ag7 Γ3 s v _ H3.o w ok)
   have PA:=bx (fun(Γ':Gam) (hl:Le Γ3 Γ') w ok=>AdG Γ' v.nodes s.nodes s.head w ok (H3.o.g.nodes.mono hl) H3.o.si.t.lk H3.o.nb)
   have PL:Bx ((pathI s.nodes s.head).length<=65535):=⟨by
    obtain⟨m,hm,e⟩:=Ah2 (H3.o.si.wok H3.o.k)
    have h1:=Adt H3.o.si.t.lk m (by rw[Abj];exact hm)
    have:=H3.o.nb
    rw[e];unfold pathI
    rw[AbT (by omega) (by omega),if_pos rfl,Int.toNat_natCast]
    omega⟩
   generalize pathI s.nodes s.head=pp at *
   generalize s.head=hd at *
   generalize bestI s.nodes s.wts s.lives a1=b at *
   clear VB RB H3
   (go_wp2_with (fail))
   refine AaR [] (.steps [(0,0),(1,1),(0,3),(1,4),(2,2),(2,5),(1,6),(1,7),(0,8),(1,10),(2,9),(1,11),(1,12),(1,13),(0,14),(1,16),(0,17),(1,18),(2,15),(2,19),(2,20),(1,21),(1,22),(2,23),(1,24),(1,25)] .leaf) (by kernel_rfl) (by kernel_rfl) ?_;(simp only[MixT8,MT.steps,stepAt,List.getD_cons_zero,List.getD_cons_succ]);replace M:=bx (M.o.drew)
   refine zNM ?_;refine zMRd ?_;refine zH8 M ?_;clear M;intro w8 M
   refine zMC (VB1.o _ M.ok) Tryz.func25 ?_
   rintro e1 w1 ⟨rfl,hx⟩
   refine⟨_,rfl,hx.bel,?_⟩
   replace M:=bx (M.o.call hx)
   clear hx VB1
   refine zNM ?_;refine zMRd ?_;refine zH8 M ?_;clear M;intro w8 M
   refine zMC (RB1.o _ M.ok) Tryz.func26 ?_
   rintro e1 w1 ⟨rfl,hx⟩
   refine⟨_,rfl,hx.bel,?_⟩
   replace M:=bx (M.o.call hx)
   clear hx RB1
   refine zNM ?_;refine zMRd ?_;refine zH8 M ?_;clear M;intro w8 M
   refine zMC (VH.o _ M.ok) Tryz.func28 ?_
   rintro e1 w1 ⟨rfl,hx⟩
   refine⟨_,rfl,hx.bel,?_⟩
   replace M:=bx (M.o.call hx)
   clear hx VH
   refine zNM ?_;refine zMRd ?_;refine zH8 M ?_;clear M;intro w8 M
   refine zMC (VC.o _ M.ok) Tryz.func30 ?_
   rintro e1 w1 ⟨A4,c4,Γ4,rfl,hcap,hsl,hx⟩
   refine⟨_,rfl,hx.bel,?_⟩
   replace M:=bx (M.o.call hx)
   have HS4:=bx hsl
   have PA4:=bx (fun w ok=>PA.o Γ4 hx.le w ok)
   clear hx hcap hsl VC PA
   refine zNM ?_;refine zMRd ?_;refine zH8 M ?_;clear M;intro w8 M
   refine zMC (PA4.o _ M.ok) Tryz.func31 ?_
   rintro e1 w1 ⟨A5,c5,Γ5,rfl,hcap,hsl,hx⟩
   refine⟨_,rfl,hx.bel,?_⟩
   replace M:=bx (M.o.call hx)
   have HS5:=bx hsl
   have HS4':=bx (HS4.o.mono hx.le)
   clear hx hcap hsl PA4 HS4
   refine zNM ?_;refine zMRd ?_;refine zH8 M ?_;clear M;intro w8 M
   refine zMC (Aif Γ5 A4 A5 c4 c5 pp PL.o HS4'.o HS5.o _ M.ok) Tryz.func29 ?_
   rintro e1 w1 ⟨rfl,hx⟩
   refine⟨_,rfl,hx.bel,?_⟩
   replace M:=bx (M.o.call hx)
   clear hx HS4' HS5 PL
   refine zNM ?_;refine zMRd ?_;refine zH8 M ?_;clear M;intro w8 M
   refine zMC (Acj _) Tryz.func32 ?_
   rintro e1 w1 ⟨rfl,hx⟩
   refine⟨_,rfl,hx,?_⟩
   replace M:=bx (M.o.below hx)
   clear hx
   refine zNM ?_
   refine zMRd ?_
   refine zH8 M ?_;clear M;intro w9 M;refine NoPanic.normal ?_
   (go_wp2_with (fail))
   go_ret
   exact⟨rfl,M.bel⟩
end Go.Proofs.YtmgeheaneohldaaGreat
