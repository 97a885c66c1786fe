/- Texts joined: what the walks of this claim stand on (part 51). -/
import Derived.Test.YtmgeheaneohldaaGreatJK48
set_option linter.all false
set_option maxRecDepth 20000
set_option maxHeartbeats 40000000
namespace Go.Proofs.YtmgeheaneohldaaGreat
open Go.RowKit Old
theorem Aqt{k:Nat}{s:Sto}(hs:SI k s)(hw:SmT (ub s.balj)){j:Nat}(hj:j<s.nodes.length)(q m:Nat)(hm:m<=(kids s.nodes (j:Int)).length) :
  0<=oth s.wt (kids s.nodes (j:Int)) q m/\oth s.wt (kids s.nodes (j:Int)) q m<=9223372036854775808:=by
 have hnn:∀x∈kids s.nodes (j:Int),0<=s.wt x:=fun x _=>(AlM hs.t hw x).1
 have h1:=Ame (i:=q) hnn m hm
 have h2:=AmJ hnn m
 have h3:=AjY hs.t.lk hj
 have h4:=AlM hs.t hw j
 have h5:=Aev hw j
 have h6:=AkL hw
 have h7:=hw.2
 omega
theorem AoT{W:Nat->Int}{l:List Nat}{i:Nat}:oth W l i (i+1)=oth W l i i:=by show oth W l i i+(if i=i then 0 else W (l.getD i 0))=_;rw[if_pos rfl];omega
theorem AoU{W:Nat->Int}{l:List Nat}{i m:Nat}(h:m≠i)(hm:m<l.length):oth W l i (m+1)=oth W l i m+W l[m]:=by show oth W l i m+(if m=i then 0 else W (l.getD m 0))=_;rw[if_neg h,AcU hm]
theorem headsMajority_walk(a0:Option Addr)(n0 c0:Nat)(l0:List Int)(w:World)(_:Fit .i64 l0)(_:l0.length=n0)(hr0:Row w w.heap.size 1 a0 n0 (ints .i64 l0))(hnc0:n0<=c0)(hcm0:c0<=maxLen) :
  Calls Tryz.prog 8 #[.slice a0 n0 c0] w fun e w'=>e=.returned (.bool true)/\Below w.heap.size w w':=by
 have M:=bx (MM.start (Acy w))
 have ST:=bx (Ab9 g0 a0 n0 c0 l0 w (Acy w) hr0 (Nat.le_trans hnc0 hcm0))
 clear hr0 hnc0 hcm0
 go_enter Tryz.func8,Tryz.ntmps8
 (go_wp2_with (fail))
 refine ST.o.mono ?_
 rintro e1 w1 ⟨x,z,Γ1,rfl,hz,hg,hx⟩
 replace M:=bx (M.o.call hx)
 have H:=bx (HOk.mk hz.s (by decide) hg.s)
 clear hx hz hg ST
 go_upto_region 2 with(first|((with_reducible apply Ab7 Aj7);rfl;rfl;rfl;exact AaJ _ _;exact zrts;rfl;refine zCT ?_)|((refine zALd (ztSt) ?_;clear M;intro w' g M);(obtain⟨g5,hg0⟩:∃y,y=g:=⟨_,rfl⟩);subst hg0)|(refine zSSd M 0 (stP z.s x.s) (stP z.s x.s) (AaD _ _) (AaX _ _) ?_;clear M;intro w' M))
 generalize z.s=s at *
 generalize x.s=v at *
 have VH:=bx (fun w ok=>AcZ Γ1 s v _ H.o w ok)
 have LL:=bx (AbD s)
 refine AaR [] (.steps [(0,0),(0,2),(0,4),(2,1),(2,3),(2,5),(1,6),(1,7),(1,8)] .leaf) (by kernel_rfl) (by kernel_rfl) ?_;(simp only[MixT8,MT.steps,stepAt,List.getD_cons_zero,List.getD_cons_succ]);replace M:=bx (M.o.drew)
 refine zNM ?_;refine zMRd ?_;refine zH8 M ?_;clear M;intro w8 M
 refine zMC (VH.o _ M.ok) Tryz.func28 ?_
 rintro e1 w1 ⟨rfl,hx⟩
 refine⟨_,rfl,hx.bel,?_⟩
 replace M:=bx (M.o.call hx)
 clear hx VH
 refine zNM ?_;refine zMRd ?_;refine zH8 M ?_;clear M;intro w8 M
 refine zMC (AbP Γ1 s v _ H.o.si H.o.k _ M.ok H.o.g) Tryz.func23 ?_
 rintro e1 w1 ⟨A1,c1,Γ2,rfl,hcap,hsl,hx⟩
 refine⟨_,rfl,hx.bel,?_⟩
 replace M:=bx (M.o.call hx)
 have H2:=bx (H.o.mono hx.le)
 have HS1:=bx hsl
 clear hx hcap hsl H
 refine zNM ?_;refine zMRd ?_;refine zH8 M ?_;clear M;intro w8 M
 refine zMC (H2.o.live _ M.ok) Tryz.func14 ?_
 rintro e1 w1 ⟨A2,c2,Γ3,rfl,hcap,hsl,hx⟩
 refine⟨_,rfl,hx.bel,?_⟩
 replace M:=bx (M.o.call hx)
 rw[LL.o]at hsl
 rw[LL.o]
 have H3:=bx (H2.o.mono hx.le)
 have HS2:=bx hsl
 have HS1':=bx (HS1.o.mono hx.le)
 clear hx hcap hsl H2 HS1
 refine zNM ?_
 refine zMRd ?_
 refine zH8 M ?_;clear M;intro w9 M;refine NoPanic.normal ?_
 have HN0:v.nodes.n=s.nodes.length:=H3.o.g.nodes.n
 obtain⟨N,hN⟩:∃N,s.nodes.length=N:=⟨_,rfl⟩
 have HV:Bx (v.nodes.v=.slice v.nodes.A N v.nodes.c):=⟨by rw[<-hN,<-HN0]⟩
 have HLN:=bx hN
 rw[hN]
 clear HN0 hN
 (go_wp2_with (refine zLHd HV ?_))
 obtain⟨j,hj,ej,_⟩:=Adv H3.o.si
 have FI:=bx (fun w ok=>Aaa Γ3 v.nodes s.nodes s.just.r w ok H3.o.g.nodes)
 rw[ej]at FI
 have CH:=bx (fun w ok=>Acq Γ3 v.nodes s.nodes (j:Int) w ok H3.o.g.nodes (by have:=H3.o.nb;omega))
 refine AaR [] (.steps [(1,0),(0,1),(1,2),(0,3),(1,4),(1,5),(1,6),(0,7),(2,8),(2,9),(1,10)] .leaf) (by kernel_rfl) (by kernel_rfl) ?_;(simp only[MixT8,MT.steps,stepAt,List.getD_cons_zero,List.getD_cons_succ]);replace M:=bx (M.o.drew)
 refine zNM ?_;refine zMRd ?_;refine zH8 M ?_;clear M;intro w8 M
 refine zMC (FI.o _ M.ok) Tryz.func33 ?_
 rintro e1 w1 ⟨rfl,hx⟩
 refine⟨_,rfl,hx.bel,?_⟩
 replace M:=bx (M.o.call hx)
 clear hx FI
 refine zNM ?_;refine zMRd ?_;refine zH8 M ?_;clear M;intro w8 M
 refine zMC (CH.o _ M.ok) Tryz.func35 ?_
 rintro e1 w1 ⟨A4,c4,Γ4,rfl,hcap,hsl,hx⟩
 refine⟨_,rfl,hx.bel,?_⟩
 replace M:=bx (M.o.call hx)
 have HK:=bx hsl
 have H4:=bx (H3.o.mono hx.le)
 have HL4:=bx (HS2.o.mono hx.le)
 have HW4:=bx (HS1'.o.mono hx.le)
 clear hx hcap hsl CH H3 HS2 HS1'
 refine zNM ?_
 refine zMRd ?_
 refine zH8 M ?_;clear M;intro w9 M;refine NoPanic.normal ?_
 have hw:=H4.o.si.wok H4.o.k
 have OB:=bx (fun q m hm=>Aqt H4.o.si hw.sm hj q m hm)
 have WA:=bx (fun x (hx:x<s.nodes.length)=>Agv H4.o.si.t hw.sm hx)
 have WL:=bx (Abd s)
 have MJ:=bx (fun i (hi:i<(kids s.nodes (j:Int)).length) hl ho=>Arm H4.o.si hw.sm hj ej hi hl ho)
 have KL:Bx (∀x∈kids s.nodes (j:Int),x<s.nodes.length):=⟨fun x hx=>(Ab3 hx).1⟩
 have IA:=bx (fun a b w ok=>AdR Γ4 v.nodes s.nodes a b w ok H4.o.g.nodes H4.o.si.t.lk H4.o.nb)
 have hkl:(kids s.nodes (j:Int)).length<=65535:=Nat.le_trans (Aem s.nodes (j:Int)) (by have:=H4.o.nb;omega)
 have HWS:Bx (SlG Γ4 A1 s.wts.length (us s.wts)):=⟨by rw[Abd];exact HW4.o⟩
 have HLS:Bx (SlG Γ4 A2 s.lives.length (bls s.lives)):=⟨by rw[AbD];exact HL4.o⟩
 clear hw H4 HW4 HL4 ej
 generalize kids s.nodes (j:Int)=K at *
 generalize s.wt=wt at *
 generalize s.head=hd at *
 (go_wp2_with (fail))
 go_loopw [8] (fun i wr=>∃q:Nat,q<=K.length/\i=.int .i64 (q:Int)/\MM g0 w Γ4 wr [⟨g5,stP s v,stL⟩] []) (fun i _=>K.length-(intOf i).toNat)
 case atStart=>exact⟨0,Nat.zero_le _,rfl,M.o⟩
 case round=>
  obtain⟨q,hq,rfl,hM⟩:=hrel
  clear M
  have M:=bx hM
  clear hM
  by_cases hqK:q<K.length
  .have hqi:(q:Int)<(K.length:Int):=by omega
   have hq0:(0:Int)<=(q:Int):=by omega
   have HQ:=bx hqK
   (go_wp2_with (fail))
   go_loopw [9,10] (fun o kk wr=>∃m:Nat,m<=K.length/\kk=.int .i64 (m:Int)/\o=.int .u64 (oth wt K q m)/\MM g0 w Γ4 wr [⟨g5,stP s v,stL⟩] []) (fun _ kk _=>K.length-(intOf kk).toNat)
   case atStart=>exact⟨0,Nat.zero_le _,rfl,rfl,M.o⟩
   case round=>
    obtain⟨m,hm,rfl,rfl,hM⟩:=hrel
    clear M
    have M:=bx hM
    clear hM
    by_cases hmK:m<K.length
    .have hmi:(m:Int)<(K.length:Int):=by omega
     have hm0:(0:Int)<=(m:Int):=by omega
     by_cases hmq:m=q
     .have hbne:((m:Int) != (q:Int))=false:=by simp[hmq]
      have hbeq:((m:Int)==(q:Int))=true:=by simp[hmq]
      have HO:Bx (oth wt K q (m+1)=oth wt K q m):=⟨by rw[hmq];exact AoT⟩
      clear hmq
      generalize oth wt K q m=o at *
      (go_wp2_with (fail))
      go_roundw
      case rel=>exact⟨m+1,by omega,by go_num,by rw[HO.o],M.o⟩
      case measure=>simp[intOf];omega
     .have hbne:((m:Int) != (q:Int))=true:=by simp;omega
      have hbeq:((m:Int)==(q:Int))=false:=by simp;omega
      have hcl:=KL.o _ (List.getElem_mem hmK)
      have hcw:K[m]<s.wts.length:=by rw[WL.o];exact hcl
      have hcn:(K[m]:Int)<(N:Int):=by have:=HLN.o;omega
      have hc0:(0:Int)<=(K[m]:Int):=by omega
      obtain⟨gk,hk1,hk2⟩:=Acc HK.o m hmK
      subst hk1
      have F0:Bx (Fz Γ4 gk m [[.int .i64 (K[m]:Int)]] [1]):=⟨hk2,rfl⟩
      obtain⟨gw,hk1,hk3⟩:=Ac4 HWS.o K[m] hcw
      subst hk1
      have F1:Bx (Fz Γ4 gw K[m] [[.int .u64 (s.wts[K[m]].n:Int)]] [1]):=⟨hk3,rfl⟩
      have WX:=WA.o K[m] hcl
      rw[List.getD,List.getElem?_eq_getElem hcw,Option.getD_some]at WX
      have HO:Bx (oth wt K q (m+1)=oth wt K q m+(s.wts[K[m]].n:Int)):=⟨by rw[WX];exact AoU hmq hmK⟩
      have hob:=OB.o q m hm
      have hob2:=OB.o q (m+1) hmK
      rw[HO.o]at hob2
      have hwr1:(oth wt K q m+(s.wts[K[m]].n:Int))%18446744073709551616=oth wt K q m+(s.wts[K[m]].n:Int):=by omega
      have hwr2:IntKind.u64.wrap (oth wt K q m+(s.wts[K[m]].n:Int))=oth wt K q m+(s.wts[K[m]].n:Int):=Acn (by omega) (by omega)
      clear hk2 hk3 WX hmq hcl hob2
      generalize oth wt K q m=o at *
      generalize s.wts[K[m]]=wk at *
      clear hcw
      generalize K[m]=c at *
      (go_wp2_with (first|refine zRFd F0 ?_|refine zRFd F1 ?_))
      go_roundw
      case rel=>exact⟨m+1,by omega,by go_num,by rw[HO.o],M.o⟩
      case measure=>simp[intOf];omega
    .obtain rfl:m=K.length:=by omega
     have hqK:=HQ.o
     have hcl:=KL.o _ (List.getElem_mem hqK)
     have hcw:K[q]<s.wts.length:=by rw[WL.o];exact hcl
     have hcL:K[q]<s.lives.length:=by rw[LL.o];exact hcl
     have hcn:(K[q]:Int)<(N:Int):=by have:=HLN.o;omega
     have hc0:(0:Int)<=(K[q]:Int):=by omega
     obtain⟨gk,hk1,hk2⟩:=Acc HK.o q hqK
     subst hk1
     have F0:Bx (Fz Γ4 gk q [[.int .i64 (K[q]:Int)]] [1]):=⟨hk2,rfl⟩
     obtain⟨gw,hk1,hk3⟩:=Ac4 HWS.o K[q] hcw
     subst hk1
     have F1:Bx (Fz Γ4 gw K[q] [[.int .u64 (s.wts[K[q]].n:Int)]] [1]):=⟨hk3,rfl⟩
     obtain⟨gl,hk1,hk4⟩:=AeT HLS.o K[q] hcL
     subst hk1
     have F2:Bx (Fz Γ4 gl K[q] [[.bool s.lives[K[q]]]] [1]):=⟨hk4,rfl⟩
     have WX:=WA.o K[q] hcl
     rw[List.getD,List.getElem?_eq_getElem hcw,Option.getD_some]at WX
     have gL:s.lives.getD K[q] false=s.lives[K[q]]:=by simp[List.getD,List.getElem?_eq_getElem hcL]
     have MJ':=MJ.o q hqK
     rw[gL,<-WX]at MJ'
     have IA':=bx (IA.o (K[q]:Int) hd)
     clear hk2 hk3 hk4 WX gL hcl
     generalize hlv:s.lives[K[q]]=lv at *
     generalize s.wts[K[q]]=wk at *
     clear hcw hcL hlv
     generalize ancI s.nodes (K[q]:Int) hd=an at *
     generalize K[q]=c at *
     generalize oth wt K q K.length=o at *
     cases lv with
     |false=>
      clear MJ' IA'
      (go_wp2_with (fail))
      refine zRG ?_;(repeat(first|go_big_quiet_skip|(go_big_quiet_want;first|(refine zQFd F0 ?_;go_big_quiet_on;refine zNM ?_)|(refine zQFd F2 ?_;go_big_quiet_on;refine zNM ?_)|(refine zQO ?_;go_big_quiet_on))));(refine zQN ?_;clear M;intro w4 M)
      (go_wp2_with (fail))
      go_roundw
      case rel=>exact⟨q+1,by omega,by go_num,M.o⟩
      case measure=>simp[intOf];omega
     |true=>
      by_cases ho:o<(wk.n:Int)
      .have hd1:decide (o<(wk.n:Int))=true:=decide_eq_true ho
       have han:=MJ' rfl ho
       subst han
       have C0:=bx (clsE M.o fun w' ok'=>IA'.o w' ok')
       clear MJ' IA'
       (go_wp2_with (fail))
       refine zRG ?_;(repeat((go_big_quiet_want;first|(refine zQFd F0 ?_;go_big_quiet_on;refine zNM ?_)|(refine zQFd F1 ?_;go_big_quiet_on;refine zNM ?_)|(refine zQFd F2 ?_;go_big_quiet_on;refine zNM ?_)|(refine zQC (AaH C0.o) Tryz.func34 ?_;go_big_quiet_on;refine zNM ?_)|(refine zQAd ?_;go_big_quiet_on;refine zNM ?_)|(refine zQO ?_;go_big_quiet_on))));(refine zQN ?_;clear M;intro w4 M)
       (go_wp2_with (fail))
       go_roundw
       case rel=>exact⟨q+1,by omega,by go_num,M.o⟩
       case measure=>simp[intOf];omega
      .have hd1:decide (o<(wk.n:Int))=false:=decide_eq_false ho
       clear MJ' IA'
       (go_wp2_with (fail))
       refine zRG ?_;(repeat(first|go_big_quiet_skip|(go_big_quiet_want;first|(refine zQFd F0 ?_;go_big_quiet_on;refine zNM ?_)|(refine zQFd F1 ?_;go_big_quiet_on;refine zNM ?_)|(refine zQFd F2 ?_;go_big_quiet_on;refine zNM ?_)|(refine zQO ?_;go_big_quiet_on))));(refine zQN ?_;clear M;intro w4 M)
       (go_wp2_with (fail))
       go_roundw
       case rel=>exact⟨q+1,by omega,by go_num,M.o⟩
       case measure=>simp[intOf];omega
  .obtain rfl:q=K.length:=by omega
   (go_wp2_with (fail))
   refine zCB M (Acj _) ?_;clear M;intro w1 M
   (go_wp2_with (fail))
   go_ret
   exact⟨rfl,M.bel⟩
end Go.Proofs.YtmgeheaneohldaaGreat
