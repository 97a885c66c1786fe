/- Texts joined: what the walks of this claim stand on (part 59). -/
import Derived.Test.YtmgeheaneohldaaGreatJK47
import Derived.Test.YtmgeheaneohldaaGreatJK56
set_option linter.all false
set_option maxRecDepth 20000
set_option maxHeartbeats 40000000
namespace Go.Proofs.YtmgeheaneohldaaGreat
open Go.RowKit Old
theorem Aie(Γ:Gam)(A A':Option Addr)(c c':Nat)(l:List Int)(hl:l.length<=65535)(h:SlG Γ A l.length (ints .i64 l))(h':SlG Γ A' l.length (ints .i64 l))(w:World)(ok:Ok Γ w) :
  Calls Tryz.prog 29 #[.slice A l.length c,.slice A' l.length c'] w fun e w'=>e=.returned (.bool true)/\Ext Γ w Γ w':=by
 have M:=bx (MM.start ok)
 have H:=bx h
 have H':=bx h'
 clear ok h h'
 go_enter Tryz.func29,Tryz.ntmps29
 (go_wp2_with (first|go_skip|(refine zBXd ?_;clear M;intro w' g M)|(refine zALd (ztLk) ?_;clear M;intro w' g M)|fail|refine zLAd ?_))
 go_loopw [5] (fun i wr=>∃k:Nat,k<=l.length/\i=.int .i64 (k:Int)/\MM Γ w Γ wr [] []) (fun i _=>l.length-(intOf i).toNat)
 case atStart=>exact⟨0,Nat.zero_le _,rfl,M.o⟩
 case round=>
  obtain⟨k,hk,rfl,hM⟩:=hrel
  clear M
  have M:=bx hM
  clear hM
  by_cases hkn:k<l.length
  .obtain⟨g1,rfl,hc1⟩:=Ad9 H.o k hkn
   obtain⟨g2,rfl,hc2⟩:=Ad9 H'.o k hkn
   have F1:Bx (Fz Γ g1 k [[.int .i64 l[k]]] [1]):=⟨hc1,rfl⟩
   have F2:Bx (Fz Γ g2 k [[.int .i64 l[k]]] [1]):=⟨hc2,rfl⟩
   have hki:(k:Int)<(l.length:Int):=by omega
   have hk0:0<=(k:Int):=by omega
   clear hc1 hc2
   generalize l[k]=y at *
   (go_wp2_with (first|go_skip|(refine zBXd ?_;clear M;intro w' g M)|(refine zALd (ztLk) ?_;clear M;intro w' g M)|fail|refine zLAd ?_))
   refine zRG ?_;(repeat(first|go_big_quiet_skip|(go_big_quiet_want;first|(refine zQFd F1 ?_;go_big_quiet_on;refine zNM ?_)|(refine zQFd F2 ?_;go_big_quiet_on;refine zNM ?_)|(refine zQAd ?_;go_big_quiet_on;refine zNM ?_)|(refine zQO ?_;go_big_quiet_on))));(refine zQN ?_;clear M;intro w4 M)
   (go_wp2_with (first|go_skip|(refine zBXd ?_;clear M;intro w' g M)|(refine zALd (ztLk) ?_;clear M;intro w' g M)|fail|refine zLAd ?_))
   go_roundw
   case rel=>exact⟨k+1,by omega,by go_num,M.o⟩
   case measure=>simp[intOf];omega
  .obtain rfl:k=l.length:=by omega
   (go_wp2_with (first|go_skip|(refine zBXd ?_;clear M;intro w' g M)|(refine zALd (ztLk) ?_;clear M;intro w' g M)|fail|refine zLAd ?_))
   go_ret
   exact⟨rfl,M.o.ext⟩
theorem Al2(Γ:Gam)(s:Sto)(v:Sls)(k:Nat)(h:HOk Γ s v k)(g b0:Nat)(B D:Option Addr)(cb cd:Nat)(y:Sl)(di:Value)(A2:Option Addr)(c2:Nat)(w:World)(ok:Ok Γ w)
  (hF:Fz Γ g b0 (arP (.slice B s.nodes.length cb) (.slice D s.nodes.length cd) y.v di (.slice A2 s.nodes.length c2) (fndI s.nodes s.just.r)) arL) (ha:ArOk Γ s B D y A2) :
  Calls Tryz.prog 41 #[.pointer (some ⟨g,b0,none⟩),.agg (fl (stP s v)).toArray] w fun e w'=>e=.returned (.bool true)/\Below w.heap.size w w':=by
 have M:=bx (MM.start ok)
 have H:=bx h
 have F:=bx hF
 have HA:=bx ha
 have LL:=bx (AbD s)
 have WL:=bx (Abd s)
 have NB:=bx h.nb
 have TI0:=bx h.si.t
 clear ok h hF ha
 have EB:Bx ((bstL s.nodes s.wts s.lives).length=s.nodes.length):=⟨Aal _ _⟩
 have ED:Bx ((dscL s.nodes s.wts s.lives).length=s.nodes.length):=⟨Aal _ _⟩
 go_enter Tryz.func41,Tryz.ntmps41
 go_upto_region 1 with(first|go_skip|((refine zBXd ?_;clear M;intro w' g M);(obtain⟨g3,hg0⟩:∃y,y=g:=⟨_,rfl⟩);subst hg0)|refine zLAd ?_)
 (go_wp2_with (first|go_skip|(refine zBXd ?_;clear M;intro w' g M)|(refine zALd (ztLk) ?_;clear M;intro w' g M)|fail|refine zLAd ?_))
 refine(H.o.refWeights _ M.ok).mono ?_
 rintro e1 w1 ⟨A5,c5,Γ5,rfl,hc,hs,hx⟩
 replace M:=bx (M.o.call hx)
 have H5:=bx (H.o.mono hx.le)
 have L5:=bx hx.le
 have HS5:=bx hs
 clear hc hs hx H
 go_upto_region 2 with(first|go_skip|refine zLAd ?_)
 go_cut [6]from 15 (fun s6 wx=>∃(g6:Nat) (B' D':Option Addr) (cb' cd':Nat) (Γ7:Gam),s6=.pointer (some ⟨g6,0,none⟩)/\MM Γ w Γ7 wx [⟨g6,lkP (.slice B' s.nodes.length cb') (.slice D' s.nodes.length cd'),[1,1]⟩,⟨g3,stP s v,stL⟩] []/\SlG Γ7 B' s.nodes.length (ints .i64 (bstL s.nodes s.wts s.lives))/\SlG Γ7 D' s.nodes.length (ints .i64 (dscL s.nodes s.wts s.lives))/\Le Γ Γ7/\Le Γ5 Γ7)
 case first=>
  go_wp2_with fail
  refine AaB [7] (.steps [(1,0),(0,1),(1,2),(0,3)] (.fork 4 (.fork 5 (.steps [(2,6),(3,7)] .leaf) 6 (.steps [(2,5),(3,7)] .leaf)) 6 (.steps [(2,4),(2,5),(3,7)] .leaf))) (by kernel_rfl) (by kernel_rfl) ?_;(simp only[MixT6,MT.steps,stepAt,List.getD_cons_zero,List.getD_cons_succ]);replace M:=bx (M.o.drew)
  refine zNM ?_
  refine zMRd ?_
  refine⟨?_,?_⟩
  all_goals (first|(refine zMC (H5.o.refLive _ M.ok) Tryz.func15 ?_;rintro e6 w6 ⟨A6,c6,Γ6,rfl,hc6,hs6,hx6⟩;refine⟨_,rfl,hx6.bel,?_⟩;replace M:=bx (M.o.call hx6);rw[LL.o]at hs6;rw[LL.o];have H6:=bx (H5.o.mono hx6.le);have HS6:=bx hs6;have HS7:=bx (HS5.o.mono hx6.le);have L6:=bx (L5.o.trans hx6.le);have K6:=bx hx6.le;clear hc6 hs6 hx6;refine zNM ?_;refine zMRd ?_)|(refine AaA (AaO rfl ztLk) rfl ?_;refine⟨ext_alloc _ _,?_⟩;replace M:=bx (M.o.alloc (P:=lkP (.slice none 0 0) (.slice none 0 0)) (ls:=[1,1]) rfl rfl 109);(obtain⟨g6,hg0⟩:=Abe M.o);rw[<-hg0]at M |-;clear hg0;refine zNM ?_;refine zMRd ?_))
  all_goals (try refine⟨?_,?_⟩)
  all_goals (repeat(first|(refine zMC (H5.o.refLive _ M.ok) Tryz.func15 ?_;rintro e6 w6 ⟨A6,c6,Γ6,rfl,hc6,hs6,hx6⟩;refine⟨_,rfl,hx6.bel,?_⟩;replace M:=bx (M.o.call hx6);rw[LL.o]at hs6;rw[LL.o];have H6:=bx (H5.o.mono hx6.le);have HS6:=bx hs6;have HS7:=bx (HS5.o.mono hx6.le);have L6:=bx (L5.o.trans hx6.le);have K6:=bx hx6.le;clear hc6 hs6 hx6;refine zNM ?_;refine zMRd ?_)|(refine zMC (Ae7 Γ6 v.nodes s.nodes A5 A6 c5 c6 s.wts s.lives TI0.o.lk NB.o WL.o LL.o _ M.ok H6.o.g.nodes HS7.o HS6.o) Tryz.func66 ?_;rintro e7 w7 ⟨B',D',cb',cd',Γ7,rfl,hcb,hcd,hB,hD,hx7⟩;refine⟨_,rfl,hx7.bel,?_⟩;replace M:=bx (M.o.call hx7);rw[EB.o]at hB;rw[ED.o]at hD;rw[EB.o,ED.o];have L7:=bx (L6.o.trans hx7.le);have K7:=bx (K6.o.trans hx7.le);have HB7:=bx hB;have HD7:=bx hD;clear hcb hcd hB hD hx7;refine zNM ?_;refine zMRd ?_)|(refine AaA (AaO rfl ztLk) rfl ?_;refine⟨ext_alloc _ _,?_⟩;replace M:=bx (M.o.alloc (P:=lkP (.slice none 0 0) (.slice none 0 0)) (ls:=[1,1]) rfl rfl 109);(obtain⟨g6,hg0⟩:=Abe M.o);rw[<-hg0]at M |-;clear hg0;refine zNM ?_;refine zMRd ?_)|(refine Aag M.o 0 (lkP (.slice B' s.nodes.length cb') (.slice D' s.nodes.length cd')) (lkP (.slice B' s.nodes.length cb') (.slice D' s.nodes.length cd')) rfl rfl rfl rfl rtLk rfl rfl (Ab6 _ _ _ _ _ _) rfl rfl ?_;intro w8 M';(simp only[List.set_cons_zero,List.set_cons_succ]at M');(replace M:=bx M';clear M');refine zNM ?_;refine NoPanic.normal ?_;go_wp2_with fail;go_meet)))
  all_goals exact⟨g6,B',D',cb',cd',Γ7,rfl,M.o,HB7.o,HD7.o,L7.o,K7.o⟩
 case rest=>
  obtain⟨g6,B',D',cb',cd',Γ7,rfl,hM,hB,hD,hl,hl5⟩:=hcut
  clear M
  have M:=bx hM
  have H7:=bx (H5.o.mono hl5)
  have F7:=bx (F.o.mono hl)
  have HA7:=bx (HA.o.mono hl)
  have HS7:=bx (HS5.o.mono hl5)
  have hk:=TI0.o.lk
  obtain⟨j,hj,ej,_⟩:=Adv H7.o.si
  have FB:Bx (Fz Γ7 g b0 (arP (.slice B (bstL s.nodes s.wts s.lives).length cb) (.slice D (bstL s.nodes s.wts s.lives).length cd) y.v di (.slice A2 s.nodes.length c2) (fndI s.nodes s.just.r)) arL):=⟨by rw[EB.o];exact F7.o⟩
  have SB:Bx (SlG Γ7 B (bstL s.nodes s.wts s.lives).length (ints .i64 (bstL s.nodes s.wts s.lives))):=⟨by rw[EB.o];exact HA7.o.b⟩
  have SD:Bx (SlG Γ7 D (bstL s.nodes s.wts s.lives).length (ints .i64 (dscL s.nodes s.wts s.lives))):=⟨by rw[EB.o];exact HA7.o.d⟩
  have S1:Bx (∀w,Ok Γ7 w->Calls Tryz.prog 29 #[.slice B s.nodes.length cb,.slice B' s.nodes.length cb'] w fun e w'=>e=.returned (.bool true)/\Ext Γ7 w Γ7 w'):=⟨fun w ok=>by
   have:=Aie Γ7 B B' cb cb' (bstL s.nodes s.wts s.lives) (by rw[EB.o];have:=NB.o;omega) SB.o (by rw[EB.o];exact hB) w ok
   rwa [EB.o]at this⟩
  have S2:Bx (∀w,Ok Γ7 w->Calls Tryz.prog 29 #[.slice D s.nodes.length cd,.slice D' s.nodes.length cd'] w fun e w'=>e=.returned (.bool true)/\Ext Γ7 w Γ7 w'):=⟨fun w ok=>by
   have:=Aie Γ7 D D' cd cd' (dscL s.nodes s.wts s.lives) (by rw[ED.o];have:=NB.o;omega) (by rw[ED.o];exact HA7.o.d) (by rw[ED.o];exact hD) w ok
   rwa [ED.o]at this⟩
  have yi:∀i,i<s.nodes.length->nthI (dscL s.nodes s.wts s.lives) (-1) ((i:Nat):Int)=dsc s.nodes s.wts s.lives (i:Int):=fun i hi=>by
   rw[AeN (by rw[ED.o];exact hi)];simp[dscL,lst]
  have HDS:(if 0<=dsc s.nodes s.wts s.lives (j:Int)then dsc s.nodes s.wts s.lives (j:Int)else(j:Int))=s.head:=by
   unfold Sto.head
   rw[ej]
   by_cases hb:bestI s.nodes s.wts s.lives (j:Int)<0
   .have:=(AgQ (W:=s.wts) (L:=s.lives) hk hj).2 hb
    rw[if_neg (by omega),Aeq hk hj hb]
   .have h2:¬dsc s.nodes s.wts s.lives (j:Int)<0:=fun h'=>hb ((AgQ (W:=s.wts) (L:=s.lives) hk hj).1 h')
    rw[if_pos (by omega)]
    unfold dsc
    rw[if_neg hb]
  have HE:Bx (∀w,Ok Γ7 w->Calls Tryz.prog 44 #[.pointer (some ⟨g,b0,none⟩)] w fun e w'=>e=.returned (.int .i64 s.head)/\Ext Γ7 w Γ7 w'):=⟨fun w ok=>by
   have:=Agn Γ7 g b0 B D cb cd y.v di (.slice A2 s.nodes.length c2) (fndI s.nodes s.just.r) _ _ (ED.o.trans EB.o.symm) w ok FB.o SB.o SD.o
   rwa [ej,yi j hj,HDS]at this⟩
  have RH:=bx (fun w ok=>H7.o.refHead w ok)
  have RB0:=bx hB
  have RD0:=bx hD
  clear hM hB hD H5 F HA HS5 hk yi HDS ej
  generalize s.head=hd at *
  (go_wp2_with (first|go_skip|(refine zBXd ?_;clear M;intro w' g M)|(refine zALd (ztLk) ?_;clear M;intro w' g M)|fail|refine zLAd ?_))
  refine AaB [] (.steps [(1,0),(1,1),(1,2),(1,3),(0,4),(1,5),(0,6),(2,7),(1,8),(1,9),(1,10),(1,11),(1,12),(1,13),(0,14),(1,15),(0,16),(2,17),(1,18),(1,19),(1,20),(1,21),(0,23),(2,22),(2,24),(1,25),(1,26)] .leaf) (by kernel_rfl) (by kernel_rfl) ?_;(simp only[MixT6,MT.steps,stepAt,List.getD_cons_zero,List.getD_cons_succ]);replace M:=bx (M.o.drew)
  refine zNM ?_
  (repeat(first|refine zM0 ?_|(go_big_quiet_want;first|(refine zQFd F7 ?_;go_big_quiet_on;refine zNM ?_)|(refine zQAd ?_;go_big_quiet_on;refine zNM ?_)|(refine zQO ?_;go_big_quiet_on))))
  (refine zMC (S1.o _ M.ok) Tryz.func29 ?_;rintro e5 w5 ⟨rfl,hx5⟩;refine⟨_,rfl,hx5.bel,?_⟩;replace M:=bx (M.o.call hx5);clear hx5;refine zNM ?_)
  (repeat(first|refine zM0 ?_|(go_big_quiet_want;first|(refine zQFd F7 ?_;go_big_quiet_on;refine zNM ?_)|(refine zQAd ?_;go_big_quiet_on;refine zNM ?_)|(refine zQO ?_;go_big_quiet_on))))
  (refine zMC (S2.o _ M.ok) Tryz.func29 ?_;rintro e5 w5 ⟨rfl,hx5⟩;refine⟨_,rfl,hx5.bel,?_⟩;replace M:=bx (M.o.call hx5);clear hx5;refine zNM ?_)
  (repeat(first|refine zM0 ?_|(go_big_quiet_want;first|(refine zQFd F7 ?_;go_big_quiet_on;refine zNM ?_)|(refine zQAd ?_;go_big_quiet_on;refine zNM ?_)|(refine zQO ?_;go_big_quiet_on))))
  (refine zMC (HE.o _ M.ok) Tryz.func44 ?_;rintro e5 w5 ⟨rfl,hx5⟩;refine⟨_,rfl,hx5.bel,?_⟩;replace M:=bx (M.o.call hx5);clear hx5;refine zNM ?_)
  (repeat(first|refine zM0 ?_|(go_big_quiet_want;first|(refine zQFd F7 ?_;go_big_quiet_on;refine zNM ?_)|(refine zQAd ?_;go_big_quiet_on;refine zNM ?_)|(refine zQO ?_;go_big_quiet_on))))
  (refine zMC (RH.o _ M.ok) Tryz.func27 ?_;rintro e5 w5 ⟨rfl,hx5⟩;refine⟨_,rfl,hx5.bel,?_⟩;replace M:=bx (M.o.call hx5);clear hx5;refine zNM ?_)
  (repeat(first|refine zM0 ?_|(go_big_quiet_want;first|(refine zQFd F7 ?_;go_big_quiet_on;refine zNM ?_)|(refine zQAd ?_;go_big_quiet_on;refine zNM ?_)|(refine zQO ?_;go_big_quiet_on))))
  refine NoPanic.normal ?_
  have BO:=bx (fun(i:Int) w ok=>Adl Γ7 g b0 B D cb cd y.v di (.slice A2 s.nodes.length c2) (fndI s.nodes s.just.r) _ _ (ED.o.trans EB.o.symm) i w ok FB.o SB.o SD.o)
  have WE:=bx (fun(i:Int) w ok=>Agm Γ7 g b0 (.slice B s.nodes.length cb) (.slice D s.nodes.length cd) y.v di A2 c2 (fndI s.nodes s.just.r) s.wts i w ok (by rw[WL.o];exact F7.o) (by rw[WL.o];exact HA7.o.w))
  have RB:Bx (SlG Γ7 B' (bstL s.nodes s.wts s.lives).length (ints .i64 (bstL s.nodes s.wts s.lives))):=⟨by rw[EB.o];exact RB0.o⟩
  have RD:Bx (SlG Γ7 D' (dscL s.nodes s.wts s.lives).length (ints .i64 (dscL s.nodes s.wts s.lives))):=⟨by rw[ED.o];exact RD0.o⟩
  have HW7:Bx (SlG Γ7 A5 s.wts.length (us s.wts)):=⟨by rw[WL.o];exact HS7.o⟩
  clear S1 S2 HE RH FB SB SD F7 HA7 H7 HS7 LL TI0 L5 RB0 RD0
  generalize bstL s.nodes s.wts s.lives=X at *
  generalize dscL s.nodes s.wts s.lives=Y at *
  generalize hW:s.wts=W at *
  clear hW
  obtain⟨n,hn⟩:∃n,s.nodes.length=n:=⟨_,rfl⟩
  have hnb:n<=4096:=by rw[<-hn];exact NB.o
  rw[hn]at M EB ED WL |-
  clear hn NB
  (go_wp2_with (first|go_skip|(refine zBXd ?_;clear M;intro w' g M)|(refine zALd (ztLk) ?_;clear M;intro w' g M)|fail|refine zLAd ?_))
  go_loopw [7,8,9,10,11,12] (fun i _ _ _ _ _ wr=>∃q:Nat,q<=n+2/\i=.int .i64 ((q:Int)-1)/\MM Γ w Γ7 wr [⟨g6,lkP (.slice B' n cb') (.slice D' n cd'),[1,1]⟩,⟨g3,stP s v,stL⟩] []) (fun i _ _ _ _ _ _=>n+2-(intOf i+1).toNat)
  case atStart=>exact⟨0,by omega,rfl,M.o⟩
  case round=>
   obtain⟨q,hq,rfl,hM⟩:=hrel
   clear M
   have M:=bx hM
   clear hM
   rcases Nat.eq_zero_or_pos q with h0|h0
   .subst h0
    have e0:((0:Nat):Int)-1 = -1:=rfl
    rw[e0]
    have BOi:=bx (BO.o (-1))
    have WEi:=bx (WE.o (-1))
    rw[Acp (l:=X) (.inl (by decide)),Acp (l:=Y) (.inl (by decide))]at BOi
    rw[if_neg (by omega)]at WEi
    clear BO WE
    go_wp2_with (first|go_skip|go_guarded)
    refine(BOi.o _ M.ok).mono ?_
    rintro e1 w1 ⟨rfl,hx⟩
    replace M:=bx (M.o.call hx)
    clear hx BOi
    (go_wp2_with (first|go_skip|(refine zBXd ?_;clear M;intro w' g M)|(refine zALd (ztLk) ?_;clear M;intro w' g M)|fail|refine zLAd ?_))
    refine(WEi.o _ M.ok).mono ?_
    rintro e1 w1 ⟨rfl,hx⟩
    replace M:=bx (M.o.call hx)
    clear hx WEi
    (go_wp2_with (first|go_skip|(refine zBXd ?_;clear M;intro w' g M)|(refine zALd (ztLk) ?_;clear M;intro w' g M)|fail|refine zLAd ?_))
    go_roundw
    case rel=>exact⟨1,by omega,by go_num,M.o⟩
    case measure=>simp[intOf]
   .obtain⟨m,rfl⟩:∃m,q=m+1:=⟨q-1,by omega⟩
    have hkk:((m+1:Nat):Int)-1=(m:Int):=by omega
    rw[hkk]
    have hm0:0<=(m:Int):=by omega
    have hm1:decide ((0:Int)<=(m:Int))=true:=decide_eq_true hm0
    have hwk:IntKind.i64.wrap ((m:Int)+1)=(m:Int)+1:=IntWalk.i64_in _ (by omega)
    have BOi:=bx (BO.o (m:Int))
    have WEi:=bx (WE.o (m:Int))
    clear hkk BO WE
    by_cases h1:m<n
    .have hX:m<X.length:=by rw[EB.o];exact h1
     have hY:m<Y.length:=by rw[ED.o];exact h1
     have hWm:m<W.length:=by rw[WL.o];exact h1
     rw[AeN hX,AeN hY]at BOi
     rw[if_pos ⟨hm0,by omega⟩,Int.toNat_natCast,show W.getD m u0=W[m]by simp[List.getD,List.getElem?_eq_getElem hWm]]at WEi
     obtain⟨gb,rfl,hb⟩:=Ad9 RB.o m hX
     obtain⟨gd,rfl,hd⟩:=Ad9 RD.o m hY
     obtain⟨gw,rfl,hw⟩:=Ac4 HW7.o m hWm
     have G1:Bx (Fz Γ7 gb m [[.int .i64 X[m]]] [1]):=⟨hb,rfl⟩
     have G2:Bx (Fz Γ7 gd m [[.int .i64 Y[m]]] [1]):=⟨hd,rfl⟩
     have G3:Bx (Fz Γ7 gw m [[.int .u64 (W[m].n:Int)]] [1]):=⟨hw,rfl⟩
     have hmi:(m:Int)<(n:Int):=by omega
     have hmn:(m:Int)<=(n:Int):=by omega
     have hmd:decide ((m:Int)<(n:Int))=true:=decide_eq_true hmi
     have hmd2:decide (m<n)=true:=decide_eq_true h1
     clear hb hd hw RB RD HW7
     generalize X[m]=xm at *
     generalize Y[m]=ym at *
     generalize W[m]=wm at *
     (go_wp2_with (first|go_skip|(refine zBXd ?_;clear M;intro w' g M)|(refine zALd (ztLk) ?_;clear M;intro w' g M)|fail|refine zLAd ?_))
     refine AaB [] (.steps [(1,0),(1,1),(1,2),(0,3),(1,4),(0,5),(1,6),(1,7),(0,8),(1,9),(0,10),(1,11),(1,12),(0,13),(1,14),(1,15),(1,16)] .leaf) (by kernel_rfl) (by kernel_rfl) ?_;(simp only[MixT6,MT.steps,stepAt,List.getD_cons_zero,List.getD_cons_succ]);replace M:=bx (M.o.drew)
     (repeat(first|refine zM0 ?_|(go_big_quiet_want;first|(refine zQFd G1 ?_;go_big_quiet_on;refine zNM ?_)|(refine zQFd G2 ?_;go_big_quiet_on;refine zNM ?_)|(refine zQFd G3 ?_;go_big_quiet_on;refine zNM ?_)|(refine zQAd ?_;go_big_quiet_on;refine zNM ?_)|(refine zQO ?_;go_big_quiet_on))))
     refine NoPanic.normal ?_
     go_wp2_with (first|go_skip|go_guarded)
     refine(BOi.o _ M.ok).mono ?_
     rintro e1 w1 ⟨rfl,hx⟩
     replace M:=bx (M.o.call hx)
     clear hx BOi
     (go_wp2_with (first|go_skip|(refine zBXd ?_;clear M;intro w' g M)|(refine zALd (ztLk) ?_;clear M;intro w' g M)|fail|refine zLAd ?_))
     refine(WEi.o _ M.ok).mono ?_
     rintro e1 w1 ⟨rfl,hx⟩
     replace M:=bx (M.o.call hx)
     clear hx WEi
     (go_wp2_with (first|go_skip|(refine zBXd ?_;clear M;intro w' g M)|(refine zALd (ztLk) ?_;clear M;intro w' g M)|fail|refine zLAd ?_))
     go_roundw
     case rel=>exact⟨m+2,by omega,by go_num,M.o⟩
     case measure=>simp[intOf];omega
    .have e1:(X.length:Int)<=(m:Int):=by rw[EB.o];omega
     have e2:(Y.length:Int)<=(m:Int):=by rw[ED.o];omega
     have e3:¬(0<=(m:Int)/\(m:Int)<(W.length:Int)):=by rw[WL.o];omega
     rw[Acp (.inr e1),Acp (.inr e2)]at BOi
     rw[if_neg e3]at WEi
     clear e1 e2 e3 RB RD HW7
     by_cases h2:m=n
     .subst h2
      clear h1
      have hll:¬(m:Int)<(m:Int):=Int.lt_irrefl _
      have hle:(m:Int)<=(m:Int):=Int.le_refl _
      go_wp2_with (first|go_skip|go_guarded)
      refine(BOi.o _ M.ok).mono ?_
      rintro e1 w1 ⟨rfl,hx⟩
      replace M:=bx (M.o.call hx)
      clear hx BOi
      (go_wp2_with (first|go_skip|(refine zBXd ?_;clear M;intro w' g M)|(refine zALd (ztLk) ?_;clear M;intro w' g M)|fail|refine zLAd ?_))
      refine(WEi.o _ M.ok).mono ?_
      rintro e1 w1 ⟨rfl,hx⟩
      replace M:=bx (M.o.call hx)
      clear hx WEi
      (go_wp2_with (first|go_skip|(refine zBXd ?_;clear M;intro w' g M)|(refine zALd (ztLk) ?_;clear M;intro w' g M)|fail|refine zLAd ?_))
      go_roundw
      case rel=>exact⟨m+2,by omega,by go_num,M.o⟩
      case measure=>simp[intOf];omega
     .have hmn:(n:Int)<(m:Int):=by omega
      (go_wp2_with (first|go_skip|(refine zBXd ?_;clear M;intro w' g M)|(refine zALd (ztLk) ?_;clear M;intro w' g M)|fail|refine zLAd ?_))
      go_ret
      exact⟨rfl,M.bel⟩
end Go.Proofs.YtmgeheaneohldaaGreat
