/- Texts joined (KK59). -/
import Derived.Test.YtpaihpeoiliioaaGreatKK58
import Derived.Test.YtpaihpeoiliioaaGreatKK51
set_option linter.all false
set_option maxRecDepth 20000
set_option maxHeartbeats 40000000
namespace Go.Proofs.YtpaihpeoiliioaaGreat
open Go.RowKit Old
theorem Apn(c:Cf)(bal:List U)(h:CfB c bal):fndI (newS c bal).nodes (newS c bal).just.r=0:=by
 obtain⟨j,hj,ej,_⟩:=AhL (Aj2 h)
 have hj':j<1:=hj
 obtain rfl:j=0:=by omega
 exact ej
theorem Ap3(c:Cf)(bal:List U)(W:List U)(L:List Bool):bstL (newS c bal).nodes W L = [-1]:=by
 have e:bstL (newS c bal).nodes W L = [bestI (newS c bal).nodes W L 0]:=rfl
 rw[e,Akk]
theorem Aps(c:Cf)(bal:List U)(W:List U)(L:List Bool):dscL (newS c bal).nodes W L = [-1]:=by
 have e:dscL (newS c bal).nodes W L = [dsc (newS c bal).nodes W L 0]:=rfl
 rw[e]
 unfold dsc
 rw[Akk,if_pos (by decide)]
theorem AdQ(w:World):Calls Tryz.prog 10 #[] w fun e w'=>e=.returned (.bool true)/\Below w.heap.size w w':=by
 have M:=bx (MM.start (AiD w))
 go_enter Tryz.func10,Tryz.ntmps10
 (go_wp2_with (first|go_skip|((first|refine zBXd ?_|refine zALd (ztSt) ?_);clear M;intro w' g M)|fail|refine zLAd ?_))
 refine(Af4 g0 none 0 0 [] _ M.ok (Row.nil ..) (Nat.zero_le _)).mono ?_
 rintro e1 w1 ⟨cf,sb,bal,Γ1,rfl,hcb,hsb,hx⟩
 replace M:=bx (M.o.call hx)
 have HCB:=bx hcb
 have HSB:=bx hsb
 clear hx hcb hsb
 (go_wp2_with (first|go_skip|((first|refine zBXd ?_|refine zALd (ztSt) ?_);clear M;intro w' g M)|fail|refine zLAd ?_))
 refine(new_any Γ1 cf sb bal HCB.o.ok _ M.ok HSB.o).mono ?_
 rintro e1 w1 ⟨v,Γ2,rfl,hg,hx⟩
 replace M:=bx (M.o.call hx)
 have H:Bx (HOk Γ2 (newS cf bal) v 0):=⟨⟨Aj2 HCB.o,by decide,hg⟩⟩
 have HF:=bx (Apn cf bal HCB.o)
 have HB:=bx (Ap3 cf bal (newS cf bal).wts (newS cf bal).lives)
 have HD:=bx (Aps cf bal (newS cf bal).wts (newS cf bal).lives)
 have HL:Bx ((newS cf bal).nodes.length=1):=⟨rfl⟩
 have HW:=bx (Ait (newS cf bal))
 clear hx hg HSB HCB
 generalize newS cf bal=s at *
 (go_wp2_with (first|go_skip|((first|refine zBXd ?_|refine zALd (ztSt) ?_);clear M;intro w' g M)|(refine zSSd M 0 (stP s v) (stP s v) (AaD _ _) (Aaa _ _) ?_;clear M;intro w' M)|refine zLAd ?_))
 refine(Ajh Γ2 s v 0 H.o _ M.ok).mono ?_
 rintro e1 w1 ⟨g,B,D,cb,cd,y,di,A2,c2,Γ3,rfl,hg,ha,hx⟩
 replace M:=bx (M.o.call hx)
 rw[HF.o,HL.o]at hg
 have F:=bx (AnS hg)
 have SB:Bx (SlG Γ3 B ([-1]:List Int).length (ints .i64 [-1])):=⟨by have:=ha.b;rwa [HB.o,HL.o]at this⟩
 have SD:Bx (SlG Γ3 D ([-1]:List Int).length (ints .i64 [-1])):=⟨by have:=ha.d;rwa [HD.o,HL.o]at this⟩
 have hWL:s.wts.length=1:=by rw[HW.o,HL.o]
 have SW:Bx (SlG Γ3 A2 s.wts.length (us s.wts)):=⟨by have:=ha.w;rwa [<-HW.o]at this⟩
 have BO:=bx (fun w ok=>AeB Γ3 g 0 B D cb cd y.v di (.slice A2 1 c2) 0 [-1] [-1] rfl 0 w ok F.o SB.o SD.o)
 have HE:=bx (fun w ok=>Ais Γ3 g 0 B D cb cd y.v di (.slice A2 1 c2) 0 [-1] [-1] rfl w ok F.o SB.o SD.o)
 have WE:=bx (fun w ok=>AgH Γ3 g 0 (.slice B 1 cb) (.slice D 1 cd) y.v di A2 c2 0 s.wts 5 w ok (by rw[hWL];exact F.o) SW.o)
 have z1:nthI ([-1]:List Int) (-1) 0 = -1:=rfl
 have z3:(if 0<=(5:Int)/\(5:Int)<(s.wts.length:Int)then((s.wts.getD (5:Int).toNat u0).n:Int)else 0)=0:=by rw[hWL];rfl
 rw[z3]at WE
 rw[z1]at BO HE
 rw[show(if 0<=(-1:Int)then(-1:Int)else 0)=0 from rfl]at HE
 clear hg ha hx H HF HB HD HL HW SB SD SW hWL z1 z3
 (go_wp2_with (first|go_skip|((first|refine zBXd ?_|refine zALd (ztSt) ?_);clear M;intro w' g M)|fail|refine zLAd ?_))
 refine(BO.o _ M.ok).mono ?_
 rintro e1 w1 ⟨rfl,hx⟩
 replace M:=bx (M.o.call hx)
 clear hx BO
 (go_wp2_with (first|go_skip|((first|refine zBXd ?_|refine zALd (ztSt) ?_);clear M;intro w' g M)|fail|refine zLAd ?_))
 refine(HE.o _ M.ok).mono ?_
 rintro e1 w1 ⟨rfl,hx⟩
 replace M:=bx (M.o.call hx)
 clear hx HE
 (go_wp2_with (first|go_skip|((first|refine zBXd ?_|refine zALd (ztSt) ?_);clear M;intro w' g M)|refine zRFd F ?_|refine zLAd ?_))
 refine(WE.o _ M.ok).mono ?_
 rintro e1 w1 ⟨rfl,hx⟩
 replace M:=bx (M.o.call hx)
 clear hx WE
 (go_wp2_with (first|go_skip|((first|refine zBXd ?_|refine zALd (ztSt) ?_);clear M;intro w' g M)|fail|refine zLAd ?_))
 go_ret
 exact⟨rfl,M.bel⟩
theorem Ahy(Γ:Gam)(A A':Option Addr)(c c':Nat)(l:List Int)(hl:l.length<=65535)(h:SlG Γ A l.length (ints .i64 l))(h':SlG Γ A' l.length (ints .i64 l))(w:World)(ok:Ok Γ w) :
  Calls Tryz.prog 40 #[.slice A l.length c,.slice A' l.length c'] w fun e w'=>e=.returned (.bool true)/\Ext Γ w Γ w':=by
 have M:=bx (MM.start ok)
 have H:=bx h
 have H':=bx h'
 clear ok h h'
 go_enter Tryz.func40,Tryz.ntmps40
 (go_wp2_with (first|go_skip|((first|refine zBXd ?_|refine zALd (ztLk) ?_);clear M;intro w' g M)|fail|refine zLAd ?_))
 go_loopw [5] (fun i wr=>∃k:Nat,k<=l.length/\i=.int .i64 (k:Int)/\MM Γ w Γ wr [] []) (fun i _=>l.length-(intOf i).toNat)
 case atStart=>exact⟨0,Nat.zero_le _,rfl,M.o⟩
 case round=>
  obtain⟨k,hk,rfl,hM⟩:=hrel
  clear M
  have M:=bx hM
  clear hM
  by_cases hkn:k<l.length
  .obtain⟨g1,rfl,hc1⟩:=Acc H.o k hkn
   obtain⟨g2,rfl,hc2⟩:=Acc H'.o k hkn
   have F1:Bx (Fz Γ g1 k [[.int .i64 l[k]]] [1]):=⟨hc1,rfl⟩
   have F2:Bx (Fz Γ g2 k [[.int .i64 l[k]]] [1]):=⟨hc2,rfl⟩
   have hki:(k:Int)<(l.length:Int):=by omega
   have hk0:0<=(k:Int):=by omega
   clear hc1 hc2
   generalize l[k]=y at *
   (go_wp2_with (first|go_skip|((first|refine zBXd ?_|refine zALd (ztLk) ?_);clear M;intro w' g M)|fail|refine zLAd ?_))
   refine zRG ?_;(repeat(first|go_big_quiet_skip|(go_big_quiet_want;first|((first|refine zQFd F1 ?_|refine zQFd F2 ?_|refine zQAd ?_);go_big_quiet_on;refine zNM ?_)|(refine zQO ?_;go_big_quiet_on))));(refine zQN ?_;clear M;intro w4 M)
   (go_wp2_with (first|go_skip|((first|refine zBXd ?_|refine zALd (ztLk) ?_);clear M;intro w' g M)|fail|refine zLAd ?_))
   go_roundw
   case rel=>exact⟨k+1,by omega,by go_num,M.o⟩
   case measure=>simp[intOf];omega
  .obtain rfl:k=l.length:=by omega
   (go_wp2_with (first|go_skip|((first|refine zBXd ?_|refine zALd (ztLk) ?_);clear M;intro w' g M)|fail|refine zLAd ?_))
   go_ret
   exact⟨rfl,M.o.ext⟩
theorem AlY(Γ:Gam)(s:Sto)(v:Sls)(k:Nat)(h:HOk Γ s v k)(g b0:Nat)(B D:Option Addr)(cb cd:Nat)(y:Sl)(di:Value)(A2:Option Addr)(c2:Nat)(w:World)(ok:Ok Γ w)
  (hF:Fz Γ g b0 (arP (.slice B s.nodes.length cb) (.slice D s.nodes.length cd) y.v di (.slice A2 s.nodes.length c2) (fndI s.nodes s.just.r)) arL) (ha:ArOk Γ s B D y A2) :
  Calls Tryz.prog 13 #[.pointer (some ⟨g,b0,none⟩),.agg (fl (stP s v)).toArray] w fun e w'=>e=.returned (.bool true)/\Below w.heap.size w w':=by
 have M:=bx (MM.start ok)
 have H:=bx h
 have F:=bx hF
 have HA:=bx ha
 have LL:=bx (Ada s)
 have WL:=bx (Ait s)
 have NB:=bx h.nb
 have TI0:=bx h.si.t
 clear ok h hF ha
 have EB:Bx ((bstL s.nodes s.wts s.lives).length=s.nodes.length):=⟨Aao _ _⟩
 have ED:Bx ((dscL s.nodes s.wts s.lives).length=s.nodes.length):=⟨Aao _ _⟩
 go_enter Tryz.func13,Tryz.ntmps13
 go_upto_region 1 with(first|go_skip|((refine zBXd ?_;clear M;intro w' g M);(obtain⟨g3,hg0⟩:∃y,y=g:=⟨_,rfl⟩);subst hg0)|refine zLAd ?_)
 (go_wp2_with (first|go_skip|((first|refine zBXd ?_|refine zALd (ztLk) ?_);clear M;intro w' g M)|fail|refine zLAd ?_))
 refine(H.o.refWeights _ M.ok).mono ?_
 rintro e1 w1 ⟨A5,c5,Γ5,rfl,hc,hs,hx⟩
 replace M:=bx (M.o.call hx)
 have H5:=bx (H.o.mono hx.le)
 have L5:=bx hx.le
 have HS5:=bx hs
 clear hc hs hx H
 go_upto_region 2 with(first|go_skip|refine zLAd ?_)
 go_cut [6]from 15 (fun s6 wx=>∃(g6:Nat) (B' D':Option Addr) (cb' cd':Nat) (Γ7:Gam),s6=.pointer (some ⟨g6,0,none⟩)/\MM Γ w Γ7 wx [⟨g6,lkP (.slice B' s.nodes.length cb') (.slice D' s.nodes.length cd'),[1,1]⟩,⟨g3,stP s v,stL⟩] []/\SlG Γ7 B' s.nodes.length (ints .i64 (bstL s.nodes s.wts s.lives))/\SlG Γ7 D' s.nodes.length (ints .i64 (dscL s.nodes s.wts s.lives))/\Le Γ Γ7/\Le Γ5 Γ7)
 case first=>
  go_wp2_with fail
  refine AaB [7] (.steps [(1,0),(0,1),(1,2),(0,3)] (.fork 4 (.fork 5 (.steps [(2,6),(3,7)] .leaf) 6 (.steps [(2,5),(3,7)] .leaf)) 6 (.steps [(2,4),(2,5),(3,7)] .leaf))) (by kernel_rfl) (by kernel_rfl) ?_;(simp only[MixT6,MT.steps,stepAt,List.getD_cons_zero,List.getD_cons_succ]);replace M:=bx (M.o.drew)
  refine zNM ?_
  refine zMRd ?_
  refine⟨?_,?_⟩
  all_goals (first|(refine zMC (H5.o.refLive _ M.ok) Tryz.func39 ?_;rintro e6 w6 ⟨A6,c6,Γ6,rfl,hc6,hs6,hx6⟩;refine⟨_,rfl,hx6.bel,?_⟩;replace M:=bx (M.o.call hx6);rw[LL.o]at hs6;rw[LL.o];have H6:=bx (H5.o.mono hx6.le);have HS6:=bx hs6;have HS7:=bx (HS5.o.mono hx6.le);have L6:=bx (L5.o.trans hx6.le);have K6:=bx hx6.le;clear hc6 hs6 hx6;refine zNM ?_;refine zMRd ?_)|(refine AaA (AaR rfl ztLk) rfl ?_;refine⟨ext_alloc _ _,?_⟩;replace M:=bx (M.o.alloc (P:=lkP (.slice none 0 0) (.slice none 0 0)) (ls:=[1,1]) rfl rfl 88);(obtain⟨g6,hg0⟩:=AgM M.o);rw[<-hg0]at M |-;clear hg0;refine zNM ?_;refine zMRd ?_))
  all_goals (try refine⟨?_,?_⟩)
  all_goals (repeat(first|(refine zMC (H5.o.refLive _ M.ok) Tryz.func39 ?_;rintro e6 w6 ⟨A6,c6,Γ6,rfl,hc6,hs6,hx6⟩;refine⟨_,rfl,hx6.bel,?_⟩;replace M:=bx (M.o.call hx6);rw[LL.o]at hs6;rw[LL.o];have H6:=bx (H5.o.mono hx6.le);have HS6:=bx hs6;have HS7:=bx (HS5.o.mono hx6.le);have L6:=bx (L5.o.trans hx6.le);have K6:=bx hx6.le;clear hc6 hs6 hx6;refine zNM ?_;refine zMRd ?_)|(refine zMC (Ak9 Γ6 v.nodes s.nodes A5 A6 c5 c6 s.wts s.lives TI0.o.lk NB.o WL.o LL.o _ M.ok H6.o.g.nodes HS7.o HS6.o) Tryz.func38 ?_;rintro e7 w7 ⟨B',D',cb',cd',Γ7,rfl,hcb,hcd,hB,hD,hx7⟩;refine⟨_,rfl,hx7.bel,?_⟩;replace M:=bx (M.o.call hx7);rw[EB.o]at hB;rw[ED.o]at hD;rw[EB.o,ED.o];have L7:=bx (L6.o.trans hx7.le);have K7:=bx (K6.o.trans hx7.le);have HB7:=bx hB;have HD7:=bx hD;clear hcb hcd hB hD hx7;refine zNM ?_;refine zMRd ?_)|(refine AaA (AaR rfl ztLk) rfl ?_;refine⟨ext_alloc _ _,?_⟩;replace M:=bx (M.o.alloc (P:=lkP (.slice none 0 0) (.slice none 0 0)) (ls:=[1,1]) rfl rfl 88);(obtain⟨g6,hg0⟩:=AgM M.o);rw[<-hg0]at M |-;clear hg0;refine zNM ?_;refine zMRd ?_)|(refine Aam M.o 0 (lkP (.slice B' s.nodes.length cb') (.slice D' s.nodes.length cd')) (lkP (.slice B' s.nodes.length cb') (.slice D' s.nodes.length cd')) rfl rfl rfl rfl rtLk rfl rfl (Ad2 _ _ _ _ _ _) rfl rfl ?_;intro w8 M';(simp only[List.set_cons_zero,List.set_cons_succ]at M');(replace M:=bx M';clear M');refine zNM ?_;refine NoPanic.normal ?_;go_wp2_with fail;go_meet)))
  all_goals exact⟨g6,B',D',cb',cd',Γ7,rfl,M.o,HB7.o,HD7.o,L7.o,K7.o⟩
 case rest=>
  obtain⟨g6,B',D',cb',cd',Γ7,rfl,hM,hB,hD,hl,hl5⟩:=hcut
  clear M
  have M:=bx hM
  have H7:=bx (H5.o.mono hl5)
  have F7:=bx (F.o.mono hl)
  have HA7:=bx (HA.o.mono hl)
  have HS7:=bx (HS5.o.mono hl5)
  have hk:=TI0.o.lk
  obtain⟨j,hj,ej,_⟩:=AhL H7.o.si
  have FB:Bx (Fz Γ7 g b0 (arP (.slice B (bstL s.nodes s.wts s.lives).length cb) (.slice D (bstL s.nodes s.wts s.lives).length cd) y.v di (.slice A2 s.nodes.length c2) (fndI s.nodes s.just.r)) arL):=⟨by rw[EB.o];exact F7.o⟩
  have SB:Bx (SlG Γ7 B (bstL s.nodes s.wts s.lives).length (ints .i64 (bstL s.nodes s.wts s.lives))):=⟨by rw[EB.o];exact HA7.o.b⟩
  have SD:Bx (SlG Γ7 D (bstL s.nodes s.wts s.lives).length (ints .i64 (dscL s.nodes s.wts s.lives))):=⟨by rw[EB.o];exact HA7.o.d⟩
  have S1:Bx (∀w,Ok Γ7 w->Calls Tryz.prog 40 #[.slice B s.nodes.length cb,.slice B' s.nodes.length cb'] w fun e w'=>e=.returned (.bool true)/\Ext Γ7 w Γ7 w'):=⟨fun w ok=>by
   have:=Ahy Γ7 B B' cb cb' (bstL s.nodes s.wts s.lives) (by rw[EB.o];have:=NB.o;omega) SB.o (by rw[EB.o];exact hB) w ok
   rwa [EB.o]at this⟩
  have S2:Bx (∀w,Ok Γ7 w->Calls Tryz.prog 40 #[.slice D s.nodes.length cd,.slice D' s.nodes.length cd'] w fun e w'=>e=.returned (.bool true)/\Ext Γ7 w Γ7 w'):=⟨fun w ok=>by
   have:=Ahy Γ7 D D' cd cd' (dscL s.nodes s.wts s.lives) (by rw[ED.o];have:=NB.o;omega) (by rw[ED.o];exact HA7.o.d) (by rw[ED.o];exact hD) w ok
   rwa [ED.o]at this⟩
  have yi:∀i,i<s.nodes.length->nthI (dscL s.nodes s.wts s.lives) (-1) ((i:Nat):Int)=dsc s.nodes s.wts s.lives (i:Int):=fun i hi=>by
   rw[Afc (by rw[ED.o];exact hi)];simp[dscL,lst]
  have HDS:(if 0<=dsc s.nodes s.wts s.lives (j:Int)then dsc s.nodes s.wts s.lives (j:Int)else(j:Int))=s.head:=by
   unfold Sto.head
   rw[ej]
   by_cases hb:bestI s.nodes s.wts s.lives (j:Int)<0
   .have:=(Aft (W:=s.wts) (L:=s.lives) hk hj).2 hb
    rw[if_neg (by omega),Afn hk hj hb]
   .have h2:¬dsc s.nodes s.wts s.lives (j:Int)<0:=fun h'=>hb ((Aft (W:=s.wts) (L:=s.lives) hk hj).1 h')
    rw[if_pos (by omega)]
    unfold dsc
    rw[if_neg hb]
  have HE:Bx (∀w,Ok Γ7 w->Calls Tryz.prog 33 #[.pointer (some ⟨g,b0,none⟩)] w fun e w'=>e=.returned (.int .i64 s.head)/\Ext Γ7 w Γ7 w'):=⟨fun w ok=>by
   have:=Ais Γ7 g b0 B D cb cd y.v di (.slice A2 s.nodes.length c2) (fndI s.nodes s.just.r) _ _ (ED.o.trans EB.o.symm) w ok FB.o SB.o SD.o
   rwa [ej,yi j hj,HDS]at this⟩
  have RH:=bx (fun w ok=>H7.o.refHead w ok)
  have RB0:=bx hB
  have RD0:=bx hD
  clear hM hB hD H5 F HA HS5 hk yi HDS ej
  generalize s.head=hd at *
  (go_wp2_with (first|go_skip|((first|refine zBXd ?_|refine zALd (ztLk) ?_);clear M;intro w' g M)|fail|refine zLAd ?_))
  refine AaB [] (.steps [(1,0),(1,1),(1,2),(1,3),(0,4),(1,5),(0,6),(2,7),(1,8),(1,9),(1,10),(1,11),(1,12),(1,13),(0,14),(1,15),(0,16),(2,17),(1,18),(1,19),(1,20),(1,21),(0,23),(2,22),(2,24),(1,25),(1,26)] .leaf) (by kernel_rfl) (by kernel_rfl) ?_;(simp only[MixT6,MT.steps,stepAt,List.getD_cons_zero,List.getD_cons_succ]);replace M:=bx (M.o.drew)
  refine zNM ?_
  (repeat(first|refine zM0 ?_|(go_big_quiet_want;first|((first|refine zQFd F7 ?_|refine zQAd ?_);go_big_quiet_on;refine zNM ?_)|(refine zQO ?_;go_big_quiet_on))))
  (refine zMC (S1.o _ M.ok) Tryz.func40 ?_;rintro e5 w5 ⟨rfl,hx5⟩;refine⟨_,rfl,hx5.bel,?_⟩;replace M:=bx (M.o.call hx5);clear hx5;refine zNM ?_)
  (repeat(first|refine zM0 ?_|(go_big_quiet_want;first|((first|refine zQFd F7 ?_|refine zQAd ?_);go_big_quiet_on;refine zNM ?_)|(refine zQO ?_;go_big_quiet_on))))
  (refine zMC (S2.o _ M.ok) Tryz.func40 ?_;rintro e5 w5 ⟨rfl,hx5⟩;refine⟨_,rfl,hx5.bel,?_⟩;replace M:=bx (M.o.call hx5);clear hx5;refine zNM ?_)
  (repeat(first|refine zM0 ?_|(go_big_quiet_want;first|((first|refine zQFd F7 ?_|refine zQAd ?_);go_big_quiet_on;refine zNM ?_)|(refine zQO ?_;go_big_quiet_on))))
  (refine zMC (HE.o _ M.ok) Tryz.func33 ?_;rintro e5 w5 ⟨rfl,hx5⟩;refine⟨_,rfl,hx5.bel,?_⟩;replace M:=bx (M.o.call hx5);clear hx5;refine zNM ?_)
  (repeat(first|refine zM0 ?_|(go_big_quiet_want;first|((first|refine zQFd F7 ?_|refine zQAd ?_);go_big_quiet_on;refine zNM ?_)|(refine zQO ?_;go_big_quiet_on))))
  (refine zMC (RH.o _ M.ok) Tryz.func41 ?_;rintro e5 w5 ⟨rfl,hx5⟩;refine⟨_,rfl,hx5.bel,?_⟩;replace M:=bx (M.o.call hx5);clear hx5;refine zNM ?_)
  (repeat(first|refine zM0 ?_|(go_big_quiet_want;first|((first|refine zQFd F7 ?_|refine zQAd ?_);go_big_quiet_on;refine zNM ?_)|(refine zQO ?_;go_big_quiet_on))))
  refine NoPanic.normal ?_
  have BO:=bx (fun(i:Int) w ok=>AeB Γ7 g b0 B D cb cd y.v di (.slice A2 s.nodes.length c2) (fndI s.nodes s.just.r) _ _ (ED.o.trans EB.o.symm) i w ok FB.o SB.o SD.o)
  have WE:=bx (fun(i:Int) w ok=>AgH Γ7 g b0 (.slice B s.nodes.length cb) (.slice D s.nodes.length cd) y.v di A2 c2 (fndI s.nodes s.just.r) s.wts i w ok (by rw[WL.o];exact F7.o) (by rw[WL.o];exact HA7.o.w))
  have RB:Bx (SlG Γ7 B' (bstL s.nodes s.wts s.lives).length (ints .i64 (bstL s.nodes s.wts s.lives))):=⟨by rw[EB.o];exact RB0.o⟩
  have RD:Bx (SlG Γ7 D' (dscL s.nodes s.wts s.lives).length (ints .i64 (dscL s.nodes s.wts s.lives))):=⟨by rw[ED.o];exact RD0.o⟩
  have HW7:Bx (SlG Γ7 A5 s.wts.length (us s.wts)):=⟨by rw[WL.o];exact HS7.o⟩
  clear S1 S2 HE RH FB SB SD F7 HA7 H7 HS7 LL TI0 L5 RB0 RD0
  generalize bstL s.nodes s.wts s.lives=X at *
  generalize dscL s.nodes s.wts s.lives=Y at *
  generalize hW:s.wts=W at *
  clear hW
  obtain⟨n,hn⟩:∃n,s.nodes.length=n:=⟨_,rfl⟩
  have hnb:n<=4096:=by rw[<-hn];exact NB.o
  rw[hn]at M EB ED WL |-
  clear hn NB
  (go_wp2_with (first|go_skip|((first|refine zBXd ?_|refine zALd (ztLk) ?_);clear M;intro w' g M)|fail|refine zLAd ?_))
  go_loopw [7,8,9,10,11,12] (fun i _ _ _ _ _ wr=>∃q:Nat,q<=n+2/\i=.int .i64 ((q:Int)-1)/\MM Γ w Γ7 wr [⟨g6,lkP (.slice B' n cb') (.slice D' n cd'),[1,1]⟩,⟨g3,stP s v,stL⟩] []) (fun i _ _ _ _ _ _=>n+2-(intOf i+1).toNat)
  case atStart=>exact⟨0,by omega,rfl,M.o⟩
  case round=>
   obtain⟨q,hq,rfl,hM⟩:=hrel
   clear M
   have M:=bx hM
   clear hM
   rcases Nat.eq_zero_or_pos q with h0|h0
   .subst h0
    have e0:((0:Nat):Int)-1 = -1:=rfl
    rw[e0]
    have BOi:=bx (BO.o (-1))
    have WEi:=bx (WE.o (-1))
    rw[Acb (l:=X) (.inl (by decide)),Acb (l:=Y) (.inl (by decide))]at BOi
    rw[if_neg (by omega)]at WEi
    clear BO WE
    go_wp2_with (first|go_skip|go_guarded)
    refine(BOi.o _ M.ok).mono ?_
    rintro e1 w1 ⟨rfl,hx⟩
    replace M:=bx (M.o.call hx)
    clear hx BOi
    (go_wp2_with (first|go_skip|((first|refine zBXd ?_|refine zALd (ztLk) ?_);clear M;intro w' g M)|fail|refine zLAd ?_))
    refine(WEi.o _ M.ok).mono ?_
    rintro e1 w1 ⟨rfl,hx⟩
    replace M:=bx (M.o.call hx)
    clear hx WEi
    (go_wp2_with (first|go_skip|((first|refine zBXd ?_|refine zALd (ztLk) ?_);clear M;intro w' g M)|fail|refine zLAd ?_))
    go_roundw
    case rel=>exact⟨1,by omega,by go_num,M.o⟩
    case measure=>simp[intOf]
   .obtain⟨m,rfl⟩:∃m,q=m+1:=⟨q-1,by omega⟩
    have hkk:((m+1:Nat):Int)-1=(m:Int):=by omega
    rw[hkk]
    have hm0:0<=(m:Int):=by omega
    have hm1:decide ((0:Int)<=(m:Int))=true:=decide_eq_true hm0
    have hwk:IntKind.i64.wrap ((m:Int)+1)=(m:Int)+1:=IntWalk.i64_in _ (by omega)
    have BOi:=bx (BO.o (m:Int))
    have WEi:=bx (WE.o (m:Int))
    clear hkk BO WE
    by_cases h1:m<n
    .have hX:m<X.length:=by rw[EB.o];exact h1
     have hY:m<Y.length:=by rw[ED.o];exact h1
     have hWm:m<W.length:=by rw[WL.o];exact h1
     rw[Afc hX,Afc hY]at BOi
     rw[if_pos ⟨hm0,by omega⟩,Int.toNat_natCast,show W.getD m u0=W[m]by simp[List.getD,List.getElem?_eq_getElem hWm]]at WEi
     obtain⟨gb,rfl,hb⟩:=Acc RB.o m hX
     obtain⟨gd,rfl,hd⟩:=Acc RD.o m hY
     obtain⟨gw,rfl,hw⟩:=Agd HW7.o m hWm
     have G1:Bx (Fz Γ7 gb m [[.int .i64 X[m]]] [1]):=⟨hb,rfl⟩
     have G2:Bx (Fz Γ7 gd m [[.int .i64 Y[m]]] [1]):=⟨hd,rfl⟩
     have G3:Bx (Fz Γ7 gw m [[.int .u64 (W[m].n:Int)]] [1]):=⟨hw,rfl⟩
     have hmi:(m:Int)<(n:Int):=by omega
     have hmn:(m:Int)<=(n:Int):=by omega
     have hmd:decide ((m:Int)<(n:Int))=true:=decide_eq_true hmi
     have hmd2:decide (m<n)=true:=decide_eq_true h1
     clear hb hd hw RB RD HW7
     generalize X[m]=xm at *
     generalize Y[m]=ym at *
     generalize W[m]=wm at *
     (go_wp2_with (first|go_skip|((first|refine zBXd ?_|refine zALd (ztLk) ?_);clear M;intro w' g M)|fail|refine zLAd ?_))
     refine AaB [] (.steps [(1,0),(1,1),(1,2),(0,3),(1,4),(0,5),(1,6),(1,7),(0,8),(1,9),(0,10),(1,11),(1,12),(0,13),(1,14),(1,15),(1,16)] .leaf) (by kernel_rfl) (by kernel_rfl) ?_;(simp only[MixT6,MT.steps,stepAt,List.getD_cons_zero,List.getD_cons_succ]);replace M:=bx (M.o.drew)
     (repeat(first|refine zM0 ?_|(go_big_quiet_want;first|((first|refine zQFd G1 ?_|refine zQFd G2 ?_|refine zQFd G3 ?_|refine zQAd ?_);go_big_quiet_on;refine zNM ?_)|(refine zQO ?_;go_big_quiet_on))))
     refine NoPanic.normal ?_
     go_wp2_with (first|go_skip|go_guarded)
     refine(BOi.o _ M.ok).mono ?_
     rintro e1 w1 ⟨rfl,hx⟩
     replace M:=bx (M.o.call hx)
     clear hx BOi
     (go_wp2_with (first|go_skip|((first|refine zBXd ?_|refine zALd (ztLk) ?_);clear M;intro w' g M)|fail|refine zLAd ?_))
     refine(WEi.o _ M.ok).mono ?_
     rintro e1 w1 ⟨rfl,hx⟩
     replace M:=bx (M.o.call hx)
     clear hx WEi
     (go_wp2_with (first|go_skip|((first|refine zBXd ?_|refine zALd (ztLk) ?_);clear M;intro w' g M)|fail|refine zLAd ?_))
     go_roundw
     case rel=>exact⟨m+2,by omega,by go_num,M.o⟩
     case measure=>simp[intOf];omega
    .have e1:(X.length:Int)<=(m:Int):=by rw[EB.o];omega
     have e2:(Y.length:Int)<=(m:Int):=by rw[ED.o];omega
     have e3:¬(0<=(m:Int)/\(m:Int)<(W.length:Int)):=by rw[WL.o];omega
     rw[Acb (.inr e1),Acb (.inr e2)]at BOi
     rw[if_neg e3]at WEi
     clear e1 e2 e3 RB RD HW7
     by_cases h2:m=n
     .subst h2
      clear h1
      have hll:¬(m:Int)<(m:Int):=Int.lt_irrefl _
      have hle:(m:Int)<=(m:Int):=Int.le_refl _
      go_wp2_with (first|go_skip|go_guarded)
      refine(BOi.o _ M.ok).mono ?_
      rintro e1 w1 ⟨rfl,hx⟩
      replace M:=bx (M.o.call hx)
      clear hx BOi
      (go_wp2_with (first|go_skip|((first|refine zBXd ?_|refine zALd (ztLk) ?_);clear M;intro w' g M)|fail|refine zLAd ?_))
      refine(WEi.o _ M.ok).mono ?_
      rintro e1 w1 ⟨rfl,hx⟩
      replace M:=bx (M.o.call hx)
      clear hx WEi
      (go_wp2_with (first|go_skip|((first|refine zBXd ?_|refine zALd (ztLk) ?_);clear M;intro w' g M)|fail|refine zLAd ?_))
      go_roundw
      case rel=>exact⟨m+2,by omega,by go_num,M.o⟩
      case measure=>simp[intOf];omega
     .have hmn:(n:Int)<(m:Int):=by omega
      (go_wp2_with (first|go_skip|((first|refine zBXd ?_|refine zALd (ztLk) ?_);clear M;intro w' g M)|fail|refine zLAd ?_))
      go_ret
      exact⟨rfl,M.bel⟩
theorem Ajf(N:List Nod):¬(sameR N N=true/\N.length=N.length+1):=fun h=>by have:=h.2;omega
theorem protoarrayRefuses_walk(a0:Option Addr)(n0 c0:Nat)(l0:List Int)(a1:Option Addr)(n1 c1:Nat)(l1:List Int)(w:World)(_:Fit .i64 l0)(_:l0.length=n0)(hr0:Row w w.heap.size 1 a0 n0 (ints .i64 l0))(hnc0:n0<=c0)(hcm0:c0<=maxLen)
  (_:Fit .i64 l1) (_:l1.length=n1) (hr1:Row w w.heap.size 1 a1 n1 (ints .i64 l1)) (hnc1:n1<=c1) (hcm1:c1<=maxLen) :
  Calls Tryz.prog 3 #[.slice a0 n0 c0,.slice a1 n1 c1] w fun e w'=>e=.returned (.bool true)/\Below w.heap.size w w':=by
 have M:=bx (MM.start (AiD w))
 have ST:=bx (Agf g0 a0 n0 c0 l0 w (AiD w) hr0 (Nat.le_trans hnc0 hcm0))
 have ST2:=bx (fun Γ' w' (ok:Ok Γ' w') (hb:Below w.heap.size w w')=>Agf Γ' a1 n1 c1 l1 w' ok ((hr1.below hb).more hb.size) (Nat.le_trans hnc1 hcm1))
 clear hr0 hnc0 hcm0 hr1 hnc1 hcm1
 go_enter Tryz.func3,Tryz.ntmps3
 (go_wp2_with (first|go_skip|((first|refine zBXd ?_|refine zALd (ztSt) ?_);clear M;intro w' g M)|fail|refine zLAd ?_))
 refine ST.o.mono ?_
 rintro e1 w1 ⟨x,z,Γ1,rfl,hz,hg,hx⟩
 replace M:=bx (M.o.call hx)
 have H:=bx (HOk.mk hz.s (by decide) hg.s)
 clear hx hz hg ST
 go_wp2_with (first|go_skip|((with_reducible apply AgV Aqs);rfl;rfl;rfl;exact AaH _ _;exact zrts;rfl;refine zCT ?_))
 refine(ST2.o _ _ M.ok M.bel).mono ?_
 rintro e1 w1 ⟨x2,z2,Γ2,rfl,hz2,hg2,hx⟩
 replace M:=bx (M.o.call hx)
 have H1:=bx (H.o.mono hx.le)
 have K1:=bx (HOk.mk hz2.s (by decide) hg2.s)
 clear hx hz2 hg2 ST2 H
 go_upto_region 2 with(first|go_skip|((with_reducible apply AgV Aqs);rfl;rfl;rfl;exact AaH _ _;exact zrts;rfl;refine zCT ?_)|(refine zALd (ztSt) ?_;clear M;intro w' g M)|((first|refine zSSd M 1 (stP z.s x.s) (stP z.s x.s) (AaD _ _) (Aaa _ _) ?_|refine zSSd M 0 (stP z2.s x2.s) (stP z2.s x2.s) (AaD _ _) (Aaa _ _) ?_);clear M;intro w' M)|refine zLAd ?_)
 (obtain⟨g6,hg0⟩:=Anv M.o);subst hg0;(obtain⟨g5,hg1⟩:=Anv M.o.tail);subst hg1
 generalize z.s=s at *
 generalize x.s=v at *
 generalize z2.s=s2 at *
 generalize x2.s=v2 at *
 (go_wp2_with (first|go_skip|((first|refine zBXd ?_|refine zALd (ztSt) ?_);clear M;intro w' g M)|fail|refine zLAd ?_))
 refine(Ajh Γ2 s v _ H1.o _ M.ok).mono ?_
 rintro e1 w1 ⟨g,B,D,cb,cd,y,di,A2,c2,Γ3,rfl,hg,ha,hx⟩
 replace M:=bx (M.o.call hx)
 have H2:=bx (H1.o.mono hx.le)
 have K2:=bx (K1.o.mono hx.le)
 have LS:=bx (fun w ok=>AmF Γ3 v.nodes v2.nodes s.nodes s2.nodes H2.o.g.nodes K2.o.g.nodes H2.o.nb w ok)
 have UN:=bx (fun h w ok=>Ap9 Γ3 g 0 _ _ di _ _ y v2 s2 s.nodes ha.t K2.o.g.nodes H2.o.nb h w ok (AnS hg))
 have AN:=bx (fun h w ok=>AnZ Γ3 g 0 _ _ di _ _ y v2 s2 s.nodes ha.t K2.o.g.nodes H2.o.nb h w ok (AnS hg))
 have AF:=bx (fun w ok=>AnZ Γ3 g 0 _ _ di _ _ y v s s.nodes ha.t H2.o.g.nodes H2.o.nb (Ajf _) w ok (AnS hg))
 have AG:=bx (fun w ok=>AlY Γ3 s v _ H2.o g 0 B D cb cd y di A2 c2 w ok (AnS hg) ha)
 have hwk:IntKind.i64.wrap ((v.nodes.n:Int)+1)=(v.nodes.n:Int)+1:=IntWalk.i64_in _ (by have:=H2.o.nb;have:=H2.o.g.nodes.n;omega)
 have N1:=bx H2.o.g.nodes.n
 have N2:=bx K2.o.g.nodes.n
 rw[<-N1.o]at LS
 clear hg ha hx H1 K1 H2 K2
 generalize sameR s.nodes s2.nodes=sm at *
 cases sm with
 |false=>
  have UN':=bx (UN.o (by simp))
  have AN':=bx (AN.o (by simp))
  clear UN AN N1 N2
  (go_wp2_with (first|go_skip|((first|refine zBXd ?_|refine zALd (ztSt) ?_);clear M;intro w' g M)|fail|refine zLAd ?_))
  (refine(LS.o _ M.ok).mono ?_;rintro e1 w1 ⟨rfl,hx⟩;replace M:=bx (M.o.call hx);clear hx)
  (go_wp2_with (first|go_skip|((first|refine zBXd ?_|refine zALd (ztSt) ?_);clear M;intro w' g M)|fail|refine zLAd ?_))
  (refine(LS.o _ M.ok).mono ?_;rintro e1 w1 ⟨rfl,hx⟩;replace M:=bx (M.o.call hx);clear hx)
  (go_wp2_with (first|go_skip|((first|refine zBXd ?_|refine zALd (ztSt) ?_);clear M;intro w' g M)|fail|refine zLAd ?_))
  (refine(UN'.o _ M.ok).mono ?_;rintro e1 w1 ⟨rfl,hx⟩;replace M:=bx (M.o.call hx);clear hx)
  (go_wp2_with (first|go_skip|((first|refine zBXd ?_|refine zALd (ztSt) ?_);clear M;intro w' g M)|fail|refine zLAd ?_))
  (refine(AN'.o _ M.ok).mono ?_;rintro e1 w1 ⟨rfl,hx⟩;replace M:=bx (M.o.call hx);clear hx)
  (go_wp2_with (first|go_skip|((first|refine zBXd ?_|refine zALd (ztSt) ?_);clear M;intro w' g M)|fail|refine zLAd ?_))
  (refine(AF.o _ M.ok).mono ?_;rintro e1 w1 ⟨rfl,hx⟩;replace M:=bx (M.o.call hx);clear hx)
  (go_wp2_with (first|go_skip|((first|refine zBXd ?_|refine zALd (ztSt) ?_);clear M;intro w' g M)|fail|refine zLAd ?_))
  (refine(AG.o _ M.ok).mono ?_;rintro e1 w1 ⟨rfl,hx⟩;replace M:=bx (M.o.below hx);clear hx)
  (go_wp2_with (first|go_skip|((first|refine zBXd ?_|refine zALd (ztSt) ?_);clear M;intro w' g M)|fail|refine zLAd ?_))
  (refine(AdQ _).mono ?_;rintro e1 w1 ⟨rfl,hx⟩;replace M:=bx (M.o.below hx);clear hx)
  (go_wp2_with (first|go_skip|((first|refine zBXd ?_|refine zALd (ztSt) ?_);clear M;intro w' g M)|fail|refine zLAd ?_))
  go_ret
  exact⟨rfl,M.bel⟩
 |true=>
  by_cases h1:v2.nodes.n=v.nodes.n
  .have e1:((v2.nodes.n:Int)==(v.nodes.n:Int))=true:=by simp;omega
   have e2:(v2.nodes.n==v.nodes.n)=true:=by simp;omega
   have e3:((v2.nodes.n:Int)==(v.nodes.n:Int)+1)=false:=by simp;omega
   have e4:(v2.nodes.n==v.nodes.n+1)=false:=by simp;omega
   have e5:decide ((v2.nodes.n:Int)=(v.nodes.n:Int))=true:=decide_eq_true (by omega)
   have e6:decide ((v2.nodes.n:Int)=(v.nodes.n:Int)+1)=false:=decide_eq_false (by omega)
   clear UN AN AF AG N1 N2 h1
   (go_wp2_with (first|go_skip|((first|refine zBXd ?_|refine zALd (ztSt) ?_);clear M;intro w' g M)|fail|refine zLAd ?_))
   (refine(LS.o _ M.ok).mono ?_;rintro e1 w1 ⟨rfl,hx⟩;replace M:=bx (M.o.call hx);clear hx)
   (go_wp2_with (first|go_skip|((first|refine zBXd ?_|refine zALd (ztSt) ?_);clear M;intro w' g M)|fail|refine zLAd ?_))
   (refine(LS.o _ M.ok).mono ?_;rintro e1 w1 ⟨rfl,hx⟩;replace M:=bx (M.o.call hx);clear hx)
   (go_wp2_with (first|go_skip|((first|refine zBXd ?_|refine zALd (ztSt) ?_);clear M;intro w' g M)|fail|refine zLAd ?_))
   (refine(AdQ _).mono ?_;rintro e1 w1 ⟨rfl,hx⟩;replace M:=bx (M.o.below hx);clear hx)
   (go_wp2_with (first|go_skip|((first|refine zBXd ?_|refine zALd (ztSt) ?_);clear M;intro w' g M)|fail|refine zLAd ?_))
   go_ret
   exact⟨rfl,M.bel⟩
  .have e1:((v2.nodes.n:Int)==(v.nodes.n:Int))=false:=by simp;omega
   have e2:(v2.nodes.n==v.nodes.n)=false:=by simp;omega
   have e5:decide ((v2.nodes.n:Int)=(v.nodes.n:Int))=false:=decide_eq_false (by omega)
   by_cases h2:v2.nodes.n=v.nodes.n+1
   focus
    have e3:((v2.nodes.n:Int)==(v.nodes.n:Int)+1)=true:=by simp;omega
    have e4:(v2.nodes.n==v.nodes.n+1)=true:=by simp;omega
    have e6:decide ((v2.nodes.n:Int)=(v.nodes.n:Int)+1)=true:=decide_eq_true (by omega)
    clear UN AN AF AG N1 N2 h1 h2
    (go_wp2_with (first|go_skip|((first|refine zBXd ?_|refine zALd (ztSt) ?_);clear M;intro w' g M)|fail|refine zLAd ?_))
    (refine(LS.o _ M.ok).mono ?_;rintro e1 w1 ⟨rfl,hx⟩;replace M:=bx (M.o.call hx);clear hx)
    (go_wp2_with (first|go_skip|((first|refine zBXd ?_|refine zALd (ztSt) ?_);clear M;intro w' g M)|fail|refine zLAd ?_))
    (refine(LS.o _ M.ok).mono ?_;rintro e1 w1 ⟨rfl,hx⟩;replace M:=bx (M.o.call hx);clear hx)
   rotate_left
   focus
    have e3:((v2.nodes.n:Int)==(v.nodes.n:Int)+1)=false:=by simp;omega
    have e4:(v2.nodes.n==v.nodes.n+1)=false:=by simp;omega
    have e6:decide ((v2.nodes.n:Int)=(v.nodes.n:Int)+1)=false:=decide_eq_false (by omega)
    have UN':=bx (UN.o (fun h=>h1 (by rw[N1.o,N2.o];exact h.2)))
    have AN':=bx (AN.o (fun h=>h2 (by rw[N1.o,N2.o];exact h.2)))
    clear UN AN N1 N2 h1 h2
    (go_wp2_with (first|go_skip|((first|refine zBXd ?_|refine zALd (ztSt) ?_);clear M;intro w' g M)|fail|refine zLAd ?_))
    (refine(LS.o _ M.ok).mono ?_;rintro e1 w1 ⟨rfl,hx⟩;replace M:=bx (M.o.call hx);clear hx)
    (go_wp2_with (first|go_skip|((first|refine zBXd ?_|refine zALd (ztSt) ?_);clear M;intro w' g M)|fail|refine zLAd ?_))
    (refine(LS.o _ M.ok).mono ?_;rintro e1 w1 ⟨rfl,hx⟩;replace M:=bx (M.o.call hx);clear hx)
    (go_wp2_with (first|go_skip|((first|refine zBXd ?_|refine zALd (ztSt) ?_);clear M;intro w' g M)|fail|refine zLAd ?_))
    (refine(UN'.o _ M.ok).mono ?_;rintro e1 w1 ⟨rfl,hx⟩;replace M:=bx (M.o.call hx);clear hx)
    (go_wp2_with (first|go_skip|((first|refine zBXd ?_|refine zALd (ztSt) ?_);clear M;intro w' g M)|fail|refine zLAd ?_))
    (refine(AN'.o _ M.ok).mono ?_;rintro e1 w1 ⟨rfl,hx⟩;replace M:=bx (M.o.call hx);clear hx)
    (go_wp2_with (first|go_skip|((first|refine zBXd ?_|refine zALd (ztSt) ?_);clear M;intro w' g M)|fail|refine zLAd ?_))
    (refine(AF.o _ M.ok).mono ?_;rintro e1 w1 ⟨rfl,hx⟩;replace M:=bx (M.o.call hx);clear hx)
    (go_wp2_with (first|go_skip|((first|refine zBXd ?_|refine zALd (ztSt) ?_);clear M;intro w' g M)|fail|refine zLAd ?_))
    (refine(AG.o _ M.ok).mono ?_;rintro e1 w1 ⟨rfl,hx⟩;replace M:=bx (M.o.below hx);clear hx)
   all_goals
    (go_wp2_with (first|go_skip|((first|refine zBXd ?_|refine zALd (ztSt) ?_);clear M;intro w' g M)|fail|refine zLAd ?_))
    (refine(AdQ _).mono ?_;rintro e1 w1 ⟨rfl,hx⟩;replace M:=bx (M.o.below hx);clear hx)
    (go_wp2_with (first|go_skip|((first|refine zBXd ?_|refine zALd (ztSt) ?_);clear M;intro w' g M)|fail|refine zLAd ?_))
    go_ret
    exact⟨rfl,M.bel⟩
end Go.Proofs.YtpaihpeoiliioaaGreat
