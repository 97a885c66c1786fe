/- Texts joined (KK58). -/
import Derived.Test.YtpaihpeoiliioaaGreatKK32
import Derived.Test.YtpaihpeoiliioaaGreatKK29
set_option linter.all false
set_option maxRecDepth 20000
set_option maxHeartbeats 40000000
namespace Go.Proofs.YtpaihpeoiliioaaGreat
open Go.RowKit Old
def fmF(m k:Nat):Int:=if k<m then -1 else 0
theorem App(n m:Nat):(lst n (fmF m)).set m (-1)=lst n (fmF (m+1)):=by
 rw[Abo]
 refine AbG fun k _=>?_
 unfold fmF
 by_cases h:k=m
 .rw[if_pos h,if_pos (by omega)]
 .rw[if_neg h]
  by_cases h2:k<m
  .rw[if_pos h2,if_pos (by omega)]
  .rw[if_neg h2,if_neg (by omega)]
theorem Ap7{N:List Nod}{W:List U}{L:List Bool}{b:Int}{c:Nat}(h:L.getD c false=false):betB N W L b c=b:=by
 unfold betB;rw[if_neg (fun h'=>by rw[h]at h';cases h'.1)]
theorem Aok{N:List Nod}{W:List U}{L:List Bool}{c:Nat}(h:L.getD c false=true):betB N W L (-1) c=(c:Int):=by
 unfold betB;rw[if_pos ⟨h,.inl (by decide)⟩]
theorem Ag7(C:Nat->Int)(u:Nat):(fun k=>if k=u then C u else C k)=C:=funext fun k=>by
 by_cases h:k=u
 .subst h;rw[if_pos rfl]
 .rw[if_neg h]
theorem ArE{n u:Nat}{f:Nat->Int}:(lst n fun k=>if k=u then f u else f k)=lst n f:=AbG fun k _=>by
 by_cases h:k=u
 .subst h;rw[if_pos rfl]
 .rw[if_neg h]
theorem Akt(Γ:Gam)(x:Sl)(N:List Nod)(A2 A3:Option Addr)(c2 c3:Nat)(W:List U)(L:List Bool)(hk:Lk (upsN N))(hdd:∀i j (hi:i<N.length) (hj:j<N.length),N[i].b.root=N[j].b.root->i=j)(hb:N.length<=4096)(hW:W.length=N.length)(hL:L.length=N.length)(w:World)(ok:Ok Γ w)(h:NG Γ x N)(h2:SlG Γ A2 N.length (us W))(h3:SlG Γ A3 N.length (bls L)) :
  Calls Tryz.prog 61 #[.agg [x.v].toArray,.slice A2 N.length c2,.slice A3 N.length c3] w (LksP Γ w (bstL N W L) (dscL N W L)):=by
 have M:=bx (MM.start ok)
 have BT:=bx (fun a b ha hb w ok=>Aix Γ x N A2 c2 W a b hW ha hb w ok h h2)
 have HG:=bx h
 have LN:=bx h.n
 have HLL:=bx hL
 have H3:Bx (SlG Γ A3 L.length (bls L)):=⟨by rw[hL];exact h3⟩
 have PS:=bx (PbI.start (N:=N) (W:=W) (L:=L) hk)
 have PF:=bx (fun(i u:Nat) (C D:Nat->Int) (h:PbI N W L i C D) (hi:i<N.length) (h0:0<i) (hu:(N.getD i n0).up=(u:Int))=>PbI.step hk hdd (i:=i) (u:=u) h hi h0 (by rw[<-nget hi];exact hu))
 have PD:=bx (fun(C D:Nat->Int) (h:PbI N W L 0 C D) (u:Nat) hu=>h.done hk hdd (u:=u) hu)
 have UP:Bx (∀i,i<N.length->0<i->∃u:Nat,u<i/\(N.getD i n0).up=(u:Int)):=⟨fun i hi h0=>by
  rw[nget hi]
  rcases hk i (by simp[upsN];exact hi)with⟨h1,_⟩|⟨u,h1,h2⟩
  .omega
  .exact⟨u,h1,by rw[<-h2];simp[upsN,List.getD,List.getElem?_eq_getElem hi]⟩⟩
 have PK:Bx (∀i u C D,PbI N W L i C D->u<N.length->C u = -1\/∃k,i<k/\k<N.length/\C u=(k:Int)):=⟨fun i u C D h hu=>by
  rcases h.c u hu with⟨h1,_⟩|⟨k,h1,h2,_⟩
  .exact .inl h1
  .obtain⟨h3,h4⟩:=List.mem_filter.1 h2
   exact .inr ⟨k,of_decide_eq_true h4,(Adb h3).1,h1⟩⟩
 have BB:Bx (∀c k:Nat,L.getD c false=true->betB N W L (k:Int) c=if betC N W c k=true then(c:Int)else(k:Int)):=⟨fun c k hl=>AnP hl⟩
 have BZ:Bx (bstL N W L=lst N.length (fun k=>bestI N W L (k:Int))/\dscL N W L=lst N.length (fun k=>dsc N W L (k:Int))):=⟨rfl,rfl⟩
 obtain⟨n,hn⟩:∃n,N.length=n:=⟨_,rfl⟩
 have HV:Bx (x.v=.slice x.A n x.c):=⟨by rw[<-hn,<-h.n]⟩
 have HN:=bx hn
 have HN1:Bx (8*n<=281474976710656):=⟨by omega⟩
 have HN2:Bx (n<=9223372036854775807):=⟨by omega⟩
 have hnb:n<=4096:=by omega
 have hwr:IntKind.i64.wrap ((n:Int)-1)=(n:Int)-1:=IntWalk.i64_in _ (by omega)
 have Z1:Bx (ints .i64 (lst n fun _=>0)=ints .i64 (lst n (fmF 0))):=⟨by rw[AbG (g:=fmF 0) (fun k hk=>by unfold fmF;rw[if_neg (by omega)])]⟩
 have Z2:Bx (lst n (fmF n)=lst n fun _=>-1):=⟨AbG fun k hk=>by unfold fmF;rw[if_pos hk]⟩
 have FS:=bx (fun m=>App n m)
 rw[hn]at BT PS PF PD UP PK BZ LN |-
 clear ok h h2 h3 hb hW hL hk hn hdd
 change Calls Tryz.prog _ #[.agg (fl [[x.v]]).toArray,_,_] _ _
 go_enter Tryz.func61,Tryz.ntmps61
 go_upto_region 2 with(first|go_skip|((refine zBXd ?_;clear M;intro w' g M);(obtain⟨g3,hg0⟩:∃y,y=g:=⟨_,rfl⟩);subst hg0)|((refine zALd (ztLk) ?_;clear M;intro w' g M);(obtain⟨g6,hg0⟩:∃y,y=g:=⟨_,rfl⟩);subst hg0)|refine zLHd HV ?_|refine zLAd ?_)
 go_cut [8]from 16 (fun s8 wx=>∃g8 ga gb,s8=.pointer (some ⟨g8,0,none⟩)/\MM Γ w Γ wx [⟨g8,lkP (.slice (some ⟨ga,0,none⟩) n n) (.slice (some ⟨gb,0,none⟩) n n),[1,1]⟩,⟨ga,[ints .i64 (lst n (fmF 0))],[n]⟩,⟨gb,[ints .i64 (lst n (fmF 0))],[n]⟩,⟨g6,lkP (.slice none 0 0) (.slice none 0 0),[1,1]⟩,⟨g3,[[x.v]],[1]⟩] [])
 case first=>
  go_wp2_with fail
  refine AaB [6] (.steps [(1,0),(1,2)] (.fork3 1 (.fork 3 (.steps [(1,4),(2,5),(3,6)] .leaf) 5 (.steps [(2,3),(1,4),(3,6)] .leaf)) 3 (.fork 1 (.steps [(1,4),(2,5),(3,6)] .leaf) 5 (.steps [(2,1),(1,4),(3,6)] .leaf)) 5 (.fork 1 (.steps [(2,3),(1,4),(3,6)] .leaf) 3 (.steps [(2,1),(1,4),(3,6)] .leaf)))) (by kernel_rfl) (by kernel_rfl) ?_;(simp only[MixT6,MT.steps,stepAt,List.getD_cons_zero,List.getD_cons_succ]);replace M:=bx (M.o.drew)
  refine zNM ?_
  refine zMRd ?_
  refine⟨?_,?_,?_⟩
  all_goals (first|(refine AaA (AfA An2 n HN1.o HN2.o rfl rfl rfl) rfl ?_;refine⟨ext_alloc _ _,?_⟩;rw[Ajr n (fun _=>0) (fun _ _=>rfl)];replace M:=bx (M.o.alloc (P:=[ints .i64 (lst n fun _=>0)]) (ls:=[n]) (by simp[Abp]) rfl 3);(obtain⟨ga,hg0⟩:=AgM M.o);rw[<-hg0]at M |-;clear hg0;refine zNM ?_)|(refine AaA (AaR rfl ztLk) rfl ?_;refine⟨ext_alloc _ _,?_⟩;replace M:=bx (M.o.alloc (P:=lkP (.slice none 0 0) (.slice none 0 0)) (ls:=[1,1]) rfl rfl 88);(obtain⟨g8,hg0⟩:=AgM M.o);rw[<-hg0]at M |-;clear hg0;refine zNM ?_))
  all_goals refine⟨?_,?_⟩
  all_goals (repeat(first|(with_reducible refine wpQuiet_nil ?_)|(go_big_quiet_want;(with_reducible apply AaT 88 _ rfl _ _ rfl);exact Akg _ _ _ _ _ _;go_big_quiet_on;refine zNM ?_)|(refine AaA (AfA An2 n HN1.o HN2.o rfl rfl rfl) rfl ?_;refine⟨ext_alloc _ _,?_⟩;rw[Ajr n (fun _=>0) (fun _ _=>rfl)];replace M:=bx (M.o.alloc (P:=[ints .i64 (lst n fun _=>0)]) (ls:=[n]) (by simp[Abp]) rfl 3);(obtain⟨ga,hg0⟩:=AgM M.o);rw[<-hg0]at M |-;clear hg0;refine zNM ?_)|(refine AaA (AaR rfl ztLk) rfl ?_;refine⟨ext_alloc _ _,?_⟩;replace M:=bx (M.o.alloc (P:=lkP (.slice none 0 0) (.slice none 0 0)) (ls:=[1,1]) rfl rfl 88);(obtain⟨g8,hg0⟩:=AgM M.o);rw[<-hg0]at M |-;clear hg0;refine zNM ?_)|((first|refine Aam M.o 0 _ (lkP (.slice (some ⟨_,0,none⟩) n n) (.slice (some ⟨_,0,none⟩) n n)) rfl rfl rfl rfl rtLk rfl rfl (Ad2 _ _ _ _ _ _) rfl rfl ?_|refine Aam M.o 1 _ (lkP (.slice (some ⟨_,0,none⟩) n n) (.slice (some ⟨_,0,none⟩) n n)) rfl rfl rfl rfl rtLk rfl rfl (Ad2 _ _ _ _ _ _) rfl rfl ?_|refine Aam M.o 2 _ (lkP (.slice (some ⟨_,0,none⟩) n n) (.slice (some ⟨_,0,none⟩) n n)) rfl rfl rfl rfl rtLk rfl rfl (Ad2 _ _ _ _ _ _) rfl rfl ?_);intro w7 M';(simp only[List.set_cons_zero,List.set_cons_succ]at M');(replace M:=bx M';clear M');refine zNM ?_;refine NoPanic.normal ?_;go_wp2_with fail;go_meet)))
  all_goals exact⟨_,_,_,rfl,by rw[<-Z1.o];(first|exact M.o|exact M.o.perm (.swap _ _ _)|exact M.o.perm (.cons _ (.swap _ _ _))|exact M.o.perm ((List.Perm.cons _ (.swap _ _ _)).trans (.swap _ _ _))|exact M.o.perm ((List.Perm.swap _ _ _).trans (.cons _ (.swap _ _ _)))|exact M.o.perm ((List.Perm.swap _ _ _).trans ((List.Perm.cons _ (.swap _ _ _)).trans (.swap _ _ _))))⟩
 case rest=>
  obtain⟨g8,ga,gb,rfl,hM⟩:=hcut
  clear M
  have M:=bx hM
  clear hM Z1
  go_wp2_with fail
  go_loopw [9,22] (fun _ j wr=>∃m:Nat,m<=n/\j=.int .i64 (m:Int)/\MM Γ w Γ wr [⟨g8,lkP (.slice (some ⟨ga,0,none⟩) n n) (.slice (some ⟨gb,0,none⟩) n n),[1,1]⟩,⟨ga,[ints .i64 (lst n (fmF m))],[n]⟩,⟨gb,[ints .i64 (lst n (fmF m))],[n]⟩,⟨g6,lkP (.slice none 0 0) (.slice none 0 0),[1,1]⟩,⟨g3,[[x.v]],[1]⟩] []) (fun _ j _=>n-(intOf j).toNat)
  case atStart=>exact⟨0,Nat.zero_le _,rfl,M.o⟩
  case round=>
   obtain⟨k,hkn,rfl,hM⟩:=hrel
   clear M
   have M:=bx hM
   clear hM
   by_cases hkl:k<n
   .have hki:(k:Int)<(n:Int):=by omega
    have hk0:0<=(k:Int):=by omega
    have hkb:k<(fl [ints .i64 (lst n (fmF k))]).length:=by rw[fl1,Abp];exact hkl
    have FSk:=bx (FS.o k)
    have FB:Bx (fl [ints .i64 ((lst n (fmF k)).set k (-1))]=(fl [ints .i64 (lst n (fmF k))]).set k (.int .i64 (-1))):=⟨AgL _ _ _⟩
    have LB:Bx (([ints .i64 ((lst n (fmF k)).set k (-1))]:List (List Value)).map List.length = [n]):=⟨by simp[ints_len,Aao]⟩
    go_wp2_with fail
    refine AaF (fun w'=>HL w' g8 (lkP (.slice (some ⟨ga,0,none⟩) n n) (.slice (some ⟨gb,0,none⟩) n n)) [1,1]) (.steps [(1,0),(0,1),(1,2),(1,3),(0,4),(1,5),(1,6),(3,7),(1,8),(3,9)] .leaf) (by kernel_rfl) (by kernel_rfl) M.o.drew.at0 ?_;(simp only[MixT7,MT.steps,stepI,List.getD_cons_zero,List.getD_cons_succ]);replace M:=bx (M.o.drew)
    refine zNM ?_
    (repeat(first|refine zM0 ?_|(go_big_quiet_want;first|(refine zQL (fun _ h=>h) (AhI _ _) ?_;go_big_quiet_on;refine zNM ?_)|(refine zQO ?_;go_big_quiet_on))))
    refine AcB M.o 1 (.int .i64 (-1)) (P':=[ints .i64 ((lst n (fmF k)).set k (-1))]) rfl hkb FB.o LB.o rfl rfl rfl Ac5 rfl rfl rfl ?_
    intro w7 M'
    (simp only[List.set_cons_zero,List.set_cons_succ]at M')
    (replace M:=bx M';clear M')
    refine⟨M.o.at0,?_⟩
    refine zNM ?_
    refine zMR7 ?_
    refine AcB M.o 2 (.int .i64 (-1)) (P':=[ints .i64 ((lst n (fmF k)).set k (-1))]) rfl hkb FB.o LB.o rfl rfl rfl Ac5 rfl rfl rfl ?_
    intro w8 M'
    (simp only[List.set_cons_zero,List.set_cons_succ]at M')
    (replace M:=bx M';clear M')
    rw[FSk.o]at M
    refine⟨M.o.at0,?_⟩
    refine zNM ?_
    refine NoPanic.normal ?_
    go_wp2_with fail
    go_roundw
    case rel=>exact⟨k+1,by omega,by go_num,M.o⟩
    case measure=>simp[intOf];omega
   .have hki:(n:Int)<=(k:Int):=by omega
    obtain rfl:k=n:=by omega
    rw[Z2.o]at M
    go_wp2_with fail
    go_loopw [10,11,12] (fun i _ _ wr=>∃(m:Nat) (C D:Nat->Int),m<=k/\i=.int .i64 ((m:Int)-1)/\PbI N W L (m-1) C D/\MM Γ w Γ wr [⟨g8,lkP (.slice (some ⟨ga,0,none⟩) k k) (.slice (some ⟨gb,0,none⟩) k k),[1,1]⟩,⟨ga,[ints .i64 (lst k C)],[k]⟩,⟨gb,[ints .i64 (lst k D)],[k]⟩,⟨g6,lkP (.slice none 0 0) (.slice none 0 0),[1,1]⟩,⟨g3,[[x.v]],[1]⟩] []) (fun i _ _ _=>(intOf i+1).toNat)
    case atStart=>exact⟨k,_,_,Nat.le_refl _,by first|rfl|(rw[hwr];rfl),PS.o,M.o⟩
    case round=>
     obtain⟨m,C,D,hm,rfl,hP,hM⟩:=hrel
     clear M
     have M:=bx hM
     clear hM
     by_cases h1:m<=1
     .have hP0:PbI N W L 0 C D:=by
       have e:m-1=0:=by omega
       rwa [e]at hP
      obtain⟨z,hz⟩:∃z,(m:Int)-1=z:=⟨_,rfl⟩
      have hz0:z<=0:=by omega
      rw[hz]
      clear hz hP hm h1
      go_wp2_with (first|(((with_reducible refine AiU ?_);((with_reducible apply Acl);rfl;rfl;rfl);((with_reducible apply LdAt.ps M.o.at0.one);exact rtLk;rfl;(try simp only[List.drop_zero]));refine zNM ?_))|((with_reducible apply AcK M.o 3 (lkP (.slice (some ⟨ga,0,none⟩) k k) (.slice (some ⟨gb,0,none⟩) k k)) (lkP (.slice (some ⟨ga,0,none⟩) k k) (.slice (some ⟨gb,0,none⟩) k k)));rfl;rfl;rfl;rfl;rfl;exact rtLk;rfl;rfl;exact Ad2 _ _ _ _ _ _;rfl;intro w' M' hg';(simp only[List.set_cons_zero,List.set_cons_succ]at M');(replace M:=bx M';clear M');clear hg';refine zNM ?_))
      obtain⟨Γ1,a1,a2,M1⟩:=(M.o.perm (.swap _ _ _)).frzS k
      obtain⟨Γ2,b1,b2,M2⟩:=(M1.perm (.swap _ _ _)).frzS k
      (try refine zsm ?_);refine bodyPost_ret (AbK rfl _ M2.at1 rfl rtLk rfl) rfl ?_
      unfold LksP
      rw[BZ.o.1,BZ.o.2,<-AbG (f:=C) (fun u hu=>(PD.o C D hP0 u hu).1),<-AbG (f:=D) (fun u hu=>(PD.o C D hP0 u hu).2)]
      refine⟨some ⟨ga,0,none⟩,some ⟨gb,0,none⟩,k,k,Γ2,by rw[Aao,Aao],?_,?_,?_,?_,M2.ext⟩
      .rw[Aao];exact⟨Nat.le_refl _,by unfold maxLen;omega,fun h=>by cases h⟩
      .rw[Aao];exact⟨Nat.le_refl _,by unfold maxLen;omega,fun h=>by cases h⟩
      .rw[Aao];exact a1.mono b2
      .rw[Aao];exact b1
     .obtain⟨i,rfl⟩:∃i,m=i+1:=⟨m-1,by omega⟩
      have hkk:((i+1:Nat):Int)-1=(i:Int):=by omega
      rw[hkk]
      rw[Nat.add_sub_cancel]at hP
      have hin:i<k:=by omega
      have h0:0<i:=by omega
      have hii:(i:Int)<(k:Int):=by omega
      have hi0:0<=(i:Int):=by omega
      have hi1:0<(i:Int):=by omega
      have hwk:IntKind.i64.wrap ((i:Int)-1)=(i:Int)-1:=IntWalk.i64_in _ (by omega)
      obtain⟨u,hui,hu⟩:=UP.o i hin h0
      have hun:u<k:=by omega
      have huu:(u:Int)<(k:Int):=by omega
      have hu0:0<=(u:Int):=by omega
      have PF':=bx (PF.o i u C D hP hin h0 hu)
      have PK':=PK.o i u C D hP hun
      have hiN:i<N.length:=by rw[HN.o];exact hin
      rw[nget hiN]at hu
      obtain⟨gt,hA,hf⟩:=SlR.fz (f:=noP) (k:=240) HG.o AaK rfl i hiN
      rw[LN.o]at hA
      have HA:=bx hA
      have F1:=bx hf
      have hcL:i<L.length:=by rw[HLL.o];exact hiN
      obtain⟨g3',rfl,hf3⟩:=AnM H3.o i hcL
      have F2:Bx (Fz Γ g3' i [[.bool L[i]]] [1]):=⟨hf3,rfl⟩
      have gL:L.getD i false=L[i]:=by simp[List.getD,List.getElem?_eq_getElem hcL]
      have HKC:Bx ((ints .i64 (lst k C))[u]? = some (.int .i64 (C u))):=⟨Ae6 hun⟩
      have BTi:=bx (fun b hb w ok=>BT.o i b hin hb w ok)
      have BBi:=bx (fun b hl=>BB.o i b hl)
      clear hA hf hf3 PF UP PK hP hkk h1 hwr BT BB PS FS PD BZ HG H3 HLL Z2
      generalize N[i]=y at *
      clear hiN
      cases hl:L[i]with
      |false=>
       rw[hl]at F2 gL
       have P1:PbI N W L (i-1) C D:=by
        have h:=PF'.o
        rw[Ap7 gL]at h
        simp only[if_true]at h
        rwa [Ag7,Ag7]at h
       clear PF' gL hl BBi BTi
       generalize C u=cu at *
       (go_wp2_with (first|go_skip|refine zLHd HA ?_|refine zRFd F1 ?_|refine zRFd F2 ?_|refine zLAd ?_|((with_reducible apply AaQ M.o.at1 HKC.o);rfl;rfl;rfl;exact zots)))
       go_roundw
       case rel=>exact⟨i,_,_,by omega,by go_num,P1,M.o⟩
       case measure=>simp[intOf]
      |true=>
       rw[hl]at F2 gL
       clear hl
       rcases PK' with hc|⟨b,hb1,hb2,hc⟩
       .have BE:betB N W L (C u) i=(i:Int):=by rw[hc];exact Aok gL
        have hne:¬(i:Int)=C u:=by rw[hc];omega
        rw[hc]at HKC
        clear gL BBi BTi hc
        (go_wp2_with (first|go_skip|go_guarded|refine zLHd HA ?_|refine zRFd F1 ?_|refine zRFd F2 ?_|refine zLAd ?_|((with_reducible apply AaQ M.o.at1 HKC.o);rfl;rfl;rfl;exact zots)))
        have P1:PbI N W L (i-1) (fun z=>if z=u then(i:Int)else C z) (fun z=>if z=u then(if 0<=D i then D i else(i:Int))else D z):=by
         have h:=PF'.o
         rw[BE]at h
         simp only[if_neg hne]at h
         exact h
        clear PF' BE
        have hkb:u<(fl [ints .i64 (lst k C)]).length:=by rw[fl1,Abp];exact hun
        have hkd:u<(fl [ints .i64 (lst k D)]).length:=by rw[fl1,Abp];exact hun
        have FB:Bx (fl [ints .i64 ((lst k C).set u (i:Int))]=(fl [ints .i64 (lst k C)]).set u (.int .i64 (i:Int))):=⟨AgL _ _ _⟩
        have FD:Bx (fl [ints .i64 ((lst k D).set u (i:Int))]=(fl [ints .i64 (lst k D)]).set u (.int .i64 (i:Int))):=⟨AgL _ _ _⟩
        have LB:Bx (([ints .i64 ((lst k C).set u (i:Int))]:List (List Value)).map List.length = [k]):=⟨by simp[ints_len,Aao]⟩
        have LD:Bx (([ints .i64 ((lst k D).set u (i:Int))]:List (List Value)).map List.length = [k]):=⟨by simp[ints_len,Aao]⟩
        (go_wp2_with (first|go_skip|((first|refine zBXd ?_|refine zALd (ztLk) ?_);clear M;intro w' g M)|fail|refine zLAd ?_))
        refine AaF (fun w'=>HL w' g8 (lkP (.slice (some ⟨ga,0,none⟩) k k) (.slice (some ⟨gb,0,none⟩) k k)) [1,1]) (.steps [(1,0),(0,1),(1,2),(1,3),(0,4),(1,5),(1,6),(1,7),(1,8),(3,9),(1,10),(3,11)] .leaf) (by kernel_rfl) (by kernel_rfl) M.o.drew.at0 ?_;(simp only[MixT7,MT.steps,stepI,List.getD_cons_zero,List.getD_cons_succ]);replace M:=bx (M.o.drew)
        refine zNM ?_
        (repeat(first|refine zM0 ?_|(go_big_quiet_want;first|(refine zQL (fun _ h=>h) (AhI _ _) ?_;go_big_quiet_on;refine zNM ?_)|(refine zQO ?_;go_big_quiet_on))))
        refine AcB M.o 1 (.int .i64 (i:Int)) (P':=[ints .i64 ((lst k C).set u (i:Int))]) rfl hkb FB.o LB.o rfl rfl rfl Ac5 rfl rfl rfl ?_
        intro w7 M'
        (simp only[List.set_cons_zero,List.set_cons_succ]at M')
        (replace M:=bx M';clear M')
        refine⟨M.o.at0,?_⟩
        refine zNM ?_
        refine zMR7 ?_
        refine AcB M.o 2 (.int .i64 (i:Int)) (P':=[ints .i64 ((lst k D).set u (i:Int))]) rfl hkd FD.o LD.o rfl rfl rfl Ac5 rfl rfl rfl ?_
        intro w8 M'
        (simp only[List.set_cons_zero,List.set_cons_succ]at M')
        (replace M:=bx M';clear M')
        rw[Abo (f:=C)]at M
        refine⟨M.o.at0,?_⟩
        refine zNM ?_
        refine NoPanic.normal ?_
        clear FB FD LB LD hkb hkd
        have HK:Bx ((ints .i64 ((lst k D).set u (i:Int)))[i]? = some (.int .i64 (D i))):=⟨by rw[Abo,Ae6 hin,if_neg (by omega)]⟩
        by_cases hd:0<=D i
        .simp only[if_pos hd]at P1
         obtain⟨d,hd'⟩:∃d,D i=d:=⟨_,rfl⟩
         rw[hd']at HK P1 hd
         clear hd'
         have hkd:u<(fl [ints .i64 ((lst k D).set u (i:Int))]).length:=by rw[fl1,ints_len,List.length_set,Aao];exact hun
         have FD:Bx (fl [ints .i64 (((lst k D).set u (i:Int)).set u d)]=(fl [ints .i64 ((lst k D).set u (i:Int))]).set u (.int .i64 d)):=⟨AgL _ _ _⟩
         have LD:Bx (([ints .i64 (((lst k D).set u (i:Int)).set u d)]:List (List Value)).map List.length = [k]):=⟨by simp[ints_len,Aao]⟩
         go_wp2_with (first|go_skip|refine zLAd ?_|((with_reducible apply AaQ M.o.at2 HK.o);rfl;rfl;rfl;exact zots))
         refine AaB [9] (.steps [(1,0),(0,1),(1,2),(1,3),(0,4),(1,5),(1,6),(0,7),(1,8),(3,9)] .leaf) (by kernel_rfl) (by kernel_rfl) ?_;(simp only[MixT6,MT.steps,stepAt,List.getD_cons_zero,List.getD_cons_succ]);replace M:=bx (M.o.drew)
         refine zNM ?_
         (repeat(first|refine zM0 ?_|(go_big_quiet_want;first|((first|((with_reducible apply AbR M.o.at2.all.has HK.o);rfl;rfl;exact zots)|refine zQAd ?_);go_big_quiet_on;refine zNM ?_)|(refine zQO ?_;go_big_quiet_on))))
         refine AcB M.o 2 (.int .i64 d) (P':=[ints .i64 (((lst k D).set u (i:Int)).set u d)]) rfl hkd FD.o LD.o rfl rfl rfl Ac5 rfl rfl rfl ?_
         intro w7 M'
         (simp only[List.set_cons_zero,List.set_cons_succ]at M')
         (replace M:=bx M';clear M')
         rw[List.set_set,Abo (f:=D)]at M
         refine zNM ?_
         refine NoPanic.normal ?_
         go_wp2_with fail
         go_roundw
         case rel=>exact⟨i,_,_,by omega,by go_num,P1,M.o⟩
         case measure=>simp[intOf]
        .simp only[if_neg hd]at P1
         rw[Abo (f:=D)]at M
         rw[Abo (f:=D)]at HK
         generalize D i=d at *
         go_wp2_with (first|go_skip|refine zLAd ?_|((with_reducible apply AaQ M.o.at2 HK.o);rfl;rfl;rfl;exact zots))
         go_roundw
         case rel=>exact⟨i,_,_,by omega,by go_num,P1,M.o⟩
         case measure=>simp[intOf]
       .have hb0:0<=(b:Int):=by omega
        have B1:=bx (fun w (ok:Ok Γ w)=>BTi.o b hb2 w ok)
        have PT2:=bx (BBi.o b gL)
        have hne:¬(i:Int)=C u:=by rw[hc];omega
        rw[hc]at HKC
        clear gL BBi BTi
        generalize betC N W i b=r at *
        (go_wp2_with (first|go_skip|refine zLHd HA ?_|refine zRFd F1 ?_|refine zRFd F2 ?_|refine zLAd ?_|((with_reducible apply AaQ M.o.at1 HKC.o);rfl;rfl;rfl;exact zots)))
        refine(B1.o _ M.ok).mono ?_
        rintro e1 w1 ⟨rfl,hx⟩
        replace M:=bx (M.o.call hx)
        clear hx B1
        cases r with
        |true=>
         have BE:betB N W L (C u) i=(i:Int):=by rw[hc,PT2.o];rfl
         clear PT2 hc
         (go_wp2_with (first|go_skip|refine zLHd HA ?_|refine zRFd F1 ?_|refine zRFd F2 ?_|refine zLAd ?_|((with_reducible apply AaQ M.o.at1 HKC.o);rfl;rfl;rfl;exact zots)))
         have P1:PbI N W L (i-1) (fun z=>if z=u then(i:Int)else C z) (fun z=>if z=u then(if 0<=D i then D i else(i:Int))else D z):=by
          have h:=PF'.o
          rw[BE]at h
          simp only[if_neg hne]at h
          exact h
         clear PF' BE
         have hkb:u<(fl [ints .i64 (lst k C)]).length:=by rw[fl1,Abp];exact hun
         have hkd:u<(fl [ints .i64 (lst k D)]).length:=by rw[fl1,Abp];exact hun
         have FB:Bx (fl [ints .i64 ((lst k C).set u (i:Int))]=(fl [ints .i64 (lst k C)]).set u (.int .i64 (i:Int))):=⟨AgL _ _ _⟩
         have FD:Bx (fl [ints .i64 ((lst k D).set u (i:Int))]=(fl [ints .i64 (lst k D)]).set u (.int .i64 (i:Int))):=⟨AgL _ _ _⟩
         have LB:Bx (([ints .i64 ((lst k C).set u (i:Int))]:List (List Value)).map List.length = [k]):=⟨by simp[ints_len,Aao]⟩
         have LD:Bx (([ints .i64 ((lst k D).set u (i:Int))]:List (List Value)).map List.length = [k]):=⟨by simp[ints_len,Aao]⟩
         (go_wp2_with (first|go_skip|((first|refine zBXd ?_|refine zALd (ztLk) ?_);clear M;intro w' g M)|fail|refine zLAd ?_))
         refine AaF (fun w'=>HL w' g8 (lkP (.slice (some ⟨ga,0,none⟩) k k) (.slice (some ⟨gb,0,none⟩) k k)) [1,1]) (.steps [(1,0),(0,1),(1,2),(1,3),(0,4),(1,5),(1,6),(1,7),(1,8),(3,9),(1,10),(3,11)] .leaf) (by kernel_rfl) (by kernel_rfl) M.o.drew.at0 ?_;(simp only[MixT7,MT.steps,stepI,List.getD_cons_zero,List.getD_cons_succ]);replace M:=bx (M.o.drew)
         refine zNM ?_
         (repeat(first|refine zM0 ?_|(go_big_quiet_want;first|(refine zQL (fun _ h=>h) (AhI _ _) ?_;go_big_quiet_on;refine zNM ?_)|(refine zQO ?_;go_big_quiet_on))))
         refine AcB M.o 1 (.int .i64 (i:Int)) (P':=[ints .i64 ((lst k C).set u (i:Int))]) rfl hkb FB.o LB.o rfl rfl rfl Ac5 rfl rfl rfl ?_
         intro w7 M'
         (simp only[List.set_cons_zero,List.set_cons_succ]at M')
         (replace M:=bx M';clear M')
         refine⟨M.o.at0,?_⟩
         refine zNM ?_
         refine zMR7 ?_
         refine AcB M.o 2 (.int .i64 (i:Int)) (P':=[ints .i64 ((lst k D).set u (i:Int))]) rfl hkd FD.o LD.o rfl rfl rfl Ac5 rfl rfl rfl ?_
         intro w8 M'
         (simp only[List.set_cons_zero,List.set_cons_succ]at M')
         (replace M:=bx M';clear M')
         rw[Abo (f:=C)]at M
         refine⟨M.o.at0,?_⟩
         refine zNM ?_
         refine NoPanic.normal ?_
         clear FB FD LB LD hkb hkd
         have HK:Bx ((ints .i64 ((lst k D).set u (i:Int)))[i]? = some (.int .i64 (D i))):=⟨by rw[Abo,Ae6 hin,if_neg (by omega)]⟩
         by_cases hd:0<=D i
         .simp only[if_pos hd]at P1
          obtain⟨d,hd'⟩:∃d,D i=d:=⟨_,rfl⟩
          rw[hd']at HK P1 hd
          clear hd'
          have hkd:u<(fl [ints .i64 ((lst k D).set u (i:Int))]).length:=by rw[fl1,ints_len,List.length_set,Aao];exact hun
          have FD:Bx (fl [ints .i64 (((lst k D).set u (i:Int)).set u d)]=(fl [ints .i64 ((lst k D).set u (i:Int))]).set u (.int .i64 d)):=⟨AgL _ _ _⟩
          have LD:Bx (([ints .i64 (((lst k D).set u (i:Int)).set u d)]:List (List Value)).map List.length = [k]):=⟨by simp[ints_len,Aao]⟩
          go_wp2_with (first|go_skip|refine zLAd ?_|((with_reducible apply AaQ M.o.at2 HK.o);rfl;rfl;rfl;exact zots))
          refine AaB [9] (.steps [(1,0),(0,1),(1,2),(1,3),(0,4),(1,5),(1,6),(0,7),(1,8),(3,9)] .leaf) (by kernel_rfl) (by kernel_rfl) ?_;(simp only[MixT6,MT.steps,stepAt,List.getD_cons_zero,List.getD_cons_succ]);replace M:=bx (M.o.drew)
          refine zNM ?_
          (repeat(first|refine zM0 ?_|(go_big_quiet_want;first|((first|((with_reducible apply AbR M.o.at2.all.has HK.o);rfl;rfl;exact zots)|refine zQAd ?_);go_big_quiet_on;refine zNM ?_)|(refine zQO ?_;go_big_quiet_on))))
          refine AcB M.o 2 (.int .i64 d) (P':=[ints .i64 (((lst k D).set u (i:Int)).set u d)]) rfl hkd FD.o LD.o rfl rfl rfl Ac5 rfl rfl rfl ?_
          intro w7 M'
          (simp only[List.set_cons_zero,List.set_cons_succ]at M')
          (replace M:=bx M';clear M')
          rw[List.set_set,Abo (f:=D)]at M
          refine zNM ?_
          refine NoPanic.normal ?_
          go_wp2_with fail
          go_roundw
          case rel=>exact⟨i,_,_,by omega,by go_num,P1,M.o⟩
          case measure=>simp[intOf]
         .simp only[if_neg hd]at P1
          rw[Abo (f:=D)]at M
          rw[Abo (f:=D)]at HK
          generalize D i=d at *
          go_wp2_with (first|go_skip|refine zLAd ?_|((with_reducible apply AaQ M.o.at2 HK.o);rfl;rfl;rfl;exact zots))
          go_roundw
          case rel=>exact⟨i,_,_,by omega,by go_num,P1,M.o⟩
          case measure=>simp[intOf]
        |false=>
         have P1:PbI N W L (i-1) C D:=by
          have h:=PF'.o
          rw[show betB N W L (C u) i=C u by rw[hc,PT2.o];rfl]at h
          simp only[if_true]at h
          rwa [Ag7,Ag7]at h
         clear PF' PT2 hc
         (go_wp2_with (first|go_skip|refine zLHd HA ?_|refine zRFd F1 ?_|refine zRFd F2 ?_|refine zLAd ?_|((with_reducible apply AaQ M.o.at1 HKC.o);rfl;rfl;rfl;exact zots)))
         go_roundw
         case rel=>exact⟨i,_,_,by omega,by go_num,P1,M.o⟩
         case measure=>simp[intOf]
def NodC(Γ:Gam)(w:World)(N:List Nod)(e:Ending)(w':World):Prop:=∃(A:Option Addr) (c:Nat) (Γ':Gam),e=.returned (.slice A N.length c)/\CapOk A N.length c/\SlG Γ' A N.length (N.flatMap nox)/\Ext Γ w Γ' w'
theorem AlQ(Γ:Gam)(x:Sl)(N:List Nod)(hb:N.length<=4096)(hpos:0<N.length)(w:World)(ok:Ok Γ w)(h:NG Γ x N) :
  Calls Tryz.prog 100 #[x.v] w (NodC Γ w N):=by
 obtain⟨g,post,hA,_⟩:=h.sl (by rw[h.n];exact hpos)
 have HV:=Aei hA
 rw[h.n]at HV
 rw[HV]
 have HM:=bx ((MM.start ok).rowNew ((Below.refl w.heap.size w).alloc (Nat.le_refl _) (.cells #[] 80)) (World.ownsRow_made (base:=w.heap.size) (e:=80) (size:=240) w #[] 0 (Nat.le_refl _) (Nat.zero_le _) rfl))
 have hsl:SlG Γ (some ⟨g,0,none⟩) N.length (N.flatMap nox):=by rw[<-hA,<-h.n];exact h.sl
 have ROW:=bx (hsl.row (size:=240) (by rw[Aah N (fun x _=>AbH x)]) HM.o.ext.ok)
 have OneN:Bx (One (N.flatMap nox)):=⟨AbM fun x _=>AbX x⟩
 have he:∀(n c:Nat) (w:World),(binOp .eql 44 (.slice (some ⟨g,0,none⟩) n c) (.slice none 0 0)).run Tryz.prog w=.ok (.bool false) w:=fun _ _ _=>rfl
 have B1:Bx (0+N.length<=maxLen):=⟨by unfold maxLen;omega⟩
 have B2:Bx ((0+N.length)*352<=140737488355328):=⟨by omega⟩
 obtain⟨n,hn⟩:∃n,N.length=n:=⟨_,rfl⟩
 have HN:=bx hn
 rw[hn]at ROW B1 B2 |-
 clear ok h hb hpos hA hn HV hsl
 go_enter Tryz.func100,Tryz.ntmps100
 go_wp2_with (at_builtin;(with_reducible refine Aae HM.o elNo (s:=.tmp 5) (x:=.tmp 6) ROW.o (fun h=>by cases h) OneN.o B1.o B2.o rfl rfl rfl rfl ?_);intro A' c' w' M';have M:=bx M';clear M')
 go_ret
 have M1:=M.o
 rw[Nat.zero_add,List.nil_append,<-HN.o]at M1
 obtain⟨Γ',h1,h2,h3,h4⟩:=M1.frz
 exact⟨A',c',Γ',by rw[HN.o];rfl,h1,h2,h4.ext⟩
theorem Aig(Γ:Gam)(x:Sl)(N:List Nod)(hb:N.length<=4096)(hpos:0<N.length)(w:World)(ok:Ok Γ w)(h:NG Γ x N) :
  Calls Tryz.prog 60 #[.agg [x.v].toArray] w (fun e w'=>∃y Γ',e=.returned (.agg [y.v].toArray)/\NG Γ' y N/\Ext Γ w Γ' w'):=by
 have M:=bx (MM.start ok)
 have CN:=bx (fun w ok=>AlQ Γ x N hb hpos w ok h)
 have HV:Bx (x.v=.slice x.A N.length x.c):=⟨by rw[<-h.n]⟩
 clear ok h hb hpos
 change Calls Tryz.prog _ #[.agg (fl [[x.v]]).toArray] _ _
 go_enter Tryz.func60,Tryz.ntmps60
 go_wp2_with (first|((first|refine zBXd ?_|refine zALd (Aa1) ?_);clear M;intro w' g M)|refine zLAd ?_)
 refine(CN.o _ M.ok).mono ?_
 rintro e1 w1 ⟨A,c,Γ1,rfl,hc,hs,hx⟩
 replace M:=bx (M.o.call hx)
 go_wp2_with (first|refine zBDd 46 [(0,.slice A N.length c)] [.slice A N.length c] (by kernel_rfl) ?_|(refine zSSd M 0 [[.slice A N.length c]] [[.slice A N.length c]] (by rfl) (Aak _ _ _) ?_;clear M;intro w' M))
 (try refine zsm ?_);refine bodyPost_ret (AbK rfl _ M.o.at0 rfl Aap rfl) rfl ?_
 exact⟨⟨A,N.length,c⟩,Γ1,rfl,⟨rfl,hc,hs⟩,M.o.ext⟩
def arP(b d t di we:Value)(st:Int):List (List Value):=[[b],[d],[t],[di],[we],[.int .i64 st]]
def arL:List Nat:=[1,1,1,1,1,1]
theorem AqC(b d t di we:Value)(st:Int):(arP b d t di we st).map List.length=arL:=rfl
theorem ztAr:ZeroT Tryz.prog 90 (arP (.slice none 0 0) (.slice none 0 0) (.slice none 0 0) (.slice none 0 0) (.slice none 0 0) 0) arL:=⟨fun w=>by kernel_rfl,rfl⟩
structure ArOk(Γ:Gam)(s:Sto)(B D:Option Addr)(y:Sl)(A2:Option Addr):Prop where
 b:SlG Γ B s.nodes.length (ints .i64 (bstL s.nodes s.wts s.lives))
 d:SlG Γ D s.nodes.length (ints .i64 (dscL s.nodes s.wts s.lives))
 t:NG Γ y s.nodes
 w:SlG Γ A2 s.nodes.length (us s.wts)
theorem ArOk.mono{Γ Γ':Gam}{s:Sto}{B D:Option Addr}{y:Sl}{A2:Option Addr}(h:ArOk Γ s B D y A2)(hl:Le Γ Γ'):ArOk Γ' s B D y A2:=⟨h.b.mono hl,h.d.mono hl,h.t.mono hl,h.w.mono hl⟩
theorem Ald{Γ0:Gam}{w0:World}{L:List Ent}{R:List RowE}(Γ:Gam)(s:Sto)(v:Sls)(k:Nat)(h:HOk Γ s v k)(g:Nat)(b d t di:Value)(A2:Option Addr)(c2:Nat)(st:Int)(w:World)(M0:MM Γ0 w0 Γ w (⟨g,arP b d t di (.slice A2 s.nodes.length c2) st,arL⟩::L) R)(h2:SlG Γ A2 s.nodes.length (us s.wts)) :
  Calls Tryz.prog 29 #[.pointer (some ⟨g,0,none⟩),.agg (fl (stP s v)).toArray] w fun e w'=>(∃u,e=.returned u)/\∃(B D:Option Addr) (cb cd:Nat) (y:Sl) (Γ':Gam),MM Γ0 w0 Γ' w' (⟨g,arP (.slice B s.nodes.length cb) (.slice D s.nodes.length cd) y.v di (.slice A2 s.nodes.length c2) (fndI s.nodes s.just.r),arL⟩::L) R/\ArOk Γ' s B D y A2/\Le Γ Γ':=by
 have M:=bx M0
 have H:=bx h
 have HS2:=bx h2
 have LL:=bx (Ada s)
 have WL:=bx (Ait s)
 have NB:=bx h.nb
 have TI0:=bx h.si.t
 have CT:=bx (fun w ok=>Aig Γ v.nodes s.nodes h.nb h.si.t.pos w ok h.g.nodes)
 clear h h2 M0
 go_enter Tryz.func29,Tryz.ntmps29
 (go_wp2_with (first|(refine zBXd ?_;clear M;intro w' g M)|refine zLAd ?_))
 refine(CT.o _ M.ok).mono ?_
 rintro e1 w1 ⟨y,Γ1,rfl,hy,hx⟩
 replace M:=bx (M.o.call hx)
 have HY:=bx hy
 have H1:=bx (H.o.mono hx.le)
 have HS3:=bx (HS2.o.mono hx.le)
 have L1:=bx hx.le
 clear hy hx H HS2 CT
 (go_wp2_with ((refine zSSd M 1 [[y.v]] (arP b d y.v di (.slice A2 s.nodes.length c2) st) (by rfl) (Aak _ _ _) ?_;clear M;intro w' M)))
 refine AaB [14] (.steps [(1,0),(1,1),(1,2),(1,3),(0,4),(1,5),(1,6),(1,7),(0,8),(0,9),(2,10),(2,11),(1,12),(1,13),(3,14)] .leaf) (by kernel_rfl) (by kernel_rfl) ?_;(simp only[MixT6,MT.steps,stepAt,List.getD_cons_zero,List.getD_cons_succ]);replace M:=bx (M.o.drew)
 refine zNM ?_
 refine zMRd ?_
 refine zMC (H1.o.live _ M.ok) Tryz.func62 ?_
 rintro e6 w6 ⟨A6,c6,Γ6,rfl,hc6,hs6,hx6⟩
 refine⟨_,rfl,hx6.bel,?_⟩
 replace M:=bx (M.o.call hx6)
 rw[LL.o]at hs6
 rw[LL.o]
 have H6:=bx (H1.o.mono hx6.le)
 have HS6:=bx hs6
 have HS4:=bx (HS3.o.mono hx6.le)
 have HY6:=bx (HY.o.mono hx6.le)
 have L6:=bx (L1.o.trans hx6.le)
 clear hc6 hs6 hx6 H1 HS3 HY L1
 refine zNM ?_
 refine zMRd ?_
 refine zMC (Akt Γ6 y s.nodes A2 A6 c2 c6 s.wts s.lives TI0.o.lk TI0.o.diff NB.o WL.o LL.o _ M.ok HY6.o HS4.o HS6.o) Tryz.func61 ?_
 rintro e7 w7 ⟨B,D,cb,cd,Γ7,rfl,hcb,hcd,hB,hD,hx7⟩
 refine⟨_,rfl,hx7.bel,?_⟩
 replace M:=bx (M.o.call hx7)
 have eb:(bstL s.nodes s.wts s.lives).length=s.nodes.length:=Aao _ _
 have ed:(dscL s.nodes s.wts s.lives).length=s.nodes.length:=Aao _ _
 rw[eb]at hB
 rw[ed]at hD
 rw[eb,ed]
 have H7:=bx (H6.o.mono hx7.le)
 have AO:=bx (ArOk.mk (s:=s) hB hD (HY6.o.mono hx7.le) (HS4.o.mono hx7.le))
 have L7:=bx (L6.o.trans hx7.le)
 clear hcb hcd hB hD hx7 H6 HS6 HS4 HY6 L6 eb ed
 refine zNM ?_
 refine zMRd ?_
 refine Aam M.o 1 (lkP (.slice B s.nodes.length cb) (.slice D s.nodes.length cd)) (arP (.slice B s.nodes.length cb) (.slice D s.nodes.length cd) y.v di (.slice A2 s.nodes.length c2) st) rfl rfl rfl rfl rtLk rfl rfl (Ad2 _ _ _ _ _ _) rfl rfl ?_
 intro w8 M'
 (simp only[List.set_cons_zero,List.set_cons_succ]at M')
 (replace M:=bx M';clear M')
 refine zNM ?_
 refine NoPanic.normal ?_
 go_wp2_with fail
 refine AaB [12] (.steps [(1,0),(1,1),(1,2),(1,3),(0,4),(1,5),(1,6),(1,7),(0,8),(2,9),(1,10),(1,11),(3,12)] .leaf) (by kernel_rfl) (by kernel_rfl) ?_;(simp only[MixT6,MT.steps,stepAt,List.getD_cons_zero,List.getD_cons_succ]);replace M:=bx (M.o.drew)
 refine zNM ?_
 refine zMRd ?_
 refine zMC (AfP Γ7 y s.nodes s.just.r _ M.ok AO.o.t NB.o) Tryz.func43 ?_
 rintro e9 w9 ⟨rfl,hx9⟩
 refine⟨_,rfl,hx9.bel,?_⟩
 replace M:=bx (M.o.call hx9)
 clear hx9
 refine zNM ?_
 refine zMRd ?_
 refine Aa6 M.o 1 (.int .i64 (fndI s.nodes s.just.r)) (arP (.slice B s.nodes.length cb) (.slice D s.nodes.length cd) y.v di (.slice A2 s.nodes.length c2) (fndI s.nodes s.just.r)) rfl rfl rfl rfl Ac5 rfl rfl rfl rfl rfl rfl ?_
 intro w7 M'
 (simp only[List.set_cons_zero,List.set_cons_succ]at M')
 (replace M:=bx M';clear M')
 refine zNM ?_
 refine NoPanic.normal ?_
 go_wp2_with fail
 go_end0
 exact⟨⟨_,rfl⟩,B,D,cb,cd,y,Γ7,M.o.tail,AO.o,L7.o⟩
def ArrP(Γ:Gam)(w:World)(s:Sto)(e:Ending)(w':World):Prop:=∃(g:Nat) (B D:Option Addr) (cb cd:Nat) (y:Sl) (di:Value) (A2:Option Addr) (c2:Nat) (Γ':Gam),e=.returned (.pointer (some ⟨g,0,none⟩))/\Γ' g=some (fl (arP (.slice B s.nodes.length cb) (.slice D s.nodes.length cd) y.v di (.slice A2 s.nodes.length c2) (fndI s.nodes s.just.r)))/\ArOk Γ' s B D y A2/\Ext Γ w Γ' w'
theorem Ajh(Γ:Gam)(s:Sto)(v:Sls)(k:Nat)(h:HOk Γ s v k)(w:World)(ok:Ok Γ w) :
  Calls Tryz.prog 8 #[.agg (fl (stP s v)).toArray] w (ArrP Γ w s):=by
 have M:=bx (MM.start ok)
 have H:=bx h
 have hw:=h.si.wok h.k
 have nx:=h.g.nodes.n
 have DI:=bx (fun w ok=>AfQ Γ s v k h.si h.k w ok h.g)
 have DL:=bx (Ao9 hw.sm)
 have SU:Bx (∀(A:Option Addr) (c:Nat) w,Ok Γ w->Old.U64 s.db->Old.URow w A s.nodes.length s.db->Calls Tryz.prog 28 #[.agg #[v.nodes.v],.slice A s.nodes.length c] w (Old.UN s.nodes.length (subL (upsN s.nodes) s.nodes.length s.db) w)):=⟨fun A c w ok hd hr=>by
  have a1:=NG.nrow (x:=v.nodes) h.g.nodes ok
  rw[nx]at a1
  rw[show v.nodes.v=.slice v.nodes.A s.nodes.length v.nodes.c by rw[<-nx]]
  have:=Aeq v.nodes.A A s.nodes.length v.nodes.c c (s.nodes.map toNd) s.db hd (by rw[Abx];exact hw.lk) hw.nb hw.pos w a1 hr
  rw[Abx,Aln hw.lk (by rw[AcE]) hw.pos hd DL.o]at this
  exact this⟩
 have WL:=bx (Alb s)
 clear ok h hw nx DL
 go_enter Tryz.func8,Tryz.ntmps8
 (go_wp2_with (first|(refine zBXd ?_;clear M;intro w' g M)|refine zLAd ?_))
 refine(DI.o _ M.ok).mono ?_
 rintro e5 w5 ⟨A5,c5,rfl,hu5,hr5,hx5⟩
 replace M:=bx (M.o.below hx5)
 have HU5:=bx hu5
 have HR5:=bx hr5
 clear hu5 hr5 hx5 DI
 go_wp2_with (first|refine zBDd 90 [(2,.slice A5 s.nodes.length c5)] [.slice none 0 0,.slice none 0 0,.slice none 0 0,.slice A5 s.nodes.length c5,.slice none 0 0,.int .i64 0] (by kernel_rfl) ?_|((with_reducible apply Acm M.o (P:=arP (.slice none 0 0) (.slice none 0 0) (.slice none 0 0) (.slice A5 s.nodes.length c5) (.slice none 0 0) 0) (ls:=arL));rfl;rfl;rfl;exact AqC _ _ _ _ _ _;intro w' g M' hb';have HB7:=bx hb'.1;clear hb';(replace M:=bx M';clear M');refine zNM ?_))
 have HR7:=bx (Old.URow.below HR5.o HB7.o)
 clear HR5 HB7
 refine AaB [10] (.steps [(1,0),(1,1),(0,2),(1,3),(1,4),(1,5),(0,6),(2,7),(1,8),(1,9),(3,10)] .leaf) (by kernel_rfl) (by kernel_rfl) ?_;(simp only[MixT6,MT.steps,stepAt,List.getD_cons_zero,List.getD_cons_succ]);replace M:=bx (M.o.drew)
 refine zNM ?_
 refine zMRd ?_
 refine zMC (SU.o A5 c5 _ M.ok HU5.o HR7.o) Tryz.func28 ?_
 rintro e6 w6 ⟨g6,c6,rfl,hu6,hl6,hg6,hc6,⟨post,hh⟩,hx6⟩
 refine⟨_,rfl,hx6,?_⟩
 replace M:=bx (M.o.newRow hx6 hg6 (P:=[ints .u64 (subL (upsN s.nodes) s.nodes.length s.db),post]) (ls:=[(ints .u64 (subL (upsN s.nodes) s.nodes.length s.db)).length,post.length]) (by simpa [fl]using hh) rfl)
 have HU6:=bx hu6
 clear hu6 hl6 hg6 hc6 hh hx6 SU HR7 HU5
 refine zNM ?_
 refine zMRd ?_
 refine Aa6 M.o 1 (.slice (some ⟨g6,0,none⟩) s.nodes.length c6) (arP (.slice none 0 0) (.slice none 0 0) (.slice none 0 0) (.slice A5 s.nodes.length c5) (.slice (some ⟨g6,0,none⟩) s.nodes.length c6) 0) rfl rfl rfl rfl (by exact zots) rfl rfl rfl rfl rfl rfl ?_
 intro w8 M'
 (simp only[List.set_cons_zero,List.set_cons_succ]at M')
 (replace M:=bx M';clear M')
 refine zNM ?_
 refine NoPanic.normal ?_
 obtain⟨Γ',h1,h2,h3⟩:=M.o.frzL
 have HS:Bx (SlG Γ' (some ⟨g6,0,none⟩) s.nodes.length (us s.wts)):=⟨fun _=>⟨g6,post,rfl,by rw[WL.o,Alf HU6.o];simpa [fl]using h1⟩⟩
 have H1:=bx (H.o.mono h2)
 clear M
 have M:=bx h3
 clear h1 h2 h3 H HU6 WL
 (go_wp2_with (refine zLAd ?_))
 refine(Ald Γ' s v k H1.o _ _ _ _ _ (some ⟨g6,0,none⟩) c6 0 _ M.o HS.o).mono ?_
 rintro e9 w9 ⟨⟨u,rfl⟩,B,D,cb,cd,y,Γ9,hM,hA,hl⟩
 clear M
 have M:=bx hM
 have HA:=bx hA
 clear hM hA hl HS H1
 refine zNM ?_
 (go_wp2_with (fail))
 go_ret
 obtain⟨Γz,z1,z2,z3⟩:=M.o.frzL
 exact⟨_,B,D,cb,cd,y,_,_,c6,Γz,rfl,z1,HA.o.mono z2,z3.ext⟩
theorem AmT(l:List Int):ints .i64 l=l.flatMap fun u=>[.int .i64 u]:=by
 induction l with
 |nil=>rfl
 |cons a t ih=>rw[List.flatMap_cons,<-ih];rfl
theorem Acc{Γ:Gam}{A:Option Addr}{l:List Int}(h:SlG Γ A l.length (ints .i64 l))(i:Nat)(hi:i<l.length):∃g,A=some ⟨g,0,none⟩/\Chk Γ g i (fl [[.int .i64 l[i]]]):=by
 rw[AmT]at h
 obtain⟨g,h1,h2⟩:=h.at (k:=1) (fun x _=>rfl) rfl i hi
 exact⟨g,h1,by rw[Nat.mul_one]at h2;exact h2⟩
theorem AnS{Γ:Gam}{g:Nat}{b d t di we:Value}{st:Int}(h:Γ g=some (fl (arP b d t di we st))):Fz Γ g 0 (arP b d t di we st) arL:=⟨⟨_,h,fun j u hu=>by rw[Nat.zero_add];exact hu⟩,rfl⟩
def nthI(l:List Int)(d:Int)(i:Int):Int:=if 0<=i/\i<(l.length:Int)then l.getD i.toNat 0 else d
theorem Afc{l:List Int}{d:Int}{i:Nat}(h:i<l.length):nthI l d (i:Int)=l[i]:=by
 unfold nthI;rw[if_pos ⟨by omega,by omega⟩,Int.toNat_natCast];simp[List.getD,List.getElem?_eq_getElem h]
theorem Acb{l:List Int}{d:Int}{i:Int}(h:i<0\/(l.length:Int)<=i):nthI l d i=d:=by
 unfold nthI;rw[if_neg (by omega)]
theorem AeB(Γ:Gam)(g b0:Nat)(B D:Option Addr)(cb cd:Nat)(t di we:Value)(st:Int)(X Y:List Int)(hXY:Y.length=X.length)(i:Int)(w:World)(ok:Ok Γ w)(hF:Fz Γ g b0 (arP (.slice B X.length cb) (.slice D X.length cd) t di we st) arL)(hX:SlG Γ B X.length (ints .i64 X))(hY:SlG Γ D X.length (ints .i64 Y)) :
  Calls Tryz.prog 32 #[.pointer (some ⟨g,b0,none⟩),.int .i64 i] w fun e w'=>e=.returned (.tuple #[.int .i64 (nthI X (-1) i),.int .i64 (nthI Y (-1) i)])/\Ext Γ w Γ w':=by
 have M:=bx (MM.start ok)
 have F:=bx hF
 have HX:=bx hX
 have HY:Bx (SlG Γ D Y.length (ints .i64 Y)):=⟨by rw[hXY];exact hY⟩
 have HL:=bx hXY
 clear ok hF hX hY hXY
 rcases Int.lt_or_le i 0 with h0|h0
 .have e1:=bx (Acb (l:=X) (d:=-1) (i:=i) (.inl h0))
  have e2:=bx (Acb (l:=Y) (d:=-1) (i:=i) (.inl h0))
  go_enter Tryz.func32,Tryz.ntmps32
  (go_wp2_with (fail))
  go_ret2
  exact⟨by rw[e1.o,e2.o];rfl,M.o.ext⟩
 .obtain⟨k,rfl⟩:∃k:Nat,i=(k:Int):=⟨i.toNat,by omega⟩
  by_cases h1:k<X.length
  .have e1:=bx (Afc (d:=-1) h1)
   have h2:k<Y.length:=by rw[HL.o];exact h1
   have e2:=bx (Afc (d:=-1) h2)
   obtain⟨gb,rfl,hb⟩:=Acc HX.o k h1
   obtain⟨gd,rfl,hd⟩:=Acc HY.o k h2
   have FB:Bx (Fz Γ gb k [[.int .i64 X[k]]] [1]):=⟨hb,rfl⟩
   have FD:Bx (Fz Γ gd k [[.int .i64 Y[k]]] [1]):=⟨hd,rfl⟩
   have hki:(k:Int)<(X.length:Int):=by omega
   clear hb hd HX HY HL
   generalize X[k]=xk at *
   generalize Y[k]=yk at *
   go_enter Tryz.func32,Tryz.ntmps32
   (go_wp2_with (refine zRFd F ?_))
   refine AaB [] (.steps [(1,0),(1,1),(1,2),(1,3),(0,4),(1,5),(1,6),(0,7),(1,8),(1,9),(1,10),(1,11),(0,12),(1,13),(1,14),(0,15),(1,16),(1,17)] .leaf) (by kernel_rfl) (by kernel_rfl) ?_;(simp only[MixT6,MT.steps,stepAt,List.getD_cons_zero,List.getD_cons_succ]);replace M:=bx (M.o.drew)
   (repeat(first|refine zM0 ?_|(go_big_quiet_want;first|((first|refine zQFd F ?_|refine zQFd FB ?_|refine zQFd FD ?_);go_big_quiet_on;refine zNM ?_)|(refine zQO ?_;go_big_quiet_on))))
   refine NoPanic.normal ?_
   go_wp2_with fail
   go_ret2
   exact⟨by rw[e1.o,e2.o];rfl,M.o.ext⟩
  .have e1:=bx (Acb (l:=X) (d:=-1) (i:=(k:Int)) (.inr (by omega)))
   have e2:=bx (Acb (l:=Y) (d:=-1) (i:=(k:Int)) (.inr (by rw[HL.o];omega)))
   have hki:(X.length:Int)<=(k:Int):=by omega
   clear HX HY HL h1
   go_enter Tryz.func32,Tryz.ntmps32
   (go_wp2_with (refine zRFd F ?_))
   go_ret2
   exact⟨by rw[e1.o,e2.o];rfl,M.o.ext⟩
theorem Ais(Γ:Gam)(g b0:Nat)(B D:Option Addr)(cb cd:Nat)(t di we:Value)(st:Int)(X Y:List Int)(hXY:Y.length=X.length)(w:World)(ok:Ok Γ w)(hF:Fz Γ g b0 (arP (.slice B X.length cb) (.slice D X.length cd) t di we st) arL)(hX:SlG Γ B X.length (ints .i64 X))(hY:SlG Γ D X.length (ints .i64 Y)) :
  Calls Tryz.prog 33 #[.pointer (some ⟨g,b0,none⟩)] w fun e w'=>e=.returned (.int .i64 (if 0<=nthI Y (-1) st then nthI Y (-1) st else st))/\Ext Γ w Γ w':=by
 have M:=bx (MM.start ok)
 have F:=bx hF
 have BO:=bx (fun w ok=>AeB Γ g b0 B D cb cd t di we st X Y hXY st w ok hF hX hY)
 clear ok hF hX hY hXY
 generalize nthI X (-1) st=xs at *
 generalize nthI Y (-1) st=ys at *
 obtain⟨z,hz⟩:∃z,z=(if 0<=ys then ys else st):=⟨_,rfl⟩
 rw[<-hz]
 have HZ:=bx hz
 clear hz
 go_enter Tryz.func33,Tryz.ntmps33
 (go_wp2_with (refine zRFd F ?_))
 refine zCA M (BO.o _ M.ok) ?_;clear M;intro w1 M
 refine zNM ?_
 by_cases h:0<=ys
 .have HE:Bx (z=ys):=⟨by rw[HZ.o,if_pos h]⟩
  (go_wp2_with (fail))
  go_ret
  exact⟨by rw[HE.o];rfl,M.o.ext⟩
 .have HE:Bx (z=st):=⟨by rw[HZ.o,if_neg h]⟩
  (go_wp2_with (refine zRFd F ?_))
  go_ret
  exact⟨by rw[HE.o];rfl,M.o.ext⟩
theorem AgH(Γ:Gam)(g b0:Nat)(b d t di:Value)(A2:Option Addr)(c2:Nat)(st:Int)(W:List U)(i:Int)(w:World)(ok:Ok Γ w)(hF:Fz Γ g b0 (arP b d t di (.slice A2 W.length c2) st) arL)(h2:SlG Γ A2 W.length (us W)) :
  Calls Tryz.prog 34 #[.pointer (some ⟨g,b0,none⟩),.int .i64 i] w fun e w'=>e=.returned (.int .u64 (if 0<=i/\i<(W.length:Int)then((W.getD i.toNat u0).n:Int)else 0))/\Ext Γ w Γ w':=by
 have M:=bx (MM.start ok)
 have F:=bx hF
 have H2:=bx h2
 clear ok hF h2
 obtain⟨z,hz⟩:∃z:Int,z=(if 0<=i/\i<(W.length:Int)then((W.getD i.toNat u0).n:Int)else 0):=⟨_,rfl⟩
 rw[<-hz]
 have HZ:=bx hz
 clear hz
 rcases Int.lt_or_le i 0 with h0|h0
 .have HE:Bx (z=0):=⟨by rw[HZ.o,if_neg (by omega)]⟩
  go_enter Tryz.func34,Tryz.ntmps34
  (go_wp2_with (fail))
  go_ret
  exact⟨by rw[HE.o];rfl,M.o.ext⟩
 .obtain⟨k,rfl⟩:∃k:Nat,i=(k:Int):=⟨i.toNat,by omega⟩
  by_cases h1:k<W.length
  .have hp:0<=(k:Int)/\(k:Int)<(W.length:Int):=⟨h0,by omega⟩
   obtain⟨gb,rfl,hb⟩:=Agd H2.o k h1
   have FB:Bx (Fz Γ gb k [[.int .u64 (W[k].n:Int)]] [1]):=⟨hb,rfl⟩
   have hki:(k:Int)<(W.length:Int):=by omega
   have e:Bx (((W.getD ((k:Nat):Int).toNat u0).n:Int)=(W[k].n:Int)):=⟨by rw[Int.toNat_natCast];simp[List.getD,List.getElem?_eq_getElem h1]⟩
   have HE:Bx (z=(W[k].n:Int)):=⟨by rw[HZ.o,if_pos hp,e.o]⟩
   clear hb H2 hp e
   go_enter Tryz.func34,Tryz.ntmps34
   (go_wp2_with (first|refine zRFd F ?_|refine zRFd FB ?_))
   go_ret
   exact⟨by rw[HE.o];rfl,M.o.ext⟩
  .have hn:¬(0<=(k:Int)/\(k:Int)<(W.length:Int)):=by omega
   have HE:Bx (z=0):=⟨by rw[HZ.o,if_neg hn]⟩
   have hki:(W.length:Int)<=(k:Int):=by omega
   clear H2 hn h1
   go_enter Tryz.func34,Tryz.ntmps34
   (go_wp2_with (refine zRFd F ?_))
   go_ret
   exact⟨by rw[HE.o];rfl,M.o.ext⟩
end Go.Proofs.YtpaihpeoiliioaaGreat
