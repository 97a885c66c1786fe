/- Texts joined: what the walks of this claim stand on (part 21). -/
import Derived.Test.YtpaihpeoiliioaaLK17
import Derived.Test.YtpaihpeoiliioaaLK20
set_option linter.all false
set_option maxRecDepth 20000
set_option maxHeartbeats 40000000
namespace Go.Proofs.Ytpaihpeoiliioaa
open Go.RowKit Old
def fmF(m k:Nat):Int:=if k<m then -1 else 0
theorem AkY(n m:Nat):(lst n (fmF m)).set m (-1)=lst n (fmF (m+1)):=by
 rw[Aa0]
 refine AaZ fun k _=>?_
 unfold fmF
 by_cases h:k=m
 .rw[if_pos h,if_pos (by omega)]
 .rw[if_neg h]
  by_cases h2:k<m
  .rw[if_pos h2,if_pos (by omega)]
  .rw[if_neg h2,if_neg (by omega)]
theorem Akp{N:List Nod}{W:List U}{L:List Bool}{b:Int}{c:Nat}(h:L.getD c false=false):betB N W L b c=b:=by
 unfold betB;rw[if_neg (fun h'=>by rw[h]at h';cases h'.1)]
theorem AjT{N:List Nod}{W:List U}{L:List Bool}{c:Nat}(h:L.getD c false=true):betB N W L (-1) c=(c:Int):=by
 unfold betB;rw[if_pos ⟨h,.inl (by decide)⟩]
theorem Aei(C:Nat->Int)(u:Nat):(fun k=>if k=u then C u else C k)=C:=funext fun k=>by
 by_cases h:k=u
 .subst h;rw[if_pos rfl]
 .rw[if_neg h]
theorem Ag0(Γ:Gam)(x:Sl)(N:List Nod)(A2 A3:Option Addr)(c2 c3:Nat)(W:List U)(L:List Bool)(hk:Lk (upsN N))(hdd:∀i j (hi:i<N.length) (hj:j<N.length),N[i].b.root=N[j].b.root->i=j)(hb:N.length<=4096)(hW:W.length=N.length)(hL:L.length=N.length)(w:World)(ok:Ok Γ w)(h:NG Γ x N)(h2:SlG Γ A2 N.length (us W))(h3:SlG Γ A3 N.length (bls L)) :
  Calls Try.prog 6 #[.agg [x.v].toArray,.slice A2 N.length c2,.slice A3 N.length c3] w (LksP Γ w (bstL N W L) (dscL N W L)):=by
 have M:=bx (MM.start ok)
 have BT:=bx (fun a b ha hb w ok=>Afs Γ x N A2 c2 W a b hW ha hb w ok h h2)
 have HG:=bx h
 have LN:=bx h.n
 have HLL:=bx hL
 have H3:Bx (SlG Γ A3 L.length (bls L)):=⟨by rw[hL];exact h3⟩
 have PS:=bx (PbI.start (N:=N) (W:=W) (L:=L) hk)
 have PF:=bx (fun(i u:Nat) (C D:Nat->Int) (h:PbI N W L i C D) (hi:i<N.length) (h0:0<i) (hu:(N.getD i n0).up=(u:Int))=>PbI.step hk hdd (i:=i) (u:=u) h hi h0 (by rw[<-nget hi];exact hu))
 have PD:=bx (fun(C D:Nat->Int) (h:PbI N W L 0 C D) (u:Nat) hu=>h.done hk hdd (u:=u) hu)
 have UP:Bx (∀i,i<N.length->0<i->∃u:Nat,u<i/\(N.getD i n0).up=(u:Int)):=⟨fun i hi h0=>by
  rw[nget hi]
  rcases hk i (by simp[upsN];exact hi)with⟨h1,_⟩|⟨u,h1,h2⟩
  .omega
  .exact⟨u,h1,by rw[<-h2];simp[upsN,List.getD,List.getElem?_eq_getElem hi]⟩⟩
 have PK:Bx (∀i u C D,PbI N W L i C D->u<N.length->C u = -1\/∃k,i<k/\k<N.length/\C u=(k:Int)):=⟨fun i u C D h hu=>by
  rcases h.c u hu with⟨h1,_⟩|⟨k,h1,h2,_⟩
  .exact .inl h1
  .obtain⟨h3,h4⟩:=List.mem_filter.1 h2
   exact .inr ⟨k,of_decide_eq_true h4,(AcS h3).1,h1⟩⟩
 have BB:Bx (∀c k:Nat,L.getD c false=true->betB N W L (k:Int) c=if betC N W c k=true then(c:Int)else(k:Int)):=⟨fun c k hl=>Aib hl⟩
 have BZ:Bx (bstL N W L=lst N.length (fun k=>bestI N W L (k:Int))/\dscL N W L=lst N.length (fun k=>dsc N W L (k:Int))):=⟨rfl,rfl⟩
 obtain⟨n,hn⟩:∃n,N.length=n:=⟨_,rfl⟩
 have HV:Bx (x.v=.slice x.A n x.c):=⟨by rw[<-hn,<-h.n]⟩
 have HN:=bx hn
 have HN1:Bx (8*n<=281474976710656):=⟨by omega⟩
 have HN2:Bx (n<=9223372036854775807):=⟨by omega⟩
 have hnb:n<=4096:=by omega
 have hwr:IntKind.i64.wrap ((n:Int)-1)=(n:Int)-1:=IntWalk.i64_in _ (by omega)
 have Z1:Bx (ints .i64 (lst n fun _=>0)=ints .i64 (lst n (fmF 0))):=⟨by rw[AaZ (g:=fmF 0) (fun k hk=>by unfold fmF;rw[if_neg (by omega)])]⟩
 have Z2:Bx (lst n (fmF n)=lst n fun _=>-1):=⟨AaZ fun k hk=>by unfold fmF;rw[if_pos hk]⟩
 have FS:=bx (fun m=>AkY n m)
 rw[hn]at BT PS PF PD UP PK BZ LN |-
 clear ok h h2 h3 hb hW hL hk hn hdd
 change Calls Try.prog _ #[.agg (fl [[x.v]]).toArray,_,_] _ _
 go_enter Try.func6,Try.ntmps6
 go_upto_region 2 with(first|go_skip|((refine zBXd ?_;clear M;intro w' g M);(obtain⟨g3,hg0⟩:∃y,y=g:=⟨_,rfl⟩);subst hg0)|((refine zALd (ztLk) ?_;clear M;intro w' g M);(obtain⟨g6,hg0⟩:∃y,y=g:=⟨_,rfl⟩);subst hg0)|refine zLHd HV ?_|refine zLAd ?_)
 go_cut [8]from 16 (fun s8 wx=>∃g8 ga gb,s8=.pointer (some ⟨g8,0,none⟩)/\MM Γ w Γ wx [⟨g8,lkP (.slice (some ⟨ga,0,none⟩) n n) (.slice (some ⟨gb,0,none⟩) n n),[1,1]⟩,⟨ga,[ints .i64 (lst n (fmF 0))],[n]⟩,⟨gb,[ints .i64 (lst n (fmF 0))],[n]⟩,⟨g6,lkP (.slice none 0 0) (.slice none 0 0),[1,1]⟩,⟨g3,[[x.v]],[1]⟩] [])
 case first=>
  go_wp2_with fail
  refine AaK [6] (.steps [(1,0),(1,2)] (.fork3 1 (.fork 3 (.steps [(1,4),(2,5),(3,6)] .leaf) 5 (.steps [(2,3),(1,4),(3,6)] .leaf)) 3 (.fork 1 (.steps [(1,4),(2,5),(3,6)] .leaf) 5 (.steps [(2,1),(1,4),(3,6)] .leaf)) 5 (.fork 1 (.steps [(2,3),(1,4),(3,6)] .leaf) 3 (.steps [(2,1),(1,4),(3,6)] .leaf)))) (by kernel_rfl) (by kernel_rfl) ?_;(simp only[MixT6,MT.steps,stepAt,List.getD_cons_zero,List.getD_cons_succ]);replace M:=bx (M.o.drew)
  refine zNM ?_
  refine zMRd ?_
  refine⟨?_,?_,?_⟩
  all_goals (first|(refine AaF (AdK Ait n HN1.o HN2.o rfl rfl rfl) rfl ?_;refine⟨ext_alloc _ _,?_⟩;rw[AgN n (fun _=>0) (fun _ _=>rfl)];replace M:=bx (M.o.alloc (P:=[ints .i64 (lst n fun _=>0)]) (ls:=[n]) (by simp[Aa1]) rfl 3);(obtain⟨ga,hg0⟩:=AfL M.o);rw[<-hg0]at M |-;clear hg0;refine zNM ?_)|(refine AaF (Aaa rfl ztLk) rfl ?_;refine⟨ext_alloc _ _,?_⟩;replace M:=bx (M.o.alloc (P:=lkP (.slice none 0 0) (.slice none 0 0)) (ls:=[1,1]) rfl rfl 33);(obtain⟨g8,hg0⟩:=AfL M.o);rw[<-hg0]at M |-;clear hg0;refine zNM ?_))
  all_goals refine⟨?_,?_⟩
  all_goals (repeat(first|(with_reducible refine wpQuiet_nil ?_)|(go_big_quiet_want;(with_reducible apply AaJ 33 _ rfl _ _ rfl);exact Agq _ _ _ _ _ _;go_big_quiet_on;refine zNM ?_)|(refine AaF (AdK Ait n HN1.o HN2.o rfl rfl rfl) rfl ?_;refine⟨ext_alloc _ _,?_⟩;rw[AgN n (fun _=>0) (fun _ _=>rfl)];replace M:=bx (M.o.alloc (P:=[ints .i64 (lst n fun _=>0)]) (ls:=[n]) (by simp[Aa1]) rfl 3);(obtain⟨ga,hg0⟩:=AfL M.o);rw[<-hg0]at M |-;clear hg0;refine zNM ?_)|(refine AaF (Aaa rfl ztLk) rfl ?_;refine⟨ext_alloc _ _,?_⟩;replace M:=bx (M.o.alloc (P:=lkP (.slice none 0 0) (.slice none 0 0)) (ls:=[1,1]) rfl rfl 33);(obtain⟨g8,hg0⟩:=AfL M.o);rw[<-hg0]at M |-;clear hg0;refine zNM ?_)|((first|refine Aax M.o 0 _ (lkP (.slice (some ⟨_,0,none⟩) n n) (.slice (some ⟨_,0,none⟩) n n)) rfl rfl rfl rfl rtLk rfl rfl (Acm _ _ _ _ _ _) rfl rfl ?_|refine Aax M.o 1 _ (lkP (.slice (some ⟨_,0,none⟩) n n) (.slice (some ⟨_,0,none⟩) n n)) rfl rfl rfl rfl rtLk rfl rfl (Acm _ _ _ _ _ _) rfl rfl ?_|refine Aax M.o 2 _ (lkP (.slice (some ⟨_,0,none⟩) n n) (.slice (some ⟨_,0,none⟩) n n)) rfl rfl rfl rfl rtLk rfl rfl (Acm _ _ _ _ _ _) rfl rfl ?_);intro w7 M';(simp only[List.set_cons_zero,List.set_cons_succ]at M');(replace M:=bx M';clear M');refine zNM ?_;refine NoPanic.normal ?_;go_wp2_with fail;go_meet)))
  all_goals exact⟨_,_,_,rfl,by rw[<-Z1.o];(first|exact M.o|exact M.o.perm (.swap _ _ _)|exact M.o.perm (.cons _ (.swap _ _ _))|exact M.o.perm ((List.Perm.cons _ (.swap _ _ _)).trans (.swap _ _ _))|exact M.o.perm ((List.Perm.swap _ _ _).trans (.cons _ (.swap _ _ _)))|exact M.o.perm ((List.Perm.swap _ _ _).trans ((List.Perm.cons _ (.swap _ _ _)).trans (.swap _ _ _))))⟩
 case rest=>
  obtain⟨g8,ga,gb,rfl,hM⟩:=hcut
  clear M
  have M:=bx hM
  clear hM Z1
  go_wp2_with fail
  go_loopw [9,22] (fun _ j wr=>∃m:Nat,m<=n/\j=.int .i64 (m:Int)/\MM Γ w Γ wr [⟨g8,lkP (.slice (some ⟨ga,0,none⟩) n n) (.slice (some ⟨gb,0,none⟩) n n),[1,1]⟩,⟨ga,[ints .i64 (lst n (fmF m))],[n]⟩,⟨gb,[ints .i64 (lst n (fmF m))],[n]⟩,⟨g6,lkP (.slice none 0 0) (.slice none 0 0),[1,1]⟩,⟨g3,[[x.v]],[1]⟩] []) (fun _ j _=>n-(intOf j).toNat)
  case atStart=>exact⟨0,Nat.zero_le _,rfl,M.o⟩
  case round=>
   obtain⟨k,hkn,rfl,hM⟩:=hrel
   clear M
   have M:=bx hM
   clear hM
   by_cases hkl:k<n
   .have hki:(k:Int)<(n:Int):=by omega
    have hk0:0<=(k:Int):=by omega
    have hkb:k<(fl [ints .i64 (lst n (fmF k))]).length:=by rw[fl1,Aa1];exact hkl
    have FSk:=bx (FS.o k)
    have FB:Bx (fl [ints .i64 ((lst n (fmF k)).set k (-1))]=(fl [ints .i64 (lst n (fmF k))]).set k (.int .i64 (-1))):=⟨AeA _ _ _⟩
    have LB:Bx (([ints .i64 ((lst n (fmF k)).set k (-1))]:List (List Value)).map List.length = [n]):=⟨by simp[ints_len,AaQ]⟩
    go_wp2_with fail
    refine Aai (fun w'=>HL w' g8 (lkP (.slice (some ⟨ga,0,none⟩) n n) (.slice (some ⟨gb,0,none⟩) n n)) [1,1]) (.steps [(1,0),(0,1),(1,2),(1,3),(0,4),(1,5),(1,6),(3,7),(1,8),(3,9)] .leaf) (by kernel_rfl) (by kernel_rfl) M.o.drew.at0 ?_;(simp only[MixT7,MT.steps,stepI,List.getD_cons_zero,List.getD_cons_succ]);replace M:=bx (M.o.drew)
    refine zNM ?_
    (repeat(first|refine zM0 ?_|(go_big_quiet_want;first|(refine zQL (fun _ h=>h) (Ael _ _) ?_;go_big_quiet_on;refine zNM ?_)|(refine zQO ?_;go_big_quiet_on))))
    refine AbG M.o 1 (.int .i64 (-1)) (P':=[ints .i64 ((lst n (fmF k)).set k (-1))]) rfl hkb FB.o LB.o rfl rfl rfl AcU rfl rfl rfl ?_
    intro w7 M'
    (simp only[List.set_cons_zero,List.set_cons_succ]at M')
    (replace M:=bx M';clear M')
    refine⟨M.o.at0,?_⟩
    refine zNM ?_
    refine zMR7 ?_
    refine AbG M.o 2 (.int .i64 (-1)) (P':=[ints .i64 ((lst n (fmF k)).set k (-1))]) rfl hkb FB.o LB.o rfl rfl rfl AcU rfl rfl rfl ?_
    intro w8 M'
    (simp only[List.set_cons_zero,List.set_cons_succ]at M')
    (replace M:=bx M';clear M')
    rw[FSk.o]at M
    refine⟨M.o.at0,?_⟩
    refine zNM ?_
    refine NoPanic.normal ?_
    go_wp2_with fail
    go_roundw
    case rel=>exact⟨k+1,by omega,by go_num,M.o⟩
    case measure=>simp[intOf];omega
   .have hki:(n:Int)<=(k:Int):=by omega
    obtain rfl:k=n:=by omega
    rw[Z2.o]at M
    go_wp2_with fail
    go_loopw [10,11,12] (fun i _ _ wr=>∃(m:Nat) (C D:Nat->Int),m<=k/\i=.int .i64 ((m:Int)-1)/\PbI N W L (m-1) C D/\MM Γ w Γ wr [⟨g8,lkP (.slice (some ⟨ga,0,none⟩) k k) (.slice (some ⟨gb,0,none⟩) k k),[1,1]⟩,⟨ga,[ints .i64 (lst k C)],[k]⟩,⟨gb,[ints .i64 (lst k D)],[k]⟩,⟨g6,lkP (.slice none 0 0) (.slice none 0 0),[1,1]⟩,⟨g3,[[x.v]],[1]⟩] []) (fun i _ _ _=>(intOf i+1).toNat)
    case atStart=>exact⟨k,_,_,Nat.le_refl _,by first|rfl|(rw[hwr];rfl),PS.o,M.o⟩
    case round=>
     obtain⟨m,C,D,hm,rfl,hP,hM⟩:=hrel
     clear M
     have M:=bx hM
     clear hM
     by_cases h1:m<=1
     .have hP0:PbI N W L 0 C D:=by
       have e:m-1=0:=by omega
       rwa [e]at hP
      obtain⟨z,hz⟩:∃z,(m:Int)-1=z:=⟨_,rfl⟩
      have hz0:z<=0:=by omega
      rw[hz]
      clear hz hP hm h1
      go_wp2_with (first|(((with_reducible refine Afd ?_);((with_reducible apply AbV);rfl;rfl;rfl);((with_reducible apply LdAt.ps M.o.at0.one);exact rtLk;rfl;(try simp only[List.drop_zero]));refine zNM ?_))|((with_reducible apply AcG M.o 3 (lkP (.slice (some ⟨ga,0,none⟩) k k) (.slice (some ⟨gb,0,none⟩) k k)) (lkP (.slice (some ⟨ga,0,none⟩) k k) (.slice (some ⟨gb,0,none⟩) k k)));rfl;rfl;rfl;rfl;rfl;exact rtLk;rfl;rfl;exact Acm _ _ _ _ _ _;rfl;intro w' M' hg';(simp only[List.set_cons_zero,List.set_cons_succ]at M');(replace M:=bx M';clear M');clear hg';refine zNM ?_))
      obtain⟨Γ1,a1,a2,M1⟩:=(M.o.perm (.swap _ _ _)).frzS k
      obtain⟨Γ2,b1,b2,M2⟩:=(M1.perm (.swap _ _ _)).frzS k
      (try refine zsm ?_);refine bodyPost_ret (Ab8 rfl _ M2.at1 rfl rtLk rfl) rfl ?_
      unfold LksP
      rw[BZ.o.1,BZ.o.2,<-AaZ (f:=C) (fun u hu=>(PD.o C D hP0 u hu).1),<-AaZ (f:=D) (fun u hu=>(PD.o C D hP0 u hu).2)]
      refine⟨some ⟨ga,0,none⟩,some ⟨gb,0,none⟩,k,k,Γ2,by rw[AaQ,AaQ],?_,?_,?_,?_,M2.ext⟩
      .rw[AaQ];exact⟨Nat.le_refl _,by unfold maxLen;omega,fun h=>by cases h⟩
      .rw[AaQ];exact⟨Nat.le_refl _,by unfold maxLen;omega,fun h=>by cases h⟩
      .rw[AaQ];exact a1.mono b2
      .rw[AaQ];exact b1
     .obtain⟨i,rfl⟩:∃i,m=i+1:=⟨m-1,by omega⟩
      have hkk:((i+1:Nat):Int)-1=(i:Int):=by omega
      rw[hkk]
      rw[Nat.add_sub_cancel]at hP
      have hin:i<k:=by omega
      have h0:0<i:=by omega
      have hii:(i:Int)<(k:Int):=by omega
      have hi0:0<=(i:Int):=by omega
      have hi1:0<(i:Int):=by omega
      have hwk:IntKind.i64.wrap ((i:Int)-1)=(i:Int)-1:=IntWalk.i64_in _ (by omega)
      obtain⟨u,hui,hu⟩:=UP.o i hin h0
      have hun:u<k:=by omega
      have huu:(u:Int)<(k:Int):=by omega
      have hu0:0<=(u:Int):=by omega
      have PF':=bx (PF.o i u C D hP hin h0 hu)
      have PK':=PK.o i u C D hP hun
      have hiN:i<N.length:=by rw[HN.o];exact hin
      rw[nget hiN]at hu
      obtain⟨gt,hA,hf⟩:=SlR.fz (f:=noP) (k:=240) HG.o AaG rfl i hiN
      rw[LN.o]at hA
      have HA:=bx hA
      have F1:=bx hf
      have hcL:i<L.length:=by rw[HLL.o];exact hiN
      obtain⟨g3',rfl,hf3⟩:=AiZ H3.o i hcL
      have F2:Bx (Fz Γ g3' i [[.bool L[i]]] [1]):=⟨hf3,rfl⟩
      have gL:L.getD i false=L[i]:=by simp[List.getD,List.getElem?_eq_getElem hcL]
      have HKC:Bx ((ints .i64 (lst k C))[u]? = some (.int .i64 (C u))):=⟨AdH hun⟩
      have BTi:=bx (fun b hb w ok=>BT.o i b hin hb w ok)
      have BBi:=bx (fun b hl=>BB.o i b hl)
      clear hA hf hf3 PF UP PK hP hkk h1 hwr BT BB PS FS PD BZ HG H3 HLL Z2
      generalize N[i]=y at *
      clear hiN
      cases hl:L[i]with
      |false=>
       rw[hl]at F2 gL
       have P1:PbI N W L (i-1) C D:=by
        have h:=PF'.o
        rw[Akp gL]at h
        simp only[if_true]at h
        rwa [Aei,Aei]at h
       clear PF' gL hl BBi BTi
       generalize C u=cu at *
       (go_wp2_with (first|go_skip|refine zLHd HA ?_|refine zRFd F1 ?_|refine zRFd F2 ?_|refine zLAd ?_|((with_reducible apply AaE M.o.at1 HKC.o);rfl;rfl;rfl;exact zots)))
       go_roundw
       case rel=>exact⟨i,_,_,by omega,by go_num,P1,M.o⟩
       case measure=>simp[intOf]
      |true=>
       rw[hl]at F2 gL
       clear hl
       rcases PK' with hc|⟨b,hb1,hb2,hc⟩
       .have BE:betB N W L (C u) i=(i:Int):=by rw[hc];exact AjT gL
        have hne:¬(i:Int)=C u:=by rw[hc];omega
        rw[hc]at HKC
        clear gL BBi BTi hc
        (go_wp2_with (first|go_skip|go_guarded|refine zLHd HA ?_|refine zRFd F1 ?_|refine zRFd F2 ?_|refine zLAd ?_|((with_reducible apply AaE M.o.at1 HKC.o);rfl;rfl;rfl;exact zots)))
        have P1:PbI N W L (i-1) (fun z=>if z=u then(i:Int)else C z) (fun z=>if z=u then(if 0<=D i then D i else(i:Int))else D z):=by
         have h:=PF'.o
         rw[BE]at h
         simp only[if_neg hne]at h
         exact h
        clear PF' BE
        have hkb:u<(fl [ints .i64 (lst k C)]).length:=by rw[fl1,Aa1];exact hun
        have hkd:u<(fl [ints .i64 (lst k D)]).length:=by rw[fl1,Aa1];exact hun
        have FB:Bx (fl [ints .i64 ((lst k C).set u (i:Int))]=(fl [ints .i64 (lst k C)]).set u (.int .i64 (i:Int))):=⟨AeA _ _ _⟩
        have FD:Bx (fl [ints .i64 ((lst k D).set u (i:Int))]=(fl [ints .i64 (lst k D)]).set u (.int .i64 (i:Int))):=⟨AeA _ _ _⟩
        have LB:Bx (([ints .i64 ((lst k C).set u (i:Int))]:List (List Value)).map List.length = [k]):=⟨by simp[ints_len,AaQ]⟩
        have LD:Bx (([ints .i64 ((lst k D).set u (i:Int))]:List (List Value)).map List.length = [k]):=⟨by simp[ints_len,AaQ]⟩
        (go_wp2_with (first|go_skip|((first|refine zBXd ?_|refine zALd (ztLk) ?_);clear M;intro w' g M)|fail|refine zLAd ?_))
        refine Aai (fun w'=>HL w' g8 (lkP (.slice (some ⟨ga,0,none⟩) k k) (.slice (some ⟨gb,0,none⟩) k k)) [1,1]) (.steps [(1,0),(0,1),(1,2),(1,3),(0,4),(1,5),(1,6),(1,7),(1,8),(3,9),(1,10),(3,11)] .leaf) (by kernel_rfl) (by kernel_rfl) M.o.drew.at0 ?_;(simp only[MixT7,MT.steps,stepI,List.getD_cons_zero,List.getD_cons_succ]);replace M:=bx (M.o.drew)
        refine zNM ?_
        (repeat(first|refine zM0 ?_|(go_big_quiet_want;first|(refine zQL (fun _ h=>h) (Ael _ _) ?_;go_big_quiet_on;refine zNM ?_)|(refine zQO ?_;go_big_quiet_on))))
        refine AbG M.o 1 (.int .i64 (i:Int)) (P':=[ints .i64 ((lst k C).set u (i:Int))]) rfl hkb FB.o LB.o rfl rfl rfl AcU rfl rfl rfl ?_
        intro w7 M'
        (simp only[List.set_cons_zero,List.set_cons_succ]at M')
        (replace M:=bx M';clear M')
        refine⟨M.o.at0,?_⟩
        refine zNM ?_
        refine zMR7 ?_
        refine AbG M.o 2 (.int .i64 (i:Int)) (P':=[ints .i64 ((lst k D).set u (i:Int))]) rfl hkd FD.o LD.o rfl rfl rfl AcU rfl rfl rfl ?_
        intro w8 M'
        (simp only[List.set_cons_zero,List.set_cons_succ]at M')
        (replace M:=bx M';clear M')
        rw[Aa0 (f:=C)]at M
        refine⟨M.o.at0,?_⟩
        refine zNM ?_
        refine NoPanic.normal ?_
        clear FB FD LB LD hkb hkd
        have HK:Bx ((ints .i64 ((lst k D).set u (i:Int)))[i]? = some (.int .i64 (D i))):=⟨by rw[Aa0,AdH hin,if_neg (by omega)]⟩
        by_cases hd:0<=D i
        .simp only[if_pos hd]at P1
         obtain⟨d,hd'⟩:∃d,D i=d:=⟨_,rfl⟩
         rw[hd']at HK P1 hd
         clear hd'
         have hkd:u<(fl [ints .i64 ((lst k D).set u (i:Int))]).length:=by rw[fl1,ints_len,List.length_set,AaQ];exact hun
         have FD:Bx (fl [ints .i64 (((lst k D).set u (i:Int)).set u d)]=(fl [ints .i64 ((lst k D).set u (i:Int))]).set u (.int .i64 d)):=⟨AeA _ _ _⟩
         have LD:Bx (([ints .i64 (((lst k D).set u (i:Int)).set u d)]:List (List Value)).map List.length = [k]):=⟨by simp[ints_len,AaQ]⟩
         go_wp2_with (first|go_skip|refine zLAd ?_|((with_reducible apply AaE M.o.at2 HK.o);rfl;rfl;rfl;exact zots))
         refine AaK [9] (.steps [(1,0),(0,1),(1,2),(1,3),(0,4),(1,5),(1,6),(0,7),(1,8),(3,9)] .leaf) (by kernel_rfl) (by kernel_rfl) ?_;(simp only[MixT6,MT.steps,stepAt,List.getD_cons_zero,List.getD_cons_succ]);replace M:=bx (M.o.drew)
         refine zNM ?_
         (repeat(first|refine zM0 ?_|(go_big_quiet_want;first|((first|((with_reducible apply Add M.o.at2.all.has HK.o);rfl;rfl;exact zots)|refine zQAd ?_);go_big_quiet_on;refine zNM ?_)|(refine zQO ?_;go_big_quiet_on))))
         refine AbG M.o 2 (.int .i64 d) (P':=[ints .i64 (((lst k D).set u (i:Int)).set u d)]) rfl hkd FD.o LD.o rfl rfl rfl AcU rfl rfl rfl ?_
         intro w7 M'
         (simp only[List.set_cons_zero,List.set_cons_succ]at M')
         (replace M:=bx M';clear M')
         rw[List.set_set,Aa0 (f:=D)]at M
         refine zNM ?_
         refine NoPanic.normal ?_
         go_wp2_with fail
         go_roundw
         case rel=>exact⟨i,_,_,by omega,by go_num,P1,M.o⟩
         case measure=>simp[intOf]
        .simp only[if_neg hd]at P1
         rw[Aa0 (f:=D)]at M
         rw[Aa0 (f:=D)]at HK
         generalize D i=d at *
         go_wp2_with (first|go_skip|refine zLAd ?_|((with_reducible apply AaE M.o.at2 HK.o);rfl;rfl;rfl;exact zots))
         go_roundw
         case rel=>exact⟨i,_,_,by omega,by go_num,P1,M.o⟩
         case measure=>simp[intOf]
       .have hb0:0<=(b:Int):=by omega
        have B1:=bx (fun w (ok:Ok Γ w)=>BTi.o b hb2 w ok)
        have PT2:=bx (BBi.o b gL)
        have hne:¬(i:Int)=C u:=by rw[hc];omega
        rw[hc]at HKC
        clear gL BBi BTi
        generalize betC N W i b=r at *
        (go_wp2_with (first|go_skip|refine zLHd HA ?_|refine zRFd F1 ?_|refine zRFd F2 ?_|refine zLAd ?_|((with_reducible apply AaE M.o.at1 HKC.o);rfl;rfl;rfl;exact zots)))
        refine(B1.o _ M.ok).mono ?_
        rintro e1 w1 ⟨rfl,hx⟩
        replace M:=bx (M.o.call hx)
        clear hx B1
        cases r with
        |true=>
         have BE:betB N W L (C u) i=(i:Int):=by rw[hc,PT2.o];rfl
         clear PT2 hc
         (go_wp2_with (first|go_skip|refine zLHd HA ?_|refine zRFd F1 ?_|refine zRFd F2 ?_|refine zLAd ?_|((with_reducible apply AaE M.o.at1 HKC.o);rfl;rfl;rfl;exact zots)))
         have P1:PbI N W L (i-1) (fun z=>if z=u then(i:Int)else C z) (fun z=>if z=u then(if 0<=D i then D i else(i:Int))else D z):=by
          have h:=PF'.o
          rw[BE]at h
          simp only[if_neg hne]at h
          exact h
         clear PF' BE
         have hkb:u<(fl [ints .i64 (lst k C)]).length:=by rw[fl1,Aa1];exact hun
         have hkd:u<(fl [ints .i64 (lst k D)]).length:=by rw[fl1,Aa1];exact hun
         have FB:Bx (fl [ints .i64 ((lst k C).set u (i:Int))]=(fl [ints .i64 (lst k C)]).set u (.int .i64 (i:Int))):=⟨AeA _ _ _⟩
         have FD:Bx (fl [ints .i64 ((lst k D).set u (i:Int))]=(fl [ints .i64 (lst k D)]).set u (.int .i64 (i:Int))):=⟨AeA _ _ _⟩
         have LB:Bx (([ints .i64 ((lst k C).set u (i:Int))]:List (List Value)).map List.length = [k]):=⟨by simp[ints_len,AaQ]⟩
         have LD:Bx (([ints .i64 ((lst k D).set u (i:Int))]:List (List Value)).map List.length = [k]):=⟨by simp[ints_len,AaQ]⟩
         (go_wp2_with (first|go_skip|((first|refine zBXd ?_|refine zALd (ztLk) ?_);clear M;intro w' g M)|fail|refine zLAd ?_))
         refine Aai (fun w'=>HL w' g8 (lkP (.slice (some ⟨ga,0,none⟩) k k) (.slice (some ⟨gb,0,none⟩) k k)) [1,1]) (.steps [(1,0),(0,1),(1,2),(1,3),(0,4),(1,5),(1,6),(1,7),(1,8),(3,9),(1,10),(3,11)] .leaf) (by kernel_rfl) (by kernel_rfl) M.o.drew.at0 ?_;(simp only[MixT7,MT.steps,stepI,List.getD_cons_zero,List.getD_cons_succ]);replace M:=bx (M.o.drew)
         refine zNM ?_
         (repeat(first|refine zM0 ?_|(go_big_quiet_want;first|(refine zQL (fun _ h=>h) (Ael _ _) ?_;go_big_quiet_on;refine zNM ?_)|(refine zQO ?_;go_big_quiet_on))))
         refine AbG M.o 1 (.int .i64 (i:Int)) (P':=[ints .i64 ((lst k C).set u (i:Int))]) rfl hkb FB.o LB.o rfl rfl rfl AcU rfl rfl rfl ?_
         intro w7 M'
         (simp only[List.set_cons_zero,List.set_cons_succ]at M')
         (replace M:=bx M';clear M')
         refine⟨M.o.at0,?_⟩
         refine zNM ?_
         refine zMR7 ?_
         refine AbG M.o 2 (.int .i64 (i:Int)) (P':=[ints .i64 ((lst k D).set u (i:Int))]) rfl hkd FD.o LD.o rfl rfl rfl AcU rfl rfl rfl ?_
         intro w8 M'
         (simp only[List.set_cons_zero,List.set_cons_succ]at M')
         (replace M:=bx M';clear M')
         rw[Aa0 (f:=C)]at M
         refine⟨M.o.at0,?_⟩
         refine zNM ?_
         refine NoPanic.normal ?_
         clear FB FD LB LD hkb hkd
         have HK:Bx ((ints .i64 ((lst k D).set u (i:Int)))[i]? = some (.int .i64 (D i))):=⟨by rw[Aa0,AdH hin,if_neg (by omega)]⟩
         by_cases hd:0<=D i
         .simp only[if_pos hd]at P1
          obtain⟨d,hd'⟩:∃d,D i=d:=⟨_,rfl⟩
          rw[hd']at HK P1 hd
          clear hd'
          have hkd:u<(fl [ints .i64 ((lst k D).set u (i:Int))]).length:=by rw[fl1,ints_len,List.length_set,AaQ];exact hun
          have FD:Bx (fl [ints .i64 (((lst k D).set u (i:Int)).set u d)]=(fl [ints .i64 ((lst k D).set u (i:Int))]).set u (.int .i64 d)):=⟨AeA _ _ _⟩
          have LD:Bx (([ints .i64 (((lst k D).set u (i:Int)).set u d)]:List (List Value)).map List.length = [k]):=⟨by simp[ints_len,AaQ]⟩
          go_wp2_with (first|go_skip|refine zLAd ?_|((with_reducible apply AaE M.o.at2 HK.o);rfl;rfl;rfl;exact zots))
          refine AaK [9] (.steps [(1,0),(0,1),(1,2),(1,3),(0,4),(1,5),(1,6),(0,7),(1,8),(3,9)] .leaf) (by kernel_rfl) (by kernel_rfl) ?_;(simp only[MixT6,MT.steps,stepAt,List.getD_cons_zero,List.getD_cons_succ]);replace M:=bx (M.o.drew)
          refine zNM ?_
          (repeat(first|refine zM0 ?_|(go_big_quiet_want;first|((first|((with_reducible apply Add M.o.at2.all.has HK.o);rfl;rfl;exact zots)|refine zQAd ?_);go_big_quiet_on;refine zNM ?_)|(refine zQO ?_;go_big_quiet_on))))
          refine AbG M.o 2 (.int .i64 d) (P':=[ints .i64 (((lst k D).set u (i:Int)).set u d)]) rfl hkd FD.o LD.o rfl rfl rfl AcU rfl rfl rfl ?_
          intro w7 M'
          (simp only[List.set_cons_zero,List.set_cons_succ]at M')
          (replace M:=bx M';clear M')
          rw[List.set_set,Aa0 (f:=D)]at M
          refine zNM ?_
          refine NoPanic.normal ?_
          go_wp2_with fail
          go_roundw
          case rel=>exact⟨i,_,_,by omega,by go_num,P1,M.o⟩
          case measure=>simp[intOf]
         .simp only[if_neg hd]at P1
          rw[Aa0 (f:=D)]at M
          rw[Aa0 (f:=D)]at HK
          generalize D i=d at *
          go_wp2_with (first|go_skip|refine zLAd ?_|((with_reducible apply AaE M.o.at2 HK.o);rfl;rfl;rfl;exact zots))
          go_roundw
          case rel=>exact⟨i,_,_,by omega,by go_num,P1,M.o⟩
          case measure=>simp[intOf]
        |false=>
         have P1:PbI N W L (i-1) C D:=by
          have h:=PF'.o
          rw[show betB N W L (C u) i=C u by rw[hc,PT2.o];rfl]at h
          simp only[if_true]at h
          rwa [Aei,Aei]at h
         clear PF' PT2 hc
         (go_wp2_with (first|go_skip|refine zLHd HA ?_|refine zRFd F1 ?_|refine zRFd F2 ?_|refine zLAd ?_|((with_reducible apply AaE M.o.at1 HKC.o);rfl;rfl;rfl;exact zots)))
         go_roundw
         case rel=>exact⟨i,_,_,by omega,by go_num,P1,M.o⟩
         case measure=>simp[intOf]
end Go.Proofs.Ytpaihpeoiliioaa
