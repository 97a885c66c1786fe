/- Texts joined: what the walks of this claim stand on (part 17). -/
import Derived.Test.YtpaihpeoiliioaaLK16
set_option linter.all false
set_option maxRecDepth 20000
set_option maxHeartbeats 40000000
namespace Go.Proofs.Ytpaihpeoiliioaa
open Go.RowKit Old
def lkP(x y:Value):List (List Value):=[[x],[y]]
theorem Ael(x y:Value):(lkP x y).map List.length = [1,1]:=rfl
theorem ztLk:ZeroT Try.prog 33 (lkP (.slice none 0 0) (.slice none 0 0)) [1,1]:=⟨fun w=>by kernel_rfl,rfl⟩
theorem rtLk:RowT Try.prog 33 2:=⟨⟨_,Try.underlying33,rfl⟩,by kernel_rfl⟩
theorem stLk:StrT Try.prog 33 [(0,1),(1,1)] (lkP (.slice none 0 0) (.slice none 0 0)) [1,1]:=Aa3 Try.underlying33 (by kernel_rfl) (by kernel_rfl) rfl
theorem Agq(a b:Option Addr)(n c m d:Nat):Try.prog.built 33 [(0,.slice a n c),(1,.slice b m d)]=some (fl (lkP (.slice a n c) (.slice b m d))).toArray:=by
 rw[stLk.eq]
 refine AaD (Q:=[[.slice a n c]]) stLk.len rfl rfl rfl rfl rfl fun hl=>?_
 refine AaD (Q:=[[.slice b m d]]) hl rfl rfl rfl rfl rfl fun hl=>?_
 rfl
theorem Acm(a b:Option Addr)(n c m d:Nat):One (fl (lkP (.slice a n c) (.slice b m d))):=One.cons (One.v rfl) (One.v rfl)
theorem AfL{Γ0 Γ:Gam}{w0 w:World}{g:Nat}{P:List (List Value)}{ls:List Nat}{L:List Ent}{R:List RowE}(_:MM Γ0 w0 Γ w (⟨g,P,ls⟩::L) R):∃y,y=g:=⟨g,rfl⟩
theorem AdK{Pg:Program}{t e:TypeId}{size bytes:Nat}{zs:List Value}(mk:MkT Pg t e size bytes zs)(n:Nat)(hb:bytes*n<=281474976710656)(h63:n<=9223372036854775807){op:Oper}{a:Act}{w:World}{x y:Operand}{k1 k2:IntKind}(ho:op.op=.makeSlice t x y)(hx:a.eval x=.int k1 (n:Int))(hy:a.eval y=.int k2 (n:Int)) :
  (execOp a.eval op).run Pg w=.ok (.value (.slice (some ⟨w.heap.size,0,none⟩) n n)) (w.alloc (.cells (fl [reps n zs]).toArray e)):=by
 obtain⟨i,z,hi,hz,hc,hs,hby⟩:=mk.hi
 have hb':(i.bytes:Int)*(n:Int)<=281474976710656:=by
  have h:((i.bytes*n:Nat):Int)<=281474976710656:=by rw[hby];omega
  rwa [Int.natCast_mul]at h
 have hr:=run_make (P:=Pg) w t e i z mk.ht hi hz k1 k2 n n (by omega) (Int.le_refl _) hb' (by omega)
 have hm:madeCells z.cells (n*i.size)=(fl [reps n zs]).toArray:=by
  rw[hs]
  exact Adi id zs z.cells (by rw[hc];rfl) mk.len mk.pos n
 simp only[Int.toNat_natCast,hm]at hr
 unfold execOp
 simp only[ho,hx,hy,hr,Sem.run_bind,Sem.run_pure,Result.andThen_ok]
theorem AgN(n:Nat)(f:Nat->Int)(h:∀k,k<n->f k=0):reps n [.int .i64 0]=ints .i64 (lst n f):=by
 rw[AgM,AaZ h,<-AkR]
 simp[ints]
theorem Aa1(n:Nat)(f:Nat->Int):(ints .i64 (lst n f)).length=n:=by simp[ints,lst]
theorem AdH{n:Nat}{f:Nat->Int}{i:Nat}(h:i<n):(ints .i64 (lst n f))[i]? = some (.int .i64 (f i)):=by simp[ints,lst,h]
theorem fl1(xs:List Value):fl [xs]=xs:=by simp[fl]
theorem Ai3(l:List Int)(i:Nat)(v:Int):(ints .i64 l).set i (.int .i64 v)=ints .i64 (l.set i v):=by simp[ints,List.map_set]
theorem AeA(l:List Int)(i:Nat)(v:Int):fl [ints .i64 (l.set i v)]=(fl [ints .i64 l]).set i (.int .i64 v):=by rw[fl1,fl1,Ai3]
def LksP(Γ:Gam)(w:World)(C D:List Int)(e:Ending)(w':World):Prop:=∃(A B:Option Addr) (c d:Nat) (Γ':Gam),e=.returned (.agg (fl (lkP (.slice A C.length c) (.slice B D.length d))).toArray)/\CapOk A C.length c/\CapOk B D.length d/\SlG Γ' A C.length (ints .i64 C)/\SlG Γ' B D.length (ints .i64 D)/\Ext Γ w Γ' w'
theorem Ak1(Γ:Gam)(x:Sl)(N:List Nod)(A2 A3:Option Addr)(c2 c3:Nat)(W:List U)(L:List Bool)(hk:Lk (upsN N))(hb:N.length<=4096)(hW:W.length=N.length)(hL:L.length=N.length)(w:World)(ok:Ok Γ w)(h:NG Γ x N)(h2:SlG Γ A2 N.length (us W))(h3:SlG Γ A3 N.length (bls L)) :
  Calls Try.prog 7 #[.agg [x.v].toArray,.slice A2 N.length c2,.slice A3 N.length c3] w (LksP Γ w (bstL N W L) (dscL N W L)):=by
 have M:=bx (MM.start ok)
 have BE:=bx (fun i w ok=>AhL Γ x N A2 A3 c2 c3 W L i (by omega) hW hL w ok h h2 h3)
 have DS:=bx (fun u c hu hb=>AjA (W:=W) (L:=L) (u:=u) (c:=c) hk hu hb)
 have DN:=bx (fun u hu=>Afz (W:=W) (L:=L) (u:=u) hk hu)
 have BN:Bx (∀i c:Nat,bestI N W L (i:Int)=(c:Int)->c<N.length/\i<c):=⟨fun i c e=>by
  obtain⟨h1,h2⟩:=AcS (Acw e).1
  have:=Acz hk c h1
  exact⟨h1,by omega⟩⟩
 have SB:=bx (fun m=>AkE (N:=N) (W:=W) (L:=L) m)
 have SD:=bx (fun m=>AkD (N:=N) (W:=W) (L:=L) m)
 obtain⟨n,hn⟩:∃n,N.length=n:=⟨_,rfl⟩
 have HV:Bx (x.v=.slice x.A n x.c):=⟨by rw[<-hn,<-h.n]⟩
 have HN:=bx hn
 have HN1:Bx (8*n<=281474976710656):=⟨by omega⟩
 have HN2:Bx (n<=9223372036854775807):=⟨by omega⟩
 have hnb:n<=4096:=by omega
 have hwr:IntKind.i64.wrap ((n:Int)-1)=(n:Int)-1:=IntWalk.i64_in _ (by omega)
 have Z1:Bx (ints .i64 (lst n fun _=>0)=ints .i64 (lst n (rbF N W L n))):=⟨by rw[AaZ (g:=rbF N W L n) (fun k hk=>by unfold rbF;rw[if_neg (by omega)])]⟩
 have Z2:Bx (ints .i64 (lst n fun _=>0)=ints .i64 (lst n (rdF N W L n))):=⟨by rw[AaZ (g:=rdF N W L n) (fun k hk=>by unfold rdF;rw[if_neg (by omega)])]⟩
 have R1:Bx (bstL N W L=lst n (rbF N W L 0)/\dscL N W L=lst n (rdF N W L 0)):=⟨by
  rw[<-hn]
  exact⟨AaZ fun k _=>by unfold rbF;rw[if_pos (Nat.zero_le _)],AaZ fun k _=>by unfold rdF;rw[if_pos (Nat.zero_le _)]⟩⟩
 rw[hn]at SB SD BN DN BE DS |-
 clear ok h h2 h3 hb hW hL hk hn
 change Calls Try.prog _ #[.agg (fl [[x.v]]).toArray,_,_] _ _
 go_enter Try.func7,Try.ntmps7
 go_upto_region 2 with(first|go_skip|((refine zBXd ?_;clear M;intro w' g M);(obtain⟨g3,hg0⟩:∃y,y=g:=⟨_,rfl⟩);subst hg0)|((refine zALd (ztLk) ?_;clear M;intro w' g M);(obtain⟨g6,hg0⟩:∃y,y=g:=⟨_,rfl⟩);subst hg0)|refine zLHd HV ?_|refine zLAd ?_)
 go_cut [8]from 14 (fun s8 wx=>∃g8 ga gb,s8=.pointer (some ⟨g8,0,none⟩)/\MM Γ w Γ wx [⟨g8,lkP (.slice (some ⟨ga,0,none⟩) n n) (.slice (some ⟨gb,0,none⟩) n n),[1,1]⟩,⟨ga,[ints .i64 (lst n (rbF N W L n))],[n]⟩,⟨gb,[ints .i64 (lst n (rdF N W L n))],[n]⟩,⟨g6,lkP (.slice none 0 0) (.slice none 0 0),[1,1]⟩,⟨g3,[[x.v]],[1]⟩] [])
 case first=>
  go_wp2_with fail
  refine AaK [6] (.steps [(1,0),(1,2)] (.fork3 1 (.fork 3 (.steps [(1,4),(2,5),(3,6)] .leaf) 5 (.steps [(2,3),(1,4),(3,6)] .leaf)) 3 (.fork 1 (.steps [(1,4),(2,5),(3,6)] .leaf) 5 (.steps [(2,1),(1,4),(3,6)] .leaf)) 5 (.fork 1 (.steps [(2,3),(1,4),(3,6)] .leaf) 3 (.steps [(2,1),(1,4),(3,6)] .leaf)))) (by kernel_rfl) (by kernel_rfl) ?_;(simp only[MixT6,MT.steps,stepAt,List.getD_cons_zero,List.getD_cons_succ]);replace M:=bx (M.o.drew)
  refine zNM ?_
  refine zMRd ?_
  refine⟨?_,?_,?_⟩
  all_goals (first|(refine AaF (AdK Ait n HN1.o HN2.o rfl rfl rfl) rfl ?_;refine⟨ext_alloc _ _,?_⟩;rw[AgN n (fun _=>0) (fun _ _=>rfl)];replace M:=bx (M.o.alloc (P:=[ints .i64 (lst n fun _=>0)]) (ls:=[n]) (by simp[Aa1]) rfl 3);(obtain⟨ga,hg0⟩:=AfL M.o);rw[<-hg0]at M |-;clear hg0;refine zNM ?_)|(refine AaF (Aaa rfl ztLk) rfl ?_;refine⟨ext_alloc _ _,?_⟩;replace M:=bx (M.o.alloc (P:=lkP (.slice none 0 0) (.slice none 0 0)) (ls:=[1,1]) rfl rfl 33);(obtain⟨g8,hg0⟩:=AfL M.o);rw[<-hg0]at M |-;clear hg0;refine zNM ?_))
  all_goals refine⟨?_,?_⟩
  all_goals (repeat(first|(with_reducible refine wpQuiet_nil ?_)|(go_big_quiet_want;(with_reducible apply AaJ 33 _ rfl _ _ rfl);exact Agq _ _ _ _ _ _;go_big_quiet_on;refine zNM ?_)|(refine AaF (AdK Ait n HN1.o HN2.o rfl rfl rfl) rfl ?_;refine⟨ext_alloc _ _,?_⟩;rw[AgN n (fun _=>0) (fun _ _=>rfl)];replace M:=bx (M.o.alloc (P:=[ints .i64 (lst n fun _=>0)]) (ls:=[n]) (by simp[Aa1]) rfl 3);(obtain⟨ga,hg0⟩:=AfL M.o);rw[<-hg0]at M |-;clear hg0;refine zNM ?_)|(refine AaF (Aaa rfl ztLk) rfl ?_;refine⟨ext_alloc _ _,?_⟩;replace M:=bx (M.o.alloc (P:=lkP (.slice none 0 0) (.slice none 0 0)) (ls:=[1,1]) rfl rfl 33);(obtain⟨g8,hg0⟩:=AfL M.o);rw[<-hg0]at M |-;clear hg0;refine zNM ?_)|((first|refine Aax M.o 0 _ (lkP (.slice (some ⟨_,0,none⟩) n n) (.slice (some ⟨_,0,none⟩) n n)) rfl rfl rfl rfl rtLk rfl rfl (Acm _ _ _ _ _ _) rfl rfl ?_|refine Aax M.o 1 _ (lkP (.slice (some ⟨_,0,none⟩) n n) (.slice (some ⟨_,0,none⟩) n n)) rfl rfl rfl rfl rtLk rfl rfl (Acm _ _ _ _ _ _) rfl rfl ?_|refine Aax M.o 2 _ (lkP (.slice (some ⟨_,0,none⟩) n n) (.slice (some ⟨_,0,none⟩) n n)) rfl rfl rfl rfl rtLk rfl rfl (Acm _ _ _ _ _ _) rfl rfl ?_);intro w7 M';(simp only[List.set_cons_zero,List.set_cons_succ]at M');(replace M:=bx M';clear M');refine zNM ?_;refine NoPanic.normal ?_;go_wp2_with fail;go_meet)))
  all_goals exact⟨_,_,_,rfl,by rw[<-Z1.o,<-Z2.o];(first|exact M.o|exact M.o.perm (.swap _ _ _)|exact M.o.perm (.cons _ (.swap _ _ _))|exact M.o.perm ((List.Perm.cons _ (.swap _ _ _)).trans (.swap _ _ _))|exact M.o.perm ((List.Perm.swap _ _ _).trans (.cons _ (.swap _ _ _)))|exact M.o.perm ((List.Perm.swap _ _ _).trans ((List.Perm.cons _ (.swap _ _ _)).trans (.swap _ _ _))))⟩
 case rest=>
  obtain⟨g8,ga,gb,rfl,hM⟩:=hcut
  clear M
  have M:=bx hM
  clear hM Z1 Z2
  go_wp2_with fail
  go_loopw [9,10] (fun i _ wr=>∃m:Nat,m<=n/\i=.int .i64 ((m:Int)-1)/\MM Γ w Γ wr [⟨g8,lkP (.slice (some ⟨ga,0,none⟩) n n) (.slice (some ⟨gb,0,none⟩) n n),[1,1]⟩,⟨ga,[ints .i64 (lst n (rbF N W L m))],[n]⟩,⟨gb,[ints .i64 (lst n (rdF N W L m))],[n]⟩,⟨g6,lkP (.slice none 0 0) (.slice none 0 0),[1,1]⟩,⟨g3,[[x.v]],[1]⟩] []) (fun i _ _=>(intOf i+1).toNat)
  case atStart=>exact⟨n,Nat.le_refl _,by first|rfl|(rw[hwr];rfl),M.o⟩
  case round=>
   obtain⟨m,hm,rfl,hM⟩:=hrel
   clear M
   have M:=bx hM
   clear hM
   rcases Nat.eq_zero_or_pos m with h0|h0
   .subst h0
    go_wp2_with (first|(((with_reducible refine Afd ?_);((with_reducible apply AbV);rfl;rfl;rfl);((with_reducible apply LdAt.ps M.o.at0.one);exact rtLk;rfl;(try simp only[List.drop_zero]));refine zNM ?_))|((with_reducible apply AcG M.o 3 (lkP (.slice (some ⟨ga,0,none⟩) n n) (.slice (some ⟨gb,0,none⟩) n n)) (lkP (.slice (some ⟨ga,0,none⟩) n n) (.slice (some ⟨gb,0,none⟩) n n)));rfl;rfl;rfl;rfl;rfl;exact rtLk;rfl;rfl;exact Acm _ _ _ _ _ _;rfl;intro w' M' hg';(simp only[List.set_cons_zero,List.set_cons_succ]at M');(replace M:=bx M';clear M');clear hg';refine zNM ?_))
    obtain⟨Γ1,a1,a2,M1⟩:=(M.o.perm (.swap _ _ _)).frzS n
    obtain⟨Γ2,b1,b2,M2⟩:=(M1.perm (.swap _ _ _)).frzS n
    (try refine zsm ?_);refine bodyPost_ret (Ab8 rfl _ M2.at1 rfl rtLk rfl) rfl ?_
    unfold LksP
    rw[R1.o.1,R1.o.2]
    refine⟨some ⟨ga,0,none⟩,some ⟨gb,0,none⟩,n,n,Γ2,by rw[AaQ,AaQ],?_,?_,?_,?_,M2.ext⟩
    .rw[AaQ];exact⟨Nat.le_refl _,by unfold maxLen;omega,fun h=>by cases h⟩
    .rw[AaQ];exact⟨Nat.le_refl _,by unfold maxLen;omega,fun h=>by cases h⟩
    .rw[AaQ];exact a1.mono b2
    .rw[AaQ];exact b1
   .obtain⟨k,rfl⟩:∃k,m=k+1:=⟨m-1,by omega⟩
    have hkk:((k+1:Nat):Int)-1=(k:Int):=by omega
    rw[hkk]
    have hkl:k<n:=by omega
    have hki:(k:Int)<(n:Int):=by omega
    have hk0:0<=(k:Int):=by omega
    have hwk:IntKind.i64.wrap ((k:Int)-1)=(k:Int)-1:=IntWalk.i64_in _ (by omega)
    have hkb:k<(fl [ints .i64 (lst n (rbF N W L (k+1)))]).length:=by rw[fl1,Aa1];exact hkl
    have hkd:k<(fl [ints .i64 (lst n (rdF N W L (k+1)))]).length:=by rw[fl1,Aa1];exact hkl
    have SBk:=bx (SB.o k)
    have SDk:=bx (SD.o k)
    have BEk:=bx (fun w o=>BE.o (k:Int) w o)
    have DSk:=bx (fun c hb=>DS.o k c hkl hb)
    have BNk:=bx (fun c hb=>BN.o k c hb)
    have NGk:Bx (bestI N W L (k:Int) = -1->dsc N W L (k:Int) = -1):=⟨fun h=>by unfold dsc;rw[if_pos (by omega)]⟩
    have BC:bestI N W L (k:Int) = -1\/∃c:Nat,bestI N W L (k:Int)=(c:Int):=(Acx (N:=N) (W:=W) (L:=L) (k:Int)).elim (fun h=>.inl h.1) (fun⟨c,h,_⟩=>.inr ⟨c,h⟩)
    clear hkk hm hwr SB SD BE DS DN BN R1
    generalize bestI N W L (k:Int)=cb at *
    have FB:Bx (fl [ints .i64 ((lst n (rbF N W L (k+1))).set k cb)]=(fl [ints .i64 (lst n (rbF N W L (k+1)))]).set k (.int .i64 cb)):=⟨AeA _ _ _⟩
    have FD:Bx (fl [ints .i64 ((lst n (rdF N W L (k+1))).set k cb)]=(fl [ints .i64 (lst n (rdF N W L (k+1)))]).set k (.int .i64 cb)):=⟨AeA _ _ _⟩
    have LB:Bx (([ints .i64 ((lst n (rbF N W L (k+1))).set k cb)]:List (List Value)).map List.length = [n]):=⟨by simp[ints_len,AaQ]⟩
    have LD:Bx (([ints .i64 ((lst n (rdF N W L (k+1))).set k cb)]:List (List Value)).map List.length = [n]):=⟨by simp[ints_len,AaQ]⟩
    go_wp2_with (first|go_skip|refine zLAd ?_)
    refine zCA M (BEk.o _ M.ok) ?_;clear M;intro w1 M
    refine zNM ?_
    go_wp2_with fail
    refine Aai (fun w'=>HL w' g8 (lkP (.slice (some ⟨ga,0,none⟩) n n) (.slice (some ⟨gb,0,none⟩) n n)) [1,1]) (.steps [(1,0),(0,1),(1,2),(1,3),(0,4),(1,5),(1,6),(1,7),(1,8),(3,9),(1,10),(3,11)] .leaf) (by kernel_rfl) (by kernel_rfl) M.o.drew.at0 ?_;(simp only[MixT7,MT.steps,stepI,List.getD_cons_zero,List.getD_cons_succ]);replace M:=bx (M.o.drew)
    refine zNM ?_
    (repeat(first|refine zM0 ?_|(go_big_quiet_want;first|(refine zQL (fun _ h=>h) (Ael _ _) ?_;go_big_quiet_on;refine zNM ?_)|(refine zQO ?_;go_big_quiet_on))))
    refine AbG M.o 1 (.int .i64 cb) (P':=[ints .i64 ((lst n (rbF N W L (k+1))).set k cb)]) rfl hkb FB.o LB.o rfl rfl rfl AcU rfl rfl rfl ?_
    intro w7 M'
    (simp only[List.set_cons_zero,List.set_cons_succ]at M')
    (replace M:=bx M';clear M')
    refine⟨M.o.at0,?_⟩
    refine zNM ?_
    refine zMR7 ?_
    refine AbG M.o 2 (.int .i64 cb) (P':=[ints .i64 ((lst n (rdF N W L (k+1))).set k cb)]) rfl hkd FD.o LD.o rfl rfl rfl AcU rfl rfl rfl ?_
    intro w8 M'
    (simp only[List.set_cons_zero,List.set_cons_succ]at M')
    (replace M:=bx M';clear M')
    rw[SBk.o]at M
    refine⟨M.o.at0,?_⟩
    refine zNM ?_
    refine NoPanic.normal ?_
    clear FB FD LB LD hkb hkd SBk BEk
    rcases BC with hc|⟨c,hc⟩
    .have DD:=NGk.o hc
     clear NGk DSk BNk
     subst hc
     rw[DD]at SDk
     go_wp2_with (first|go_skip|refine zLAd ?_)
     go_roundw
     case rel=>exact⟨k,by omega,by go_num,by rw[<-SDk.o];exact M.o⟩
     case measure=>simp[intOf]
    .obtain⟨hcn,hck⟩:=BNk.o c hc
     have DD:=DSk.o c hc
     clear NGk DSk BNk
     subst hc
     have hci:(c:Int)<(n:Int):=by omega
     have hc0:0<=(c:Int):=by omega
     have HK:Bx ((ints .i64 ((lst n (rdF N W L (k+1))).set k (c:Int)))[c]? = some (.int .i64 (dsc N W L (c:Int)))):=⟨by
      rw[Aa0,AdH hcn,if_neg (by omega)];unfold rdF;rw[if_pos (by omega)]⟩
     by_cases hd:0<=dsc N W L (c:Int)
     .rw[if_pos hd]at DD
      rw[DD]at SDk
      generalize dsc N W L (c:Int)=d at *
      have hkd:k<(fl [ints .i64 ((lst n (rdF N W L (k+1))).set k (c:Int))]).length:=by rw[fl1,ints_len,List.length_set,AaQ];exact hkl
      have FD:Bx (fl [ints .i64 (((lst n (rdF N W L (k+1))).set k (c:Int)).set k d)]=(fl [ints .i64 ((lst n (rdF N W L (k+1))).set k (c:Int))]).set k (.int .i64 d)):=⟨AeA _ _ _⟩
      have LD:Bx (([ints .i64 (((lst n (rdF N W L (k+1))).set k (c:Int)).set k d)]:List (List Value)).map List.length = [n]):=⟨by simp[ints_len,AaQ]⟩
      go_wp2_with (first|go_skip|refine zLAd ?_|((with_reducible apply AaE M.o.at2 HK.o);rfl;rfl;rfl;exact zots))
      refine AaK [9] (.steps [(1,0),(0,1),(1,2),(1,3),(0,4),(1,5),(1,6),(0,7),(1,8),(3,9)] .leaf) (by kernel_rfl) (by kernel_rfl) ?_;(simp only[MixT6,MT.steps,stepAt,List.getD_cons_zero,List.getD_cons_succ]);replace M:=bx (M.o.drew)
      refine zNM ?_
      (repeat(first|refine zM0 ?_|(go_big_quiet_want;first|((first|((with_reducible apply Add M.o.at2.all.has HK.o);rfl;rfl;exact zots)|refine zQAd ?_);go_big_quiet_on;refine zNM ?_)|(refine zQO ?_;go_big_quiet_on))))
      refine AbG M.o 2 (.int .i64 d) (P':=[ints .i64 (((lst n (rdF N W L (k+1))).set k (c:Int)).set k d)]) rfl hkd FD.o LD.o rfl rfl rfl AcU rfl rfl rfl ?_
      intro w7 M'
      (simp only[List.set_cons_zero,List.set_cons_succ]at M')
      (replace M:=bx M';clear M')
      rw[List.set_set,SDk.o]at M
      refine zNM ?_
      refine NoPanic.normal ?_
      go_wp2_with fail
      go_roundw
      case rel=>exact⟨k,by omega,by go_num,M.o⟩
      case measure=>simp[intOf]
     .rw[if_neg hd]at DD
      rw[DD]at SDk
      generalize dsc N W L (c:Int)=d at *
      rw[SDk.o]at M HK
      go_wp2_with (first|go_skip|refine zLAd ?_|((with_reducible apply AaE M.o.at2 HK.o);rfl;rfl;rfl;exact zots))
      go_roundw
      case rel=>exact⟨k,by omega,by go_num,M.o⟩
      case measure=>simp[intOf]
end Go.Proofs.Ytpaihpeoiliioaa
