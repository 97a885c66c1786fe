/- Texts joined (LK36). -/
import Derived.Test.YtpaihpeoiliioaaLK35
import Derived.Test.YtpaihpeoiliioaaLK21
set_option linter.all false
set_option maxRecDepth 20000
set_option maxHeartbeats 40000000
namespace Go.Proofs.Ytpaihpeoiliioaa
open Go.RowKit Old
theorem and_255b(n:Int):bits .and .i64 n 255=n%256:=Aez n 8 (by decide)
def NmP(n:Nat)(w:World)(e:Ending)(w':World):Prop:=∃(A:Option Addr) (c:Nat) (X:List U),X.length=n/\e=.returned (.slice A n c)/\w'.ownsRow w.heap.size 29 1 (.slice A n c) n (us X)/\Below w.heap.size w w'
theorem numbersF_any(B:Nat)(A:Option Addr)(m c:Nat)(l:List Int)(n:Nat)(hn:n<=64)(w:World)(hr:Row w B 1 A m (ints .i64 l))(hm:m<=maxLen)(hB:B<=w.heap.size) :
  Calls Try.prog 5 #[.slice A m c,.int .i64 n] w (NmP n w):=by
 have M:=bx (MM.start (AkK w))
 have ATX:Bx (∀(i:Nat),i<=65535->∃k:Nat,k<=16777215+i/\∀w',Below w.heap.size w w'->Calls Try.prog 12 #[.slice A m c,.int .i64 (i:Int)] w' fun e w''=>e=.returned (.int .i64 (k:Int))/\Below w'.heap.size w' w''):=⟨fun i hi=>
  ⟨atV l i,Al2 l i,fun w' hb=>Akr w.heap.size A m c l i hi w' (hr.below (hb.mono hB) |>.more hB) hm hb.size⟩⟩
 clear hr hm hB
 go_enter Try.func5,Try.ntmps5
 go_wp2_with fail
 replace M:=bx (M.o.row0 29 1)
 go_loopw [5,6] (fun s i wr=>∃(k:Nat) (X:List U) (A':Option Addr) (c':Nat),k<=n/\i=.int .i64 k/\X.length=k/\s=.slice A' k c'/\MM g0 w g0 wr [] [⟨.slice A' k c',29,1,k,us X⟩]) (fun _ i _=>n-(intOf i).toNat)
 case atStart=>exact⟨0,[],none,0,Nat.zero_le _,rfl,rfl,rfl,M.o⟩
 case round=>
  obtain⟨k,X,A',c',hk,rfl,hX,rfl,hM⟩:=hrel
  clear M
  have M:=bx hM
  have HX:=bx hX
  clear hM hX
  by_cases hkn:k<n
  .have hki:(k:Int)<(n:Int):=by omega
   obtain⟨q,iq,TQ⟩:=ATX.o k (by omega)
   have TQ:=bx TQ
   (go_wp2_with (first|go_skip|((first|refine zBXd ?_|refine zALd (Ac5) ?_);clear M;intro w' g M)|fail|refine zLAd ?_))
   (refine(TQ.o _ M.bel).mono ?_;rintro e1 w1 ⟨rfl,hx⟩;replace M:=bx (M.o.below hx);clear hx)
   clear TQ ATX
   have hand:=and_255b (q:Int)
   have hu0:(0:Int)<=(q:Int)%256:=by omega
   obtain⟨u0',hu0'⟩:∃u:U,IntKind.u64.wrap ((q:Int)%256)=(u.n:Int):=Any _
   obtain⟨q8,hq8,i8⟩:=AnW q 256 256 rfl;obtain⟨r8,e8,f8⟩:=Ajf q8 11 (by decide) 11 rfl;have c8:(0:Int)<=(q8:Int):=(by omega);have d8:(0:Int)<=(r8:Int):=(by omega)
   go_upto_if 23 with fail
   go_cut [8]from 9 to 27 (fun s8 wx=>∃u:U,s8=.int .u64 (u.n:Int)/\MM g0 w g0 wx [] [⟨.slice A' k c',29,1,k,us X⟩])
   case first=>
    rcases Nat.eq_zero_or_pos r8 with hr|hr
    .subst hr
     (go_wp2_with (first|go_skip|((first|refine zBXd ?_|refine zALd (Ac5) ?_);clear M;intro w' g M)|fail|refine zLAd ?_))
     go_meet;(case rel=>exact⟨⟨72057594037927936,by decide⟩,rfl,M.o⟩)
    .have h1:((r8:Int)==0)=false:=by rw[beq_eq_false_iff_ne];omega
     (go_wp2_with (first|go_skip|((first|refine zBXd ?_|refine zALd (Ac5) ?_);clear M;intro w' g M)|fail|refine zLAd ?_))
     go_meet;(case rel=>exact⟨u0',by first|rfl|rw[hu0'],M.o⟩)
   clear M hand hu0 hu0' hq8 i8 e8 f8 c8 d8
   obtain⟨u,rfl,hM⟩:=hcut
   have M:=bx hM
   clear hM
   (go_wp2_with (first|go_skip|((first|refine zBXd ?_|refine zALd (Ac5) ?_);clear M;intro w' g M)|((with_reducible apply Agx M.o Ai8);rfl;rfl;rfl;rfl;intro w' g M' hb';(replace M:=bx M';clear M');clear hb';refine zNM ?_)|(at_builtin;(with_reducible apply Ae0 M.o Ai8);rfl;exact One.v rfl;(unfold maxLen;omega);omega;rfl;rfl;rfl;rfl;intro A' c' w' M';(replace M:=bx M';clear M'))|refine zLAd ?_))
   go_roundw
   case rel=>
    have e1:us (X ++ [u])=us X ++ [.int .u64 (u.n:Int)]:=by simp[us];rfl
    refine⟨k+1,X ++ [u],A',c',by omega,by go_num,by simp[HX.o],rfl,?_⟩
    rw[e1]
    exact M.o
   case measure=>simp[intOf];omega
  .obtain rfl:k=n:=by omega
   (go_wp2_with (first|go_skip|((first|refine zBXd ?_|refine zALd (Ac5) ?_);clear M;intro w' g M)|fail|refine zLAd ?_))
   go_ret
   exact⟨A',c',X,HX.o,rfl,M.o.rows _ (List.mem_cons_self ..),M.bel⟩
section
variable {Γ0 Γ:Gam}{w0 w:World}{L:List Ent}{R:List RowE}{Pg:Program}{ops:Array Oper}{rest:List Oper}{op:Oper}{a:Act}{Q:Exit->Act->World->Prop}
theorem wpList_ldC{g c:Nat}{e:TypeId}{n:Nat}{xs:List Value}(M:MM Γ0 w0 Γ w L (⟨.slice (some ⟨g,0,none⟩) n c,e,1,n,xs⟩::R))(i:Nat)(hi:i<xs.length){v:Value}(hv:xs[i]? = some v){ty:TypeId}{x:Operand}(ho:op.op=.load ty x)(hgd:Region.wanted op (yielded ops a.tmps)=true)(hx:a.eval x=.pointer (some ⟨g,i,none⟩))(ot:OneT Pg ty)
  (h:wpList Pg ops Q rest (a.put op.dst v) w):wpList Pg ops Q (op::rest) a w:=by
 have hr:w.ownsRow w0.heap.size e 1 (.slice (some ⟨g,0,none⟩) n c) n xs:=M.rows _ (List.mem_cons_self ..)
 refine Aaw ho hgd hx ot ?_ h
 have hl:xs.length=n*1:=hr.1
 rw[hr.cellAt i (by omega)];exact hv
theorem wpList_stC{g c:Nat}{e:TypeId}{n:Nat}{xs:List Value}(M:MM Γ0 w0 Γ w L (⟨.slice (some ⟨g,0,none⟩) n c,e,1,n,xs⟩::R))(i:Nat)(hi:i<xs.length)(v:Value)(hv:v.oneCell'=true)(hc:v.cells = #[v]){ty:TypeId}{x y:Operand}(ho:op.op=.store ty x y)(hgd:Region.wanted op (yielded ops a.tmps)=true)(hx:a.eval x=.pointer (some ⟨g,i,none⟩))
  (hy:a.eval y=v) (ot:OneT Pg ty) (h:∀w',MM Γ0 w0 Γ w' L (⟨.slice (some ⟨g,0,none⟩) n c,e,1,n,xs.set i v⟩::R)->wpList Pg ops Q rest (a.put op.dst undef) w'):wpList Pg ops Q (op::rest) a w:=
 Aa5 hgd fun K hK=>by
  have e0:xs=xs.take i ++ [xs[i]]++xs.drop (i+1):=by simp
  have M':=M
  rw[e0]at M'
  obtain⟨q1,q2⟩:=M'.rowPut (vs:=[v]) rfl
  have hl:(xs.take i).length=i:=by rw[List.length_take];omega
  rw[hl]at q1 q2
  have e1:xs.take i ++ [v]++xs.drop (i+1)=xs.set i v:=by rw[List.set_eq_take_append_cons_drop,if_pos hi];simp
  rw[e1]at q2
  have hr:=AcJ (Pg:=Pg) ot q1 hv hc
  unfold Oper.wp execOp
  simp only[ho,hx,hy,hr,Sem.run_bind,Sem.run_pure,Result.andThen_ok,Oper.upon]
  exact hK _ _ (h _ q2)
end
theorem sameB_any(Γ:Gam)(A A':Option Addr)(c c':Nat)(l:List Int)(hl:l.length<=65535)(h:SlG Γ A l.length (ints .i64 l))(h':SlG Γ A' l.length (ints .i64 l))(w:World)(ok:Ok Γ w) :
  Calls Try.prog 8 #[.slice A l.length c,.slice A' l.length c'] w fun e w'=>e=.returned (.bool true)/\Ext Γ w Γ w':=by
 have M:=bx (MM.start ok)
 have H:=bx h
 have H':=bx h'
 clear ok h h'
 go_enter Try.func8,Try.ntmps8
 (go_wp2_with (first|go_skip|((first|refine zBXd ?_|refine zALd (Ac5) ?_);clear M;intro w' g M)|fail|refine zLAd ?_))
 go_loopw [5] (fun i wr=>∃k:Nat,k<=l.length/\i=.int .i64 (k:Int)/\MM Γ w Γ wr [] []) (fun i _=>l.length-(intOf i).toNat)
 case atStart=>exact⟨0,Nat.zero_le _,rfl,M.o⟩
 case round=>
  obtain⟨k,hk,rfl,hM⟩:=hrel
  clear M
  have M:=bx hM
  clear hM
  by_cases hkn:k<l.length
  .obtain⟨g1,rfl,hc1⟩:=AgX H.o k hkn
   obtain⟨g2,rfl,hc2⟩:=AgX H'.o k hkn
   have F1:Bx (Fz Γ g1 k [[.int .i64 l[k]]] [1]):=⟨hc1,rfl⟩
   have F2:Bx (Fz Γ g2 k [[.int .i64 l[k]]] [1]):=⟨hc2,rfl⟩
   have hki:(k:Int)<(l.length:Int):=by omega
   have hk0:0<=(k:Int):=by omega
   clear hc1 hc2
   generalize l[k]=y at *
   (go_wp2_with (first|go_skip|((first|refine zBXd ?_|refine zALd (Ac5) ?_);clear M;intro w' g M)|fail|refine zLAd ?_))
   refine zRG ?_;(repeat(first|go_big_quiet_skip|(go_big_quiet_want;first|((first|refine zQFd F1 ?_|refine zQFd F2 ?_|refine zQAd ?_);go_big_quiet_on;refine zNM ?_)|(refine zQO ?_;go_big_quiet_on))));(refine zQN ?_;clear M;intro w4 M)
   (go_wp2_with (first|go_skip|((first|refine zBXd ?_|refine zALd (Ac5) ?_);clear M;intro w' g M)|fail|refine zLAd ?_))
   go_roundw
   case rel=>exact⟨k+1,by omega,by go_num,M.o⟩
   case measure=>simp[intOf];omega
  .obtain rfl:k=l.length:=by omega
   (go_wp2_with (first|go_skip|((first|refine zBXd ?_|refine zALd (Ac5) ?_);clear M;intro w' g M)|fail|refine zLAd ?_))
   go_ret
   exact⟨rfl,M.o.ext⟩
theorem and_3u(x:U):∃y:U,bits .and .u64 (x.n:Int) 3=(y.n:Int):=by
 have h:=Aj0 (x.n:Int) 2 (by decide) (by omega) (by have:=x.lt;omega)
 have hl:=x.lt
 exact⟨⟨x.n%4,by omega⟩,h.trans (by show(x.n:Int)%((2 ^ 2:Nat):Int)=((x.n%4:Nat):Int);simp)⟩
theorem protoarrayBuilds_walk(a0:Option Addr)(n0 c0:Nat)(l0:List Int)(a1:Option Addr)(n1 c1:Nat)(l1:List Int)(a2:Int)(w:World)(_:Fit .i64 l0)(_:l0.length=n0)(hr0:Row w w.heap.size 1 a0 n0 (ints .i64 l0))(hnc0:n0<=c0)(hcm0:c0<=maxLen)
  (_:Fit .i64 l1) (_:l1.length=n1) (hr1:Row w w.heap.size 1 a1 n1 (ints .i64 l1)) (hnc1:n1<=c1) (hcm1:c1<=maxLen) (_:(Lit.int .i64 a2).wf=true) :
  Calls Try.prog 3 #[.slice a0 n0 c0,.slice a1 n1 c1,.int .i64 a2] w fun e w'=>e=.returned (.bool true)/\Below w.heap.size w w':=by
 have M:=bx (MM.start (AkK w))
 have TR:=bx (treeF_any g0 a0 n0 c0 l0 w (AkK w) hr0 (Nat.le_trans hnc0 hcm0))
 have NB:=bx (fun n (hn:n<=64) w' (hb:Below w.heap.size w w')=>numbersF_any w.heap.size a1 n1 c1 l1 n hn w' (hr1.below hb) (Nat.le_trans hnc1 hcm1) hb.size)
 clear hr0 hnc0 hcm0 hr1 hnc1 hcm1
 go_enter Try.func3,Try.ntmps3
 (go_wp2_with (first|go_skip|((first|refine zBXd ?_|refine zALd (Ac5) ?_);clear M;intro w' g M)|fail|refine zLAd ?_))
 refine TR.o.mono ?_
 rintro e1 w1 ⟨x,N,Γ1,rfl,hp,h9,ht,hg,hx⟩
 replace M:=bx (M.o.call hx)
 obtain⟨A,n,c⟩:=x
 obtain rfl:n=N.length:=hg.n
 have HG:=bx hg
 have HT:=bx ht
 obtain⟨nn,hnn⟩:∃n,N.length=n:=⟨_,rfl⟩
 have HN:=bx hnn
 rw[hnn]at h9
 simp only[hnn]
 clear hx hg ht hp TR hnn
 go_upto_region 2 with(first|go_skip|((refine zALd (Ac5) ?_;clear M;intro w' g M);(obtain⟨g7,hg0⟩:∃y,y=g:=⟨_,rfl⟩);subst hg0)|(refine zSSd M 0 [[.slice A nn c]] [[.slice A nn c]] (by rfl) (AbZ _ _ _) ?_;clear M;intro w' M))
 (go_wp2_with (first|go_skip|((first|refine zBXd ?_|refine zALd (Ac5) ?_);clear M;intro w' g M)|fail|refine zLAd ?_))
 refine(NB.o nn (by omega) _ M.bel).mono ?_
 rintro e1 w1 ⟨A8,c8,X,hX,rfl,ho,hx⟩
 replace M:=bx (M.o.rowNew hx ho)
 have HX:=bx hX
 clear hx ho NB hX
 (go_wp2_with (first|go_skip|((first|refine zBXd ?_|refine zALd (Ac5) ?_);clear M;intro w' g M)|fail|refine zLAd ?_))
 go_loopw [9] (fun i wr=>∃(k:Nat) (X:List U),k<=nn/\i=.int .i64 (k:Int)/\X.length=nn/\MM g0 w Γ1 wr [⟨g7,[[.slice A nn c]],[1]⟩] [⟨.slice A8 nn c8,29,1,nn,us X⟩]) (fun i _=>nn-(intOf i).toNat)
 case atStart=>exact⟨0,X,Nat.zero_le _,rfl,HX.o,M.o⟩
 case round=>
  clear M HX
  obtain⟨k,X,hk,rfl,hX,hM⟩:=hrel
  have M:=bx hM
  have HX:=bx hX
  clear hM hX
  by_cases hkn:k<nn
  .obtain⟨g8,rfl,hc1,hc2⟩:=M.o.rowHd (by omega)
   have hkx:k<(us X).length:=by rw[Ae2,HX.o];exact hkn
   have hkX:k<X.length:=by rw[HX.o];exact hkn
   obtain⟨x,hx⟩:∃x,X[k]=x:=⟨_,rfl⟩
   have hv:(us X)[k]? = some (.int .u64 (x.n:Int)):=by rw[us,List.getElem?_map,List.getElem?_eq_getElem hkX,hx];rfl
   obtain⟨y,hy⟩:=and_3u x
   have hki:(k:Int)<(nn:Int):=by omega
   have hk0:(0:Int)<=(k:Int):=by omega
   have HV:=bx hv
   have HKX:=bx hkx
   clear hv hx hkX hkx hc1 hc2
   (go_wp2_with (first|go_skip|((first|refine zBXd ?_|refine zALd (Ac5) ?_);clear M;intro w' g M)|((with_reducible apply wpList_ldC M.o k HKX.o HV.o);rfl;rfl;rfl;exact zots)|((with_reducible apply wpList_stC M.o k HKX.o (.int .u64 (y.n:Int)) rfl rfl);rfl;rfl;rfl;rfl;exact zots;intro w' M';(replace M:=bx M';clear M');refine zNM ?_)|refine zLAd ?_))
   go_roundw
   case rel=>
    have e1:(us X).set k (.int .u64 (y.n:Int))=us (X.set k y):=by unfold us;rw[List.map_set];rfl
    refine⟨k+1,X.set k y,by omega,by go_num,by rw[List.length_set];exact HX.o,?_⟩
    rw[<-e1];exact M.o
   case measure=>simp[intOf];omega
  .obtain rfl:k=nn:=by omega
   obtain⟨Γ2,h1,h2,h3,h4⟩:=M.o.frz
   clear M
   have M:=bx h4
   have HG2:=bx (HG.o.mono h3)
   have HW:=bx h2
   clear h1 h2 h3 h4 HG
   have hb1:1*k<=281474976710656:=by omega
   have hb2:k<=9223372036854775807:=by omega
   go_upto_region 8 with(first|go_skip|((with_reducible apply Ab3 M.o AlW k hb1 hb2);rfl;rfl;rfl;rfl;intro w' g M' hb';(replace M:=bx M';clear M');clear hb';(obtain⟨gb,hg0⟩:∃y,y=g:=⟨_,rfl⟩);subst hg0;refine zNM ?_)|refine zLAd ?_)
   rw[AgM,Nat.mul_one,show List.replicate k (Value.bool false)=bls (List.replicate k false)by simp[bls]]at M
   (go_wp2_with (first|go_skip|((first|refine zBXd ?_|refine zALd (Ac5) ?_);clear M;intro w' g M)|fail|refine zLAd ?_))
   go_loopw [11] (fun i wr=>∃(j:Nat) (B:List Bool),j<=k/\i=.int .i64 (j:Int)/\B.length=k/\MM g0 w Γ2 wr [⟨gb,[bls B],[k]⟩,⟨g7,[[.slice A k c]],[1]⟩] []) (fun i _=>k-(intOf i).toNat)
   case atStart=>exact⟨0,List.replicate k false,Nat.zero_le _,rfl,by simp,M.o⟩
   case round=>
    clear M
    obtain⟨j,B,hj,rfl,hB,hM⟩:=hrel
    have M:=bx hM
    have HB:=bx hB
    clear hM hB
    by_cases hjn:j<k
    .have hki:(j:Int)<(k:Int):=by omega
     have hk0:(0:Int)<=(j:Int):=by omega
     have hjb:j<(bls B).length:=by unfold bls;rw[List.length_map,HB.o];exact hjn
     have hju:IntKind.u64.wrap (j:Int)=(j:Int):=AdW (by omega) (by omega)
     have HJB:=bx hjb
     clear hjb
     cases hbb:(bits .and .i64 (a2 / 2 ^ j) 1==0)with
     |true=>
      (go_wp2_with (first|go_skip|((first|refine zBXd ?_|refine zALd (Ac5) ?_);clear M;intro w' g M)|((with_reducible apply AaI (k:=j) M.o 0 (.bool true));rfl;exact HJB.o;rfl;rfl;rfl;rfl;exact zots;rfl;rfl;intro w' M';(simp only[List.set_cons_zero,List.set_cons_succ]at M');(replace M:=bx M';clear M');refine zNM ?_)|refine zLAd ?_))
      go_roundw
      case rel=>
       have e1:(bls B).set j (.bool true)=bls (B.set j true):=by unfold bls;rw[List.map_set]
       refine⟨j+1,B.set j true,by omega,by go_num,by rw[List.length_set];exact HB.o,?_⟩
       rw[<-e1];exact M.o
      case measure=>simp[intOf];omega
     |false=>
      (go_wp2_with (first|go_skip|((first|refine zBXd ?_|refine zALd (Ac5) ?_);clear M;intro w' g M)|((with_reducible apply AaI (k:=j) M.o 0 (.bool false));rfl;exact HJB.o;rfl;rfl;rfl;rfl;exact zots;rfl;rfl;intro w' M';(simp only[List.set_cons_zero,List.set_cons_succ]at M');(replace M:=bx M';clear M');refine zNM ?_)|refine zLAd ?_))
      go_roundw
      case rel=>
       have e1:(bls B).set j (.bool false)=bls (B.set j false):=by unfold bls;rw[List.map_set]
       refine⟨j+1,B.set j false,by omega,by go_num,by rw[List.length_set];exact HB.o,?_⟩
       rw[<-e1];exact M.o
      case measure=>simp[intOf];omega
    .obtain rfl:j=k:=by omega
     obtain⟨Γ3,hs,hl,hM⟩:=M.o.frzS j
     clear M
     have M:=bx hM
     have HG3:=bx (HG2.o.mono hl)
     have HW3:=bx (HW.o.mono hl)
     have HL3:=bx hs
     have LX:Bx (X.length=N.length):=⟨by rw[HX.o,HN.o]⟩
     have LB:Bx (B.length=N.length):=⟨by rw[HB.o,HN.o]⟩
     have VB:Bx (∀Γ',Le Γ3 Γ'->∀w,Ok Γ' w->Calls Try.prog 6 #[.agg [.slice A j c].toArray,.slice A8 j c8,.slice (some ⟨gb,0,none⟩) j j] w (LksP Γ' w (bstL N X B) (dscL N X B))):=⟨fun Γ' hl w ok=>by
      have:=Ag0 Γ' ⟨A,N.length,c⟩ N A8 (some ⟨gb,0,none⟩) c8 j X B HT.o.lk HT.o.df (by have:=HN.o;omega) LX.o LB.o w ok (HG3.o.mono hl) (by rw[HN.o];exact HW3.o.mono hl) (by rw[HN.o];exact HL3.o.mono hl)
      rw[HN.o]at this
      exact this⟩
     have RB:Bx (∀Γ',Le Γ3 Γ'->∀w,Ok Γ' w->Calls Try.prog 7 #[.agg [.slice A j c].toArray,.slice A8 j c8,.slice (some ⟨gb,0,none⟩) j j] w (LksP Γ' w (bstL N X B) (dscL N X B))):=⟨fun Γ' hl w ok=>by
      have:=Ak1 Γ' ⟨A,N.length,c⟩ N A8 (some ⟨gb,0,none⟩) c8 j X B HT.o.lk (by have:=HN.o;omega) LX.o LB.o w ok (HG3.o.mono hl) (by rw[HN.o];exact HW3.o.mono hl) (by rw[HN.o];exact HL3.o.mono hl)
      rw[HN.o]at this
      exact this⟩
     have LC:Bx ((bstL N X B).length<=65535):=⟨by unfold bstL;rw[AaQ];have:=HN.o;omega⟩
     have LD:Bx ((dscL N X B).length<=65535):=⟨by unfold dscL;rw[AaQ];have:=HN.o;omega⟩
     clear hM hs hl HG2 HW HG3 HW3 HL3 LX LB HX HB HT HN
     generalize bstL N X B=lc at *
     generalize dscL N X B=ld at *
     go_upto_region 12 with fail
     go_cut [12,13]from 14 (fun s12 s13 wx=>∃(gx gy:Nat) (AV BV AR BR:Option Addr) (cV dV cR dR:Nat) (Γ5:Gam),s12=.pointer (some ⟨gx,0,none⟩)/\s13=.pointer (some ⟨gy,0,none⟩)/\MM g0 w Γ5 wx [⟨gx,lkP (.slice AV lc.length cV) (.slice BV ld.length dV),[1,1]⟩,⟨gy,lkP (.slice AR lc.length cR) (.slice BR ld.length dR),[1,1]⟩,⟨g7,[[.slice A j c]],[1]⟩] []/\SlG Γ5 AV lc.length (ints .i64 lc)/\SlG Γ5 BV ld.length (ints .i64 ld)/\SlG Γ5 AR lc.length (ints .i64 lc)/\SlG Γ5 BR ld.length (ints .i64 ld))
     case first=>
      have hl1:([[Value.slice A j c]]:List (List Value)).map List.length = [1]:=rfl
      go_wp2_with fail
      refine Aai (fun w'=>HL w' g7 [[.slice A j c]] [1]) (.steps [(0,0),(1,1),(1,2),(0,4),(1,5),(1,6)] (.fork3 3 (.fork3 7 (.fork 8 (.steps [(3,9)] (.steps [(3,10)] (.steps [(3,11)] .leaf))) 9 (.steps [(3,8)] (.steps [(3,10)] (.steps [(3,11)] .leaf)))) 8 (.fork 7 (.steps [(3,9)] (.steps [(3,10)] (.steps [(3,11)] .leaf))) 9 (.fork 7 (.steps [(3,10)] (.steps [(3,11)] .leaf)) 10 (.steps [(3,7)] (.steps [(3,11)] .leaf)))) 9 (.fork 7 (.steps [(3,8)] (.steps [(3,10)] (.steps [(3,11)] .leaf))) 8 (.fork 7 (.steps [(3,10)] (.steps [(3,11)] .leaf)) 10 (.steps [(3,7)] (.steps [(3,11)] .leaf))))) 8 (.fork 3 (.fork 7 (.steps [(3,9)] (.steps [(3,10)] (.steps [(3,11)] .leaf))) 9 (.fork 7 (.steps [(3,10)] (.steps [(3,11)] .leaf)) 10 (.steps [(3,7)] (.steps [(3,11)] .leaf)))) 9 (.steps [(3,3)] (.fork 7 (.steps [(3,10)] (.steps [(3,11)] .leaf)) 10 (.steps [(3,7)] (.steps [(3,11)] .leaf))))) 9 (.fork 3 (.fork 7 (.steps [(3,8)] (.steps [(3,10)] (.steps [(3,11)] .leaf))) 8 (.fork 7 (.steps [(3,10)] (.steps [(3,11)] .leaf)) 10 (.steps [(3,7)] (.steps [(3,11)] .leaf)))) 8 (.steps [(3,3)] (.fork 7 (.steps [(3,10)] (.steps [(3,11)] .leaf)) 10 (.steps [(3,7)] (.steps [(3,11)] .leaf))))))) (by kernel_rfl) (by kernel_rfl) M.o.drew.at0 ?_;(simp only[MixT7,MT.steps,stepI,List.getD_cons_zero,List.getD_cons_succ]);replace M:=bx (M.o.drew)
      refine zNM ?_
      (repeat(first|refine zM0 ?_|(go_big_quiet_want;first|(refine zQL (fun _ h=>h) hl1 ?_;go_big_quiet_on;refine zNM ?_)|(refine zQO ?_;go_big_quiet_on))))
      repeat' (first|(with_reducible refine And.intro ?_ ?_)|(refine zMC (VB.o _ (Le.refl _) _ M.ok) Try.func6 ?_;rintro e1 w1 ⟨AV,BV,cV,dV,ΓV,rfl,hcA,hcB,hsA,hsB,hx⟩;replace M:=bx (M.o.call hx);refine⟨_,rfl,(by first|exact M.o.at0|exact M.o.at1|exact M.o.at2),?_⟩;have SA:=bx hsA;have SB:=bx hsB;have LR:=bx hx.le;clear hx hcA hcB hsA hsB VB;refine zNM ?_;refine zMR7 ?_)|(refine zMC (RB.o _ LR.o _ M.ok) Try.func7 ?_;rintro e1 w1 ⟨AR,BR,cR,dR,ΓR,rfl,hcA,hcB,hsA,hsB,hx⟩;replace M:=bx (M.o.call hx);refine⟨_,rfl,(by first|exact M.o.at0|exact M.o.at1|exact M.o.at2),?_⟩;have SA2:=bx (SA.o.mono hx.le);have SB2:=bx (SB.o.mono hx.le);have RA:=bx hsA;have RBb:=bx hsB;clear hx hcA hcB hsA hsB RB SA SB;refine zNM ?_;refine zMR7 ?_)|(refine AaF (Aaa rfl ztLk) rfl ?_;replace M:=bx (M.o.alloc (P:=lkP (.slice none 0 0) (.slice none 0 0)) (ls:=[1,1]) rfl rfl 33);(obtain⟨gk,hg0⟩:=pickT M.o);rw[<-hg0]at M |-;clear hg0;refine zNM ?_;refine⟨(by first|exact M.o.at0|exact M.o.at1|exact M.o.at2),?_⟩;refine zMR7 ?_)|((first|refine Aax M.o 0 (lkP (.slice AV _ cV) (.slice BV _ dV)) (lkP (.slice AV _ cV) (.slice BV _ dV)) rfl rfl rfl rfl rtLk rfl rfl (Acm _ _ _ _ _ _) rfl rfl ?_|refine Aax M.o 1 (lkP (.slice AV _ cV) (.slice BV _ dV)) (lkP (.slice AV _ cV) (.slice BV _ dV)) rfl rfl rfl rfl rtLk rfl rfl (Acm _ _ _ _ _ _) rfl rfl ?_|refine Aax M.o 0 (lkP (.slice AR _ cR) (.slice BR _ dR)) (lkP (.slice AR _ cR) (.slice BR _ dR)) rfl rfl rfl rfl rtLk rfl rfl (Acm _ _ _ _ _ _) rfl rfl ?_|refine Aax M.o 1 (lkP (.slice AR _ cR) (.slice BR _ dR)) (lkP (.slice AR _ cR) (.slice BR _ dR)) rfl rfl rfl rfl rtLk rfl rfl (Acm _ _ _ _ _ _) rfl rfl ?_);intro w7 M';(simp only[List.set_cons_zero,List.set_cons_succ]at M');(replace M:=bx M';clear M');refine zNM ?_;refine⟨(by first|exact M.o.at0|exact M.o.at1|exact M.o.at2),?_⟩;refine zMR7 ?_))
      all_goals (refine NoPanic.normal ?_;go_wp2_with fail;go_meet)
      all_goals exact⟨_,_,AV,BV,AR,BR,cV,dV,cR,dR,_,rfl,rfl,(by first|exact M.o|exact M.o.swap),SA2.o,SB2.o,RA.o,RBb.o⟩
     case rest=>
      clear M
      obtain⟨gx,gy,AV,BV,AR,BR,cV,dV,cR,dR,Γ5,rfl,rfl,hM,h1,h2,h3,h4⟩:=hcut
      have M:=bx hM
      have S1:=bx (fun w ok=>sameB_any Γ5 AV AR cV cR lc LC.o h1 h3 w ok)
      have S2:=bx (fun w ok=>sameB_any Γ5 BV BR dV dR ld LD.o h2 h4 w ok)
      clear hM h1 h2 h3 h4 VB RB
      (go_wp2_with (first|go_skip|((first|refine zBXd ?_|refine zALd (Ac5) ?_);clear M;intro w' g M)|fail|refine zLAd ?_))
      refine zCA M (S1.o _ M.ok) ?_;clear M;intro w1 M
      (go_wp2_with (first|go_skip|((first|refine zBXd ?_|refine zALd (Ac5) ?_);clear M;intro w' g M)|fail|refine zLAd ?_))
      refine zCA M (S2.o _ M.ok) ?_;clear M;intro w1 M
      (go_wp2_with (first|go_skip|((first|refine zBXd ?_|refine zALd (Ac5) ?_);clear M;intro w' g M)|fail|refine zLAd ?_))
      refine zCB M (Akq _) ?_;clear M;intro w1 M
      (go_wp2_with (first|go_skip|((first|refine zBXd ?_|refine zALd (Ac5) ?_);clear M;intro w' g M)|fail|refine zLAd ?_))
      go_ret
      exact⟨rfl,M.bel⟩
end Go.Proofs.Ytpaihpeoiliioaa
