/- Texts joined (LK35). -/
import Derived.Test.YtpaihpeoiliioaaLK34
set_option linter.all false
set_option maxRecDepth 20000
set_option maxHeartbeats 40000000
namespace Go.Proofs.Ytpaihpeoiliioaa
open Go.RowKit Old
theorem pickT{Γ0 Γ:Gam}{w0 w:World}{g:Nat}{P:List (List Value)}{ls:List Nat}{L:List Ent}{R:List RowE}(_:MM Γ0 w0 Γ w (⟨g,P,ls⟩::L) R):∃y,y=g:=⟨g,rfl⟩
theorem built_t0(r y:Rt):Try.prog.built 50 [(2,.agg (rc r).toArray),(4,.agg (rc y).toArray)]=some (fl (blP {b0 with root:=r,payload:=y})).toArray:=by
 rw[stBl.eq]
 refine AaD (Q:=[rc r]) stBl.len rfl rfl rfl (lenR r) rfl fun hl=>?_
 refine AaD (Q:=[rc y]) hl rfl rfl rfl (lenR y) rfl fun hl=>?_
 rfl
theorem built_t1(sl:U)(r pr y:Rt):Try.prog.built 50 [(2,.agg (rc r).toArray),(3,.agg (rc pr).toArray),(1,.int .u64 (sl.n:Int)),(4,.agg (rc y).toArray)]=some (fl (blP {b0 with slot:=sl,root:=r,parent:=pr,payload:=y})).toArray:=by
 rw[stBl.eq]
 refine AaD (Q:=[rc r]) stBl.len rfl rfl rfl (lenR r) rfl fun hl=>?_
 refine AaD (Q:=[rc pr]) hl rfl rfl rfl (lenR pr) rfl fun hl=>?_
 refine AaD (Q:=[[.int .u64 (sl.n:Int)]]) hl rfl rfl rfl rfl rfl fun hl=>?_
 refine AaD (Q:=[rc y]) hl rfl rfl rfl (lenR y) rfl fun hl=>?_
 rfl
theorem int3_run:Try.prog.builtSlice 3 3 [(0,.int .i64 0),(1,.int .i64 1),(2,.int .i64 2)]=some (fl [[.int .i64 0],[.int .i64 1],[.int .i64 2]]).toArray:=by kernel_rfl
theorem wpList_bs3{Γ0 Γ:Gam}{w0 w:World}{L:List Ent}{R:List RowE}{ops:Array Oper}{rest:List Oper}{op:Oper}{a:Act}{Q:Exit->Act->World->Prop}(M:MM Γ0 w0 Γ w L R)
  (ho:op.op=.buildSlice 22 3 #[(0,.const (.int .i64 0)),(1,.const (.int .i64 1)),(2,.const (.int .i64 2))]) (hgd:Region.wanted op (yielded ops a.tmps)=true) (h:∀w' g,MM Γ0 w0 Γ w' (⟨g,[[.int .i64 0],[.int .i64 1],[.int .i64 2]],[1,1,1]⟩::L) R->wpList Try.prog ops Q rest (a.put op.dst (.slice (some ⟨g,0,none⟩) 3 3)) w'):wpList Try.prog ops Q (op::rest) a w:=
 Aa5 hgd fun K hK=>by
  unfold Oper.wp
  rw[Ac1 Try.underlying22 [(0,.int .i64 0),(1,.int .i64 1),(2,.int .i64 2)] (fl [[.int .i64 0],[.int .i64 1],[.int .i64 2]]) ho rfl int3_run,Oper.upon_value]
  exact hK _ _ (h _ _ (M.alloc (P:=[[.int .i64 0],[.int .i64 1],[.int .i64 2]]) (ls:=[1,1,1]) rfl rfl 3))
structure Tr2(N:List Nod):Prop where
 lk:Lk (upsN N)
 df:∀i j (hi:i<N.length) (hj:j<N.length),N[i].b.root=N[j].b.root->i=j
theorem Tr2.one(b:Blk)(st:Int):Tr2 [⟨b,-1,st⟩]:=⟨AlX fun i hi=>.inl (by simp at hi;subst hi;exact⟨rfl,rfl⟩),fun i j hi hj _=>by simp at hi hj;omega⟩
theorem Tr2.push{N:List Nod}(h:Tr2 N){b:Blk}{u:Nat}{st:Int}(hu:u<N.length)(hr:∀n∈N,n.b.root≠b.root):Tr2 (N ++ [⟨b,(u:Int),st⟩]):=by
 refine⟨AlX fun i hi=>?_,fun i j hi hj e=>?_⟩
 .by_cases hlt:i<N.length
  .rw[List.getElem_append_left hlt];exact Acl h.lk hlt
  .have:i=N.length:=by simp at hi;omega
   subst this
   exact .inr ⟨u,hu,by simp⟩
 .simp only[List.length_append,List.length_cons,List.length_nil]at hi hj
  by_cases h1:i<N.length
  .rw[List.getElem_append_left h1]at e
   by_cases h2:j<N.length
   .rw[List.getElem_append_left h2]at e;exact h.df i j h1 h2 e
   .obtain rfl:j=N.length:=by omega
    have e':N[i].b.root=b.root:=by simpa using e
    exact absurd e' (hr _ (List.getElem_mem h1))
  .obtain rfl:i=N.length:=by omega
   by_cases h2:j<N.length
   .rw[List.getElem_append_left h2]at e
    have e':b.root=N[j].b.root:=by simpa using e
    exact absurd e'.symm (hr _ (List.getElem_mem h2))
   .omega
theorem ins_two(N:List Nod)(b:Blk)(st:Int)(h:Tr2 N):((insN N b st).1==0)=false\/∃N',insN N b st=(0,N')/\N'.length=N.length+1/\Tr2 N':=by
 unfold insN
 split
 .exact .inl rfl
 .split
  .exact .inl rfl
  .split
   .exact .inl rfl
   .split
    .exact .inl rfl
    .split
     .exact .inl rfl
     .rename_i h1 h2 h3 _ _
      obtain⟨u,hu,e,_⟩:=AcV (by omega:0<=fndI N b.parent)
      exact .inr ⟨_,rfl,by simp,by rw[e];exact h.push hu (Ai4 (by omega))⟩
def TreP(Γ:Gam)(w:World)(e:Ending)(w':World):Prop:=∃(x:Sl) (N:List Nod) (Γ':Gam),e=.returned (.agg (fl [[x.v]]).toArray)/\0<N.length/\N.length<=9/\Tr2 N/\NG Γ' x N/\Ext Γ w Γ' w'
theorem treeF_any(Γ:Gam)(A:Option Addr)(n c:Nat)(l:List Int)(w:World)(ok:Ok Γ w)(hr:Row w w.heap.size 1 A n (ints .i64 l))(hn:n<=maxLen) :
  Calls Try.prog 4 #[.slice A n c] w (TreP Γ w):=by
 have M:=bx (MM.start ok)
 have ATX:Bx (∀(i:Nat),i<=65535->∀(j:Int),j=(i:Int)->∃k:Nat,k<=16777215+i/\∀w',Below w.heap.size w w'->Calls Try.prog 12 #[.slice A n c,.int .i64 j] w' fun e w''=>e=.returned (.int .i64 (k:Int))/\Below w'.heap.size w' w''):=⟨fun i hi j hj=>by
  subst hj
  exact⟨atV l i,Al2 l i,fun w' hb=>Akr w.heap.size A n c l i hi w' (hr.below hb) hn hb.size⟩⟩
 clear ok hr hn
 obtain⟨k0,i0,T0⟩:=ATX.o 0 (by omega) 0 rfl
 obtain⟨k1,i1,T1⟩:=ATX.o 1 (by omega) 1 rfl
 obtain⟨k2,i2,T2⟩:=ATX.o 2 (by omega) 2 rfl
 have T0:=bx T0
 have T1:=bx T1
 have T2:=bx T2
 go_enter Try.func4,Try.ntmps4
 go_upto_region 1 with(first|go_skip|((refine zALd (Ac5) ?_;clear M;intro w' g M);(obtain⟨g2,hg0⟩:∃y,y=g:=⟨_,rfl⟩);subst hg0))
 (go_wp2_with (first|go_skip|((first|refine zBXd ?_|refine zALd (ztBl) ?_|refine zALd (ztNo) ?_|refine zALd (Ac5) ?_);clear M;intro w' g M)|fail|refine zLAd ?_))
 (refine(Ahd _ _).mono ?_;rintro e1 w1 ⟨rfl,hx⟩;replace M:=bx (M.o.below hx);clear hx)
 (go_wp2_with (first|go_skip|((first|refine zBXd ?_|refine zALd (ztBl) ?_|refine zALd (ztNo) ?_|refine zALd (Ac5) ?_);clear M;intro w' g M)|fail|refine zLAd ?_))
 (refine(T0.o _ M.bel).mono ?_;rintro e1 w1 ⟨rfl,hx⟩;replace M:=bx (M.o.below hx);clear hx)
 (go_wp2_with (first|go_skip|((first|refine zBXd ?_|refine zALd (ztBl) ?_|refine zALd (ztNo) ?_|refine zALd (Ac5) ?_);clear M;intro w' g M)|fail|refine zLAd ?_))
 (refine(Ahd _ _).mono ?_;rintro e1 w1 ⟨rfl,hx⟩;replace M:=bx (M.o.below hx);clear hx)
 generalize rtB _=ry at *
 generalize rtB 1=rr at *
 (go_wp2_with (first|go_skip|((first|refine zBXd ?_|refine zALd (ztBl) ?_|refine zALd (ztNo) ?_|refine zALd (Ac5) ?_);clear M;intro w' g M)|refine zBDd 50 [(2,.agg (rc rr).toArray),(4,.agg (rc ry).toArray)] (fl (blP {b0 with root:=rr,payload:=ry})) (built_t0 _ _) ?_|refine zLAd ?_))
 (refine(T1.o _ M.bel).mono ?_;rintro e1 w1 ⟨rfl,hx⟩;replace M:=bx (M.o.below hx);clear hx)
 (go_wp2_with (first|go_skip|((first|refine zBXd ?_|refine zALd (ztBl) ?_|refine zALd (ztNo) ?_|refine zALd (Ac5) ?_);clear M;intro w' g M)|fail|refine zLAd ?_))
 refine(AgZ Γ _ _ _ M.ok).mono ?_
 rintro e1 w1 ⟨x,Γ1,rfl,hg,hx⟩
 replace M:=bx (M.o.call hx)
 have LE:=bx hx.le
 have HG:=bx hg
 have HT:=bx (Tr2.one {b0 with root:=rr,payload:=ry} ((k1:Int)%3))
 clear hx hg T0 T1 i0 i1
 go_upto_region 2 with(first|go_skip|((refine zALd (Ac5) ?_;clear M;intro w' g M);(obtain⟨g3,hg0⟩:∃y,y=g:=⟨_,rfl⟩);subst hg0)|(refine zSSd M 0 [[x.v]] [[x.v]] (by rfl) (AbZ _ _ _) ?_;clear M;intro w' M))
 (go_wp2_with (first|go_skip|((first|refine zBXd ?_|refine zALd (ztBl) ?_|refine zALd (ztNo) ?_|refine zALd (Ac5) ?_);clear M;intro w' g M)|fail|refine zLAd ?_))
 go_loopw [4] (fun i wr=>∃(k:Nat) (x:Sl) (N:List Nod) (Γk:Gam),0<k/\k<=9/\i=.int .i64 (k:Int)/\N.length=k/\Tr2 N/\NG Γk x N/\MM Γ w Γk wr [⟨g3,[[x.v]],[1]⟩,⟨g2,[[.slice none 0 0]],[1]⟩] []) (fun i _=>9-(intOf i).toNat)
 case atStart=>exact⟨1,x,_,Γ1,Nat.zero_lt_one,by decide,rfl,rfl,HT.o,HG.o,M.o⟩
 case round=>
  clear M HT HG LE
  obtain⟨k,x,N,Γk,hk0,hk9,rfl,hN,hT,hG,hM⟩:=hrel
  obtain⟨A1,n1,c1⟩:=x
  obtain rfl:n1=k:=hG.n.trans hN
  have hM2:MM Γ w Γk _ [⟨g3,[[.slice A1 n1 c1]],[1]⟩,⟨g2,[[.slice none 0 0]],[1]⟩] []:=hM
  have M:=bx hM2
  have HT:=bx hT
  have HG:=bx hG
  have HN:=bx hN
  clear hM hM2 hT hG hN
  (go_wp2_with (first|go_skip|((first|refine zBXd ?_|refine zALd (ztBl) ?_|refine zALd (ztNo) ?_|refine zALd (Ac5) ?_);clear M;intro w' g M)|fail|refine zLAd ?_))
  (refine(T2.o _ M.bel).mono ?_;rintro e1 w1 ⟨rfl,hx⟩;replace M:=bx (M.o.below hx);clear hx)
  by_cases hlt:(n1:Int)<1+(k2:Int)%9
  .have hk8:n1<=8:=by omega
   obtain⟨q,iq,TQ⟩:=ATX.o (2+n1) (by omega) (2+(n1:Int)) (by omega)
   have TQ:=bx TQ
   (go_wp2_with (first|go_skip|((first|refine zBXd ?_|refine zALd (ztBl) ?_|refine zALd (ztNo) ?_|refine zALd (Ac5) ?_);clear M;intro w' g M)|fail|refine zLAd ?_))
   (refine(TQ.o _ M.bel).mono ?_;rintro e1 w1 ⟨rfl,hx⟩;replace M:=bx (M.o.below hx);clear hx)
   clear TQ ATX T2
   have hq0:(0:Int)<=(q:Int):=by omega
   have hk00:((n1:Int)==0)=false:=by rw[beq_eq_false_iff_ne];omega
   obtain⟨m,hm1,hm2⟩:∃m:Nat,(q:Int)%(n1:Int)=(m:Int)/\m<n1:=⟨q%n1,by omega,Nat.mod_lt _ hk0⟩
   have hmi:(m:Int)<(n1:Int):=by omega
   have hm0:(0:Int)<=(m:Int):=by omega
   have hml:m<N.length:=by rw[HN.o];exact hm2
   obtain⟨gn,hA,hf⟩:=SlR.fz (f:=noP) (k:=240) HG.o AaG rfl m hml
   obtain rfl:A1=some ⟨gn,0,none⟩:=by injection hA
   have F1:=bx hf
   clear hf hA
   generalize N[m]=y at *
   obtain⟨q4,hq4,i4⟩:=AnW q 16 16 rfl;obtain⟨r4,e4,f4⟩:=Ajf q4 3 (by decide) 3 rfl;have c4:(0:Int)<=(q4:Int):=(by omega);have d4:(0:Int)<=(r4:Int):=(by omega)
   (go_wp2_with (first|go_skip|((first|refine zBXd ?_|refine zALd (ztBl) ?_|refine zALd (ztNo) ?_|refine zALd (Ac5) ?_);clear M;intro w' g M)|fail|refine zLAd ?_))
   refine AcQ [8] (.steps [(1,0),(0,1),(1,2),(1,3),(1,4),(1,5),(0,6),(2,7),(3,8)] .leaf) (by kernel_rfl) (by kernel_rfl) ?_;(simp only[MixT8,MT.steps,stepAt,List.getD_cons_zero,List.getD_cons_succ]);replace M:=bx (M.o.drew)
   refine zNM ?_
   (repeat(first|refine zM0 ?_|(go_big_quiet_want;first|((first|refine zQFd F1 ?_|refine zQAd ?_);go_big_quiet_on;refine zNM ?_)|(refine zQO ?_;go_big_quiet_on))))
   refine zH8 M ?_;clear M;intro w8 M
   refine AaF (Aaa rfl ztNo) rfl ?_
   refine⟨ext_alloc _ _,?_⟩
   replace M:=bx (M.o.alloc (P:=noP ⟨b0,0,0⟩) (ls:=noL) (AaG _) rfl 52)
   refine zNM ?_
   refine zH8 M ?_;clear M;intro w8 M
   refine zXS M 0 (noP y) (noP y) (AaG _) (AfR _) ?_;clear M;intro w7 M
   refine zH8 M ?_;clear M;intro w9 M;refine NoPanic.normal ?_
   (obtain⟨g6,hg0⟩:=pickT M.o);rw[<-hg0]at M |-;clear hg0
   go_upto_if 44 with(first|go_skip|((first|refine zBXd ?_|refine zALd (ztBl) ?_|refine zALd (ztNo) ?_|refine zALd (Ac5) ?_);clear M;intro w' g M)|fail|refine zLAd ?_)
   go_cut []from 22 to 115 (fun wx=>∃p:Nod,MM Γ w Γk wx [⟨g6,noP p,noL⟩,⟨g3,[[.slice (some ⟨gn,0,none⟩) n1 c1]],[1]⟩,⟨g2,[[.slice none 0 0]],[1]⟩] [])
   case first=>
    as_aux_lemma=>
     rcases Nat.eq_zero_or_pos r4 with hr|hr
     .subst hr
      (go_wp2_with (first|go_skip|((first|refine zBXd ?_|refine zALd (ztBl) ?_|refine zALd (ztNo) ?_|refine zALd (Ac5) ?_);clear M;intro w' g M)|fail|refine zLAd ?_))
      go_meet;(case rel=>exact⟨y,M.o⟩)
     .have hr':(0:Int)<(r4:Int):=by omega
      obtain⟨m2,hm3,hm4⟩:∃m2:Nat,(n1:Int)-1=(m2:Int)/\m2<n1:=⟨n1-1,by omega,by omega⟩
      have hmi2:(m2:Int)<(n1:Int):=by omega
      have hm20:(0:Int)<=(m2:Int):=by omega
      have hml2:m2<N.length:=by rw[HN.o];exact hm4
      obtain⟨gn2,hA2,hf2⟩:=SlR.fz (f:=noP) (k:=240) HG.o AaG rfl m2 hml2
      obtain rfl:gn2=gn:=by injection hA2 with h;injection h with h;injection h with h;exact h.symm
      have F2:=bx hf2
      clear hf2 hA2
      generalize N[m2]=y2 at *
      (go_wp2_with (first|go_skip|((first|refine zBXd ?_|refine zALd (ztBl) ?_|refine zALd (ztNo) ?_|refine zALd (Ac5) ?_);clear M;intro w' g M)|refine zRFd F2 ?_|(refine zSSd M 0 (noP y2) (noP y2) (AaG _) (AfR _) ?_;clear M;intro w' M)|refine zLAd ?_))
      go_meet;(case rel=>exact⟨y2,M.o⟩)
   clear M F1 hq4 i4 e4 f4 c4 d4 hm1 hm2 hmi hm0 hml
   obtain⟨p,hM⟩:=hcut
   have M:=bx hM
   clear hM
   obtain⟨q6,hq6,i6⟩:=AnW q 64 64 rfl;obtain⟨r6,e6,f6⟩:=Ajf q6 3 (by decide) 3 rfl;have c6:(0:Int)<=(q6:Int):=(by omega);have d6:(0:Int)<=(r6:Int):=(by omega)
   obtain⟨q8,hq8,i8⟩:=AnW q 256 256 rfl;obtain⟨r8,e8,f8⟩:=Ajf q8 3 (by decide) 3 rfl;have c8:(0:Int)<=(q8:Int):=(by omega);have d8:(0:Int)<=(r8:Int):=(by omega)
   obtain⟨q10,hq10,i10⟩:=AnW q 1024 1024 rfl;obtain⟨r10,e10,f10⟩:=Ajf q10 4 (by decide) 4 rfl;have c10:(0:Int)<=(q10:Int):=(by omega);have d10:(0:Int)<=(r10:Int):=(by omega)
   obtain⟨q12,hq12,i12⟩:=AnW q 4096 4096 rfl;obtain⟨r12,e12,f12⟩:=Ajf q12 3 (by decide) 3 rfl;have c12:(0:Int)<=(q12:Int):=(by omega);have d12:(0:Int)<=(r12:Int):=(by omega)
   obtain⟨us1,hu1⟩:=Any ((p.b.slot.n:Int)+1)
   obtain⟨us,hus⟩:=Any ((us1.n:Int)+(r8:Int))
   have hr8:IntKind.u64.wrap (r8:Int)=(r8:Int):=AdW (by omega) (by omega)
   go_upto_region 9 with fail
   go_cut [7]from 22 to 115 (fun s7 wx=>∃(g7:Nat) (b:Blk),s7=.pointer (some ⟨g7,0,none⟩)/\MM Γ w Γk wx [⟨g7,blP b,blL⟩,⟨g6,noP p,noL⟩,⟨g3,[[.slice (some ⟨gn,0,none⟩) n1 c1]],[1]⟩,⟨g2,[[.slice none 0 0]],[1]⟩] [])
   case first=>
    as_aux_lemma=>
     refine AcQ [25] (.steps [(1,0),(1,1),(1,2),(1,3),(1,4),(1,5),(1,6),(1,8),(1,9),(0,10),(1,11),(1,12),(0,13),(1,14),(1,15),(1,16),(1,17),(1,18),(1,19),(1,20),(1,21)] (.fork 7 (.fork 22 (.steps [(1,23),(2,24),(3,25)] .leaf) 24 (.steps [(2,22),(1,23),(3,25)] .leaf)) 24 (.steps [(2,7),(2,22),(1,23),(3,25)] .leaf))) (by kernel_rfl) (by kernel_rfl) ?_;(simp only[MixT8,MT.steps,stepAt,List.getD_cons_zero,List.getD_cons_succ]);replace M:=bx (M.o.drew)
     refine zNM ?_
     refine zMRd ?_
     refine zH8 M ?_;clear M;intro w8 M
     refine⟨?_,?_⟩
     ·(refine zMC (Ahd _ _) Try.func11 ?_;rintro e1 w1 ⟨rfl,hx⟩;refine⟨_,rfl,hx,?_⟩;replace M:=bx (M.o.below hx);clear hx;(generalize rtB _=ra at *);refine zNM ?_;refine zMRd ?_;refine zH8 M ?_;clear M;intro w8 M)
      refine⟨?_,?_⟩
      focus
       (refine zMC (Ahd _ _) Try.func11 ?_;rintro e1 w1 ⟨rfl,hx⟩;refine⟨_,rfl,hx,?_⟩;replace M:=bx (M.o.below hx);clear hx;(generalize rtB _=rb at *);refine zNM ?_;(repeat(first|refine zM0 ?_|(go_big_quiet_want;first|((first|((with_reducible refine AaJ 50 _ rfl [(2,.agg (rc ra).toArray),(3,.agg (rc p.b.root).toArray),(1,.int .u64 (us.n:Int)),(4,.agg (rc rb).toArray)] _ ?_ (built_t1 us ra p.b.root rb) ?_);rfl)|refine zQAd ?_);go_big_quiet_on;refine zNM ?_)|(refine zQO ?_;go_big_quiet_on))));refine zH8 M ?_;clear M;intro w8 M)
       (refine AaF (Aaa rfl ztBl) rfl ?_;refine⟨ext_alloc _ _,?_⟩;replace M:=bx (M.o.alloc (P:=blP b0) (ls:=blL) (AaY _) rfl 50);(obtain⟨g7,hg0⟩:=pickT M.o);rw[<-hg0]at M |-;clear hg0;refine zNM ?_;refine zMRd ?_;refine zH8 M ?_;clear M;intro w8 M)
      rotate_left
      focus
       (refine AaF (Aaa rfl ztBl) rfl ?_;refine⟨ext_alloc _ _,?_⟩;replace M:=bx (M.o.alloc (P:=blP b0) (ls:=blL) (AaY _) rfl 50);(obtain⟨g7,hg0⟩:=pickT M.o);rw[<-hg0]at M |-;clear hg0;refine zNM ?_;refine zMRd ?_;refine zH8 M ?_;clear M;intro w8 M)
       (refine zMC (Ahd _ _) Try.func11 ?_;rintro e1 w1 ⟨rfl,hx⟩;refine⟨_,rfl,hx,?_⟩;replace M:=bx (M.o.below hx);clear hx;(generalize rtB _=rb at *);refine zNM ?_;(repeat(first|refine zM0 ?_|(go_big_quiet_want;first|((first|((with_reducible refine AaJ 50 _ rfl [(2,.agg (rc ra).toArray),(3,.agg (rc p.b.root).toArray),(1,.int .u64 (us.n:Int)),(4,.agg (rc rb).toArray)] _ ?_ (built_t1 us ra p.b.root rb) ?_);rfl)|refine zQAd ?_);go_big_quiet_on;refine zNM ?_)|(refine zQO ?_;go_big_quiet_on))));refine zH8 M ?_;clear M;intro w8 M)
      all_goals
       (refine zXS M 0 (blP {b0 with slot:=us,root:=ra,parent:=p.b.root,payload:=rb}) (blP {b0 with slot:=us,root:=ra,parent:=p.b.root,payload:=rb}) (AaY _) (Aia _) ?_;clear M;intro w7 M;refine zH8 M ?_;clear M;intro w9 M;refine NoPanic.normal ?_;(go_wp2_with (first|go_skip|((first|refine zBXd ?_|refine zALd (ztBl) ?_|refine zALd (ztNo) ?_|refine zALd (Ac5) ?_);clear M;intro w' g M)|fail|refine zLAd ?_));go_meet;(case rel=>exact⟨_,_,rfl,M.o⟩))
     ·(refine AaF (Aaa rfl ztBl) rfl ?_;refine⟨ext_alloc _ _,?_⟩;replace M:=bx (M.o.alloc (P:=blP b0) (ls:=blL) (AaY _) rfl 50);(obtain⟨g7,hg0⟩:=pickT M.o);rw[<-hg0]at M |-;clear hg0;refine zNM ?_;refine zMRd ?_;refine zH8 M ?_;clear M;intro w8 M)
      (refine zMC (Ahd _ _) Try.func11 ?_;rintro e1 w1 ⟨rfl,hx⟩;refine⟨_,rfl,hx,?_⟩;replace M:=bx (M.o.below hx);clear hx;(generalize rtB _=ra at *);refine zNM ?_;refine zMRd ?_;refine zH8 M ?_;clear M;intro w8 M)
      (refine zMC (Ahd _ _) Try.func11 ?_;rintro e1 w1 ⟨rfl,hx⟩;refine⟨_,rfl,hx,?_⟩;replace M:=bx (M.o.below hx);clear hx;(generalize rtB _=rb at *);refine zNM ?_;(repeat(first|refine zM0 ?_|(go_big_quiet_want;first|((first|((with_reducible refine AaJ 50 _ rfl [(2,.agg (rc ra).toArray),(3,.agg (rc p.b.root).toArray),(1,.int .u64 (us.n:Int)),(4,.agg (rc rb).toArray)] _ ?_ (built_t1 us ra p.b.root rb) ?_);rfl)|refine zQAd ?_);go_big_quiet_on;refine zNM ?_)|(refine zQO ?_;go_big_quiet_on))));refine zH8 M ?_;clear M;intro w8 M)
      (refine zXS M 0 (blP {b0 with slot:=us,root:=ra,parent:=p.b.root,payload:=rb}) (blP {b0 with slot:=us,root:=ra,parent:=p.b.root,payload:=rb}) (AaY _) (Aia _) ?_;clear M;intro w7 M;refine zH8 M ?_;clear M;intro w9 M;refine NoPanic.normal ?_;(go_wp2_with (first|go_skip|((first|refine zBXd ?_|refine zALd (ztBl) ?_|refine zALd (ztNo) ?_|refine zALd (Ac5) ?_);clear M;intro w' g M)|fail|refine zLAd ?_));go_meet;(case rel=>exact⟨_,_,rfl,M.o⟩))
   clear M hu1 hus hr8 hq6 i6 e6 f6 c6 d6 hq8 i8 e8 f8 c8 d8
   obtain⟨g7,b,rfl,hM⟩:=hcut
   have M:=bx hM
   clear hM
   go_upto_if 78 with(first|go_skip|refine zLAd ?_)
   go_cut []from 22 to 115 (fun wx=>∃b:Blk,MM Γ w Γk wx [⟨g7,blP b,blL⟩,⟨g6,noP p,noL⟩,⟨g3,[[.slice (some ⟨gn,0,none⟩) n1 c1]],[1]⟩,⟨g2,[[.slice none 0 0]],[1]⟩] [])
   case first=>
    as_aux_lemma=>
     rcases Nat.eq_zero_or_pos r10 with hr|hr
     .subst hr
      (go_wp2_with (first|go_skip|((first|refine zBXd ?_|refine zALd (ztBl) ?_|refine zALd (ztNo) ?_|refine zALd (Ac5) ?_);clear M;intro w' g M)|(refine zSSd M 0 [rc p.b.payload] (blP {b with payload:=p.b.payload}) (lenR _) (Aaj _) ?_;clear M;intro w' M)|refine zLAd ?_))
      go_meet;(case rel=>exact⟨_,M.o⟩)
     .have h1:((r10:Int)==0)=false:=by rw[beq_eq_false_iff_ne];omega
      (go_wp2_with (first|go_skip|((first|refine zBXd ?_|refine zALd (ztBl) ?_|refine zALd (ztNo) ?_|refine zALd (Ac5) ?_);clear M;intro w' g M)|fail|refine zLAd ?_))
      go_meet;(case rel=>exact⟨_,M.o⟩)
   clear M hq10 i10 e10 f10 c10 d10
   obtain⟨b,hM⟩:=hcut
   have M:=bx hM
   clear hM
   go_upto_region 12 with fail
   go_cut [8]from 22 to 115 (fun s8 wx=>∃st:Int,s8=.int .i64 st/\MM Γ w Γk wx [⟨g7,blP b,blL⟩,⟨g6,noP p,noL⟩,⟨g3,[[.slice (some ⟨gn,0,none⟩) n1 c1]],[1]⟩,⟨g2,[[.slice none 0 0]],[1]⟩] [])
   case first=>
    as_aux_lemma=>
     rcases(by omega:r12=0\/r12=1\/r12=2)with hr|hr|hr
     skip
     rotate_left
     skip
     rotate_left
     skip
     all_goals
      subst hr
      (go_wp2_with (first|go_skip|((first|refine zBXd ?_|refine zALd (ztBl) ?_|refine zALd (ztNo) ?_|refine zALd (Ac5) ?_);clear M;intro w' g M)|((with_reducible apply wpList_bs3 M.o);rfl;rfl;intro w' g M';(replace M:=bx M';clear M');refine zNM ?_)|refine zLAd ?_))
      go_meet;(case rel=>exact⟨_,rfl,M.o.tail⟩)
   clear M hq12 i12 e12 f12 c12 d12
   obtain⟨st,rfl,hM⟩:=hcut
   have M:=bx hM
   clear hM
   go_upto_if 91 with(first|go_skip|refine zLAd ?_)
   go_cut [8]from 22 to 115 (fun s8 wx=>∃st:Int,s8=.int .i64 st/\MM Γ w Γk wx [⟨g7,blP b,blL⟩,⟨g6,noP p,noL⟩,⟨g3,[[.slice (some ⟨gn,0,none⟩) n1 c1]],[1]⟩,⟨g2,[[.slice none 0 0]],[1]⟩] [])
   case first=>
    as_aux_lemma=>
     by_cases h2:p.st=2
     .have b1:(p.st==2)=true:=beq_iff_eq.2 h2
      (go_wp2_with (first|go_skip|((first|refine zBXd ?_|refine zALd (ztBl) ?_|refine zALd (ztNo) ?_|refine zALd (Ac5) ?_);clear M;intro w' g M)|fail|refine zLAd ?_))
      go_meet;(case rel=>exact⟨_,rfl,M.o⟩)
     .have b1:(p.st==2)=false:=beq_eq_false_iff_ne.2 h2
      by_cases h0:p.st=0
      .have b2:(p.st==0)=true:=beq_iff_eq.2 h0
       by_cases h3:st=1
       focus have b3:(st==1)=true:=beq_iff_eq.2 h3
       rotate_left
       focus have b3:(st==1)=false:=beq_eq_false_iff_ne.2 h3
       all_goals
        (go_wp2_with (first|go_skip|((first|refine zBXd ?_|refine zALd (ztBl) ?_|refine zALd (ztNo) ?_|refine zALd (Ac5) ?_);clear M;intro w' g M)|fail|refine zLAd ?_))
        go_meet;(case rel=>exact⟨_,rfl,M.o⟩)
      .have b2:(p.st==0)=false:=beq_eq_false_iff_ne.2 h0
       (go_wp2_with (first|go_skip|((first|refine zBXd ?_|refine zALd (ztBl) ?_|refine zALd (ztNo) ?_|refine zALd (Ac5) ?_);clear M;intro w' g M)|fail|refine zLAd ?_))
       go_meet;(case rel=>exact⟨_,rfl,M.o⟩)
   clear M
   obtain⟨st,rfl,hM⟩:=hcut
   have M:=bx hM
   clear hM
   have INS:=bx (fun w ok=>AkU Γk ⟨some ⟨gn,0,none⟩,n1,c1⟩ N b st w ok HG.o (by have:=HN.o;omega))
   (go_wp2_with (first|go_skip|((first|refine zBXd ?_|refine zALd (ztBl) ?_|refine zALd (ztNo) ?_|refine zALd (Ac5) ?_);clear M;intro w' g M)|fail|refine zLAd ?_))
   refine(INS.o _ M.ok).mono ?_
   rintro e1 w1 ⟨x2,Γ2,rfl,hg2,hx⟩
   replace M:=bx (M.o.call hx)
   have HG2:=bx hg2
   have LE2:=bx hx.le
   clear hx hg2 INS
   have hne:((n1:Int) != (n1:Int)+1)=true:=by rw[bne_iff_ne];omega
   have hne2:(((n1:Nat)+1:Nat):Int)=(n1:Int)+1:=by omega
   have heq:((n1:Int)+1 != (n1:Int)+1)=false:=by rw[bne_eq_false_iff_eq]
   rcases ins_two N b st HT.o with he|⟨N',he,hl,ht⟩
   .have HGK:=bx (HG.o.mono LE2.o)
    generalize insN N b st=rr at *
    obtain⟨er,N2⟩:=rr
    simp only at he
    (go_wp2_with (first|go_skip|((first|refine zBXd ?_|refine zALd (ztBl) ?_|refine zALd (ztNo) ?_|refine zALd (Ac5) ?_);clear M;intro w' g M)|((first|refine zSSd M 0 [[x2.v]] [[x2.v]] (by rfl) (AbZ _ _ _) ?_|refine zSSd M 4 [[.slice (some ⟨gn,0,none⟩) n1 c1]] [[.slice (some ⟨gn,0,none⟩) n1 c1]] (by rfl) (AbZ _ _ _) ?_);clear M;intro w' M)|refine zLAd ?_))
    refine zR M.o.at4 ?_
    exact⟨⟨some ⟨gn,0,none⟩,n1,c1⟩,N,Γ2,rfl,by have:=HN.o;omega,by have:=HN.o;omega,HT.o,HGK.o,M.o.ext⟩
   .rw[he]at HG2
    rw[he]
    have hn2:x2.n=n1+1:=by rw[HG2.o.n,hl,HN.o]
    obtain⟨A3,n3,c3⟩:=x2
    simp only at hn2
    subst hn2
    have HT2:=bx ht
    have HL2:Bx (N'.length=n1+1):=⟨by rw[hl,HN.o]⟩
    clear he hl ht HT HG HN LE2
    (go_wp2_with (first|go_skip|((first|refine zBXd ?_|refine zALd (ztBl) ?_|refine zALd (ztNo) ?_|refine zALd (Ac5) ?_);clear M;intro w' g M)|((first|refine zSSd M 0 [[.slice A3 (n1+1) c3]] [[.slice A3 (n1+1) c3]] (by rfl) (AbZ _ _ _) ?_|refine zSSd M 3 [[.slice A3 (n1+1) c3]] [[.slice A3 (n1+1) c3]] (by rfl) (AbZ _ _ _) ?_);clear M;intro w' M)|refine zLAd ?_))
    go_roundw
    case rel=>exact⟨n1+1,⟨A3,n1+1,c3⟩,N',Γ2,by omega,by omega,by go_num,HL2.o,HT2.o,HG2.o,M.o.tail.tail.tail⟩
    case measure=>simp[intOf];omega
  .have hge:¬((n1:Int)<1+(k2:Int)%9):=hlt
   (go_wp2_with (first|go_skip|((first|refine zBXd ?_|refine zALd (ztBl) ?_|refine zALd (ztNo) ?_|refine zALd (Ac5) ?_);clear M;intro w' g M)|(refine zSSd M 1 [[.slice A1 n1 c1]] [[.slice A1 n1 c1]] (by rfl) (AbZ _ _ _) ?_;clear M;intro w' M)|refine zLAd ?_))
   refine zR M.o.at1 ?_
   exact⟨⟨A1,n1,c1⟩,N,Γk,rfl,by have:=HN.o;omega,by have:=HN.o;omega,HT.o,HG.o,M.o.ext⟩
end Go.Proofs.Ytpaihpeoiliioaa
