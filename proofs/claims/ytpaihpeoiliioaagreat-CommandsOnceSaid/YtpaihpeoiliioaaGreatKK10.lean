/- Texts joined: what the walks of this claim stand on (part 10). -/
import Derived.Test.YtpaihpeoiliioaaGreatShelf
import Derived.Test.YtpaihpeoiliioaaGreatKK6
set_option linter.all false
set_option maxRecDepth 20000
set_option maxHeartbeats 40000000
namespace Go.Proofs.YtpaihpeoiliioaaGreat
section
open Go.RowKit Old
theorem Anl{st fb:Int}:∀{N M:List Nod} {l:List Nat},setF st fb N l=some M->upsN M=upsN N:=by
 intro N M l
 induction l generalizing N with
 |nil=>intro h;simp only[setF,Option.some.injEq]at h;rw[h]
 |cons a t ih=>
  intro h
  simp only[setF]at h
  split at h
  .cases h
  .rw[ih h]
   unfold upsN
   rw[List.map_set]
   rcases Nat.lt_or_ge a N.length with ha|ha
   .rw[nget ha]
    have:=@List.set_getElem_self _ (List.map (fun(x:Nod)=>x.up) N) a (by simpa using ha)
    simpa using this
   .exact List.set_eq_of_length_le (by simpa using ha)
theorem Al0{N M:List Nod}{i:Int}(h:raiseN N i=(0,M)):upsN M=upsN N/\M.length=N.length:=by
 unfold raiseN stR at h
 split at h
 .split at h
  .simp at h
  .rename_i hs
   injection h with _ h
   subst h
   exact⟨Anl hs,Ag6 hs⟩
 .simp at h
def judge2(N:List Nod)(rv rc:Int):Int × List Nod:=if 0<=rv then(if(raiseN N rv).1=0 then condN (raiseN N rv).2 rc else((raiseN N rv).1,[]))else condN N rc
def judgeN(N:List Nod)(i:Int)(v:Vd)(keep:List Int):Int × List Nod:=
 if isI i N.length=false then(10,[])else if v.kind=1 then raiseN N i else if v.kind=3\/v.kind=4 then(0,N)else if v.kind≠2 then(2,[])else
  if keep.any (fun k=>ancI N (reachN N i v.latest).2 k)=true then(21,[])else judge2 N (reachN N i v.latest).1 (reachN N i v.latest).2
theorem TrE.mk{Γ Γ':Gam}{w w':World}{r:Int × List Nod}{x:Sl}{er:Int}(he:r.1=er)(hn:NG Γ' x r.2)(h:Ext Γ w Γ' w'):TrE Γ w r (.returned (.tuple #[.agg (fl [[x.v]]).toArray,.int .i64 er])) w':=by
 subst he;exact⟨x,Γ',rfl,hn,h⟩
theorem AmQ(Γ:Gam)(x:Sl)(N:List Nod)(i:Int)(v:Vd)(A:Option Addr)(c:Nat)(keep:List Int)(w:World)(ok:Ok Γ w)(h:NG Γ x N)(hk:Lk (upsN N))(h1:0<N.length)(hb:N.length<=4096)(hkp:SlG Γ A keep.length (ints .i64 keep))(hkb:keep.length<=65535) :
  Calls Tryz.prog 173 #[.agg [x.v].toArray,.int .i64 i,.agg (fl (vdP v)).toArray,.slice A keep.length c] w (TrE Γ w (judgeN N i v keep)):=by
 have M:=bx (MM.start ok)
 have HG:=bx h
 have HK:=bx hkp
 have HKB:=bx hkb
 have IS:Bx (∀Γ w,Ok Γ w->Calls Tryz.prog 88 #[.agg [x.v].toArray,.int .i64 i] w fun e w'=>e=.returned (.bool (isI i N.length))/\Ext Γ w Γ w'):=⟨fun Γ w ok=>by have:=Adu Γ x i w ok;rwa [h.n]at this⟩
 have RA:=bx (fun j w ok=>Alz Γ x N j w ok h hk h1 hb)
 have RE:=bx (fun w ok=>Alx Γ x N i v.latest w ok h hk hb)
 have AN:=bx (fun a b w ok=>AeT Γ x N a b w ok h hk hb)
 have CO:=bx (fun(Γ':Gam) (x':Sl) (M:List Nod) (j:Int) w (ok:Ok Γ' w) (hn:NG Γ' x' M) (hu:upsN M=upsN N/\M.length=N.length)=>AjU Γ' x' M j w ok hn (by rw[hu.1];exact hk) (by omega) (by omega))
 clear ok h hk h1 hb hkp hkb
 change Calls Tryz.prog _ #[.agg (fl [[x.v]]).toArray,_,_,_] _ _
 cases hi:isI i N.length with
 |false=>
  have HR:Bx (judgeN N i v keep=(10,[])):=⟨by unfold judgeN;rw[if_pos hi]⟩
  rw[hi]at IS
  go_enter Tryz.func173,Tryz.ntmps173
  go_wp2_with (first|((first|refine zBXo ?_|refine zALo (Aa1) ?_);clear M;intro w' g M)|refine zLAo ?_)
  refine zCA M (IS.o _ _ M.ok) ?_;clear M;intro w1 M
  go_wp2_with (first|(refine zSSo M 0 [[.slice none 0 0]] [[.slice none 0 0]] (by rfl) (Aak _ _ _) ?_;clear M;intro w' M)|refine zLAo ?_|refine zBDo 46 [] [.slice none 0 0] (by kernel_rfl) ?_)
  refine zRt M.o.at0 ?_
  exact TrE.err HR.o M.o.ext
 |true=>
  rw[hi]at IS
  by_cases k1:v.kind=1
  .have HR:Bx (judgeN N i v keep=raiseN N i):=⟨by unfold judgeN;rw[hi,if_neg (by simp),if_pos k1]⟩
   have b1:(v.kind==1)=true:=beq_iff_eq.2 k1
   clear hi k1
   rw[HR.o]
   go_enter Tryz.func173,Tryz.ntmps173
   go_wp2_with (first|((first|refine zBXo ?_|refine zALo (Aa1) ?_);clear M;intro w' g M)|refine zLAo ?_)
   refine zCA M (IS.o _ _ M.ok) ?_;clear M;intro w1 M
   go_wp2_with (refine zLAo ?_)
   refine(RA.o _ _ M.ok).mono ?_
   rintro e3 w3 ⟨x3,Γ3,rfl,hn3,hx3⟩
   replace M:=bx (M.o.call hx3)
   have HN3:=bx hn3
   clear hn3 hx3
   go_wp2_with (first|(refine zSSo M 0 [[x3.v]] [[x3.v]] (by rfl) (Aak _ _ _) ?_;clear M;intro w' M)|refine zLAo ?_)
   refine zRt M.o.at0 ?_
   exact TrE.mk rfl HN3.o M.o.ext
  by_cases k3:v.kind=3\/v.kind=4
  .have HR:Bx (judgeN N i v keep=(0,N)):=⟨by unfold judgeN;rw[hi,if_neg (by simp),if_neg k1,if_pos k3]⟩
   have b1:(v.kind==1)=false:=beq_eq_false_iff_ne.2 k1
   rw[HR.o]
   rcases k3 with k3|k3
   focus have b3:(v.kind==3)=true:=beq_iff_eq.2 k3
   rotate_left
   focus
    have b4:(v.kind==4)=true:=beq_iff_eq.2 k3
    have b3:(v.kind==3)=false:=beq_eq_false_iff_ne.2 (by omega)
   all_goals
    clear hi k1 k3
    go_enter Tryz.func173,Tryz.ntmps173
    go_wp2_with (first|((first|refine zBXo ?_|refine zALo (Aa1) ?_);clear M;intro w' g M)|refine zLAo ?_)
    refine zCA M (IS.o _ _ M.ok) ?_;clear M;intro w1 M
    go_wp2_with (first|(refine zSSo M 0 [[x.v]] [[x.v]] (by rfl) (Aak _ _ _) ?_;clear M;intro w' M)|refine zLAo ?_)
    refine zRt M.o.at0 ?_
    exact TrE.mk rfl (HG.o.mono M.o.ext.le) M.o.ext
  have b1:(v.kind==1)=false:=beq_eq_false_iff_ne.2 k1
  have b3:(v.kind==3)=false:=beq_eq_false_iff_ne.2 (by omega)
  have b4:(v.kind==4)=false:=beq_eq_false_iff_ne.2 (by omega)
  by_cases k2:v.kind=2
  .have HR:Bx (judgeN N i v keep=if keep.any (fun k=>ancI N (reachN N i v.latest).2 k)=true then(21,[])else judge2 N (reachN N i v.latest).1 (reachN N i v.latest).2):=⟨by unfold judgeN;rw[hi,if_neg (by simp),if_neg k1,if_neg k3,if_neg (by simpa using k2)]⟩
   have b2:(v.kind==2)=true:=beq_iff_eq.2 k2
   clear hi k1 k3 k2
   generalize judgeN N i v keep=res at *
   generalize reachN N i v.latest=rr at *
   obtain⟨rv,rk⟩:=rr
   simp only at HR
   go_enter Tryz.func173,Tryz.ntmps173
   go_wp2_with (first|((first|refine zBXo ?_|refine zALo (Aa1) ?_);clear M;intro w' g M)|refine zLAo ?_)
   refine zCA M (IS.o _ _ M.ok) ?_;clear M;intro w1 M
   go_wp2_with (refine zLAo ?_)
   refine zCA M (RE.o _ M.ok) ?_;clear M;intro w1 M
   go_wp2_with (fail)
   rename_i gt _ gv _ _ _
   go_loopw [12] (fun j wr=>∃k:Nat,k<=keep.length/\j=.int .i64 k/\(∀j (hj:j<keep.length),j<k->ancI N rk keep[j]=false)/\MM Γ w Γ wr [⟨g,[[.slice none 0 0]],[1]⟩,⟨gv,vdP v,[1,1,32]⟩,⟨gt,[[x.v]],[1]⟩] []) (fun j _=>keep.length-(intOf j).toNat)
   case atStart=>exact⟨0,Nat.zero_le _,rfl,fun j _ hj=>absurd hj (Nat.not_lt_zero _),M.o⟩
   case round=>
    obtain⟨k,hk,rfl,hno,hM⟩:=hrel
    clear M
    have M:=bx hM
    have HNO:=bx hno
    clear hM hno
    have hkb:=HKB.o
    by_cases hkn:k<keep.length
    .obtain⟨gk,rfl,hf⟩:=Afk HK.o k hkn
     have F1:=bx hf
     have hki:(k:Int)<(keep.length:Int):=by omega
     have hk0:0<=(k:Int):=by omega
     have NX:=bx (fun(e:ancI N rk keep[k]=false) j (hj:j<keep.length) (hjk:j<k+1)=>(Nat.lt_or_eq_of_le (Nat.le_of_lt_succ hjk)).elim (HNO.o j hj) (fun h=>by subst h;exact e))
     have YS:=bx (fun(e:ancI N rk keep[k]=true)=>(show keep.any (fun k=>ancI N rk k)=true from List.any_eq_true.2 ⟨_,List.getElem_mem hkn,e⟩))
     have EC:=bx (clsE M.o (AN.o rk keep[k]))
     clear hf
     generalize keep[k]=y at *
     cases ha:ancI N rk y with
     |true=>
      rw[ha]at EC
      have HR':=bx (HR.o.trans (if_pos (YS.o ha)))
      clear NX YS ha
      go_wp2_with (fail)
      refine zRG ?_;(repeat((go_big_quiet_want;first|((first|refine zQFo F1 ?_|refine zQC (AaJ EC.o) Tryz.func25 ?_|refine zQAo ?_);go_big_quiet_on;refine zNM ?_)|(refine zQO ?_;go_big_quiet_on))));(refine zQN ?_;clear M;intro w4 M)
      clear EC
      go_wp2_with (first|(refine zSSo M 0 [[.slice none 0 0]] [[.slice none 0 0]] (by rfl) (Aak _ _ _) ?_;clear M;intro w' M)|refine zLAo ?_|refine zBDo 46 [] [.slice none 0 0] (by kernel_rfl) ?_)
      refine zRt M.o.at0 ?_
      exact TrE.err HR'.o M.o.ext
     |false=>
      rw[ha]at EC
      have NX':=bx (NX.o ha)
      clear NX YS ha
      go_wp2_with (fail)
      refine zRG ?_;(repeat((go_big_quiet_want;first|((first|refine zQFo F1 ?_|refine zQC (AaJ EC.o) Tryz.func25 ?_|refine zQAo ?_);go_big_quiet_on;refine zNM ?_)|(refine zQO ?_;go_big_quiet_on))));(refine zQN ?_;clear M;intro w4 M)
      clear EC
      go_wp2_with (fail)
      go_roundw
      case rel=>exact⟨k+1,by omega,by go_num,NX'.o,M.o⟩
      case measure=>simp[intOf]<;>omega
    .have hki:(keep.length:Int)<=(k:Int):=by omega
     have HR':=bx (HR.o.trans (if_neg (by
      rw[List.any_eq_true]
      rintro⟨y,hy,e⟩
      obtain⟨j,hj,rfl⟩:=List.getElem_of_mem hy
      rw[HNO.o j hj (by omega)]at e
      cases e)))
     clear HR HNO
     unfold judge2 at HR'
     by_cases hv:0<=rv
     .replace HR':=bx (HR'.o.trans (if_pos hv))
      have RA':=bx (RA.o rv)
      cases hr:raiseN N rv with
      |mk e1 N1=>
       rw[hr]at RA' HR'
       simp only at HR'
       go_wp2_with (refine zLAo ?_)
       refine(RA'.o _ M.ok).mono ?_
       rintro e3 w3 ⟨x3,Γ3,rfl,hn3,hx3⟩
       replace M:=bx (M.o.call hx3)
       have HN3:=bx hn3
       clear hn3 hx3
       by_cases he:e1=0
       .subst he
        replace HR':=bx (HR'.o.trans (if_pos rfl))
        have CO':=bx (fun Γ' x' w ok hn=>CO.o Γ' x' N1 rk w ok hn (Al0 hr))
        clear CO RA' RA RE
        go_wp2_with (first|((first|refine zSSo M 0 [[x3.v]] [[x3.v]] (by rfl) (Aak _ _ _) ?_|refine zSSo M 3 [[x3.v]] [[x3.v]] (by rfl) (Aak _ _ _) ?_);clear M;intro w' M)|(refine zALo (Aa1) ?_;clear M;intro w' g M)|refine zLAo ?_)
        refine(CO'.o _ x3 _ M.ok HN3.o).mono ?_
        rintro e3 w3 ⟨x4,Γ4,rfl,hn4,hx4⟩
        replace M:=bx (M.o.call hx4)
        have HN4:=bx hn4
        clear hn4 hx4
        go_wp2_with (first|(refine zSSo M 1 [[x4.v]] [[x4.v]] (by rfl) (Aak _ _ _) ?_;clear M;intro w' M)|refine zLAo ?_)
        refine zRt M.o.at1 ?_
        rw[HR'.o]
        exact TrE.mk rfl HN4.o M.o.ext
       .have heb:(e1==0)=false:=beq_eq_false_iff_ne.2 he
        replace HR':=bx (HR'.o.trans (if_neg he))
        clear he
        go_wp2_with (first|((first|refine zSSo M 0 [[x3.v]] [[x3.v]] (by rfl) (Aak _ _ _) ?_|refine zSSo M 1 [[.slice none 0 0]] [[.slice none 0 0]] (by rfl) (Aak _ _ _) ?_);clear M;intro w' M)|(refine zALo (Aa1) ?_;clear M;intro w' g M)|refine zLAo ?_|refine zBDo 46 [] [.slice none 0 0] (by kernel_rfl) ?_)
        refine zRt M.o.at1 ?_
        exact TrE.err HR'.o M.o.ext
     .replace HR':=bx (HR'.o.trans (if_neg hv))
      have CO':=bx (fun w ok=>CO.o Γ x N rk w ok HG.o ⟨rfl,rfl⟩)
      go_wp2_with (refine zLAo ?_)
      refine(CO'.o _ M.ok).mono ?_
      rintro e3 w3 ⟨x4,Γ4,rfl,hn4,hx4⟩
      replace M:=bx (M.o.call hx4)
      have HN4:=bx hn4
      clear hn4 hx4
      go_wp2_with (first|(refine zSSo M 0 [[x4.v]] [[x4.v]] (by rfl) (Aak _ _ _) ?_;clear M;intro w' M)|refine zLAo ?_)
      refine zRt M.o.at0 ?_
      rw[HR'.o]
      exact TrE.mk rfl HN4.o M.o.ext
  .have HR:Bx (judgeN N i v keep=(2,[])):=⟨by unfold judgeN;rw[hi,if_neg (by simp),if_neg k1,if_neg k3,if_pos k2]⟩
   have b2:(v.kind==2)=false:=beq_eq_false_iff_ne.2 k2
   clear hi k1 k3 k2
   go_enter Tryz.func173,Tryz.ntmps173
   go_wp2_with (first|((first|refine zBXo ?_|refine zALo (Aa1) ?_);clear M;intro w' g M)|refine zLAo ?_)
   refine zCA M (IS.o _ _ M.ok) ?_;clear M;intro w1 M
   go_wp2_with (first|(refine zSSo M 0 [[.slice none 0 0]] [[.slice none 0 0]] (by rfl) (Aak _ _ _) ?_;clear M;intro w' M)|refine zLAo ?_|refine zBDo 46 [] [.slice none 0 0] (by kernel_rfl) ?_)
   refine zRt M.o.at0 ?_
   exact TrE.err HR.o M.o.ext
theorem MM.rswap{Γ0 Γ:Gam}{w0 w:World}{L:List Ent}{R:List RowE}{a b:RowE}(M:MM Γ0 w0 Γ w L (a::b::R)):MM Γ0 w0 Γ w L (b::a::R):=by
 have hsym:∀{r s:RowE},(∀g,r.v.ownBlock=some g->s.v.ownBlock≠some g)->∀g,s.v.ownBlock=some g->r.v.ownBlock≠some g:=fun h g e1 e2=>h g e2 e1
 obtain⟨h1,h2⟩:=List.pairwise_cons.1 M.rnd
 obtain⟨h3,h4⟩:=List.pairwise_cons.1 h2
 refine⟨M.ext,M.has,M.len,M.off,M.lo,M.nd,fun r hr=>M.rows r ?_,fun r hr=>M.roff r ?_,List.pairwise_cons.2 ⟨fun s hs=>?_,List.pairwise_cons.2 ⟨fun s hs=>h1 s (List.mem_cons_of_mem _ hs),h4⟩⟩⟩
 .simp only[List.mem_cons]at hr |-;exact hr.elim (fun h=>.inr (.inl h)) fun h=>h.elim .inl fun h=>.inr (.inr h)
 .simp only[List.mem_cons]at hr |-;exact hr.elim (fun h=>.inr (.inl h)) fun h=>h.elim .inl fun h=>.inr (.inr h)
 .rcases List.mem_cons.1 hs with rfl|hs
  .exact hsym (h1 b (List.mem_cons_self ..))
  .exact h3 s hs
theorem MM.rowAt{Γ0 Γ:Gam}{w0 w:World}{L:List Ent}{R:List RowE}{A:Option Addr}{c n:Nat}{e:TypeId}{xs:List Value}(M:MM Γ0 w0 Γ w L (⟨.slice A n c,e,1,n,xs⟩::R)){j:Nat}(hj:j<n):∃g v,A=some ⟨g,0,none⟩/\xs[j]? = some v/\w.cell? ⟨g,j,none⟩=some v:=by
 have hr:=M.rows _ (List.mem_cons_self ..)
 obtain⟨g,c',post,h1,h2,h3⟩:=own_block hr (by simp only;omega)
 simp only at h1 h3
 injection h1 with h1
 have hl:xs.length=n:=by have:=hr.1;simpa using this
 refine⟨g,xs[j]'(by omega),h1,List.getElem?_eq_getElem (by omega),?_⟩
 rw[h3.cell,List.getElem?_append_left (by omega),List.getElem?_eq_getElem (by omega)]
theorem MM.cellR{Γ0 Γ:Gam}{w0 w:World}{L:List Ent}{R:List RowE}{g c n:Nat}{e:TypeId}{xs:List Value}(M:MM Γ0 w0 Γ w L (⟨.slice (some ⟨g,0,none⟩) n c,e,1,n,xs⟩::R)){j:Nat}{v:Value}(hv:xs[j]? = some v):w.cell? ⟨g,j,none⟩=some v:=by
 have hr:=M.rows _ (List.mem_cons_self ..)
 have hl:xs.length=n:=by have:=hr.1;simpa using this
 have hj:=(List.getElem?_eq_some_iff.1 hv).1
 obtain⟨g',v',h1,h2,h3⟩:=M.rowAt (j:=j) (by omega)
 injection h1 with h1
 injection h1 with h1
 subst h1
 rw[hv]at h2
 rw[h3,<-h2]
theorem Aaz{Pg:Program}{w:World}{fn:Func}{p q r:Tmp}{ty:TypeId}(h:fn.results = #[.cell p ty,.tmp q,.tmp r])(tmps:Array Value){g n:Nat}{P:List (List Value)}{ls:List Nat}(H:HL w g P ls)(hp:tmps.getD p undef=.pointer (some ⟨g,0,none⟩))(rt:RowT Pg ty n)(hn:ls.sum=n) :
  (results fn tmps).run Pg w=.ok (.tuple #[.agg (fl P).toArray,tmps.getD q undef,tmps.getD r undef]) w:=by
 obtain⟨d,hu,hd⟩:=rt.ex
 have hp':tmps[p]?.getD undef=.pointer (some ⟨g,0,none⟩):=by simpa using hp
 have:=Ab2 (P:=Pg) (g:=g) H.has hu (by cases d<;>first|rfl|cases hd) (by rw[rt.n,AbE H.len,hn])
 simp[results,h,hp',asAddr,this]
def prS(N:List Nod)(i:Nat)(s:List Nod × List Int)(k:Nat):List Nod × List Int:=
 if ancI N i k=true then(s.1 ++ [{N.getD k n0 with up:=if k=i then -1 else s.2.getD (N.getD k n0).up.toNat (-1)}],s.2 ++ [(s.1.length:Int)])else(s.1,s.2 ++ [-1])
def prTo(N:List Nod)(i k:Nat):List Nod × List Int:=(List.range k).foldl (prS N i) ([],[])
def pruneN(N:List Nod)(i:Nat):List Nod:=(prTo N i N.length).1
theorem Afa(N:List Nod)(i k:Nat):prTo N i (k+1)=prS N i (prTo N i k) k:=by unfold prTo;rw[List.range_succ,List.foldl_append];rfl
theorem Ajw(N:List Nod)(i k:Nat):(prTo N i k).1.length<=k/\(prTo N i k).2.length=k:=by
 induction k with
 |zero=>simp[prTo]
 |succ k ih=>
  rw[Afa]
  unfold prS
  split<;>simp<;>omega
theorem ArB{N:List Nod}(h:Lk (upsN N)){i k:Nat}(hk:k<N.length)(ha:ancI N i k=true)(hne:k≠i):0<=N[k].up/\N[k].up<(k:Int):=by
 rcases h k (by rw[AcE];exact hk)with⟨h1,h2⟩|⟨u,h1,h2⟩
 .subst h1
  unfold ancI pathI at ha
  rw[if_pos (AcO (by omega) (by omega))]at ha
  simp only[Int.toNat_natCast]at ha
  have e:pathN (upsN N) 0 = [0]:=rfl
  simp[e]at ha
  omega
 .rw[Ado hk]at h2;omega
def PruP(Γ:Gam)(w:World)(P:List Nod)(e:Ending)(w':World):Prop:=∃(x:Sl) (v:Value) (Γ':Gam),e=.returned (.tuple #[.agg [x.v].toArray,v,.int .i64 0])/\NG Γ' x P/\Ext Γ w Γ' w'
theorem Al1(Γ:Gam)(x:Sl)(N:List Nod)(i:Nat)(w:World)(ok:Ok Γ w)(h:NG Γ x N)(hk:Lk (upsN N))(hi:i<N.length)(hb:N.length<=4096) :
  Calls Tryz.prog 188 #[.agg [x.v].toArray,.int .i64 (i:Int)] w (PruP Γ w (pruneN N i)):=by
 have M:=bx (MM.start ok)
 have HG:=bx h
 have LN:=bx h.n
 have IS:Bx (∀Γ w,Ok Γ w->Calls Tryz.prog 88 #[.agg [x.v].toArray,.int .i64 (i:Int)] w fun e w'=>e=.returned (.bool true)/\Ext Γ w Γ w'):=⟨fun Γ w ok=>by
  have:=Adu Γ x i w ok
  rwa [h.n,AcO (by omega) (by omega)]at this⟩
 have AN:=bx (fun(k:Nat) w ok=>AeT Γ x N (i:Int) (k:Int) w ok h hk hb)
 have PS:=bx (Afa N i)
 have PL:=bx (Ajw N i)
 have UP:=bx (fun(k:Nat) (h:k<N.length)=>ArB hk h (i:=i))
 have HB:=bx hb
 have HPN:Bx (pruneN N i=(prTo N i N.length).1):=⟨rfl⟩
 clear ok h hk hb
 generalize pruneN N i=res at *
 change Calls Tryz.prog _ #[.agg (fl [[x.v]]).toArray,_] _ _
 go_enter Tryz.func188,Tryz.ntmps188
 go_wp2_with (first|((first|refine zBXo ?_|refine zALo (Aa1) ?_);clear M;intro w' g M)|refine zLAo ?_)
 refine zCA M (IS.o _ _ M.ok) ?_;clear M;intro w1 M
 go_wp2_with (refine zALo (Aa1) ?_;clear M;intro w' g M)
 rename_i gt _ gres _ _
 go_loopw [8,9] (fun o j wr=>∃(k:Nat) (A1 A2:Option Addr) (c1 c2:Nat),k<=N.length/\j=.int .i64 k/\o=.slice A1 k c1/\MM Γ w Γ wr [⟨g,[[.slice A2 (prTo N i k).1.length c2]],[1]⟩,⟨gres,[[.slice none 0 0]],[1]⟩,⟨gt,[[x.v]],[1]⟩] [⟨.slice A1 k c1,3,1,k,ints .i64 (prTo N i k).2⟩,⟨.slice A2 (prTo N i k).1.length c2,80,240,(prTo N i k).1.length,(prTo N i k).1.flatMap nox⟩]) (fun _ j _=>N.length-(intOf j).toNat)
 case atStart=>exact⟨0,none,none,0,0,Nat.zero_le _,rfl,rfl,(M.o.row0 _ _).row0 _ _⟩
 case round=>
  obtain⟨k,A1,A2,c1,c2,hk,rfl,rfl,hM⟩:=hrel
  clear M
  have M:=bx hM
  clear hM
  obtain⟨pl1,pl2⟩:=PL.o k
  have hb:=HB.o
  by_cases hkn:k<N.length
  .obtain⟨gn,hA,hf⟩:=HG.o.fz (f:=noP) AaK rfl k hkn
   have HA:=bx hA
   have F1:=bx hf
   have PS':=bx (PS.o k)
   have UP':=bx (UP.o k hkn)
   have AN':=bx (AN.o k)
   have ND:Bx (N.getD k n0=N[k]):=⟨nget hkn⟩
   have hki:(k:Int)<(x.n:Int):=by rw[LN.o];omega
   have hk0:0<=(k:Int):=by omega
   have hk5:k<4096:=by omega
   clear hA hf PS UP AN PL
   unfold prS at PS'
   rw[ND.o]at PS'
   generalize prTo N i k=s at *
   generalize hpk:prTo N i (k+1)=s' at *
   generalize N[k]=y at *
   cases ha:ancI N i k with
   |false=>
    rw[ha]at AN' PS'
    have P1:Bx (s'=(s.1,s.2 ++ [-1])):=⟨PS'.o.trans (by simp)⟩
    clear PS' ha UP'
    go_wp2_with (refine zLAo ?_)
    refine zCA M (AN'.o _ M.ok) ?_;clear M;intro w1 M
    go_wp2_with (first|((with_reducible apply Aa7 M.o AbO);rfl;rfl;rfl;rfl;intro w' g M' hb';(replace M:=bx M';clear M');clear hb')|(at_builtin;(with_reducible apply AaU M.o AbO);rfl;exact Abk _ _;(unfold maxLen;omega);omega;rfl;rfl;rfl;rfl;intro A' c' w' M';(replace M:=bx M';clear M')))
    go_roundw
    case rel=>exact⟨k+1,A',A2,c',c2,by omega,by go_num,by go_num,by rw[hpk,P1.o];have:=M.o;rw[ints_push];exact this⟩
    case measure=>simp[intOf]<;>omega
   |true=>
    rw[ha]at AN' PS'
    have PS2:Bx (s'=(s.1 ++ [{y with up:=if k=i then -1 else s.2.getD y.up.toNat (-1)}],s.2 ++ [(s.1.length:Int)])):=⟨PS'.o.trans (by simp)⟩
    clear PS'
    have UP2:=bx (UP'.o ha)
    clear UP' ha
    have hsl:s.1.length<=4096:=by omega
    by_cases hki2:k=i
    focus
     have e1:((k:Int)==(i:Int))=true:=by simp[hki2]
     have e2:(k==i)=true:=by simp[hki2]
     have P1:Bx (s'=(s.1 ++ [{y with up:=-1}],s.2 ++ [(s.1.length:Int)])):=⟨PS2.o.trans (by rw[if_pos hki2])⟩
     clear PS2 hki2 UP2
     go_wp2_with (refine zLAo ?_)
     refine zCA M (AN'.o _ M.ok) ?_;clear M;intro w1 M
     go_wp2_with (first|refine zLHo HA ?_|refine zRFo F1 ?_|((first|refine zSSo M 0 (noP y) (noP y) (AaK _) (AbX _) ?_|refine zS1o M 0 (.int .i64 (-1)) (noP {y with up:=-1}) ?_);clear M;intro w' M)|((with_reducible apply Aa7 M.o AbO);rfl;rfl;rfl;rfl;intro w' g M' hb';(replace M:=bx M';clear M');clear hb')|(at_builtin;(with_reducible apply AaU M.o AbO);rfl;exact Abk _ _;(unfold maxLen;omega);omega;rfl;rfl;rfl;rfl;intro A' c' w' M';(replace M:=bx M';clear M'))|((with_reducible apply AbP M.o elNo);rfl;rfl;rfl;rfl;exact AaK _;rfl;intro w' g M' hb';(replace M:=bx M';clear M');clear hb')|(at_builtin;(with_reducible apply AaU M.o.rswap elNo);rfl;exact AbX _;(unfold maxLen;omega);omega;rfl;rfl;rfl;rfl;intro A' c' w' M';(replace M:=bx M';clear M'))|(refine zS1o M 1 (.slice A' (s.1.length+1) c') [[.slice A' (s.1.length+1) c']] ?_;clear M;intro w' M)|(refine zALo (ztNo) ?_;clear M;intro w' g M)|refine zLAo ?_)
    rotate_left
    focus
     have e1:((k:Int)==(i:Int))=false:=beq_eq_false_iff_ne.2 (by omega)
     obtain⟨yb,yup,yst⟩:=y
     obtain⟨u1,u2⟩:=UP2.o hki2
     simp only at u1 u2 PS2
     obtain⟨yu,rfl⟩:∃n:Nat,yup=(n:Int):=⟨yup.toNat,by omega⟩
     simp only[Int.toNat_natCast]at PS2
     obtain⟨g1,uv,rfl,hx,hc⟩:=M.o.rowAt (j:=yu) (by omega)
     have hxu:s.2[yu]? = some (s.2.getD yu (-1)):=by
      have:yu<s.2.length:=by omega
      simp[List.getD,List.getElem?_eq_getElem this]
     have HX:Bx ((ints .i64 s.2)[yu]? = some (.int .i64 (s.2.getD yu (-1)))):=⟨by unfold ints;rw[List.getElem?_map,hxu];rfl⟩
     have P1:Bx (s'=(s.1 ++ [⟨yb,s.2.getD yu (-1),yst⟩],s.2 ++ [(s.1.length:Int)])):=⟨PS2.o.trans (by rw[if_neg hki2])⟩
     have hyk:(yu:Int)<(k:Int):=by omega
     have hy0:0<=(yu:Int):=by omega
     generalize s.2.getD yu (-1)=z at *
     clear PS2 hki2 UP2 hx hxu hc
     go_wp2_with (refine zLAo ?_)
     refine zCA M (AN'.o _ M.ok) ?_;clear M;intro w1 M
     go_wp2_with (first|refine zLHo HA ?_|refine zRFo F1 ?_|((with_reducible refine AbU rfl rfl rfl Ac5 (M.o.cellR HX.o) ?_))|((first|refine zSSo M 0 (noP ⟨yb,(yu:Int),yst⟩) (noP ⟨yb,(yu:Int),yst⟩) (AaK _) (AbX _) ?_|refine zS1o M 0 (.int .i64 z) (noP ⟨yb,z,yst⟩) ?_);clear M;intro w' M)|((with_reducible apply Aa7 M.o AbO);rfl;rfl;rfl;rfl;intro w' g M' hb';(replace M:=bx M';clear M');clear hb')|(at_builtin;(with_reducible apply AaU M.o AbO);rfl;exact Abk _ _;(unfold maxLen;omega);omega;rfl;rfl;rfl;rfl;intro A' c' w' M';(replace M:=bx M';clear M'))|((with_reducible apply AbP M.o elNo);rfl;rfl;rfl;rfl;exact AaK _;rfl;intro w' g M' hb';(replace M:=bx M';clear M');clear hb')|(at_builtin;(with_reducible apply AaU M.o.rswap elNo);rfl;exact AbX _;(unfold maxLen;omega);omega;rfl;rfl;rfl;rfl;intro A' c' w' M';(replace M:=bx M';clear M'))|(refine zS1o M 1 (.slice A' (s.1.length+1) c') [[.slice A' (s.1.length+1) c']] ?_;clear M;intro w' M)|(refine zALo (ztNo) ?_;clear M;intro w' g M)|refine zLAo ?_)
    all_goals
     go_roundw
     case rel=>exact⟨k+1,_,A',_,c',by omega,by go_num,by go_num,by
      rw[hpk,P1.o]
      have M1:=M.o.tail.rswap
      simp only[ints_push,List.flatMap_append,List.flatMap_cons,List.flatMap_nil,List.append_nil,List.length_append,List.length_cons,List.length_nil,Nat.zero_add]
      exact M1⟩
     case measure=>simp[intOf]<;>omega
  .have hki:(x.n:Int)<=(k:Int):=by rw[LN.o];omega
   obtain rfl:k=N.length:=by omega
   rw[<-HPN.o]at M
   go_wp2_with (first|(refine zSSo M 1 [[.slice A2 res.length c2]] [[.slice A2 res.length c2]] (by rfl) (Aak _ _ _) ?_;clear M;intro w' M)|refine zLAo ?_)
   obtain⟨Γ',h1,h2,h3,h4⟩:=M.o.rtail.frz
   (try refine zsm ?_);refine bodyPost_ret (Aaz (by rfl) _ h4.at1 (by rfl) Aap rfl) rfl ?_
   exact⟨⟨A2,res.length,c2⟩,_,Γ',rfl,⟨rfl,h1,h2⟩,h4.ext⟩
structure TI(N:List Nod):Prop where
 lk:Lk (upsN N)
 pos:0<N.length
 diff:∀i j (hi:i<N.length) (hj:j<N.length),N[i].b.root=N[j].b.root->i=j
 st:∀n∈N,n.st=0\/n.st=1\/n.st=2
 par:∀i u (hi:i<N.length) (hu:u<N.length),N[i].up=(u:Int)->N[u].b.root=N[i].b.parent/\N[u].b.slot.n<N[i].b.slot.n
 cl1:∀i u (hi:i<N.length) (hu:u<N.length),N[i].up=(u:Int)->N[i].st=1->N[u].st=1
 cl2:∀i u (hi:i<N.length) (hu:u<N.length),N[i].up=(u:Int)->N[u].st=2->N[i].st=2
 pay:∀n∈N,n.b.payload=r0->n.st=1
 nz:∀n∈N,n.b.root≠r0
theorem Ady{N:List Nod}(h:Lk (upsN N)){i:Nat}(hi:i<N.length):(i=0/\N[i].up = -1)\/∃u:Nat,u<i/\N[i].up=(u:Int):=by
 have:=h i (by rw[AcE];exact hi)
 rwa [Ado hi]at this
theorem Aql{N:List Nod}(h:∀i (hi:i<N.length),(i=0/\N[i].up = -1)\/∃u:Nat,u<i/\N[i].up=(u:Int)):Lk (upsN N):=fun i hi=>by
 rw[AcE]at hi
 rw[Ado hi]
 exact h i hi
theorem AgF{N:List Nod}{a b:Nat}(hb:b<N.length):ancI N (a:Int) (b:Int)=true↔a∈pathN (upsN N) b:=by
 unfold ancI pathI
 rw[AcO (by omega) (by omega),decide_eq_true_iff,List.mem_map]
 simp only[if_true,Int.toNat_natCast]
 exact⟨fun⟨x,hx,e⟩=>(show x=a by omega)▸hx,fun h=>⟨a,h,rfl⟩⟩
theorem Ajz{N:List Nod}(h:Lk (upsN N)){b u:Nat}(hb:b<N.length)(hu:N[b].up=(u:Int)):u<b/\pathN (upsN N) b=pathN (upsN N) u ++ [b]:=by
 rcases Ady h hb with⟨h1,h2⟩|⟨v,h1,h2⟩
 .omega
 .obtain rfl:v=u:=by omega
  exact⟨h1,Afb h (by rw[AcE];exact hb) (by omega) (by rw[Ado hb];exact hu) h1⟩
theorem Aed{N:List Nod}(h:Lk (upsN N)){b:Nat}(hb:b<N.length):ancI N (b:Int) (b:Int)=true:=by
 rw[AgF hb]
 rcases Ady h hb with⟨h1,h2⟩|⟨v,h1,h2⟩
 .subst h1;simp[Agk]
 .rw[(Ajz h hb h2).2];simp
theorem ApB{N:List Nod}(h:Lk (upsN N)){a b:Nat}(hb:b<N.length)(ha:ancI N (a:Int) (b:Int)=true):a<=b:=by
 rw[AgF hb]at ha
 have:=(Ac4 h (i:=(b:Int)) (k:=a) (by unfold pathI;rw[AcO (by omega) (by omega)];simpa using ha)).2
 omega
theorem Ack{N:List Nod}(h:Lk (upsN N)){a b u:Nat}(hb:b<N.length)(hu:N[b].up=(u:Int)):ancI N (a:Int) (b:Int)=true↔a=b\/ancI N (a:Int) (u:Int)=true:=by
 obtain⟨h1,h2⟩:=Ajz h hb hu
 rw[AgF hb,AgF (show u<N.length by omega),h2,List.mem_append,List.mem_singleton]
 exact Or.comm
theorem AfK{N:List Nod}(h:Lk (upsN N)){a:Nat}(hN:0<N.length)(ha:ancI N (a:Int) ((0:Nat):Int)=true):a=0:=by
 have:=ApB h hN ha;omega
theorem AnU{N:List Nod}(h:Lk (upsN N)){a b:Nat}:∀{c:Nat},c<N.length->ancI N (a:Int) (b:Int)=true->ancI N (b:Int) (c:Int)=true->ancI N (a:Int) (c:Int)=true:=by
 intro c
 induction c using Nat.strongRecOn with
 |_ c ih=>
  intro hc hab hbc
  rcases Ady h hc with⟨h1,h2⟩|⟨v,h1,h2⟩
  .subst h1
   have:=AfK h hc hbc
   subst this;exact hab
  .rcases(Ack h hc h2).1 hbc with rfl|hb
   .exact hab
   .exact(Ack h hc h2).2 (.inr (ih v h1 (by omega) hab hb))
theorem Aoo{N M:List Nod}(h:upsN M=upsN N)(a b:Int):ancI M a b=ancI N a b:=by
 have hl:M.length=N.length:=by have:=congrArg List.length h;simpa [upsN]using this
 unfold ancI pathI
 rw[h,hl]
theorem AhU{N:List Nod}{i k:Nat}(hk:k<N.length):k∈descI N i↔ancI N (i:Int) (k:Int)=true:=by
 unfold descI descN isAnc
 rw[List.mem_filter,List.mem_range,AgF hk,decide_eq_true_iff]
 simp only[Aj3]
 exact⟨fun h=>h.2,fun h=>⟨hk,h⟩⟩
theorem Agm{N:List Nod}(hd:∀i j (hi:i<N.length) (hj:j<N.length),N[i].b.root=N[j].b.root->i=j){k:Nat}(hk:k<N.length):fndI N N[k].b.root=(k:Int):=by
 rcases Aay (fun n:Nod=>decide (n.b.root=N[k].b.root)) N with⟨_,h⟩|⟨j,hj,h1,h2,_⟩
 .have:=h N[k] (List.getElem_mem hk);simp at this
 .have:=hd j k hj hk (of_decide_eq_true h2)
  subst this;exact h1
theorem AoI{N:List Nod}{r:Rt}(h:fndI N r<0):∀n∈N,n.b.root≠r:=by
 rcases Aay (fun n:Nod=>decide (n.b.root=r)) N with⟨_,h1⟩|⟨j,hj,h1,_⟩
 .intro n hn e;have:=h1 n hn;simp[e]at this
 .unfold fndI at h;omega
theorem TI.one(b:Blk)(h:b.root≠r0):TI [⟨b,-1,1⟩] where
 lk:=fun i hi=>by
  have:i=0:=by simpa [upsN]using hi
  subst this;exact .inl ⟨rfl,rfl⟩
 pos:=by simp
 diff:=fun i j hi hj _=>by simp at hi hj;omega
 st:=fun n hn=>by simp at hn;subst hn;exact .inr (.inl rfl)
 par:=fun i u hi hu e=>by simp at hi;subst hi;simp at e
 cl1:=fun i u hi hu e=>by simp at hi;subst hi;simp at e
 cl2:=fun i u hi hu e=>by simp at hi;subst hi;simp at e
 pay:=fun n hn _=>by simp at hn;subst hn;rfl
 nz:=fun n hn=>by simp at hn;subst hn;exact h
theorem TI.push{N:List Nod}(t:TI N){b:Blk}{u:Nat}(hu:u<N.length)(h1:b.root≠r0)(h2:∀n∈N,n.b.root≠b.root)(h3:N[u].b.root=b.parent)(h4:N[u].b.slot.n<b.slot.n)(h5:N[u].st≠2)(h6:b.payload=r0->N[u].b.payload=r0):TI (N ++ [⟨b,(u:Int),statOf b⟩]):=by
 have hl:(N ++ [⟨b,(u:Int),statOf b⟩]:List Nod).length=N.length+1:=by simp
 have g1:∀i (hi:i<N.length) (hi':i<(N ++ [⟨b,(u:Int),statOf b⟩]:List Nod).length),(N ++ [⟨b,(u:Int),statOf b⟩])[i]=N[i]:=fun i hi _=>List.getElem_append_left hi
 have g2:∀(hi':N.length<(N ++ [⟨b,(u:Int),statOf b⟩]:List Nod).length),(N ++ [⟨b,(u:Int),statOf b⟩])[N.length]=⟨b,(u:Int),statOf b⟩:=fun _=>by rw[List.getElem_append_right (Nat.le_refl _)];simp
 have split:∀{i},i<(N ++ [⟨b,(u:Int),statOf b⟩]:List Nod).length->i<N.length\/i=N.length:=fun h=>by rw[hl]at h;omega
 have hups:∀i (hi:i<N.length) (v:Nat),N[i].up=(v:Int)->v<i:=fun i hi v e=>by
  rcases Ady t.lk hi with⟨_,e'⟩|⟨w,hw,e'⟩<;>omega
 refine⟨Aql fun i hi=>?_,by omega,fun i j hi hj e=>?_,fun n hn=>?_,fun i v hi hv e=>?_,fun i v hi hv e h=>?_,fun i v hi hv e h=>?_,fun n hn hp=>?_,fun n hn=>?_⟩
 .rcases split hi with h|rfl
  .rw[g1 i h hi];exact Ady t.lk h
  .rw[g2 hi];exact .inr ⟨u,hu,rfl⟩
 .rcases split hi with h|rfl
  .rcases split hj with h'|rfl
   .rw[g1 i h hi,g1 j h' hj]at e;exact t.diff i j h h' e
   .rw[g1 i h hi,g2 hj]at e;exact absurd e (h2 _ (List.getElem_mem h))
  .rcases split hj with h'|rfl
   .rw[g2 hi,g1 j h' hj]at e;exact absurd e.symm (h2 _ (List.getElem_mem h'))
   .rfl
 .rcases List.mem_append.1 hn with hn|hn
  .exact t.st n hn
  .have:n=⟨b,(u:Int),statOf b⟩:=by simpa using hn
   subst this;unfold statOf;simp only;split<;>simp
 .rcases split hi with h|rfl
  .rw[g1 i h hi]at e |-
   have hv':=hups i h v e
   rw[g1 v (by omega) hv]
   exact t.par i v h (by omega) e
  .rw[g2 hi]at e |-
   simp only at e |-
   obtain rfl:u=v:=by omega
   rw[g1 u hu hv];exact⟨h3,h4⟩
 .rcases split hi with h'|rfl
  .rw[g1 i h' hi]at e h
   have hv':=hups i h' v e
   rw[g1 v (by omega) hv]
   exact t.cl1 i v h' (by omega) e h
  .rw[g2 hi]at e h
   simp only at e h
   obtain rfl:u=v:=by omega
   rw[g1 u hu hv]
   unfold statOf at h
   split at h
   .rename_i hp;exact t.pay _ (List.getElem_mem hu) (h6 hp)
   .omega
 .rcases split hi with h'|rfl
  .rw[g1 i h' hi]at e |-
   have hv':=hups i h' v e
   rw[g1 v (by omega) hv]at h
   exact t.cl2 i v h' (by omega) e h
  .rw[g2 hi]at e
   simp only at e
   obtain rfl:u=v:=by omega
   rw[g1 u hu hv]at h
   exact absurd h h5
 .rcases List.mem_append.1 hn with hn|hn
  .exact t.pay n hn hp
  .have:n=⟨b,(u:Int),statOf b⟩:=by simpa using hn
   subst this;exact if_pos hp
 .rcases List.mem_append.1 hn with hn|hn
  .exact t.nz n hn
  .have:n=⟨b,(u:Int),statOf b⟩:=by simpa using hn
   subst this;exact h1
theorem AfT{st fb:Int}(hne:st≠fb):∀{N M:List Nod} {l:List Nat},(∀k∈l,k<N.length)->setF st fb N l=some M ->
  M.length=N.length/\(∀k (hk:k<N.length) (hk':k<M.length),M[k]=if k∈l then {N[k]with st:=st}else N[k])/\∀k∈l,∀hk:k<N.length,N[k].st≠fb
 |N,M,[],_,h=>by
  simp only[setF,Option.some.injEq]at h
  subst h
  exact⟨rfl,fun k hk hk'=>by simp,fun k hk=>by simp at hk⟩
 |N,M,a::t,hl,h=>by
  simp only[setF]at h
  have ha:=hl a (by simp)
  rw[nget ha]at h
  split at h
  .cases h
  .rename_i hna
   obtain⟨h1,h2,h3⟩:=AfT hne (fun k hk=>by simp;exact hl k (by simp[hk])) h
   rw[List.length_set]at h1
   refine⟨h1,fun k hk hk'=>?_,fun k hk hkl=>?_⟩
   .rw[h2 k (by simpa using hk) hk',List.getElem_set]
    by_cases hak:a=k
    .subst hak;by_cases hat:a∈t<;>simp[hat]
    .have:¬k=a:=fun e=>hak e.symm
     simp[hak,this]
   .rcases List.mem_cons.1 hk with rfl|hk
    .exact hna
    .have:=h3 k hk (by simpa using hkl)
     rw[List.getElem_set]at this
     by_cases hak:a=k
     .subst hak;exact hna
     .simpa [hak]using this
structure SameB(N M:List Nod):Prop where
 len:M.length=N.length
 b:∀k (hk:k<N.length) (hk':k<M.length),M[k].b=N[k].b/\M[k].up=N[k].up
theorem SameB.refl(N:List Nod):SameB N N:=⟨rfl,fun _ _ _=>⟨rfl,rfl⟩⟩
theorem SameB.trans{N M K:List Nod}(h:SameB N M)(h':SameB M K):SameB N K:=⟨h'.len.trans h.len,fun k hk hk'=>⟨(h'.b k (by rw[h.len];exact hk) hk').1.trans (h.b k hk (by rw[h.len];exact hk)).1,(h'.b k (by rw[h.len];exact hk) hk').2.trans (h.b k hk (by rw[h.len];exact hk)).2⟩⟩
theorem SameB.ups{N M:List Nod}(h:SameB N M):upsN M=upsN N:=by
 apply List.ext_getElem
 .simp[upsN,h.len]
 .intro k h1 h2
  simp[upsN]at h1 h2 |-
  exact(h.b k h2 h1).2
theorem TI.same{N M:List Nod}(t:TI N)(h:SameB N M)(hst:∀n∈M,n.st=0\/n.st=1\/n.st=2)
  (c1:∀i u (hi:i<M.length) (hu:u<M.length),M[i].up=(u:Int)->M[i].st=1->M[u].st=1) (c2:∀i u (hi:i<M.length) (hu:u<M.length),M[i].up=(u:Int)->M[u].st=2->M[i].st=2)
  (hp:∀k (hk:k<N.length) (hk':k<M.length),N[k].b.payload=r0->M[k].st=1):TI M where
 lk:=by rw[h.ups];exact t.lk
 pos:=by rw[h.len];exact t.pos
 diff:=fun i j hi hj e=>t.diff i j (by rw[<-h.len];exact hi) (by rw[<-h.len];exact hj) (by rwa [(h.b i _ hi).1,(h.b j _ hj).1]at e)
 st:=hst
 par:=fun i u hi hu e=>by
  have hi':i<N.length:=by rw[<-h.len];exact hi
  have hu':u<N.length:=by rw[<-h.len];exact hu
  rw[(h.b i hi' hi).2]at e
  rw[(h.b i hi' hi).1,(h.b u hu' hu).1]
  exact t.par i u hi' hu' e
 cl1:=c1
 cl2:=c2
 pay:=fun n hn e=>by
  obtain⟨k,hk,rfl⟩:=List.getElem_of_mem hn
  have hk':k<N.length:=by rw[<-h.len];exact hk
  exact hp k hk' hk (by rwa [(h.b k hk' hk).1]at e)
 nz:=fun n hn=>by
  obtain⟨k,hk,rfl⟩:=List.getElem_of_mem hn
  have hk':k<N.length:=by rw[<-h.len];exact hk
  rw[(h.b k hk' hk).1]
  exact t.nz _ (List.getElem_mem hk')
structure Judged(N M:List Nod):Prop where
 t:TI M
 same:SameB N M
theorem Ajs{N M:List Nod}{i:Nat}(t:TI N)(hi:i<N.length)(h:raiseN N (i:Int)=(0,M)):Judged N M/\∀k (hk:k<N.length) (hk':k<M.length),N[k].st≠2->M[k].st≠2:=by
 unfold raiseN at h
 rw[AcO (by omega) (by omega),if_pos rfl]at h
 unfold stR at h
 split at h
 .simp at h
 .rename_i M' hs
  injection h with _ h
  subst h
  have hmem:∀k,k∈pathI N (i:Int)↔ancI N (k:Int) (i:Int)=true:=fun k=>by
   unfold ancI
   rw[decide_eq_true_iff,List.mem_map]
   exact⟨fun h=>⟨k,h,rfl⟩,fun⟨x,hx,e⟩=>(show x=k by omega)▸hx⟩
  obtain⟨h1,h2,h3⟩:=AfT (by decide) (fun k hk=>(Ac4 t.lk hk).1) hs
  have hb:SameB N M':=⟨h1,fun k hk hk'=>by rw[h2 k hk hk'];split<;>exact⟨rfl,rfl⟩⟩
  have hst:∀k (hk:k<N.length) (hk':k<M'.length),M'[k].st=if ancI N (k:Int) (i:Int)=true then 1 else N[k].st:=fun k hk hk'=>by
   rw[h2 k hk hk']
   by_cases hm:ancI N (k:Int) (i:Int)=true
   .rw[if_pos ((hmem k).2 hm),if_pos hm]
   .rw[if_neg (fun e=>hm ((hmem k).1 e)),if_neg hm]
  refine⟨⟨t.same hb (fun n hn=>?_) (fun a u ha hu e e1=>?_) (fun a u ha hu e e2=>?_) (fun k hk hk' hp=>?_),hb⟩,fun k hk hk' hn=>?_⟩
  .obtain⟨k,hk,rfl⟩:=List.getElem_of_mem hn
   rw[hst k (by omega) hk]
   split
   .simp
   .exact t.st _ (List.getElem_mem _)
  .rw[hst a (by omega) ha]at e1
   rw[hst u (by omega) hu]
   rw[(hb.b a (by omega) ha).2]at e
   split
   .rfl
   .rename_i hu'
    by_cases hm:ancI N (a:Int) (i:Int)=true
    .exact absurd (AnU t.lk hi ((Ack t.lk (by omega) e).2 (.inr (Aed t.lk (by omega)))) hm) hu'
    .rw[if_neg hm]at e1
     exact t.cl1 a u (by omega) (by omega) e e1
  .rw[hst u (by omega) hu]at e2
   rw[hst a (by omega) ha]
   rw[(hb.b a (by omega) ha).2]at e
   by_cases hm:ancI N (u:Int) (i:Int)=true
   .rw[if_pos hm]at e2;omega
   .rw[if_neg hm]at e2
    have:=t.cl2 a u (by omega) (by omega) e e2
    split
    .rename_i ha'
     exact absurd this (h3 a ((hmem a).2 ha') (by omega))
    .exact this
  .rw[hst k hk hk']
   split
   .rfl
   .exact t.pay _ (List.getElem_mem hk) hp
  .rw[hst k hk hk']
   split
   .omega
   .exact hn
theorem Amy{N M:List Nod}{i:Nat}(t:TI N)(hi:i<N.length)(h:condN N (i:Int)=(0,M)):Judged N M/\∀k (hk:k<N.length) (hk':k<M.length),ancI N (i:Int) (k:Int)=false->M[k].st=N[k].st:=by
 unfold condN at h
 rw[AcO (by omega) (by omega),if_pos rfl,Int.toNat_natCast]at h
 unfold stR at h
 split at h
 .simp at h
 .rename_i M' hs
  injection h with _ h
  subst h
  obtain⟨h1,h2,h3⟩:=AfT (by decide) (fun k hk=>AkU hk) hs
  have hb:SameB N M':=⟨h1,fun k hk hk'=>by rw[h2 k hk hk'];split<;>exact⟨rfl,rfl⟩⟩
  have hst:∀k (hk:k<N.length) (hk':k<M'.length),M'[k].st=if ancI N (i:Int) (k:Int)=true then 2 else N[k].st:=fun k hk hk'=>by
   rw[h2 k hk hk']
   by_cases hm:ancI N (i:Int) (k:Int)=true
   .rw[if_pos ((AhU hk).2 hm),if_pos hm]
   .rw[if_neg (fun e=>hm ((AhU hk).1 e)),if_neg hm]
  have hno:∀k (hk:k<N.length),ancI N (i:Int) (k:Int)=true->N[k].st≠1:=fun k hk hm=>h3 k ((AhU hk).2 hm) hk
  refine⟨⟨t.same hb (fun n hn=>?_) (fun a u ha hu e e1=>?_) (fun a u ha hu e e2=>?_) (fun k hk hk' hp=>?_),hb⟩,fun k hk hk' hn=>?_⟩
  .obtain⟨k,hk,rfl⟩:=List.getElem_of_mem hn
   rw[hst k (by omega) hk]
   split
   .simp
   .exact t.st _ (List.getElem_mem _)
  .rw[hst a (by omega) ha]at e1
   rw[hst u (by omega) hu]
   rw[(hb.b a (by omega) ha).2]at e
   by_cases hm:ancI N (i:Int) (a:Int)=true
   .rw[if_pos hm]at e1;omega
   .rw[if_neg hm]at e1
    rw[if_neg (fun hx=>hm ((Ack t.lk (by omega) e).2 (.inr hx)))]
    exact t.cl1 a u (by omega) (by omega) e e1
  .rw[hst u (by omega) hu]at e2
   rw[hst a (by omega) ha]
   rw[(hb.b a (by omega) ha).2]at e
   by_cases hm:ancI N (i:Int) (u:Int)=true
   .rw[if_pos ((Ack t.lk (by omega) e).2 (.inr hm))]
   .rw[if_neg hm]at e2
    split
    .rfl
    .exact t.cl2 a u (by omega) (by omega) e e2
  .rw[hst k hk hk']
   have:=t.pay _ (List.getElem_mem hk) hp
   split
   .rename_i hm;exact absurd this (hno k hk hm)
   .exact this
  .rw[hst k hk hk',hn];simp
theorem AoA{N M:List Nod}{i:Nat}{v:Vd}{keep:List Nat}(t:TI N)(hi:i<N.length)(h:judgeN N (i:Int) v (keep.map fun(k:Nat)=>(k:Int))=(0,M)):Judged N M/\∀k∈keep,∀(hk:k<N.length) (hk':k<M.length),N[k].st≠2->M[k].st≠2:=by
 unfold judgeN at h
 rw[AcO (by omega) (by omega)]at h
 simp only[Bool.true_eq_false,if_false]at h
 split at h
 .obtain⟨h1,h2⟩:=Ajs t hi h
  exact⟨h1,fun k _ hk hk'=>h2 k hk hk'⟩
 .split at h
  .injection h with _ h
   subst h
   exact⟨⟨t,SameB.refl _⟩,fun k _ hk hk' e=>e⟩
  .split at h
   .simp at h
   .split at h
    .simp at h
    .rename_i hk
     have hkk:∀k∈keep,ancI N (reachN N (i:Int) v.latest).2 (k:Int)=false:=fun k hkm=>by
      simp only[List.any_map,List.any_eq_true,not_exists,not_and,Function.comp_apply,Bool.not_eq_true]at hk
      exact hk k hkm
     generalize(reachN N (i:Int) v.latest).2=rc at *
     generalize(reachN N (i:Int) v.latest).1=rv at *
     have C:∀{N' M:List Nod},TI N'->condN N' rc=(0,M)->∃c:Nat,rc=(c:Int)/\c<N'.length:=fun {N' M} t' h=>by
      unfold condN at h
      split at h
      .rename_i hc
       obtain⟨c1,c2⟩:=AcF hc
       exact⟨rc.toNat,by omega,by omega⟩
      .simp at h
     unfold judge2 at h
     split at h
     .split at h
      .rename_i hrv hr0
       obtain⟨r,rfl⟩:∃r:Nat,rv=(r:Int):=⟨rv.toNat,by omega⟩
       obtain⟨M1,hM1⟩:∃M1,raiseN N (r:Int)=(0,M1):=⟨(raiseN N (r:Int)).2,by rw[<-hr0]⟩
       rw[hM1]at h
       simp only at h
       have hr:r<N.length:=by
        unfold raiseN at hM1
        split at hM1
        .rename_i hx;have:=AcF hx;omega
        .simp at hM1
       obtain⟨j1,j2⟩:=Ajs t hr hM1
       obtain⟨c,rfl,hc⟩:=C j1.t h
       obtain⟨k1,k2⟩:=Amy j1.t hc h
       refine⟨⟨k1.t,j1.same.trans k1.same⟩,fun k hkm hkl hkl' hn=>?_⟩
       have hkM:k<M1.length:=by rw[j1.same.len];exact hkl
       rw[k2 k hkM hkl' (by rw[Aoo j1.same.ups];exact hkk k hkm)]
       exact j2 k hkl hkM hn
      .rename_i hne
       injection h with h _
       exact absurd h hne
     .obtain⟨c,rfl,hc⟩:=C t h
      obtain⟨k1,k2⟩:=Amy t hc h
      exact⟨k1,fun k hkm hkl hkl' hn=>by rw[k2 k hkl hkl' (hkk k hkm)];exact hn⟩
structure PrI(N:List Nod)(i k:Nat)(s:List Nod × List Int):Prop where
 len:s.2.length=k
 yes:∀j,(hj:j<N.length)->j<k->ancI N (i:Int) (j:Int)=true->∃p:Nat,∃hp:p<s.1.length,s.2.getD j (-1)=(p:Int)/\s.1[p] = {N[j]with up:=if j=i then -1 else s.2.getD N[j].up.toNat (-1)}
 src:∀p,p<s.1.length->∃j,j<k/\∃hj:j<N.length,ancI N (i:Int) (j:Int)=true/\s.2.getD j (-1)=(p:Int)
 mono:∀j j',(hj:j'<N.length)->j<j'->j'<k->ancI N (i:Int) (j:Int)=true->ancI N (i:Int) (j':Int)=true->s.2.getD j (-1)<s.2.getD j' (-1)
theorem Abb{l:List Int}{x:Int}{j:Nat}(h:j<l.length):(l ++ [x]).getD j (-1)=l.getD j (-1):=by simp[List.getD,List.getElem?_append_left h]
theorem AhQ{l:List Int}{x:Int}:(l ++ [x]).getD l.length (-1)=x:=by simp[List.getD]
theorem prI{N:List Nod}(t:TI N){i:Nat}:∀k,k<=N.length->PrI N i k (prTo N i k)
 |0,_=>⟨by simp[prTo],fun j hj h=>by omega,fun p hp=>by simp[prTo]at hp,fun j j' hj h1 h2=>by omega⟩
 |k+1,hk=>by
  have ih:=prI t (i:=i) k (by omega)
  rw[Afa]
  generalize prTo N i k=s at *
  obtain⟨X,I⟩:=s
  have hI:I.length=k:=ih.len
  unfold prS
  rw[nget (show k<N.length by omega)]
  by_cases ha:ancI N (i:Int) (k:Int)=true
  .rw[if_pos ha]
   have hup:k≠i->∃u:Nat,N[k].up=(u:Int)/\u<k/\ancI N (i:Int) (u:Int)=true:=fun hne=>by
    rcases Ady t.lk (show k<N.length by omega)with⟨h1,_⟩|⟨u,h1,h2⟩
    .subst h1;exact absurd (AfK t.lk t.pos ha).symm hne
    .rcases(Ack t.lk (by omega) h2).1 ha with rfl|h3
     .exact absurd rfl hne
     .exact⟨u,h2,h1,h3⟩
   refine⟨by simp[hI],fun j hj hjk hja=>?_,fun p hp=>?_,fun j j' hj h1 h2 ha1 ha2=>?_⟩
   .rcases Nat.lt_or_ge j k with hlt|hge
    .obtain⟨p,hp,e1,e2⟩:=ih.yes j hj hlt hja
     simp only at hp e1 e2 |-
     refine⟨p,by simp;omega,by rw[Abb (by omega)];exact e1,?_⟩
     rw[List.getElem_append_left hp,e2]
     by_cases hji:j=i
     .rw[if_pos hji,if_pos hji]
     .rw[if_neg hji,if_neg hji,Abb]
      rcases Ady t.lk hj with⟨h1,h2⟩|⟨u,h1,h2⟩
      .subst h1;rw[h2];simp;omega
      .rw[h2,Int.toNat_natCast];omega
    .obtain rfl:j=k:=by omega
     refine⟨X.length,by simp,by simp only;rw[<-hI];exact AhQ,?_⟩
     simp only
     rw[List.getElem_append_right (Nat.le_refl _)]
     simp only[Nat.sub_self,List.getElem_cons_zero]
     by_cases hji:j=i
     .rw[if_pos hji,if_pos hji]
     .rw[if_neg hji,if_neg hji]
      obtain⟨u,hu,hul,_⟩:=hup hji
      rw[hu,Int.toNat_natCast,Abb (by omega)]
   .simp only[List.length_append,List.length_singleton]at hp
    rcases Nat.lt_or_ge p X.length with hlt|hge
    .obtain⟨j,hj,hjl,hja,e⟩:=ih.src p hlt
     exact⟨j,by omega,hjl,hja,by simp only;rw[Abb (by omega)];exact e⟩
    .obtain rfl:p=X.length:=by omega
     exact⟨k,by omega,by omega,ha,by simp only;rw[<-hI];exact AhQ⟩
   .simp only
    rcases Nat.lt_or_ge j' k with hlt|hge
    .rw[Abb (by omega),Abb (by omega)]
     exact ih.mono j j' hj h1 hlt ha1 ha2
    .obtain rfl:j'=k:=by omega
     rw[Abb (by omega)]
     obtain⟨p,hp,e1,_⟩:=ih.yes j (by omega) h1 ha1
     simp only at e1 hp
     have e2:(I ++ [(X.length:Int)]).getD j' (-1)=(X.length:Int):=by rw[<-hI];exact AhQ
     rw[e2]
     omega
  .rw[if_neg ha]
   refine⟨by simp[hI],fun j hj hjk hja=>?_,fun p hp=>?_,fun j j' hj h1 h2 ha1 ha2=>?_⟩
   .have hlt:j<k:=by
     rcases Nat.lt_or_ge j k with h|h
     .exact h
     .obtain rfl:j=k:=by omega
      exact absurd hja ha
    obtain⟨p,hp,e1,e2⟩:=ih.yes j hj hlt hja
    simp only at hp e1 e2 |-
    refine⟨p,hp,by rw[Abb (by omega)];exact e1,?_⟩
    rw[e2]
    by_cases hji:j=i
    .rw[if_pos hji,if_pos hji]
    .rw[if_neg hji,if_neg hji,Abb]
     rcases Ady t.lk hj with⟨h1,h2⟩|⟨u,h1,h2⟩
     .subst h1;rw[h2];simp;omega
     .rw[h2,Int.toNat_natCast];omega
   .obtain⟨j,hj,hjl,hja,e⟩:=ih.src p hp
    exact⟨j,by omega,hjl,hja,by rw[Abb (show j<I.length by omega)];exact e⟩
   .have hlt:j'<k:=by
     rcases Nat.lt_or_ge j' k with h|h
     .exact h
     .obtain rfl:j'=k:=by omega
      exact absurd ha2 ha
    simp only
    rw[Abb (by omega),Abb (by omega)]
    exact ih.mono j j' hj h1 hlt ha1 ha2
structure Pruned(N:List Nod)(i:Nat)(P:List Nod):Prop where
 t:TI P
 first:∀(hi:i<N.length) (h:0<P.length),P[0] = {N[i]with up:=-1}
 src:∀n∈P,∃m∈N,n.b=m.b/\n.st=m.st
 has:∀j (hj:j<N.length),ancI N (i:Int) (j:Int)=true->∃p,∃hp:p<P.length,P[p].b=N[j].b/\P[p].st=N[j].st
 len:P.length<=N.length
theorem Ajv{N:List Nod}(t:TI N){i:Nat}(hi:i<N.length):Pruned N i (pruneN N i):=by
 have h:=prI t (i:=i) N.length (Nat.le_refl _)
 have hlen:=(Ajw N i N.length).1
 unfold pruneN
 generalize prTo N i N.length=s at *
 obtain⟨X,I⟩:=s
 simp only at hlen |-
 have pick:∀p,(hp:p<X.length)->∃j,∃hj:j<N.length,ancI N (i:Int) (j:Int)=true/\I.getD j (-1)=(p:Int)/\X[p] = {N[j]with up:=if j=i then -1 else I.getD N[j].up.toNat (-1)}:=fun p hp=>by
  obtain⟨j,_,hj,ha,e⟩:=h.src p hp
  obtain⟨q,hq,e1,e2⟩:=h.yes j hj hj ha
  simp only at e e1 e2 hq
  obtain rfl:q=p:=by omega
  exact⟨j,hj,ha,e,e2⟩
 have inj:∀j j',j<N.length->j'<N.length->ancI N (i:Int) (j:Int)=true->ancI N (i:Int) (j':Int)=true->I.getD j (-1)=I.getD j' (-1)->j=j':=fun j j' hj hj' ha ha' e=>by
  rcases Nat.lt_trichotomy j j' with hlt|heq|hgt
  .have:=h.mono j j' hj' hlt hj' ha ha';simp only at this;omega
  .exact heq
  .have:=h.mono j' j hj hgt hj ha' ha;simp only at this;omega
 obtain⟨p0,hp0,e0,x0⟩:=h.yes i hi hi (Aed t.lk hi)
 simp only at hp0 e0 x0
 have hp00:p0=0:=by
  rcases Nat.eq_zero_or_pos p0 with h0|h0
  .exact h0
  .obtain⟨j,hj,ha,e,_⟩:=pick 0 (by omega)
   have hij:=ApB t.lk hj ha
   rcases Nat.lt_or_ge i j with hlt|hge
   .have:=h.mono i j hj hlt hj (Aed t.lk hi) ha;simp only at this;omega
   .obtain rfl:i=j:=by omega
    omega
 subst hp00
 have upq:∀p (hp:p<X.length) (q:Nat),X[p].up=(q:Int)->∃j u,∃hj:j<N.length,∃hu:u<N.length,N[j].up=(u:Int)/\X[p].b=N[j].b/\X[p].st=N[j].st/\∃hq:q<X.length,X[q].b=N[u].b/\X[q].st=N[u].st/\q<p:=fun p hp q e=>by
  obtain⟨j,hj,ha,ej,xj⟩:=pick p hp
  rw[xj]at e
  simp only at e
  by_cases hji:j=i
  .rw[if_pos hji]at e;omega
  .rw[if_neg hji]at e
   rcases Ady t.lk hj with⟨h1,h2⟩|⟨u,h1,h2⟩
   .subst h1;exact absurd (AfK t.lk t.pos ha).symm hji
   .rcases(Ack t.lk hj h2).1 ha with rfl|hu
    .exact absurd rfl hji
    .rw[h2,Int.toNat_natCast]at e
     obtain⟨q',hq',e1,e2⟩:=h.yes u (by omega) (by omega) hu
     simp only at e1 e2 hq'
     obtain rfl:q'=q:=by omega
     have hlt:=h.mono u j hj h1 hj hu ha
     simp only at hlt
     exact⟨j,u,hj,by omega,h2,by rw[xj],by rw[xj],hq',by rw[e2],by rw[e2],by omega⟩
 refine⟨⟨Aql fun p hp=>?_,by omega,fun p p' hp hp' e=>?_,fun n hn=>?_,fun p q hp hq e=>?_,fun p q hp hq e e1=>?_,fun p q hp hq e e1=>?_,fun n hn hpay=>?_,fun n hn=>?_⟩,fun _ _=>?_,fun n hn=>?_,fun j hj ha=>?_,hlen⟩
 .obtain⟨j,hj,ha,ej,xj⟩:=pick p hp
  by_cases hji:j=i
  .subst hji
   refine .inl ⟨by omega,?_⟩
   rw[xj];simp
  .refine .inr ?_
   rcases Ady t.lk hj with⟨h1,h2⟩|⟨u,h1,h2⟩
   .subst h1;exact absurd (AfK t.lk t.pos ha).symm hji
   .rcases(Ack t.lk hj h2).1 ha with rfl|hu
    .exact absurd rfl hji
    .obtain⟨q',hq',e1,e2⟩:=h.yes u (by omega) (by omega) hu
     simp only at e1 e2 hq'
     have hlt:=h.mono u j hj h1 hj hu ha
     simp only at hlt
     refine⟨q',by omega,?_⟩
     rw[xj]
     simp only
     rw[if_neg hji,h2,Int.toNat_natCast]
     exact e1
 .obtain⟨j,hj,ha,ej,xj⟩:=pick p hp
  obtain⟨j',hj',ha',ej',xj'⟩:=pick p' hp'
  rw[xj,xj']at e
  have:=t.diff j j' hj hj' e
  subst this
  omega
 .obtain⟨p,hp,rfl⟩:=List.getElem_of_mem hn
  obtain⟨j,hj,ha,ej,xj⟩:=pick p hp
  rw[xj];exact t.st N[j] (List.getElem_mem hj)
 .obtain⟨j,u,hj,hu,e1,e2,e3,_,e4,e5,_⟩:=upq p hp q e
  rw[e2,e4];exact t.par j u hj hu e1
 .obtain⟨j,u,hj,hu,e1',e2,e3,_,e4,e5,_⟩:=upq p hp q e
  rw[e5];rw[e3]at e1;exact t.cl1 j u hj hu e1' e1
 .obtain⟨j,u,hj,hu,e1',e2,e3,_,e4,e5,_⟩:=upq p hp q e
  rw[e3];rw[e5]at e1;exact t.cl2 j u hj hu e1' e1
 .obtain⟨p,hp,rfl⟩:=List.getElem_of_mem hn
  obtain⟨j,hj,ha,ej,xj⟩:=pick p hp
  rw[xj]at hpay |-;exact t.pay N[j] (List.getElem_mem hj) hpay
 .obtain⟨p,hp,rfl⟩:=List.getElem_of_mem hn
  obtain⟨j,hj,ha,ej,xj⟩:=pick p hp
  rw[xj];exact t.nz N[j] (List.getElem_mem hj)
 .rw[x0];simp
 .obtain⟨p,hp,rfl⟩:=List.getElem_of_mem hn
  obtain⟨j,hj,ha,ej,xj⟩:=pick p hp
  exact⟨N[j],List.getElem_mem hj,by rw[xj],by rw[xj]⟩
 .obtain⟨q',hq',e1,e2⟩:=h.yes j hj hj ha
  simp only at e1 e2 hq'
  exact⟨q',hq',by rw[e2],by rw[e2]⟩
end
section
open Go.RowKit
def Sto.lv(s:Sto)(j:Nat):Bool:=s.liveF (s.nodes.length+1) (j:Int)
theorem AhJ{s:Sto}(ha:Ahead s.nodes):∀(f f':Nat) (i:Int),0<=i->(s.nodes.length:Int)<=i+f->(s.nodes.length:Int)<=i+f'->s.liveF (f+1) i=s.liveF (f'+1) i
 |0,f',i,h0,h1,h2=>by
  have hk:kids s.nodes i = []:=by unfold kids;rw[if_neg];intro h;have:=AcF h;omega
  simp[Sto.liveF,hk]
 |f+1,0,i,h0,h1,h2=>by
  have hk:kids s.nodes i = []:=by unfold kids;rw[if_neg];intro h;have:=AcF h;omega
  simp[Sto.liveF,hk]
 |f+1,f'+1,i,h0,h1,h2=>by
  show(s.qual i||(kids s.nodes i).any fun k=>s.liveF (f+1) (k:Int))=(s.qual i||(kids s.nodes i).any fun k=>s.liveF (f'+1) (k:Int))
  congr 1
  rw[Bool.eq_iff_iff,List.any_eq_true,List.any_eq_true]
  have key:∀k∈kids s.nodes i,s.liveF (f+1) (k:Int)=s.liveF (f'+1) (k:Int):=fun k hk=>by
   obtain⟨e1,e2⟩:=Abz hk
   have:=ha k e1
   exact AhJ ha f f' k (by omega) (by omega) (by omega)
  exact⟨fun⟨x,hx,e⟩=>⟨x,hx,key x hx▸e⟩,fun⟨x,hx,e⟩=>⟨x,hx,(key x hx).symm▸e⟩⟩
theorem Aqk{s:Sto}(ha:Ahead s.nodes)(j:Nat)(hj:j<s.nodes.length):s.lv j=(s.qual (j:Int)||(kids s.nodes (j:Int)).any s.lv):=by
 unfold Sto.lv
 rw[AhJ ha s.nodes.length s.nodes.length j (by omega) (by omega) (by omega)]
 show(s.qual (j:Int)||(kids s.nodes (j:Int)).any fun k=>s.liveF s.nodes.length (k:Int))=_
 congr 1
 have key:∀k∈kids s.nodes (j:Int),s.liveF s.nodes.length (k:Int)=s.liveF (s.nodes.length+1) (k:Int):=fun k hk=>by
  obtain⟨e1,e2⟩:=Abz hk
  have:=ha k e1
  obtain⟨m,hm⟩:∃m,s.nodes.length=m+1:=⟨s.nodes.length-1,by omega⟩
  have:=AhJ ha m (m+1) (k:Int) (by omega) (by omega) (by omega)
  rw[hm];exact this
 rw[Bool.eq_iff_iff,List.any_eq_true,List.any_eq_true]
 exact⟨fun⟨x,hx,e⟩=>⟨x,hx,key x hx▸e⟩,fun⟨x,hx,e⟩=>⟨x,hx,(key x hx).symm▸e⟩⟩
def Sto.mark(s:Sto)(i j:Nat):Bool:=if i<=j then s.lv j else(List.range s.nodes.length).any fun k=>decide (i<=k)&&decide ((s.nodes.getD k n0).up=(j:Int))&&s.lv k
def Sto.marks(s:Sto)(i:Nat):List Bool:=(List.range s.nodes.length).map (s.mark i)
theorem Ab6(s:Sto)(i:Nat):(s.marks i).length=s.nodes.length:=by simp[Sto.marks]
theorem Acw(s:Sto)(i j:Nat)(h:j<(s.marks i).length):(s.marks i)[j]=s.mark i j:=by simp[Sto.marks]
theorem AlD(s:Sto):s.marks 0=s.lives:=by simp[Sto.marks,Sto.lives,Sto.mark,Sto.lv]
theorem AmD(s:Sto):s.marks s.nodes.length=List.replicate s.nodes.length false:=by
 apply List.ext_getElem
 .simp[Ab6]
 .intro j h1 h2
  rw[Acw,List.getElem_replicate]
  have hj:j<s.nodes.length:=by rw[Ab6]at h1;exact h1
  unfold Sto.mark
  rw[if_neg (by omega),List.any_eq_false]
  intro k hk
  have:=List.mem_range.1 hk
  simp;omega
theorem AmE{s:Sto}(ha:Ahead s.nodes){i:Nat}(hi:i<s.nodes.length):(s.mark (i+1) i||s.qual (i:Int))=s.lv i:=by
 rw[Aqk ha i hi,Bool.or_comm]
 congr 1
 unfold Sto.mark
 rw[if_neg (by omega),Bool.eq_iff_iff,List.any_eq_true,List.any_eq_true]
 constructor
 .rintro⟨k,hk,e⟩
  simp only[Bool.and_eq_true,decide_eq_true_eq]at e
  refine⟨k,?_,e.2⟩
  unfold kids kidsTo
  rw[if_pos (AcO (by omega) (by omega)),List.mem_filter]
  exact⟨hk,by simpa using e.1.2⟩
 .rintro⟨k,hk,e⟩
  obtain⟨h1,h2⟩:=Abz hk
  refine⟨k,List.mem_range.2 h1,?_⟩
  have:=ha k h1
  simp only[Bool.and_eq_true,decide_eq_true_eq]
  exact⟨⟨by omega,by rw[nget h1];exact h2⟩,e⟩
theorem Afh{s:Sto}{i j:Nat}(hi:i<s.nodes.length)(hj:j<i):s.mark i j=(s.mark (i+1) j||(decide (s.nodes[i].up=(j:Int))&&s.lv i)):=by
 unfold Sto.mark
 rw[if_neg (by omega),if_neg (by omega),Bool.eq_iff_iff]
 simp only[Bool.or_eq_true,List.any_eq_true,Bool.and_eq_true,decide_eq_true_eq,List.mem_range]
 constructor
 .rintro⟨k,hk,⟨h1,h2⟩,h3⟩
  rcases Nat.lt_or_eq_of_le h1 with h|h
  .exact .inl ⟨k,hk,⟨h,h2⟩,h3⟩
  .subst h;exact .inr ⟨by rw[nget hk]at h2;exact h2,h3⟩
 .rintro(⟨k,hk,⟨h1,h2⟩,h3⟩|⟨h1,h2⟩)
  .exact⟨k,hk,⟨by omega,h2⟩,h3⟩
  .exact⟨i,hi,⟨Nat.le_refl _,by rw[nget hi];exact h1⟩,h2⟩
theorem An4{s:Sto}{i:Nat}(hi:i<s.nodes.length)(h:s.nodes[i].up<0\/s.lv i=false):(s.marks (i+1)).set i (s.lv i)=s.marks i:=by
 apply List.ext_getElem
 .simp[Ab6]
 .intro j h1 h2
  have hj:j<s.nodes.length:=by rw[Ab6]at h2;exact h2
  rw[Acw,List.getElem_set]
  split
  .rename_i e;subst e;unfold Sto.mark;rw[if_pos (Nat.le_refl _)]
  .rename_i e
   rw[Acw]
   rcases Nat.lt_or_ge j i with hlt|hge
   .rw[Afh hi hlt]
    rcases h with h|h
    .simp;omega
    .simp[h]
   .unfold Sto.mark;rw[if_pos (by omega),if_pos hge]
theorem AmC{s:Sto}(ha:Ahead s.nodes){i u:Nat}(hi:i<s.nodes.length)(hu:s.nodes[i].up=(u:Int))(h:s.lv i=true):((s.marks (i+1)).set i true).set u true=s.marks i:=by
 have hui:=ha i hi
 apply List.ext_getElem
 .simp[Ab6]
 .intro j h1 h2
  have hj:j<s.nodes.length:=by rw[Ab6]at h2;exact h2
  rw[Acw,List.getElem_set]
  split
  .rename_i e;subst e
   rw[Afh hi (by omega)]
   simp[hu,h]
  .rename_i e
   rw[List.getElem_set]
   split
   .rename_i e;subst e;unfold Sto.mark;rw[if_pos (Nat.le_refl _),h]
   .rename_i e'
    rw[Acw]
    rcases Nat.lt_or_ge j i with hlt|hge
    .rw[Afh hi hlt,hu]
     simp;omega
    .unfold Sto.mark;rw[if_pos (by omega),if_pos hge]
end
namespace Old
open Go.RowKit
theorem ref_add(a b:Int)(ha:0<=a)(ha':a<18446744073709551616)(hb:0<=b)(hb':b<18446744073709551616)(w:World) :
  Calls Tryz.prog 107 #[.int .u64 a,.int .u64 b] w fun e w'=>e=.returned (.tuple #[.int .u64 (addV a b),.int .i64 (addE a b)])/\w=w':=by
 go_enter Tryz.func107,Tryz.ntmps107
 go_wp2
 .have h:18446744073709551615-b<a:=by assumption
  go_ret2
  unfold addV addE
  rw[if_neg (by omega),if_neg (by omega)]
  exact⟨rfl,rfl⟩
 .have h:a<=18446744073709551615-b:=by assumption
  go_ret2
  unfold addV addE
  rw[if_pos (by omega),if_pos (by omega)]
  exact⟨rfl,rfl⟩
def sumV(l:List Int):Int:=if l.sum<18446744073709551616 then l.sum else 0
def sumE(l:List Int):Int:=if l.sum<18446744073709551616 then 0 else 4
theorem sum_nonneg{l:List Int}(h:U64 l):0<=l.sum:=by
 induction l with
 |nil=>simp
 |cons a l ih=>
  have h1:=h a (by simp)
  have h2:=ih (fun x hx=>h x (by simp[hx]))
  simp only[List.sum_cons];omega
theorem Ai0{l:List Int}(h:U64 l)(k:Nat):(l.take k).sum<=l.sum:=by
 have h1:(l.take k).sum+(l.drop k).sum=l.sum:=by rw[<-List.sum_append_int,List.take_append_drop]
 have h2:0<=(l.drop k).sum:=sum_nonneg fun x hx=>h x (List.mem_of_mem_drop hx)
 omega
theorem Ag0{l:List Int}{k:Nat}(hk:k<l.length):(l.take (k+1)).sum=(l.take k).sum+l[k]:=by
 rw[List.take_succ_eq_append_getElem hk,List.sum_append_int];simp
theorem ref_sum(B:Nat)(A:Option Addr)(n c:Nat)(l:List Int)(w:World)(hr:Row w B 1 A n (ints .u64 l))(hl:U64 l)(hn:n<=9223372036854775807) :
  Calls Tryz.prog 70 #[.slice A n c] w fun e w'=>e=.returned (.tuple #[.int .u64 (sumV l),.int .i64 (sumE l)])/\w=w':=by
 have hlen:l.length=n:=by have:=hr.1;simpa [ints]using this
 go_enter Tryz.func70,Tryz.ntmps70
 go_wp2
 go_loop [4,5] (fun s i=>∃k:Nat,k<=n/\i=.int .i64 k/\s=.int .u64 (l.take k).sum/\(l.take k).sum<18446744073709551616) (fun _ i=>n-(intOf i).toNat)
 case atStart=>exact⟨0,Nat.zero_le _,rfl,by simp,by simp⟩
 case round=>
  obtain⟨k,hk,rfl,rfl,hlt⟩:=hrel
  have h0:0<=(l.take k).sum:=sum_nonneg fun x hx=>hl x (List.mem_of_mem_take hx)
  by_cases hkn:k<n
  .have hkl:k<l.length:=by omega
   have hu:(ints .u64 l)[k]? = some (.int .u64 l[k]):=by unfold ints;rw[List.getElem?_map,List.getElem?_eq_getElem hkl];rfl
   obtain⟨ad,rfl,hb,hc⟩:=hr.at_ hu
   have hx:=hl l[k] (List.getElem_mem hkl)
   have hs:Hid ((l.take (k+1)).sum=(l.take k).sum+l[k]):=Ag0 hkl
   have HC:=Lib.hid (fun w=>ref_add (l.take k).sum l[k] h0 hlt hx.1 hx.2 w)
   have htot:Hid ((l.take (k+1)).sum<=l.sum):=Ai0 hl _
   have hlen':=Lib.hid hlen
   clear hlen hu
   generalize(l.take k).sum=s at *
   generalize l[k]=x at *
   by_cases hov:s+x<18446744073709551616
   .have hv:addV s x=s+x:=by unfold addV;rw[if_pos hov]
    have he:addE s x=0:=by unfold addE;rw[if_pos hov]
    rw[hv,he]at HC
    clear hv he
    go_wp2_with (go_at_call 107;refine(HC.out _).mono ?_;rintro e w' ⟨rfl,rfl⟩)
    go_round
    case rel=>exact⟨k+1,by omega,by go_num,by rw[hs.out],by rw[hs.out];exact hov⟩
    case measure=>simp[intOf];omega
   .have hv:addV s x=0:=by unfold addV;rw[if_neg hov]
    have he:addE s x=4:=by unfold addE;rw[if_neg hov]
    rw[hv,he]at HC
    clear hv he
    go_wp2_with (go_at_call 107;refine(HC.out _).mono ?_;rintro e w' ⟨rfl,rfl⟩)
    go_ret2
    have h1:=hs.out
    have h2:=htot.out
    unfold sumV sumE
    rw[if_neg (by omega),if_neg (by omega)]
    exact⟨rfl,rfl⟩
  .have hkk:k=n:=by omega
   subst hkk
   have hfull:l.take k=l:=List.take_of_length_le (by omega)
   rw[hfull]at hlt |-
   have hv:sumV l=l.sum:=by unfold sumV;rw[if_pos hlt]
   have he:sumE l=0:=by unfold sumE;rw[if_pos hlt]
   have HV:=Lib.hid hv
   have HE:=Lib.hid he
   clear hv he hlen hfull
   go_wp2
   go_ret2
   rw[HV.out,HE.out]
   exact⟨rfl,rfl⟩
theorem own_grown{w w':World}{base:Nat}{e:TypeId}{size:Nat}{v:Value}{n:Nat}{xs:List Value}(h:w.ownsRow base e size v n xs){row:Option Nat}(hg:w.grownBy w' row)(hne:∀g,v.ownBlock=some g->row≠some g):w'.ownsRow base e size v n xs:=by
 refine⟨h.1,?_⟩
 rcases h.2 with h1|⟨g,cap,cur,h1,h2,h3,h4⟩
 .exact .inl h1
 .refine .inr ⟨g,cap,cur,h1,h2,?_,h4⟩
  rw[hg.block g (Array.getElem?_eq_some_iff.1 h3).1 (fun e=>hne g (by rw[h1];rfl) e.symm)];exact h3
def Dis(v u:Value):Prop:=∀g,v.ownBlock=some g->u.ownBlock≠some g
theorem AoR{us:List Int}{i k:Nat}:∀j∈descN us i k,j<k:=fun j hj=>by
 have:=(List.mem_filter.1 hj).1
 simpa using this
theorem one_u64(i:Int):∀u ∈ [Value.int .u64 i],u.oneCell'=true:=fun u hu=>by simp at hu;subst hu;rfl
theorem apd{w:World}{base:Nat}{e:TypeId}{size n:Nat}{v:Value}{xs:List Value}(h:w.ownsRow base e size v n xs):Apd w base e size v n xs:=.inl h
abbrev Vt:=Bool × Int × List Int
def vc(v:Vt):List Value:=.bool v.1 :: .int .u64 v.2.1::ints .u8 v.2.2
def zv:Vt:=(false,0,zroot)
def VOk(vs:List Vt):Prop:=∀v∈vs,v.2.2.length=32/\Bt v.2.2
theorem vc_len{v:Vt}(h:v.2.2.length=32):(vc v).length=34:=by simp[vc,ints,h]
theorem VOk.len{vs:List Vt}(h:VOk vs):∀v∈vs,(vc v).length=34:=fun v hv=>vc_len (h v hv).1
theorem vc_one(v:Vt):∀u∈vc v,u.oneCell'=true:=fun u hu=>by
 simp only[vc,List.mem_cons]at hu
 rcases hu with rfl|rfl|hu
 .rfl
 .rfl
 .exact one_ints _ _ u hu
theorem AlZ(w:World):(zeroValue 172).run Tryz.prog w=.ok (.agg (vc zv).toArray) w:=by kernel_rfl
theorem cells_vote{v:Vt}(h:v.2.2.length=32):Tryz.prog.cellsOf 172=(vc v).length:=by rw[vc_len h];kernel_rfl
theorem ArK{v:Vt}(h:v.2.2.length=32):(vc zv).length=(vc v).length:=by rw[vc_len h];rfl
theorem Ad9(a b:Value):Tryz.prog.cellsOf 35 = [a,b].length:=by kernel_rfl
theorem has_newAt{w:World}{g:Nat}(hg:w.heap.size=g)(cs:List Value)(t:TypeId):Has (w.alloc (.cells cs.toArray t)) g cs:=hg▸Has.new w cs t
def VRow(w:World)(A:Option Addr)(n:Nat)(vs:List Vt):Prop:=vs.length=n/\VOk vs/\(0<n->∃g post,A=some ⟨g,0,none⟩/\Has w g (vs.flatMap vc++post))
def GRow(w:World)(A:Option Addr)(n:Nat)(G:List Int):Prop:=G.length=n/\(0<n->∃g post,A=some ⟨g,0,none⟩/\Has w g (ints .i64 G++post))
theorem VRow.below{w w':World}{A:Option Addr}{n:Nat}{vs:List Vt}(h:VRow w A n vs)(hb:Below w.heap.size w w'):VRow w' A n vs:=
 ⟨h.1,h.2.1,fun hn=>by obtain⟨g,post,e,hg⟩:=h.2.2 hn;exact⟨g,post,e,hg.below hb hg.lt⟩⟩
theorem GRow.below{w w':World}{A:Option Addr}{n:Nat}{G:List Int}(h:GRow w A n G)(hb:Below w.heap.size w w'):GRow w' A n G:=
 ⟨h.1,fun hn=>by obtain⟨g,post,e,hg⟩:=h.2 hn;exact⟨g,post,e,hg.below hb hg.lt⟩⟩
theorem GRow.row{w:World}{A:Option Addr}{n:Nat}{G:List Int}(h:GRow w A n G):Row w w.heap.size 1 A n (ints .i64 G):=by
 refine⟨by rw[ints_len,h.1,Nat.mul_one],fun j u hu=>?_⟩
 have hj:j<G.length:=by have:=(List.getElem?_eq_some_iff.1 hu).1;rwa [ints_len]at this
 obtain⟨g,post,e,hg⟩:=h.2 (by rw[<-h.1];omega)
 refine⟨_,e,hg.lt,?_⟩
 rw[Ad5,Nat.zero_add,hg.cell,List.getElem?_append_left (by rw[ints_len];exact hj)]
 exact hu
structure VS(w:World)(A0:Option Addr)(n0 c0:Nat)(W:World)(k:Nat)(vs:List Vt)(sL:Value)(nE:Nat)(G:List Int)(sE:Value):Prop where
 x3:Has W w.heap.size [.slice A0 n0 c0]
 x6:Has W (w.heap.size+1) [.slice none 0 0,.slice none 0 0]
 x7:Has W (w.heap.size+1+1) [sL,sE]
 oL:W.ownsRow (w.heap.size+1+1+1) 172 34 sL k (vs.flatMap vc)
 oE:W.ownsRow (w.heap.size+1+1+1) 3 1 sE nE (ints .i64 G)
 d:Dis sL sE
 b:Below w.heap.size w W
end Old
namespace Old
open Go.RowKit Go.Maps
theorem AmM:Keyed Tryz.prog 3:=int_keyed Tryz.underlying3
theorem AiO:Keyed Tryz.prog 29:=Keyed.of_law (deep_law_laid (P:=Tryz.prog) (by kernel_rfl) (m:=3) (by decide) (of_decide_eq_true (by kernel_rfl)) (by kernel_rfl) (by kernel_rfl))
theorem mapM_some{α β:Type}{f:α->Option β}{g:α->β}:∀l:List α,(∀x∈l,f x=some (g x))->l.mapM f=some (l.map g)
 |[],_=>rfl
 |x::l,h=>by
  rw[List.mapM_cons,h x (by simp),mapM_some l (fun y hy=>h y (by simp[hy]))];rfl
theorem range_getD(l:List Int):(List.range l.length).map (fun i=>l.getD i 0)=l:=by
 apply List.ext_getElem
 .simp
 .intro i h1 h2
  simp[List.getD,List.getElem?_eq_getElem h2]
def kr(r:List Int):Lit:=.string (keyBytes (r.map (Lit.int .u8)))
theorem AiP:Tryz.prog.keyType 29=true:=by kernel_rfl
theorem Aku:∃m,Tryz.prog.types.size=m+1:=⟨Tryz.prog.types.size-1,by kernel_rfl⟩
theorem cellsOf_u8:Tryz.prog.cellsOf 5=1:=by kernel_rfl
theorem cellsOf_root:Tryz.prog.cellsOf 29=32:=by kernel_rfl
theorem wf_u8{x:Int}(h:0<=x/\x<256):(Lit.int .u8 x).wf=true:=by
 simp only[Lit.wf,Bool.and_eq_true,decide_eq_true_eq]
 exact⟨h.1,Int.le_of_lt_add_one h.2⟩
theorem AjO{r:List Int}(hr:r.length=32):(Value.agg (ints .u8 r).toArray).formed Tryz.prog 29=true:=by
 unfold Value.formed
 simp only[Tryz.underlying29]
 rw[cellsOf_root];simp[ints,hr]
theorem Adt{r:List Int}(hr:r.length=32)(hb:Bt r):keyOf Tryz.prog 29 (.agg (ints .u8 r).toArray)=some (kr r):=by
 obtain⟨m,hm⟩:=Aku
 unfold keyOf
 simp only[Tryz.underlying29]
 rw[if_pos (by rw[AiP,AjO hr];rfl),hm]
 unfold Program.keyLits
 simp only[Tryz.underlying29,Value.cells]
 rw[if_pos (by rw[cellsOf_root];simp[ints,hr]),cellsOf_u8,mapM_some (g:=fun i=>[Lit.int .u8 (r.getD i 0)])]
 .simp only[Option.map_some,kr]
  congr 2
  have e:((List.range 32).map fun i=>[Lit.int .u8 (r.getD i 0)]).flatten=((List.range r.length).map (fun i=>r.getD i 0)).map (Lit.int .u8):=by
   rw[hr,List.map_map]
   simp[List.flatten_eq_flatMap,List.flatMap_map]
   rw[<-List.map_eq_flatMap]
   rfl
  rw[e,range_getD]
 .intro i hi
  have hi':i<32:=by simpa using hi
  have hir:i<r.length:=by rw[hr];exact hi'
  have e:((ints .u8 r).toArray.toList.drop (i*1)).take 1 = [.int .u8 (r.getD i 0)]:=by
   rw[Nat.mul_one]
   simp only[ints]
   rw[List.drop_eq_getElem_cons (by simpa using hir)]
   simp[List.getD,List.getElem?_eq_getElem hir]
  rw[e]
  have hx:0<=r.getD i 0/\r.getD i 0<256:=by
   have:=hb r[i] (List.getElem_mem hir)
   simpa [List.getD,List.getElem?_eq_getElem hir]using this
  simp only[Program.keyLits,Tryz.underlying5,wf_u8 hx]
  simp
theorem Aqm{r r':List Int}(hr:r.length=32)(hb:Bt r)(hr':r'.length=32)(hb':Bt r')(h:kr r=kr r'):r=r':=by
 have h1:=Adt hr hb
 have h2:=Adt hr' hb'
 rw[<-h]at h2
 have:=AiO.inj h1 h2
 have h3:=Value.agg.inj this
 have h4:ints .u8 r=ints .u8 r':=congrArg Array.toList h3
 exact(List.map_inj_right (fun a b e=>(Value.int.inj e).2)).1 h4
theorem ArH(w:World):(zeroValue 4).run Tryz.prog w=.ok (.bool false) w:=by kernel_rfl
theorem ArG(w:World):(zeroValue 3).run Tryz.prog w=.ok (.int .i64 0) w:=by kernel_rfl
theorem AhB{P:Program}{e:TypeId}(he:P.underlying e=some .bool){v:Value}{x:Bool}{ps:List MemPlace}(h:plainElem (H:=Unit) P e v=some (.lit (.bool x),ps)):v=.bool x:=by
 unfold plainElem at h
 rw[he]at h
 cases v<;>simp at h
 rw[h.1]
def GMap(w:World)(b:Nat)(l:List Int):Prop:=
 ∃D,w.ownsMap (H:=Unit) Tryz.prog 3 (plainElem Tryz.prog 4) b l.length D/\IsMap D/\∀x:Int,D.atKey (.int .i64 x) (.lit (.bool false))=.lit (.bool (decide (x∈l)))
theorem GMap.made(w:World):GMap (w.alloc (.map #[] 0)) w.heap.size []:=
 ⟨.map [],World.ownsMap_made w _ _ _,isMap_empty,fun x=>by rw[atKey_of_not_has (by rfl)];simp⟩
theorem GMap.lt{w:World}{b:Nat}{l:List Int}(h:GMap w b l):b<w.heap.size:=h.choose_spec.1.lt
theorem GMap.below{w w':World}{b B:Nat}{l:List Int}(h:GMap w b l)(hb:Below B w w')(hB:b<B):GMap w' b l:=by
 obtain⟨D,⟨es,clock,h1,h2,h3,h4⟩,hm,ha⟩:=h
 exact⟨D,⟨es,clock,by rw[hb.block b hB];exact h1,h2,h3,h4⟩,hm,ha⟩
theorem GMap.look{w:World}{b:Nat}{l:List Int}(h:GMap w b l){x:Int}(hx:(Lit.int .i64 x).wf=true) :
  (Instr.lookup 169 (.map (some b)) (.int .i64 x) false).run Tryz.prog w=.ok (.bool (decide (x∈l))) w:=by
 obtain⟨D,ho,hm,ha⟩:=h
 obtain⟨v,ps,hrun,hv⟩:=ho.lookup AmM Tryz.underlying169 (ArH w) (plainElem_bool Tryz.underlying4 false) (keyOf_int_mk Tryz.underlying3 hx)
 rw[ha x]at hv
 have:v=.bool (decide (x∈l)):=by
  exact AhB Tryz.underlying4 hv
 rw[<-this];exact hrun
theorem GMap.put{w:World}{b:Nat}{l:List Int}(h:GMap w b l){x:Int}(hx:(Lit.int .i64 x).wf=true)(hl:l.length<maxLen) :
  ∃w',(Instr.mapUpdate 169 (.map (some b)) (.int .i64 x) (.bool true)).run Tryz.prog w=.ok () w'/\GMap w' b (l ++ [x])/\w.grownBy w' (some b):=by
 obtain⟨D,ho,hm,ha⟩:=h
 have hk:=keyOf_int_mk Tryz.underlying3 hx
 obtain⟨w',hrun,ho',hg⟩:=ho.update AmM Tryz.underlying169 hl hk (plainElem_bool Tryz.underlying4 true)
 refine⟨w',hrun,⟨D.put (.int .i64 x) (.lit (.bool true)),?_,hm.put _ _,fun y=>?_⟩,hg⟩
 .rw[List.length_append];exact ho'
 .by_cases he:y=x
  .subst he
   rw[atKey_put_same hm (AmM.key hk)];simp
  .rw[atKey_put_other (by intro e;injection e with _ e;exact he e),ha y];simp[he]
def IMap(w:World)(b:Nat)(n:Nat)(f:List Int->Option Nat):Prop:=
 ∃D,w.ownsMap (H:=Unit) Tryz.prog 29 (plainElem Tryz.prog 3) b n D/\IsMap D/\∀r:List Int,r.length=32->Bt r->has D (kr r)=(f r).isSome/\D.atKey (kr r) (.lit (.int .i64 0))=.lit (.int .i64 ((f r).getD 0:Nat))
theorem IMap.made(w:World):IMap (w.alloc (.map #[] 0)) w.heap.size 0 (fun _=>none):=
 ⟨.map [],World.ownsMap_made w _ _ _,isMap_empty,fun r _ _=>⟨rfl,by rw[atKey_of_not_has (by rfl)];rfl⟩⟩
theorem IMap.lt{w:World}{b n:Nat}{f:List Int->Option Nat}(h:IMap w b n f):b<w.heap.size:=h.choose_spec.1.lt
theorem IMap.below{w w':World}{b B n:Nat}{f:List Int->Option Nat}(h:IMap w b n f)(hb:Below B w w')(hB:b<B):IMap w' b n f:=by
 obtain⟨D,⟨es,clock,h1,h2,h3,h4⟩,hm,ha⟩:=h
 exact⟨D,⟨es,clock,by rw[hb.block b hB];exact h1,h2,h3,h4⟩,hm,ha⟩
theorem IMap.mono{w:World}{b n m:Nat}{f:List Int->Option Nat}(h:IMap w b n f)(hnm:n<=m):IMap w b m f:=by
 obtain⟨D,ho,hm,ha⟩:=h
 exact⟨D,ho.mono hnm,hm,ha⟩
theorem Ajg{x:Int}(h:0<=x)(h2:x<=65535):(Lit.int .i64 x).wf=true:=by
 simp only[Lit.wf,Bool.and_eq_true,decide_eq_true_eq]
 exact⟨Int.le_trans (by decide) h,Int.le_trans h2 (by decide)⟩
theorem ArI:(Lit.int .i64 0).wf=true:=by decide
theorem IMap.look{w:World}{b n:Nat}{f:List Int->Option Nat}(h:IMap w b n f){r:List Int}(hr:r.length=32)(hb:Bt r) :
  (Instr.lookup 168 (.map (some b)) (.agg (ints .u8 r).toArray) true).run Tryz.prog w=.ok (.tuple #[.int .i64 ((f r).getD 0:Nat),.bool (f r).isSome]) w:=by
 obtain⟨D,ho,hm,ha⟩:=h
 obtain⟨h1,h2⟩:=ha r hr hb
 obtain⟨v,ps,hrun,hv⟩:=ho.look_ok AiO Tryz.underlying168 (ArG w) (plainElem_int Tryz.underlying3 ArI) (Adt hr hb)
 rw[h2]at hv
 obtain⟨a,rfl,he,_⟩:=plainElem_int_inv Tryz.underlying3 hv
 have he2:=(Lit.int.inj (DataW.lit.inj (Prod.mk.inj he).1)).2
 rw[he2,<-h1];exact hrun
theorem IMap.put{w:World}{b n:Nat}{f:List Int->Option Nat}(h:IMap w b n f){r:List Int}(hr:r.length=32)(hb:Bt r)(k:Nat)(hk:k<=65535)(hn:n<maxLen) :
  ∃w',(Instr.mapUpdate 168 (.map (some b)) (.agg (ints .u8 r).toArray) (.int .i64 k)).run Tryz.prog w=.ok () w'/\IMap w' b (n+1) (fun r'=>if r'=r then some k else f r')/\w.grownBy w' (some b):=by
 obtain⟨D,ho,hm,ha⟩:=h
 have hkk:(Lit.int .i64 (k:Int)).wf=true:=Ajg (by omega) (by omega)
 have hkr:=Adt hr hb
 obtain⟨w',hrun,ho',hg⟩:=ho.update AiO Tryz.underlying168 hn hkr (plainElem_int Tryz.underlying3 hkk)
 refine⟨w',hrun,⟨_,ho',hm.put _ _,fun y hy hyb=>?_⟩,hg⟩
 by_cases he:y=r
 .subst he
  rw[has_put_same hm (AiO.key hkr),atKey_put_same hm (AiO.key hkr)]
  have e:(fun r'=>if r'=y then some k else f r') y=some k:=if_pos rfl
  rw[e]
  exact⟨rfl,rfl⟩
 .have hne:kr y≠kr r:=fun e=>he (Aqm hy hyb hr hb e)
  rw[has_put_other hne,atKey_put_other hne]
  have e:(fun r'=>if r'=r then some k else f r') y=f y:=if_neg he
  rw[e]
  exact ha y hy hyb
theorem AgR{P:Program}{w:World}{ops:Array Oper}{rest:List Oper}{o:Oper}{a:Act}{Q:Exit->Act->World->Prop}
  (hg:o.guard=none) (m x v:Operand) (t:TypeId) (hop:o.op=Op.mapUpdate t m x v) (b:Nat) (key val:Value) (hm:a.eval m=.map (some b)) (hx:a.eval x=key) (hv:a.eval v=val)
  {w':World} (hrun:(Instr.mapUpdate t (.map (some b)) key val).run P w=.ok () w') (hK:wpList P ops Q rest (a.put o.dst undef) w'):wpList P ops Q (o::rest) a w:=by
 refine wpList_plain hg fun K' hK'=>?_
 unfold Oper.wp
 simp[execOp,hop,hm,hx,hv,hrun,Result.andThen]
 exact hK' _ _ hK
end Old
namespace Old
open Go.RowKit
def SmB(bs:List Int):Prop:=∀x∈bs,0<=x/\x<=144115188075855872
def totV(G bs:List Int):Nat->Int
 |0=>0
 |k+1=>totV G bs k+if(k:Int)∈G then 0 else bs.getD k 0
def GOk(G:List Int):Prop:=∀g∈G,0<=g/\g<=65535
theorem Ahp{G:List Int}{k:Nat}(hk:k<G.length):G.take (k+1)=G.take k ++ [G.getD k 0]:=by
 rw[List.take_succ_eq_append_getElem hk,getD_at hk]
def MbP(G:List Int)(w:World)(e:Ending)(w':World):Prop:=∃b,e=.returned (.map (some b))/\w.heap.size<=b/\GMap w' b G/\Below w.heap.size w w'
theorem Aff(AL AE:Option Addr)(nl cl ne ce:Nat)(G:List Int)(hG:GOk G)(hn:ne<=4096)(w:World)(h:GRow w AE ne G) :
  Calls Tryz.prog 96 #[.agg #[.slice AL nl cl,.slice AE ne ce]] w (MbP G w):=by
 have hmm:=@run_makeMap Tryz.prog
 have GR:=bx h
 have GL:=bx h.1
 have HG:=bx hG
 have HN:=bx hn
 have X0:=bx ((Has.new w [.slice AL nl cl,.slice AE ne ce] 35).alloc (.map #[] 0))
 have B0:=bx ((ext_alloc w (.cells #[.slice AL nl cl,.slice AE ne ce] 35)).alloc (by simp) (.map #[] 0))
 have M0:Bx (GMap ((w.alloc (.cells #[.slice AL nl cl,.slice AE ne ce] 35)).alloc (.map #[] 0)) (w.heap.size+1) []):=⟨by have:=GMap.made (w.alloc (.cells #[.slice AL nl cl,.slice AE ne ce] 35));simpa using this⟩
 have hc0:((w.alloc (.cells #[.slice AL nl cl,.slice AE ne ce] 35)).alloc (.map #[] 0)).cell? ⟨w.heap.size,1,none⟩=some (.slice AE ne ce):=X0.o.cell 1
 clear h hG
 go_enter Tryz.func96,Tryz.ntmps96
 go_wp2_with fail
 go_loopw [10] (fun i wr=>∃k:Nat,k<=ne/\i=.int .i64 k/\GMap wr (w.heap.size+1) (G.take k)/\Below w.heap.size w wr) (fun i _=>ne-(intOf i).toNat)
 case atStart=>exact⟨0,Nat.zero_le _,rfl,M0.o,B0.o⟩
 case round=>
  obtain⟨k,hk,rfl,hgm,hbel⟩:=hrel
  have GM:=bx hgm
  have BR:=bx hbel
  clear hgm hbel X0 B0 M0 hc0
  by_cases hkn:k<ne
  .have hki:(k:Int)<(ne:Int):=by omega
   have hk0:(0:Int)<=(k:Int):=by omega
   have hkl:k<G.length:=by rw[GL.o];exact hkn
   obtain⟨gE,pE,rfl,hgE⟩:=(GR.o.below BR.o).2 (by omega)
   have hcx:wr.cell? ⟨gE,k,none⟩=some (.int .i64 (G.getD k 0)):=by
    rw[hgE.cell,List.getElem?_append_left (by rw[ints_len];exact hkl)];exact ints_at hkl
   have hxw:0<=G.getD k 0/\G.getD k 0<=65535:=by rw[getD_at hkl];exact HG.o _ (List.getElem_mem hkl)
   have TP:=bx (Ahp hkl)
   generalize G.getD k 0=x at *
   obtain⟨wn,hrun,hgm,hgr⟩:=GM.o.put (Ajg hxw.1 hxw.2) (by rw[List.length_take];unfold maxLen;omega)
   rw[<-TP.o]at hgm
   have GN:=bx hgm
   have BN:=bx (BR.o.grown hgr BR.o.size (fun k hk=>by cases hk;omega))
   have HRUN:=bx hrun
   clear hgE hrun hgm hgr
   go_wp2_with (at_mapUpdate;(with_reducible refine AgR rfl _ _ _ 169 rfl (w.heap.size+1) (.int .i64 x) (.bool true) ?_ ?_ ?_ HRUN.o ?_);rfl;rfl;rfl)
   go_roundw
   case rel=>exact⟨k+1,by omega,by go_num,GN.o,BN.o⟩
   case measure=>simp[intOf];omega
  .obtain rfl:k=ne:=by omega
   have HT:Bx (G.take k=G):=⟨List.take_of_length_le (by rw[GL.o];exact Nat.le_refl _)⟩
   go_wp2_with fail
   go_ret
   exact⟨w.heap.size+1,rfl,Nat.le_succ _,by rw[<-HT.o];exact GM.o,BR.o⟩
theorem Ahk(w:World)(a b:Value):Has (w.alloc (.cells #[a,b] 35)) w.heap.size [a,b]:=Has.new w [a,b] _
def cnt(vs:List Vt)(G:List Int)(r:List Int)(k:Nat):Bool:=(vs.getD k zv).1&&(!decide ((k:Int)∈G)&&decide ((vs.getD k zv).2.2=r))
def wgt(vs:List Vt)(G bs:List Int)(r:List Int):Nat->Int
 |0=>0
 |k+1=>wgt vs G bs r k+if cnt vs G r k=true then bs.getD k 0 else 0
def dirL(ns:List Nd)(vs:List Vt)(G bs:List Int)(m:Nat):List Int:=ns.map fun x=>if x.st=2 then 0 else wgt vs G bs x.b.root m
theorem AcG{ns:List Nd}{vs:List Vt}{G bs:List Int}{m:Nat}:(dirL ns vs G bs m).length=ns.length:=by simp[dirL]
theorem AhT{ns:List Nd}{vs:List Vt}{G bs:List Int}{m i:Nat}(hi:i<ns.length):(dirL ns vs G bs m).getD i 0=if ns[i].st=2 then 0 else wgt vs G bs ns[i].b.root m:=by
 rw[getD_at (by rw[AcG];exact hi)];simp[dirL]
theorem Aid{ns:List Nd}{vs:List Vt}{G bs:List Int}:dirL ns vs G bs 0=List.replicate ns.length 0:=by
 apply List.ext_getElem
 .simp[dirL]
 .intro i h1 h2
  simp[dirL,wgt]
def ix(ns:List Nd):Nat->List Int->Option Nat
 |0,_=>none
 |k+1,r=>if r=(ns.map (·.b.root)).getD k []/\(ns.map (·.st)).getD k 0≠2 then some k else ix ns k r
theorem Alv{ns:List Nd}{k:Nat}(hk:k<ns.length):(ns.map (·.b.root)).getD k []=ns[k].b.root:=by simp[List.getD,List.getElem?_eq_getElem hk]
theorem Ani{ns:List Nd}{k:Nat}(hk:k<ns.length):(ns.map (·.st)).getD k 0=ns[k].st:=by simp[List.getD,List.getElem?_eq_getElem hk]
theorem ArW{ns:List Nd}{k:Nat}(hk:k<ns.length)(hs:ns[k].st≠2):ix ns (k+1)=fun r=>if r=ns[k].b.root then some k else ix ns k r:=by
 funext r
 show(if _ then _ else _)=_
 rw[Alv hk,Ani hk]
 by_cases h:r=ns[k].b.root
 .rw[if_pos ⟨h,hs⟩,if_pos h]
 .rw[if_neg (fun h'=>h h'.1),if_neg h]
theorem Aqo{ns:List Nd}{k:Nat}(hk:k<ns.length)(hs:ns[k].st=2):ix ns (k+1)=ix ns k:=by
 funext r
 show(if _ then _ else _)=_
 rw[Ani hk,if_neg (fun h'=>h'.2 hs)]
theorem AjL{ns:List Nd}{r:List Int}{i:Nat}:∀k,k<=ns.length->ix ns k r=some i->∃h:i<ns.length,i<k/\ns[i].b.root=r/\ns[i].st≠2
 |0,_,h=>by cases h
 |k+1,hk,h=>by
  have hkl:k<ns.length:=by omega
  unfold ix at h
  rw[Alv hkl,Ani hkl]at h
  by_cases hc:r=ns[k].b.root/\ns[k].st≠2
  .rw[if_pos hc]at h
   cases h
   exact⟨hkl,Nat.lt_succ_self _,hc.1.symm,hc.2⟩
  .rw[if_neg hc]at h
   obtain⟨h1,h2,h3⟩:=AjL k (by omega) h
   exact⟨h1,by omega,h3⟩
theorem AmR{ns:List Nd}{r:List Int}:∀k,k<=ns.length->ix ns k r=none->∀j (hj:j<ns.length),j<k->ns[j].b.root=r->ns[j].st=2
 |0,_,_,j,_,hjk,_=>absurd hjk (Nat.not_lt_zero _)
 |k+1,hk,h,j,hj,hjk,he=>by
  have hkl:k<ns.length:=by omega
  unfold ix at h
  rw[Alv hkl,Ani hkl]at h
  by_cases hc:r=ns[k].b.root/\ns[k].st≠2
  .rw[if_pos hc]at h;cases h
  .rw[if_neg hc]at h
   rcases Nat.lt_or_eq_of_le (Nat.le_of_lt_succ hjk)with h1|h1
   .exact AmR k (by omega) h j hj h1 he
   .subst h1
    by_cases h2:ns[j].st=2
    .exact h2
    .exact absurd ⟨he.symm,h2⟩ hc
section
variable {ns:List Nd}{vs:List Vt}{G bs:List Int}{m i:Nat}
theorem Ao8(h:∀r,cnt vs G r m=false):dirL ns vs G bs (m+1)=dirL ns vs G bs m:=by
 unfold dirL
 apply List.map_congr_left
 intro x _
 show(if x.st=2 then 0 else wgt vs G bs x.b.root m+if cnt vs G x.b.root m=true then bs.getD m 0 else 0)=_
 rw[h];simp
theorem Amz(h:(vs.getD m zv).1=false)(r:List Int):cnt vs G r m=false:=by unfold cnt;rw[h];rfl
theorem Agn(h:(m:Int)∈G)(r:List Int):cnt vs G r m=false:=by unfold cnt;rw[decide_eq_true h];cases (vs.getD m zv).1<;>rfl
theorem AjW(h:(vs.getD m zv).1=true)(hg:(m:Int)∉G)(r:List Int):cnt vs G r m=decide ((vs.getD m zv).2.2=r):=by unfold cnt;rw[h,decide_eq_false hg];rfl
theorem AoQ(h:(vs.getD m zv).1=true)(hg:(m:Int)∉G)(hi:ix ns ns.length (vs.getD m zv).2.2=none):dirL ns vs G bs (m+1)=dirL ns vs G bs m:=by
 unfold dirL
 apply List.map_congr_left
 intro x hx
 obtain⟨j,hj,rfl⟩:=List.getElem_of_mem hx
 show(if ns[j].st=2 then 0 else wgt vs G bs ns[j].b.root m+if cnt vs G ns[j].b.root m=true then bs.getD m 0 else 0)=_
 by_cases hs:ns[j].st=2
 .rw[if_pos hs,if_pos hs]
 .rw[if_neg hs,if_neg hs,AjW h hg]
  by_cases he:(vs.getD m zv).2.2=ns[j].b.root
  .exact absurd (AmR _ (Nat.le_refl _) hi j hj hj he.symm) hs
  .rw[decide_eq_false he];simp
theorem Apt(wf:Wf ns)(h:(vs.getD m zv).1=true)(hg:(m:Int)∉G)(hi:ix ns ns.length (vs.getD m zv).2.2=some i):dirL ns vs G bs (m+1)=(dirL ns vs G bs m).set i ((dirL ns vs G bs m).getD i 0+bs.getD m 0):=by
 obtain⟨hil,_,hr,hs⟩:=AjL _ (Nat.le_refl _) hi
 rw[AhT hil,if_neg hs]
 apply List.ext_getElem
 .rw[List.length_set,AcG,AcG]
 .intro j h1 h2
  have hj:j<ns.length:=by rwa [AcG]at h1
  rw[<-getD_at h1,AhT hj,List.getElem_set]
  show(if ns[j].st=2 then 0 else wgt vs G bs ns[j].b.root m+if cnt vs G ns[j].b.root m=true then bs.getD m 0 else 0)=_
  rw[AjW h hg]
  by_cases hij:i=j
  .subst hij
   rw[if_neg hs,if_pos rfl,decide_eq_true hr.symm,if_pos rfl]
  .rw[if_neg hij,<-getD_at (by rw[AcG];exact hj),AhT hj]
   by_cases hsj:ns[j].st=2
   .rw[if_pos hsj,if_pos hsj]
   .rw[if_neg hsj,if_neg hsj]
    by_cases he:(vs.getD m zv).2.2=ns[j].b.root
    .exact absurd (wf.diff i j hil hj (hr.trans he)) hij
    .rw[decide_eq_false he];simp
end
theorem flat_one(l:List Int):l.flatMap (fun x=>[Value.int .u64 x])=ints .u64 l:=by simp[ints,List.map_eq_flatMap]
theorem ArP(xs:List Int)(k:Nat)(v:Int):(ints .u64 xs).set k (.int .u64 v)=ints .u64 (xs.set k v):=by rw[ints,ints,List.map_set]
theorem wpList_allocZ{P:Program}{ops:Array Oper}{rest:List Oper}{o:Oper}{a:Act}{w:World}{Q:Exit->Act->World->Prop}(hg:o.guard=none)(ty:TypeId)(cs:List Value)(hz:∀w,(zeroValue ty).run P w=.ok (.agg cs.toArray) w)
  (ho:o.op=.alloc ty) (h:wpList P ops Q rest (a.put o.dst (.pointer (some ⟨w.heap.size,0,none⟩))) (w.alloc (.cells cs.toArray ty))):wpList P ops Q (o::rest) a w:=
 wpList_plain hg fun K hK=>by
  unfold Oper.wp
  rw[run_allocZ hz ho,Oper.upon_value]
  exact hK _ _ h
def SmT(bs:List Int):Prop:=(∀x∈bs,0<=x)/\bs.sum<=4611686018427387904
theorem Ac3{l:List Int}(h:∀x∈l,0<=x):0<=l.sum:=by
 induction l with
 |nil=>simp
 |cons a t ih=>have h1:=h a (by simp);have h2:=ih (fun x hx=>h x (by simp[hx]));rw[List.sum_cons];omega
theorem Ae2{l:List Int}(h:∀x∈l,0<=x)(k:Nat):(l.take k).sum<=l.sum:=by
 have e:l.sum=(l.take k).sum+(l.drop k).sum:=by rw[<-List.sum_append_int,List.take_append_drop]
 have:=Ac3 (l:=l.drop k) (fun x hx=>h x (List.mem_of_mem_drop hx))
 omega
theorem SmT.at{bs:List Int}(h:SmT bs){k:Nat}(hk:k<bs.length):0<=bs.getD k 0/\bs.getD k 0<=4611686018427387904:=by
 rw[getD_at hk]
 refine⟨h.1 _ (List.getElem_mem hk),?_⟩
 have h1:=Ae2 h.1 (k+1)
 rw[List.take_succ_eq_append_getElem hk,List.sum_append_int]at h1
 have h2:=Ac3 (l:=bs.take k) (fun x hx=>h.1 x (List.mem_of_mem_take hx))
 have h3:=h.2
 simp at h1
 omega
theorem Agy{vs:List Vt}{G bs r:List Int}(h:SmT bs):∀k,k<=bs.length->0<=wgt vs G bs r k/\wgt vs G bs r k<=(bs.take k).sum
 |0,_=>by simp[wgt]
 |k+1,hk=>by
  have h1:=Agy (vs:=vs) (G:=G) (r:=r) h k (by omega)
  have h2:=h.at (show k<bs.length by omega)
  have e:(bs.take (k+1)).sum=(bs.take k).sum+bs.getD k 0:=by rw[List.take_succ_eq_append_getElem (by omega),List.sum_append_int,getD_at (by omega)];simp
  unfold wgt
  rw[e]
  split<;>omega
theorem Alc{vs:List Vt}{G bs r:List Int}(h:SmT bs){k:Nat}(hk:k<=bs.length):0<=wgt vs G bs r k/\wgt vs G bs r k<=4611686018427387904:=by
 have h1:=Agy (vs:=vs) (G:=G) (r:=r) h k hk
 have h2:=Ae2 h.1 k
 have h3:=h.2
 omega
theorem Anb{vs:List Vt}{G bs r:List Int}(h:SmT bs){k:Nat}(hk:k<bs.length):wgt vs G bs r k+bs.getD k 0<=4611686018427387904:=by
 have h1:=Agy (vs:=vs) (G:=G) (r:=r) h k (by omega)
 have h2:=Ae2 h.1 (k+1)
 have e:(bs.take (k+1)).sum=(bs.take k).sum+bs.getD k 0:=by rw[List.take_succ_eq_append_getElem (by omega),List.sum_append_int,getD_at (by omega)];simp
 have h3:=h.2
 omega
theorem AfB{ns:List Nd}{vs:List Vt}{G bs:List Int}(h:SmT bs){m:Nat}(hm:m<=bs.length):∀x∈dirL ns vs G bs m,0<=x/\x<=4611686018427387904:=fun x hx=>by
 obtain⟨y,_,rfl⟩:=List.mem_map.1 hx
 have:=Alc (vs:=vs) (G:=G) (r:=y.b.root) h hm
 split<;>omega
theorem ApN(xs:List Int)(post:List Value)(k:Nat)(v:Int)(hk:k<xs.length):(ints .u64 xs++post).set k (.int .u64 v)=ints .u64 (xs.set k v)++post:=by
 rw[List.set_append_left _ _ (by rw[ints_len];exact hk),ints,ints,List.map_set]
def subR(us:List Int):Nat->List Int->List Int
 |0,o=>o
 |k+1,o=>if k=0 then o else subR us k (o.set (us.getD k 0).toNat ((o.getD (us.getD k 0).toNat 0+o.getD k 0)%18446744073709551616))
theorem Anh(us o:List Int):subR us 1 o=o:=rfl
theorem Ahr{us o:List Int}{i u:Nat}(hi:0<i)(hu:us.getD i 0=u):subR us (i+1) o=subR us i (o.set u ((o.getD u 0+o.getD i 0)%18446744073709551616)):=by
 rw[subR,if_neg (by omega),hu,Int.toNat_natCast]
def UP(n:Nat)(xs:List Int)(w:World)(e:Ending)(w':World):Prop:=
 ∃(A:Option Addr) (c:Nat),e=.returned (.slice A n c)/\U64 xs/\URow w' A n xs/\Below w.heap.size w w'
theorem AhZ(g:Nat)(x r:List Int)(hx:x.length=32)(hr:r.length=32)(w:World)(h:Has w g (ints .u8 x)) :
  Calls Tryz.prog 140 #[.slice (some ⟨g,0,none⟩) 1 1,.agg (ints .u8 r).toArray] w fun e w'=>e=.returned (.bool (decide (x=r)))/\Below w.heap.size w w':=by
 have HX:=bx hx
 have HR:=bx hr
 have X0:=bx (Has.new w (ints .u8 r) 29)
 have B0:=bx (ext_alloc w (.cells (ints .u8 r).toArray 29))
 have G0:=bx (h.below B0.o h.lt)
 clear h hx hr
 go_enter Tryz.func140,Tryz.ntmps140
 go_wp2_with fail
 go_loopw [5] (fun i wr=>∃k:Nat,k<=1/\i=.int .i64 k/\(k=1->x≠r)/\Has wr w.heap.size (ints .u8 r)/\Has wr g (ints .u8 x)/\Below w.heap.size w wr) (fun i _=>1-(intOf i).toNat)
 case atStart=>exact⟨0,Nat.zero_le _,rfl,fun h=>absurd h (by decide),X0.o,G0.o,B0.o⟩
 case round=>
  obtain⟨k,hk,rfl,hno,hx0,hg0,hbel⟩:=hrel
  have Y0:=bx hx0
  have YG:=bx hg0
  have BY:=bx hbel
  clear hx0 hg0 hbel X0 G0 B0
  rcases(show k=0\/k=1 by omega)with rfl|rfl
  .have CR:=bx (fun(w1:World) (h1:Cls wr.heap.size wr w1)=>(YG.o.below h1.o YG.o.lt).rangeAll)
   have C1:=bx (fun(w1:World) (h1:Cls wr.heap.size wr w1)=>Y0.o.below h1.o Y0.o.lt)
   have hq:=Acq HX.o HR.o
   clear hno
   by_cases he:x=r
   .have HD:=bx (decide_eq_true he)
    rw[decide_eq_true he]at hq
    clear he
    go_wp2_with fail
    refine Aa3 wr.heap.size (by kernel_rfl) (by kernel_rfl) ?_
    repeat(first|go_big_quiet_skip|(go_big_quiet_want;first|(first|((with_reducible refine Abl 29 _ rfl g 0 (ints .u8 x) ?_ CR.o Tryz.underlying29 ?_ ?_ ?_);rfl;rfl;exact cells_root HX.o;go_big_quiet_on;(simp only[Act.put,List.setIfInBounds_toArray,List.set_cons_succ,List.set_cons_zero]))|((with_reducible refine Abu 29 _ rfl _ (ints .u8 r) ?_ C1.o Tryz.underlying29 rfl ?_ ?_);rfl;exact cells_root HR.o;go_big_quiet_on;(simp only[Act.put,List.setIfInBounds_toArray,List.set_cons_succ,List.set_cons_zero])))|(go_big_quiet_op;first|go_big_quiet_on|((with_reducible refine⟨_,fun _ _=>rfl,?_⟩);go_big_quiet_on))))
    refine wpQuiet_nil ?_
    intro w4 hw4
    have B4:=bx (BY.o.trans (hw4.o.mono BY.o.size))
    clear hw4
    go_wp2_with fail
    go_ret
    exact⟨by first|rfl|(rw[HD.o];rfl),B4.o⟩
   .have HE:=bx he
    rw[decide_eq_false he]at hq
    clear he
    go_wp2_with fail
    refine Aa3 wr.heap.size (by kernel_rfl) (by kernel_rfl) ?_
    repeat(first|go_big_quiet_skip|(go_big_quiet_want;first|(first|((with_reducible refine Abl 29 _ rfl g 0 (ints .u8 x) ?_ CR.o Tryz.underlying29 ?_ ?_ ?_);rfl;rfl;exact cells_root HX.o;go_big_quiet_on;(simp only[Act.put,List.setIfInBounds_toArray,List.set_cons_succ,List.set_cons_zero]))|((with_reducible refine Abu 29 _ rfl _ (ints .u8 r) ?_ C1.o Tryz.underlying29 rfl ?_ ?_);rfl;exact cells_root HR.o;go_big_quiet_on;(simp only[Act.put,List.setIfInBounds_toArray,List.set_cons_succ,List.set_cons_zero])))|(go_big_quiet_op;first|go_big_quiet_on|((with_reducible refine⟨_,fun _ _=>rfl,?_⟩);go_big_quiet_on))))
    refine wpQuiet_nil ?_
    intro w4 hw4
    have B4:=bx (BY.o.trans (hw4.o.mono BY.o.size))
    have Y4:=bx (Y0.o.below hw4.o Y0.o.lt)
    have G4:=bx (YG.o.below hw4.o YG.o.lt)
    clear hw4
    go_wp2_with fail
    go_roundw
    case rel=>exact⟨1,Nat.le_refl _,rfl,fun _=>HE.o,Y4.o,G4.o,B4.o⟩
    case measure=>simp[intOf]
  .have HD:Bx (decide (x=r)=false):=⟨decide_eq_false (hno rfl)⟩
   go_wp2_with fail
   go_ret
   exact⟨by first|rfl|(rw[HD.o];rfl),BY.o⟩
theorem Aiu(g:Nat)(AL AE Ab:Option Addr)(cl ne ce n cb:Nat)(vs:List Vt)(G bs x:List Int)(hne:ne<=4096)(hs:SmT bs)(hn7:n<=7)(hx:x.length=32)(w:World)
  (h1:VRow w AL n vs) (h2:GRow w AE ne G) (h3:URow w Ab n bs) (h:Has w g (ints .u8 x)) :
  Calls Tryz.prog 108 #[.agg #[.slice AL n cl,.slice AE ne ce],.slice Ab n cb,.slice (some ⟨g,0,none⟩) 1 1] w fun e w'=>e=.returned (.int .u64 (wgt vs G bs x n))/\Below w.heap.size w w':=by
 have HX:=bx hx
 have HS:=bx hs
 have R1:=bx h1
 have R2:=bx h2
 have R3:=bx h3
 have L1:=bx h1.1
 have L3:=bx h3.1
 have HG:=bx h
 have X0:=bx (Ahk w (.slice AL n cl) (.slice AE ne ce))
 have B0:=bx (ext_alloc w (.cells #[.slice AL n cl,.slice AE ne ce] 35))
 clear h h1 h2 h3 hx hs
 go_enter Tryz.func108,Tryz.ntmps108
 go_wp2_with fail
 go_loopw [7,8] (fun s i wr=>∃k:Nat,k<=n/\i=.int .i64 k/\s=.int .u64 (wgt vs G bs x k)/\Has wr w.heap.size [.slice AL n cl,.slice AE ne ce]/\Below w.heap.size w wr) (fun _ i _=>n-(intOf i).toNat)
 case atStart=>exact⟨0,Nat.zero_le _,rfl,rfl,X0.o,B0.o⟩
 case round=>
  obtain⟨k,hk,rfl,rfl,hx0,hbel⟩:=hrel
  have Y0:=bx hx0
  have BY:=bx hbel
  have hc0:wr.cell? ⟨w.heap.size,0,none⟩=some (.slice AL n cl):=Y0.o.cell 0
  have hc1:wr.cell? ⟨w.heap.size,1,none⟩=some (.slice AE ne ce):=Y0.o.cell 1
  clear hx0 hbel X0 B0
  by_cases hkn:k<n
  .have hki:(k:Int)<(n:Int):=by omega
   have hk0:(0:Int)<=(k:Int):=by omega
   have HKN:=bx hkn
   have MEA:Bx (n-(intOf (.int .i64 ((k:Int)+1))).toNat<n-(intOf (.int .i64 (k:Int))).toNat):=⟨by simp[intOf];omega⟩
   have hkv:k<vs.length:=by rw[L1.o];exact hkn
   have hkb:k<bs.length:=by rw[L3.o];exact hkn
   obtain⟨gv,pv,rfl,hgv⟩:=(R1.o.below BY.o).2.2 (by omega)
   obtain⟨gb,pb,rfl,hgb⟩:=(R3.o.below BY.o).2 (by omega)
   have hcb:=fun w2 (h:Below wr.heap.size wr w2)=>URow.cell (hgb.below h hgb.lt) hkb
   have hvk:vs.getD k zv=vs[k]:=by simp[List.getD,List.getElem?_eq_getElem hkv]
   have RV:Bx (wr.rangeAt gv (k*34) (vc (vs.getD k zv))):=⟨by rw[hvk];exact hgv.rangeP R1.o.2.1.len k hkv⟩
   have hvo:(vs.getD k zv).2.2.length=32/\Bt (vs.getD k zv).2.2:=by rw[hvk];exact R1.o.2.1 _ (List.getElem_mem hkv)
   have HAS:=bx (AhP _ AE ne ce G (k:Int) wr (R2.o.below BY.o).row (by omega))
   have CH:=bx (Amz (vs:=vs) (G:=G) (m:=k))
   have CG:=bx (Agn (vs:=vs) (G:=G) (m:=k))
   have CY:=bx (AjW (vs:=vs) (G:=G) (m:=k))
   have hws:wgt vs G bs x (k+1)=wgt vs G bs x k+if cnt vs G x k=true then bs.getD k 0 else 0:=rfl
   have HWS:=bx hws
   have hb1:=HS.o.at hkb
   have hb3:=Anb (vs:=vs) (G:=G) (r:=x) HS.o (k:=k) (by omega)
   have hb2:=Alc (vs:=vs) (G:=G) (r:=x) HS.o (k:=k) (by omega)
   have HGR:=bx ((HG.o.below BY.o HG.o.lt))
   clear hgv hgb hvk hws hkb hkv
   generalize bs.getD k 0=y at *
   generalize wgt vs G bs x k=s at *
   generalize vs.getD k zv=v at *
   obtain⟨hh,ep,r⟩:=v
   have LR:Bx (r.length=32):=⟨hvo.1⟩
   have hch:wr.cell? ⟨gv,k*34,none⟩=some (.bool hh):=RV.o 0 _ rfl
   have RT:=bx (Acr (ds:=ints .u8 r) 2 RV.o (fun j u hu=>by rw[Nat.add_comm];exact hu))
   have CO:=bx (AhZ g x r HX.o LR.o wr HGR.o)
   have hsy:(s+y)%18446744073709551616=s+y:=by omega
   clear hvo RV
   cases hh with
   |false=>
    have HT:Bx (wgt vs G bs x (k+1)=s):=⟨by rw[HWS.o,CH.o rfl];simp⟩
    clear CH CG CY HAS CO
    go_wp2_with fail
    go_roundw
    case rel=>exact⟨k+1,HKN.o,by go_num,by rw[HT.o],Y0.o,BY.o⟩
    case measure=>exact MEA.o
   |true=>
    go_wp2_with fail
    refine HAS.o.mono ?_;rintro e w2 ⟨rfl,rfl⟩
    by_cases hg:(k:Int)∈G
    .have HT:Bx (wgt vs G bs x (k+1)=s):=⟨by rw[HWS.o,CG.o hg];simp⟩
     rw[decide_eq_true hg]
     clear hg CH CG CY CO
     go_wp2_with fail
     go_roundw
     case rel=>exact⟨k+1,HKN.o,by go_num,by rw[HT.o],Y0.o,BY.o⟩
     case measure=>exact MEA.o
    .have CY2:=bx (CY.o (by first|rfl|trivial) hg)
     rw[decide_eq_false hg]
     clear hg CH CG CY
     go_wp2_with ((with_reducible refine Ab0 29 _ rfl ?_ gv (k*34+2) (ints .u8 r) RT.o ?_ Tryz.underlying29 ?_ ?_ ?_);rfl;rfl;rfl;exact cells_root LR.o)
     refine CO.o.mono ?_;rintro e w2 ⟨rfl,hb⟩
     have hcb2:=hcb w2 hb
     have Y2:=bx (Y0.o.below hb Y0.o.lt)
     have B2:=bx (BY.o.trans (hb.mono BY.o.size))
     clear hb hcb
     by_cases he:x=r
     .have HT:Bx (wgt vs G bs x (k+1)=s+y):=⟨by rw[HWS.o,CY2.o,decide_eq_true he.symm];simp⟩
      rw[decide_eq_true he]
      clear he CY2
      go_wp2_with fail
      go_roundw
      case rel=>exact⟨k+1,HKN.o,by go_num,by rw[HT.o],Y2.o,B2.o⟩
      case measure=>exact MEA.o
     .have HT:Bx (wgt vs G bs x (k+1)=s):=⟨by rw[HWS.o,CY2.o,decide_eq_false (fun h=>he h.symm)];simp⟩
      rw[decide_eq_false he]
      clear he CY2
      go_wp2_with fail
      go_roundw
      case rel=>exact⟨k+1,HKN.o,by go_num,by rw[HT.o],Y2.o,B2.o⟩
      case measure=>exact MEA.o
  .obtain rfl:k=n:=by omega
   go_wp2_with fail
   go_ret
   exact⟨rfl,BY.o⟩
theorem Ap4(ps:List (Nat × Value)):Tryz.prog.builtSlice 29 1 ps=Instr.fill (fun i=>some (i*32,32)) (ints .u8 zroot).toArray ps:=by kernel_rfl
theorem Aim{r:List Int}(h:r.length=32):Tryz.prog.builtSlice 29 1 [(0,.agg (ints .u8 r).toArray)]=some (ints .u8 r).toArray:=by
 rw[Ap4]
 have e0:ints .u8 zroot = []++ints .u8 zroot ++ []:=by simp
 rw[e0,AeV _ [] (ints .u8 zroot) [] (ints .u8 r) 0 _ _ (by rw[ints_len,h];rfl) rfl (by rw[ints_len,ints_len,h];rfl)]
 simp[Instr.fill]
theorem ApR{o:Oper}{a:Act}{w:World}{x:Operand}{r:List Int}(h:r.length=32)(ho:o.op=.buildSlice 189 1 #[(0,x)])(hx:a.eval x=.agg (ints .u8 r).toArray) :
  (execOp a.eval o).run Tryz.prog w=.ok (.value (.slice (some ⟨w.heap.size,0,none⟩) 1 1)) (w.alloc (.cells (ints .u8 r).toArray 29)):=by
 have e:(#[(0,x)].map fun(i,x)=>(i,a.eval x)) = #[(0,.agg (ints .u8 r).toArray)]:=by
  apply Array.ext'
  rw[Array.toList_map]
  show [(0,a.eval x)]=_
  rw[hx]
 have:=run_sliceTo (P:=Tryz.prog) w 189 29 1 #[(0,.agg (ints .u8 r).toArray)] _ Tryz.underlying189 (Aim h)
 unfold execOp
 simp only[ho,e,this,Sem.run_bind,Result.andThen_ok]
 rfl
theorem AgK(A0 AL AE Ab:Option Addr)(n0 c0 cl ne ce n cb:Nat)(ns:List Nd)(vs:List Vt)(G bs:List Int)(hne:ne<=4096)(hs:SmT bs)(hn7:n<=7)(hn9:n0<=4096)(w:World)
  (h0:NRow w A0 n0 ns) (h1:VRow w AL n vs) (h2:GRow w AE ne G) (h3:URow w Ab n bs) :
  Calls Tryz.prog 72 #[.agg #[.slice A0 n0 c0],.agg #[.slice AL n cl,.slice AE ne ce],.slice Ab n cb] w (UP n0 (dirL ns vs G bs n) w):=by
 obtain⟨i0,hi0,hz0,hz1,hz2⟩:=info_parts info_u64
 have HI:=bx (show Tryz.prog.info? 23=some i0 from hi0)
 have HS:=bx hs
 have R0:=bx h0
 have R1:=bx h1
 have R2:=bx h2
 have R3:=bx h3
 have L0:=bx h0.1
 have L3:=bx h3.1
 have U64D:Bx (U64 (dirL ns vs G bs n)):=⟨fun x hx=>by have:=AfB (ns:=ns) (vs:=vs) (G:=G) hs (m:=n) (by rw[h3.1];exact Nat.le_refl _) x hx;omega⟩
 have DL:Bx ((dirL ns vs G bs n).length=n0):=⟨by rw[AcG,h0.1]⟩
 have DAT:=bx (fun i (hi:i<ns.length)=>AhT (vs:=vs) (G:=G) (bs:=bs) (m:=n) hi)
 have XA3:=bx ((Has.new w [.slice A0 n0 c0] 46).alloc (.cells #[.slice AL n cl,.slice AE ne ce] 35))
 have XA4:Bx (Has ((w.alloc (.cells #[.slice A0 n0 c0] 46)).alloc (.cells #[.slice AL n cl,.slice AE ne ce] 35)) (w.heap.size+1) [.slice AL n cl,.slice AE ne ce]):=⟨has_newAt (alloc_size w _) [.slice AL n cl,.slice AE ne ce] _⟩
 have BA:=bx ((ext_alloc w (.cells #[.slice A0 n0 c0] 46)).alloc (by simp) (.cells #[.slice AL n cl,.slice AE ne ce] 35))
 clear h0 h1 h2 h3 hs hi0
 go_enter Tryz.func72,Tryz.ntmps72
 go_wp2_with fail
 generalize hds:dirL ns vs G bs n=ds at *
 go_loopw [7,8] (fun s i wr=>∃k:Nat,k<=n0/\i=.int .i64 k/\wr.ownsRow (w.heap.size+1+1) 23 1 s k (ints .u64 (ds.take k))/\Has wr w.heap.size [.slice A0 n0 c0]/\Has wr (w.heap.size+1) [.slice AL n cl,.slice AE ne ce]/\Below w.heap.size w wr) (fun _ i _=>n0-(intOf i).toNat)
 case atStart=>exact⟨0,Nat.zero_le _,rfl,World.ownsRow_nil _ _ _ _,XA3.o,XA4.o,BA.o⟩
 case round=>
  obtain⟨k,hk,rfl,hown,hx3,hx4,hbel⟩:=hrel
  have OR:=bx hown
  have X3:=bx hx3
  have X4:=bx hx4
  have BR:=bx hbel
  clear hown hx3 hx4 hbel XA3 XA4 BA
  obtain⟨A7,c7,hv⟩:=own_slice OR.o
  subst hv
  have hc0:wr.cell? ⟨w.heap.size,0,none⟩=some (.slice A0 n0 c0):=X3.o.cell 0
  by_cases hkn:k<n0
  .have hki:(k:Int)<(n0:Int):=by omega
   have hk0:(0:Int)<=(k:Int):=by omega
   have HKN:=bx hkn
   have hkl:k<ns.length:=by rw[L0.o];exact hkn
   have HM1:Bx (k+1<=maxLen):=⟨by unfold maxLen;omega⟩
   have HM2:Bx ((k+1)*8<=140737488355328):=⟨by omega⟩
   have MEA:Bx (n0-(intOf (.int .i64 ((k:Int)+1))).toNat<n0-(intOf (.int .i64 (k:Int))).toNat):=⟨by simp[intOf];omega⟩
   obtain⟨g0,p0,rfl,hg0⟩:=(R0.o.below BR.o).2.2 (by omega)
   have OKN:=bx (R0.o.2.1 _ (List.getElem_mem hkl))
   have hcs:=hg0.nodeCell R0.o.2.1 k hkl 239 _ (Al6 OKN.o)
   have CR:=bx (fun w6 (h6:Cls wr.drew.heap.size wr.drew w6)=>(hg0.drew.below h6.o hg0.lt).nodeRoot R0.o.2.1 k hkl)
   have TP:=bx (Ahp (G:=ds) (k:=k) (by rw[DL.o];exact hkn))
   have DK:=bx (DAT.o k hkl)
   have LR:=bx OKN.o.root
   clear hg0 OKN DAT hds
   generalize ns[k].b.root=r at *
   by_cases hst:ns[k].st=2
   .have DK2:Bx (ds.getD k 0=0):=⟨by rw[DK.o,if_pos hst]⟩
    have SZ:Bx (w.heap.size+1+1<=wr.heap.size):=⟨X4.o.lt⟩
    rw[hst]at hcs
    rw[DK2.o]at TP
    clear hst DK DK2 CR
    go_wp2_with (at_builtin;(with_reducible refine Ac0 rfl (.tmp 35) (.tmp 37) 30 rfl (w.heap.size+1+1) 23 i0 _ 1 8 Tryz.underlying30 HI.o hz0 hz1 hz2 rfl (by omega) _ _ _ ?_ OR.o [.int .u64 0] ?_ rfl (one_u64 0) HM1.o HM2.o SZ.o ?_);rfl;rfl;intro v' w' hown' hg' hbel' _;have HOWN3:=bx hown';have HB3:=bx (BR.o.trans (hbel'.mono (by omega)));have X33:=bx (X3.o.below hbel' (by omega));have X43:=bx (X4.o.below hbel' (by omega));clear hown' hg' hbel')
    go_roundw
    case rel=>exact⟨k+1,HKN.o,by go_num,by rw[TP.o,ints_push];exact HOWN3.o,X33.o,X43.o,HB3.o⟩
    case measure=>exact MEA.o
   .have DK2:Bx (ds.getD k 0=wgt vs G bs r n):=⟨by rw[DK.o,if_neg hst]⟩
    have hne2:(ns[k].st != 2)=true:=by rw[bne_iff_ne];exact hst
    rw[DK2.o]at TP
    clear hst DK DK2
    generalize ns[k].st=st at *
    have OD:Bx (wr.drew.ownsRow (w.heap.size+1+1) 23 1 (.slice A7 k c7) k (ints .u64 (ds.take k))):=⟨OR.o⟩
    have X3d:Bx (Has wr.drew w.heap.size [.slice (some ⟨g0,0,none⟩) n0 c0]):=⟨X3.o⟩
    have X4d:Bx (Has wr.drew (w.heap.size+1) [.slice AL n cl,.slice AE ne ce]):=⟨X4.o⟩
    have BD:Bx (Below w.heap.size w wr.drew):=⟨BR.o.drew⟩
    have CN:=bx (fun w6 (h6:Cls wr.drew.heap.size wr.drew w6)=>Adr ((X3d.o.below h6.o X3d.o.lt).cell 0))
    have CV:=bx (Has.cls X4d.o)
    clear OR X3 X4 BR
    go_wp2_with fail
    refine Acg 11 (.steps [(0,0),(0,1),(0,2),(0,3),(0,4),(0,5),(0,6),(0,7),(0,8),(2,9),(2,10)] .leaf) (by kernel_rfl) (by kernel_rfl) ?_
    simp only[MixT,MT.steps,stepAt,List.getD_cons_zero,List.getD_cons_succ,List.drop_succ_cons,List.drop_zero]
    repeat(first|(with_reducible refine wpQuiet_nil ?_)|(first|go_big_quiet_skip|(go_big_quiet_want;first|(first|((with_reducible refine Abu 35 _ rfl _ [.slice AL n cl,.slice AE ne ce] ?_ CV.o Tryz.underlying35 rfl ?_ ?_);rfl;exact Ad9 _ _;go_big_quiet_on;(simp only[Act.put,List.setIfInBounds_toArray,List.set_cons_succ,List.set_cons_zero]))|((with_reducible refine quiet_cell 44 _ rfl _ _ ?_ CN.o ?_);rfl;go_big_quiet_on;(simp only[Act.put,List.setIfInBounds_toArray,List.set_cons_succ,List.set_cons_zero]))|((with_reducible refine Abl 29 _ rfl g0 (k*240+67) (ints .u8 r) ?_ CR.o Tryz.underlying29 ?_ ?_ ?_);rfl;rfl;exact cells_root LR.o;go_big_quiet_on;(simp only[Act.put,List.setIfInBounds_toArray,List.set_cons_succ,List.set_cons_zero])))|(go_big_quiet_op;first|go_big_quiet_on|((with_reducible refine⟨_,fun _ _=>rfl,?_⟩);go_big_quiet_on)))))
    clear CN CV CR
    generalize wr.drew=w1 at *
    refine mix_run (ApR LR.o rfl rfl) rfl ?_
    refine⟨ext_alloc _ _,?_⟩
    have EX:=bx (ext_alloc w1 (.cells (ints .u8 r).toArray 29))
    have GB:=bx (Has.new w1 (ints .u8 r) 29)
    have X32:=bx (X3d.o.below EX.o X3d.o.lt)
    have X42:=bx (X4d.o.below EX.o X4d.o.lt)
    have O2:=bx (own_ext OD.o EX.o)
    have B2:=bx (BD.o.trans (EX.o.mono BD.o.size))
    clear X3d X4d OD BD EX
    refine AhH (Aiu w1.heap.size AL AE Ab cl ne ce n cb vs G bs r hne HS.o hn7 LR.o _ (R1.o.below B2.o) (R2.o.below B2.o) (R3.o.below B2.o) GB.o) Tryz.func108 rfl rfl _ _ rfl rfl rfl ?_
    rintro e w3 ⟨rfl,hb⟩
    refine⟨_,rfl,hb,?_⟩
    have X3n:=bx (X32.o.below hb X32.o.lt)
    have X4n:=bx (X42.o.below hb X42.o.lt)
    have O3:=bx (own_ext O2.o hb)
    have B3:=bx (B2.o.trans (hb.mono B2.o.size))
    have SZ:Bx (w.heap.size+1+1<=w3.heap.size):=⟨X4n.o.lt⟩
    clear hb X32 X42 O2 B2 GB
    generalize wgt vs G bs r n=z at *
    simp only[Act.put,List.setIfInBounds_toArray,List.set_cons_succ,List.set_cons_zero]
    go_wp2_with fail
    refine NoPanic.normal ?_
    go_wp2_with (at_builtin;(with_reducible refine Ac0 rfl (.tmp 35) (.tmp 37) 30 rfl (w.heap.size+1+1) 23 i0 _ 1 8 Tryz.underlying30 HI.o hz0 hz1 hz2 rfl (by omega) _ _ _ ?_ O3.o [.int .u64 z] ?_ rfl (one_u64 z) HM1.o HM2.o SZ.o ?_);rfl;rfl;intro v' w' hown' hg' hbel' _;have HOWN3:=bx hown';have HB3:=bx (B3.o.trans (hbel'.mono (by omega)));have X33:=bx (X3n.o.below hbel' (by omega));have X43:=bx (X4n.o.below hbel' (by omega));clear hown' hg' hbel')
    go_roundw
    case rel=>exact⟨k+1,HKN.o,by go_num,by rw[TP.o,ints_push];exact HOWN3.o,X33.o,X43.o,HB3.o⟩
    case measure=>exact MEA.o
  .obtain rfl:k=n0:=by omega
   have HT:Bx (ds.take k=ds):=⟨List.take_of_length_le (by rw[DL.o];exact Nat.le_refl _)⟩
   go_wp2_with fail
   go_ret
   exact⟨A7,c7,rfl,U64D.o,URow.own DL.o (by rw[<-HT.o];exact OR.o),BR.o⟩
theorem Amm{us:List Int}(h:Lk us)(f:Nat->Int)(i:Nat):∀n,n<=us.length->((descN us i n).map f).sum=own us (i+1) f i n
 |0,_=>rfl
 |n+1,hn=>by
  have ih:=Amm h f i n (by omega)
  have e:=AoD h (a:=i) (b:=n) (by omega)
  unfold anc at e
  rw[own]
  by_cases ha:hat us (i+1) n n=i
  .rw[decide_eq_true ha]at e
   rw[Aie e,if_pos ha,<-ih,List.map_append,List.sum_append_int];simp
  .rw[decide_eq_false ha]at e
   rw[AkT e,if_neg ha,<-ih];omega
def nat0(d:List Int)(j:Nat):Int:=d.getD j 0
def subL(us:List Int)(n:Nat)(d:List Int):List Int:=(List.range n).map fun i=>tot us (nat0 d) i n%18446744073709551616
theorem Ae4(us:List Int)(n:Nat)(d:List Int):(subL us n d).length=n:=by simp[subL]
theorem Alo{us:List Int}{n:Nat}{d:List Int}{i:Nat}(hi:i<n):(subL us n d).getD i 0=tot us (nat0 d) i n%18446744073709551616:=by
 rw[getD_at (by rw[Ae4];exact hi)];simp[subL]
theorem ApM(us:List Int)(n:Nat)(d:List Int):U64 (subL us n d):=fun x hx=>by
 obtain⟨i,_,rfl⟩:=List.mem_map.1 hx
 omega
structure SInv(us:List Int)(n:Nat)(d:List Int)(k:Nat)(o:List Int):Prop where
 len:o.length=n
 lo:∀u,u<k->o.getD u 0=own us k (nat0 d) u n%18446744073709551616
 hi:∀i,k<=i->i<n->o.getD i 0=tot us (nat0 d) i n%18446744073709551616
theorem Apm{l:List Int}{i:Nat}{v:Int}(h:i<l.length):(l.set i v).getD i 0=v:=by simp[List.getD,List.getElem?_set,h]
theorem AkJ{l:List Int}{i j:Nat}{v:Int}(h:i≠j):(l.set i v).getD j 0=l.getD j 0:=by simp[List.getD,List.getElem?_set,h]
theorem Alm{us:List Int}(h:Lk us){n:Nat}(hn:n=us.length)(d:List Int):∀(k:Nat) (o:List Int),0<k->k<=n->SInv us n d k o->SInv us n d 1 (subR us k o)
 |0,o,h0,_,_=>absurd h0 (Nat.lt_irrefl 0)
 |k+1,o,_,hk,hi=>by
  rcases Nat.eq_zero_or_pos k with h0|h0
  .subst h0;rw[Anh];exact hi
  .obtain⟨u,hu,e⟩:=h.up (i:=k) (by omega) h0
   rw[Ahr h0 e]
   refine Alm h hn d k _ h0 (by omega) ⟨by rw[List.length_set,hi.len],fun v hv=>?_,fun i h1 h2=>?_⟩
   .have st:=Aj0 h (i:=k) (u:=v) (nat0 d) h0 (by omega) hv n (by omega)
    by_cases hvu:v=u
    .subst hvu
     rw[if_pos e]at st
     rw[Apm (by rw[hi.len];omega),hi.lo v (by omega),hi.lo k (by omega),st,<-Int.add_emod]
    .rw[if_neg (by rw[e];omega),Int.add_zero]at st
     rw[AkJ (by omega),hi.lo v (by omega),st]
   .rw[AkJ (by omega)]
    rcases Nat.lt_or_ge k i with h3|h3
    .exact hi.hi i (by omega) h2
    .obtain rfl:i=k:=by omega
     exact hi.lo i (by omega)
theorem Aln{us:List Int}(h:Lk us){n:Nat}(hn:n=us.length)(hn0:0<n){d:List Int}(hd:U64 d)(hl:d.length=n):subR us n d=subL us n d:=by
 have hs:SInv us n d n d:=⟨hl,fun u hu=>by
  have:=hd.at (k:=u) (by omega)
  rw[Al2 _ _ _ _ (Nat.le_refl _),if_pos hu]
  show d.getD u 0=d.getD u 0%_
  omega,fun i h1 h2=>by omega⟩
 have hr:=Alm h hn d n d hn0 (Nat.le_refl _) hs
 apply List.ext_getElem (by rw[hr.len,Ae4])
 intro i h1 h2
 have hin:i<n:=by rw[hr.len]at h1;exact h1
 rw[<-getD_at h1,<-getD_at h2,Alo hin]
 rcases Nat.eq_zero_or_pos i with h0|h0
 .subst h0;exact hr.lo 0 (by omega)
 .exact hr.hi i h0 hin
theorem An5{f:Nat->Int}{L:List Nat}{k:Nat}(hk:k<L.length):((L.take (k+1)).map f).sum=((L.take k).map f).sum+f L[k]:=by
 rw[List.take_succ_eq_append_getElem hk,List.map_append,List.sum_append_int];simp
def UO(n:Nat)(xs:List Int)(w:World)(e:Ending)(w':World):Prop:=
 ∃(A:Option Addr) (c:Nat),e=.returned (.slice A n c)/\U64 xs/\xs.length=n/\w'.ownsRow w.heap.size 23 1 (.slice A n c) n (ints .u64 xs)/\Below w.heap.size w w'
theorem AgJ(A0 A1:Option Addr)(n c0 c1:Nat)(ns:List Nd)(ws:List Int)(hw:U64 ws)(hk:Lk (Old.ups ns))(hn:n<=4096)(w:World)(h0:NRow w A0 n ns)(h1:URow w A1 n ws) :
  Calls Tryz.prog 73 #[.agg #[.slice A0 n c0],.slice A1 n c1] w (UO n (subL (Old.ups ns) n ws) w):=by
 obtain⟨i0,hi0,hz0,hz1,hz2⟩:=info_parts info_u64
 have HI:=bx (show Tryz.prog.info? 23=some i0 from hi0)
 have LW:=bx h1.1
 have HW:=bx hw
 have R1:=bx h1
 have DE:=bx (fun(i:Nat) w1 (hb:Below w.heap.size w w1)=>AkS hk A0 n c0 hn i w1 (h0.below hb))
 have DS:=bx (fun i (hi:i<n)=>(Alo (us:=Old.ups ns) (d:=ws) hi).trans (congrArg (· % 18446744073709551616) (Amm hk (nat0 ws) i n (by rw[Aeg,h0.1];exact Nat.le_refl _)).symm))
 have SL:=bx (Ae4 (Old.ups ns) n ws)
 have S64:=bx (ApM (Old.ups ns) n ws)
 have X0:=bx (Has.new w [.slice A0 n c0] 46)
 have B0:=bx (ext_alloc w (.cells #[.slice A0 n c0] 46))
 clear h0 h1 hw hk hi0
 generalize Old.ups ns=us at *
 generalize subL us n ws=R at *
 go_enter Tryz.func73,Tryz.ntmps73
 go_wp2_with fail
 go_loopw [5,6] (fun s i wr=>∃k:Nat,k<=n/\i=.int .i64 k/\wr.ownsRow (w.heap.size+1) 23 1 s k (ints .u64 (R.take k))/\Has wr w.heap.size [.slice A0 n c0]/\Below w.heap.size w wr) (fun _ i _=>n-(intOf i).toNat)
 case atStart=>exact⟨0,Nat.zero_le _,rfl,World.ownsRow_nil _ _ _ _,X0.o,B0.o⟩
 case round=>
  obtain⟨i,hi,rfl,hown,hx,hbel⟩:=hrel
  have OW:=bx hown
  have XR:=bx hx
  have BR:=bx hbel
  clear hown hx hbel X0 B0
  obtain⟨A8,c8,hv⟩:=own_slice OW.o
  subst hv
  have hcb:wr.cell? ⟨w.heap.size,0,none⟩=some (.slice A0 n c0):=XR.o.cell 0
  by_cases hin:i<n
  .have hini:(i:Int)<(n:Int):=by omega
   have HIN:=bx hin
   have HLD:=bx (fun j (hj:j∈descN us i n)=>AoR j hj)
   have HLL:=Aif us i n
   have DSI:=bx (DS.o i hin)
   go_wp2_with ((with_reducible refine Aaj 46 _ rfl _ [.slice A0 n c0] ?_ ?_ XR.o Tryz.underlying46 rfl ?_ ?_);rfl;rfl;exact Abw _)
   refine(DE.o i _ BR.o).mono ?_;rintro e w1 ⟨A12,c12,rfl,ho,hb⟩
   have X1:=bx (XR.o.below hb XR.o.lt)
   have O1:=bx (own_ext OW.o hb)
   have B1:=bx (BR.o.trans (hb.mono BR.o.size))
   have D12:=bx ho
   clear hb ho XR OW BR hcb
   generalize descN us i n=L at *
   go_wp2_with fail
   go_loop [7,9] (fun s j=>∃k:Nat,k<=L.length/\j=.int .i64 k/\s=.int .u64 (((L.take k).map (nat0 ws)).sum%18446744073709551616)) (fun _ j=>L.length-(intOf j).toNat)
   case atStart=>exact⟨0,Nat.zero_le _,rfl,rfl⟩
   case round=>
    obtain⟨k,hk,rfl,rfl⟩:=hrel
    by_cases hkl:k<L.length
    .obtain⟨g12,c12',p12,hv,_,hh⟩:=own_block D12.o (by omega)
     injection hv with hv1 hv2 hv3
     subst hv1;subst hv3
     have hjn:=HLD.o L[k] (List.getElem_mem hkl)
     have hnk:(nats L)[k]? = some ((L[k]:Nat):Int):=by simp[nats,List.getElem?_map,List.getElem?_eq_getElem hkl]
     have hcx:w1.cell? ⟨g12,k,none⟩=some (.int .i64 ((L[k]:Nat):Int)):=by
      rw[hh.cell,List.getElem?_append_left (by rw[ints_len,An1];exact hkl),ints,List.getElem?_map,hnk];rfl
     obtain⟨g2,p2,rfl,hg2⟩:=(R1.o.below B1.o).2 (by omega)
     have hcu:w1.cell? ⟨g2,L[k],none⟩=some (.int .u64 (nat0 ws L[k])):=URow.cell hg2 (by rw[LW.o];exact hjn)
     have hx:=HW.o.at (k:=L[k]) (by rw[LW.o];exact hjn)
     have MN:=bx (An5 (f:=nat0 ws) hkl)
     have hj0:(0:Int)<=((L[k]:Nat):Int):=by omega
     have hjni:((L[k]:Nat):Int)<(n:Int):=by omega
     have hki:(k:Int)<(L.length:Int):=by omega
     have hk0:(0:Int)<=(k:Int):=by omega
     have HKL:=bx hkl
     change 0<=nat0 ws L[k]/\nat0 ws L[k]<_ at hx
     clear hg2 hh hnk hv2
     generalize nat0 ws L[k]=x at *
     generalize L[k]=j at *
     generalize hS:((L.take k).map (nat0 ws)).sum=S at *
     have SB:0<=S%18446744073709551616/\S%18446744073709551616<18446744073709551616:=by omega
     have SN:Bx ((S%18446744073709551616+x)%18446744073709551616=(S+x)%18446744073709551616):=⟨Int.emod_add_emod _ _ _⟩
     generalize S%18446744073709551616=Sm at *
     go_wp2_with fail
     go_round
     case rel=>exact⟨k+1,HKL.o,by go_num,by rw[MN.o,<-SN.o];rfl⟩
     case measure=>simp[intOf];omega
    .have hkk:k=L.length:=by omega
     subst hkk
     rw[List.take_of_length_le (Nat.le_refl _),<-DSI.o]
     have HRT:Bx (ints .u64 (R.take (i+1))=ints .u64 (R.take i) ++ [.int .u64 (R.getD i 0)]):=⟨by
      rw[List.take_succ_eq_append_getElem (by rw[SL.o];exact HIN.o),ints_push,<-getD_at]⟩
     generalize R.getD i 0=v at *
     have HM1:Bx (i+1<=maxLen):=⟨by unfold maxLen;have:=HIN.o;omega⟩
     have HM2:Bx ((i+1)*8<=140737488355328):=⟨by have:=HIN.o;omega⟩
     have SZ:Bx (w.heap.size+1<=w1.heap.size):=⟨X1.o.lt⟩
     clear DSI
     go_wp2_with (at_builtin;(with_reducible refine Ac0 rfl (.tmp 35) (.tmp 37) 30 rfl (w.heap.size+1) 23 i0 _ 1 8 Tryz.underlying30 HI.o hz0 hz1 hz2 ?_ (by omega) _ _ _ ?_ O1.o [.int .u64 v] ?_ ?_ (one_u64 v) HM1.o HM2.o SZ.o ?_);rfl;rfl;rfl;rfl;intro v' w' hown' hg' hbel' _;have HOWN3:=bx hown';have HB3:=bx (B1.o.trans (hbel'.mono (Nat.le_succ _)));have X3:=bx (X1.o.below hbel' (Nat.lt_succ_self _));clear hown' hg' hbel')
     go_roundw
     case rel=>exact⟨i+1,HIN.o,by go_num,by rw[HRT.o];exact HOWN3.o,X3.o,HB3.o⟩
     case measure=>simp[intOf];omega
  .have hkk:i=n:=by omega
   subst hkk
   have RT:Bx (R.take i=R):=⟨List.take_of_length_le (by rw[SL.o];exact Nat.le_refl _)⟩
   go_wp2_with fail
   go_ret
   exact⟨A8,c8,rfl,S64.o,SL.o,own_mono (by have:=OW.o;rw[RT.o]at this;exact this) (Nat.le_succ _),BR.o⟩
theorem Aoi{w:World}{n:Nd}(h:BkOk n.b):(w.alloc (.cells (nc n).toArray 80)).rangeAt w.heap.size 67 (ints .u8 n.b.root):=by
 have hh:=(Has.new w (nc n) 80).rangeAll
 have:=Acr 67 hh fun j u hu=>Api h (Ajd h j u hu)
 simpa using this
theorem AlF{a:List Int}(la:a.length=32)(w:World) :
  Calls Tryz.prog 99 #[.agg (ints .u8 a).toArray] w fun e w'=>e=.returned (.bool (decide (a=zroot)))/\Below w.heap.size w w':=by
 have he:=fun w=>Acq la (b:=zroot) (by rfl) w
 have hz:=Ahg
 have hsz:(Tryz.prog.info? 29).map (·.size)=some (ints .u8 a).toArray.size:=by rw[List.size_toArray,ints,List.length_map,la];kernel_rfl
 have HS:=Lib.hid hsz
 have HA:=Lib.hid la
 clear hsz la
 go_enter Tryz.func99,Tryz.ntmps99
 go_wp2_with (refine wpList_load_row rfl 29 _ rfl _ rfl 29 _ (0,0) _ (heap_alloc_new _ _) Tryz.underlying29 rfl HS.out ?_)
 go_ret
 exact⟨rfl,(Below.refl _ _).alloc (Nat.le_refl _) _⟩
theorem AlG(n:Nd)(hn:BkOk n.b)(r:List Int)(hr:r.length=32)(br:Nat)(w:World)(h:Has w br (ints .u8 r)) :
  Calls Tryz.prog 80 #[.agg (nc n).toArray,.pointer (some ⟨br,0,none⟩)] w fun e w'=>e=.returned (.bool (decide (n.b.root=r)))/\Below w.heap.size w w':=by
 have HR:=bx hr
 have HN:=bx hn.root
 have RG:=bx (Aoi (w:=w) hn)
 have HB:=bx (h.alloc (.cells (nc n).toArray 80))
 have BB:=bx (ext_alloc w (.cells (nc n).toArray 80))
 have hq:=Acq HN.out HR.out
 generalize n.b.root=rn at *
 generalize nc n=cs at *
 clear h hn hr
 go_enter Tryz.func80,Tryz.ntmps80
 go_wp2_with (first|((with_reducible refine Ab0 29 _ rfl ?_ w.heap.size 67 (ints .u8 rn) RG.out ?_ Tryz.underlying29 ?_ ?_ ?_);rfl;rfl;rfl;exact cells_root HN.out)|((with_reducible refine Aaj 29 _ rfl _ (ints .u8 r) ?_ ?_ HB.out Tryz.underlying29 rfl ?_ ?_);rfl;rfl;exact cells_root HR.out))
 go_ret
 exact⟨rfl,BB.out⟩
def FK(ns:List Nd)(r:List Int)(k:Int):Prop:=(k = -1/\∀x∈ns,x.b.root≠r)\/∃(i:Nat) (hi:i<ns.length),k=i/\ns[i].b.root=r/\∀j (hj:j<i),(ns[j]'(Nat.lt_trans hj hi)).b.root≠r
theorem AhO(A:Option Addr)(n c:Nat)(ns:List Nd)(r:List Int)(hr:r.length=32)(br:Nat)(w:World)(h:NRow w A n ns)(hb:Has w br (ints .u8 r))(hn:n<=4096) :
  Calls Tryz.prog 79 #[.slice A n c,.func (Fn.func 80) #[] #[.pointer (some ⟨br,0,none⟩)]] w (FP ns r w):=by
 have HROW:=bx h
 have HLEN:=bx h.1
 have HB:=bx hb
 have HR:=bx hr
 clear h hb hr
 go_enter Tryz.func79,Tryz.ntmps79
 go_wp2_with fail
 go_loopw [8] (fun i wr=>∃k:Nat,k<=n/\i=.int .i64 k/\(∀j (hj:j<ns.length),j<k->ns[j].b.root≠r)/\Below w.heap.size w wr) (fun i _=>n-(intOf i).toNat)
 case atStart=>exact⟨0,Nat.zero_le _,rfl,fun j _ hj=>absurd hj (Nat.not_lt_zero _),Below.refl _ _⟩
 case round=>
  obtain⟨k,hk,rfl,hno,hbel⟩:=hrel
  have HNO:=bx hno
  have BY:=bx hbel
  clear hno hbel
  by_cases hkn:k<n
  .have hkl:k<ns.length:=by rw[HLEN.out];exact hkn
   obtain⟨g1,p1,rfl,hg1⟩:=(HROW.out.below BY.out).2.2 (by omega)
   have NK:=bx (HROW.out.2.1)
   have CN:=bx hg1
   have HI:=bx (AlG ns[k] (NK.out _ (List.getElem_mem hkl)) r HR.out br)
   have HBR:=bx (HB.out.below BY.out HB.out.lt)
   have HLK:=bx hkl
   have hki:(k:Int)<(n:Int):=by omega
   have hk0:0<=(k:Int):=by omega
   clear hg1
   go_wp2_with ((with_reducible refine Aem (f:=nc) (k:=240) 80 _ rfl ?_ g1 ns k ?_ p1 CN.out NK.out.len hkl Tryz.underlying80 ?_ ?_ ?_);rfl;rfl;rfl;kernel_rfl)
   refine(HI.out _ HBR.out).mono ?_;rintro e w2 ⟨rfl,hb⟩
   have B2:=bx (BY.out.trans (hb.mono BY.out.size))
   clear hb
   by_cases he:ns[k].b.root=r
   .have HFD:Bx (FK ns r k):=⟨.inr ⟨k,hkl,rfl,he,fun j hj=>HNO.out j (Nat.lt_trans hj hkl) hj⟩⟩
    rw[decide_eq_true he]
    clear he
    go_wp2_with fail
    go_ret
    exact⟨⟨k,rfl,HFD.out⟩,B2.out⟩
   .have HNX:Bx (∀j (hj:j<ns.length),j<k+1->ns[j].b.root≠r):=⟨fun j hj hjk=>by
     rcases Nat.lt_or_eq_of_le (Nat.le_of_lt_succ hjk)with h|h
     .exact HNO.out j hj h
     .subst h;exact he⟩
    rw[decide_eq_false he]
    clear he
    go_wp2_with fail
    go_roundw
    case rel=>exact⟨k+1,by omega,by go_num,HNX.out,B2.out⟩
    case measure=>simp[intOf];omega
  .obtain rfl:k=n:=by omega
   go_wp2_with fail
   go_ret
   exact⟨⟨-1,rfl,.inl ⟨rfl,fun x hx=>by
    obtain⟨j,hj,rfl⟩:=List.getElem_of_mem hx
    exact HNO.out j hj (by rw[<-HLEN.out];exact hj)⟩⟩,BY.out⟩
theorem Agq(A:Option Addr)(n c:Nat)(ns:List Nd)(r:List Int)(hr:r.length=32)(w:World)(h:NRow w A n ns)(hn:n<=4096) :
  Calls Tryz.prog 43 #[.agg #[.slice A n c],.agg (ints .u8 r).toArray] w (FP ns r w):=by
 have hmf:∀(fn:Fn) (first cap:Array Value) (w:World),(Instr.makeFunc fn first cap).run Tryz.prog w=.ok (.func fn first cap) w:=fun _ _ _ _=>rfl
 have EX:=bx (((Below.refl w.heap.size w).alloc (Nat.le_refl _) (.cells #[.slice A n c] 46)).alloc (by simp) (.cells (ints .u8 r).toArray 29))
 have X1:Bx (Has ((w.alloc (.cells #[.slice A n c] 46)).alloc (.cells (ints .u8 r).toArray 29)) (w.heap.size+1) (ints .u8 r)):=⟨by have:=Has.new (w.alloc (.cells #[.slice A n c] 46)) (ints .u8 r) 29;simpa using this⟩
 have HI:=bx (AhO A n c ns r hr (w.heap.size+1) _ (h.below EX.out) X1.out hn)
 clear h hr
 go_enter Tryz.func43,Tryz.ntmps43
 go_wp2_with fail
 refine HI.out.mono ?_;rintro e w1 ⟨⟨k,rfl,hk⟩,hb⟩
 have FKK:=bx hk
 have B1:=bx (EX.out.trans (hb.mono EX.out.size))
 clear hb hk
 go_wp2_with fail
 go_ret
 exact⟨⟨k,rfl,FKK.out⟩,B1.out⟩
theorem Amd(ns:List Nd)(r:List Int):∃k,FK ns r k:=by
 have h:∀m,m<=ns.length->(∀j (hj:j<ns.length),j<m->ns[j].b.root≠r)\/∃(i:Nat) (hi:i<ns.length),ns[i].b.root=r/\∀j (hj:j<i),(ns[j]'(Nat.lt_trans hj hi)).b.root≠r:=by
  intro m
  induction m with
  |zero=>exact fun _=>.inl fun j _ hj=>absurd hj (Nat.not_lt_zero _)
  |succ m ih=>
   intro hm
   rcases ih (by omega)with h|h
   .by_cases he:(ns[m]'(by omega)).b.root=r
    .exact .inr ⟨m,by omega,he,fun j hj=>h j (by omega) hj⟩
    .refine .inl fun j hj hjm=>?_
     rcases Nat.lt_or_eq_of_le (Nat.le_of_lt_succ hjm)with h1|h1
     .exact h j hj h1
     .subst h1;exact he
   .exact .inr h
 rcases h ns.length (Nat.le_refl _)with h|⟨i,hi,h1,h2⟩
 .refine⟨-1,.inl ⟨rfl,fun x hx=>?_⟩⟩
  obtain⟨j,hj,rfl⟩:=List.getElem_of_mem hx
  exact h j hj hj
 .exact⟨i,.inr ⟨i,hi,rfl,h1,h2⟩⟩
def stAt(ns:List Nd)(i:Nat):Int:=(ns.map (·.st)).getD i 0
theorem Ai1{ns:List Nd}{i:Nat}(h:i<ns.length):stAt ns i=ns[i].st:=by
 unfold stAt;rw[getD_at (by simpa using h)];simp
def boostV(ns:List Nd)(ds:List Int)(r:List Int)(a:Int)(k:Int):List Int:=
 if r=zroot then ds else if 0<=k/\stAt ns k.toNat≠2 then ds.set k.toNat ((ds.getD k.toNat 0+a)%18446744073709551616)else ds
theorem AeA{ns:List Nd}{ds:List Int}{a k:Int}:boostV ns ds zroot a k=ds:=if_pos rfl
theorem AeZ{ns:List Nd}{ds:List Int}{r:List Int}{a:Int}:boostV ns ds r a (-1)=ds:=by
 unfold boostV;split
 .rfl
 .rw[if_neg (by omega)]
theorem Agt{ns:List Nd}{ds:List Int}{r:List Int}{a:Int}{i:Nat}(h:stAt ns i=2):boostV ns ds r a i=ds:=by
 unfold boostV;split
 .rfl
 .rw[if_neg (by rw[Int.toNat_natCast,h];omega)]
theorem Ags{ns:List Nd}{ds:List Int}{r:List Int}{a:Int}{i:Nat}(hr:r≠zroot)(h:stAt ns i≠2):boostV ns ds r a i=ds.set i ((ds.getD i 0+a)%18446744073709551616):=by
 unfold boostV;rw[if_neg hr,if_pos ⟨by omega,by rwa [Int.toNat_natCast]⟩,Int.toNat_natCast]
def BoP(ns:List Nd)(ds:List Int)(r:List Int)(a:Int)(n:Nat)(w:World)(e:Ending)(w':World):Prop:=∃k,FK ns r k/\UP n (boostV ns ds r a k) w e w'
theorem AgC(A0 A1:Option Addr)(n c0 c1:Nat)(ns:List Nd)(ws:List Int)(hw:U64 ws)(hn:n<=4096)(hn0:0<n)(r:List Int)(hr:r.length=32)(a:Int)(ha:0<=a)(w:World)(h0:NRow w A0 n ns)(h1:URow w A1 n ws) :
  Calls Tryz.prog 58 #[.agg #[.slice A0 n c0],.slice A1 n c1,.agg (ints .u8 r).toArray,.int .u64 a] w (BoP ns ws r a n w):=by
 obtain⟨g1,p1,rfl,hg1⟩:=h1.2 hn0
 have LW:=bx h1.1
 have LN:=bx h0.1
 have HW:=bx hw
 have HR:=bx hr
 have N0:=bx h0
 have HN0:=bx hn0
 have EA:=bx (((Below.refl w.heap.size w).alloc (Nat.le_refl _) (.cells #[.slice A0 n c0] 46)).alloc (by simp) (.cells (ints .u8 r).toArray 29))
 have XB:=bx ((Has.new w [.slice A0 n c0] 46).alloc (.cells (ints .u8 r).toArray 29))
 have XR:Bx (Has ((w.alloc (.cells #[.slice A0 n c0] 46)).alloc (.cells (ints .u8 r).toArray 29)) (w.heap.size+1) (ints .u8 r)):=⟨by have:=Has.new (w.alloc (.cells #[.slice A0 n c0] 46)) (ints .u8 r) 29;simpa using this⟩
 have G1:=bx (hg1.below EA.o hg1.lt)
 have CL:=bx (fun W c (h:Has W g1 (ints .u64 ws++p1))=>ApA g1 n c (ints .u64 ws) p1 W h (by rw[ints_len,h1.1,Nat.mul_one]) (one_ints _ _) hn hn0)
 have FI:=bx (fun W (h:NRow W A0 n ns)=>Agq A0 n c0 ns r hr W h hn)
 have IZ:=bx (AlF hr)
 clear h1 hw h0 hr hg1
 go_enter Tryz.func58,Tryz.ntmps58
 go_wp2_with fail
 refine(CL.o _ _ G1.o).mono ?_;rintro e w2 ⟨Au,cu,rfl,ho,hb⟩
 obtain⟨go,co,po,hv,hgo,hs⟩:=own_block ho hn0
 injection hv with hv1 hv2 hv3
 subst hv1;subst hv3
 have O2:=bx hs
 have HGO:Bx (w.heap.size+1<go):=⟨Nat.lt_of_lt_of_le XR.o.lt hgo⟩
 have E2:=bx (EA.o.trans (hb.mono EA.o.size))
 have XB2:=bx (XB.o.below hb XB.o.lt)
 have XR2:=bx (XR.o.below hb XR.o.lt)
 clear hs hb ho hgo XB EA G1 XR CL
 go_wp2_with ((with_reducible refine Aaj 29 _ rfl _ (ints .u8 r) ?_ ?_ XR2.o Tryz.underlying29 rfl ?_ ?_);rfl;rfl;exact cells_root HR.o)
 refine(IZ.o _).mono ?_;rintro e w3 ⟨rfl,hb⟩
 have O3:=bx (O2.o.below hb O2.o.lt)
 have E3:=bx (E2.o.trans (hb.mono E2.o.size))
 have XB3:=bx (XB2.o.below hb XB2.o.lt)
 have XR3:=bx (XR2.o.below hb XR2.o.lt)
 clear hb O2 E2 XB2 XR2
 by_cases hz:r=zroot
 .have HZ:=bx hz
  rw[decide_eq_true hz]
  clear hz
  obtain⟨k,hk⟩:=Amd ns r
  have KK:=bx hk
  clear hk
  go_wp2_with fail
  go_ret
  exact⟨k,KK.o,_,_,rfl,by rw[HZ.o,AeA];exact HW.o,by rw[HZ.o,AeA];exact⟨LW.o,fun _=>⟨go,po,rfl,O3.o⟩⟩,E3.o⟩
 .have HZ:=bx hz
  rw[decide_eq_false hz]
  clear hz
  go_wp2_with (first|((with_reducible refine Aaj 46 _ rfl _ [.slice A0 n c0] ?_ ?_ XB3.o Tryz.underlying46 rfl ?_ ?_);rfl;rfl;exact Abw _)|((with_reducible refine Aaj 29 _ rfl _ (ints .u8 r) ?_ ?_ XR3.o Tryz.underlying29 rfl ?_ ?_);rfl;rfl;exact cells_root HR.o))
  refine(FI.o _ (N0.o.below E3.o)).mono ?_;rintro e w4 ⟨⟨k,rfl,hk⟩,hb⟩
  have FKK:Bx (FK ns r k):=⟨hk⟩
  have O4:=bx (O3.o.below hb O3.o.lt)
  have E4:=bx (E3.o.trans (hb.mono E3.o.size))
  have XB4:=bx (XB3.o.below hb XB3.o.lt)
  have hcb:w4.cell? ⟨w.heap.size,0,none⟩=some (.slice A0 n c0):=XB4.o.cell 0
  clear hb O3 E3 XB3 XR3 FI IZ
  rcases hk with⟨rfl,_⟩|⟨i,hi,rfl,_,_⟩
  .go_wp2_with fail
   go_ret
   exact⟨-1,FKK.o,_,_,rfl,by rw[AeZ];exact HW.o,by rw[AeZ];exact⟨LW.o,fun _=>⟨go,po,rfl,O4.o⟩⟩,E4.o⟩
  .have hin:i<n:=by rw[<-LN.o];exact hi
   have hini:(i:Int)<(n:Int):=by omega
   have hi0:(0:Int)<=(i:Int):=by omega
   have hi0':(i:Int)≥0:=hi0
   obtain⟨g0,p0,rfl,hg0⟩:=(N0.o.below E4.o).2.2 HN0.o
   have hcs:=hg0.nodeCell N0.o.2.1 i hi 239 _ (Al6 (N0.o.2.1 _ (List.getElem_mem hi)))
   rw[<-Ai1 hi]at hcs
   have hio:Bx (i<ws.length):=⟨by rw[LW.o];exact hin⟩
   clear hg0
   by_cases hst:stAt ns i=2
   .have HV:=bx (Agt (ds:=ws) (r:=r) (a:=a) hst)
    rw[hst]at hcs
    go_wp2_with fail
    go_ret
    exact⟨i,FKK.o,_,_,rfl,by rw[HV.o];exact HW.o,by rw[HV.o];exact⟨LW.o,fun _=>⟨go,po,rfl,O4.o⟩⟩,E4.o⟩
   .have HV:=bx (Ags (ds:=ws) (a:=a) HZ.o hst)
    have hne:(stAt ns i != 2)=true:=by rw[bne_iff_ne];exact hst
    have hc5:=URow.cell O4.o hio.o
    have hf5:w4.frozen? ⟨go,i,none⟩=false:=O4.o.frozen i
    have SETU:=bx (fun v=>ApN ws po i v hio.o)
    have SET64:=bx (fun v hv=>HW.o.set (v:=v) hv i)
    have HX:=HW.o.at hio.o
    generalize stAt ns i=st at *
    generalize ws.getD i 0=x at *
    have hs0:0<=(x+a)%18446744073709551616/\(x+a)%18446744073709551616<18446744073709551616:=by omega
    have SS:=bx hs0
    have S9:=bx (O4.o.set i (.int .u64 ((x+a)%18446744073709551616)))
    rw[SETU.o]at S9
    have B9:=bx (E4.o.grown (AbI w4 go i (.int .u64 ((x+a)%18446744073709551616))) E4.o.size (fun k hk=>by cases hk;have:=HGO.o;omega))
    clear hs0 hst
    go_wp2_with fail
    go_ret
    exact⟨i,FKK.o,_,_,rfl,by rw[HV.o];exact SET64.o _ SS.o,by rw[HV.o];exact⟨by rw[List.length_set,LW.o],fun _=>⟨go,po,rfl,S9.o⟩⟩,B9.o⟩
theorem Anq{r:List Int}(hr:r.length=32)(w:World):(binOp .neq 29 (.agg (ints .u8 r).toArray) (.agg (ints .u8 zroot).toArray)).run Tryz.prog w=.ok (.bool (!decide (r=zroot))) w:=by
 rw[run_neq_struct,Acq hr (b:=zroot) (by rfl)];rfl
theorem Ajc(A0 A1:Option Addr)(n c0 c1:Nat)(ns:List Nd)(ws:List Int)(hw:U64 ws)(hn:n<=4096)(hn0:0<n)(r:List Int)(hr:r.length=32)(a:Int)(ha:0<=a)(w:World)(h0:NRow w A0 n ns)(h1:URow w A1 n ws) :
  Calls Tryz.prog 74 #[.agg #[.slice A0 n c0],.slice A1 n c1,.agg (ints .u8 r).toArray,.int .u64 a] w (BoP ns ws r a n w):=by
 obtain⟨i0,hi0,hz0,hz1,hz2⟩:=info_parts info_u64
 have HI:=bx (show Tryz.prog.info? 23=some i0 from hi0)
 obtain⟨g1,p1,rfl,hg1⟩:=h1.2 hn0
 have LW:=bx h1.1
 have LN:=bx h0.1
 have HW:=bx hw
 have HR:=bx hr
 have N0:=bx h0
 have HN0:=bx hn0
 have EA:=bx (((Below.refl w.heap.size w).alloc (Nat.le_refl _) (.cells #[.slice A0 n c0] 46)).alloc (by simp) (.cells (ints .u8 r).toArray 29))
 have XB:=bx ((Has.new w [.slice A0 n c0] 46).alloc (.cells (ints .u8 r).toArray 29))
 have XR:Bx (Has ((w.alloc (.cells #[.slice A0 n c0] 46)).alloc (.cells (ints .u8 r).toArray 29)) (w.heap.size+1) (ints .u8 r)):=⟨by have:=Has.new (w.alloc (.cells #[.slice A0 n c0] 46)) (ints .u8 r) 29;simpa using this⟩
 have G1:=bx (hg1.below EA.o hg1.lt)
 have FI:=bx (fun W (h:NRow W A0 n ns)=>AoL A0 n c0 ns r hr W h hn)
 have hz:=Ahg
 have hnq:=Anq hr
 have HL:Bx ((ints .u64 ws).length=n*1):=⟨by rw[ints_len,h1.1,Nat.mul_one]⟩
 have ONE:=bx (one_ints .u64 ws)
 have HM1:Bx (0+n<=maxLen):=⟨by unfold maxLen;omega⟩
 have HM2:Bx ((0+n)*8<=140737488355328):=⟨by omega⟩
 have NIL:=bx (fun W:World=>(apd (World.ownsRow_nil W (w.heap.size+1+1) 23 1):Apd W (w.heap.size+1+1) 23 1 (.slice none 0 0) 0 []))
 have SZ:Bx (w.heap.size+1+1<=((w.alloc (.cells #[.slice A0 n c0] 46)).alloc (.cells (ints .u8 r).toArray 29)).heap.size):=⟨by simp⟩
 clear h1 hw h0 hr hg1 hi0
 have NEWS:Bx (∀j u,(ints .u64 ws)[j]? = some u->((w.alloc (.cells #[.slice A0 n c0] 46)).alloc (.cells (ints .u8 r).toArray 29)).cell? ((⟨g1,0,none⟩:Addr).add j)=some u):=⟨fun j u hu=>by
  rw[Ad5,G1.o.cell,Nat.zero_add,List.getElem?_append_left (List.getElem?_eq_some_iff.1 hu).1];exact hu⟩
 go_enter Tryz.func74,Tryz.ntmps74
 go_wp2_with (first|(at_builtin;(with_reducible refine AcD rfl (.const (.slice none 0 0)) (.tmp 11) 30 rfl i0 _ 8 Tryz.underlying30 HI.o hz0 hz1 hz2 ?_ ?_ ?_ (NIL.o _) ⟨g1,0,none⟩ n c1 (ints .u64 ws) ?_ HN0.o HL.o NEWS.o ONE.o HM1.o HM2.o SZ.o ?_);rfl;omega;rfl;rfl;intro v' w' hown' _ hbel' _;have HW1:=bx hown';have HB1:=bx hbel';have XB2:=bx (XB.o.below hbel' (by omega));have XR2:=bx (XR.o.below hbel' (by omega));have E2:=bx (EA.o.trans (hbel'.mono (by omega)));clear hown' hbel')|((with_reducible refine Aaj 46 _ rfl _ [.slice A0 n c0] ?_ ?_ XB2.o Tryz.underlying46 rfl ?_ ?_);rfl;rfl;exact Abw _)|((with_reducible refine Aaj 29 _ rfl _ (ints .u8 r) ?_ ?_ XR2.o Tryz.underlying29 rfl ?_ ?_);rfl;rfl;exact cells_root HR.o))
 rename_i v' w2
 refine(FI.o _ (N0.o.below E2.o)).mono ?_;rintro e w4 ⟨⟨k,rfl,hk⟩,hb⟩
 have FKK:Bx (FK ns r k):=⟨hk⟩
 have HW2:=HW1.o
 rw[Nat.zero_add,List.nil_append]at HW2
 obtain⟨go,co,po,hv,hgo,hs⟩:=own_block HW2 HN0.o
 subst hv
 have HGO:=bx hgo
 have O4:=bx (hs.below hb hs.lt)
 have E4:=bx (E2.o.trans (hb.mono E2.o.size))
 have XB4:=bx (XB2.o.below hb XB2.o.lt)
 have XR4:=bx (XR2.o.below hb XR2.o.lt)
 have hcb:w4.cell? ⟨w.heap.size,0,none⟩=some (.slice A0 n c0):=XB4.o.cell 0
 clear hb hs hgo HW1 HW2 HB1 XB2 XR2 E2 XB XR EA NEWS NIL SZ FI
 rcases hk with⟨rfl,_⟩|⟨i,hi,rfl,_,_⟩
 .go_wp2_with fail
  go_ret
  exact⟨-1,FKK.o,_,_,rfl,by rw[AeZ];exact HW.o,by rw[AeZ];exact⟨LW.o,fun _=>⟨go,po,rfl,O4.o⟩⟩,E4.o⟩
 .have hin:i<n:=by rw[<-LN.o];exact hi
  have hini:(i:Int)<(n:Int):=by omega
  have hi0:(0:Int)<=(i:Int):=by omega
  have hi0':(i:Int)≥0:=hi0
  obtain⟨g0,p0,rfl,hg0⟩:=(N0.o.below E4.o).2.2 HN0.o
  have hcs:=hg0.nodeCell N0.o.2.1 i hi 239 _ (Al6 (N0.o.2.1 _ (List.getElem_mem hi)))
  rw[<-Ai1 hi]at hcs
  have hio:Bx (i<ws.length):=⟨by rw[LW.o];exact hin⟩
  clear hg0
  by_cases hst:stAt ns i=2
  .have HV:=bx (Agt (ds:=ws) (r:=r) (a:=a) hst)
   rw[hst]at hcs
   go_wp2_with fail
   go_ret
   exact⟨i,FKK.o,_,_,rfl,by rw[HV.o];exact HW.o,by rw[HV.o];exact⟨LW.o,fun _=>⟨go,po,rfl,O4.o⟩⟩,E4.o⟩
  .have hne:(stAt ns i != 2)=true:=by rw[bne_iff_ne];exact hst
   by_cases hrz:r=zroot
   .rw[decide_eq_true hrz]at hnq
    have HV:Bx (boostV ns ws r a i=ws):=⟨by rw[hrz];exact AeA⟩
    clear hrz hst
    generalize stAt ns i=st at *
    go_wp2_with ((with_reducible refine Aaj 29 _ rfl _ (ints .u8 r) ?_ ?_ XR4.o Tryz.underlying29 rfl ?_ ?_);rfl;rfl;exact cells_root HR.o)
    go_ret
    exact⟨i,FKK.o,_,_,rfl,by rw[HV.o];exact HW.o,by rw[HV.o];exact⟨LW.o,fun _=>⟨go,po,rfl,O4.o⟩⟩,E4.o⟩
   .rw[decide_eq_false hrz]at hnq
    have HV:=bx (Ags (ds:=ws) (a:=a) hrz hst)
    have hc5:=URow.cell O4.o hio.o
    have hf5:w4.frozen? ⟨go,i,none⟩=false:=O4.o.frozen i
    have SETU:=bx (fun v=>ApN ws po i v hio.o)
    have SET64:=bx (fun v hv=>HW.o.set (v:=v) hv i)
    have HX:=HW.o.at hio.o
    clear hrz hst
    generalize stAt ns i=st at *
    generalize ws.getD i 0=x at *
    have hs0:0<=(x+a)%18446744073709551616/\(x+a)%18446744073709551616<18446744073709551616:=by omega
    have SS:=bx hs0
    have S9:=bx (O4.o.set i (.int .u64 ((x+a)%18446744073709551616)))
    rw[SETU.o]at S9
    have B9:=bx (E4.o.grown (AbI w4 go i (.int .u64 ((x+a)%18446744073709551616))) E4.o.size (fun k hk=>by cases hk;have:=HGO.o;omega))
    clear hs0
    go_wp2_with ((with_reducible refine Aaj 29 _ rfl _ (ints .u8 r) ?_ ?_ XR4.o Tryz.underlying29 rfl ?_ ?_);rfl;rfl;exact cells_root HR.o)
    go_ret
    exact⟨i,FKK.o,_,_,rfl,by rw[HV.o];exact SET64.o _ SS.o,by rw[HV.o];exact⟨by rw[List.length_set,LW.o],fun _=>⟨go,po,rfl,S9.o⟩⟩,B9.o⟩
end Old
section
set_option linter.unusedSectionVars false
structure Est(yn1 yn0 u un1 q r:Int):Prop where
 eq:q*yn1+r=u
 r0:0<=r
 rB:r<4294967296
 up:(u*4294967296+un1) / (yn1*4294967296+yn0)<=q
 q0:0<=q
 qB:q<=4294967297
section
variable {yn1 yn0 u un1 q r:Int}(h1:2147483648<=yn1)(h1':yn1<4294967296)(h0:0<=yn0)(h0':yn0<4294967296)(hu0:0<=u)(hu:u<yn1*4294967296+yn0)(hn0:0<=un1)(hn:un1<4294967296)
include h1 h1' h0 h0' hu0 hu hn0 hn
theorem Est.init:Est yn1 yn0 u un1 (u / yn1) (u-(u / yn1)*yn1):=by
 have hp:0<yn1:=by omega
 have e:yn1*(u / yn1)+u%yn1=u:=Int.mul_ediv_add_emod u yn1
 have m0:=Int.emod_nonneg u (b:=yn1) (by omega)
 have m1:=Int.emod_lt_of_pos u hp
 have e':(u / yn1)*yn1=yn1*(u / yn1):=Int.mul_comm _ _
 have hy:0<yn1*4294967296+yn0:=by omega
 refine⟨by omega,by omega,by omega,?_,Int.ediv_nonneg hu0 (by omega),?_⟩
 .refine(Int.le_ediv_iff_mul_le hp).2 ?_
  generalize hQ:(u*4294967296+un1) / (yn1*4294967296+yn0)=Q
  have hQ0:0<=Q:=by rw[<-hQ];exact Int.ediv_nonneg (by omega) (by omega)
  have h2:Q*(yn1*4294967296+yn0)<=u*4294967296+un1:=by rw[<-hQ];exact Int.ediv_mul_le _ (by omega)
  rw[Int.mul_add,<-Int.mul_assoc]at h2
  have h3:0<=Q*yn0:=Int.mul_nonneg hQ0 h0
  omega
 .have:u / yn1<4294967298:=by
   refine Int.ediv_lt_of_lt_mul hp ?_
   omega
  omega
theorem Est.done(h:Est yn1 yn0 u un1 q r)(hle:q*(yn1*4294967296+yn0)<=u*4294967296+un1):q=(u*4294967296+un1) / (yn1*4294967296+yn0):=by
 have hy:0<yn1*4294967296+yn0:=by omega
 have:=(Int.le_ediv_iff_mul_le hy).2 hle
 have:=h.up
 omega
theorem Est.prod(h:Est yn1 yn0 u un1 q r):q*(yn1*4294967296+yn0)=(u-r)*4294967296+q*yn0:=by
 have:=h.eq
 rw[Int.mul_add,<-Int.mul_assoc]
 omega
theorem Est.stop(h:Est yn1 yn0 u un1 q r)(hc:q*yn0<=4294967296*r+un1):q=(u*4294967296+un1) / (yn1*4294967296+yn0):=by
 refine h.done h1 h1' h0 h0' hu0 hu hn0 hn ?_
 rw[h.prod h1 h1' h0 h0' hu0 hu hn0 hn]
 omega
theorem Est.lt:(u*4294967296+un1) / (yn1*4294967296+yn0)<4294967296:=by
 refine Int.ediv_lt_of_lt_mul (by omega) ?_
 omega
theorem Est.down(h:Est yn1 yn0 u un1 q r)(hc:4294967296<=q\/4294967296*r+un1<q*yn0):(u*4294967296+un1) / (yn1*4294967296+yn0)<=q-1:=by
 have hl:=Est.lt h1 h1' h0 h0' hu0 hu hn0 hn
 rcases hc with hc|hc
 .omega
 .have:(u*4294967296+un1) / (yn1*4294967296+yn0)<q:=by
   refine Int.ediv_lt_of_lt_mul (by omega) ?_
   rw[h.prod h1 h1' h0 h0' hu0 hu hn0 hn]
   omega
  omega
theorem Est.next(h:Est yn1 yn0 u un1 q r)(hc:4294967296<=q\/4294967296*r+un1<q*yn0)(hr:r+yn1<4294967296)(hq:1<=q):Est yn1 yn0 u un1 (q-1) (r+yn1):=by
 have hd:=h.down h1 h1' h0 h0' hu0 hu hn0 hn hc
 have e:=h.eq
 have e2:(q-1)*yn1=q*yn1-yn1:=by rw[Int.sub_mul,Int.one_mul]
 exact⟨by omega,by have:=h.r0;omega,hr,hd,by omega,by have:=h.qB;omega⟩
theorem Est.pos(h:Est yn1 yn0 u un1 q r)(hc:4294967296<=q\/4294967296*r+un1<q*yn0):1<=q:=by
 have hd:=h.down h1 h1' h0 h0' hu0 hu hn0 hn hc
 have:0<=(u*4294967296+un1) / (yn1*4294967296+yn0):=Int.ediv_nonneg (by omega) (by omega)
 omega
theorem Est.brk(h:Est yn1 yn0 u un1 q r)(hc:4294967296<=q\/4294967296*r+un1<q*yn0)(hr:4294967296<=r+yn1):q-1=(u*4294967296+un1) / (yn1*4294967296+yn0):=by
 have hd:=h.down h1 h1' h0 h0' hu0 hu hn0 hn hc
 have hq:=h.pos h1 h1' h0 h0' hu0 hu hn0 hn hc
 have hqB:=h.qB
 have hy:0<yn1*4294967296+yn0:=by omega
 have hle:(q-1)*(yn1*4294967296+yn0)<=u*4294967296+un1:=by
  have e:=h.prod h1 h1' h0 h0' hu0 hu hn0 hn
  have e2:(q-1)*(yn1*4294967296+yn0)=q*(yn1*4294967296+yn0)-(yn1*4294967296+yn0):=by rw[Int.sub_mul,Int.one_mul]
  have e3:(q-1)*yn0<=4294967296*yn0:=Int.mul_le_mul_of_nonneg_right (by omega) h0
  rw[Int.sub_mul,Int.one_mul]at e3
  omega
 have:=(Int.le_ediv_iff_mul_le hy).2 hle
 omega
end
theorem Ac7{N y p U T Y Q P V R b1 b0:Int}(hp:0<p)(hy:0<y)(hY:y*p=Y)(hND:N*p=U*18446744073709551616+T)(hT:b1*4294967296+b0=T)
  (hV:V=U*4294967296+b1-Q*Y) (hR:R=V*4294967296+b0-P*Y) (hR0:0<=R) (hR1:R<Y):N / y=Q*4294967296+P/\N%y=R / p:=by
 have e1:(Q*4294967296+P)*Y=Q*Y*4294967296+P*Y:=by rw[Int.add_mul,Int.mul_right_comm]
 have e2:N*p=(Q*4294967296+P)*Y+R:=by rw[e1];omega
 generalize hC:Q*4294967296+P=C at *
 obtain⟨K,hK⟩:∃K,K=N-C*y:=⟨_,rfl⟩
 have e3:K*p=R:=by rw[hK,Int.sub_mul,Int.mul_assoc,hY];omega
 have hK0:0<=K:=by
  rcases(show K<0\/0<=K by omega)with h|h
  .have:=Int.mul_neg_of_neg_of_pos h hp;omega
  .exact h
 have hKy:K<y:=by
  rcases(show K<y\/y<=K by omega)with h|h
  .exact h
  .have:=Int.mul_le_mul_of_nonneg_right h (Int.le_of_lt hp)
   rw[e3,hY]at this;omega
 have hN:N=K+C*y:=by omega
 refine⟨?_,?_⟩
 .rw[hN,Int.add_mul_ediv_right _ _ (by omega),Int.ediv_eq_zero_of_lt hK0 hKy];omega
 .rw[hN,Int.add_mul_emod_self_right,Int.emod_eq_of_lt hK0 hKy,<-e3,Int.mul_ediv_cancel _ (by omega)]
theorem Abd{u un1 y q:Int}(hy:0<y)(hq:q=(u*4294967296+un1) / y):0<=u*4294967296+un1-q*y/\u*4294967296+un1-q*y<y:=by
 have e:=Int.mul_ediv_add_emod (u*4294967296+un1) y
 have m0:=Int.emod_nonneg (u*4294967296+un1) (b:=y) (by omega)
 have m1:=Int.emod_lt_of_pos (u*4294967296+un1) hy
 rw[<-hq,Int.mul_comm y q]at e
 omega
theorem Abc{u un1 y q:Int}(h0:0<=u*4294967296+un1-q*y)(h1:u*4294967296+un1-q*y<18446744073709551616) :
  IntKind.u64.wrap (IntKind.u64.wrap (IntKind.u64.wrap (u*4294967296)+un1)-IntKind.u64.wrap (q*y))=u*4294967296+un1-q*y:=by
 have w:∀x:Int,IntKind.u64.wrap x=x%18446744073709551616:=fun x=>by simp[IntKind.wrap,IntKind.bits,IntKind.signed]
 rw[w,w,w,w]
 generalize q*y=z at *
 omega
end
section
open Go.RowKit
theorem Al8(x y:Int)(w:World)(hx:0<=x)(hxm:x<=18446744073709551615)(hy:0<=y)(hym:y<=18446744073709551615) :
  Calls Tryz.prog 97 #[.int .u64 x,.int .u64 y] w fun e w'=>e=.returned (.tuple #[.int .u64 (x*y / 18446744073709551616),.int .u64 (x*y%18446744073709551616)])/\w=w':=by
 obtain⟨a,rfl⟩:∃a:Nat,x=(a:Int):=⟨x.toNat,by omega⟩
 obtain⟨b,rfl⟩:∃b:Nat,y=(b:Int):=⟨y.toNat,by omega⟩
 refine(Tryz.bits_Mul64 a b (by omega) (by omega) w).mono fun e w' h=>⟨?_,h.2.symm⟩
 rw[h.1,Int.natCast_ediv,Int.natCast_emod,Int.natCast_mul]
 rfl
theorem Amo(hi lo y:Int)(w:World)(h0:0<=hi)(hl:0<=lo)(hlm:lo<=18446744073709551615)(hy:hi<y)(hym:y<=18446744073709551615) :
  Calls Tryz.prog 98 #[.int .u64 hi,.int .u64 lo,.int .u64 y] w fun e w'=>e=.returned (.tuple #[.int .u64 ((hi*18446744073709551616+lo) / y),.int .u64 ((hi*18446744073709551616+lo)%y)])/\Below w.heap.size w w':=by
 have hy0:¬y=0:=by omega
 have hyh:¬y<=hi:=by omega
 by_cases hz:hi=0
 .subst hz
  have e1:(0*18446744073709551616+lo)=lo:=by omega
  rw[e1]
  clear e1
  go_enter Tryz.func98,Tryz.ntmps98
  go_wp2
  go_quiet (fail)
  go_wp2
  go_ret2
  exact⟨rfl,AdP (Below.refl _ _) _⟩
 .obtain⟨s,hs,hs63,hsl,hsu⟩:=AlC y (by omega) hym
  have LZ:Hid (∀w:World,Calls Tryz.prog 134 #[.int .u64 y] w fun e w'=>e=.returned (.int .i64 (s:Int))/\w=w'):=fun w=>
   (Tryz.bits_LeadingZeros64 y w (by omega) hym).mono fun e w' ⟨h1,h2⟩=>⟨by rw[h1,hs],h2.symm⟩
  clear hs
  have hp:(0:Int)<2 ^ s:=Int.pow_pos (by decide)
  have hp2:(0:Int)<2 ^ (64-s):=Int.pow_pos (by decide)
  have hpp:(2:Int) ^ s*2 ^ (64-s)=18446744073709551616:=by
   rw[<-Int.pow_add]
   have:s+(64-s)=64:=by omega
   rw[this];rfl
  have hsN:(2:Int) ^ s=((2 ^ s:Nat):Int):=by rw[Int.natCast_pow];rfl
  have hhiB:(hi+1)*2 ^ s<=y*2 ^ s:=Int.mul_le_mul_of_nonneg_right (by omega) (by omega)
  have hhi0:0<=hi*2 ^ s:=Int.mul_nonneg h0 (by omega)
  have hlq0:0<=lo / 2 ^ (64-s):=Int.ediv_nonneg hl (by omega)
  have hlq1:lo / 2 ^ (64-s)<2 ^ s:=Int.ediv_lt_of_lt_mul hp2 (by rw[hpp];omega)
  rw[Int.add_mul,Int.one_mul]at hhiB
  obtain⟨U,hU⟩:∃U,U=hi*2 ^ s+lo / 2 ^ (64-s):=⟨_,rfl⟩
  have hUe:bits .or .u64 (IntKind.u64.wrap (hi*2 ^ s)) (lo / 2 ^ (64-s))=U:=by
   rw[AdS hhi0 (by omega),hU]
   have:=AqP hi (lo / 2 ^ (64-s)) s h0 hlq0 (by rw[<-hsN];exact hlq1) (by rw[<-hsN];omega)
   rw[<-hsN]at this
   exact this
  obtain⟨T,hT⟩:∃T,T=lo*2 ^ s%18446744073709551616:=⟨_,rfl⟩
  have hTe:IntKind.u64.wrap (lo*2 ^ s)=T:=by rw[Ajj,hT]
  have hT0:0<=T:=by omega
  have hT1:T<18446744073709551616:=by omega
  have hND:(hi*18446744073709551616+lo)*2 ^ s=U*18446744073709551616+T:=by
   have e1:lo*2 ^ s=2 ^ s*(2 ^ (64-s)*(lo / 2 ^ (64-s))+lo%2 ^ (64-s)):=by rw[Int.mul_ediv_add_emod,Int.mul_comm]
   rw[Int.mul_add,<-Int.mul_assoc,hpp]at e1
   have e2:0<=2 ^ s*(lo%2 ^ (64-s)):=Int.mul_nonneg (by omega) (Int.emod_nonneg _ (by omega))
   have e3:2 ^ s*(lo%2 ^ (64-s))<2 ^ s*2 ^ (64-s):=Int.mul_lt_mul_of_pos_left (Int.emod_lt_of_pos _ hp2) hp
   rw[hpp]at e3
   rw[Int.add_mul,Int.mul_right_comm]
   rw[e1]at hT
   generalize 2 ^ s*(lo%2 ^ (64-s))=X at *
   generalize lo / 2 ^ (64-s)=L at *
   generalize hi*2 ^ s=Hh at *
   omega
  obtain⟨Y,hY⟩:∃Y,Y=y*2 ^ s:=⟨_,rfl⟩
  have hYe:y*2 ^ s=Y:=hY.symm
  obtain⟨a1,ha1⟩:∃a1,a1=Y / 4294967296:=⟨_,rfl⟩
  obtain⟨a0,ha0⟩:∃a0,a0=Y%4294967296:=⟨_,rfl⟩
  obtain⟨b1,hb1⟩:∃b1,b1=T / 4294967296:=⟨_,rfl⟩
  obtain⟨b0,hb0⟩:∃b0,b0=T%4294967296:=⟨_,rfl⟩
  rw[hYe]at hsl hsu hhiB
  have hand1:bits .and .u64 Y 4294967295=a0:=by rw[Ahm Y (by omega) hsu,ha0]
  have hand2:bits .and .u64 T 4294967295=b0:=by rw[Ahm T hT0 hT1,hb0]
  have hA1:2147483648<=a1:=by omega
  have hA1':a1<4294967296:=by omega
  have hA0:0<=a0:=by omega
  have hA0':a0<4294967296:=by omega
  have hB1:0<=b1:=by omega
  have hB1':b1<4294967296:=by omega
  have hB0:0<=b0:=by omega
  have hB0':b0<4294967296:=by omega
  have hYa:a1*4294967296+a0=Y:=by omega
  have hTb:b1*4294967296+b0=T:=by omega
  have hU0:0<=U:=by omega
  have hU1:U<a1*4294967296+a0:=by omega
  have hE0:=Est.init hA1 hA1' hA0 hA0' hU0 hU1 hB1 hB1'
  have HE0:=Lib.hid hE0
  have HND:=Lib.hid hND
  have HYa:=Lib.hid hYa
  have HTb:=Lib.hid hTb
  have HYy:=Lib.hid hYe
  have hq1:0<=U / a1*a1:=Int.mul_nonneg (Int.ediv_nonneg hU0 (by omega)) (by omega)
  have hq2:U / a1*a1<=U:=Int.ediv_mul_le _ (by omega)
  have hqB:U / a1<=4294967297:=hE0.qB
  have hqB0:0<=U / a1:=hE0.q0
  have hU64:U<18446744073709551616:=by omega
  have hY64:Y<18446744073709551616:=by omega
  have hY0:0<=Y:=by omega
  have ha1e:Y / 4294967296=a1:=ha1.symm
  have hb1e:T / 4294967296=b1:=hb1.symm
  clear hU hT hND hYa hTb hE0 hsl hsu hhiB hhi0 hlq0 hlq1 hpp hsN hp hp2 ha1 ha0 hb1 hb0 hY hT1
  go_enter Tryz.func98,Tryz.ntmps98
  go_wp2_with fail
  refine(LZ.out _).mono ?_;rintro e w' ⟨rfl,rfl⟩
  go_wp2_with fail
  clear hYe hUe hTe hand1 hand2 ha1e hb1e
  go_loop [15,16] (fun q r=>∃x z:Int,q=.int .u64 x/\r=.int .u64 z/\Est a1 a0 U b1 x z) (fun q _=>(intOf q).toNat)
  case atStart=>exact⟨_,_,rfl,rfl,HE0.out⟩
  case round=>
   obtain⟨q,r,rfl,rfl,he⟩:=hrel
   have HE:=Lib.hid he
   have e1:=he.r0
   have e2:=he.rB
   have e3:=he.q0
   have e4:=he.qB
   clear he hq1 hq2 hqB hqB0
   by_cases hc:4294967296<=q
   .have hp1:=Lib.hid (HE.out.pos hA1 hA1' hA0 hA0' hU0 hU1 hB1 hB1' (.inl hc))
    have hq1:1<=q:=hp1.out
    by_cases hr:r+a1<4294967296
    .have HN:=Lib.hid (HE.out.next hA1 hA1' hA0 hA0' hU0 hU1 hB1 hB1' (.inl hc) hr hq1)
     go_wp2
     go_round
     case rel=>exact⟨_,_,rfl,rfl,HN.out⟩
     case measure=>simp[intOf];omega
    .obtain⟨Q,hQq⟩:∃Q,q-1=Q:=⟨_,rfl⟩
     have HF:Hid (Q=(U*4294967296+b1) / (a1*4294967296+a0)):=by show _=_;rw[<-hQq];exact HE.out.brk hA1 hA1' hA0 hA0' hU0 hU1 hB1 hB1' (.inl hc) (by omega)
     have hYp:0<Y:=by have:=HYa.out;omega
     have HR1:=Lib.hid (Abd (u:=U) (un1:=b1) (y:=Y) (q:=Q) hYp (by rw[HF.out,HYa.out]))
     obtain⟨V,hV⟩:∃V,V=U*4294967296+b1-Q*Y:=⟨_,rfl⟩
     have hVe:IntKind.u64.wrap (IntKind.u64.wrap (IntKind.u64.wrap (U*4294967296)+b1)-IntKind.u64.wrap (Q*Y))=V:=by
      rw[Abc HR1.out.1 (by have:=HR1.out.2;omega),hV]
     have hV0:0<=V:=by rw[hV];exact HR1.out.1
     have hVY:V<Y:=by rw[hV];exact HR1.out.2
     have hV1:V<a1*4294967296+a0:=by rw[HYa.out];exact hVY
     have hQB:Q<4294967296:=by rw[HF.out];exact Est.lt hA1 hA1' hA0 hA0' hU0 hU1 hB1 hB1'
     have hQ0:0<=Q:=by rw[HF.out];exact Int.ediv_nonneg (by omega) (by omega)
     have hE2:=Est.init hA1 hA1' hA0 hA0' hV0 hV1 hB0 hB0'
     have HE2:=Lib.hid hE2
     have hr1:0<=V / a1*a1:=Int.mul_nonneg (Int.ediv_nonneg hV0 (by omega)) (by omega)
     have hr2:V / a1*a1<=V:=Int.ediv_mul_le _ (by omega)
     have hrB:V / a1<=4294967297:=hE2.qB
     have hrB0:0<=V / a1:=hE2.q0
     have HV:=Lib.hid hV
     clear hE2 hV
     go_wp2
     clear hVe
     go_loop [18,16] (fun q r=>∃x z:Int,q=.int .u64 x/\r=.int .u64 z/\Est a1 a0 V b0 x z) (fun q _=>(intOf q).toNat)
     case atStart=>exact⟨_,_,rfl,rfl,HE2.out⟩
     case round=>
      obtain⟨q2,r2,rfl,rfl,he⟩:=hrel
      have HE':=Lib.hid he
      have f1:=he.r0
      have f2:=he.rB
      have f3:=he.q0
      have f4:=he.qB
      clear he hr1 hr2 hrB hrB0
      by_cases hc2:4294967296<=q2
      .have hq21:1<=q2:=HE'.out.pos hA1 hA1' hA0 hA0' hV0 hV1 hB0 hB0' (.inl hc2)
       by_cases hr:r2+a1<4294967296
       .have HN:=Lib.hid (HE'.out.next hA1 hA1' hA0 hA0' hV0 hV1 hB0 hB0' (.inl hc2) hr hq21)
        go_wp2
        go_round
        case rel=>exact⟨_,_,rfl,rfl,HN.out⟩
        case measure=>simp[intOf];omega
       .obtain⟨P,hPq⟩:∃P,q2-1=P:=⟨_,rfl⟩
        have HP:Hid (P=(V*4294967296+b0) / (a1*4294967296+a0)):=by show _=_;rw[<-hPq];exact HE'.out.brk hA1 hA1' hA0 hA0' hV0 hV1 hB0 hB0' (.inl hc2) (by omega)
        have HR2:=Lib.hid (Abd (u:=V) (un1:=b0) (y:=Y) (q:=P) hYp (by rw[HP.out,HYa.out]));obtain⟨R,hR⟩:∃R,R=V*4294967296+b0-P*Y:=⟨_,rfl⟩;have hRe:IntKind.u64.wrap (IntKind.u64.wrap (IntKind.u64.wrap (V*4294967296)+b0)-IntKind.u64.wrap (P*Y))=R:=(by rw[Abc HR2.out.1 (by have:=HR2.out.2;omega),hR]);have hPB:P<4294967296:=(by rw[HP.out];exact Est.lt hA1 hA1' hA0 hA0' hV0 hV1 hB0 hB0');have hP0:0<=P:=(by rw[HP.out];exact Int.ediv_nonneg (by omega) (by omega));have hR0:0<=R:=(by rw[hR];exact HR2.out.1);have HRY:Hid (R<Y):=(by show _<_;rw[hR];exact HR2.out.2);have HRr:=Lib.hid hR;clear hR;have HFIN:=Lib.hid (Ac7 (Int.pow_pos (by decide)) (by omega) HYy.out HND.out HTb.out HV.out HRr.out hR0 HRY.out);go_wp2;go_ret2;exact⟨by rw[HFIN.out.1,HFIN.out.2];rfl,Below.refl _ _⟩
      .have hm0:0<=q2*a0:=Int.mul_nonneg f3 hA0
       have hm1:q2*a0<=4294967295*4294967295:=Int.le_trans (Int.mul_le_mul_of_nonneg_right (show q2<=4294967295 by omega) hA0) (Int.mul_le_mul_of_nonneg_left (by omega) (by decide))
       have hm2:q2*a0<=18446744065119617025:=hm1
       clear hm1
       by_cases hg:q2*a0>4294967296*r2+b0
       .have hq21:1<=q2:=HE'.out.pos hA1 hA1' hA0 hA0' hV0 hV1 hB0 hB0' (.inr hg)
        by_cases hr:r2+a1<4294967296
        .have HN:=Lib.hid (HE'.out.next hA1 hA1' hA0 hA0' hV0 hV1 hB0 hB0' (.inr hg) hr hq21)
         go_wp2
         go_round
         case rel=>exact⟨_,_,rfl,rfl,HN.out⟩
         case measure=>simp[intOf];omega
        .obtain⟨P,hPq⟩:∃P,q2-1=P:=⟨_,rfl⟩
         have HP:Hid (P=(V*4294967296+b0) / (a1*4294967296+a0)):=by show _=_;rw[<-hPq];exact HE'.out.brk hA1 hA1' hA0 hA0' hV0 hV1 hB0 hB0' (.inr hg) (by omega)
         have HR2:=Lib.hid (Abd (u:=V) (un1:=b0) (y:=Y) (q:=P) hYp (by rw[HP.out,HYa.out]));obtain⟨R,hR⟩:∃R,R=V*4294967296+b0-P*Y:=⟨_,rfl⟩;have hRe:IntKind.u64.wrap (IntKind.u64.wrap (IntKind.u64.wrap (V*4294967296)+b0)-IntKind.u64.wrap (P*Y))=R:=(by rw[Abc HR2.out.1 (by have:=HR2.out.2;omega),hR]);have hPB:P<4294967296:=(by rw[HP.out];exact Est.lt hA1 hA1' hA0 hA0' hV0 hV1 hB0 hB0');have hP0:0<=P:=(by rw[HP.out];exact Int.ediv_nonneg (by omega) (by omega));have hR0:0<=R:=(by rw[hR];exact HR2.out.1);have HRY:Hid (R<Y):=(by show _<_;rw[hR];exact HR2.out.2);have HRr:=Lib.hid hR;clear hR;have HFIN:=Lib.hid (Ac7 (Int.pow_pos (by decide)) (by omega) HYy.out HND.out HTb.out HV.out HRr.out hR0 HRY.out);go_wp2;go_ret2;exact⟨by rw[HFIN.out.1,HFIN.out.2];rfl,Below.refl _ _⟩
       .have HP0:=Lib.hid (HE'.out.stop hA1 hA1' hA0 hA0' hV0 hV1 hB0 hB0' (by omega))
        have HP:Hid (q2=(V*4294967296+b0) / (a1*4294967296+a0)):=HP0.out
        have HR2:=Lib.hid (Abd (u:=V) (un1:=b0) (y:=Y) (q:=q2) hYp (by rw[HP.out,HYa.out]));obtain⟨R,hR⟩:∃R,R=V*4294967296+b0-q2*Y:=⟨_,rfl⟩;have hRe:IntKind.u64.wrap (IntKind.u64.wrap (IntKind.u64.wrap (V*4294967296)+b0)-IntKind.u64.wrap (q2*Y))=R:=(by rw[Abc HR2.out.1 (by have:=HR2.out.2;omega),hR]);have hPB:q2<4294967296:=(by rw[HP.out];exact Est.lt hA1 hA1' hA0 hA0' hV0 hV1 hB0 hB0');have hP0:0<=q2:=(by rw[HP.out];exact Int.ediv_nonneg (by omega) (by omega));have hR0:0<=R:=(by rw[hR];exact HR2.out.1);have HRY:Hid (R<Y):=(by show _<_;rw[hR];exact HR2.out.2);have HRr:=Lib.hid hR;clear hR;have HFIN:=Lib.hid (Ac7 (Int.pow_pos (by decide)) (by omega) HYy.out HND.out HTb.out HV.out HRr.out hR0 HRY.out);go_wp2;go_ret2;exact⟨by rw[HFIN.out.1,HFIN.out.2];rfl,Below.refl _ _⟩
   .have hm0:0<=q*a0:=Int.mul_nonneg e3 hA0
    have hm1:q*a0<=4294967295*4294967295:=Int.le_trans (Int.mul_le_mul_of_nonneg_right (show q<=4294967295 by omega) hA0) (Int.mul_le_mul_of_nonneg_left (by omega) (by decide))
    have hm2:q*a0<=18446744065119617025:=hm1
    clear hm1
    by_cases hg:q*a0>4294967296*r+b1
    .have hq1:1<=q:=HE.out.pos hA1 hA1' hA0 hA0' hU0 hU1 hB1 hB1' (.inr hg)
     by_cases hr:r+a1<4294967296
     .have HN:=Lib.hid (HE.out.next hA1 hA1' hA0 hA0' hU0 hU1 hB1 hB1' (.inr hg) hr hq1)
      go_wp2
      go_round
      case rel=>exact⟨_,_,rfl,rfl,HN.out⟩
      case measure=>simp[intOf];omega
     .obtain⟨Q,hQq⟩:∃Q,q-1=Q:=⟨_,rfl⟩
      have HF:Hid (Q=(U*4294967296+b1) / (a1*4294967296+a0)):=by show _=_;rw[<-hQq];exact HE.out.brk hA1 hA1' hA0 hA0' hU0 hU1 hB1 hB1' (.inr hg) (by omega)
      have hYp:0<Y:=by have:=HYa.out;omega
      have HR1:=Lib.hid (Abd (u:=U) (un1:=b1) (y:=Y) (q:=Q) hYp (by rw[HF.out,HYa.out]))
      obtain⟨V,hV⟩:∃V,V=U*4294967296+b1-Q*Y:=⟨_,rfl⟩
      have hVe:IntKind.u64.wrap (IntKind.u64.wrap (IntKind.u64.wrap (U*4294967296)+b1)-IntKind.u64.wrap (Q*Y))=V:=by
       rw[Abc HR1.out.1 (by have:=HR1.out.2;omega),hV]
      have hV0:0<=V:=by rw[hV];exact HR1.out.1
      have hVY:V<Y:=by rw[hV];exact HR1.out.2
      have hV1:V<a1*4294967296+a0:=by rw[HYa.out];exact hVY
      have hQB:Q<4294967296:=by rw[HF.out];exact Est.lt hA1 hA1' hA0 hA0' hU0 hU1 hB1 hB1'
      have hQ0:0<=Q:=by rw[HF.out];exact Int.ediv_nonneg (by omega) (by omega)
      have hE2:=Est.init hA1 hA1' hA0 hA0' hV0 hV1 hB0 hB0'
      have HE2:=Lib.hid hE2
      have hr1:0<=V / a1*a1:=Int.mul_nonneg (Int.ediv_nonneg hV0 (by omega)) (by omega)
      have hr2:V / a1*a1<=V:=Int.ediv_mul_le _ (by omega)
      have hrB:V / a1<=4294967297:=hE2.qB
      have hrB0:0<=V / a1:=hE2.q0
      have HV:=Lib.hid hV
      clear hE2 hV
      go_wp2
      clear hVe
      go_loop [18,16] (fun q r=>∃x z:Int,q=.int .u64 x/\r=.int .u64 z/\Est a1 a0 V b0 x z) (fun q _=>(intOf q).toNat)
      case atStart=>exact⟨_,_,rfl,rfl,HE2.out⟩
      case round=>
       obtain⟨q2,r2,rfl,rfl,he⟩:=hrel
       have HE':=Lib.hid he
       have f1:=he.r0
       have f2:=he.rB
       have f3:=he.q0
       have f4:=he.qB
       clear he hr1 hr2 hrB hrB0
       by_cases hc2:4294967296<=q2
       .have hq21:1<=q2:=HE'.out.pos hA1 hA1' hA0 hA0' hV0 hV1 hB0 hB0' (.inl hc2)
        by_cases hr:r2+a1<4294967296
        .have HN:=Lib.hid (HE'.out.next hA1 hA1' hA0 hA0' hV0 hV1 hB0 hB0' (.inl hc2) hr hq21)
         go_wp2
         go_round
         case rel=>exact⟨_,_,rfl,rfl,HN.out⟩
         case measure=>simp[intOf];omega
        .obtain⟨P,hPq⟩:∃P,q2-1=P:=⟨_,rfl⟩
         have HP:Hid (P=(V*4294967296+b0) / (a1*4294967296+a0)):=by show _=_;rw[<-hPq];exact HE'.out.brk hA1 hA1' hA0 hA0' hV0 hV1 hB0 hB0' (.inl hc2) (by omega)
         have HR2:=Lib.hid (Abd (u:=V) (un1:=b0) (y:=Y) (q:=P) hYp (by rw[HP.out,HYa.out]));obtain⟨R,hR⟩:∃R,R=V*4294967296+b0-P*Y:=⟨_,rfl⟩;have hRe:IntKind.u64.wrap (IntKind.u64.wrap (IntKind.u64.wrap (V*4294967296)+b0)-IntKind.u64.wrap (P*Y))=R:=(by rw[Abc HR2.out.1 (by have:=HR2.out.2;omega),hR]);have hPB:P<4294967296:=(by rw[HP.out];exact Est.lt hA1 hA1' hA0 hA0' hV0 hV1 hB0 hB0');have hP0:0<=P:=(by rw[HP.out];exact Int.ediv_nonneg (by omega) (by omega));have hR0:0<=R:=(by rw[hR];exact HR2.out.1);have HRY:Hid (R<Y):=(by show _<_;rw[hR];exact HR2.out.2);have HRr:=Lib.hid hR;clear hR;have HFIN:=Lib.hid (Ac7 (Int.pow_pos (by decide)) (by omega) HYy.out HND.out HTb.out HV.out HRr.out hR0 HRY.out);go_wp2;go_ret2;exact⟨by rw[HFIN.out.1,HFIN.out.2];rfl,Below.refl _ _⟩
       .have hm0:0<=q2*a0:=Int.mul_nonneg f3 hA0
        have hm1:q2*a0<=4294967295*4294967295:=Int.le_trans (Int.mul_le_mul_of_nonneg_right (show q2<=4294967295 by omega) hA0) (Int.mul_le_mul_of_nonneg_left (by omega) (by decide))
        have hm2:q2*a0<=18446744065119617025:=hm1
        clear hm1
        by_cases hg:q2*a0>4294967296*r2+b0
        .have hq21:1<=q2:=HE'.out.pos hA1 hA1' hA0 hA0' hV0 hV1 hB0 hB0' (.inr hg)
         by_cases hr:r2+a1<4294967296
         .have HN:=Lib.hid (HE'.out.next hA1 hA1' hA0 hA0' hV0 hV1 hB0 hB0' (.inr hg) hr hq21)
          go_wp2
          go_round
          case rel=>exact⟨_,_,rfl,rfl,HN.out⟩
          case measure=>simp[intOf];omega
         .obtain⟨P,hPq⟩:∃P,q2-1=P:=⟨_,rfl⟩
          have HP:Hid (P=(V*4294967296+b0) / (a1*4294967296+a0)):=by show _=_;rw[<-hPq];exact HE'.out.brk hA1 hA1' hA0 hA0' hV0 hV1 hB0 hB0' (.inr hg) (by omega)
          have HR2:=Lib.hid (Abd (u:=V) (un1:=b0) (y:=Y) (q:=P) hYp (by rw[HP.out,HYa.out]));obtain⟨R,hR⟩:∃R,R=V*4294967296+b0-P*Y:=⟨_,rfl⟩;have hRe:IntKind.u64.wrap (IntKind.u64.wrap (IntKind.u64.wrap (V*4294967296)+b0)-IntKind.u64.wrap (P*Y))=R:=(by rw[Abc HR2.out.1 (by have:=HR2.out.2;omega),hR]);have hPB:P<4294967296:=(by rw[HP.out];exact Est.lt hA1 hA1' hA0 hA0' hV0 hV1 hB0 hB0');have hP0:0<=P:=(by rw[HP.out];exact Int.ediv_nonneg (by omega) (by omega));have hR0:0<=R:=(by rw[hR];exact HR2.out.1);have HRY:Hid (R<Y):=(by show _<_;rw[hR];exact HR2.out.2);have HRr:=Lib.hid hR;clear hR;have HFIN:=Lib.hid (Ac7 (Int.pow_pos (by decide)) (by omega) HYy.out HND.out HTb.out HV.out HRr.out hR0 HRY.out);go_wp2;go_ret2;exact⟨by rw[HFIN.out.1,HFIN.out.2];rfl,Below.refl _ _⟩
        .have HP0:=Lib.hid (HE'.out.stop hA1 hA1' hA0 hA0' hV0 hV1 hB0 hB0' (by omega))
         have HP:Hid (q2=(V*4294967296+b0) / (a1*4294967296+a0)):=HP0.out
         have HR2:=Lib.hid (Abd (u:=V) (un1:=b0) (y:=Y) (q:=q2) hYp (by rw[HP.out,HYa.out]));obtain⟨R,hR⟩:∃R,R=V*4294967296+b0-q2*Y:=⟨_,rfl⟩;have hRe:IntKind.u64.wrap (IntKind.u64.wrap (IntKind.u64.wrap (V*4294967296)+b0)-IntKind.u64.wrap (q2*Y))=R:=(by rw[Abc HR2.out.1 (by have:=HR2.out.2;omega),hR]);have hPB:q2<4294967296:=(by rw[HP.out];exact Est.lt hA1 hA1' hA0 hA0' hV0 hV1 hB0 hB0');have hP0:0<=q2:=(by rw[HP.out];exact Int.ediv_nonneg (by omega) (by omega));have hR0:0<=R:=(by rw[hR];exact HR2.out.1);have HRY:Hid (R<Y):=(by show _<_;rw[hR];exact HR2.out.2);have HRr:=Lib.hid hR;clear hR;have HFIN:=Lib.hid (Ac7 (Int.pow_pos (by decide)) (by omega) HYy.out HND.out HTb.out HV.out HRr.out hR0 HRY.out);go_wp2;go_ret2;exact⟨by rw[HFIN.out.1,HFIN.out.2];rfl,Below.refl _ _⟩
    .have HF:=Lib.hid (HE.out.stop hA1 hA1' hA0 hA0' hU0 hU1 hB1 hB1' (by omega))
     have hYp:0<Y:=by have:=HYa.out;omega
     have HR1:=Lib.hid (Abd (u:=U) (un1:=b1) (y:=Y) (q:=q) hYp (by rw[HF.out,HYa.out]))
     obtain⟨V,hV⟩:∃V,V=U*4294967296+b1-q*Y:=⟨_,rfl⟩
     have hVe:IntKind.u64.wrap (IntKind.u64.wrap (IntKind.u64.wrap (U*4294967296)+b1)-IntKind.u64.wrap (q*Y))=V:=by
      rw[Abc HR1.out.1 (by have:=HR1.out.2;omega),hV]
     have hV0:0<=V:=by rw[hV];exact HR1.out.1
     have hVY:V<Y:=by rw[hV];exact HR1.out.2
     have hV1:V<a1*4294967296+a0:=by rw[HYa.out];exact hVY
     have hQB:q<4294967296:=by rw[HF.out];exact Est.lt hA1 hA1' hA0 hA0' hU0 hU1 hB1 hB1'
     have hQ0:0<=q:=by rw[HF.out];exact Int.ediv_nonneg (by omega) (by omega)
     have hE2:=Est.init hA1 hA1' hA0 hA0' hV0 hV1 hB0 hB0'
     have HE2:=Lib.hid hE2
     have hr1:0<=V / a1*a1:=Int.mul_nonneg (Int.ediv_nonneg hV0 (by omega)) (by omega)
     have hr2:V / a1*a1<=V:=Int.ediv_mul_le _ (by omega)
     have hrB:V / a1<=4294967297:=hE2.qB
     have hrB0:0<=V / a1:=hE2.q0
     have HV:=Lib.hid hV
     clear hE2 hV
     go_wp2
     clear hVe
     go_loop [18,16] (fun q r=>∃x z:Int,q=.int .u64 x/\r=.int .u64 z/\Est a1 a0 V b0 x z) (fun q _=>(intOf q).toNat)
     case atStart=>exact⟨_,_,rfl,rfl,HE2.out⟩
     case round=>
      obtain⟨q2,r2,rfl,rfl,he⟩:=hrel
      have HE':=Lib.hid he
      have f1:=he.r0
      have f2:=he.rB
      have f3:=he.q0
      have f4:=he.qB
      clear he hr1 hr2 hrB hrB0
      by_cases hc2:4294967296<=q2
      .have hq21:1<=q2:=HE'.out.pos hA1 hA1' hA0 hA0' hV0 hV1 hB0 hB0' (.inl hc2)
       by_cases hr:r2+a1<4294967296
       .have HN:=Lib.hid (HE'.out.next hA1 hA1' hA0 hA0' hV0 hV1 hB0 hB0' (.inl hc2) hr hq21)
        go_wp2
        go_round
        case rel=>exact⟨_,_,rfl,rfl,HN.out⟩
        case measure=>simp[intOf];omega
       .obtain⟨P,hPq⟩:∃P,q2-1=P:=⟨_,rfl⟩
        have HP:Hid (P=(V*4294967296+b0) / (a1*4294967296+a0)):=by show _=_;rw[<-hPq];exact HE'.out.brk hA1 hA1' hA0 hA0' hV0 hV1 hB0 hB0' (.inl hc2) (by omega)
        have HR2:=Lib.hid (Abd (u:=V) (un1:=b0) (y:=Y) (q:=P) hYp (by rw[HP.out,HYa.out]));obtain⟨R,hR⟩:∃R,R=V*4294967296+b0-P*Y:=⟨_,rfl⟩;have hRe:IntKind.u64.wrap (IntKind.u64.wrap (IntKind.u64.wrap (V*4294967296)+b0)-IntKind.u64.wrap (P*Y))=R:=(by rw[Abc HR2.out.1 (by have:=HR2.out.2;omega),hR]);have hPB:P<4294967296:=(by rw[HP.out];exact Est.lt hA1 hA1' hA0 hA0' hV0 hV1 hB0 hB0');have hP0:0<=P:=(by rw[HP.out];exact Int.ediv_nonneg (by omega) (by omega));have hR0:0<=R:=(by rw[hR];exact HR2.out.1);have HRY:Hid (R<Y):=(by show _<_;rw[hR];exact HR2.out.2);have HRr:=Lib.hid hR;clear hR;have HFIN:=Lib.hid (Ac7 (Int.pow_pos (by decide)) (by omega) HYy.out HND.out HTb.out HV.out HRr.out hR0 HRY.out);go_wp2;go_ret2;exact⟨by rw[HFIN.out.1,HFIN.out.2];rfl,Below.refl _ _⟩
      .have hm0:0<=q2*a0:=Int.mul_nonneg f3 hA0
       have hm1:q2*a0<=4294967295*4294967295:=Int.le_trans (Int.mul_le_mul_of_nonneg_right (show q2<=4294967295 by omega) hA0) (Int.mul_le_mul_of_nonneg_left (by omega) (by decide))
       have hm2:q2*a0<=18446744065119617025:=hm1
       clear hm1
       by_cases hg:q2*a0>4294967296*r2+b0
       .have hq21:1<=q2:=HE'.out.pos hA1 hA1' hA0 hA0' hV0 hV1 hB0 hB0' (.inr hg)
        by_cases hr:r2+a1<4294967296
        .have HN:=Lib.hid (HE'.out.next hA1 hA1' hA0 hA0' hV0 hV1 hB0 hB0' (.inr hg) hr hq21)
         go_wp2
         go_round
         case rel=>exact⟨_,_,rfl,rfl,HN.out⟩
         case measure=>simp[intOf];omega
        .obtain⟨P,hPq⟩:∃P,q2-1=P:=⟨_,rfl⟩
         have HP:Hid (P=(V*4294967296+b0) / (a1*4294967296+a0)):=by show _=_;rw[<-hPq];exact HE'.out.brk hA1 hA1' hA0 hA0' hV0 hV1 hB0 hB0' (.inr hg) (by omega)
         have HR2:=Lib.hid (Abd (u:=V) (un1:=b0) (y:=Y) (q:=P) hYp (by rw[HP.out,HYa.out]));obtain⟨R,hR⟩:∃R,R=V*4294967296+b0-P*Y:=⟨_,rfl⟩;have hRe:IntKind.u64.wrap (IntKind.u64.wrap (IntKind.u64.wrap (V*4294967296)+b0)-IntKind.u64.wrap (P*Y))=R:=(by rw[Abc HR2.out.1 (by have:=HR2.out.2;omega),hR]);have hPB:P<4294967296:=(by rw[HP.out];exact Est.lt hA1 hA1' hA0 hA0' hV0 hV1 hB0 hB0');have hP0:0<=P:=(by rw[HP.out];exact Int.ediv_nonneg (by omega) (by omega));have hR0:0<=R:=(by rw[hR];exact HR2.out.1);have HRY:Hid (R<Y):=(by show _<_;rw[hR];exact HR2.out.2);have HRr:=Lib.hid hR;clear hR;have HFIN:=Lib.hid (Ac7 (Int.pow_pos (by decide)) (by omega) HYy.out HND.out HTb.out HV.out HRr.out hR0 HRY.out);go_wp2;go_ret2;exact⟨by rw[HFIN.out.1,HFIN.out.2];rfl,Below.refl _ _⟩
       .have HP0:=Lib.hid (HE'.out.stop hA1 hA1' hA0 hA0' hV0 hV1 hB0 hB0' (by omega))
        have HP:Hid (q2=(V*4294967296+b0) / (a1*4294967296+a0)):=HP0.out
        have HR2:=Lib.hid (Abd (u:=V) (un1:=b0) (y:=Y) (q:=q2) hYp (by rw[HP.out,HYa.out]));obtain⟨R,hR⟩:∃R,R=V*4294967296+b0-q2*Y:=⟨_,rfl⟩;have hRe:IntKind.u64.wrap (IntKind.u64.wrap (IntKind.u64.wrap (V*4294967296)+b0)-IntKind.u64.wrap (q2*Y))=R:=(by rw[Abc HR2.out.1 (by have:=HR2.out.2;omega),hR]);have hPB:q2<4294967296:=(by rw[HP.out];exact Est.lt hA1 hA1' hA0 hA0' hV0 hV1 hB0 hB0');have hP0:0<=q2:=(by rw[HP.out];exact Int.ediv_nonneg (by omega) (by omega));have hR0:0<=R:=(by rw[hR];exact HR2.out.1);have HRY:Hid (R<Y):=(by show _<_;rw[hR];exact HR2.out.2);have HRr:=Lib.hid hR;clear hR;have HFIN:=Lib.hid (Ac7 (Int.pow_pos (by decide)) (by omega) HYy.out HND.out HTb.out HV.out HRr.out hR0 HRY.out);go_wp2;go_ret2;exact⟨by rw[HFIN.out.1,HFIN.out.2];rfl,Below.refl _ _⟩
def amtOk(s p t:Int):Prop:=1<=s/\s<=64/\p<=100/\t<=4611686018427387904
instance (s p t:Int):Decidable (amtOk s p t):=inferInstanceAs (Decidable (_/\_))
def amt(s p t:Int):Int:=if amtOk s p t then t / s*p / 100 else 0
def amtE(s p t:Int):Int:=if amtOk s p t then 0 else 3
theorem AnV{s p t:Int}(h:¬amtOk s p t):Ending.returned (.tuple #[.int .u64 0,.int .i64 3])=.returned (.tuple #[.int .u64 (amt s p t),.int .i64 (amtE s p t)]):=by
 unfold amt amtE;rw[if_neg h,if_neg h]
def AmtPost(s p t:Int)(w:World)(e:Ending)(w':World):Prop:=e=.returned (.tuple #[.int .u64 (amt s p t),.int .i64 (amtE s p t)])/\Below w.heap.size w w'
theorem Ag5{t s:Int}(ht:0<=t)(hs:1<=s)(h:t<=4611686018427387904):0<=t / s/\t / s<=4611686018427387904:=by
 have h1:=Int.ediv_nonneg ht (show 0<=s by omega)
 have h2:=Int.ediv_le_self s ht
 omega
theorem AjA{x p:Int}(h0:0<=x)(h1:x<=4611686018427387904)(hp0:0<=p)(hp:p<=100):0<=x*p/\x*p<=461168601842738790400:=by
 have:=Int.mul_le_mul_of_nonneg_left hp h0
 exact⟨Int.mul_nonneg h0 hp0,by omega⟩
theorem AlX(cs:List Value)(s p t:Int)(w:World)(h6:cs[6]? = some (.int .u64 s))(h7:cs[7]? = some (.int .u64 p))(hs:0<=s)(hsm:s<=18446744073709551615)(hp:0<=p)(hpm:p<=18446744073709551615)(ht:0<=t)(htm:t<=18446744073709551615) :
  Calls Tryz.prog 56 #[.agg cs.toArray,.int .u64 t] w (AmtPost s p t w):=by
 have X:=Has.new w cs 32
 have hc6:(w.alloc (.cells cs.toArray 32)).cell? ⟨w.heap.size,6,none⟩=some (.int .u64 s):=by rw[X.cell,h6]
 have hc7:(w.alloc (.cells cs.toArray 32)).cell? ⟨w.heap.size,7,none⟩=some (.int .u64 p):=by rw[X.cell,h7]
 have BB:=Lib.hid ((Below.refl w.heap.size w).alloc (Nat.le_refl _) (.cells cs.toArray 32))
 clear X h6 h7
 by_cases hok:amtOk s p t
 .obtain⟨g1,g2,g3,g4⟩:=id hok
  have HE:Hid (Ending.returned (.tuple #[.int .u64 (t / s*p / 100),.int .i64 0])=.returned (.tuple #[.int .u64 (amt s p t),.int .i64 (amtE s p t)])):=by show _=_;unfold amt amtE;rw[if_pos hok,if_pos hok]
  obtain⟨q1,q2⟩:=Ag5 ht g1 g4
  obtain⟨r1,r2⟩:=AjA q1 q2 hp g3
  have HM:=Lib.hid (fun w=>Al8 (t / s) p w (by omega) (by omega) hp (by omega))
  have HQ:Hid (t / s*p / 18446744073709551616*18446744073709551616+t / s*p%18446744073709551616=t / s*p):=by show _=_;omega
  have HD:=Lib.hid (fun w=>Amo (t / s*p / 18446744073709551616) (t / s*p%18446744073709551616) 100 w (by omega) (by omega) (by omega) (by omega) (by omega))
  rw[HQ.out]at HD
  have hsz:¬s=0:=by omega
  go_enter Tryz.func56,Tryz.ntmps56
  go_wp2_with fail
  go_quiet ((go_at_call 97;exact Calls.quiet_of_same ((HM.out _).mono fun _ _ h=>⟨h.1,h.2.symm⟩)))
  go_wp2_with fail
  refine(HD.out _).mono ?_;rintro e w2 ⟨rfl,hb2⟩
  have B2:=Lib.hid ((AdP BB.out _).trans (hb2.mono BB.out.size))
  clear hb2
  go_wp2_with fail
  go_ret2
  exact⟨HE.out,B2.out⟩
 .have HE:=Lib.hid (AnV hok)
  by_cases g1:s<1
  .go_enter Tryz.func56,Tryz.ntmps56
   go_wp2_with fail
   go_ret2
   exact⟨HE.out,BB.out⟩
  by_cases g2:s>64
  .go_enter Tryz.func56,Tryz.ntmps56
   go_wp2_with fail
   go_ret2
   exact⟨HE.out,BB.out⟩
  by_cases g3:p>100
  .go_enter Tryz.func56,Tryz.ntmps56
   go_wp2_with fail
   go_ret2
   exact⟨HE.out,BB.out⟩
  have g4:t>4611686018427387904:=by
   unfold amtOk at hok;omega
  go_enter Tryz.func56,Tryz.ntmps56
  go_wp2_with fail
  go_ret2
  exact⟨HE.out,BB.out⟩
theorem ApV{x p:Int}(h0:0<=x):x / 100*p+x%100*p / 100=x*p / 100:=by
 have e:x*p=x%100*p+x / 100*p*100:=by
  have h1:x=x%100+x / 100*100:=by omega
  have h2:(x%100+x / 100*100)*p=x%100*p+x / 100*p*100:=by rw[Int.add_mul,Int.mul_right_comm]
  rw[<-h2,<-h1]
 rw[e,Int.add_mul_ediv_right _ _ (by decide)]
 omega
theorem Ag9(cs:List Value)(s p t:Int)(w:World)(h6:cs[6]? = some (.int .u64 s))(h7:cs[7]? = some (.int .u64 p))(hs:0<=s)(hsm:s<=18446744073709551615)(hp:0<=p)(hpm:p<=18446744073709551615)(ht:0<=t)(htm:t<=18446744073709551615) :
  Calls Tryz.prog 71 #[.agg cs.toArray,.int .u64 t] w (AmtPost s p t w):=by
 have X:=Has.new w cs 32
 have hc6:(w.alloc (.cells cs.toArray 32)).cell? ⟨w.heap.size,6,none⟩=some (.int .u64 s):=by rw[X.cell,h6]
 have hc7:(w.alloc (.cells cs.toArray 32)).cell? ⟨w.heap.size,7,none⟩=some (.int .u64 p):=by rw[X.cell,h7]
 have BB:=Lib.hid ((Below.refl w.heap.size w).alloc (Nat.le_refl _) (.cells cs.toArray 32))
 clear X h6 h7
 by_cases hok:amtOk s p t
 .obtain⟨g1,g2,g3,g4⟩:=id hok
  have HE:Hid (Ending.returned (.tuple #[.int .u64 (t / s / 100*p+t / s%100*p / 100),.int .i64 0])=.returned (.tuple #[.int .u64 (amt s p t),.int .i64 (amtE s p t)])):=by show _=_;unfold amt amtE;rw[if_pos hok,if_pos hok,ApV (Ag5 ht g1 g4).1]
  obtain⟨q1,q2⟩:=Ag5 ht g1 g4
  obtain⟨u1,u2⟩:=AjA (x:=t / s / 100) (by omega) (by omega) hp g3
  have u3:t / s / 100*p<=4611686018427387904:=Int.le_trans (Int.mul_le_mul_of_nonneg_left g3 (show 0<=t / s / 100 by omega)) (by omega)
  obtain⟨v1,v2⟩:=AjA (x:=t / s%100) (by omega) (by omega) hp g3
  have v3:t / s%100*p<=9900:=Int.le_trans (Int.mul_le_mul_of_nonneg_right (show t / s%100<=99 by omega) hp) (by omega)
  have hsz:¬s=0:=by omega
  go_enter Tryz.func71,Tryz.ntmps71
  go_wp2_with fail
  go_ret2
  exact⟨HE.out,BB.out⟩
 .have HE:=Lib.hid (AnV hok)
  by_cases g1:s<1
  .go_enter Tryz.func71,Tryz.ntmps71
   go_wp2_with fail
   go_ret2
   exact⟨HE.out,BB.out⟩
  by_cases g2:s>64
  .go_enter Tryz.func71,Tryz.ntmps71
   go_wp2_with fail
   go_ret2
   exact⟨HE.out,BB.out⟩
  by_cases g3:p>100
  .go_enter Tryz.func71,Tryz.ntmps71
   go_wp2_with fail
   go_ret2
   exact⟨HE.out,BB.out⟩
  have g4:t>4611686018427387904:=by
   unfold amtOk at hok;omega
  go_enter Tryz.func71,Tryz.ntmps71
  go_wp2_with fail
  go_ret2
  exact⟨HE.out,BB.out⟩
end
section
open Go.RowKit Old
def ZsP(Γ:Gam)(w:World)(z:Zst)(e:Ending)(w':World):Prop:=∃(x:Zls) (Γ':Gam),e=.returned (.agg (fl (zsP z x)).toArray)/\ZsG Γ' x z/\Ext Γ w Γ' w'
theorem ZsP.mk{Γ Γ':Gam}{w w':World}{z:Zst}(x:Zls)(h:ZsG Γ' x z)(hx:Ext Γ w Γ' w'):ZsP Γ w z (.returned (.agg (fl (zsP z x)).toArray)) w':=⟨x,Γ',rfl,h,hx⟩
def rq0:Rq:=⟨u0,r0,0,u0⟩
theorem ztRq:ZeroT Tryz.prog 151 (rqP rq0) [1,32,1,1]:=⟨fun w=>by kernel_rfl,AaY _⟩
theorem elRq:ElT Tryz.prog 50 151 35 56:=Abr Tryz.underlying50 (by kernel_rfl) (by decide) (by decide)
theorem stTg:StrT Tryz.prog 121 [(0,1)] [[.int .u64 0]] [1]:=Aa9 Tryz.underlying121 (by kernel_rfl) (by kernel_rfl) rfl
theorem stRq:StrT Tryz.prog 151 [(0,1),(1,32),(33,1),(34,1)] (rqP rq0) [1,32,1,1]:=Aa9 Tryz.underlying151 (by kernel_rfl) (by kernel_rfl) (AaY _)
theorem Ace(t:U):Tryz.prog.built 121 [(0,.int .u64 (t.n:Int))]=some (fl [[.int .u64 (t.n:Int)]]).toArray:=by
 rw[stTg.eq]
 refine AaG (Q:=[[.int .u64 (t.n:Int)]]) stTg.len rfl rfl rfl rfl rfl fun hl=>?_
 rfl
theorem Ake(t:U)(r:Rt)(n:Int):Tryz.prog.built 151 [(0,.agg (fl [[.int .u64 (t.n:Int)]]).toArray),(1,.agg (rc r).toArray),(2,.int .i64 n)]=some (fl (rqP ⟨t,r,n,u0⟩)).toArray:=by
 rw[stRq.eq]
 refine AaG (Q:=[[.int .u64 (t.n:Int)]]) stRq.len rfl rfl rfl rfl rfl fun hl=>?_
 refine AaG (Q:=[rc r]) hl rfl rfl rfl (lenR r) rfl fun hl=>?_
 refine AaG (Q:=[[.int .i64 n]]) hl rfl rfl rfl rfl rfl fun hl=>?_
 rfl
def uInc(u:U):U:=⟨(u.n+1)%18446744073709551616,Nat.mod_lt _ (by decide)⟩
theorem Ahl(u:U):IntKind.u64.wrap ((u.n:Int)+1)=((uInc u).n:Int):=by
 have:=u.lt
 show IntKind.u64.wrap ((u.n:Int)+1)=(((u.n+1)%18446744073709551616:Nat):Int)
 by_cases h:u.n+1<18446744073709551616
 .rw[AdS (by omega) (by omega),Nat.mod_eq_of_lt h];omega
 .have e:u.n=18446744073709551615:=by omega
  rw[e];rfl
def openZ(z:Zst)(r:Rt)(t:Int):Zst:={z with reqs:=z.reqs ++ [⟨z.ntag,r,t,u0⟩],ntag:=uInc z.ntag}
theorem Ai4{Γ:Gam}{T:List Rq}{q:Rq}{A:Option Addr}{n c:Nat}(hn:n=T.length)(h1:CapOk A (n+1) c)(h2:SlG Γ A (n+1) (T.flatMap rqx++fl (rqP q))):SlR Γ ⟨A,n+1,c⟩ (T ++ [q]).length ((T ++ [q]).flatMap rqx):=by
 refine⟨by simp[hn],h1,?_⟩
 have e:(T ++ [q]).flatMap rqx=T.flatMap rqx++fl (rqP q):=by simp
 rw[e];exact h2
theorem Any(Γ:Gam)(z:Zst)(x:Zls)(r:Rt)(n:Int)(w:World)(ok:Ok Γ w)(h:ZsG Γ x z)(hb:z.reqs.length<=30000) :
  Calls Tryz.prog 161 #[.agg (fl (zsP z x)).toArray,.agg (rc r).toArray,.int .i64 n] w (ZsP Γ w (openZ z r n)):=by
 have M:=bx (MM.start ok)
 have HG:=bx h
 have LN:=bx h.reqs.n
 have hrn:x.reqs.n<=30000:=by rw[h.reqs.n];exact hb
 have ROW:Bx (∀{Γ':Gam} w',Ok Γ' w'->Le Γ Γ'->Row w' w'.heap.size 35 x.reqs.A x.reqs.n (z.reqs.flatMap rqx)):=⟨fun w' o hle=>(h.reqs.sl.mono hle).row (size:=35) (by rw[Aah z.reqs (fun x _=>AbC x),h.reqs.n]) o⟩
 have CAP:=bx h.reqs.cap.nil
 have OneX:Bx (One (z.reqs.flatMap rqx)):=⟨AbM fun x _=>AbF x⟩
 have hw:=Ahl z.ntag
 have hlt:=z.ntag.lt
 clear ok h hb
 change Calls Tryz.prog _ #[_,.agg (fl [rc r]).toArray,_] _ _
 go_enter Tryz.func161,Tryz.ntmps161
 (go_wp2_with (first|((first|refine zBXo ?_|refine zALo (ztZs) ?_|refine zALo (ztRq) ?_);clear M;intro w' g M)|refine zLAo ?_|refine zBDo 121 [(0,.int .u64 (z.ntag.n:Int))] (fl [[.int .u64 (z.ntag.n:Int)]]) (Ace _) ?_|refine zBDo 151 [(0,.agg (fl [[.int .u64 (z.ntag.n:Int)]]).toArray),(1,.agg (rc r).toArray),(2,.int .i64 n)] (fl (rqP ⟨z.ntag,r,n,u0⟩)) (Ake _ _ _) ?_|(refine zSSo M 0 (rqP ⟨z.ntag,r,n,u0⟩) (rqP ⟨z.ntag,r,n,u0⟩) (AaY _) (AbF _) ?_;clear M;intro w' M)))
 refine AaB [5,7] (.steps [(1,0),(0,1),(0,3)] (.fork 2 (.steps [(2,4),(3,5),(1,6),(3,7)] .leaf) 4 (.steps [(2,2),(3,5),(1,6),(3,7)] .leaf))) (by kernel_rfl) (by kernel_rfl) ?_;(simp only[MixT6,MT.steps,stepAt,List.getD_cons_zero,List.getD_cons_succ]);replace M:=bx (M.o.drew)
 refine zNM ?_
 refine zMRo ?_
 refine⟨?_,?_⟩
 focus
  (obtain⟨A1,c1,w1,hr,hM,hb⟩:=Aal elRq M.o 50 x.reqs.A x.reqs.n x.reqs.c _ (ROW.o _ M.ok M.o.ext.le) CAP.o OneX.o (by unfold maxLen;omega) (by omega));refine AaA (AaE rfl rfl rfl hr) rfl ?_;refine⟨hb,?_⟩;clear M;have M:=bx hM;clear hM hr hb;refine zNM ?_
  refine AaA (Aau elRq rfl rfl (v:=.agg (fl (rqP ⟨z.ntag,r,n,u0⟩)).toArray) (cs:=fl (rqP ⟨z.ntag,r,n,u0⟩)) rfl (AbC _)) rfl ?_;refine⟨ext_alloc _ _,?_⟩;replace M:=bx (M.o.alloc (P:=(rqP ⟨z.ntag,r,n,u0⟩)) (AaY _) rfl 151);refine zNM ?_
 rotate_left
 focus
  refine AaA (Aau elRq rfl rfl (v:=.agg (fl (rqP ⟨z.ntag,r,n,u0⟩)).toArray) (cs:=fl (rqP ⟨z.ntag,r,n,u0⟩)) rfl (AbC _)) rfl ?_;refine⟨ext_alloc _ _,?_⟩;replace M:=bx (M.o.alloc (P:=(rqP ⟨z.ntag,r,n,u0⟩)) (AaY _) rfl 151);refine zNM ?_
  (obtain⟨A1,c1,w1,hr,hM,hb⟩:=Aal elRq M.o 50 x.reqs.A x.reqs.n x.reqs.c _ (ROW.o _ M.ok M.o.ext.le) CAP.o OneX.o (by unfold maxLen;omega) (by omega));refine AaA (AaE rfl rfl rfl hr) rfl ?_;refine⟨hb,?_⟩;clear M;have M:=bx hM;clear hM hr hb;refine zNM ?_
 all_goals
  (obtain⟨v5,w5,hr,hM⟩:=AaW elRq M.o 50 _ 1 1 _ (Aaf M.o.at0 (m:=1) rfl) (fun h=>by cases h) (AbF _) (by unfold maxLen;omega) (by omega));refine AaA (AaE rfl rfl rfl hr) rfl ?_;replace M:=bx (hM.tail);clear hr hM;refine zNM ?_;refine zMRo ?_;(obtain⟨A6,c6,e6⟩:=own_slice (M.o.rows _ (List.mem_cons_self ..));simp only at e6;subst e6);refine Aa6 M.o 3 (.slice A6 (x.reqs.n+1) c6) (zsP {z with reqs:=z.reqs ++ [⟨z.ntag,r,n,u0⟩]} {x with reqs:=⟨A6,x.reqs.n+1,c6⟩}) rfl rfl rfl rfl AhE rfl rfl rfl rfl rfl rfl ?_;intro w7 M';(simp only[List.set_cons_zero,List.set_cons_succ]at M');(replace M:=bx M';clear M');refine zNM ?_;refine zMRo ?_;refine NoPanic.normal ?_;(go_wp2_with (first|refine zLAo ?_|((first|refine zS1o M 3 (.int .u64 ((uInc z.ntag).n:Int)) (zsP (openZ z r n) {x with reqs:=⟨A6,x.reqs.n+1,c6⟩}) ?_|refine zSSo M 1 (zsP (openZ z r n) {x with reqs:=⟨A6,x.reqs.n+1,c6⟩}) (zsP (openZ z r n) {x with reqs:=⟨A6,x.reqs.n+1,c6⟩}) (AaH _ _) (AaP _ _) ?_);clear M;intro w' M)));obtain⟨Γ',h1,h2,h3,h4⟩:=M.o.frz;refine zR h4.at1 ?_;exact ZsP.mk _ ⟨(HG.o.mono h4.ext.le).s,Ai4 LN.o h1 h2,(HG.o.mono h4.ext.le).rets⟩ h4.ext
def ordrd(s:Sto)(b:Blk):Bool:=decide (b.fin.e.n<=b.just.e.n/\b.just.e.n<=b.pj.e.n/\b.fin.e.n<=b.pf.e.n/\b.pf.e.n<=b.pj.e.n/\b.pj.e.n<=(epN b.slot s.c.spe).n)
theorem AjH(Γ:Gam)(s:Sto)(v:Sls)(b:Blk)(hs:0<s.c.spe.n)(w:World)(ok:Ok Γ w) :
  Calls Tryz.prog 208 #[.agg (fl (stP s v)).toArray,.agg (blx b).toArray] w fun en w'=>en=.returned (.bool (ordrd s b))/\Ext Γ w Γ w':=by
 have M:=bx (MM.start ok)
 have EP:=bx (fun w ok=>AbZ Γ s v b.slot hs w ok)
 have HD:Bx (ordrd s b=decide (b.fin.e.n<=b.just.e.n/\b.just.e.n<=b.pj.e.n/\b.fin.e.n<=b.pf.e.n/\b.pf.e.n<=b.pj.e.n/\b.pj.e.n<=(epN b.slot s.c.spe).n)):=⟨rfl⟩
 clear ok hs
 generalize ordrd s b=r at *
 generalize epN b.slot s.c.spe=u at *
 by_cases h1:b.fin.e.n<=b.just.e.n
 .have i1:(b.fin.e.n:Int)<=(b.just.e.n:Int):=by omega
  by_cases h2:b.just.e.n<=b.pj.e.n
  .have i2:(b.just.e.n:Int)<=(b.pj.e.n:Int):=by omega
   by_cases h3:b.fin.e.n<=b.pf.e.n
   .have i3:(b.fin.e.n:Int)<=(b.pf.e.n:Int):=by omega
    by_cases h4:b.pf.e.n<=b.pj.e.n
    .have i4:(b.pf.e.n:Int)<=(b.pj.e.n:Int):=by omega
     by_cases h5:b.pj.e.n<=u.n
     focus
      have i5:(b.pj.e.n:Int)<=(u.n:Int):=by omega
      replace HD:=bx (HD.o.trans (decide_eq_true ⟨h1,h2,h3,h4,h5⟩))
     rotate_left
     focus
      have i5:(u.n:Int)<(b.pj.e.n:Int):=by omega
      replace HD:=bx (HD.o.trans (decide_eq_false (fun h=>h5 h.2.2.2.2)))
     all_goals
      go_enter Tryz.func208,Tryz.ntmps208;(go_wp2_with (refine zBXo ?_;clear M;intro w' g M));(refine zQXo ?_;clear M;intro w4 M);(go_wp2_with (refine zLAo ?_))
      refine zCA M (EP.o _ M.ok) ?_;clear M;intro w1 M
      (go_wp2_with (fail))
      go_ret;exact⟨by rw[HD.o];rfl,M.o.ext⟩
    .have i4:(b.pj.e.n:Int)<(b.pf.e.n:Int):=by omega
     replace HD:=bx (HD.o.trans (decide_eq_false (fun h=>h4 h.2.2.2.1)))
     go_enter Tryz.func208,Tryz.ntmps208;(go_wp2_with (refine zBXo ?_;clear M;intro w' g M));(refine zQXo ?_;clear M;intro w4 M);(go_wp2_with (fail))
     go_ret;exact⟨by rw[HD.o];rfl,M.o.ext⟩
   .have i3:(b.pf.e.n:Int)<(b.fin.e.n:Int):=by omega
    replace HD:=bx (HD.o.trans (decide_eq_false (fun h=>h3 h.2.2.1)))
    go_enter Tryz.func208,Tryz.ntmps208;(go_wp2_with (refine zBXo ?_;clear M;intro w' g M));(refine zQXo ?_;clear M;intro w4 M);(go_wp2_with (fail))
    go_ret;exact⟨by rw[HD.o];rfl,M.o.ext⟩
  .have i2:(b.pj.e.n:Int)<(b.just.e.n:Int):=by omega
   replace HD:=bx (HD.o.trans (decide_eq_false (fun h=>h2 h.2.1)))
   go_enter Tryz.func208,Tryz.ntmps208;(go_wp2_with (refine zBXo ?_;clear M;intro w' g M));(refine zQXo ?_;clear M;intro w4 M);(go_wp2_with (fail))
   go_ret;exact⟨by rw[HD.o];rfl,M.o.ext⟩
 .have i1:(b.just.e.n:Int)<(b.fin.e.n:Int):=by omega
  replace HD:=bx (HD.o.trans (decide_eq_false (fun h=>h1 h.1)))
  go_enter Tryz.func208,Tryz.ntmps208;(go_wp2_with (refine zBXo ?_;clear M;intro w' g M));(refine zQXo ?_;clear M;intro w4 M);(go_wp2_with (fail))
  go_ret;exact⟨by rw[HD.o];rfl,M.o.ext⟩
def Sto.known(s:Sto)(r:Rt):Bool:=s.orph.any (fun b=>decide (b.root=r))||decide (0<=fndI s.nodes r)
theorem AjK(Γ:Gam)(s:Sto)(v:Sls)(r:Rt)(w:World)(ok:Ok Γ w)(h:StG Γ v s)(hb:s.orph.length<=65535) :
  Calls Tryz.prog 191 #[.agg (fl (stP s v)).toArray,.agg (rc r).toArray] w fun en w'=>en=.returned (.bool (s.known r))/\Ext Γ w Γ w':=by
 have M:=bx (MM.start ok)
 have FI:=bx (fun w ok=>Aag Γ v.nodes s.nodes r w ok h.nodes)
 have LN:=bx h.orph.n
 have HG:=bx h
 have HD:Bx (s.known r=(s.orph.any (fun b=>decide (b.root=r))||decide (0<=fndI s.nodes r))):=⟨rfl⟩
 clear ok h
 generalize s.known r=res at *
 change Calls Tryz.prog _ #[_,.agg (fl [rc r]).toArray] _ _
 go_enter Tryz.func191,Tryz.ntmps191
 (go_wp2_with (refine zBXo ?_;clear M;intro w' g M))
 rename_i gs _ _
 go_loopw [5] (fun j wr=>∃k:Nat,k<=s.orph.length/\j=.int .i64 k/\(∀j (hj:j<s.orph.length),j<k->s.orph[j].root≠r)/\MM Γ w Γ wr [⟨g,[rc r],[32]⟩,⟨gs,stP s v,stL⟩] []) (fun j _=>s.orph.length-(intOf j).toNat)
 case atStart=>exact⟨0,Nat.zero_le _,rfl,fun j _ hj=>absurd hj (Nat.not_lt_zero _),M.o⟩
 case round=>
  obtain⟨k,hk,rfl,hno,hM⟩:=hrel
  clear M
  have M:=bx hM
  have HNO:=bx hno
  clear hM hno
  by_cases hkn:k<s.orph.length
  .obtain⟨gn,hA,hf⟩:=HG.o.orphAt k hkn
   have HA:=bx hA
   have F1:=bx hf
   have hki:(k:Int)<(v.orph.n:Int):=by rw[LN.o];omega
   have hk0:0<=(k:Int):=by omega
   have NX:=bx (fun(e:s.orph[k].root≠r) j (hj:j<s.orph.length) (hjk:j<k+1)=>(Nat.lt_or_eq_of_le (Nat.le_of_lt_succ hjk)).elim (HNO.o j hj) (fun h=>by subst h;exact e))
   have YS:=bx (fun(e:s.orph[k].root=r)=>(show s.orph.any (fun b=>decide (b.root=r))=true from List.any_eq_true.2 ⟨_,List.getElem_mem hkn,decide_eq_true e⟩))
   clear hA hf
   have hq:=Aa5 s.orph[k].root r
   generalize s.orph[k]=y at *
   by_cases hz:y.root=r
   .rw[decide_eq_true hz]at hq
    have HR:Bx (res=true):=⟨by rw[HD.o,YS.o hz];rfl⟩
    clear NX YS hz
    (go_wp2_with (refine zLAo ?_))
    refine zRG ?_;(repeat((go_big_quiet_want;first|((first|refine zQHo HA ?_|refine zQFo F1 ?_|refine zQAo ?_);go_big_quiet_on;refine zNM ?_)|(refine zQO ?_;go_big_quiet_on))));(refine zQN ?_;clear M;intro w4 M)
    (go_wp2_with (fail))
    go_ret
    exact⟨by rw[HR.o];rfl,M.o.ext⟩
   .rw[decide_eq_false hz]at hq
    have NX':=bx (NX.o hz)
    clear NX YS hz
    (go_wp2_with (refine zLAo ?_))
    refine zRG ?_;(repeat((go_big_quiet_want;first|((first|refine zQHo HA ?_|refine zQFo F1 ?_|refine zQAo ?_);go_big_quiet_on;refine zNM ?_)|(refine zQO ?_;go_big_quiet_on))));(refine zQN ?_;clear M;intro w4 M)
    (go_wp2_with (fail))
    go_roundw
    case rel=>exact⟨k+1,by omega,by go_num,NX'.o,M.o⟩
    case measure=>simp[intOf]<;>omega
  .have hki:(v.orph.n:Int)<=(k:Int):=by rw[LN.o];omega
   have HR:Bx (res=decide (0<=fndI s.nodes r)):=⟨by
    rw[HD.o,List.any_eq_false.2 fun x hx=>by
     obtain⟨j,hj,rfl⟩:=List.getElem_of_mem hx
     simpa using HNO.o j hj (by omega)]
    rfl⟩
   generalize fndI s.nodes r=f at *
   (go_wp2_with (refine zLAo ?_))
   refine zCA M (FI.o _ M.ok) ?_;clear M;intro w1 M
   (go_wp2_with (fail))
   go_ret
   exact⟨by rw[HR.o];rfl,M.o.ext⟩
def Sto.wait(s:Sto):Int:=idxI (fun b=>decide (0<=fndI s.nodes b.parent)) s.orph
theorem Ad6(Γ:Gam)(s:Sto)(v:Sls)(w:World)(ok:Ok Γ w)(h:StG Γ v s)(hb:s.orph.length<=65535) :
  Calls Tryz.prog 165 #[.agg (fl (stP s v)).toArray] w fun en w'=>en=.returned (.int .i64 s.wait)/\Ext Γ w Γ w':=by
 have M:=bx (MM.start ok)
 have FI:=bx (fun r w ok=>Aag Γ v.nodes s.nodes r w ok h.nodes)
 have LN:=bx h.orph.n
 have HG:=bx h
 have HD:Bx (s.wait=idxI (fun b=>decide (0<=fndI s.nodes b.parent)) s.orph):=⟨rfl⟩
 clear ok h
 generalize s.wait=res at *
 go_enter Tryz.func165,Tryz.ntmps165
 (go_wp2_with (refine zBXo ?_;clear M;intro w' g M))
 go_loopw [3] (fun j wr=>∃k:Nat,k<=s.orph.length/\j=.int .i64 k/\(∀j (hj:j<s.orph.length),j<k->decide (0<=fndI s.nodes s.orph[j].parent)=false)/\MM Γ w Γ wr [⟨g,stP s v,stL⟩] []) (fun j _=>s.orph.length-(intOf j).toNat)
 case atStart=>exact⟨0,Nat.zero_le _,rfl,fun j _ hj=>absurd hj (Nat.not_lt_zero _),M.o⟩
 case round=>
  obtain⟨k,hk,rfl,hno,hM⟩:=hrel
  clear M
  have M:=bx hM
  have HNO:=bx hno
  clear hM hno
  by_cases hkn:k<s.orph.length
  .obtain⟨gn,hA,hf⟩:=HG.o.orphAt k hkn
   have HA:=bx hA
   have F1:=bx hf
   have hki:(k:Int)<(v.orph.n:Int):=by rw[LN.o];omega
   have hk0:0<=(k:Int):=by omega
   have NX:=bx (fun(e:decide (0<=fndI s.nodes s.orph[k].parent)=false) j (hj:j<s.orph.length) (hjk:j<k+1)=>(Nat.lt_or_eq_of_le (Nat.le_of_lt_succ hjk)).elim (HNO.o j hj) (fun h=>by subst h;exact e))
   have YS:=bx (fun e=>AeR (p:=fun b=>decide (0<=fndI s.nodes b.parent)) hkn (fun j hj=>HNO.o j (Nat.lt_trans hj hkn) hj) e)
   clear hA hf
   have EC:=bx (clsE M.o (FI.o s.orph[k].parent))
   generalize s.orph[k]=y at *
   generalize fndI s.nodes y.parent=f at *
   by_cases hz:0<=f
   .have HR:=bx (HD.o.trans (YS.o (decide_eq_true hz)))
    clear NX YS
    (go_wp2_with (refine zLAo ?_))
    refine zRG ?_;(repeat((go_big_quiet_want;first|((first|refine zQHo HA ?_|refine zQFo F1 ?_|refine zQC (AaJ EC.o) Tryz.func24 ?_|refine zQAo ?_);go_big_quiet_on;refine zNM ?_)|(refine zQO ?_;go_big_quiet_on))));(refine zQN ?_;clear M;intro w4 M)
    (go_wp2_with (fail))
    go_ret
    exact⟨by rw[HR.o];rfl,M.o.ext⟩
   .have NX':=bx (NX.o (decide_eq_false hz))
    clear NX YS
    (go_wp2_with (refine zLAo ?_))
    refine zRG ?_;(repeat((go_big_quiet_want;first|((first|refine zQHo HA ?_|refine zQFo F1 ?_|refine zQC (AaJ EC.o) Tryz.func24 ?_|refine zQAo ?_);go_big_quiet_on;refine zNM ?_)|(refine zQO ?_;go_big_quiet_on))));(refine zQN ?_;clear M;intro w4 M)
    (go_wp2_with (fail))
    go_roundw
    case rel=>exact⟨k+1,by omega,by go_num,NX'.o,M.o⟩
    case measure=>simp[intOf]<;>omega
  .have hki:(v.orph.n:Int)<=(k:Int):=by rw[LN.o];omega
   have HR:=bx (HD.o.trans (AeS fun j hj=>HNO.o j hj (by omega)))
   (go_wp2_with (refine zLAo ?_))
   go_ret
   exact⟨by rw[HR.o];rfl,M.o.ext⟩
end
section
open Go.RowKit
def tbE(b:List U)(v:Int):Int:=valE (b.map fun x=>(x.n:Int)) b.length v
theorem ArM(b:List U):U64 (b.map fun x=>(x.n:Int)):=fun x hx=>by
 obtain⟨y,_,rfl⟩:=List.mem_map.1 hx
 have:=y.lt
 omega
theorem AdZ(c:Cp)(b:List U)(hb:b.length<=65535)(A:Option Addr)(k:Nat)(v:Int)(w:World)(h:Row w w.heap.size 1 A b.length (us b)) :
  Calls Tryz.prog 64 #[.agg (fl (tbP c (.slice A b.length k))).toArray,.int .i64 v] w fun e w'=>e=.returned (.int .i64 (tbE b v))/\Below w.heap.size w w':=
 AfV w.heap.size ((c.e.n:Int),c.r.l) c.r.len A b.length k v _ w (Nat.le_refl _) (AdV b▸h) (ArM b) (by omega)
def findT(T:List Tbl)(c:Cp):Int:=idxI (fun t=>decide (t.c=c)) T
def regM(T:List Tbl)(t:Tbl)(v lim:Int):Int × List Tbl:=
 if tbE t.b v≠0 then(tbE t.b v,T)else if 0<=findT T t.c then(9,T)else if lim<=(T.length:Int)then(11,T)else(0,addT T t)
def RefRg(Γ:Gam)(w:World)(r:Int × List Tbl)(e:Ending)(w':World):Prop:=
 ∃(A:Option Addr) (c:Nat) (Γ':Gam),e=.returned (.tuple #[.slice A r.2.length c,.int .i64 r.1])/\CapOk A r.2.length c/\TsG Γ' A r.2.length r.2/\Ext Γ w Γ' w'
theorem Ajp{Γ Γ':Gam}{w w':World}{r:Int × List Tbl}{x:Int}{T:List Tbl}{A:Option Addr}{n c:Nat}(hr:r=(x,T))(hn:T.length=n)(hc:CapOk A n c)(hT:TsG Γ' A n T)(hx:Ext Γ w Γ' w'):RefRg Γ w r (.returned (.tuple #[.slice A n c,.int .i64 x])) w':=by
 subst hr hn
 exact⟨A,c,Γ',rfl,hc,hT,hx⟩
theorem AfW(Γ:Gam)(A:Option Addr)(n c:Nat)(T:List Tbl)(t:Tbl)(s:Value)(v lim:Int)(hn:n<=65535)(hb:t.b.length<=65535)(w:World)(ok:Ok Γ w)(h:TsG Γ A n T)(hcap:CapOk A n c)(ht:TbG Γ (t.c,s) t) :
  Calls Tryz.prog 170 #[.slice A n c,.agg (fl (tbP t.c s)).toArray,.int .i64 v,.int .i64 lim] w (RefRg Γ w (regM T t v lim)):=by
 have M:=bx (MM.start ok)
 have HT:=bx h
 have HC:=bx hcap
 have HB:=bx hb
 have HN:=bx hn
 obtain⟨As,ks,hs,hsc,hsr⟩:=ht.s
 simp only at hs
 subst hs
 have HTR:=bx (fun(w':World) (o:Ok Γ w')=>hsr.row (size:=1) (by rw[AcY,Nat.mul_one]) o)
 have HTb:=bx ht
 have LN:=bx h.1
 have R1:=bx (fun h:tbE t.b v≠0=>show regM T t v lim=(tbE t.b v,T)from if_pos h)
 have R2:=bx (fun(h:tbE t.b v=0) (h2:0<=findT T t.c)=>show regM T t v lim=(9,T)by unfold regM;rw[if_neg (fun e=>e h),if_pos h2])
 have R3:=bx (fun(h:tbE t.b v=0) (h2:¬0<=findT T t.c) (h3:lim<=(n:Int))=>show regM T t v lim=(11,T)by unfold regM;rw[if_neg (fun e=>e h),if_neg h2,if_pos (by rw[LN.o];exact h3)])
 have R4:=bx (fun(h:tbE t.b v=0) (h2:¬0<=findT T t.c) (h3:¬lim<=(n:Int))=>show regM T t v lim=(0,addT T t)by unfold regM;rw[if_neg (fun e=>e h),if_neg h2,if_neg (by rw[LN.o];exact h3)])
 clear h hcap hb ht hsc hsr ok hn
 have VA:=bx (fun w1 (o:Ok Γ w1)=>AdZ t.c t.b HB.o As ks v w1 (HTR.o w1 o))
 have FA:=bx (fun w1 (o:Ok Γ w1)=>Abq Γ A n c T t.c HN.o w1 o HT.o)
 have AA:=bx (fun w1 (o:Ok Γ w1)=>Air Γ A n c T t _ HN.o HB.o w1 o HT.o HC.o HTb.o)
 change Bx (∀w1,Ok Γ w1->Calls Tryz.prog _ _ w1 fun e w'=>e=.returned (.int .i64 (findT T t.c))/\_)at FA
 generalize tbE t.b v=ve at *
 generalize findT T t.c=fi at *
 generalize hr:regM T t v lim=r at *
 clear hr
 go_enter Tryz.func170,Tryz.ntmps170
 go_wp2_with (first|(refine zBYo (AaS _ _) ?_;clear M;intro w' g M)|refine zLDo (M.o.at0) ?_)
 refine(VA.o _ M.ok).mono ?_;rintro e w1 ⟨rfl,hb⟩
 replace M:=bx (M.o.below hb)
 clear hb
 by_cases hv:ve=0
 .have hvf:(ve != 0)=false:=by rw[bne_eq_false_iff_eq];exact hv
  have HV:=bx hv
  clear hv R1
  go_wp2_with (refine zLDo (M.o.at0) ?_)
  refine(FA.o _ M.ok).mono ?_;rintro e w2 ⟨rfl,hx⟩
  replace M:=bx (M.o.call hx)
  clear hx
  by_cases hf:0<=fi
  .have R:=bx (R2.o HV.o hf)
   clear R2 R3 R4
   go_wp2_with fail
   go_ret2
   exact Ajp R.o LN.o HC.o HT.o M.o.ext
  .by_cases hl:lim<=(n:Int)
   .have R:=bx (R3.o HV.o (by omega) (by omega))
    clear R2 R3 R4
    go_wp2_with fail
    go_ret2
    exact Ajp R.o LN.o HC.o HT.o M.o.ext
   .have R:=bx (R4.o HV.o (by omega) (by omega))
    clear R2 R3 R4
    go_wp2_with (refine zLDo (M.o.at0) ?_)
    refine(AA.o _ M.ok).mono ?_;rintro e w3 ⟨A3,c3,Γ3,rfl,hc3,ht3,hx⟩
    replace M:=bx (M.o.call hx)
    have H3:=bx ht3
    have C3:=bx hc3
    clear hx ht3 hc3
    go_wp2_with fail
    go_ret2
    exact Ajp R.o rfl C3.o H3.o M.o.ext
 .have hvf:(ve != 0)=true:=by rw[bne_iff_ne];exact hv
  have R:=bx (R1.o hv)
  clear R1 R2 R3 R4 hv
  go_wp2_with fail
  go_ret2
  exact Ajp R.o LN.o HC.o HT.o M.o.ext
theorem Aek:∀a b:List Int,cmpI b a = - cmpI a b
 |[],[]=>rfl
 |[],_::_=>rfl
 |_::_,[]=>rfl
 |x::xs,y::ys=>by
  unfold cmpI
  by_cases h1:x<y
  .rw[if_pos h1,if_neg (show ¬y<x by omega),if_pos h1];rfl
  .by_cases h2:y<x
   .simp[h1,h2]
   .rw[if_neg h1,if_neg h2,if_neg h2,if_neg h1];exact Aek xs ys
theorem Ad8:∀a b c:List Int,a.length=b.length->b.length=c.length->cmpI a b<=0->cmpI b c<=0->cmpI a c<=0
 |[],_,_,_,_,_,_=>by simp[cmpI]
 |_::_,[],_,h,_,_,_=>by simp at h
 |_::_,_::_,[],_,h,_,_=>by simp at h
 |x::xs,y::ys,z::zs,h1,h2,ha,hb=>by
  unfold cmpI at ha hb |-
  by_cases a1:x<y
  .by_cases b1:y<z
   .rw[if_pos (show x<z by omega)];decide
   .rw[if_neg b1]at hb
    by_cases b2:z<y
    .rw[if_pos b2]at hb;omega
    .rw[if_pos (show x<z by omega)];decide
  .rw[if_neg a1]at ha
   by_cases a2:y<x
   .rw[if_pos a2]at ha;omega
   .rw[if_neg a2]at ha
    by_cases b1:y<z
    .rw[if_pos (show x<z by omega)];decide
    .rw[if_neg b1]at hb
     by_cases b2:z<y
     .rw[if_pos b2]at hb;omega
     .rw[if_neg b2]at hb
      rw[if_neg (show ¬x<z by omega),if_neg (show ¬z<x by omega)]
      exact Ad8 xs ys zs (by simpa using h1) (by simpa using h2) ha hb
def flQ(c:Cp):List Int:=(c.e.n:Int)::c.r.l
theorem Aej(c:Cp):(flQ c).length=33:=by simp[flQ,c.r.len]
theorem cmpQ(a b:Cp):cmpCp a b=cmpI (flQ a) (flQ b):=by
 simp only[cmpCp,flQ,cmpI,cmpRt,Int.ofNat_lt]
theorem Af7(a b:Cp):cmpCp b a = - cmpCp a b:=by rw[cmpQ,cmpQ];exact Aek _ _
theorem Af6{a b:Cp}(h:cmpCp a b=0):a=b:=by
 rw[cmpQ]at h
 have:=(Adv _ _ (by rw[Aej,Aej])).1 h
 unfold flQ at this
 injection this with h1 h2
 obtain⟨⟨e,_⟩,r⟩:=a
 obtain⟨⟨e',_⟩,r'⟩:=b
 simp only at h1 h2
 have h3:e=e':=by omega
 subst h3
 rw[Rt.ext' h2]
theorem Aij{a b c:Cp}(h1:cmpCp a b<0)(h2:cmpCp b c<0):cmpCp a c<0:=by
 have h3:cmpCp a c<=0:=by
  rw[cmpQ]at h1 h2 |-
  exact Ad8 _ _ _ (by rw[Aej,Aej]) (by rw[Aej,Aej]) (Int.le_of_lt h1) (Int.le_of_lt h2)
 rcases Int.lt_or_eq_of_le h3 with h|h
 .exact h
 .have:=Af6 h
  subst this
  have:=Af7 a b
  omega
def AscQ(T:List Tbl):Prop:=T.Pairwise fun a b=>cmpCp a.c b.c<0
theorem AlK{T:List Tbl}{c:Cp}(h:¬0<=findT T c):∀x∈T,x.c≠c:=fun x hx e=>by
 rcases Aay (fun t:Tbl=>decide (t.c=c)) T with⟨_,h2⟩|⟨k,hk,e1,_⟩
 .have:=h2 x hx
  rw[e]at this
  simp at this
 .exact h (by unfold findT;rw[e1];omega)
theorem Aib{p:Tbl->Bool}:∀{T:List Tbl} {d:Tbl} {r:List Tbl},T.dropWhile p=d::r->p d=false
 |[],d,r,h=>by cases h
 |x::T,d,r,h=>by
  rw[List.dropWhile_cons]at h
  cases hp:p x with
  |true=>rw[hp]at h;exact Aib (T:=T) h
  |false=>
   rw[hp]at h
   simp only[Bool.false_eq_true,if_false,List.cons.injEq]at h
   rw[<-h.1];exact hp
theorem AnY{T:List Tbl}{t:Tbl}(hs:AscQ T)(hn:∀x∈T,x.c≠t.c):AscQ (addT T t):=by
 have hcat:T.takeWhile (fun x=>decide (cmpCp x.c t.c<0))++T.dropWhile (fun x=>decide (cmpCp x.c t.c<0))=T:=List.takeWhile_append_dropWhile
 have hs':=hs
 unfold AscQ at hs'
 rw[<-hcat,List.pairwise_append]at hs'
 obtain⟨h1,h2,h3⟩:=hs'
 have ht:∀x∈T.takeWhile (fun x=>decide (cmpCp x.c t.c<0)),cmpCp x.c t.c<0:=fun x hx=>by
  have:=List.all_eq_true.1 (List.all_takeWhile (p:=fun x:Tbl=>decide (cmpCp x.c t.c<0)) (l:=T)) x hx
  simpa using this
 have hd:∀y∈T.dropWhile (fun x=>decide (cmpCp x.c t.c<0)),cmpCp t.c y.c<0:=fun y hy=>by
  cases hdw:T.dropWhile (fun x=>decide (cmpCp x.c t.c<0))with
  |nil=>rw[hdw]at hy;cases hy
  |cons d r=>
   have hp:=Aib hdw
   have hdT:d∈T:=by rw[<-hcat,hdw];simp
   have h4:cmpCp t.c d.c<0:=by
    have h5:¬cmpCp d.c t.c<0:=by simpa using hp
    have h6:=Af7 d.c t.c
    have h7:cmpCp d.c t.c≠0:=fun e=>hn d hdT (Af6 e)
    omega
   rw[hdw]at hy h2
   rcases List.mem_cons.1 hy with rfl|hy
   .exact h4
   .exact Aij h4 ((List.pairwise_cons.1 h2).1 y hy)
 unfold AscQ addT
 rw[List.pairwise_append]
 refine⟨h1,List.pairwise_cons.2 ⟨hd,h2⟩,fun x hx y hy=>?_⟩
 rcases List.mem_cons.1 hy with rfl|hy
 .exact ht x hx
 .exact h3 x hx y hy
end
section
open Go.RowKit Old
theorem AcJ{N:List Nod}(h:Lk (upsN N)):Ahead N:=fun k hk=>by
 rcases Ady h hk with⟨_,e⟩|⟨u,hu,e⟩<;>rw[e]<;>omega
theorem ArL{N:List Nod}(h:Lk (upsN N)):∀n∈N,-1<=n.up:=fun n hn=>by
 obtain⟨i,hi,rfl⟩:=List.getElem_of_mem hn
 rcases Ady h hi with⟨_,e⟩|⟨u,hu,e⟩<;>rw[e]<;>omega
theorem An3{N:List Nod}{u m:Nat}(hu:u<N.length)(hm:m<N.length)(e:N[m].up=(u:Int)):m∈kids N (u:Int):=by
 unfold kids
 rw[AcO (by omega) (by omega),if_pos rfl]
 unfold kidsTo
 rw[List.mem_filter]
 exact⟨List.mem_range.2 hm,by rw[nget hm];simpa using e⟩
end
namespace Old
open Go.RowKit
def UN(n:Nat)(xs:List Int)(w:World)(e:Ending)(w':World):Prop:=
 ∃(g c:Nat),e=.returned (.slice (some ⟨g,0,none⟩) n c)/\U64 xs/\xs.length=n/\w.heap.size<=g/\(n<=c/\c<=maxLen)/\(∃post,Has w' g (ints .u64 xs++post))/\Below w.heap.size w w'
theorem Apa{w:World}{base:Nat}{e:TypeId}{A:Option Addr}{n c size:Nat}{xs:List Value}(h:w.ownsRow base e size (.slice A n c) n xs)(hn:0<n):n<=c/\c<=maxLen:=by
 rcases h.2 with⟨h1,h2⟩|⟨g,cap,cur,h1,h2,h3,h4,h5,h6,h7⟩
 .omega
 .injection h1 with e1 e2 e3
  subst e3
  exact⟨h4,h5⟩
theorem Aeq(A0 A1:Option Addr)(n c0 c1:Nat)(ns:List Nd)(ws:List Int)(hw:U64 ws)(hk:Lk (Old.ups ns))(hn:n<=4096)(hn0:0<n)(w:World)(h0:NRow w A0 n ns)(h1:URow w A1 n ws) :
  Calls Tryz.prog 28 #[.agg #[.slice A0 n c0],.slice A1 n c1] w (UN n (subR (Old.ups ns) n ws) w):=by
 obtain⟨g1,p1,rfl,hg1⟩:=h1.2 hn0
 have LW:=bx h1.1
 have LN:=bx h0.1
 have HW:=bx hw
 have HK:=bx hk
 have N0:=bx h0
 have HN0:=bx hn0
 clear h1 hw hk h0
 have EA:=bx (ext_alloc w (.cells #[.slice A0 n c0] 46))
 have XB:=bx (Has.new w [.slice A0 n c0] 46)
 have G1:=bx (hg1.below EA.o hg1.lt)
 clear hg1
 go_enter Tryz.func28,Tryz.ntmps28
 go_wp2_with fail
 refine(ApA g1 n c1 _ _ _ G1.o (by rw[ints_len,LW.o,Nat.mul_one]) (one_ints _ _) hn hn0).mono ?_;rintro e w2 ⟨Au,cu,rfl,ho,hb⟩
 have CAP:=bx (Apa ho hn0)
 obtain⟨go,co,po,hv,hgo,hs⟩:=own_block ho hn0
 injection hv with hv1 hv2 hv3
 subst hv1;subst hv3
 have O1:=bx hs
 have HGO:Bx (w.heap.size<go):=⟨Nat.lt_of_lt_of_le XB.o.lt hgo⟩
 have E2:=bx (EA.o.trans (hb.mono EA.o.size))
 have XD:=bx (XB.o.below hb XB.o.lt)
 have hcb:w2.cell? ⟨w.heap.size,0,none⟩=some (.slice A0 n c0):=XD.o.cell 0
 clear hs hb ho hgo XB EA G1
 go_wp2_with fail
 go_loopw [6] (fun i wr=>∃(k:Nat) (o:List Int),0<k/\k<=n/\i=.int .i64 ((k:Int)-1)/\subR (ups ns) n ws=subR (ups ns) k o/\o.length=n/\U64 o/\Has wr go (ints .u64 o++po)/\Has wr w.heap.size [.slice A0 n c0]/\Below w.heap.size w wr) (fun i _=>(intOf i+1).toNat)
 case atStart=>exact⟨n,ws,HN0.o,Nat.le_refl _,rfl,rfl,LW.o,HW.o,O1.o,XD.o,E2.o⟩
 case round=>
  obtain⟨k,o,hk0,hk,rfl,hrun,hol,ho64,hxo,hxb,hbel⟩:=hrel
  have RUN:=bx hrun
  have OL:=bx hol
  have O64:=bx ho64
  have YO:=bx hxo
  have YB:=bx hxb
  have BY:=bx hbel
  clear hrun hol ho64 hxo hxb hbel O1 XD E2 hcb
  obtain⟨i,rfl⟩:∃i,k=i+1:=⟨k-1,by omega⟩
  have hii:((i+1:Nat):Int)-1=(i:Int):=by omega
  rw[hii]
  clear hii
  rcases Nat.eq_zero_or_pos i with h0|h0
  .subst h0
   have hng:¬((0:Nat):Int)>0:=by omega
   have RUN0:Bx (subR (ups ns) n ws=o):=⟨RUN.o⟩
   go_wp2_with fail
   go_ret
   exact⟨go,_,rfl,by rw[RUN0.o];exact O64.o,by rw[RUN0.o];exact OL.o,Nat.le_of_lt HGO.o,CAP.o,⟨po,by rw[RUN0.o];exact YO.o⟩,BY.o⟩
  .have hi1:(i:Int)>0:=by omega
   have hin:i<n:=by omega
   have hini:(i:Int)<(n:Int):=by omega
   have hi0:(0:Int)<=(i:Int):=by omega
   have hnl:i<ns.length:=by rw[LN.o];exact hin
   obtain⟨u,hui,hue⟩:=HK.o.up (i:=i) (by rw[Aeg];exact hnl) h0
   have RUN1:=bx (RUN.o.trans (Ahr h0 hue))
   rw[Aos hnl]at hue
   have hun:u<n:=by omega
   have huni:(u:Int)<(n:Int):=by omega
   have hu0:(0:Int)<=(u:Int):=by omega
   have hio:Bx (i<o.length):=⟨by rw[OL.o];exact hin⟩
   have huo:Bx (u<o.length):=⟨by rw[OL.o];exact hun⟩
   obtain⟨g0,p0,hA0,hg0⟩:=(N0.o.below BY.o).2.2 HN0.o
   subst hA0
   have CU:=bx (fun w5 (h5:Cls wr.drew.heap.size wr.drew w5)=>Ag8 ((hg0.drew.below h5.o hg0.lt).nodeCell N0.o.2.1 i hnl 238 _ (Aqg (N0.o.2.1 _ (List.getElem_mem hnl)))))
   rw[hue]at CU
   have CN:=bx (fun w5 (h5:Cls wr.drew.heap.size wr.drew w5)=>Adr ((YB.o.drew.below h5.o YB.o.lt).cell 0))
   have CX:=bx (fun w5 (h5:Cls wr.drew.heap.size wr.drew w5)=>Ajn (URow.cell (YO.o.drew.below h5.o YO.o.lt) huo.o))
   have CY:=bx (fun w5 (h5:Cls wr.drew.heap.size wr.drew w5)=>Ajn (URow.cell (YO.o.drew.below h5.o YO.o.lt) hio.o))
   have hc5:wr.drew.cell? ⟨go,u,none⟩=some (.int .u64 (o.getD u 0)):=URow.cell YO.o huo.o
   have hf5:wr.drew.frozen? ⟨go,u,none⟩=false:=YO.o.frozen u
   have SETU:=bx (fun v=>ApN o po u v huo.o)
   have SET64:=bx (fun v hv=>O64.o.set (v:=v) hv u)
   have hwr:IntKind.u64.wrap (o.getD u 0+o.getD i 0)=(o.getD u 0+o.getD i 0)%18446744073709551616:=rfl
   generalize o.getD u 0=x at *
   generalize o.getD i 0=y at *
   have SS:Bx (0<=(x+y)%18446744073709551616/\(x+y)%18446744073709551616<18446744073709551616):=⟨by omega⟩
   generalize(x+y)%18446744073709551616=s at *
   have S9:=bx (YO.o.drew.set u (.int .u64 s))
   rw[SETU.o]at S9
   have X9:Bx (Has (wr.drew.setCell ⟨go,u,none⟩ (.int .u64 s)) w.heap.size [.slice (some ⟨g0,0,none⟩) n c0]):=⟨YB.o.drew.far (Nat.ne_of_lt HGO.o) _⟩
   have B9:Bx (Below w.heap.size w (wr.drew.setCell ⟨go,u,none⟩ (.int .u64 s))):=⟨BY.o.drew.grown (AbI wr.drew go u (.int .u64 s)) BY.o.drew.size (fun k hk=>by cases hk;exact Nat.le_of_lt HGO.o)⟩
   have SO:=bx (SET64.o s SS.o)
   clear hg0 hue SETU SET64 YO YB BY RUN
   go_wp2_with fail
   refine Acg 15 (.steps [(0,0),(0,1),(0,2),(0,3),(0,4),(0,5),(0,6),(0,7),(0,8),(0,9),(0,10),(0,11),(0,12),(0,13),(0,14)] .leaf) (by kernel_rfl) (by kernel_rfl) ?_
   simp only[MixT,MT.steps,stepAt,List.getD_cons_zero,List.getD_cons_succ,List.drop_succ_cons,List.drop_zero]
   repeat(first|(with_reducible refine wpQuiet_nil ?_)|(first|go_big_quiet_skip|(go_big_quiet_want;first|(first|((with_reducible refine quiet_cell 44 _ rfl _ _ ?_ CN.o ?_);rfl;go_big_quiet_on;(simp only[Act.put,List.setIfInBounds_toArray,List.set_cons_succ,List.set_cons_zero]))|((with_reducible refine quiet_cell 3 _ rfl _ _ ?_ CU.o ?_);rfl;go_big_quiet_on;(simp only[Act.put,List.setIfInBounds_toArray,List.set_cons_succ,List.set_cons_zero]))|((with_reducible refine quiet_cell 23 _ rfl _ _ ?_ CX.o ?_);rfl;go_big_quiet_on;(simp only[Act.put,List.setIfInBounds_toArray,List.set_cons_succ,List.set_cons_zero]))|((with_reducible refine quiet_cell 23 _ rfl _ _ ?_ CY.o ?_);rfl;go_big_quiet_on;(simp only[Act.put,List.setIfInBounds_toArray,List.set_cons_succ,List.set_cons_zero])))|(go_big_quiet_op;first|go_big_quiet_on|((with_reducible refine⟨_,fun _ _=>rfl,?_⟩);go_big_quiet_on)))))
   clear CU CN CX CY
   generalize wr.drew=w9 at *
   go_wp2_with fail
   refine NoPanic.normal ?_
   clear hc5 hf5
   generalize w9.setCell ⟨go,u,none⟩ (.int .u64 s)=w10 at *
   go_wp2_with fail
   go_roundw
   case rel=>exact⟨i,o.set u s,h0,by omega,rfl,RUN1.o,by rw[List.length_set,OL.o],SO.o,S9.o,X9.o,B9.o⟩
   case measure=>simp[intOf]
end Old
section
open Go.RowKit
theorem MM.perm{Γ0 Γ:Gam}{w0 w:World}{L L':List Ent}{R:List RowE}(M:MM Γ0 w0 Γ w L R)(h:L'.Perm L):MM Γ0 w0 Γ w L' R:=
 ⟨M.ext,fun p hp=>M.has p (h.mem_iff.1 hp),fun p hp=>M.len p (h.mem_iff.1 hp),fun p hp=>M.off p (h.mem_iff.1 hp),fun p hp=>M.lo p (h.mem_iff.1 hp),(h.pairwise_iff (fun e e'=>e e'.symm)).2 M.nd,M.rows,fun r hr g hg=>⟨(M.roff r hr g hg).1,fun p hp=>(M.roff r hr g hg).2 p (h.mem_iff.1 hp)⟩,M.rnd⟩
theorem MM.swap{Γ0 Γ:Gam}{w0 w:World}{a b:Ent}{L:List Ent}{R:List RowE}(M:MM Γ0 w0 Γ w (a::b::L) R):MM Γ0 w0 Γ w (b::a::L) R:=M.perm (List.Perm.swap ..)
theorem MM.drop2{Γ0 Γ:Gam}{w0 w:World}{a b:Ent}{L:List Ent}{R:List RowE}(M:MM Γ0 w0 Γ w (a::b::L) R):MM Γ0 w0 Γ w (a::L) R:=M.swap.tail
theorem AeJ{α:Type}(f:α->List Value)(x:α)(n:Nat):reps n (f x)=(List.replicate n x).flatMap f:=by
 unfold reps
 induction n with
 |zero=>rfl
 |succ n ih=>rw[List.replicate_succ,List.replicate_succ,List.flatMap_cons,List.flatMap_cons,ih];rfl
section
variable {w:World}{Pg:Program}{op:Oper}{a:Act}
theorem Ad7{t e:TypeId}(hu:Pg.underlying t=some (.slice e))(ps:List (Nat × Value))(cs:List Value){n:Nat}{parts:Array (Nat × Operand)}(ho:op.op=.buildSlice t n parts)
  (hps:parts.toList.map (fun x=>(x.1,a.eval x.2))=ps) (hf:Pg.builtSlice e n ps=some cs.toArray):(execOp a.eval op).run Pg w=.ok (.value (.slice (some ⟨w.heap.size,0,none⟩) n n)) (w.alloc (.cells cs.toArray e)):=by
 have e1:(parts.map fun(i,x)=>(i,a.eval x))=ps.toArray:=Array.ext' (by rw[Array.toList_map];exact hps)
 have hr:=run_sliceTo (P:=Pg) w t e n ps.toArray _ hu hf
 unfold execOp
 simp only[ho,e1,hr,Sem.run_bind,Result.andThen_ok]
 rfl
end
open Go.RowKit
theorem Aes{base:Nat}{e:TypeId}{size g n cap:Nat}:∀(vs mid pre post:List Value) (w:World),mid.length=vs.length->w.ownsRow base e size (.slice (some ⟨g,0,none⟩) n cap) n (pre++mid++post) ->
  (w.setCells g pre.length vs).ownsRow base e size (.slice (some ⟨g,0,none⟩) n cap) n (pre++vs++post)/\w.grownBy (w.setCells g pre.length vs) (some g)
 |[],mid,pre,post,w,hl,h=>by
  have:mid = []:=List.eq_nil_of_length_eq_zero (by simpa using hl)
  subst this
  exact⟨h,World.grownBy.refl _ _⟩
 |v::vs,[],pre,post,w,hl,h=>by simp at hl
 |v::vs,m::mid,pre,post,w,hl,h=>by
  obtain⟨h1,h2⟩:=h.stored pre.length v
  have e1:(pre++(m::mid)++post).set pre.length v=(pre ++ [v])++mid++post:=by simp
  rw[e1]at h1
  obtain⟨q1,q2⟩:=Aes vs mid (pre ++ [v]) post _ (by simpa using hl) h1
  have e2:(pre ++ [v]).length=pre.length+1:=by simp
  rw[e2]at q1 q2
  refine⟨?_,Afo h2 q2⟩
  have q1':(w.setCells g pre.length (v::vs)).ownsRow base e size (.slice (some ⟨g,0,none⟩) n cap) n (pre ++ [v]++vs++post):=q1
  simpa using q1'
section
variable {Γ0 Γ:Gam}{w0 w:World}{L:List Ent}{R:List RowE}{Pg:Program}{ops:Array Oper}{rest:List Oper}{op:Oper}{a:Act}{Q:Exit->Act->World->Prop}
theorem MM.rowHd{A:Option Addr}{c:Nat}{e:TypeId}{size n:Nat}{xs:List Value}(M:MM Γ0 w0 Γ w L (⟨.slice A n c,e,size,n,xs⟩::R))(hn:0<n):∃g,A=some ⟨g,0,none⟩/\n<=c/\c<=maxLen:=by
 have hr:=M.rows _ (List.mem_cons_self ..)
 rcases hr.2 with⟨h1,h2⟩|⟨g,cap,cur,h1,h2,h3,h4,h5,h6,h7⟩
 .simp only at h2;omega
 .simp only at h1
  injection h1 with e1 e2 e3
  subst e1 e3
  exact⟨g,rfl,h4,h5⟩
theorem MM.rowCells{g c:Nat}{e:TypeId}{size n:Nat}{pre mid post:List Value}(M:MM Γ0 w0 Γ w L (⟨.slice (some ⟨g,0,none⟩) n c,e,size,n,pre++mid++post⟩::R)):w.rangeAt g pre.length mid:=fun j u hu=>by
 have hr:w.ownsRow w0.heap.size e size (.slice (some ⟨g,0,none⟩) n c) n (pre++mid++post):=M.rows _ (List.mem_cons_self ..)
 have hj:j<mid.length:=(List.getElem?_eq_some_iff.1 hu).1
 have hl:(pre++mid++post).length=n*size:=hr.1
 simp only[List.length_append]at hl
 rw[hr.cellAt (pre.length+j) (by omega),List.append_assoc,List.getElem?_append_right (by omega),Nat.add_sub_cancel_left,List.getElem?_append_left hj]
 exact hu
theorem MM.rowPut{g c:Nat}{e:TypeId}{size n:Nat}{pre mid post vs:List Value}(M:MM Γ0 w0 Γ w L (⟨.slice (some ⟨g,0,none⟩) n c,e,size,n,pre++mid++post⟩::R))(hl:mid.length=vs.length) :
  w.there g pre.length vs.length/\MM Γ0 w0 Γ (w.setCells g pre.length vs) L (⟨.slice (some ⟨g,0,none⟩) n c,e,size,n,pre++vs++post⟩::R):=by
 have hr:w.ownsRow w0.heap.size e size (.slice (some ⟨g,0,none⟩) n c) n (pre++mid++post):=M.rows _ (List.mem_cons_self ..)
 have hlen:(pre++mid++post).length=n*size:=hr.1
 simp only[List.length_append]at hlen
 obtain⟨q1,q2⟩:=Aes vs mid pre post w hl hr
 refine⟨fun j hj=>?_,M.rowGrow (v':=.slice (some ⟨g,0,none⟩) n c) (by simpa [Value.ownBlock]using q2) q1 (.inl rfl)⟩
 rw[hr.cellAt (pre.length+j) (by omega),hr.frozenAt,List.getElem?_eq_getElem (by simp;omega)]
 exact⟨rfl,rfl⟩
theorem MM.rowGet{α:Type}{f:α->List Value}{k:Nat}{g c:Nat}{e:TypeId}{n:Nat}{X:List α}(M:MM Γ0 w0 Γ w L (⟨.slice (some ⟨g,0,none⟩) n c,e,k,n,X.flatMap f⟩::R))(hk:∀x∈X,(f x).length=k)(i:Nat)(hi:i<X.length) :
  w.rangeAt g (i*k) (f X[i]):=by
 rw[Abv X i hi]at M
 have:=M.rowCells
 rw[Ac6 X i hi hk]at this
 exact this
theorem MM.rowSet{α:Type}{f:α->List Value}{k:Nat}{g c:Nat}{e:TypeId}{n:Nat}{X:List α}(M:MM Γ0 w0 Γ w L (⟨.slice (some ⟨g,0,none⟩) n c,e,k,n,X.flatMap f⟩::R))(hk:∀x∈X,(f x).length=k)(i:Nat)(hi:i<X.length)(v:α)(hv:(f v).length=k) :
  w.there g (i*k) k/\MM Γ0 w0 Γ (w.setCells g (i*k) (f v)) L (⟨.slice (some ⟨g,0,none⟩) n c,e,k,n,(X.set i v).flatMap f⟩::R):=by
 rw[Abv X i hi]at M
 obtain⟨q1,q2⟩:=M.rowPut (vs:=f v) (by rw[hv,hk _ (List.getElem_mem hi)])
 rw[Ac6 X i hi hk,<-AhR X i v hi]at q2
 rw[Ac6 X i hi hk,hv]at q1
 exact⟨q1,q2⟩
theorem AhG{α:Type}{f:α->List Value}{k:Nat}{g c:Nat}{e:TypeId}{n:Nat}{X:List α}(M:MM Γ0 w0 Γ w L (⟨.slice (some ⟨g,0,none⟩) n c,e,k,n,X.flatMap f⟩::R))(hk:∀x∈X,(f x).length=k)(i:Nat)(hi:i<X.length)(v:α)(hv:(f v).length=k)(h1:One (f v)){opsA:Array Oper}{ts:Array Value}{K:Act->World->Prop}{E:Prop}{ty:TypeId}{x y:Operand}(ho:op.op=.store ty x y)(hx:a.eval x=.pointer (some ⟨g,i*k,none⟩))
  (hy:a.eval y=.agg (f v).toArray) (rt:RowT Pg ty k) (hw:Region.wanted op (yielded opsA ts)=true) (h:∀w',MM Γ0 w0 Γ w' L (⟨.slice (some ⟨g,0,none⟩) n c,e,k,n,(X.set i v).flatMap f⟩::R)->K (a.put op.dst undef) w'):if Region.wanted op (yielded opsA ts)=true then op.wp Pg a w K Q else E:=by
 rw[if_pos hw]
 obtain⟨d,hu,hd⟩:=rt.ex
 obtain⟨q1,q2⟩:=M.rowSet hk i hi v hv
 exact wp_store_mid ty x y ho g (i*k) (f v).toArray hx hy (by simpa [hv]using q1) (by rw[List.size_toArray,hv];exact AbS hu rt.n) (all_oneCell_toArray h1) (by simpa using h _ q2)
end
end
section
open Go.RowKit Old
theorem Amq(Γ:Gam)(t:Int)(b:U)(w:World)(ok:Ok Γ w)(ht:t<=9223372036854775807) :
  Calls Tryz.prog 199 #[.int .i64 t,.int .u64 (b.n:Int)] w fun e w'=>∃d:U,e=.returned (.int .u64 (d.n:Int))/\d.n<=b.n/\Ext Γ w Γ w':=by
 have M:=bx (MM.start ok)
 have HT:=bx ht
 have hbl:=b.lt
 clear ok
 rcases Nat.eq_zero_or_pos b.n with h0|h0
 .have hb0:((b.n:Int)==0)=true:=by rw[h0];rfl
  clear h0
  go_enter Tryz.func199,Tryz.ntmps199
  (go_wp2_with (fail))
  go_ret
  exact⟨u0,rfl,Nat.zero_le _,M.o.ext⟩
 .have hb0:((b.n:Int)==0)=false:=beq_eq_false_iff_ne.2 (by omega)
  go_enter Tryz.func199,Tryz.ntmps199
  (go_wp2_with (fail))
  go_loopw [5,6] (fun s5 j wr=>∃(d:U) (i:Int),1<=i/\j=.int .i64 i/\s5=.int .u64 (d.n:Int)/\1<=d.n/\d.n<=b.n/\MM Γ w Γ wr [] []) (fun _ j _=>(t-intOf j).toNat)
  case atStart=>exact⟨⟨1,by decide⟩,1,by omega,rfl,rfl,Nat.le_refl _,h0,M.o⟩
  case round=>
   obtain⟨d,i,hi,rfl,rfl,hd1,hd2,hM⟩:=hrel
   clear M
   have M:=bx hM
   clear hM
   by_cases hit:i<t
   .have hw:IntKind.u64.wrap ((b.n:Int)-(d.n:Int))=(b.n:Int)-(d.n:Int):=AdS (by omega) (by omega)
    have hi63:i+1<=9223372036854775807:=by have:=HT.o;omega
    by_cases hc:b.n-d.n<=d.n
    .have hc':(b.n:Int)-(d.n:Int)<=(d.n:Int):=by omega
     (go_wp2_with (fail))
     go_ret
     exact⟨b,rfl,Nat.le_refl _,M.o.ext⟩
    .have hc':¬(b.n:Int)-(d.n:Int)<=(d.n:Int):=by omega
     have hw2:IntKind.u64.wrap (2*(d.n:Int))=2*(d.n:Int):=AdS (by omega) (by omega)
     have D2:=bx (show 2*d.n<=b.n by omega)
     have HI:=bx hit
     (go_wp2_with (fail))
     go_roundw
     case rel=>exact⟨⟨2*d.n,by have:=D2.o;omega⟩,i+1,by omega,by go_num,by simp,by show 1<=2*d.n;omega,D2.o,M.o⟩
     case measure=>have:=HI.o;simp[intOf]<;>omega
   .have hd:=bx hd2
    (go_wp2_with (fail))
    go_ret
    exact⟨d,rfl,hd.o,M.o.ext⟩
end
end Go.Proofs.YtpaihpeoiliioaaGreat
