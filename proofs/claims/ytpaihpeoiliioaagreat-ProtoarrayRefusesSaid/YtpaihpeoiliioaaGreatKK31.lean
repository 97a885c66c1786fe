/- Texts joined: what the walks of this claim stand on (part 31). -/
import Derived.Test.YtpaihpeoiliioaaGreatKK22
set_option linter.all false
set_option maxRecDepth 20000
set_option maxHeartbeats 40000000
namespace Go.Proofs.YtpaihpeoiliioaaGreat
open Go.RowKit Old
section
variable {N:List Nod}{W:List U}{L:List Bool}
def dsc(N:List Nod)(W:List U)(L:List Bool)(i:Int):Int:=if bestI N W L i<0 then -1 else headF N W L N.length i
theorem Afm(hk:Lk (upsN N)){u:Nat}(hu:u<N.length){c:Int}(hb:bestI N W L (u:Int)=c)(h0:0<=c):headF N W L N.length (u:Int)=headF N W L N.length c:=by
 have e1:headF N W L (N.length+1) (u:Int)=if bestI N W L (u:Int)<0 then(u:Int)else headF N W L N.length (bestI N W L (u:Int)):=rfl
 rw[hb,if_neg (by omega)]at e1
 rw[<-e1,AcL,if_pos (AkE hk hu)]
theorem Afn(hk:Lk (upsN N)){u:Nat}(hu:u<N.length)(hb:bestI N W L (u:Int)<0):headF N W L N.length (u:Int)=(u:Int):=AiT hk hu (f:=0) hb
theorem Aft(hk:Lk (upsN N)){u:Nat}(hu:u<N.length):dsc N W L (u:Int)<0↔bestI N W L (u:Int)<0:=by
 unfold dsc
 by_cases h:bestI N W L (u:Int)<0
 .rw[if_pos h];exact⟨fun _=>h,fun _=>by decide⟩
 .rw[if_neg h]
  obtain⟨m,_,e,_⟩:=Ahs (W:=W) (L:=L) hk hu ⟨N.length,rfl⟩
  rw[e]
  exact⟨fun h'=>by omega,fun h'=>absurd h' h⟩
theorem AoO(hk:Lk (upsN N)){u c:Nat}(hu:u<N.length)(hb:bestI N W L (u:Int)=(c:Int)):dsc N W L (u:Int)=if 0<=dsc N W L (c:Int)then dsc N W L (c:Int)else(c:Int):=by
 obtain⟨hc,_⟩:=Adb (AdO hb).1
 have e:dsc N W L (u:Int)=headF N W L N.length (c:Int):=by
  unfold dsc;rw[if_neg (by omega),Afm hk hu hb (by omega)]
 rw[e]
 by_cases h:bestI N W L (c:Int)<0
 .have:=(Aft (W:=W) (L:=L) hk hc).2 h
  rw[if_neg (by omega),Afn hk hc h]
 .have h2:¬dsc N W L (c:Int)<0:=fun h'=>h ((Aft (W:=W) (L:=L) hk hc).1 h')
  rw[if_pos (by omega)]
  unfold dsc;rw[if_neg h]
theorem Ap2(hd:∀i j (hi:i<N.length) (hj:j<N.length),N[i].b.root=N[j].b.root->i=j){l l':List Nat}(hl:∀x∈l,x<N.length)(hm:∀x,x∈l↔x∈l'){b b':Int}(h:BstOf N W L l b)(h':BstOf N W L l' b'):b=b':=by
 rcases h with⟨h1,h2⟩|⟨k,h1,h2,h3,h4⟩
 .rcases h' with⟨h1',_⟩|⟨k',h1',h2',h3',_⟩
  .rw[h1,h1']
  .rw[h2 k' ((hm k').2 h2')]at h3';cases h3'
 .rcases h' with⟨_,h2'⟩|⟨k',h1',h2',h3',h4'⟩
  .rw[h2' k ((hm k).1 h2)]at h3;cases h3
  .have a:=h4 k' ((hm k').2 h2') h3'
   have b:=h4' k ((hm k).1 h2) h3
   have p:=hl k h2
   have q:=hl k' ((hm k').2 h2')
   have e:k=k':=by
    rcases a with a|⟨a,a2⟩
    .rcases b with b|⟨b,_⟩<;>omega
    .rcases b with b|⟨b,b2⟩
     .omega
     .rw[Af5]at b2
      have:=AjX (show cmpRt (N.getD k' n0).b.root (N.getD k n0).b.root=0 by omega)
      rw[nget p,nget q]at this
      exact(hd k' k q p this).symm
   rw[h1,h1',e]
def lst(n:Nat)(f:Nat->Int):List Int:=(List.range n).map f
theorem Aao(n:Nat)(f:Nat->Int):(lst n f).length=n:=by simp[lst]
theorem ArY{n:Nat}{f:Nat->Int}{i:Nat}(h:i<n):(lst n f).getD i 0=f i:=by simp[lst,List.getD,h]
theorem Abo{n:Nat}{f:Nat->Int}{i:Nat}(v:Int):(lst n f).set i v=lst n fun k=>if k=i then v else f k:=by
 apply List.ext_getElem
 .simp[lst]
 .intro k h1 h2
  rw[List.getElem_set]
  simp only[lst,List.getElem_map,List.getElem_range]
  by_cases h:i=k
  .rw[if_pos h,if_pos h.symm]
  .rw[if_neg h,if_neg (fun h'=>h h'.symm)]
theorem AbG{n:Nat}{f g:Nat->Int}(h:∀k,k<n->f k=g k):lst n f=lst n g:=by
 unfold lst
 exact List.map_congr_left fun k hk=>h k (List.mem_range.1 hk)
theorem Apk(n:Nat)(v:Int):List.replicate n v=lst n fun _=>v:=by apply List.ext_getElem<;>simp[lst]
def bstL(N:List Nod)(W:List U)(L:List Bool):List Int:=lst N.length fun k=>bestI N W L (k:Int)
def dscL(N:List Nod)(W:List U)(L:List Bool):List Int:=lst N.length fun k=>dsc N W L (k:Int)
def rbF(N:List Nod)(W:List U)(L:List Bool)(m k:Nat):Int:=if m<=k then bestI N W L (k:Int)else 0
def rdF(N:List Nod)(W:List U)(L:List Bool)(m k:Nat):Int:=if m<=k then dsc N W L (k:Int)else 0
theorem ApX(m:Nat):(lst N.length (rbF N W L (m+1))).set m (bestI N W L (m:Int))=lst N.length (rbF N W L m):=by
 rw[Abo]
 refine AbG fun k _=>?_
 unfold rbF
 by_cases h:k=m
 .subst h;rw[if_pos rfl,if_pos (Nat.le_refl _)]
 .rw[if_neg h]
  by_cases h2:m+1<=k
  .rw[if_pos h2,if_pos (by omega)]
  .rw[if_neg h2,if_neg (by omega)]
theorem ApW(m:Nat):(lst N.length (rdF N W L (m+1))).set m (dsc N W L (m:Int))=lst N.length (rdF N W L m):=by
 rw[Abo]
 refine AbG fun k _=>?_
 unfold rdF
 by_cases h:k=m
 .subst h;rw[if_pos rfl,if_pos (Nat.le_refl _)]
 .rw[if_neg h]
  by_cases h2:m+1<=k
  .rw[if_pos h2,if_pos (by omega)]
  .rw[if_neg h2,if_neg (by omega)]
structure PbI(N:List Nod)(W:List U)(L:List Bool)(i:Nat)(C D:Nat->Int):Prop where
 c:∀u,u<N.length->BstOf N W L ((kids N (u:Int)).filter fun k=>decide (i<k)) (C u)
 d:∀u,u<N.length->D u=if C u<0 then -1 else headF N W L N.length (C u)
theorem PbI.start(hk:Lk (upsN N)):PbI N W L (N.length-1) (fun _=>-1) (fun _=>-1):=by
 refine⟨fun u hu=>.inl ⟨rfl,fun x hx=>?_⟩,fun u _=>by rw[if_pos (by decide)]⟩
 obtain⟨h1,h2⟩:=List.mem_filter.1 hx
 obtain⟨h3,_⟩:=Adb h1
 have:=of_decide_eq_true h2
 omega
theorem PbI.full(hk:Lk (upsN N))(hd:∀i j (hi:i<N.length) (hj:j<N.length),N[i].b.root=N[j].b.root->i=j){i:Nat}{C D:Nat->Int}(h:PbI N W L i C D){u:Nat}(hu:u<N.length)(hi:i<=u):C u=bestI N W L (u:Int):=by
 refine Ap2 hd (l':=kids N (u:Int)) (fun x hx=>(Adb (List.mem_filter.1 hx).1).1) (fun x=>?_) (h.c u hu) (Aec _)
 rw[List.mem_filter]
 refine⟨fun h=>h.1,fun h=>⟨h,decide_eq_true ?_⟩⟩
 obtain⟨h1,h2⟩:=Adb h
 have:=AcJ hk x h1
 omega
theorem PbI.step(hk:Lk (upsN N))(hd:∀i j (hi:i<N.length) (hj:j<N.length),N[i].b.root=N[j].b.root->i=j){i u:Nat}{C D:Nat->Int}(h:PbI N W L i C D)(hi:i<N.length)(h0:0<i)(hu:N[i].up=(u:Int)) :
  PbI N W L (i-1) (fun k=>if k=u then betB N W L (C u) i else C k) (fun k=>if k=u then(if betB N W L (C u) i=C u then D u else if 0<=D i then D i else(i:Int))else D k):=by
 have hui:u<i:=by have:=AcJ hk i hi;omega
 have hun:u<N.length:=by omega
 have mem:∀v:Nat,v<N.length->∀x,x∈(kids N (v:Int)).filter (fun k=>decide (i-1<k))↔x∈(kids N (v:Int)).filter (fun k=>decide (i<k))++(if v=u then [i]else []):=by
  intro v hv x
  rw[List.mem_append,List.mem_filter,List.mem_filter,decide_eq_true_iff,decide_eq_true_iff]
  constructor
  .rintro⟨h1,h2⟩
   by_cases hx:i<x
   .exact .inl ⟨h1,hx⟩
   .have hxi:x=i:=by omega
    subst hxi
    obtain⟨_,h4⟩:=Adb h1
    have:v=u:=by omega
    rw[if_pos this];exact .inr (by simp)
  .rintro(⟨h1,h2⟩|h1)
   .exact⟨h1,by omega⟩
   .by_cases hvu:v=u
    .rw[if_pos hvu]at h1
     obtain rfl:=List.mem_singleton.1 h1
     subst hvu
     exact⟨An3 hun hi hu,by omega⟩
    .rw[if_neg hvu]at h1;cases h1
 have tr:∀(l l':List Nat) (b:Int),(∀x,x∈l↔x∈l')->BstOf N W L l b->BstOf N W L l' b:=by
  intro l l' b hm hb
  rcases hb with⟨a1,a2⟩|⟨k,a1,a2,a3,a4⟩
  .exact .inl ⟨a1,fun x hx=>a2 x ((hm x).2 hx)⟩
  .exact .inr ⟨k,a1,(hm k).1 a2,a3,fun x hx=>a4 x ((hm x).2 hx)⟩
 constructor
 .intro v hv
  have hm:=mem v hv
  by_cases hvu:v=u
  .subst hvu
   simp only[if_true]at hm |-
   exact tr _ _ _ (fun x=>(hm x).symm) (Akj (h.c v hv))
  .simp only[if_neg hvu,List.append_nil]at hm |-
   exact tr _ _ _ (fun x=>(hm x).symm) (h.c v hv)
 .intro v hv
  by_cases hvu:v=u
  .subst hvu
   simp only[if_true]
   by_cases hb:betB N W L (C v) i=C v
   .rw[if_pos hb,hb];exact h.d v hv
   .have e:betB N W L (C v) i=(i:Int):=by
     unfold betB at hb |-
     split
     .rfl
     .rename_i hn;rw[if_neg hn]at hb;exact absurd rfl hb
    rw[if_neg hb,e,if_neg (show ¬(i:Int)<0 by omega)]
    have hc:=h.full hk hd hi (Nat.le_refl _)
    rw[h.d i hi,hc]
    by_cases hbi:bestI N W L (i:Int)<0
    .rw[if_pos hbi,if_neg (by decide),Afn hk hi hbi]
    .rw[if_neg hbi]
     rcases AfJ (N:=N) (W:=W) (L:=L) (i:=(i:Int))with h1|⟨c,h1⟩
     .exact absurd h1 hbi
     .obtain⟨hcn,_⟩:=Adb (AdO h1).1
      obtain⟨m,_,em,_⟩:=Ahs (W:=W) (L:=L) hk hcn ⟨N.length,rfl⟩
      rw[Afm hk hi h1 (by omega),h1,em,if_pos (by omega)]
  .simp only[if_neg hvu]
   exact h.d v hv
theorem PbI.done(hk:Lk (upsN N))(hd:∀i j (hi:i<N.length) (hj:j<N.length),N[i].b.root=N[j].b.root->i=j){C D:Nat->Int}(h:PbI N W L 0 C D){u:Nat}(hu:u<N.length):C u=bestI N W L (u:Int)/\D u=dsc N W L (u:Int):=by
 have hc:=h.full hk hd hu (Nat.zero_le _)
 refine⟨hc,?_⟩
 rw[h.d u hu,hc]
 unfold dsc
 by_cases hb:bestI N W L (u:Int)<0
 .rw[if_pos hb,if_pos hb]
 .rw[if_neg hb,if_neg hb]
  exact(Afm hk hu rfl (by omega)).symm
end
open Go.RowKit Old
def sameR(N K:List Nod):Bool:=decide (N.length<=K.length/\∀i (hi:i<N.length),N[i].b.root=(K.getD i Go.Proofs.YtpaihpeoiliioaaGreat.n0).b.root)
theorem Aiq(Γ:Gam)(g b0:Nat)(b d di we:Value)(st:Int)(y x:Sl)(N K:List Nod)(hy:NG Γ y N)(hx:NG Γ x K)(hle:N.length<=K.length)(hb:N.length<=4096)(w:World)(ok:Ok Γ w)
  (hF:Fz Γ g b0 [[b],[d],[y.v],[di],[we],[.int .i64 st]] [1,1,1,1,1,1]) :
  Calls Tryz.prog 35 #[.pointer (some ⟨g,b0,none⟩),.agg [x.v].toArray] w fun e w'=>e=.returned (.bool (sameR N K))/\Ext Γ w Γ w':=by
 have M:=bx (MM.start ok)
 have HN:=bx hy
 have HK:=bx hx
 have LE:=bx hle
 have HB:=bx hb
 have TR:Bx ((∀i (hi:i<N.length),i<N.length->N[i].b.root=(K.getD i Go.Proofs.YtpaihpeoiliioaaGreat.n0).b.root)->sameR N K=true):=⟨fun h=>decide_eq_true ⟨hle,fun i hi=>h i hi hi⟩⟩
 have FA:Bx (∀(k:Nat) (hk:k<N.length),¬N[k].b.root=(K.getD k Go.Proofs.YtpaihpeoiliioaaGreat.n0).b.root->sameR N K=false):=⟨fun k hk h=>decide_eq_false (fun hh=>h (hh.2 k hk))⟩
 obtain⟨A,n,c⟩:=y
 obtain rfl:n=N.length:=hy.n
 obtain⟨A2,n2,c2⟩:=x
 obtain rfl:n2=K.length:=hx.n
 have F:Bx (Fz Γ g b0 [[b],[d],[.slice A N.length c],[di],[we],[.int .i64 st]] [1,1,1,1,1,1]):=⟨hF⟩
 clear ok hy hx hF hle hb
 generalize sameR N K=res at *
 change Calls Tryz.prog _ #[_,.agg (fl [[.slice A2 K.length c2]]).toArray] _ _
 obtain⟨nn,hnn⟩:∃n,N.length=n:=⟨_,rfl⟩
 obtain⟨kk,hkk⟩:∃n,K.length=n:=⟨_,rfl⟩
 have HNN:=bx hnn
 have HKK:=bx hkk
 rw[hnn]at F
 rw[hkk]
 have hnb:nn<=4096:=by rw[<-hnn];exact HB.o
 clear hnn hkk
 go_enter Tryz.func35,Tryz.ntmps35
 go_upto_region 1 with(first|go_skip|((refine zBXd ?_;clear M;intro w' g M);(obtain⟨g3,hg0⟩:∃y,y=g:=⟨_,rfl⟩);subst hg0)|refine zLAd ?_)
 (go_wp2_with (first|go_skip|((first|refine zBXd ?_|refine zALd (ztNo) ?_);clear M;intro w' g M)|refine zRFd F ?_|refine zLAd ?_))
 go_loopw [13] (fun j wr=>∃k:Nat,k<=nn/\j=.int .i64 (k:Int)/\(∀i (hi:i<N.length),i<k->N[i].b.root=(K.getD i Go.Proofs.YtpaihpeoiliioaaGreat.n0).b.root)/\MM Γ w Γ wr [⟨g3,[[.slice A2 kk c2]],[1]⟩] []) (fun j _=>nn-(intOf j).toNat)
 case atStart=>exact⟨0,Nat.zero_le _,rfl,fun i _ h=>absurd h (Nat.not_lt_zero _),M.o⟩
 case round=>
  obtain⟨k,hk,rfl,hno,hM⟩:=hrel
  clear M
  have M:=bx hM
  have NO:=bx hno
  clear hM hno
  by_cases hkn:k<nn
  .have hkl:k<N.length:=by rw[HNN.o];exact hkn
   have hkl2:k<K.length:=Nat.lt_of_lt_of_le hkl LE.o
   have hki:(k:Int)<(nn:Int):=by omega
   have hki2:(k:Int)<(kk:Int):=by have:=HKK.o;omega
   have hk0:0<=(k:Int):=by omega
   obtain⟨gt,hA,hf⟩:=SlR.fz (f:=noP) (k:=240) HN.o AaK rfl k hkl
   obtain⟨gu,hA2,hf2⟩:=SlR.fz (f:=noP) (k:=240) HK.o AaK rfl k hkl2
   obtain rfl:A=some ⟨gt,0,none⟩:=by injection hA
   obtain rfl:A2=some ⟨gu,0,none⟩:=by injection hA2
   have F1:=bx hf
   have F2:=bx hf2
   have HS:=bx (Aa5 K[k].b.root N[k].b.root)
   have HG:Bx ((K.getD k Go.Proofs.YtpaihpeoiliioaaGreat.n0)=K[k]):=⟨nget hkl2⟩
   have FA':=bx (fun(h:¬K[k].b.root=N[k].b.root)=>FA.o k hkl (by rw[HG.o];exact fun e=>h e.symm))
   have NXT:=bx (fun(e:K[k].b.root=N[k].b.root) i (hi:i<N.length) (hik:i<k+1)=>(Nat.lt_or_eq_of_le (Nat.le_of_lt_succ hik)).elim (NO.o i hi) (fun h=>by subst h;rw[HG.o];exact e.symm))
   have HKN:=bx hkn
   clear hf hf2 FA HG
   generalize N[k]=y at *
   generalize K[k]=z at *
   have hq:=HS.o
   by_cases he:z.b.root=y.b.root
   .rw[decide_eq_true he]at hq
    have NX:=bx (NXT.o he)
    clear NXT FA' he
    (go_wp2_with (first|go_skip|((first|refine zBXd ?_|refine zALd (ztNo) ?_);clear M;intro w' g M)|refine zRFd F1 ?_|(refine zSSd M 0 (noP y) (noP y) (AaK _) (AbX _) ?_;clear M;intro w' M)|refine zLAd ?_))
    refine zRG ?_;(repeat(first|go_big_quiet_skip|(go_big_quiet_want;first|((first|refine zQFd F2 ?_|refine zQAd ?_);go_big_quiet_on;refine zNM ?_)|(refine zQO ?_;go_big_quiet_on))));(refine zQN ?_;clear M;intro w4 M)
    go_wp2_with fail
    go_roundw
    case rel=>exact⟨k+1,by omega,by go_num,NX.o,M.o.tail⟩
    case measure=>have:=HKN.o;simp[intOf];omega
   .rw[decide_eq_false he]at hq
    have HD:=bx (FA'.o he)
    clear NXT FA' he
    (go_wp2_with (first|go_skip|((first|refine zBXd ?_|refine zALd (ztNo) ?_);clear M;intro w' g M)|refine zRFd F1 ?_|(refine zSSd M 0 (noP y) (noP y) (AaK _) (AbX _) ?_;clear M;intro w' M)|refine zLAd ?_))
    refine zRG ?_;(repeat(first|go_big_quiet_skip|(go_big_quiet_want;first|((first|refine zQFd F2 ?_|refine zQAd ?_);go_big_quiet_on;refine zNM ?_)|(refine zQO ?_;go_big_quiet_on))));(refine zQN ?_;clear M;intro w4 M)
    go_wp2_with fail
    go_ret
    exact⟨by rw[HD.o];rfl,M.o.ext⟩
  .obtain rfl:k=nn:=by omega
   have HD:=bx (TR.o fun i hi _=>NO.o i hi (by rw[<-HNN.o];exact hi))
   clear NO TR FA
   (go_wp2_with (first|go_skip|((first|refine zBXd ?_|refine zALd (ztNo) ?_);clear M;intro w' g M)|fail|refine zLAd ?_))
   go_ret
   exact⟨by rw[HD.o];rfl,M.o.ext⟩
theorem Ap9(Γ:Gam)(g b0:Nat)(b d di we:Value)(st:Int)(y:Sl)(v:Sls)(s:Sto)(N:List Nod)(hy:NG Γ y N)(hx:NG Γ v.nodes s.nodes)(hb:N.length<=4096)(h:¬(sameR N s.nodes=true/\s.nodes.length=N.length))(w:World)(ok:Ok Γ w)
  (hF:Fz Γ g b0 [[b],[d],[y.v],[di],[we],[.int .i64 st]] [1,1,1,1,1,1]) :
  Calls Tryz.prog 11 #[.pointer (some ⟨g,b0,none⟩),.agg (fl (stP s v)).toArray] w fun e w'=>e=.returned (.int .i64 2)/\Ext Γ w Γ w':=by
 have M:=bx (MM.start ok)
 have AS:=bx (fun hle w ok=>Aiq Γ g b0 b d di we st y v.nodes N s.nodes hy hx hle hb w ok hF)
 have HM:=bx hx.n
 have NO:=bx h
 obtain⟨A,n,c⟩:=y
 obtain rfl:n=N.length:=hy.n
 have F:Bx (Fz Γ g b0 [[b],[d],[.slice A N.length c],[di],[we],[.int .i64 st]] [1,1,1,1,1,1]):=⟨hF⟩
 clear ok hy hx hF hb h
 obtain⟨nn,hnn⟩:∃n,N.length=n:=⟨_,rfl⟩
 have HNN:=bx hnn
 rw[hnn]at F AS
 clear hnn
 by_cases hl:s.nodes.length=nn
 .have SF:Bx (sameR N s.nodes=false):=⟨by cases e:sameR N s.nodes with
   |false=>rfl
   |true=>exact absurd ⟨e,hl.trans HNN.o.symm⟩ NO.o⟩
  have AS':=bx (AS.o (by rw[hl];exact Nat.le_refl _))
  rw[SF.o]at AS'
  have hqb:((v.nodes.n:Int) != (nn:Int))=false:=by simp;have:=HM.o;omega
  have hqe:(v.nodes.n:Int)=(nn:Int):=by have:=HM.o;omega
  clear AS NO hl
  go_enter Tryz.func11,Tryz.ntmps11
  go_upto_region 1 with(first|go_skip|((refine zBXd ?_;clear M;intro w' g M);(obtain⟨g3,hg0⟩:∃y,y=g:=⟨_,rfl⟩);subst hg0)|refine zLAd ?_)
  have C0:=bx (clsE M.o fun w' ok'=>AS'.o w' ok')
  refine zRG ?_;(repeat(first|go_big_quiet_skip|(go_big_quiet_want;first|((first|refine zQFd F ?_|refine zQC (AaJ C0.o) Tryz.func35 ?_|refine zQAd ?_);go_big_quiet_on;refine zNM ?_)|(refine zQO ?_;go_big_quiet_on))));(refine zQN ?_;clear M;intro w4 M)
  clear C0 AS'
  go_wp2_with fail
  go_ret
  exact⟨rfl,M.o.ext⟩
 .have hqb:((v.nodes.n:Int) != (nn:Int))=true:=by simp;have:=HM.o;omega
  have hqe:¬(v.nodes.n:Int)=(nn:Int):=by have:=HM.o;omega
  clear AS NO hl
  go_enter Tryz.func11,Tryz.ntmps11
  go_upto_region 1 with(first|go_skip|((refine zBXd ?_;clear M;intro w' g M);(obtain⟨g3,hg0⟩:∃y,y=g:=⟨_,rfl⟩);subst hg0)|refine zLAd ?_)
  refine zRG ?_;(repeat(first|go_big_quiet_skip|(go_big_quiet_want;first|((first|refine zQFd F ?_|refine zQAd ?_);go_big_quiet_on;refine zNM ?_)|(refine zQO ?_;go_big_quiet_on))));(refine zQN ?_;clear M;intro w4 M)
  go_wp2_with fail
  go_ret
  exact⟨rfl,M.o.ext⟩
theorem AnZ(Γ:Gam)(g b0:Nat)(b d di we:Value)(st:Int)(y:Sl)(v:Sls)(s:Sto)(N:List Nod)(hy:NG Γ y N)(hx:NG Γ v.nodes s.nodes)(hb:N.length<=4096)(h:¬(sameR N s.nodes=true/\s.nodes.length=N.length+1))(w:World)(ok:Ok Γ w)
  (hF:Fz Γ g b0 [[b],[d],[y.v],[di],[we],[.int .i64 st]] [1,1,1,1,1,1]) :
  Calls Tryz.prog 12 #[.pointer (some ⟨g,b0,none⟩),.agg (fl (stP s v)).toArray] w fun e w'=>e=.returned (.int .i64 2)/\Ext Γ w Γ w':=by
 have NB:=bx hb
 have M:=bx (MM.start ok)
 have AS:=bx (fun hle w ok=>Aiq Γ g b0 b d di we st y v.nodes N s.nodes hy hx hle hb w ok hF)
 have HM:=bx hx.n
 have NO:=bx h
 obtain⟨A,n,c⟩:=y
 obtain rfl:n=N.length:=hy.n
 have F:Bx (Fz Γ g b0 [[b],[d],[.slice A N.length c],[di],[we],[.int .i64 st]] [1,1,1,1,1,1]):=⟨hF⟩
 clear ok hy hx hF hb h
 obtain⟨nn,hnn⟩:∃n,N.length=n:=⟨_,rfl⟩
 have HNN:=bx hnn
 rw[hnn]at F AS
 clear hnn
 have hnb:nn<=4096:=by rw[<-HNN.o];exact NB.o
 have hwk:IntKind.i64.wrap ((nn:Int)+1)=(nn:Int)+1:=IntWalk.i64_in _ (by omega)
 clear NB hnb
 by_cases hl:s.nodes.length=nn+1
 .have SF:Bx (sameR N s.nodes=false):=⟨by cases e:sameR N s.nodes with
   |false=>rfl
   |true=>exact absurd ⟨e,by rw[HNN.o];exact hl⟩ NO.o⟩
  have AS':=bx (AS.o (by rw[hl];exact Nat.le_succ _))
  rw[SF.o]at AS'
  have hqb:((v.nodes.n:Int) != (nn:Int)+1)=false:=by simp;have:=HM.o;omega
  have hqe:(v.nodes.n:Int)=(nn:Int)+1:=by have:=HM.o;omega
  clear AS NO hl
  go_enter Tryz.func12,Tryz.ntmps12
  go_upto_region 1 with(first|go_skip|((refine zBXd ?_;clear M;intro w' g M);(obtain⟨g3,hg0⟩:∃y,y=g:=⟨_,rfl⟩);subst hg0)|refine zLAd ?_)
  have C0:=bx (clsE M.o fun w' ok'=>AS'.o w' ok')
  refine zRG ?_;(repeat(first|go_big_quiet_skip|(go_big_quiet_want;first|((first|refine zQFd F ?_|refine zQC (AaJ C0.o) Tryz.func35 ?_|refine zQAd ?_);go_big_quiet_on;refine zNM ?_)|(refine zQO ?_;go_big_quiet_on))));(refine zQN ?_;clear M;intro w4 M)
  clear C0 AS'
  go_wp2_with fail
  go_ret
  exact⟨rfl,M.o.ext⟩
 .have hqb:((v.nodes.n:Int) != (nn:Int)+1)=true:=by simp;have:=HM.o;omega
  have hqe:¬(v.nodes.n:Int)=(nn:Int)+1:=by have:=HM.o;omega
  clear AS NO hl
  go_enter Tryz.func12,Tryz.ntmps12
  go_upto_region 1 with(first|go_skip|((refine zBXd ?_;clear M;intro w' g M);(obtain⟨g3,hg0⟩:∃y,y=g:=⟨_,rfl⟩);subst hg0)|refine zLAd ?_)
  refine zRG ?_;(repeat(first|go_big_quiet_skip|(go_big_quiet_want;first|((first|refine zQFd F ?_|refine zQAd ?_);go_big_quiet_on;refine zNM ?_)|(refine zQO ?_;go_big_quiet_on))));(refine zQN ?_;clear M;intro w4 M)
  go_wp2_with fail
  go_ret
  exact⟨rfl,M.o.ext⟩
theorem Anv{Γ0 Γ:Gam}{w0 w:World}{g:Nat}{P:List (List Value)}{ls:List Nat}{L:List Ent}{R:List RowE}(_:MM Γ0 w0 Γ w (⟨g,P,ls⟩::L) R):∃y,y=g:=⟨g,rfl⟩
theorem AmF(Γ:Gam)(y x:Sl)(N K:List Nod)(hy:NG Γ y N)(hx:NG Γ x K)(hb:N.length<=4096)(w:World)(ok:Ok Γ w) :
  Calls Tryz.prog 9 #[.agg [y.v].toArray,.agg [x.v].toArray,.int .i64 (N.length:Int)] w fun e w'=>e=.returned (.bool (sameR N K))/\Ext Γ w Γ w':=by
 have M:=bx (MM.start ok)
 have HN:=bx hy
 have HK:=bx hx
 have HB:=bx hb
 have TR:Bx (N.length<=K.length->(∀i (hi:i<N.length),i<N.length->N[i].b.root=(K.getD i Go.Proofs.YtpaihpeoiliioaaGreat.n0).b.root)->sameR N K=true):=⟨fun hle h=>decide_eq_true ⟨hle,fun i hi=>h i hi hi⟩⟩
 have FA:Bx (∀(k:Nat) (hk:k<N.length),¬N[k].b.root=(K.getD k Go.Proofs.YtpaihpeoiliioaaGreat.n0).b.root->sameR N K=false):=⟨fun k hk h=>decide_eq_false (fun hh=>h (hh.2 k hk))⟩
 have FL:Bx (¬N.length<=K.length->sameR N K=false):=⟨fun h=>decide_eq_false (fun hh=>h hh.1)⟩
 obtain⟨A,n,c⟩:=y
 obtain rfl:n=N.length:=hy.n
 obtain⟨A2,n2,c2⟩:=x
 obtain rfl:n2=K.length:=hx.n
 clear ok hy hx hb
 generalize sameR N K=res at *
 change Calls Tryz.prog _ #[.agg (fl [[.slice A N.length c]]).toArray,.agg (fl [[.slice A2 K.length c2]]).toArray,_] _ _
 obtain⟨nn,hnn⟩:∃n,N.length=n:=⟨_,rfl⟩
 obtain⟨kk,hkk⟩:∃n,K.length=n:=⟨_,rfl⟩
 have HNN:=bx hnn
 have HKK:=bx hkk
 rw[hnn,hkk]
 have hnb:nn<=4096:=by rw[<-hnn];exact HB.o
 clear hnn hkk
 by_cases hle:nn<=kk
 .have TR':=bx (TR.o (by rw[HNN.o,HKK.o];exact hle))
  have hd:decide ((nn:Int)<(nn:Int))=false:=decide_eq_false (Int.lt_irrefl _)
  have hd2:decide ((kk:Int)<(nn:Int))=false:=decide_eq_false (by omega)
  have hd3:decide (kk<nn)=false:=decide_eq_false (by omega)
  have hll:(nn:Int)<=(nn:Int):=Int.le_refl _
  have hlk:(nn:Int)<=(kk:Int):=by omega
  clear FL TR
  go_enter Tryz.func9,Tryz.ntmps9
  go_upto_region 1 with(first|go_skip|(refine zBXd ?_;clear M;intro w' g M)|refine zLAd ?_)
  (obtain⟨g4,hg0⟩:=Anv M.o);subst hg0;(obtain⟨g3,hg1⟩:=Anv M.o.tail);subst hg1
  (go_wp2_with (first|go_skip|((first|refine zBXd ?_|refine zALd (ztNo) ?_);clear M;intro w' g M)|fail|refine zLAd ?_))
  go_loopw [7] (fun j wr=>∃k:Nat,k<=nn/\j=.int .i64 (k:Int)/\(∀i (hi:i<N.length),i<k->N[i].b.root=(K.getD i Go.Proofs.YtpaihpeoiliioaaGreat.n0).b.root)/\MM Γ w Γ wr [⟨g4,[[.slice A2 kk c2]],[1]⟩,⟨g3,[[.slice A nn c]],[1]⟩] []) (fun j _=>nn-(intOf j).toNat)
  case atStart=>exact⟨0,Nat.zero_le _,rfl,fun i _ h=>absurd h (Nat.not_lt_zero _),M.o⟩
  case round=>
   obtain⟨k,hk,rfl,hno,hM⟩:=hrel
   clear M
   have M:=bx hM
   have NO:=bx hno
   clear hM hno
   by_cases hkn:k<nn
   .have hkl:k<N.length:=by rw[HNN.o];exact hkn
    have hkl2:k<K.length:=by rw[HKK.o];omega
    have hki:(k:Int)<(nn:Int):=by omega
    have hki2:(k:Int)<(kk:Int):=by omega
    have hk0:0<=(k:Int):=by omega
    obtain⟨gt,hA,hf⟩:=SlR.fz (f:=noP) (k:=240) HN.o AaK rfl k hkl
    obtain⟨gu,hA2,hf2⟩:=SlR.fz (f:=noP) (k:=240) HK.o AaK rfl k hkl2
    obtain rfl:A=some ⟨gt,0,none⟩:=by injection hA
    obtain rfl:A2=some ⟨gu,0,none⟩:=by injection hA2
    have F1:=bx hf
    have F2:=bx hf2
    have HS:=bx (Aa5 N[k].b.root K[k].b.root)
    have HG:Bx ((K.getD k Go.Proofs.YtpaihpeoiliioaaGreat.n0)=K[k]):=⟨nget hkl2⟩
    have FA':=bx (fun(h:¬N[k].b.root=K[k].b.root)=>FA.o k hkl (by rw[HG.o];exact h))
    have NXT:=bx (fun(e:N[k].b.root=K[k].b.root) i (hi:i<N.length) (hik:i<k+1)=>(Nat.lt_or_eq_of_le (Nat.le_of_lt_succ hik)).elim (NO.o i hi) (fun h=>by subst h;rw[HG.o];exact e))
    have HKN:=bx hkn
    clear hf hf2 FA HG
    generalize N[k]=y at *
    generalize K[k]=z at *
    have hq:=HS.o
    by_cases he:y.b.root=z.b.root
    .rw[decide_eq_true he]at hq
     have NX:=bx (NXT.o he)
     clear NXT FA' he
     (go_wp2_with (first|go_skip|((first|refine zBXd ?_|refine zALd (ztNo) ?_);clear M;intro w' g M)|fail|refine zLAd ?_))
     refine zRG ?_;(repeat(first|go_big_quiet_skip|(go_big_quiet_want;first|((first|refine zQFd F1 ?_|refine zQFd F2 ?_|refine zQAd ?_);go_big_quiet_on;refine zNM ?_)|(refine zQO ?_;go_big_quiet_on))));(refine zQN ?_;clear M;intro w4 M)
     go_wp2_with fail
     go_roundw
     case rel=>exact⟨k+1,by omega,by go_num,NX.o,M.o⟩
     case measure=>have:=HKN.o;simp[intOf];omega
    .rw[decide_eq_false he]at hq
     have HD:=bx (FA'.o he)
     clear NXT FA' he
     (go_wp2_with (first|go_skip|((first|refine zBXd ?_|refine zALd (ztNo) ?_);clear M;intro w' g M)|fail|refine zLAd ?_))
     refine zRG ?_;(repeat(first|go_big_quiet_skip|(go_big_quiet_want;first|((first|refine zQFd F1 ?_|refine zQFd F2 ?_|refine zQAd ?_);go_big_quiet_on;refine zNM ?_)|(refine zQO ?_;go_big_quiet_on))));(refine zQN ?_;clear M;intro w4 M)
     go_wp2_with fail
     go_ret
     exact⟨by rw[HD.o];rfl,M.o.ext⟩
   .obtain rfl:k=nn:=by omega
    have HD:=bx (TR'.o fun i hi _=>NO.o i hi (by rw[<-HNN.o];exact hi))
    clear NO TR' FA
    (go_wp2_with (first|go_skip|((first|refine zBXd ?_|refine zALd (ztNo) ?_);clear M;intro w' g M)|fail|refine zLAd ?_))
    go_ret
    exact⟨by rw[HD.o];rfl,M.o.ext⟩
 .have HD:=bx (FL.o (by rw[HNN.o,HKK.o];exact hle))
  have hd:decide ((nn:Int)<(nn:Int))=false:=decide_eq_false (Int.lt_irrefl _)
  have hd2:decide ((kk:Int)<(nn:Int))=true:=decide_eq_true (by omega)
  have hd3:decide (kk<nn)=true:=decide_eq_true (by omega)
  have hlk:(kk:Int)<(nn:Int):=by omega
  clear FL TR FA
  go_enter Tryz.func9,Tryz.ntmps9
  (go_wp2_with (first|go_skip|((first|refine zBXd ?_|refine zALd (ztNo) ?_);clear M;intro w' g M)|fail|refine zLAd ?_))
  go_ret
  exact⟨by rw[HD.o];rfl,M.o.ext⟩
end Go.Proofs.YtpaihpeoiliioaaGreat
