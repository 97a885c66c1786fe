/- Texts joined: what the walks of this claim stand on (part 53). -/
import Derived.Test.YtmgeheaneohldaaGreatJK22
set_option linter.all false
set_option maxRecDepth 20000
set_option maxHeartbeats 40000000
namespace Go.Proofs.YtmgeheaneohldaaGreat
open Go.RowKit Old
section
variable {N:List Nod}{W:List U}{L:List Bool}
def dsc(N:List Nod)(W:List U)(L:List Bool)(i:Int):Int:=if bestI N W L i<0 then -1 else headF N W L N.length i
theorem Aep(hk:Lk (upsN N)){u:Nat}(hu:u<N.length){c:Int}(hb:bestI N W L (u:Int)=c)(h0:0<=c):headF N W L N.length (u:Int)=headF N W L N.length c:=by
 have e1:headF N W L (N.length+1) (u:Int)=if bestI N W L (u:Int)<0 then(u:Int)else headF N W L N.length (bestI N W L (u:Int)):=rfl
 rw[hb,if_neg (by omega)]at e1
 rw[<-e1,AcB,if_pos (Ah1 hk hu)]
theorem Aeq(hk:Lk (upsN N)){u:Nat}(hu:u<N.length)(hb:bestI N W L (u:Int)<0):headF N W L N.length (u:Int)=(u:Int):=AgJ hk hu (f:=0) hb
theorem AgQ(hk:Lk (upsN N)){u:Nat}(hu:u<N.length):dsc N W L (u:Int)<0↔bestI N W L (u:Int)<0:=by
 unfold dsc
 by_cases h:bestI N W L (u:Int)<0
 .rw[if_pos h];exact⟨fun _=>h,fun _=>by decide⟩
 .rw[if_neg h]
  obtain⟨m,_,e,_⟩:=Aeb (W:=W) (L:=L) hk hu ⟨N.length,rfl⟩
  rw[e]
  exact⟨fun h'=>by omega,fun h'=>absurd h' h⟩
theorem Aow(hk:Lk (upsN N)){u c:Nat}(hu:u<N.length)(hb:bestI N W L (u:Int)=(c:Int)):dsc N W L (u:Int)=if 0<=dsc N W L (c:Int)then dsc N W L (c:Int)else(c:Int):=by
 obtain⟨hc,_⟩:=Ab3 (Abb hb).1
 have e:dsc N W L (u:Int)=headF N W L N.length (c:Int):=by
  unfold dsc;rw[if_neg (by omega),Aep hk hu hb (by omega)]
 rw[e]
 by_cases h:bestI N W L (c:Int)<0
 .have:=(AgQ (W:=W) (L:=L) hk hc).2 h
  rw[if_neg (by omega),Aeq hk hc h]
 .have h2:¬dsc N W L (c:Int)<0:=fun h'=>h ((AgQ (W:=W) (L:=L) hk hc).1 h')
  rw[if_pos (by omega)]
  unfold dsc;rw[if_neg h]
theorem AqS(hd:∀i j (hi:i<N.length) (hj:j<N.length),N[i].b.root=N[j].b.root->i=j){l l':List Nat}(hl:∀x∈l,x<N.length)(hm:∀x,x∈l↔x∈l'){b b':Int}(h:BstOf N W L l b)(h':BstOf N W L l' b'):b=b':=by
 rcases h with⟨h1,h2⟩|⟨k,h1,h2,h3,h4⟩
 .rcases h' with⟨h1',_⟩|⟨k',h1',h2',h3',_⟩
  .rw[h1,h1']
  .rw[h2 k' ((hm k').2 h2')]at h3';cases h3'
 .rcases h' with⟨_,h2'⟩|⟨k',h1',h2',h3',h4'⟩
  .rw[h2' k ((hm k).1 h2)]at h3;cases h3
  .have a:=h4 k' ((hm k').2 h2') h3'
   have b:=h4' k ((hm k).1 h2) h3
   have p:=hl k h2
   have q:=hl k' ((hm k').2 h2')
   have e:k=k':=by
    rcases a with a|⟨a,a2⟩
    .rcases b with b|⟨b,_⟩<;>omega
    .rcases b with b|⟨b,b2⟩
     .omega
     .rw[AeQ]at b2
      have:=Agc (show cmpRt (N.getD k' n0).b.root (N.getD k n0).b.root=0 by omega)
      rw[nget p,nget q]at this
      exact(hd k' k q p this).symm
   rw[h1,h1',e]
def lst(n:Nat)(f:Nat->Int):List Int:=(List.range n).map f
theorem Aal(n:Nat)(f:Nat->Int):(lst n f).length=n:=by simp[lst]
theorem Aro{n:Nat}{f:Nat->Int}{i:Nat}(h:i<n):(lst n f).getD i 0=f i:=by simp[lst,List.getD,h]
theorem Ab2{n:Nat}{f:Nat->Int}{i:Nat}(v:Int):(lst n f).set i v=lst n fun k=>if k=i then v else f k:=by
 apply List.ext_getElem
 .simp[lst]
 .intro k h1 h2
  rw[List.getElem_set]
  simp only[lst,List.getElem_map,List.getElem_range]
  by_cases h:i=k
  .rw[if_pos h,if_pos h.symm]
  .rw[if_neg h,if_neg (fun h'=>h h'.symm)]
theorem AbC{n:Nat}{f g:Nat->Int}(h:∀k,k<n->f k=g k):lst n f=lst n g:=by
 unfold lst
 exact List.map_congr_left fun k hk=>h k (List.mem_range.1 hk)
theorem AqB(n:Nat)(v:Int):List.replicate n v=lst n fun _=>v:=by apply List.ext_getElem<;>simp[lst]
def bstL(N:List Nod)(W:List U)(L:List Bool):List Int:=lst N.length fun k=>bestI N W L (k:Int)
def dscL(N:List Nod)(W:List U)(L:List Bool):List Int:=lst N.length fun k=>dsc N W L (k:Int)
def rbF(N:List Nod)(W:List U)(L:List Bool)(m k:Nat):Int:=if m<=k then bestI N W L (k:Int)else 0
def rdF(N:List Nod)(W:List U)(L:List Bool)(m k:Nat):Int:=if m<=k then dsc N W L (k:Int)else 0
theorem Ap1(m:Nat):(lst N.length (rbF N W L (m+1))).set m (bestI N W L (m:Int))=lst N.length (rbF N W L m):=by
 rw[Ab2]
 refine AbC fun k _=>?_
 unfold rbF
 by_cases h:k=m
 .subst h;rw[if_pos rfl,if_pos (Nat.le_refl _)]
 .rw[if_neg h]
  by_cases h2:m+1<=k
  .rw[if_pos h2,if_pos (by omega)]
  .rw[if_neg h2,if_neg (by omega)]
theorem Ap0(m:Nat):(lst N.length (rdF N W L (m+1))).set m (dsc N W L (m:Int))=lst N.length (rdF N W L m):=by
 rw[Ab2]
 refine AbC fun k _=>?_
 unfold rdF
 by_cases h:k=m
 .subst h;rw[if_pos rfl,if_pos (Nat.le_refl _)]
 .rw[if_neg h]
  by_cases h2:m+1<=k
  .rw[if_pos h2,if_pos (by omega)]
  .rw[if_neg h2,if_neg (by omega)]
structure PbI(N:List Nod)(W:List U)(L:List Bool)(i:Nat)(C D:Nat->Int):Prop where
 c:∀u,u<N.length->BstOf N W L ((kids N (u:Int)).filter fun k=>decide (i<k)) (C u)
 d:∀u,u<N.length->D u=if C u<0 then -1 else headF N W L N.length (C u)
theorem PbI.start(hk:Lk (upsN N)):PbI N W L (N.length-1) (fun _=>-1) (fun _=>-1):=by
 refine⟨fun u hu=>.inl ⟨rfl,fun x hx=>?_⟩,fun u _=>by rw[if_pos (by decide)]⟩
 obtain⟨h1,h2⟩:=List.mem_filter.1 hx
 obtain⟨h3,_⟩:=Ab3 h1
 have:=of_decide_eq_true h2
 omega
theorem PbI.full(hk:Lk (upsN N))(hd:∀i j (hi:i<N.length) (hj:j<N.length),N[i].b.root=N[j].b.root->i=j){i:Nat}{C D:Nat->Int}(h:PbI N W L i C D){u:Nat}(hu:u<N.length)(hi:i<=u):C u=bestI N W L (u:Int):=by
 refine AqS hd (l':=kids N (u:Int)) (fun x hx=>(Ab3 (List.mem_filter.1 hx).1).1) (fun x=>?_) (h.c u hu) (AdK _)
 rw[List.mem_filter]
 refine⟨fun h=>h.1,fun h=>⟨h,decide_eq_true ?_⟩⟩
 obtain⟨h1,h2⟩:=Ab3 h
 have:=AbH hk x h1
 omega
theorem PbI.step(hk:Lk (upsN N))(hd:∀i j (hi:i<N.length) (hj:j<N.length),N[i].b.root=N[j].b.root->i=j){i u:Nat}{C D:Nat->Int}(h:PbI N W L i C D)(hi:i<N.length)(h0:0<i)(hu:N[i].up=(u:Int)) :
  PbI N W L (i-1) (fun k=>if k=u then betB N W L (C u) i else C k) (fun k=>if k=u then(if betB N W L (C u) i=C u then D u else if 0<=D i then D i else(i:Int))else D k):=by
 have hui:u<i:=by have:=AbH hk i hi;omega
 have hun:u<N.length:=by omega
 have mem:∀v:Nat,v<N.length->∀x,x∈(kids N (v:Int)).filter (fun k=>decide (i-1<k))↔x∈(kids N (v:Int)).filter (fun k=>decide (i<k))++(if v=u then [i]else []):=by
  intro v hv x
  rw[List.mem_append,List.mem_filter,List.mem_filter,decide_eq_true_iff,decide_eq_true_iff]
  constructor
  .rintro⟨h1,h2⟩
   by_cases hx:i<x
   .exact .inl ⟨h1,hx⟩
   .have hxi:x=i:=by omega
    subst hxi
    obtain⟨_,h4⟩:=Ab3 h1
    have:v=u:=by omega
    rw[if_pos this];exact .inr (by simp)
  .rintro(⟨h1,h2⟩|h1)
   .exact⟨h1,by omega⟩
   .by_cases hvu:v=u
    .rw[if_pos hvu]at h1
     obtain rfl:=List.mem_singleton.1 h1
     subst hvu
     exact⟨Akh hun hi hu,by omega⟩
    .rw[if_neg hvu]at h1;cases h1
 have tr:∀(l l':List Nat) (b:Int),(∀x,x∈l↔x∈l')->BstOf N W L l b->BstOf N W L l' b:=by
  intro l l' b hm hb
  rcases hb with⟨a1,a2⟩|⟨k,a1,a2,a3,a4⟩
  .exact .inl ⟨a1,fun x hx=>a2 x ((hm x).2 hx)⟩
  .exact .inr ⟨k,a1,(hm k).1 a2,a3,fun x hx=>a4 x ((hm x).2 hx)⟩
 constructor
 .intro v hv
  have hm:=mem v hv
  by_cases hvu:v=u
  .subst hvu
   simp only[if_true]at hm |-
   exact tr _ _ _ (fun x=>(hm x).symm) (AlK (h.c v hv))
  .simp only[if_neg hvu,List.append_nil]at hm |-
   exact tr _ _ _ (fun x=>(hm x).symm) (h.c v hv)
 .intro v hv
  by_cases hvu:v=u
  .subst hvu
   simp only[if_true]
   by_cases hb:betB N W L (C v) i=C v
   .rw[if_pos hb,hb];exact h.d v hv
   .have e:betB N W L (C v) i=(i:Int):=by
     unfold betB at hb |-
     split
     .rfl
     .rename_i hn;rw[if_neg hn]at hb;exact absurd rfl hb
    rw[if_neg hb,e,if_neg (show ¬(i:Int)<0 by omega)]
    have hc:=h.full hk hd hi (Nat.le_refl _)
    rw[h.d i hi,hc]
    by_cases hbi:bestI N W L (i:Int)<0
    .rw[if_pos hbi,if_neg (by decide),Aeq hk hi hbi]
    .rw[if_neg hbi]
     rcases Acu (N:=N) (W:=W) (L:=L) (i:=(i:Int))with h1|⟨c,h1⟩
     .exact absurd h1 hbi
     .obtain⟨hcn,_⟩:=Ab3 (Abb h1).1
      obtain⟨m,_,em,_⟩:=Aeb (W:=W) (L:=L) hk hcn ⟨N.length,rfl⟩
      rw[Aep hk hi h1 (by omega),h1,em,if_pos (by omega)]
  .simp only[if_neg hvu]
   exact h.d v hv
theorem PbI.done(hk:Lk (upsN N))(hd:∀i j (hi:i<N.length) (hj:j<N.length),N[i].b.root=N[j].b.root->i=j){C D:Nat->Int}(h:PbI N W L 0 C D){u:Nat}(hu:u<N.length):C u=bestI N W L (u:Int)/\D u=dsc N W L (u:Int):=by
 have hc:=h.full hk hd hu (Nat.zero_le _)
 refine⟨hc,?_⟩
 rw[h.d u hu,hc]
 unfold dsc
 by_cases hb:bestI N W L (u:Int)<0
 .rw[if_pos hb,if_pos hb]
 .rw[if_neg hb,if_neg hb]
  exact(Aep hk hu rfl (by omega)).symm
end
end Go.Proofs.YtmgeheaneohldaaGreat
