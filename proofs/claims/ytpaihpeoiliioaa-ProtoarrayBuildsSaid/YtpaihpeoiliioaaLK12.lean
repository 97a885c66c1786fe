/- Texts joined: what the walks of this claim stand on (part 12). -/
import Derived.Test.YtpaihpeoiliioaaLK11
set_option linter.all false
set_option maxRecDepth 20000
set_option maxHeartbeats 40000000
namespace Go.Proofs.Ytpaihpeoiliioaa
open Go.RowKit Old
def toVt(v:Vo):Bool × Int × List Int:=(v.has,(v.e.n:Int),v.r.l)
theorem Ah2(l:List Vo):(l.map toVt).flatMap Old.vc=l.flatMap vox:=by
 rw[List.flatMap_map]
 congr 1
theorem Aiw{Γ:Gam}{x:Sl}{l:List Vo}(h:SlR Γ x l.length (l.flatMap vox)){w:World}(ok:Ok Γ w):Old.VRow w x.A x.n (l.map toVt):=by
 refine⟨by rw[List.length_map,h.n],fun y hy=>?_,fun hn=>?_⟩
 .obtain⟨v,_,rfl⟩:=List.mem_map.1 hy
  exact⟨v.r.len,v.r.bt⟩
 .obtain⟨g,post,e,hg⟩:=h.sl hn
  obtain⟨p2,hh⟩:=ok _ _ hg
  exact⟨g,post++p2,e,by rw[Ah2,<-List.append_assoc];exact hh⟩
theorem Ai7{Γ:Gam}{x:Sl}{l:List Int}(h:SlR Γ x l.length (ints .i64 l)){w:World}(ok:Ok Γ w):Old.GRow w x.A x.n l:=by
 refine⟨h.n.symm,fun hn=>?_⟩
 obtain⟨g,post,e,hg⟩:=h.sl hn
 obtain⟨p2,hh⟩:=ok _ _ hg
 exact⟨g,post++p2,e,by rw[<-List.append_assoc];exact hh⟩
def ub(l:List U):List Int:=l.map fun x=>(x.n:Int)
theorem AgB(l:List U):(ub l).length=l.length:=by simp[ub]
theorem AnQ(l:List U):Old.U64 (ub l):=fun x hx=>by
 obtain⟨u,_,rfl⟩:=List.mem_map.1 hx
 have:=u.lt
 omega
theorem AhU{Γ:Gam}{A:Option Addr}{l:List U}(h:SlG Γ A l.length (us l)){w:World}(ok:Ok Γ w):Old.URow w A l.length (ub l):=by
 refine⟨AgB l,fun hn=>?_⟩
 obtain⟨g,post,e,hg⟩:=h hn
 obtain⟨p2,hh⟩:=ok _ _ hg
 exact⟨g,post++p2,e,by rw[<-List.append_assoc,show ints .u64 (ub l)=us l from(Aec l).symm];exact hh⟩
def toU(x:Int):U:=⟨(x%18446744073709551616).toNat,by omega⟩
theorem Ak4{xs:List Int}(h:Old.U64 xs):us (xs.map toU)=ints .u64 xs:=by
 rw[Aec,List.map_map]
 congr 1
 have:∀x∈xs,((fun u:U=>(u.n:Int)) ∘ toU) x=x:=fun x hx=>by
  have:=h x hx
  simp only[Function.comp_apply,toU]
  omega
 rw[List.map_congr_left this];simp
def WtR(s:Sto)(W:List U):Prop:=∃k,Old.FK (s.nodes.map toNd) s.boost.l k /\
 W=(Old.subL (upsN s.nodes) s.nodes.length (Old.boostV (s.nodes.map toNd) (Old.dirL (s.nodes.map toNd) (s.lat.map toVt) s.eqv (ub s.balj) s.balj.length) s.boost.l (amt (s.c.spe.n:Int) (s.c.bp.n:Int) (Old.sumV (ub s.balj))) k)).map toU
def WtsP(Γ:Gam)(w:World)(s:Sto)(e:Ending)(w':World):Prop:=∃(A:Option Addr) (c:Nat) (Γ':Gam) (W:List U),e=.returned (.slice A s.nodes.length c)/\W.length=s.nodes.length/\WtR s W/\CapOk A s.nodes.length c/\SlG Γ' A s.nodes.length (us W)/\Ext Γ w Γ' w'
def headF(N:List Nod)(W:List U)(L:List Bool):Nat->Int->Int
 |0,i=>i
 |f+1,i=>if bestI N W L i<0 then i else headF N W L f (bestI N W L i)
theorem Af6(N:List Nod)(W:List U)(L:List Bool)(i:Int):bestI N W L i = -1\/∃k,∃hk:k<N.length,N[k].up=i/\bestI N W L i=(k:Int):=by
 rcases Ad4 N W L (kids N i)with h|⟨k,hk,h⟩
 .exact .inl h
 .obtain⟨h1,h2⟩:=Abh hk
  exact .inr ⟨k,h1,h2,h⟩
theorem Agb{N:List Nod}{W:List U}{L:List Bool}:∀(f:Nat) {i:Nat},i<N.length->∃k:Nat,k<N.length/\headF N W L f (i:Int)=(k:Int)
 |0,i,h=>⟨i,h,rfl⟩
 |f+1,i,h=>by
  unfold headF
  rcases Af6 N W L (i:Int)with e|⟨k,hk,_,e⟩
  .rw[e,if_pos (by decide)];exact⟨i,h,rfl⟩
  .rw[e,if_neg (by omega)];exact Agb f hk
def HeadP(Γ:Gam)(w:World)(s:Sto)(e:Ending)(w':World):Prop:=∃W,W.length=s.nodes.length/\WtR s W/\e=.returned (.int .i64 (headF s.nodes W s.lives s.nodes.length (fndI s.nodes s.just.r)))/\Ext Γ w Γ w'
theorem Aht(s:Sto):s.lives.length=s.nodes.length:=by simp[Sto.lives]
theorem Ah5{ns:List Nd}{r:List Int}{k k':Int}(h:Old.FK ns r k)(h':Old.FK ns r k'):k=k':=by
 rcases h with⟨e,h⟩|⟨i,hi,e,h1,h2⟩
 .rcases h' with⟨e',_⟩|⟨i',hi',_,h1',_⟩
  .rw[e,e']
  .exact absurd h1' (h _ (List.getElem_mem hi'))
 .rcases h' with⟨_,h'⟩|⟨i',hi',e',h1',h2'⟩
  .exact absurd h1 (h' _ (List.getElem_mem hi))
  .rcases Nat.lt_trichotomy i i' with hlt|heq|hgt
   .exact absurd h1 (h2' i hlt)
   .rw[e,e',heq]
   .exact absurd h1' (h2 i' hgt)
theorem Ah6(N:List Nod)(r:Rt):Old.FK (N.map toNd) r.l (fndI N r):=by
 rcases AaV (fun n:Nod=>decide (n.b.root=r)) N with⟨h1,h2⟩|⟨k,hk,h1,h2,h3⟩
 .refine .inl ⟨h1,fun x hx=>?_⟩
  obtain⟨n,hn,rfl⟩:=List.mem_map.1 hx
  exact fun e=>by have:=h2 n hn;simp at this;exact this (Rt.ext' e)
 .refine .inr ⟨k,by simpa using hk,h1,?_,fun j hj e=>?_⟩
  .rw[List.getElem_map];exact congrArg Rt.l (of_decide_eq_true h2)
  .rw[List.getElem_map]at e
   have:=h3 j hj
   simp at this;exact this (Rt.ext' e)
def Sto.wts(s:Sto):List U:=(Old.subL (upsN s.nodes) s.nodes.length (Old.boostV (s.nodes.map toNd) (Old.dirL (s.nodes.map toNd) (s.lat.map toVt) s.eqv (ub s.balj) s.balj.length) s.boost.l (amt (s.c.spe.n:Int) (s.c.bp.n:Int) (Old.sumV (ub s.balj))) (fndI s.nodes s.boost))).map toU
theorem WtR.eq{s:Sto}{W:List U}(h:WtR s W):W=s.wts:=by
 obtain⟨k,hk,e⟩:=h
 rw[e,Ah5 hk (Ah6 s.nodes s.boost)]
 rfl
def Sto.head(s:Sto):Int:=headF s.nodes s.wts s.lives s.nodes.length (fndI s.nodes s.just.r)
structure WOk(s:Sto):Prop where
 sp:0<s.c.spe.n
 lk:Lk (upsN s.nodes)
 pos:0<s.nodes.length
 nb:s.nodes.length<=4096
 tb:s.tabs.length<=65535
 eb:s.eqv.length<=4096
 lat:s.lat.length=s.balj.length
 b7:s.balj.length<=7
 sm:Old.SmT (ub s.balj)
 just:0<=fndI s.nodes s.just.r
theorem Am6{s:Sto}(h:WOk s):∃k:Nat,k<s.nodes.length/\s.head=(k:Int):=by
 obtain⟨j,hj,e,_⟩:=AcV h.just
 unfold Sto.head
 rw[e]
 exact Agb _ hj
def Sto.cmd(s:Sto):Cm:=⟨(s.nodes.getD s.head.toNat n0).b.root,safeR s,s.fin.r⟩
end Go.Proofs.Ytpaihpeoiliioaa
