/- Texts joined: what the walks of this claim stand on (part 14). -/
import Derived.Test.YtpaihpeoiliioaaGreatKK13
set_option linter.all false
set_option maxRecDepth 20000
set_option maxHeartbeats 40000000
namespace Go.Proofs.YtpaihpeoiliioaaGreat
section
open Go.RowKit Old
def toVt(v:Vo):Bool × Int × List Int:=(v.has,(v.e.n:Int),v.r.l)
theorem AmY(l:List Vo):(l.map toVt).flatMap Old.vc=l.flatMap vox:=by
 rw[List.flatMap_map]
 congr 1
theorem Aj6{Γ:Gam}{x:Sl}{l:List Vo}(h:SlR Γ x l.length (l.flatMap vox)){w:World}(ok:Ok Γ w):Old.VRow w x.A x.n (l.map toVt):=by
 refine⟨by rw[List.length_map,h.n],fun y hy=>?_,fun hn=>?_⟩
 .obtain⟨v,_,rfl⟩:=List.mem_map.1 hy
  exact⟨v.r.len,v.r.bt⟩
 .obtain⟨g,post,e,hg⟩:=h.sl hn
  obtain⟨p2,hh⟩:=ok _ _ hg
  exact⟨g,post++p2,e,by rw[AmY,<-List.append_assoc];exact hh⟩
theorem AkO{Γ:Gam}{x:Sl}{l:List Int}(h:SlR Γ x l.length (ints .i64 l)){w:World}(ok:Ok Γ w):Old.GRow w x.A x.n l:=by
 refine⟨h.n.symm,fun hn=>?_⟩
 obtain⟨g,post,e,hg⟩:=h.sl hn
 obtain⟨p2,hh⟩:=ok _ _ hg
 exact⟨g,post++p2,e,by rw[<-List.append_assoc];exact hh⟩
def ub(l:List U):List Int:=l.map fun x=>(x.n:Int)
theorem Aji(l:List U):(ub l).length=l.length:=by simp[ub]
theorem Aot(l:List U):Old.U64 (ub l):=fun x hx=>by
 obtain⟨u,_,rfl⟩:=List.mem_map.1 hx
 have:=u.lt
 omega
theorem Aef{Γ:Gam}{A:Option Addr}{l:List U}(h:SlG Γ A l.length (us l)){w:World}(ok:Ok Γ w):Old.URow w A l.length (ub l):=by
 refine⟨Aji l,fun hn=>?_⟩
 obtain⟨g,post,e,hg⟩:=h hn
 obtain⟨p2,hh⟩:=ok _ _ hg
 exact⟨g,post++p2,e,by rw[<-List.append_assoc,show ints .u64 (ub l)=us l from(AdV l).symm];exact hh⟩
def toU(x:Int):U:=⟨(x%18446744073709551616).toNat,by omega⟩
theorem Alf{xs:List Int}(h:Old.U64 xs):us (xs.map toU)=ints .u64 xs:=by
 rw[AdV,List.map_map]
 congr 1
 have:∀x∈xs,((fun u:U=>(u.n:Int)) ∘ toU) x=x:=fun x hx=>by
  have:=h x hx
  simp only[Function.comp_apply,toU]
  omega
 rw[List.map_congr_left this];simp
def WtR(s:Sto)(W:List U):Prop:=∃k,Old.FK (s.nodes.map toNd) s.boost.l k /\
 W=(Old.subL (upsN s.nodes) s.nodes.length (Old.boostV (s.nodes.map toNd) (Old.dirL (s.nodes.map toNd) (s.lat.map toVt) s.eqv (ub s.balj) s.balj.length) s.boost.l (amt (s.c.spe.n:Int) (s.c.bp.n:Int) (Old.sumV (ub s.balj))) k)).map toU
def WtsP(Γ:Gam)(w:World)(s:Sto)(e:Ending)(w':World):Prop:=∃(A:Option Addr) (c:Nat) (Γ':Gam) (W:List U),e=.returned (.slice A s.nodes.length c)/\W.length=s.nodes.length/\WtR s W/\CapOk A s.nodes.length c/\SlG Γ' A s.nodes.length (us W)/\Ext Γ w Γ' w'
theorem AfN(Γ:Gam)(s:Sto)(v:Sls)(hk:Lk (upsN s.nodes))(h1:0<s.nodes.length)(hb:s.nodes.length<=4096)(ht:s.tabs.length<=65535)(he:s.eqv.length<=4096)(hl:s.lat.length=s.balj.length)(h7:s.balj.length<=7)(hs:Old.SmT (ub s.balj))(w:World)(ok:Ok Γ w)(h:StG Γ v s) :
  Calls Tryz.prog 37 #[.agg (fl (stP s v)).toArray] w (WtsP Γ w s):=by
 have M:=bx (MM.start ok)
 have HG:=bx h
 have BA:=bx (fun w ok=>Ain Γ s v w ok h ht)
 have nx:=h.nodes.n
 have lx:=h.lat.n
 have ex:=h.eqv.n
 have hlv:v.lat.n=s.balj.length:=lx.trans hl
 have LV:Bx (v.lat.v=.slice v.lat.A s.balj.length v.lat.c):=⟨by rw[<-hlv]⟩
 have NV:Bx (v.nodes.v=.slice v.nodes.A s.nodes.length v.nodes.c):=⟨by rw[<-nx]⟩
 have EV:Bx (v.eqv.v=.slice v.eqv.A s.eqv.length v.eqv.c):=⟨by rw[<-ex]⟩
 have DI:Bx (∀(A:Option Addr) (c:Nat) w,Ok Γ w->SlG Γ A s.balj.length (us s.balj)->Calls Tryz.prog 72 #[.agg #[v.nodes.v],.agg #[v.lat.v,v.eqv.v],.slice A s.balj.length c] w (Old.UP s.nodes.length (Old.dirL (s.nodes.map toNd) (s.lat.map toVt) s.eqv (ub s.balj) s.balj.length) w)):=⟨fun A c w ok hA=>by
  have a1:=NG.nrow (x:=v.nodes) h.nodes ok
  have a2:=Aj6 h.lat ok
  have a3:=AkO h.eqv ok
  rw[nx]at a1
  rw[hlv]at a2
  rw[ex]at a3
  rw[NV.o,LV.o,EV.o]
  exact AgK v.nodes.A v.lat.A v.eqv.A A s.nodes.length v.nodes.c v.lat.c s.eqv.length v.eqv.c s.balj.length c (s.nodes.map toNd) (s.lat.map toVt) s.eqv (ub s.balj) he hs h7 hb w a1 a2 a3 (Aef hA ok)⟩
 have BO:Bx (∀(A:Option Addr) (c:Nat) (ds:List Int) (a:Int) w,Ok Γ w->Old.U64 ds->0<=a->Old.URow w A s.nodes.length ds->Calls Tryz.prog 74 #[.agg #[v.nodes.v],.slice A s.nodes.length c,.agg (rc s.boost).toArray,.int .u64 a] w (Old.BoP (s.nodes.map toNd) ds s.boost.l a s.nodes.length w)):=⟨fun A c ds a w ok hd ha hr=>by
  have a1:=NG.nrow (x:=v.nodes) h.nodes ok
  rw[nx]at a1
  rw[NV.o]
  exact Ajc v.nodes.A A s.nodes.length v.nodes.c c (s.nodes.map toNd) ds hd hb h1 s.boost.l s.boost.len a ha w a1 hr⟩
 have SU:Bx (∀(A:Option Addr) (c:Nat) (ds:List Int) w,Ok Γ w->Old.U64 ds->Old.URow w A s.nodes.length ds->Calls Tryz.prog 73 #[.agg #[v.nodes.v],.slice A s.nodes.length c] w (Old.UO s.nodes.length (Old.subL (upsN s.nodes) s.nodes.length ds) w)):=⟨fun A c ds w ok hd hr=>by
  have a1:=NG.nrow (x:=v.nodes) h.nodes ok
  rw[nx]at a1
  rw[NV.o,<-Abx]
  exact AgJ v.nodes.A A s.nodes.length v.nodes.c c (s.nodes.map toNd) ds hd (by rw[Abx];exact hk) hb w a1 hr⟩
 have SM:Bx (∀(A:Option Addr) (c:Nat) w,Ok Γ w->SlG Γ A s.balj.length (us s.balj)->Calls Tryz.prog 70 #[.slice A s.balj.length c] w fun e w'=>e=.returned (.tuple #[.int .u64 (Old.sumV (ub s.balj)),.int .i64 (Old.sumE (ub s.balj))])/\w=w'):=⟨fun A c w ok hA=>by
  have:=(Aef hA ok).row
  exact Old.ref_sum w.heap.size A s.balj.length c (ub s.balj) w this (Aot _) (by omega)⟩
 have HSV:Bx (0<=Old.sumV (ub s.balj)/\Old.sumV (ub s.balj)<=18446744073709551615):=⟨by
  have:=Old.sum_nonneg (Aot s.balj)
  unfold Old.sumV
  split<;>omega⟩
 have AM:Bx (∀w,Calls Tryz.prog 71 #[.agg (fl (cfP s.c v.bal)).toArray,.int .u64 (Old.sumV (ub s.balj))] w (AmtPost (s.c.spe.n:Int) (s.c.bp.n:Int) (Old.sumV (ub s.balj)) w)):=⟨fun w=>
  Ag9 (fl (cfP s.c v.bal)) (s.c.spe.n:Int) (s.c.bp.n:Int) (Old.sumV (ub s.balj)) w rfl rfl (by omega) (by have:=s.c.spe.lt;omega) (by omega) (by have:=s.c.bp.lt;omega) HSV.o.1 HSV.o.2⟩
 have AP:Bx (0<=amt (s.c.spe.n:Int) (s.c.bp.n:Int) (Old.sumV (ub s.balj))):=⟨by
  have h0:=HSV.o.1
  unfold amt
  split
  .exact Int.ediv_nonneg (Int.mul_nonneg (Int.ediv_nonneg h0 (by omega)) (by omega)) (by decide)
  .exact Int.le_refl _⟩
 have WR:=bx (fun k xs (hf:Old.FK (s.nodes.map toNd) s.boost.l k) (e:xs=(Old.subL (upsN s.nodes) s.nodes.length (Old.boostV (s.nodes.map toNd) (Old.dirL (s.nodes.map toNd) (s.lat.map toVt) s.eqv (ub s.balj) s.balj.length) s.boost.l (amt (s.c.spe.n:Int) (s.c.bp.n:Int) (Old.sumV (ub s.balj))) k)).map toU)=>(show WtR s xs from⟨k,hf,e⟩))
 clear ok h hk h1 hb ht he hl h7 hs nx lx ex hlv LV NV EV HSV
 go_enter Tryz.func37,Tryz.ntmps37
 (go_wp2_with (first|(refine zBXo ?_;clear M;intro w' g M)|refine zLAo ?_))
 refine(BA.o _ M.ok).mono ?_
 rintro e1 w1 ⟨A1,c1,rfl,hc1,hs1,hx1⟩
 replace M:=bx (M.o.call hx1)
 have HS1:=bx hs1
 clear hc1 hs1 hx1 BA
 (go_wp2_with (fail))
 refine(SM.o A1 c1 _ M.ok HS1.o).mono ?_
 rintro e2 w2 ⟨rfl,rfl⟩
 clear SM
 (go_wp2_with (refine zLAo ?_))
 refine(AM.o _).mono ?_
 rintro e3 w3 ⟨rfl,hx3⟩
 replace M:=bx (M.o.below hx3)
 clear hx3 AM
 generalize amt (s.c.spe.n:Int) (s.c.bp.n:Int) (Old.sumV (ub s.balj))=am at *
 (go_wp2_with (refine zLAo ?_))
 refine(DI.o A1 c1 _ M.ok HS1.o).mono ?_
 rintro e4 w4 ⟨A4,c4,rfl,hu4,hr4,hx4⟩
 replace M:=bx (M.o.below hx4)
 have HU4:=bx hu4
 have HR4:=bx (hr4.below (Below.refl _ _).drew)
 clear hu4 hr4 hx4 DI
 generalize Old.dirL (s.nodes.map toNd) (s.lat.map toVt) s.eqv (ub s.balj) s.balj.length=ds at *
 (go_wp2_with (fail))
 refine AaB [] (.steps [(1,0),(0,1),(1,2),(0,3),(1,4),(1,5),(0,6),(1,7),(2,8),(2,9),(1,10)] .leaf) (by kernel_rfl) (by kernel_rfl) ?_;(simp only[MixT6,MT.steps,stepAt,List.getD_cons_zero,List.getD_cons_succ]);replace M:=bx (M.o.drew)
 refine zNM ?_
 refine zMRo ?_
 refine zMC (BO.o A4 c4 ds am _ M.ok HU4.o AP.o HR4.o) Tryz.func74 ?_
 rintro e5 w5 ⟨k,hk,A5,c5,rfl,hu5,hr5,hx5⟩
 refine⟨_,rfl,hx5,?_⟩
 replace M:=bx (M.o.below hx5)
 have HU5:=bx hu5
 have HR5:=bx hr5
 have WR':=bx (fun xs=>WR.o k xs hk)
 clear hu5 hr5 hx5 BO WR
 generalize Old.boostV (s.nodes.map toNd) ds s.boost.l am k=bs at *
 refine zNM ?_
 refine zMRo ?_
 refine zMC (SU.o A5 c5 bs _ M.ok HU5.o HR5.o) Tryz.func73 ?_
 rintro e6 w6 ⟨A6,c6,rfl,hu6,hl6,ho6,hx6⟩
 refine⟨_,rfl,hx6,?_⟩
 replace M:=bx (M.o.rowNew hx6 ho6)
 have HU6:=bx hu6
 have HL6:=bx hl6
 clear hu6 hl6 ho6 hx6 SU
 generalize Old.subL (upsN s.nodes) s.nodes.length bs=xs at *
 refine zNM ?_
 refine zMRo ?_
 refine NoPanic.normal ?_
 (go_wp2_with (fail))
 obtain⟨Γ',h1,h2,h3,h4⟩:=M.o.frz
 go_ret
 exact⟨A6,c6,Γ',xs.map toU,rfl,by rw[List.length_map];exact HL6.o,WR'.o _ rfl,h1,by rw[Alf HU6.o];exact h2,h4.ext⟩
def headF(N:List Nod)(W:List U)(L:List Bool):Nat->Int->Int
 |0,i=>i
 |f+1,i=>if bestI N W L i<0 then i else headF N W L f (bestI N W L i)
theorem AgE(N:List Nod)(W:List U)(L:List Bool)(i:Int):bestI N W L i = -1\/∃k,∃hk:k<N.length,N[k].up=i/\bestI N W L i=(k:Int):=by
 rcases AgD N W L (kids N i)with h|⟨k,hk,h⟩
 .exact .inl h
 .obtain⟨h1,h2⟩:=Abz hk
  exact .inr ⟨k,h1,h2,h⟩
theorem AkF{N:List Nod}{W:List U}{L:List Bool}:∀(f:Nat) {i:Nat},i<N.length->∃k:Nat,k<N.length/\headF N W L f (i:Int)=(k:Int)
 |0,i,h=>⟨i,h,rfl⟩
 |f+1,i,h=>by
  unfold headF
  rcases AgE N W L (i:Int)with e|⟨k,hk,_,e⟩
  .rw[e,if_pos (by decide)];exact⟨i,h,rfl⟩
  .rw[e,if_neg (by omega)];exact AkF f hk
def HeadP(Γ:Gam)(w:World)(s:Sto)(e:Ending)(w':World):Prop:=∃W,W.length=s.nodes.length/\WtR s W/\e=.returned (.int .i64 (headF s.nodes W s.lives s.nodes.length (fndI s.nodes s.just.r)))/\Ext Γ w Γ w'
theorem Ada(s:Sto):s.lives.length=s.nodes.length:=by simp[Sto.lives]
theorem AoG(Γ:Gam)(s:Sto)(v:Sls)(hsp:0<s.c.spe.n)(hk:Lk (upsN s.nodes))(h1:0<s.nodes.length)(hb:s.nodes.length<=4096)(ht:s.tabs.length<=65535)(he:s.eqv.length<=4096)(hl:s.lat.length=s.balj.length)(h7:s.balj.length<=7)(hs:Old.SmT (ub s.balj))(hj:0<=fndI s.nodes s.just.r)(w:World)(ok:Ok Γ w)(h:StG Γ v s) :
  Calls Tryz.prog 41 #[.agg (fl (stP s v)).toArray] w (HeadP Γ w s):=by
 have M:=bx (MM.start ok)
 have HG:=bx h
 have OK0:=bx ok
 have WT:=bx (fun w ok=>AfN Γ s v hk h1 hb ht he hl h7 hs w ok h)
 have LV:Bx (∀(Γ':Gam) w,Le Γ Γ'->Ok Γ' w->Calls Tryz.prog 39 #[.agg (fl (stP s v)).toArray] w fun e w'=>∃(A:Option Addr) (c:Nat) (Γ2:Gam),e=.returned (.slice A s.nodes.length c)/\CapOk A s.nodes.length c/\SlG Γ2 A s.nodes.length (bls s.lives)/\Ext Γ' w Γ2 w'):=⟨fun Γ' w hl ok=>by
  have:=AiJ Γ' s v hsp (Lk.ahead hk) (by omega) w ok (h.mono hl)
  unfold BlsP at this
  rw[Ada]at this
  exact this⟩
 have FI:=bx (fun(Γ':Gam) w (hl:Le Γ Γ') ok=>Aag Γ' v.nodes s.nodes s.just.r w ok (h.nodes.mono hl))
 have BO:=bx (fun(Γ':Gam) (A2 A3:Option Addr) c2 c3 W (hW:W.length=s.nodes.length) (i:Int) w (hl:Le Γ Γ') ok h2 h3=>Agu Γ' v.nodes s.nodes A2 A3 c2 c3 W s.lives i (by omega) hW (Ada s) w ok (h.nodes.mono hl) h2 h3)
 have AH:=bx (Lk.ahead hk)
 obtain⟨j0,hj0,ej,ejr⟩:=Aci hj
 have HJ0:=bx hj0
 rw[ej]at FI
 have HP:Bx (∀W,W.length=s.nodes.length->WtR s W->∀w',Ext Γ w Γ w'->HeadP Γ w s (.returned (.int .i64 (headF s.nodes W s.lives s.nodes.length (j0:Int)))) w'):=⟨fun W h1 h2 w' hx=>⟨W,h1,h2,by rw[ej],hx⟩⟩
 clear ok h hsp hk h1 hb ht he hl h7 hs hj ejr hj0 ej
 generalize s.lives=L at *
 go_enter Tryz.func41,Tryz.ntmps41
 (go_wp2_with (refine zBXo ?_;clear M;intro w' g M))
 refine AaB [] (.steps [(0,0),(0,2),(2,1),(2,3),(1,4),(1,5)] .leaf) (by kernel_rfl) (by kernel_rfl) ?_;(simp only[MixT6,MT.steps,stepAt,List.getD_cons_zero,List.getD_cons_succ]);replace M:=bx (M.o.drew)
 refine zNM ?_
 refine zMRo ?_
 refine zMC (WT.o _ M.ok) Tryz.func37 ?_
 rintro e2 w2 ⟨A2,c2,Γ2,W,rfl,hWl,hWr,hc2,hs2,hx2⟩
 refine⟨_,rfl,hx2.bel,?_⟩
 replace M:=bx (M.o.call hx2)
 have HWL:=bx hWl
 have HWR:=bx hWr
 have HS2:=bx hs2
 clear hc2 hs2 hx2 WT hWl hWr
 refine zNM ?_
 refine zMRo ?_
 refine zMC (LV.o _ _ M.o.ext.le M.ok) Tryz.func39 ?_
 rintro e3 w3 ⟨A3,c3,Γ3,rfl,hc3,hs3,hx3⟩
 refine⟨_,rfl,hx3.bel,?_⟩
 replace M:=bx (M.o.call hx3)
 have HS3:=bx hs3
 have HS2':=bx (HS2.o.mono hx3.le)
 have LE3:=bx M.o.ext.le
 clear hc3 hs3 hx3 LV HS2
 refine zNM ?_
 refine zMRo ?_
 refine NoPanic.normal ?_
 (go_wp2_with (refine zLAo ?_))
 refine zCA M (FI.o Γ3 _ LE3.o M.ok) ?_;clear M;intro w1 M
 (go_wp2_with (fail))
 have BO':=bx (fun i w ok=>BO.o Γ3 A2 A3 c2 c3 W HWL.o i w LE3.o ok HS2'.o HS3.o)
 have HP':=bx (fun w' hx=>HP.o W HWL.o HWR.o w' hx)
 clear BO FI HP HS2' HS3
 go_loopw [5] (fun s5 wr=>∃(i f:Nat),i<s.nodes.length/\s5=.int .i64 i/\headF s.nodes W L s.nodes.length (j0:Int)=headF s.nodes W L f (i:Int)/\s.nodes.length<=i+f/\MM Γ w Γ3 wr [⟨g,stP s v,stL⟩] []) (fun s5 _=>s.nodes.length-(intOf s5).toNat)
 case atStart=>exact⟨j0,s.nodes.length,HJ0.o,rfl,rfl,by omega,M.o⟩
 case round=>
  obtain⟨i,f,hi,rfl,hf,hif,hM⟩:=hrel
  clear M
  have M:=bx hM
  have HF:=bx hf
  clear hM hf
  obtain⟨f',rfl⟩:∃f',f=f'+1:=⟨f-1,by omega⟩
  have B1:=bx (BO'.o (i:Int))
  have HF2:Bx (headF s.nodes W L s.nodes.length (j0:Int)=if bestI s.nodes W L (i:Int)<0 then(i:Int)else headF s.nodes W L f' (bestI s.nodes W L (i:Int))):=⟨HF.o⟩
  clear HF
  rcases AgE s.nodes W L (i:Int)with e|⟨k,hkl,hku,e⟩
  .rw[e]at B1 HF2
   have E:=bx (HF2.o.trans (if_pos (by decide)))
   clear HF2 e
   (go_wp2_with (refine zLAo ?_))
   refine zCA M (B1.o _ M.ok) ?_;clear M;intro w1 M
   (go_wp2_with (fail))
   go_ret
   have:=HP'.o _ (Ext.below OK0.o M.bel)
   rw[E.o]at this
   exact this
  .have hik:i<k:=by have:=AH.o k hkl;omega
   rw[e]at B1 HF2
   have hk0:¬(k:Int)<0:=by omega
   have E:=bx (HF2.o.trans (if_neg (by omega)))
   clear HF2 e
   (go_wp2_with (refine zLAo ?_))
   refine zCA M (B1.o _ M.ok) ?_;clear M;intro w1 M
   (go_wp2_with (fail))
   go_roundw
   case rel=>exact⟨k,f',hkl,rfl,E.o,by omega,M.o⟩
   case measure=>simp[intOf]<;>omega
theorem Amb{ns:List Nd}{r:List Int}{k k':Int}(h:Old.FK ns r k)(h':Old.FK ns r k'):k=k':=by
 rcases h with⟨e,h⟩|⟨i,hi,e,h1,h2⟩
 .rcases h' with⟨e',_⟩|⟨i',hi',_,h1',_⟩
  .rw[e,e']
  .exact absurd h1' (h _ (List.getElem_mem hi'))
 .rcases h' with⟨_,h'⟩|⟨i',hi',e',h1',h2'⟩
  .exact absurd h1 (h' _ (List.getElem_mem hi))
  .rcases Nat.lt_trichotomy i i' with hlt|heq|hgt
   .exact absurd h1 (h2' i hlt)
   .rw[e,e',heq]
   .exact absurd h1' (h2 i' hgt)
theorem Amc(N:List Nod)(r:Rt):Old.FK (N.map toNd) r.l (fndI N r):=by
 rcases Aay (fun n:Nod=>decide (n.b.root=r)) N with⟨h1,h2⟩|⟨k,hk,h1,h2,h3⟩
 .refine .inl ⟨h1,fun x hx=>?_⟩
  obtain⟨n,hn,rfl⟩:=List.mem_map.1 hx
  exact fun e=>by have:=h2 n hn;simp at this;exact this (Rt.ext' e)
 .refine .inr ⟨k,by simpa using hk,h1,?_,fun j hj e=>?_⟩
  .rw[List.getElem_map];exact congrArg Rt.l (of_decide_eq_true h2)
  .rw[List.getElem_map]at e
   have:=h3 j hj
   simp at this;exact this (Rt.ext' e)
def Sto.wts(s:Sto):List U:=(Old.subL (upsN s.nodes) s.nodes.length (Old.boostV (s.nodes.map toNd) (Old.dirL (s.nodes.map toNd) (s.lat.map toVt) s.eqv (ub s.balj) s.balj.length) s.boost.l (amt (s.c.spe.n:Int) (s.c.bp.n:Int) (Old.sumV (ub s.balj))) (fndI s.nodes s.boost))).map toU
theorem WtR.eq{s:Sto}{W:List U}(h:WtR s W):W=s.wts:=by
 obtain⟨k,hk,e⟩:=h
 rw[e,Amb hk (Amc s.nodes s.boost)]
 rfl
def Sto.head(s:Sto):Int:=headF s.nodes s.wts s.lives s.nodes.length (fndI s.nodes s.just.r)
structure WOk(s:Sto):Prop where
 sp:0<s.c.spe.n
 lk:Lk (upsN s.nodes)
 pos:0<s.nodes.length
 nb:s.nodes.length<=4096
 tb:s.tabs.length<=65535
 eb:s.eqv.length<=4096
 lat:s.lat.length=s.balj.length
 b7:s.balj.length<=7
 sm:Old.SmT (ub s.balj)
 just:0<=fndI s.nodes s.just.r
theorem ApE(Γ:Gam)(s:Sto)(v:Sls)(h:WOk s)(w:World)(ok:Ok Γ w)(hg:StG Γ v s) :
  Calls Tryz.prog 37 #[.agg (fl (stP s v)).toArray] w fun e w'=>∃(A:Option Addr) (c:Nat) (Γ':Gam),e=.returned (.slice A s.nodes.length c)/\s.wts.length=s.nodes.length/\CapOk A s.nodes.length c/\SlG Γ' A s.nodes.length (us s.wts)/\Ext Γ w Γ' w':=
 (AfN Γ s v h.lk h.pos h.nb h.tb h.eb h.lat h.b7 h.sm w ok hg).mono fun _ _ ⟨A,c,Γ',W,h1,h2,h3,h4,h5,h6⟩=>by
  have e:=h3.eq
  subst e
  exact⟨A,c,Γ',h1,h2,h4,h5,h6⟩
theorem Ao3(Γ:Gam)(s:Sto)(v:Sls)(h:WOk s)(w:World)(ok:Ok Γ w)(hg:StG Γ v s) :
  Calls Tryz.prog 41 #[.agg (fl (stP s v)).toArray] w fun e w'=>e=.returned (.int .i64 s.head)/\Ext Γ w Γ w':=
 (AoG Γ s v h.sp h.lk h.pos h.nb h.tb h.eb h.lat h.b7 h.sm h.just w ok hg).mono fun _ _ ⟨W,h1,h2,h3,h4⟩=>by
  have e:=h2.eq
  subst e
  exact⟨h3,h4⟩
theorem AmX{s:Sto}(h:WOk s):∃k:Nat,k<s.nodes.length/\s.head=(k:Int):=by
 obtain⟨j,hj,e,_⟩:=Aci h.just
 unfold Sto.head
 rw[e]
 exact AkF _ hj
def Sto.cmd(s:Sto):Cm:=⟨(s.nodes.getD s.head.toNat n0).b.root,safeR s,s.fin.r⟩
theorem stCm:StrT Tryz.prog 52 [(0,32),(32,32),(64,32)] (cmP cm0) [32,32,32]:=Aa9 Tryz.underlying52 (by kernel_rfl) (by kernel_rfl) (Aai _)
theorem Akh(a b c:Rt):Tryz.prog.built 52 [(0,.agg (rc a).toArray),(1,.agg (rc b).toArray),(2,.agg (rc c).toArray)]=some (fl (cmP ⟨a,b,c⟩)).toArray:=by
 rw[stCm.eq]
 refine AaG (Q:=[rc a]) stCm.len rfl rfl rfl (lenR a) rfl fun hl=>?_
 refine AaG (Q:=[rc b]) hl rfl rfl rfl (lenR b) rfl fun hl=>?_
 refine AaG (Q:=[rc c]) hl rfl rfl rfl (lenR c) rfl fun hl=>?_
 rfl
theorem AjV(Γ:Gam)(s:Sto)(v:Sls)(hw:WOk s)(w:World)(ok:Ok Γ w)(h:StG Γ v s) :
  Calls Tryz.prog 20 #[.agg (fl (stP s v)).toArray] w fun e w'=>e=.returned (.agg (fl (cmP s.cmd)).toArray)/\Ext Γ w Γ w':=by
 have M:=bx (MM.start ok)
 have HD:=bx (fun w ok=>Ao3 Γ s v hw w ok h)
 have SF:=bx (fun w ok=>Anm Γ s v w ok h)
 obtain⟨k,hk,ek⟩:=AmX hw
 obtain⟨gn,hA,hf⟩:=h.nodeAt k hk
 have HA:=bx hA
 have F1:=bx hf
 have hki:(k:Int)<(v.nodes.n:Int):=by rw[h.nodes.n];omega
 have hk0:0<=(k:Int):=by omega
 have HC:Bx (s.cmd=⟨s.nodes[k].b.root,safeR s,s.fin.r⟩):=⟨by unfold Sto.cmd;rw[ek,Int.toNat_natCast,nget hk]⟩
 rw[ek]at HD
 clear ok h hw hA hf ek
 rw[HC.o]
 generalize safeR s=sr at *
 generalize s.nodes[k]=y at *
 go_enter Tryz.func20,Tryz.ntmps20
 go_wp2_with (first|((first|refine zBXo ?_|refine zALo (ztCm) ?_);clear M;intro w' g M))
 refine AaB [16] (.steps [(1,0),(1,1),(0,2),(0,3),(0,9),(1,11),(1,12),(1,13),(0,14),(2,4),(1,5),(1,6),(1,7),(0,8),(2,10),(1,15),(3,16)] .leaf) (by kernel_rfl) (by kernel_rfl) ?_;(simp only[MixT6,MT.steps,stepAt,List.getD_cons_zero,List.getD_cons_succ]);replace M:=bx (M.o.drew)
 refine zNM ?_
 (repeat(first|refine zM0 ?_|(go_big_quiet_want;first|((first|refine zQHo HA ?_|refine zQAo ?_);go_big_quiet_on;refine zNM ?_)|(refine zQO ?_;go_big_quiet_on))))
 refine zMC (HD.o _ M.ok) Tryz.func41 ?_
 rintro e2 w2 ⟨rfl,hx2⟩
 refine⟨_,rfl,hx2.bel,?_⟩
 replace M:=bx (M.o.call hx2)
 clear hx2
 refine zNM ?_
 (repeat(first|refine zM0 ?_|(go_big_quiet_want;first|(refine zQFo F1 ?_;go_big_quiet_on;refine zNM ?_)|(refine zQO ?_;go_big_quiet_on))))
 refine zMC (SF.o _ M.ok) Tryz.func18 ?_
 rintro e3 w3 ⟨rfl,hx3⟩
 refine⟨_,rfl,hx3.bel,?_⟩
 replace M:=bx (M.o.call hx3)
 clear hx3
 refine zNM ?_
 (repeat(first|refine zM0 ?_|(go_big_quiet_want;((with_reducible refine AaT 52 _ rfl [(0,.agg (rc y.b.root).toArray),(1,.agg (rc sr).toArray),(2,.agg (rc s.fin.r).toArray)] (fl (cmP ⟨y.b.root,sr,s.fin.r⟩)) ?_ (Akh _ _ _) ?_);rfl;go_big_quiet_on;refine zNM ?_))))
 refine Aam M.o 0 (cmP ⟨y.b.root,sr,s.fin.r⟩) (cmP ⟨y.b.root,sr,s.fin.r⟩) rfl rfl rfl rfl rtCm rfl (Aai _) (AdT _) rfl rfl ?_
 intro w7 M'
 simp only[List.set_cons_zero,List.set_cons_succ]at M'
 (replace M:=bx M';clear M')
 refine zNM ?_
 refine zMRo ?_
 refine NoPanic.normal ?_
 go_wp2_with fail
 exact zRb M.o.at0 ⟨rfl,M.o.ext⟩
end
namespace Old
open Go.RowKit
theorem AeD{α:Type}{f:α->List Value}{k:Nat}{P:Program}{ops:Array Oper}{rest:List Oper}{op:Oper}{a:Act}{w:World}{Q:Exit->Act->World->Prop}(ty:TypeId)(x:Operand)(ho:op.op=.load ty x)
  (hgd:Region.wanted op (yielded ops a.tmps)=true) (g:Nat) (xs:List α) (i:Nat) (hx:a.eval x=.pointer (some ⟨g,i*k,none⟩)) (post:List Value) (hg:Has w g (xs.flatMap f++post)) (hk:∀x∈xs,(f x).length=k)
  (v:α) (hv:xs[i]? = some v) {d:TypeDesc} (hu:P.underlying ty=some d) (hd:d.isRow=true) (hc:P.cellsOf ty=k)
  (h:wpList P ops Q rest (a.put op.dst (.agg (f v).toArray)) w):wpList P ops Q (op::rest) a w:=by
 obtain⟨hi,rfl⟩:=List.getElem?_eq_some_iff.1 hv
 exact Aem ty x ho hgd g xs i hx post hg hk hi hu hd hc h
theorem ArS{n:Nd}(h:BkOk n.b):(nc zNode).length=(nc n).length:=by rw[Al7 h];rfl
theorem AjS(A0 AL AE Ab:Option Addr)(n0 c0 cl ne ce n cb:Nat)(ns:List Nd)(vs:List Vt)(G bs:List Int)(wf:Wf ns)(hG:GOk G)(hne:ne<=4096)(hs:SmT bs)(hn7:n<=7)(hn0:0<n0)(hn9:n0<=4096)(w:World)
  (h0:NRow w A0 n0 ns) (h1:VRow w AL n vs) (h2:GRow w AE ne G) (h3:URow w Ab n bs) :
  Calls Tryz.prog 55 #[.agg #[.slice A0 n0 c0],.agg #[.slice AL n cl,.slice AE ne ce],.slice Ab n cb] w (UP n0 (dirL ns vs G bs n) w):=by
 have hmm:=@run_makeMap Tryz.prog
 obtain⟨iu,hiu,hu0,hu1,hu2⟩:=info_parts info_u64
 have hmk:=fun w=>run_make (P:=Tryz.prog) w 30 23 iu _ Tryz.underlying30 hiu hu0 .i64 .i64 n0 n0 (by omega) (Int.le_refl _) (by rw[hu2];omega) (by omega)
 rw[hu1,Int.toNat_natCast,Afi (fun x=>[Value.int .u64 x]) (0:Int) (Value.int .u64 0).cells (by simp[Value.cells]) (k:=1) (by rfl) (by omega) n0,flat_one]at hmk
 have HMK:=bx hmk
 have HIU:=bx (show Tryz.prog.info? 23=some iu from hiu)
 have WF:=bx wf
 have HG:=bx hG
 have HS:=bx hs
 have HN0:=bx hn0
 have R0:=bx h0
 have R1:=bx h1
 have R2:=bx h2
 have R3:=bx h3
 have L0:=bx h0.1
 have L1:=bx h1.1
 have L3:=bx h3.1
 generalize hwa:((w.alloc (.cells #[.slice A0 n0 c0] 46)).alloc (.cells #[.slice AL n cl,.slice AE ne ce] 35)).alloc (.map #[] 0)=wA
 have XA3:Bx (Has wA w.heap.size [.slice A0 n0 c0]):=⟨by rw[<-hwa];exact((Has.new w _ _).alloc _).alloc _⟩
 have XA4:Bx (Has wA (w.heap.size+1) [.slice AL n cl,.slice AE ne ce]):=⟨by rw[<-hwa];exact(has_newAt (alloc_size w _) [.slice AL n cl,.slice AE ne ce] _).alloc _⟩
 have MA:Bx (IMap wA (w.heap.size+1+1) 0 (ix ns 0)):=⟨by
  rw[<-hwa,show ix ns 0=fun _=>none from rfl]
  have:=IMap.made ((w.alloc (.cells #[.slice A0 n0 c0] 46)).alloc (.cells #[.slice AL n cl,.slice AE ne ce] 35))
  simpa using this⟩
 have BA:Bx (Below w.heap.size w wA):=⟨by rw[<-hwa];exact((ext_alloc w _).alloc (by simp) _).alloc (by simp;omega) _⟩
 have HWA:=bx hwa
 have hcA:wA.cell? ⟨w.heap.size,0,none⟩=some (.slice A0 n0 c0):=XA3.o.cell 0
 clear h0 h1 h2 h3 wf hs hG hwa hiu hmk
 go_enter Tryz.func55,Tryz.ntmps55
 go_upto_region 2 with fail
 rw[HWA.o]
 go_wp2_with fail
 clear HWA hcA
 go_loopw [21] (fun i wr=>∃k:Nat,k<=n0/\i=.int .i64 k/\IMap wr (w.heap.size+1+1) k (ix ns k)/\Has wr w.heap.size [.slice A0 n0 c0]/\Has wr (w.heap.size+1) [.slice AL n cl,.slice AE ne ce]/\Below w.heap.size w wr) (fun i _=>n0-(intOf i).toNat)
 case atStart=>exact⟨0,Nat.zero_le _,rfl,MA.o,XA3.o,XA4.o,BA.o⟩
 case round=>
  obtain⟨k,hk,rfl,hm,hx3,hx4,hbel⟩:=hrel
  have MR:=bx hm
  have X3:=bx hx3
  have X4:=bx hx4
  have BR:=bx hbel
  clear hm hx3 hx4 hbel MA XA3 XA4 BA
  by_cases hkn:k<n0
  .have hki:(k:Int)<(n0:Int):=by omega
   have hk0:(0:Int)<=(k:Int):=by omega
   have hkl:k<ns.length:=by rw[L0.o];exact hkn
   have HKN:=bx hkn
   obtain⟨g0,p0,rfl,hg0⟩:=(R0.o.below BR.o).2.2 hn0
   have CN:=bx hg0
   have NK:=bx R0.o.2.1
   have OKN:=bx (R0.o.2.1 _ (List.getElem_mem hkl))
   have HNK:Bx (ns[k]? = some ns[k]):=⟨List.getElem?_eq_getElem hkl⟩
   have BTK:=bx (WF.o.bt _ (List.getElem_mem hkl))
   have IXI:=bx (ArW hkl)
   have IXO:=bx (Aqo hkl)
   have P0:=bx (Has.new wr (nc zNode) 80)
   have EX:=bx (ext_alloc wr (.cells (nc zNode).toArray 80))
   clear hg0
   generalize ns[k]=nd at *
   go_upto_region 5 with(first|((with_reducible refine AeD (f:=nc) (k:=240) 80 _ rfl ?_ g0 ns k ?_ p0 CN.o NK.o.len nd HNK.o Tryz.underlying80 ?_ ?_ ?_);rfl;rfl;rfl;kernel_rfl)|((with_reducible refine wpList_allocZ rfl 80 (nc zNode) Ala rfl ?_))|((with_reducible refine AeC rfl 80 _ _ rfl _ (nc nd) _ ?_ ?_ P0.o (ArS OKN.o) Tryz.underlying80 ?_ (Aqh OKN.o) ?_);rfl;rfl;exact AlR OKN.o;intro w2 hw hg hz;have H2:=bx hw;have B2:=bx (EX.o.grown hg EX.o.size (fun k hk=>by cases hk;exact Nat.le_refl _));clear hw hg hz))
   have X32:=bx (X3.o.below B2.o X3.o.lt)
   have X42:=bx (X4.o.below B2.o X4.o.lt)
   have M2:=bx (MR.o.below B2.o MR.o.lt)
   have BW2:=bx (BR.o.trans (B2.o.mono BR.o.size))
   have hcs:w2.cell? ⟨wr.heap.size,239,none⟩=some (.int .i64 nd.st):=(H2.o.cell 239).trans (Al6 OKN.o)
   have RT:=bx (Acr 67 H2.o.rangeAll (fun j u hu=>Api OKN.o (Ajd OKN.o j u hu)))
   have LR:=bx OKN.o.root
   clear P0 EX X3 X4 MR BR CN B2
   by_cases hst:nd.st=2
   .have MX:=bx (M2.o.mono (Nat.le_succ k))
    rw[<-IXO.o hst]at MX
    rw[hst]at hcs
    clear hst IXI IXO
    go_wp2_with fail
    go_roundw
    case rel=>exact⟨k+1,HKN.o,by go_num,MX.o,X32.o,X42.o,BW2.o⟩
    case measure=>simp[intOf];omega
   .have IXK:=bx (IXI.o hst)
    have hne2:(nd.st != 2)=true:=by rw[bne_iff_ne];exact hst
    clear hst IXI IXO
    generalize nd.st=st at *
    generalize nd.b.root=r at *
    obtain⟨wn,hrun,hmn,hgr⟩:=M2.o.put LR.o BTK.o k (by omega) (by unfold maxLen;omega)
    rw[<-IXK.o]at hmn
    have MN:=bx hmn
    have HRUN:=bx hrun
    have X3N:=bx (X32.o.grown hgr (ne_som (by omega)))
    have X4N:=bx (X42.o.grown hgr (ne_som (by omega)))
    have BN:=bx (BW2.o.grown hgr BW2.o.size (fun k hk=>by cases hk;omega))
    clear hrun hmn hgr
    go_wp2_with (first|((with_reducible refine Ab0 29 _ rfl ?_ wr.heap.size (0+67) (ints .u8 r) RT.o ?_ Tryz.underlying29 ?_ ?_ ?_);rfl;rfl;rfl;exact cells_root LR.o)|(at_mapUpdate;(with_reducible refine AgR rfl _ _ _ 168 rfl (w.heap.size+1+1) (.agg (ints .u8 r).toArray) (.int .i64 k) ?_ ?_ ?_ HRUN.o ?_);rfl;rfl;rfl))
    go_roundw
    case rel=>exact⟨k+1,HKN.o,by go_num,MN.o,X3N.o,X4N.o,BN.o⟩
    case measure=>simp[intOf];omega
  .obtain rfl:k=n0:=by omega
   have IMR:=bx MR.o
   go_upto_region 9 with((with_reducible refine Aaj 35 _ rfl _ [.slice AL n cl,.slice AE ne ce] ?_ ?_ X4.o Tryz.underlying35 rfl ?_ ?_);rfl;rfl;exact Ad9 _ _)
   refine(Aff AL AE n cl ne ce G HG.o hne _ (R2.o.below BR.o)).mono ?_;rintro e w1 ⟨b,rfl,hbs,hgm,hb⟩
   have B1:=bx (BR.o.trans (hb.mono BR.o.size))
   have GM1:=bx hgm
   have IM1:=bx (IMR.o.below hb IMR.o.lt)
   have X31:=bx (X3.o.below hb X3.o.lt)
   have X41:=bx (X4.o.below hb X4.o.lt)
   have hc1:w1.cell? ⟨w.heap.size,0,none⟩=some (.slice A0 k c0):=X31.o.cell 0
   have hmk1:=HMK.o w1
   have RV:=bx (R1.o.below B1.o)
   have RB:=bx (R3.o.below B1.o)
   have O1:=bx (Has.new w1 (ints .u64 (List.replicate k 0)) 23)
   rw[<-L0.o,<-Aid (ns:=ns) (vs:=vs) (G:=G) (bs:=bs)]at O1
   rw[<-L0.o,<-Aid (ns:=ns) (vs:=vs) (G:=G) (bs:=bs),L0.o]at hmk1
   have BX1:=bx (ext_alloc w1 (.cells (ints .u64 (dirL ns vs G bs 0)).toArray 23))
   clear hb hgm MR X3 X4 BR IMR HMK
   go_wp2_with fail
   clear hmk1 hc1
   go_loopw [43] (fun i wr=>∃m:Nat,m<=n/\i=.int .i64 m/\Has wr w1.heap.size (ints .u64 (dirL ns vs G bs m))/\Below w1.heap.size w1 wr) (fun i _=>n-(intOf i).toNat)
   case atStart=>exact⟨0,Nat.zero_le _,rfl,O1.o,BX1.o⟩
   case round=>
    obtain⟨m,hm,rfl,ho,hbel⟩:=hrel
    have OR:=bx ho
    have BL:=bx hbel
    clear ho hbel O1 BX1
    by_cases hmn:m<n
    .have hmi:(m:Int)<(n:Int):=by omega
     have hm0:(0:Int)<=(m:Int):=by omega
     have HMN:=bx hmn
     have MEA:Bx (n-(intOf (.int .i64 ((m:Int)+1))).toNat<n-(intOf (.int .i64 (m:Int))).toNat):=⟨by simp[intOf];omega⟩
     have hmv:m<vs.length:=by rw[L1.o];exact hmn
     have hmb:m<bs.length:=by rw[L3.o];exact hmn
     obtain⟨gv,pv,rfl,hgv⟩:=(RV.o.below BL.o).2.2 (by omega)
     obtain⟨gb,pb,rfl,hgb⟩:=(RB.o.below BL.o).2 (by omega)
     have VROW:=bx hgv
     have VLN:=bx RV.o.2.1.len
     have hcb:=URow.cell hgb hmb
     have hvv:vs[m]? = some (vs.getD m zv):=by rw[List.getElem?_eq_getElem hmv];simp[List.getD,List.getElem?_eq_getElem hmv]
     have hvo:(vs.getD m zv).2.2.length=32/\Bt (vs.getD m zv).2.2:=RV.o.2.1 _ (List.mem_of_getElem? hvv)
     have HVV:=bx hvv
     have DCH:=bx (fun h=>Ao8 (ns:=ns) (bs:=bs) (Amz (vs:=vs) (G:=G) (m:=m) h))
     have DGU:=bx (fun h=>Ao8 (ns:=ns) (vs:=vs) (bs:=bs) (Agn (vs:=vs) (G:=G) (m:=m) h))
     have DNO:=bx (fun h1 h2 h3=>AoQ (ns:=ns) (vs:=vs) (G:=G) (bs:=bs) (m:=m) h1 h2 h3)
     have DYE:=bx (fun i h1 h2 h3=>Apt (ns:=ns) (vs:=vs) (G:=G) (bs:=bs) (m:=m) (i:=i) WF.o h1 h2 h3)
     have IXS:=bx (fun i h=>(let ⟨h1,_⟩:=AjL (ns:=ns) (r:=(vs.getD m zv).2.2) (i:=i) ns.length (Nat.le_refl _) h;h1:i<ns.length))
     have DBD:=bx (AfB (ns:=ns) (vs:=vs) (G:=G) HS.o (m:=m) (by omega))
     have hbx:=HS.o.at hmb
     have hc4:wr.cell? ⟨w.heap.size+1,0,none⟩=some (.slice (some ⟨gv,0,none⟩) n cl):=(X41.o.below BL.o X41.o.lt).cell 0
     rw[L0.o]at DNO DYE IXS
     clear hgv hgb hvv hmb
     generalize bs.getD m 0=y at *
     generalize vs.getD m zv=v at *
     obtain⟨hh,ep,r⟩:=v
     have OKV:=bx hvo
     have P0:=bx (Has.new wr (vc zv) 172)
     have EX:=bx (ext_alloc wr (.cells (vc zv).toArray 172))
     go_upto_region 14 with(first|((with_reducible refine AeD (f:=vc) (k:=34) 172 _ rfl ?_ gv vs m ?_ pv VROW.o VLN.o (hh,ep,r) HVV.o Tryz.underlying172 ?_ ?_ ?_);rfl;rfl;rfl;kernel_rfl)|((with_reducible refine wpList_allocZ rfl 172 (vc zv) AlZ rfl ?_))|((with_reducible refine AeC rfl 172 _ _ rfl _ (vc (hh,ep,r)) _ ?_ ?_ P0.o (ArK OKV.o.1) Tryz.underlying172 ?_ (vc_one _) ?_);rfl;rfl;exact cells_vote OKV.o.1;intro w2 hw hg hz;have H2:=bx hw;have B2:=bx (EX.o.grown hg EX.o.size (fun k hk=>by cases hk;exact Nat.le_refl _));clear hw hg hz))
     have BW:=bx (BL.o.trans (B2.o.mono BL.o.size))
     have O2:=bx (OR.o.below B2.o OR.o.lt)
     have GM2:=bx (GM1.o.below BW.o GM1.o.lt)
     have IM2:=bx (IM1.o.below BW.o IM1.o.lt)
     have hlk:=GM2.o.look (Ajg (x:=(m:Int)) (by omega) (by omega))
     have hch:w2.cell? ⟨wr.heap.size,0,none⟩=some (.bool hh):=H2.o.cell 0
     have LR:Bx (r.length=32):=⟨OKV.o.1⟩
     have BR:Bx (Bt r):=⟨OKV.o.2⟩
     have RT:Bx (w2.rangeAt wr.heap.size 2 (ints .u8 r)):=⟨by have:=Acr (ds:=ints .u8 r) 2 H2.o.rangeAll (fun j u hu=>by rw[Nat.add_comm];exact hu);simpa using this⟩
     have LSZ:Bx (w1.heap.size<=w2.heap.size):=⟨BW.o.size⟩
     clear P0 EX OR BL B2 GM2 VROW HVV VLN hc4
     cases hh with
     |false=>
      have DD:=bx (DCH.o rfl)
      clear hlk DCH DGU DNO DYE
      go_wp2_with fail
      go_roundw
      case rel=>exact⟨m+1,HMN.o,by go_num,by rw[DD.o];exact O2.o,BW.o⟩
      case measure=>exact MEA.o
     |true=>
      by_cases hg:(m:Int)∈G
      .have DD:=bx (DGU.o hg)
       rw[decide_eq_true hg]at hlk
       clear hg DCH DGU DNO DYE
       go_wp2_with fail
       go_roundw
       case rel=>exact⟨m+1,HMN.o,by go_num,by rw[DD.o];exact O2.o,BW.o⟩
       case measure=>exact MEA.o
      .rw[decide_eq_false hg]at hlk
       have hli:=IM2.o.look LR.o BR.o
       cases hix:ix ns k r with
       |none=>
        have DD:=bx (DNO.o rfl hg hix)
        have hli2:(Instr.lookup 168 (.map (some (w.heap.size+1+1))) (.agg (ints .u8 r).toArray) true).run Tryz.prog w2=.ok (.tuple #[.int .i64 0,.bool false]) w2:=by rw[hix]at hli;exact hli
        clear hg DCH DGU DNO DYE hli hix IXS
        go_wp2_with ((with_reducible refine Ab0 29 _ rfl ?_ wr.heap.size 2 (ints .u8 r) RT.o ?_ Tryz.underlying29 ?_ ?_ ?_);rfl;rfl;rfl;exact cells_root LR.o)
        go_roundw
        case rel=>exact⟨m+1,HMN.o,by go_num,by rw[DD.o];exact O2.o,BW.o⟩
        case measure=>exact MEA.o
       |some i=>
        have DD:=bx (DYE.o i rfl hg hix)
        have hli2:(Instr.lookup 168 (.map (some (w.heap.size+1+1))) (.agg (ints .u8 r).toArray) true).run Tryz.prog w2=.ok (.tuple #[.int .i64 (i:Int),.bool true]) w2:=by rw[hix]at hli;exact hli
        have hin:=IXS.o i hix
        have hil:i<(dirL ns vs G bs m).length:=by rw[AcG,L0.o];exact hin
        have hini:(i:Int)<(k:Int):=by omega
        have hi0:(0:Int)<=(i:Int):=by omega
        have hco:w2.cell? ⟨w1.heap.size,i,none⟩=some (.int .u64 ((dirL ns vs G bs m).getD i 0)):=(O2.o.cell i).trans (ints_at hil)
        have hfo:w2.frozen? ⟨w1.heap.size,i,none⟩=false:=O2.o.frozen i
        have hxb:0<=(dirL ns vs G bs m).getD i 0/\(dirL ns vs G bs m).getD i 0<=4611686018427387904:=by rw[getD_at hil];exact DBD.o _ (List.getElem_mem hil)
        have S9:=bx (O2.o.set i (.int .u64 ((dirL ns vs G bs m).getD i 0+y)))
        rw[ArP,<-DD.o]at S9
        have B9:=bx (BW.o.grown (AbI w2 w1.heap.size i (.int .u64 ((dirL ns vs G bs m).getD i 0+y))) BW.o.size (fun k hk=>by cases hk;exact Nat.le_refl _))
        clear hg DCH DGU DNO DYE hli hix IXS DD DBD hil hin O2
        generalize(dirL ns vs G bs m).getD i 0=x at *
        have hxy:(x+y)%18446744073709551616=x+y:=by omega
        go_wp2_with ((with_reducible refine Ab0 29 _ rfl ?_ wr.heap.size 2 (ints .u8 r) RT.o ?_ Tryz.underlying29 ?_ ?_ ?_);rfl;rfl;rfl;exact cells_root LR.o)
        go_roundw
        case rel=>exact⟨m+1,HMN.o,by go_num,S9.o,B9.o⟩
        case measure=>exact MEA.o
    .obtain rfl:m=n:=by omega
     have U64D:Bx (U64 (dirL ns vs G bs m)):=⟨fun x hx=>by have:=AfB (ns:=ns) (vs:=vs) (G:=G) HS.o (m:=m) (by rw[L3.o];exact Nat.le_refl _) x hx;omega⟩
     go_wp2_with fail
     go_ret
     exact⟨_,_,rfl,U64D.o,⟨by rw[AcG,L0.o],fun _=>⟨_,[],rfl,by rw[List.append_nil];exact OR.o⟩⟩,B1.o.trans (BL.o.mono B1.o.size)⟩
theorem Ahn{G bs:List Int}(h:SmT bs):∀k,k<=bs.length->0<=totV G bs k/\totV G bs k<=(bs.take k).sum
 |0,_=>by simp[totV]
 |k+1,hk=>by
  have h1:=Ahn (G:=G) h k (by omega)
  have h2:=h.at (show k<bs.length by omega)
  have e:(bs.take (k+1)).sum=(bs.take k).sum+bs.getD k 0:=by rw[List.take_succ_eq_append_getElem (by omega),List.sum_append_int,getD_at (by omega)];simp
  unfold totV
  rw[e]
  split<;>omega
theorem Anf{G bs:List Int}(h:SmT bs)(k:Nat)(hk:k<=bs.length):0<=totV G bs k/\totV G bs k<=4611686018427387904:=by
 have h1:=Ahn (G:=G) h k hk
 have h2:=Ae2 h.1 k
 have h3:=h.2
 omega
theorem Ajk{bs:List Int}:∀k,k<=bs.length->totV [] bs k=(bs.take k).sum
 |0,_=>by simp[totV]
 |k+1,hk=>by
  have h1:=Ajk (bs:=bs) k (by omega)
  have e:(bs.take (k+1)).sum=(bs.take k).sum+bs.getD k 0:=by rw[List.take_succ_eq_append_getElem (by omega),List.sum_append_int,getD_at (by omega)];simp
  unfold totV
  rw[e,h1]
  simp
theorem Akv(AL AE Ab:Option Addr)(nl cl ne ce n cb:Nat)(G bs:List Int)(hG:GOk G)(hn:ne<=4096)(hs:SmT bs)(hb9:n<=100)(w:World)(h:GRow w AE ne G)(h1:URow w Ab n bs) :
  Calls Tryz.prog 57 #[.agg #[.slice AL nl cl,.slice AE ne ce],.slice Ab n cb] w fun e w'=>e=.returned (.int .u64 (totV G bs n))/\Below w.heap.size w w':=by
 have GR:=bx h
 have HG:=bx hG
 have HN:=bx hn
 have UR:=bx h1
 have LB:=bx h1.1
 have HS:=bx hs
 have X0:=bx (Ahk w (.slice AL nl cl) (.slice AE ne ce))
 have B0:=bx (ext_alloc w (.cells #[.slice AL nl cl,.slice AE ne ce] 35))
 clear h hG h1 hs
 go_enter Tryz.func57,Tryz.ntmps57
 go_wp2_with ((with_reducible refine Aaj 35 _ rfl _ [.slice AL nl cl,.slice AE ne ce] ?_ ?_ X0.o Tryz.underlying35 rfl ?_ ?_);rfl;rfl;exact Ad9 _ _)
 refine(Aff AL AE nl cl ne ce G HG.o hn _ (GR.o.below B0.o)).mono ?_;rintro e w1 ⟨b,rfl,hbs,hgm,hb⟩
 have B1:=bx (B0.o.trans (hb.mono B0.o.size))
 have GM:=bx hgm
 have LB2:=bx hgm.lt
 clear hb hgm X0 B0 hbs
 go_wp2_with fail
 go_loop [6,13] (fun s i=>∃k:Nat,k<=n/\i=.int .i64 k/\s=.int .u64 (totV G bs k)) (fun _ i=>n-(intOf i).toNat)
 case atStart=>exact⟨0,Nat.zero_le _,rfl,rfl⟩
 case round=>
  obtain⟨k,hk,rfl,rfl⟩:=hrel
  by_cases hkn:k<n
  .have hki:(k:Int)<(n:Int):=by omega
   have hk0:(0:Int)<=(k:Int):=by omega
   have hkl:k<bs.length:=by rw[LB.o];exact hkn
   obtain⟨gb,pb,rfl,hgb⟩:=(UR.o.below B1.o).2 (by omega)
   have hcb:=URow.cell hgb hkl
   have hlk:=GM.o.look (Ajg (x:=(k:Int)) (by omega) (by omega))
   have hb1:=HS.o.at hkl
   have hb2:=Anf (G:=G) HS.o k (by omega)
   have hts:totV G bs (k+1)=totV G bs k+if(k:Int)∈G then 0 else bs.getD k 0:=rfl
   have HTS:=bx hts
   clear hgb hts
   generalize bs.getD k 0=x at *
   generalize totV G bs k=s at *
   have hsx:(s+x)%18446744073709551616=s+x:=by omega
   by_cases hmem:(k:Int)∈G
   .rw[decide_eq_true hmem]at hlk
    have HT:=bx (show totV G bs (k+1)=s by rw[HTS.o,if_pos hmem];omega)
    clear hmem
    go_wp2_with fail
    go_round
    case rel=>exact⟨k+1,by omega,by go_num,by rw[HT.o]⟩
    case measure=>simp[intOf];omega
   .rw[decide_eq_false hmem]at hlk
    have HT:=bx (show totV G bs (k+1)=s+x by rw[HTS.o,if_neg hmem])
    clear hmem
    go_wp2_with fail
    go_round
    case rel=>exact⟨k+1,by omega,by go_num,by rw[HT.o]⟩
    case measure=>simp[intOf];omega
  .obtain rfl:k=n:=by omega
   go_wp2_with fail
   go_ret
   exact⟨rfl,B1.o⟩
end Old
section
open Go.RowKit Old
def regS(s:Sto)(t:Tbl):Int × Sto:=
 if tbE t.b (s.bal.length:Int)≠0 then(tbE t.b (s.bal.length:Int),st0)else if t.c.e.n<s.just.e.n then(13,st0)else
  if(regM s.tabs t (s.bal.length:Int) s.c.tl).1≠0 then((regM s.tabs t (s.bal.length:Int) s.c.tl).1,st0)else(0,{s with tabs:=(regM s.tabs t (s.bal.length:Int) s.c.tl).2})
theorem Ah2(Γ:Gam)(s:Sto)(v:Sls)(t:Tbl)(y:Sl)(hb:t.b.length<=65535)(ht:s.tabs.length<=65535)(w:World)(ok:Ok Γ w)(h:StG Γ v s)(hy:SlR Γ y t.b.length (us t.b)) :
  Calls Tryz.prog 132 #[.agg (fl (stP s v)).toArray,.agg (fl (tbP t.c y.v)).toArray] w (StE Γ w (regS s t).1 (regS s t).2):=by
 have M:=bx (MM.start ok)
 have HG:=bx h
 have VA:=bx (fun w ok=>Ach Γ s v w ok h)
 have yv:y.v=.slice y.A t.b.length y.c:=by rw[<-hy.n]
 have hys:SlG Γ y.A t.b.length (us t.b):=by have:=hy.sl;rwa [hy.n]at this
 have hyc:CapOk y.A t.b.length y.c:=by have:=hy.cap;rwa [hy.n]at this
 have VT:Bx (∀w,Ok Γ w->Calls Tryz.prog 64 #[.agg (fl (tbP t.c y.v)).toArray,.int .i64 (s.bal.length:Int)] w fun e w'=>e=.returned (.int .i64 (tbE t.b (s.bal.length:Int)))/\Below w.heap.size w w'):=⟨fun w ok=>by
  rw[yv]
  exact AdZ t.c t.b hb y.A y.c (s.bal.length:Int) w (hys.row (size:=1) (by rw[AcY,Nat.mul_one]) ok)⟩
 have RG:Bx (∀w,Ok Γ w->Calls Tryz.prog 170 #[v.tabs.v,.agg (fl (tbP t.c y.v)).toArray,.int .i64 (s.bal.length:Int),.int .i64 s.c.tl] w (RefRg Γ w (regM s.tabs t (s.bal.length:Int) s.c.tl))):=⟨fun w ok=>
  AfW Γ v.tabs.A v.tabs.n v.tabs.c s.tabs t y.v (s.bal.length:Int) s.c.tl (by rw[<-h.tabs.2.1];exact ht) hb w ok h.tabs.2 h.tabs.1 ⟨rfl,y.A,y.c,yv,hyc,hys⟩⟩
 have HD:Bx (regS s t=if tbE t.b (s.bal.length:Int)≠0 then(tbE t.b (s.bal.length:Int),st0)else if t.c.e.n<s.just.e.n then(13,st0)else
  if(regM s.tabs t (s.bal.length:Int) s.c.tl).1≠0 then((regM s.tabs t (s.bal.length:Int) s.c.tl).1,st0)else(0,{s with tabs:=(regM s.tabs t (s.bal.length:Int) s.c.tl).2})):=⟨rfl⟩
 clear ok h hy hb ht yv hys hyc
 generalize regS s t=res at *
 generalize tbE t.b (s.bal.length:Int)=te at *
 generalize regM s.tabs t (s.bal.length:Int) s.c.tl=r at *
 obtain⟨r1,r2⟩:=r
 simp only at HD
 go_enter Tryz.func132,Tryz.ntmps132
 (go_wp2_with (first|((first|refine zBXo ?_|refine zALo (ztSt) ?_);clear M;intro w' g M)))
 refine zRG ?_;(repeat((go_big_quiet_want;first|((with_reducible refine AbD ?_);first|((first|refine zQC (AaJ (clsE M.o VA.o)) Tryz.func167 ?_|refine zQC (AfY (clsE M.o VT.o)) Tryz.func64 ?_);go_big_quiet_on;refine zNM ?_))|(refine zQAo ?_;go_big_quiet_on;refine zNM ?_)|(refine zQO ?_;go_big_quiet_on))));(refine zQN ?_;clear M;intro w4 M)
 clear VT
 by_cases h0:te=0
 .have h0b:(te != 0)=false:=by simp[h0]
  have HD2:=bx (HD.o.trans (if_neg (by omega)))
  clear HD h0
  rcases two2 t.c.e.n s.just.e.n with⟨j1,j2⟩|⟨j1,j2⟩
  .have HR:=bx (HD2.o.trans (if_pos j1))
   clear HD2 RG
   (go_wp2_with (first|(refine zSSo M 0 (stP st0 x0) (stP st0 x0) (AaD _ _) (Aaa _ _) ?_;clear M;intro w' M)|refine zLAo ?_|refine zBDo 49 [] (fl (stP st0 x0)) (by kernel_rfl) ?_));refine zRt M.o.at0 ?_;rw[HR.o];exact StE.err M.o.ext
  .have HD3:=bx (HD2.o.trans (if_neg j1))
   clear HD2
   (go_wp2_with (refine zLAo ?_))
   refine AaB [] (.steps [(1,0),(0,1),(0,2),(0,3),(1,5),(1,6),(1,7),(0,8),(2,4),(2,9),(1,10),(1,11),(1,12),(1,13),(1,14)] .leaf) (by kernel_rfl) (by kernel_rfl) ?_;(simp only[MixT6,MT.steps,stepAt,List.getD_cons_zero,List.getD_cons_succ]);replace M:=bx (M.o.drew)
   refine zNM ?_
   refine zMRo ?_
   refine zMC (VA.o _ M.ok) Tryz.func167 ?_
   rintro e2 w2 ⟨rfl,hx2⟩
   refine⟨_,rfl,hx2.bel,?_⟩
   replace M:=bx (M.o.call hx2)
   clear hx2
   refine zNM ?_
   refine zMRo ?_
   refine zMC (RG.o _ M.ok) Tryz.func170 ?_
   rintro e3 w3 ⟨A3,c3,Γ3,rfl,hc3,ht3,hx3⟩
   refine⟨_,rfl,hx3.bel,?_⟩
   replace M:=bx (M.o.call hx3)
   have HT3:=bx (show TabsG Γ3 ⟨A3,r2.length,c3⟩ r2 from⟨hc3,ht3⟩)
   clear hx3 hc3 ht3 RG VA
   refine zNM ?_
   refine zMRo ?_
   refine NoPanic.normal ?_
   by_cases h1:r1=0
   .have h1b:(r1 != 0)=false:=by simp[h1]
    have HR:=bx (HD3.o.trans (if_neg (by omega)))
    clear HD3 h1
    (go_wp2_with (first|((first|refine zS1o M 2 (.slice A3 r2.length c3) (stP {s with tabs:=r2} {v with tabs:=⟨A3,r2.length,c3⟩}) ?_|refine zSSo M 0 (stP {s with tabs:=r2} {v with tabs:=⟨A3,r2.length,c3⟩}) (stP {s with tabs:=r2} {v with tabs:=⟨A3,r2.length,c3⟩}) (AaD _ _) (Aaa _ _) ?_);clear M;intro w' M)|refine zLAo ?_))
    refine zRt M.o.at0 ?_
    rw[HR.o]
    exact StE.mk _ {HG.o.mono M.o.ext.le with tabs:=HT3.o} M.o.ext
   .have h1b:(r1 != 0)=true:=by simp[h1]
    have HR:=bx (HD3.o.trans (if_pos h1))
    clear HD3 h1
    (go_wp2_with (first|(refine zSSo M 0 (stP st0 x0) (stP st0 x0) (AaD _ _) (Aaa _ _) ?_;clear M;intro w' M)|refine zLAo ?_|refine zBDo 49 [] (fl (stP st0 x0)) (by kernel_rfl) ?_));refine zRt M.o.at0 ?_;rw[HR.o];exact StE.err M.o.ext
 .have h0b:(te != 0)=true:=by simp[h0]
  have HR:=bx (HD.o.trans (if_pos h0))
  clear HD h0 RG VA
  (go_wp2_with (first|(refine zSSo M 0 (stP st0 x0) (stP st0 x0) (AaD _ _) (Aaa _ _) ?_;clear M;intro w' M)|refine zLAo ?_|refine zBDo 49 [] (fl (stP st0 x0)) (by kernel_rfl) ?_));refine zRt M.o.at0 ?_;rw[HR.o];exact StE.err M.o.ext
theorem elAt:ElT Tryz.prog 40 113 67 104:=Abr Tryz.underlying40 (by kernel_rfl) (by decide) (by decide)
def AttP(Γ:Gam)(w:World)(s:Sto)(a:Att)(e:Ending)(w':World):Prop:=
 (∃er:Int,er≠0/\er≠21/\StE Γ w er st0 e w')\/(VList a.l (s.bal.length:Int)/\(StE Γ w 0 {s with lat:=(castV s.lat a.t.e a.r a.l).1} e w'\/((s.early.length:Int)<s.c.el/\StE Γ w 0 {s with early:=s.early ++ [a]} e w')))
theorem VList.mem{l:List Int}{n:Int}(h:VList l n):∀y∈l,0<=y/\y<n:=fun y hy=>by
 obtain⟨j,hj,rfl⟩:=List.getElem_of_mem hy
 exact(h.2 j hj hj).1
theorem VList.pos{l:List Int}{n:Int}(h:VList l n):0<n:=by
 obtain⟨y,t,e⟩:=List.exists_cons_of_ne_nil h.1
 have:=h.mem y (by rw[e];simp)
 omega
theorem Akl{Γ:Gam}{X:List (Att × Sl)}{T:List Att}{a:Att}{y:Sl}{A:Option Addr}{n c:Nat}(hX:X.map Prod.fst=T)(hA:∀x∈X,AtG Γ x.1 x.2)(hn:n=T.length)(h1:CapOk A (n+1) c)(h2:SlG Γ A (n+1) (X.flatMap atx++fl (atP a y)))(ha:AtG Γ a y):AtsG Γ ⟨A,n+1,c⟩ (T ++ [a]):=by
 refine⟨X ++ [(a,y)],by rw[List.map_append,hX];rfl,fun x hx=>?_,by simp[hn],h1,?_⟩
 .rcases List.mem_append.1 hx with hx|hx
  .exact hA x hx
  .have:x=(a,y):=by simpa using hx
   subst this;exact ha
 .have e:(X ++ [(a,y)]).flatMap atx=X.flatMap atx++fl (atP a y):=by simp
  rw[e];exact h2
theorem AlW(Γ:Gam)(s:Sto)(v:Sls)(a:Att)(x:Sl)(hs:SpeOk s)(hk:Lk (upsN s.nodes))(hb:s.nodes.length<=4096)(hlb:a.l.length<=30000)(hl:s.lat.length=s.bal.length)(hl2:s.lat.length<=30000)(hel:s.early.length<=30000)(w:World)(ok:Ok Γ w)(h:StG Γ v s)(ha:AtG Γ a x) :
  Calls Tryz.prog 130 #[.agg (fl (stP s v)).toArray,.agg (fl (atP a x)).toArray] w (AttP Γ w s a):=by
 have M:=bx (MM.start ok)
 have HG:=bx h
 have CK:=bx (fun w ok=>Aex Γ s v a x hs hk hb (by omega) w ok h ha)
 have CI:=bx (fun(hv:VList a.l (s.bal.length:Int)) w ok=>AlS Γ s v a x w ok h ha (by have:=hv.pos;omega) (by omega) (by omega) (by rw[hl];exact hv.mem))
 obtain⟨X,hX,hXA,hXS⟩:=h.early
 have XE:=bx hX
 have XA:=bx hXA
 have LN:=bx hXS.n
 have hXl:X.length=s.early.length:=by rw[<-hX,List.length_map]
 have ROW:Bx (∀{Γ':Gam} w',Ok Γ' w'->Le Γ Γ'->Row w' w'.heap.size 67 v.early.A v.early.n (X.flatMap atx)):=⟨fun w' o hle=>(hXS.sl.mono hle).row (size:=67) (by rw[Aah X (fun x _=>Aio _ _),hXl,hXS.n]) o⟩
 have CAP:=bx hXS.cap.nil
 have OneX:Bx (One (X.flatMap atx)):=⟨AbM fun x _=>Adl _ _⟩
 have ROWa:Bx (∀w',Ok Γ w'->Row w' w'.heap.size 1 x.A a.l.length (ints .i64 a.l)):=⟨fun w' o=>by
  have hs:=ha.sl
  rw[ha.n]at hs
  exact hs.row (size:=1) (by rw[ints_len,Nat.mul_one]) o⟩
 have CAPa:=bx ha.cap.nil
 have xv:x.v=.slice x.A a.l.length x.c:=by rw[<-ha.n]
 have XV:=bx xv
 have hen:v.early.n<=30000:=by rw[hXS.n];exact hel
 clear ok h ha hk hb hl hl2 hs hX hXA hXS hXl hel xv
 go_enter Tryz.func130,Tryz.ntmps130
 (go_wp2_with (first|((first|refine zBXd ?_|refine zALd (ztSt) ?_);clear M;intro w' g M)|refine zLAd ?_))
 refine(CK.o _ M.ok).mono ?_
 rintro e1 w1 ⟨ea,er,rfl,hv,hx1⟩
 replace M:=bx (M.o.call hx1)
 have HV:=bx hv
 clear hv hx1
 by_cases h0:er=0
 .subst h0
  have CI':=bx (CI.o (HV.o.1 (by simp)))
  clear CI
  cases ea
  ·(go_wp2_with (refine zLAd ?_))
   refine(CI'.o _ M.ok).mono ?_
   rintro e2 w2 ⟨v2,Γ2,rfl,hg2,hx2⟩
   replace M:=bx (M.o.call hx2)
   have HG2:=bx hg2
   clear hg2 hx2
   (go_wp2_with (first|refine zLAd ?_|(refine zSSd M 0 (stP {s with lat:=(castV s.lat a.t.e a.r a.l).1} v2) (stP {s with lat:=(castV s.lat a.t.e a.r a.l).1} v2) (AaD _ _) (Aaa _ _) ?_;clear M;intro w' M)))
   refine zRt M.o.at0 ?_
   exact .inr ⟨HV.o.1 (by simp),.inl (StE.mk _ HG2.o M.o.ext)⟩
  .by_cases hli:s.c.el<=(v.early.n:Int)
   ·(go_wp2_with (first|refine zLAd ?_|refine zBDd 49 [] (fl (stP st0 x0)) (by kernel_rfl) ?_|(refine zSSd M 0 (stP st0 x0) (stP st0 x0) (AaD _ _) (Aaa _ _) ?_;clear M;intro w' M)))
    refine zRt M.o.at0 ?_
    exact .inl ⟨_,by decide,by decide,StE.err M.o.ext⟩
   .have EL:Bx ((s.early.length:Int)<s.c.el):=⟨by have:=LN.o;omega⟩
    go_upto_region 8 with(refine zLAd ?_)
    go_wp2_with (first|refine zLHd XV ?_|(at_builtin;(with_reducible apply Aae (M.o.row0 3 1) AbO (ROWa.o _ M.ok) CAPa.o);exact One.ints _ _;(unfold maxLen;omega);omega;rfl;rfl;rfl;rfl;intro A' c' w' M';(simp only[Nat.zero_add,List.nil_append]at M');(replace M:=bx M';clear M'))|(refine zS1d M 1 (.slice A' a.l.length c') (atP a ⟨A',a.l.length,c'⟩) ?_;clear M;intro w' M))
    refine AaB [6,9] (.steps [(1,0),(1,1),(0,2),(0,4)] (.fork 3 (.steps [(2,5),(3,6),(1,7),(1,8),(3,9)] .leaf) 5 (.steps [(2,3),(3,6),(1,7),(1,8),(3,9)] .leaf))) (by kernel_rfl) (by kernel_rfl) ?_;(simp only[MixT6,MT.steps,stepAt,List.getD_cons_zero,List.getD_cons_succ]);replace M:=bx (M.o.drew)
    refine zNM ?_
    refine zMRd ?_
    refine⟨?_,?_⟩
    focus
     (obtain⟨A1,c1,w1,hr,hM,hb⟩:=Aal elAt M.o 40 v.early.A v.early.n v.early.c _ (ROW.o _ M.ok M.o.ext.le) CAP.o OneX.o (by unfold maxLen;omega) (by omega));refine AaA (AaE rfl rfl rfl hr) rfl ?_;refine⟨hb,?_⟩;clear M;have M:=bx hM;clear hM hr hb;refine zNM ?_
     refine AaA (Aau elAt rfl rfl (v:=.agg (fl (atP a ⟨A',a.l.length,c'⟩)).toArray) (cs:=fl (atP a ⟨A',a.l.length,c'⟩)) rfl (Aio _ _)) rfl ?_;refine⟨ext_alloc _ _,?_⟩;replace M:=bx (M.o.alloc (P:=(atP a ⟨A',a.l.length,c'⟩)) (AbB _ _) rfl 113);refine zNM ?_
    rotate_left
    focus
     refine AaA (Aau elAt rfl rfl (v:=.agg (fl (atP a ⟨A',a.l.length,c'⟩)).toArray) (cs:=fl (atP a ⟨A',a.l.length,c'⟩)) rfl (Aio _ _)) rfl ?_;refine⟨ext_alloc _ _,?_⟩;replace M:=bx (M.o.alloc (P:=(atP a ⟨A',a.l.length,c'⟩)) (AbB _ _) rfl 113);refine zNM ?_
     (obtain⟨A1,c1,w1,hr,hM,hb⟩:=Aal elAt M.o 40 v.early.A v.early.n v.early.c _ (ROW.o _ M.ok M.o.ext.le) CAP.o OneX.o (by unfold maxLen;omega) (by omega));refine AaA (AaE rfl rfl rfl hr) rfl ?_;refine⟨hb,?_⟩;clear M;have M:=bx hM;clear hM hr hb;refine zNM ?_
    all_goals
     (obtain⟨v5,w5,hr,hM⟩:=AaW elAt M.o 40 _ 1 1 _ (Aaf M.o.at0 (m:=1) rfl) (fun h=>by cases h) (Adl _ _) (by unfold maxLen;omega) (by omega));refine AaA (AaE rfl rfl rfl hr) rfl ?_;replace M:=bx (hM.tail);clear hr hM;refine zNM ?_;refine zMRd ?_;(obtain⟨A6,c6,e6⟩:=own_slice (M.o.rows _ (List.mem_cons_self ..));simp only at e6;subst e6);refine Aa6 M.o 2 (.slice A6 (v.early.n+1) c6) (stP {s with early:=s.early ++ [a]} {v with early:=⟨A6,v.early.n+1,c6⟩}) rfl rfl rfl rfl Anx rfl rfl rfl rfl rfl rfl ?_;intro w7 M';(simp only[List.set_cons_zero,List.set_cons_succ]at M');(replace M:=bx M';clear M');refine zNM ?_;refine zMRd ?_;refine NoPanic.normal ?_;(go_wp2_with (first|refine zLAd ?_|(refine zSSd M 0 (stP {s with early:=s.early ++ [a]} {v with early:=⟨A6,v.early.n+1,c6⟩}) (stP {s with early:=s.early ++ [a]} {v with early:=⟨A6,v.early.n+1,c6⟩}) (AaD _ _) (Aaa _ _) ?_;clear M;intro w' M)));obtain⟨Γ',h1,h2,h3,h4⟩:=M.o.frz;obtain⟨Γ2,g1,g2,g3,g4⟩:=h4.frz;refine zRt g4.at0 ?_;exact .inr ⟨HV.o.1 (by simp),.inr ⟨EL.o,StE.mk _ {HG.o.mono g4.ext.le with early:=Akl XE.o (fun x hx=>(XA.o x hx).mono g4.ext.le) LN.o h1 (h2.mono g3) ⟨rfl,g1,g2⟩} g4.ext⟩⟩
 .have h0b:(er==0)=false:=beq_eq_false_iff_ne.2 h0
  have H0:=bx h0
  clear h0
  (go_wp2_with (first|refine zLAd ?_|refine zBDd 49 [] (fl (stP st0 x0)) (by kernel_rfl) ?_|(refine zSSd M 0 (stP st0 x0) (stP st0 x0) (AaD _ _) (Aaa _ _) ?_;clear M;intro w' M)))
  refine zRt M.o.at0 ?_
  exact .inl ⟨_,H0.o,HV.o.2,StE.err M.o.ext⟩
theorem AjP{α:Type}(p:α->Bool){l:List α}{k:Nat}(hk:k<l.length):(l.take (k+1)).filter p=if p l[k]=true then(l.take k).filter p ++ [l[k]]else(l.take k).filter p:=by
 rw[List.take_succ_eq_append_getElem hk,List.filter_append]
 split<;>rename_i h<;>simp[h]
def RqsP(Γ:Gam)(w:World)(m:List Rq)(e:Ending)(w':World):Prop:=∃(A:Option Addr) (c:Nat) (Γ':Gam),e=.returned (.slice A m.length c)/\CapOk A m.length c/\SlG Γ' A m.length (m.flatMap rqx)/\Ext Γ w Γ' w'
def knownR(N:List Nod)(l:List Rq):List Rq:=l.filter fun q=>decide (0<=fndI N q.block)
theorem Agl(Γ:Gam)(z:Zst)(x:Zls)(A:Option Addr)(c:Nat)(l:List Rq)(w:World)(ok:Ok Γ w)(h:ZsG Γ x z)(hl:SlG Γ A l.length (l.flatMap rqx))(hb:l.length<=30000) :
  Calls Tryz.prog 162 #[.agg (fl (zsP z x)).toArray,.slice A l.length c] w (RqsP Γ w (knownR z.s.nodes l)):=by
 have M:=bx (MM.start ok)
 have FI:=bx (fun r w ok=>Aag Γ x.s.nodes z.s.nodes r w ok h.s.nodes)
 have HS:=bx hl
 have PT:Bx (∀k (hk:k<l.length),knownR z.s.nodes (l.take (k+1))=if decide (0<=fndI z.s.nodes l[k].block)=true then knownR z.s.nodes (l.take k) ++ [l[k]]else knownR z.s.nodes (l.take k)):=⟨fun k hk=>AjP _ hk⟩
 have PL:Bx (∀k,(knownR z.s.nodes (l.take k)).length<=k):=⟨fun k=>Nat.le_trans (List.length_filter_le _ _) (by rw[List.length_take];omega)⟩
 have HB:=bx hb
 clear ok h hl hb
 go_enter Tryz.func162,Tryz.ntmps162
 (go_wp2_with (refine zBXo ?_;clear M;intro w' g M))
 go_loopw [5,6] (fun o j wr=>∃(k:Nat) (A1:Option Addr) (c1:Nat),k<=l.length/\j=.int .i64 k/\o=.slice A1 (knownR z.s.nodes (l.take k)).length c1/\MM Γ w Γ wr [⟨g,zsP z x,zsL⟩] [⟨.slice A1 (knownR z.s.nodes (l.take k)).length c1,151,35,(knownR z.s.nodes (l.take k)).length,(knownR z.s.nodes (l.take k)).flatMap rqx⟩]) (fun _ j _=>l.length-(intOf j).toNat)
 case atStart=>exact⟨0,none,0,Nat.zero_le _,rfl,rfl,M.o.row0 _ _⟩
 case round=>
  obtain⟨k,A1,c1,hk,rfl,rfl,hM⟩:=hrel
  clear M
  have M:=bx hM
  clear hM
  have hbb:=HB.o
  have hpl:=PL.o k
  by_cases hkn:k<l.length
  .obtain⟨gk,rfl,hf⟩:=HS.o.at (fun x _=>AbC x) rfl k hkn
   have F1:Bx (Fz Γ gk (k*35) (rqP l[k]) [1,32,1,1]):=⟨hf,AaY _⟩
   have PT':=bx (PT.o k hkn)
   have hki:(k:Int)<(l.length:Int):=by omega
   have hk0:0<=(k:Int):=by omega
   have FI':=bx (FI.o l[k].block)
   clear hf
   generalize l[k]=y at *
   generalize hkk:knownR z.s.nodes (l.take k)=m at *
   generalize fndI z.s.nodes y.block=f at *
   have EC:=bx (clsE M.o FI'.o)
   by_cases h0:0<=f
   .replace PT':=bx (PT'.o.trans (if_pos (decide_eq_true h0)))
    (go_wp2_with (fail))
    refine zRG ?_;(repeat((go_big_quiet_want;first|(refine zQFo F1 ?_;go_big_quiet_on;refine zNM ?_)|((with_reducible refine AbD ?_);(refine zQC (AaJ EC.o) Tryz.func24 ?_;go_big_quiet_on;refine zNM ?_))|(refine zQAo ?_;go_big_quiet_on;refine zNM ?_)|(refine zQO ?_;go_big_quiet_on))));(refine zQN ?_;clear M;intro w4 M)
    clear EC
    (go_wp2_with (first|refine zRFo F1 ?_|((with_reducible apply AbP M.o elRq);rfl;rfl;rfl;rfl;exact AaY _;rfl;intro w' g M' hb';(replace M:=bx M';clear M');clear hb')|(at_builtin;(with_reducible apply AaU M.o elRq);rfl;exact AbF _;(unfold maxLen;omega);omega;rfl;rfl;rfl;rfl;intro A' c' w' M';(replace M:=bx M';clear M'))))
    go_roundw
    case rel=>exact⟨k+1,A',c',by omega,by go_num,by rw[PT'.o];simp,by
     rw[PT'.o]
     have M1:=M.o
     simp only[List.flatMap_append,List.flatMap_cons,List.flatMap_nil,List.append_nil,List.length_append,List.length_cons,List.length_nil,Nat.zero_add]
     exact M1⟩
    case measure=>simp[intOf]<;>omega
   .replace PT':=bx (PT'.o.trans (if_neg (by simpa using h0)))
    (go_wp2_with (fail))
    refine zRG ?_;(repeat((go_big_quiet_want;first|(refine zQFo F1 ?_;go_big_quiet_on;refine zNM ?_)|((with_reducible refine AbD ?_);(refine zQC (AaJ EC.o) Tryz.func24 ?_;go_big_quiet_on;refine zNM ?_))|(refine zQAo ?_;go_big_quiet_on;refine zNM ?_)|(refine zQO ?_;go_big_quiet_on))));(refine zQN ?_;clear M;intro w4 M)
    clear EC
    (go_wp2_with (fail))
    go_roundw
    case rel=>exact⟨k+1,A1,c1,by omega,by go_num,by rw[PT'.o],by rw[PT'.o];exact M.o⟩
    case measure=>simp[intOf]<;>omega
  .have hki:(l.length:Int)<=(k:Int):=by omega
   have e:knownR z.s.nodes (l.take k)=knownR z.s.nodes l:=by rw[List.take_of_length_le (by omega)]
   rw[e]at M hpl |-
   clear e PT PL
   generalize knownR z.s.nodes l=m at *
   (go_wp2_with (fail))
   go_ret
   obtain⟨Γ',h1,h2,h3,h4⟩:=M.o.frz
   exact⟨A1,c1,Γ',rfl,h1,h2,h4.ext⟩
def opS(z:Zst)(r:Rt):Zst:=if statR z.s.nodes r 0=true then openZ z r 0 else z
def opTo(z:Zst)(l:List Rt):Zst:=l.foldl opS z
theorem Aoy(z:Zst)(l:List Rt):(opTo z l).s=z.s/\(opTo z l).reqs.length<=z.reqs.length+l.length:=by
 unfold opTo
 induction l generalizing z with
 |nil=>simp
 |cons a t ih=>
  obtain⟨h1,h2⟩:=ih (opS z a)
  have h3:(opS z a).s=z.s/\(opS z a).reqs.length<=z.reqs.length+1:=by unfold opS;split<;>simp[openZ]
  simp only[List.foldl_cons,List.length_cons]
  exact⟨h1.trans h3.1,by omega⟩
theorem AjI(Γ:Gam)(z:Zst)(x:Zls)(A:Option Addr)(c:Nat)(l:List Rt)(w:World)(ok:Ok Γ w)(h:ZsG Γ x z)(hl:SlG Γ A l.length (l.flatMap rc))(hb:z.reqs.length<=15000)(hb2:l.length<=15000) :
  Calls Tryz.prog 129 #[.agg (fl (zsP z x)).toArray,.slice A l.length c] w (ZsP Γ w (opTo z l)):=by
 have M:=bx (MM.start ok)
 have HG:=bx h
 have HS:=bx hl
 have PT:Bx (∀k (hk:k<l.length),opTo z (l.take (k+1))=opS (opTo z (l.take k)) l[k]):=⟨fun k hk=>Abi opS z hk⟩
 have PL:Bx (∀k,(opTo z (l.take k)).reqs.length<=30000):=⟨fun k=>by
  have:=(Aoy z (l.take k)).2
  have h2:(l.take k).length<=l.length:=by rw[List.length_take];omega
  omega⟩
 have HB:=bx hb2
 clear ok h hl hb hb2
 go_enter Tryz.func129,Tryz.ntmps129
 (go_wp2_with (first|((first|refine zBXo ?_|refine zALo (ztZs) ?_);clear M;intro w' g M)))
 rename_i gz _ _
 go_loopw [5] (fun j wr=>∃(k:Nat) (Γk:Gam) (xk:Zls),k<=l.length/\j=.int .i64 k/\ZsG Γk xk (opTo z (l.take k))/\MM Γ w Γk wr [⟨g,zsP zs0 zx0,zsL⟩,⟨gz,zsP (opTo z (l.take k)) xk,zsL⟩] []) (fun j _=>l.length-(intOf j).toNat)
 case atStart=>exact⟨0,Γ,x,Nat.zero_le _,rfl,HG.o,M.o⟩
 case round=>
  obtain⟨k,Γk,xk,hk,rfl,hz,hM⟩:=hrel
  clear M
  have M:=bx hM
  have HZ:=bx hz
  clear hM hz
  have hpl:=PL.o k
  have hbb:=HB.o
  by_cases hkn:k<l.length
  .obtain⟨gk,rfl,hf⟩:=(HS.o.mono M.o.ext.le).at (f:=rc) (fun x _=>Aav x) rfl k hkn
   have F1:Bx (Fz Γk gk (k*32) [rc l[k]] [32]):=⟨hf,lenR _⟩
   have PT':=bx (PT.o k hkn)
   have hki:(k:Int)<(l.length:Int):=by omega
   have hk0:0<=(k:Int):=by omega
   have OP:=bx (fun w ok=>Aby Γk (opTo z (l.take k)) xk l[k] w ok HZ.o)
   have ON:=bx (fun w ok=>Any Γk (opTo z (l.take k)) xk l[k] 0 w ok HZ.o hpl)
   clear hf
   generalize l[k]=y at *
   generalize hzk:opTo z (l.take k)=zk at *
   unfold opS at PT'
   have EC:=bx (clsE M.o OP.o)
   cases hst:statR zk.s.nodes y 0 with
   |true=>
    rw[hst]at EC PT'
    replace PT':=bx (PT'.o.trans (if_pos rfl))
    clear OP hst
    (go_wp2_with (fail))
    refine zRG ?_;(repeat((go_big_quiet_want;first|(refine zQFo F1 ?_;go_big_quiet_on;refine zNM ?_)|((with_reducible refine AbD ?_);(refine zQC (AaJ EC.o) Tryz.func160 ?_;go_big_quiet_on;refine zNM ?_))|(refine zQAo ?_;go_big_quiet_on;refine zNM ?_)|(refine zQO ?_;go_big_quiet_on))));(refine zQN ?_;clear M;intro w4 M)
    clear EC
    (go_wp2_with (fail))
    refine AaB [6] (.steps [(0,0),(1,1),(1,2),(1,3),(0,4),(2,5),(3,6)] .leaf) (by kernel_rfl) (by kernel_rfl) ?_;(simp only[MixT6,MT.steps,stepAt,List.getD_cons_zero,List.getD_cons_succ]);replace M:=bx (M.o.drew)
    refine zNM ?_
    (repeat(first|refine zM0 ?_|(go_big_quiet_want;first|((first|refine zQFo F1 ?_|refine zQAo ?_);go_big_quiet_on;refine zNM ?_)|(refine zQO ?_;go_big_quiet_on))))
    refine zMC (ON.o _ M.ok) Tryz.func161 ?_
    rintro e4 w4 ⟨x4,Γ4,rfl,hz4,hx4⟩
    refine⟨_,rfl,hx4.bel,?_⟩
    replace M:=bx (M.o.call hx4)
    have HZ4:=bx hz4
    clear hz4 hx4
    refine zNM ?_
    refine zMRo ?_
    refine Aam M.o 1 (zsP (openZ zk y 0) x4) (zsP (openZ zk y 0) x4) rfl rfl rfl rfl rtZs rfl (AaH _ _) (AaP _ _) rfl rfl ?_
    intro w7 M'
    simp only[List.set_cons_zero,List.set_cons_succ]at M'
    (replace M:=bx M';clear M')
    refine zNM ?_
    refine zMRo ?_
    refine NoPanic.normal ?_
    (go_wp2_with (fail))
    go_roundw
    case rel=>exact⟨k+1,Γ4,x4,by omega,by go_num,by rw[PT'.o];exact HZ4.o,by rw[PT'.o];exact M.o⟩
    case measure=>simp[intOf]<;>omega
   |false=>
    rw[hst]at EC PT'
    replace PT':=bx (PT'.o.trans (if_neg Bool.false_ne_true))
    clear OP hst
    (go_wp2_with (fail))
    refine zRG ?_;(repeat((go_big_quiet_want;first|(refine zQFo F1 ?_;go_big_quiet_on;refine zNM ?_)|((with_reducible refine AbD ?_);(refine zQC (AaJ EC.o) Tryz.func160 ?_;go_big_quiet_on;refine zNM ?_))|(refine zQAo ?_;go_big_quiet_on;refine zNM ?_)|(refine zQO ?_;go_big_quiet_on))));(refine zQN ?_;clear M;intro w4 M)
    clear EC
    (go_wp2_with (fail))
    go_roundw
    case rel=>exact⟨k+1,Γk,xk,by omega,by go_num,by rw[PT'.o];exact HZ.o,by rw[PT'.o];exact M.o⟩
    case measure=>simp[intOf]<;>omega
  .have hki:(l.length:Int)<=(k:Int):=by omega
   have e:opTo z (l.take k)=opTo z l:=by rw[List.take_of_length_le (by omega)]
   rw[e]at M HZ
   clear e PT PL hpl
   generalize opTo z l=zz at *
   (go_wp2_with (first|refine zLAo ?_|(refine zSSo M 0 (zsP zz xk) (zsP zz xk) (AaH _ _) (AaP _ _) ?_;clear M;intro w' M)))
   refine zR M.o.at0 ?_
   exact ZsP.mk _ HZ.o M.o.ext
def cutG(Γ Γ2:Gam)(w:World):Gam:=fun k=>if k<w.heap.size then Γ k else Γ2 k
theorem Ext.cut{Γ Γ1 Γ2:Gam}{w w':World}(ok:Ok Γ w)(h:Ext Γ1 w Γ2 w'):Ext Γ w (cutG Γ Γ2 w) w':=by
 refine⟨fun g cs e=>?_,fun g cs e=>?_,fun g e hg=>?_,h.bel⟩
 .have:g<w.heap.size:=by obtain⟨post,hh⟩:=ok g cs e;exact hh.lt
  unfold cutG;rw[if_pos this];exact e
 .unfold cutG at e
  by_cases hg:g<w.heap.size
  .rw[if_pos hg]at e;exact(ok.below h.bel) g cs e
  .rw[if_neg hg]at e;exact h.ok g cs e
 .unfold cutG;rw[if_pos hg];exact e
theorem SlG.high{Γ Γ2:Gam}{w:World}{A:Option Addr}{n:Nat}{xs:List Value}(h:SlG Γ2 A n xs)(hi:∀g,A=some ⟨g,0,none⟩->w.heap.size<=g):SlG (cutG Γ Γ2 w) A n xs:=fun hn=>by
 obtain⟨g,post,e,hg⟩:=h hn
 exact⟨g,post,e,by unfold cutG;rw[if_neg (by have:=hi g e;omega)];exact hg⟩
theorem MM.frzC{Γ0 Γ:Gam}{w0 w:World}{L:List Ent}{R:List RowE}{A:Option Addr}{c:Nat}{e:TypeId}{size n:Nat}{xs:List Value}(M:MM Γ0 w0 Γ w L (⟨.slice A n c,e,size,n,xs⟩::R)):∃Γ1,CapOk A n c/\SlG Γ1 A n xs/\Le Γ Γ1/\∀w',Below w.heap.size w w'->Ok Γ1 w':=by
 obtain⟨Γ1,h1,h2,h3,h4⟩:=M.frz
 exact⟨Γ1,h1,h2,h3,fun w' hb=>h4.ext.ok.below hb⟩
def OpnP(Γ:Gam)(w:World)(z:Zst)(x:Zls)(r:Rt)(n:Int)(e:Ending)(w':World):Prop:=∃(A:Option Addr) (c:Nat) (Γ':Gam),e=.returned (.agg (fl (zsP (openZ z r n) {x with reqs:=⟨A,x.reqs.n+1,c⟩})).toArray)/\CapOk A (x.reqs.n+1) c /\
 SlG Γ' A (x.reqs.n+1) (z.reqs.flatMap rqx++fl (rqP ⟨z.ntag,r,n,u0⟩))/\(∀g,A=some ⟨g,0,none⟩->w.heap.size<=g)/\Ext Γ w Γ' w'
theorem Al4(Γ:Gam)(z:Zst)(x:Zls)(r:Rt)(n:Int)(w:World)(ok:Ok Γ w)(h:ZsG Γ x z)(hb:z.reqs.length<=30000) :
  Calls Tryz.prog 161 #[.agg (fl (zsP z x)).toArray,.agg (rc r).toArray,.int .i64 n] w (OpnP Γ w z x r n):=by
 have M:=bx (MM.start ok)
 have HG:=bx h
 have LN:=bx h.reqs.n
 have hrn:x.reqs.n<=30000:=by rw[h.reqs.n];exact hb
 have ROW:Bx (∀{Γ':Gam} w',Ok Γ' w'->Le Γ Γ'->Row w' w'.heap.size 35 x.reqs.A x.reqs.n (z.reqs.flatMap rqx)):=⟨fun w' o hle=>(h.reqs.sl.mono hle).row (size:=35) (by rw[Aah z.reqs (fun x _=>AbC x),h.reqs.n]) o⟩
 have CAP:=bx h.reqs.cap.nil
 have OneX:Bx (One (z.reqs.flatMap rqx)):=⟨AbM fun x _=>AbF x⟩
 have hw:=Ahl z.ntag
 have hlt:=z.ntag.lt
 clear ok h hb
 change Calls Tryz.prog _ #[_,.agg (fl [rc r]).toArray,_] _ _
 go_enter Tryz.func161,Tryz.ntmps161
 (go_wp2_with (first|((first|refine zBXo ?_|refine zALo (ztZs) ?_|refine zALo (ztRq) ?_);clear M;intro w' g M)|refine zLAo ?_|refine zBDo 121 [(0,.int .u64 (z.ntag.n:Int))] (fl [[.int .u64 (z.ntag.n:Int)]]) (Ace _) ?_|refine zBDo 151 [(0,.agg (fl [[.int .u64 (z.ntag.n:Int)]]).toArray),(1,.agg (rc r).toArray),(2,.int .i64 n)] (fl (rqP ⟨z.ntag,r,n,u0⟩)) (Ake _ _ _) ?_|(refine zSSo M 0 (rqP ⟨z.ntag,r,n,u0⟩) (rqP ⟨z.ntag,r,n,u0⟩) (AaY _) (AbF _) ?_;clear M;intro w' M)))
 refine AaB [5,7] (.steps [(1,0),(0,1),(0,3)] (.fork 2 (.steps [(2,4),(3,5),(1,6),(3,7)] .leaf) 4 (.steps [(2,2),(3,5),(1,6),(3,7)] .leaf))) (by kernel_rfl) (by kernel_rfl) ?_;(simp only[MixT6,MT.steps,stepAt,List.getD_cons_zero,List.getD_cons_succ]);replace M:=bx (M.o.drew)
 refine zNM ?_
 refine zMRo ?_
 refine⟨?_,?_⟩
 focus
  (obtain⟨A1,c1,w1,hr,hM,hb⟩:=Aal elRq M.o 50 x.reqs.A x.reqs.n x.reqs.c _ (ROW.o _ M.ok M.o.ext.le) CAP.o OneX.o (by unfold maxLen;omega) (by omega));refine AaA (AaE rfl rfl rfl hr) rfl ?_;refine⟨hb,?_⟩;clear M;have M:=bx hM;clear hM hr hb;refine zNM ?_
  refine AaA (Aau elRq rfl rfl (v:=.agg (fl (rqP ⟨z.ntag,r,n,u0⟩)).toArray) (cs:=fl (rqP ⟨z.ntag,r,n,u0⟩)) rfl (AbC _)) rfl ?_;refine⟨ext_alloc _ _,?_⟩;replace M:=bx (M.o.alloc (P:=(rqP ⟨z.ntag,r,n,u0⟩)) (AaY _) rfl 151);refine zNM ?_
 rotate_left
 focus
  refine AaA (Aau elRq rfl rfl (v:=.agg (fl (rqP ⟨z.ntag,r,n,u0⟩)).toArray) (cs:=fl (rqP ⟨z.ntag,r,n,u0⟩)) rfl (AbC _)) rfl ?_;refine⟨ext_alloc _ _,?_⟩;replace M:=bx (M.o.alloc (P:=(rqP ⟨z.ntag,r,n,u0⟩)) (AaY _) rfl 151);refine zNM ?_
  (obtain⟨A1,c1,w1,hr,hM,hb⟩:=Aal elRq M.o 50 x.reqs.A x.reqs.n x.reqs.c _ (ROW.o _ M.ok M.o.ext.le) CAP.o OneX.o (by unfold maxLen;omega) (by omega));refine AaA (AaE rfl rfl rfl hr) rfl ?_;refine⟨hb,?_⟩;clear M;have M:=bx hM;clear hM hr hb;refine zNM ?_
 all_goals
  (obtain⟨v5,w5,hr,hM⟩:=AaW elRq M.o 50 _ 1 1 _ (Aaf M.o.at0 (m:=1) rfl) (fun h=>by cases h) (AbF _) (by unfold maxLen;omega) (by omega));refine AaA (AaE rfl rfl rfl hr) rfl ?_;replace M:=bx (hM.tail);clear hr hM;refine zNM ?_;refine zMRo ?_;(obtain⟨A6,c6,e6⟩:=own_slice (M.o.rows _ (List.mem_cons_self ..));simp only at e6;subst e6);refine Aa6 M.o 3 (.slice A6 (x.reqs.n+1) c6) (zsP {z with reqs:=z.reqs ++ [⟨z.ntag,r,n,u0⟩]} {x with reqs:=⟨A6,x.reqs.n+1,c6⟩}) rfl rfl rfl rfl AhE rfl rfl rfl rfl rfl rfl ?_;intro w7 M';(simp only[List.set_cons_zero,List.set_cons_succ]at M');(replace M:=bx M';clear M');refine zNM ?_;refine zMRo ?_;refine NoPanic.normal ?_;(go_wp2_with (first|refine zLAo ?_|((first|refine zS1o M 3 (.int .u64 ((uInc z.ntag).n:Int)) (zsP (openZ z r n) {x with reqs:=⟨A6,x.reqs.n+1,c6⟩}) ?_|refine zSSo M 1 (zsP (openZ z r n) {x with reqs:=⟨A6,x.reqs.n+1,c6⟩}) (zsP (openZ z r n) {x with reqs:=⟨A6,x.reqs.n+1,c6⟩}) (AaH _ _) (AaP _ _) ?_);clear M;intro w' M)));have LO:=bx (fun g (e:A6=some ⟨g,0,none⟩)=>((M.o.rows _ (List.mem_cons_self ..)).lt g (by rw[e];rfl)).1);obtain⟨Γ',h1,h2,h3,h4⟩:=M.o.frz;refine zR h4.at1 ?_;exact⟨A6,c6,Γ',rfl,h1,h2,LO.o,h4.ext⟩
def dueS(z:Zst)(q:Rq):Zst:=if z.s.now.n<q.due.n then {z with rets:=z.rets ++ [q]}else if statR z.s.nodes q.block 0=true then openZ z q.block q.tries else z
def dueTo(z:Zst)(l:List Rq):Zst:=l.foldl dueS {z with rets:=[]}
def dueZ(z:Zst):Zst:=dueTo z z.rets
theorem Aqw(l:List Rq):∀y:Zst,(l.foldl dueS y).s=y.s/\(l.foldl dueS y).reqs.length<=y.reqs.length+l.length/\(l.foldl dueS y).rets.length<=y.rets.length+l.length:=by
 induction l with
 |nil=>intro y;simp
 |cons a t ih=>
  intro y
  obtain⟨h1,h2,h3⟩:=ih (dueS y a)
  have h4:(dueS y a).s=y.s/\(dueS y a).reqs.length<=y.reqs.length+1/\(dueS y a).rets.length<=y.rets.length+1:=by
   unfold dueS
   split
   .simp
   .split<;>simp[openZ]
  simp only[List.foldl_cons,List.length_cons]
  exact⟨h1.trans h4.1,by omega,by omega⟩
theorem Aml(z:Zst)(l:List Rq):(dueTo z l).s=z.s/\(dueTo z l).reqs.length<=z.reqs.length+l.length/\(dueTo z l).rets.length<=l.length:=by
 have:=Aqw l {z with rets:=[]}
 simpa [dueTo]using this
theorem Apr(Γ:Gam)(z:Zst)(x:Zls)(w:World)(ok:Ok Γ w)(h:ZsG Γ x z)(hb:z.reqs.length<=15000)(hb2:z.rets.length<=15000) :
  Calls Tryz.prog 126 #[.agg (fl (zsP z x)).toArray] w (ZsP Γ w (dueZ z)):=by
 have M:=bx (MM.start ok)
 have HG:=bx h
 have PT:Bx (∀k (hk:k<z.rets.length),dueTo z (z.rets.take (k+1))=dueS (dueTo z (z.rets.take k)) z.rets[k]):=⟨fun k hk=>Abi dueS _ hk⟩
 have PS:Bx (∀k,(dueTo z (z.rets.take k)).s=z.s/\(dueTo z (z.rets.take k)).reqs.length<=30000/\(dueTo z (z.rets.take k)).rets.length<=15000):=⟨fun k=>by
  obtain⟨h1,h2,h3⟩:=Aml z (z.rets.take k)
  have h4:(z.rets.take k).length<=z.rets.length:=by rw[List.length_take];omega
  exact⟨h1,by omega,by omega⟩⟩
 have HB:=bx hb2
 obtain⟨A0,c0,hv,hsl⟩:∃A0 c0,x.rets.v=.slice A0 z.rets.length c0/\SlG Γ A0 z.rets.length (z.rets.flatMap rqx):=⟨x.rets.A,x.rets.c,by rw[<-h.rets.n],by have:=h.rets.sl;rwa [h.rets.n]at this⟩
 have HV:=bx hv
 have HS:=bx hsl
 have HDZ:Bx (dueZ z=dueTo z (z.rets.take z.rets.length)):=⟨by unfold dueZ;rw[List.take_of_length_le (Nat.le_refl _)]⟩
 have hret:Bx (dueTo z (z.rets.take 0) = {z with rets:=[]}):=⟨rfl⟩
 clear ok h hb hb2 hv hsl
 go_enter Tryz.func126,Tryz.ntmps126
 (go_wp2_with (first|((first|refine zBXo ?_|refine zALo (ztZs) ?_);clear M;intro w' g M)|refine zLHo HV ?_|(refine zS1o M 1 (.slice none 0 0) (zsP {z with rets:=[]} {x with rets:=sl0}) ?_;clear M;intro w' M)))
 rename_i gz _ _ _
 go_loopw [4] (fun j wr=>∃(k:Nat) (Γk:Gam) (xr:Sl) (A:Option Addr) (c:Nat),k<=z.rets.length/\j=.int .i64 k/\SlR Γk xr (dueTo z (z.rets.take k)).reqs.length ((dueTo z (z.rets.take k)).reqs.flatMap rqx) /\
  MM Γ w Γk wr [⟨g,zsP zs0 zx0,zsL⟩,⟨gz,zsP (dueTo z (z.rets.take k)) ⟨x.s,xr,⟨A,(dueTo z (z.rets.take k)).rets.length,c⟩⟩,zsL⟩] [⟨.slice A (dueTo z (z.rets.take k)).rets.length c,151,35,(dueTo z (z.rets.take k)).rets.length,(dueTo z (z.rets.take k)).rets.flatMap rqx⟩]) (fun j _=>z.rets.length-(intOf j).toNat)
 case atStart=>exact⟨0,Γ,x.reqs,none,0,Nat.zero_le _,rfl,by rw[hret.o];exact HG.o.reqs,by rw[hret.o];exact M.o.row0 _ _⟩
 case round=>
  obtain⟨k,Γk,xr,A,c,hk,rfl,hrq,hM⟩:=hrel
  clear M
  have M:=bx hM
  have HQ:=bx hrq
  clear hM hrq
  have hbb:=HB.o
  obtain⟨ps1,ps2,ps3⟩:=PS.o k
  have PS1:=bx ps1
  clear ps1
  by_cases hkn:k<z.rets.length
  .obtain⟨gk,rfl,hf⟩:=(HS.o.mono M.o.ext.le).at (f:=rqx) (fun x _=>AbC x) rfl k hkn
   have F1:Bx (Fz Γk gk (k*35) (rqP z.rets[k]) [1,32,1,1]):=⟨hf,AaY _⟩
   have PT':=bx (PT.o k hkn)
   have hki:(k:Int)<(z.rets.length:Int):=by omega
   have hk0:0<=(k:Int):=by omega
   clear hf HDZ hret
   generalize z.rets[k]=y at *
   generalize hzk:dueTo z (z.rets.take k)=zk at *
   generalize hzk1:dueTo z (z.rets.take (k+1))=zk1 at *
   have HS1:Bx (StG Γ x.s zk.s):=⟨by rw[PS1.o];exact HG.o.s⟩
   unfold dueS at PT'
   by_cases hd:zk.s.now.n<y.due.n
   .have hd':(zk.s.now.n:Int)<(y.due.n:Int):=by omega
    replace PT':=bx (PT'.o.trans (if_pos hd))
    clear hd
    (go_wp2_with (fail))
    refine zRG ?_;(repeat((go_big_quiet_want;first|((first|refine zQFo F1 ?_|refine zQAo ?_);go_big_quiet_on;refine zNM ?_)|(refine zQO ?_;go_big_quiet_on))));(refine zQN ?_;clear M;intro w4 M)
    (go_wp2_with (fail))
    refine AaB [7,9] (.steps [(1,0),(0,1),(1,2),(1,3),(1,4),(0,5),(2,6),(3,7),(1,8),(3,9)] .leaf) (by kernel_rfl) (by kernel_rfl) ?_;(simp only[MixT6,MT.steps,stepAt,List.getD_cons_zero,List.getD_cons_succ]);replace M:=bx (M.o.drew)
    refine zNM ?_
    (repeat(first|refine zM0 ?_|(go_big_quiet_want;first|((first|refine zQFo F1 ?_|refine zQAo ?_);go_big_quiet_on;refine zNM ?_)|(refine zQO ?_;go_big_quiet_on))))
    refine AaA (Aau elRq rfl rfl (v:=.agg (fl (rqP y)).toArray) (cs:=fl (rqP y)) rfl (AbC _)) rfl ?_;refine⟨ext_alloc _ _,?_⟩;replace M:=bx (M.o.alloc (P:=(rqP y)) (AaY _) rfl 151);refine zNM ?_
    (obtain⟨v5,w5,hr,hM⟩:=AaW elRq M.o 50 _ 1 1 _ (Aaf M.o.at0 (m:=1) rfl) (fun h=>by cases h) (AbF _) (by unfold maxLen;omega) (by omega));refine AaA (AaE rfl rfl rfl hr) rfl ?_;replace M:=bx (hM.tail);clear hr hM;refine zNM ?_
    refine zMRo ?_
    (obtain⟨A6,c6,e6⟩:=own_slice (M.o.rows _ (List.mem_cons_self ..));simp only at e6;subst e6)
    refine Aa6 M.o 1 (.slice A6 (zk.rets.length+1) c6) (zsP {zk with rets:=zk.rets ++ [y]} ⟨x.s,xr,⟨A6,zk.rets.length+1,c6⟩⟩) rfl rfl rfl rfl AhE rfl rfl rfl rfl rfl rfl ?_
    intro w7 M'
    simp only[List.set_cons_zero,List.set_cons_succ]at M'
    (replace M:=bx M';clear M')
    refine zNM ?_
    refine zMRo ?_
    refine NoPanic.normal ?_
    (go_wp2_with (fail))
    go_roundw
    case rel=>
     refine⟨k+1,Γk,xr,A6,c6,by omega,by go_num,by rw[hzk1,PT'.o];exact HQ.o,?_⟩
     rw[hzk1,PT'.o]
     simp only[List.flatMap_append,List.flatMap_cons,List.flatMap_nil,List.append_nil,List.length_append,List.length_cons,List.length_nil,Nat.zero_add]
     exact M.o
    case measure=>simp[intOf]<;>omega
   .have hd':¬(y.due.n:Int)>(zk.s.now.n:Int):=by omega
    replace PT':=bx (PT'.o.trans (if_neg hd))
    clear hd
    cases hst:statR zk.s.nodes y.block 0 with
    |true=>
     replace PT':=bx (PT'.o.trans (if_pos hst))
     (go_wp2_with (fail))
     refine zRG ?_;(repeat((go_big_quiet_want;first|((first|refine zQFo F1 ?_|refine zQAo ?_);go_big_quiet_on;refine zNM ?_)|(refine zQO ?_;go_big_quiet_on))));(refine zQN ?_;clear M;intro w4 M)
     (go_wp2_with (fail))
     obtain⟨Γ1,r1,r2,r3,r4⟩:=M.o.frzC;have HZ:Bx (ZsG Γ1 ⟨x.s,xr,⟨A,zk.rets.length,c⟩⟩ zk):=⟨(HS1.o.mono M.o.ext.le).mono r3,HQ.o.mono r3,⟨rfl,r1,r2⟩⟩;have R4:=bx r4;clear r1 r2 r3 r4
     have OP:=bx (fun w' (hw:Cls _ _ w')=>Aby Γ1 zk ⟨x.s,xr,⟨A,zk.rets.length,c⟩⟩ y.block w' (R4.o w' hw.o) HZ.o)
     rw[hst]at OP
     clear hst HZ R4
     refine zRG ?_;(repeat((go_big_quiet_want;first|(refine zQFo F1 ?_;go_big_quiet_on;refine zNM ?_)|((with_reducible refine AbD ?_);(refine zQC (AaJ OP.o) Tryz.func160 ?_;go_big_quiet_on;refine zNM ?_))|(refine zQAo ?_;go_big_quiet_on;refine zNM ?_)|(refine zQO ?_;go_big_quiet_on))));(refine zQN ?_;clear M;intro w4 M)
     clear OP
     (go_wp2_with (fail))
     refine AaB [12] (.steps [(0,0),(1,1),(1,2),(1,3),(1,4),(0,5),(1,6),(1,7),(1,8),(1,9),(0,10),(2,11),(3,12)] .leaf) (by kernel_rfl) (by kernel_rfl) ?_;(simp only[MixT6,MT.steps,stepAt,List.getD_cons_zero,List.getD_cons_succ]);replace M:=bx (M.o.drew)
     refine zNM ?_
     (repeat(first|refine zM0 ?_|(go_big_quiet_want;first|((first|refine zQFo F1 ?_|refine zQAo ?_);go_big_quiet_on;refine zNM ?_)|(refine zQO ?_;go_big_quiet_on))))
     obtain⟨Γ1,r1,r2,r3,r4⟩:=M.o.frzC;have HZ:Bx (ZsG Γ1 ⟨x.s,xr,⟨A,zk.rets.length,c⟩⟩ zk):=⟨(HS1.o.mono M.o.ext.le).mono r3,HQ.o.mono r3,⟨rfl,r1,r2⟩⟩;have R4:=bx r4;clear r1 r2 r3 r4
     refine zMC (Al4 Γ1 zk ⟨x.s,xr,⟨A,zk.rets.length,c⟩⟩ y.block y.tries _ (R4.o _ (Below.refl _ _)) HZ.o ps2) Tryz.func161 ?_
     clear HZ R4
     rintro e4 w4 ⟨A4,c4,Γ4,rfl,hc4,hs4,hlo4,hx4⟩
     refine⟨_,rfl,hx4.bel,?_⟩
     have hx5:=Ext.cut M.ok hx4
     have hs5:=SlG.high (Γ:=Γk) hs4 hlo4
     have HQ4:=bx (Ai4 HQ.o.n hc4 hs5)
     replace M:=bx (M.o.call hx5)
     clear hx4 hx5 hc4 hs4 hlo4 hs5
     generalize cutG Γk Γ4 _=Γ5 at *
     refine zNM ?_
     refine zMRo ?_
     refine Aam M.o 1 (zsP (openZ zk y.block y.tries) ⟨x.s,⟨A4,xr.n+1,c4⟩,⟨A,zk.rets.length,c⟩⟩) (zsP (openZ zk y.block y.tries) ⟨x.s,⟨A4,xr.n+1,c4⟩,⟨A,zk.rets.length,c⟩⟩) rfl rfl rfl rfl rtZs rfl (AaH _ _) (AaP _ _) rfl rfl ?_
     intro w7 M'
     simp only[List.set_cons_zero,List.set_cons_succ]at M'
     (replace M:=bx M';clear M')
     refine zNM ?_
     refine zMRo ?_
     refine NoPanic.normal ?_
     (go_wp2_with (fail))
     go_roundw
     case rel=>exact⟨k+1,Γ5,⟨A4,xr.n+1,c4⟩,A,c,by omega,by go_num,by rw[hzk1,PT'.o];exact HQ4.o,by rw[hzk1,PT'.o];exact M.o⟩
     case measure=>simp[intOf]<;>omega
    |false=>
     replace PT':=bx (PT'.o.trans (if_neg (by rw[hst];exact Bool.false_ne_true)))
     (go_wp2_with (fail))
     refine zRG ?_;(repeat((go_big_quiet_want;first|((first|refine zQFo F1 ?_|refine zQAo ?_);go_big_quiet_on;refine zNM ?_)|(refine zQO ?_;go_big_quiet_on))));(refine zQN ?_;clear M;intro w4 M)
     (go_wp2_with (fail))
     obtain⟨Γ1,r1,r2,r3,r4⟩:=M.o.frzC;have HZ:Bx (ZsG Γ1 ⟨x.s,xr,⟨A,zk.rets.length,c⟩⟩ zk):=⟨(HS1.o.mono M.o.ext.le).mono r3,HQ.o.mono r3,⟨rfl,r1,r2⟩⟩;have R4:=bx r4;clear r1 r2 r3 r4
     have OP:=bx (fun w' (hw:Cls _ _ w')=>Aby Γ1 zk ⟨x.s,xr,⟨A,zk.rets.length,c⟩⟩ y.block w' (R4.o w' hw.o) HZ.o)
     rw[hst]at OP
     clear hst HZ R4
     refine zRG ?_;(repeat((go_big_quiet_want;first|(refine zQFo F1 ?_;go_big_quiet_on;refine zNM ?_)|((with_reducible refine AbD ?_);(refine zQC (AaJ OP.o) Tryz.func160 ?_;go_big_quiet_on;refine zNM ?_))|(refine zQAo ?_;go_big_quiet_on;refine zNM ?_)|(refine zQO ?_;go_big_quiet_on))));(refine zQN ?_;clear M;intro w4 M)
     clear OP
     (go_wp2_with (fail))
     go_roundw
     case rel=>exact⟨k+1,Γk,xr,A,c,by omega,by go_num,by rw[hzk1,PT'.o];exact HQ.o,by rw[hzk1,PT'.o];exact M.o⟩
     case measure=>simp[intOf]<;>omega
  .have hki:(z.rets.length:Int)<=(k:Int):=by omega
   obtain rfl:k=z.rets.length:=by omega
   rw[<-HDZ.o]at M HQ PS1
   clear PT PS ps2 ps3 hret
   rw[HDZ.o]at *
   generalize dueTo z (z.rets.take z.rets.length)=zz at *
   (go_wp2_with (first|(refine zSSo M 0 (zsP zz ⟨x.s,xr,⟨A,zz.rets.length,c⟩⟩) (zsP zz ⟨x.s,xr,⟨A,zz.rets.length,c⟩⟩) (AaH _ _) (AaP _ _) ?_;clear M;intro w' M)|refine zLAo ?_))
   have HS1:Bx (StG Γ x.s zz.s):=⟨by rw[PS1.o];exact HG.o.s⟩
   obtain⟨Γ',h1,h2,h3,h4⟩:=M.o.frz
   refine zR h4.at0 ?_
   exact ZsP.mk _ ⟨HS1.o.mono h4.ext.le,HQ.o.mono h3,⟨rfl,h1,h2⟩⟩ h4.ext
def CasP(Γ:Gam)(w:World)(s:Sto)(v:Sls)(l:List Vo)(e:Ending)(w':World):Prop:=∃(x1:Sl) (Γ':Gam),e=.returned (.agg (fl (stP {s with lat:=l} {v with lat:=x1})).toArray)/\SlR Γ' x1 l.length (l.flatMap vox)/\Ext Γ w Γ' w'
theorem Ajb(Γ:Gam)(s:Sto)(v:Sls)(a:Att)(x:Sl)(w:World)(ok:Ok Γ w)(h:StG Γ v s)(ha:AtG Γ a x)(h1:0<s.lat.length)(hb:s.lat.length<=65535)(hb2:a.l.length<=65535)(hm:∀y∈a.l,0<=y/\y<(s.lat.length:Int)) :
  Calls Tryz.prog 159 #[.agg (fl (stP s v)).toArray,.agg (fl (atP a x)).toArray] w (CasP Γ w s v (castV s.lat a.t.e a.r a.l).1):=by
 have M:=bx (MM.start ok)
 have HG:=bx h
 have CV:Bx (∀w,Ok Γ w->Calls Tryz.prog 190 #[v.lat.v,.int .u64 (a.t.e.n:Int),.agg (rc a.r).toArray,x.v] w (CastP Γ w (castV s.lat a.t.e a.r a.l))):=⟨fun w ok=>by
  have hs:=ha.sl
  rw[ha.n]at hs
  have:=AiS Γ v.lat s.lat a.t.e a.r x.A x.c a.l w ok h.lat h1 hb hs hb2 hm
  rwa [<-ha.n]at this⟩
 clear ok h ha h1 hb hb2 hm
 generalize castV s.lat a.t.e a.r a.l=r at *
 obtain⟨r1,r2⟩:=r
 go_enter Tryz.func159,Tryz.ntmps159
 (go_wp2_with (first|(refine zBXo ?_;clear M;intro w' g M)|refine zLAo ?_|(refine zALo (ztSt) ?_;clear M;intro w' g M)))
 refine(CV.o _ M.ok).mono ?_
 rintro e1 w1 ⟨x1,Γ1,rfl,hl1,hx1⟩
 replace M:=bx (M.o.call hx1)
 have HG':=bx (HG.o.mono hx1.le)
 have HL:=bx hl1
 clear hl1 hx1
 (go_wp2_with (first|refine zLAo ?_|((first|refine zS1o M 2 (x1.v) (stP {s with lat:=r1} {v with lat:=x1}) ?_|refine zSSo M 0 (stP {s with lat:=r1} {v with lat:=x1}) (stP {s with lat:=r1} {v with lat:=x1}) (AaD _ _) (Aaa _ _) ?_);clear M;intro w' M)))
 refine zR M.o.at0 ?_
 exact⟨x1,Γ1,rfl,HL.o,M.o.ext⟩
theorem MM.frzD{Γ0 Γ:Gam}{w0 w:World}{L:List Ent}{R:List RowE}{A:Option Addr}{c:Nat}{e:TypeId}{size n:Nat}{xs:List Value}(M:MM Γ0 w0 Γ w L (⟨.slice A n c,e,size,n,xs⟩::R)) :
  ∃Γ1,CapOk A n c/\SlG Γ1 A n xs/\Le Γ Γ1/\(∀w',Below w.heap.size w w'->Ok Γ1 w')/\∀g,Γ1 g=Γ g\/Γ1 g=some xs:=by
 have hr:=M.rows _ (List.mem_cons_self ..)
 have ho:=M.roff _ (List.mem_cons_self ..)
 rcases hr.2 with⟨h1,h2⟩|⟨g,cap,cur,h1,h2,h3,h4,h5,h6,h7⟩
 .simp only at h1 h2
  injection h1 with e1 e2 e3
  subst e1 e2 e3
  exact⟨Γ,⟨Nat.le_refl _,Nat.zero_le _,fun _=>rfl⟩,fun h=>absurd h (Nat.lt_irrefl _),Le.refl _,fun w' hb=>M.ext.ok.below hb,fun _=>.inl rfl⟩
 .simp only at h1 h3 h6 h7
  injection h1 with e1 e2 e3
  subst e1 e3
  obtain⟨hn,_⟩:=ho g rfl
  have hh:Has w g (xs++cur.toList.drop (n*size)):=⟨e,by rw[<-h7,List.take_append_drop];simpa using h3⟩
  have hok:Ok (Γ.add g xs) w:=fun k cs ek=>by
   by_cases hkg:k=g
   .subst hkg
    simp only[Gam.add,if_true,Option.some.injEq]at ek
    subst ek
    exact⟨_,hh⟩
   .simp only[Gam.add,if_neg hkg]at ek;exact M.ext.ok k cs ek
  refine⟨Γ.add g xs,⟨h4,h5,(fun h=>by cases h)⟩,fun _=>⟨g,[],rfl,by simp[Gam.add]⟩,AiM hn,fun w' hb=>hok.below hb,fun k=>?_⟩
  by_cases hkg:k=g
  .right;simp[Gam.add,hkg]
  .left;simp[Gam.add,hkg]
theorem SlG.cutD{Γ Γ1 Γ2:Gam}{w w':World}{A:Option Addr}{n:Nat}{xs row:List Value}(h:SlG Γ2 A n xs)(hx:Ext Γ1 w Γ2 w')(hd:∀g,Γ1 g=Γ g\/Γ1 g=some row)(hne:∀post,row≠xs++post):SlG (cutG Γ Γ2 w) A n xs:=fun hn=>by
 obtain⟨g,post,e,hg⟩:=h hn
 refine⟨g,post,e,?_⟩
 unfold cutG
 by_cases hlt:g<w.heap.size
 .rw[if_pos hlt]
  cases h1:Γ1 g with
  |none=>rw[hx.new g h1 hlt]at hg;cases hg
  |some cs=>
   have h2:=hx.le g cs h1
   rw[hg]at h2
   injection h2 with h2
   rcases hd g with h3|h3
   .rw[<-h3,h1,h2]
   .rw[h1]at h3
    injection h3 with h3
    exact absurd (h3.symm.trans h2.symm) (hne post)
 .rw[if_neg hlt];exact hg
theorem Anc{l:List Vo}{Y:List (Att × Sl)}(hl:0<l.length):∀post,Y.flatMap atx≠l.flatMap vox++post:=fun post e=>by
 cases l with
 |nil=>simp at hl
 |cons a t=>
  cases Y with
  |nil=>simp[vox,voP,fl]at e
  |cons y u=>simp[vox,voP,fl,atx,atP]at e
def SlaP(Γ:Gam)(w:World)(s:Sto)(x:Slh)(e:Ending)(w':World):Prop:=
 (∃er:Int,er≠0/\er≠21/\StE Γ w er st0 e w')\/(VList x.a.l (s.bal.length:Int)/\VList x.b.l (s.bal.length:Int)/\StE Γ w 0 {s with eqv:=punI s.eqv (culI x)} e w')
theorem Alr(Γ:Gam)(s:Sto)(v:Sls)(x:Slh)(y z:Sl)(w:World)(ok:Ok Γ w)(h:StG Γ v s)(hx:SlG2 Γ x y z)(hb:x.a.l.length<=30000)(hb2:x.b.l.length<=30000)(he:s.eqv.length<=30000) :
  Calls Tryz.prog 131 #[.agg (fl (stP s v)).toArray,.agg (fl (slP x y z)).toArray] w (SlaP Γ w s x):=by
 have M:=bx (MM.start ok)
 have HG:=bx h
 have VA:=bx (fun w ok=>Ach Γ s v w ok h)
 have VS:=bx (fun w ok=>Akq Γ x y z (s.bal.length:Int) w ok hx hb hb2)
 have CU:=bx (fun w ok=>Aev Γ x y z w ok hx hb hb2)
 have CL:Bx ((culI x).length<=30000):=⟨by
  have:=Af2 x x.a.l.length
  have e:culTo x x.a.l.length=culI x:=by unfold culTo culI;rw[List.take_of_length_le (Nat.le_refl _)]
  rw[e]at this;omega⟩
 have PU:Bx (∀(Γ':Gam) (A:Option Addr) (c:Nat) w,Ok Γ' w->Le Γ Γ'->SlG Γ' A (culI x).length (ints .i64 (culI x))->Calls Tryz.prog 168 #[v.eqv.v,.slice A (culI x).length c] w (PunP Γ' w (punI s.eqv (culI x)) ((punI s.eqv (culI x)).length-s.eqv.length))):=⟨fun Γ' A c w ok hl hs=>by
  have h1:=h.eqv.sl.mono hl
  have h2:=h.eqv.cap
  rw[h.eqv.n]at h1 h2
  have e:v.eqv.v=.slice v.eqv.A s.eqv.length v.eqv.c:=by rw[<-h.eqv.n]
  rw[e]
  exact AlB Γ' v.eqv.A A v.eqv.c c s.eqv (culI x) w ok h1 h2 hs he CL.o⟩
 clear ok h hx hb hb2 he
 generalize hcu:culI x=cu at *
 have HCU:=bx hcu
 clear hcu
 generalize hpu:punI s.eqv cu=pu at *
 have HPU:=bx hpu
 clear hpu
 go_enter Tryz.func131,Tryz.ntmps131
 (go_wp2_with (first|((first|refine zBXd ?_|refine zALd (ztSt) ?_);clear M;intro w' g M)))
 refine AaB [] (.steps [(0,0),(0,1),(2,2),(2,3),(1,4)] .leaf) (by kernel_rfl) (by kernel_rfl) ?_;(simp only[MixT6,MT.steps,stepAt,List.getD_cons_zero,List.getD_cons_succ]);replace M:=bx (M.o.drew)
 refine zMRd ?_
 refine zMC (VA.o _ M.ok) Tryz.func167 ?_
 rintro e2 w2 ⟨rfl,hx2⟩
 refine⟨_,rfl,hx2.bel,?_⟩
 replace M:=bx (M.o.call hx2)
 clear hx2
 refine zNM ?_
 refine zMC (VS.o _ M.ok) Tryz.func166 ?_
 rintro e3 w3 ⟨er,rfl,hv,hx3⟩
 refine⟨_,rfl,hx3.bel,?_⟩
 replace M:=bx (M.o.call hx3)
 have HV:=bx hv
 clear hv hx3
 refine zNM ?_
 refine zMRd ?_
 refine NoPanic.normal ?_
 by_cases h0:er=0
 .subst h0
  (go_wp2_with (fail))
  refine AaB [] (.steps [(1,0),(1,1),(0,2),(0,3),(2,4),(2,5),(1,6),(1,7),(1,8),(1,9),(1,10)] .leaf) (by kernel_rfl) (by kernel_rfl) ?_;(simp only[MixT6,MT.steps,stepAt,List.getD_cons_zero,List.getD_cons_succ]);replace M:=bx (M.o.drew)
  refine zMRd ?_
  refine zMC (CU.o _ M.ok) Tryz.func169 ?_
  rintro e4 w4 ⟨A4,c4,Γ4,rfl,hc4,hs4,hx4⟩
  refine⟨_,rfl,hx4.bel,?_⟩
  replace M:=bx (M.o.call hx4)
  have HS4:=bx hs4
  clear hc4 hs4 hx4
  refine zNM ?_
  refine zMC (PU.o _ A4 c4 _ M.ok M.o.ext.le HS4.o) Tryz.func168 ?_
  rintro e5 w5 ⟨A5,c5,Γ5,rfl,hc5,hs5,hx5⟩
  refine⟨_,rfl,hx5.bel,?_⟩
  replace M:=bx (M.o.call hx5)
  have HC5:=bx hc5
  have HS5:=bx hs5
  clear hc5 hs5 hx5
  refine zNM ?_
  refine zMRd ?_
  refine NoPanic.normal ?_
  by_cases hn:((pu.length:Int)-(s.eqv.length:Int)==0)=true
  ·(go_wp2_with (first|refine zLAd ?_|refine zBDd 49 [] (fl (stP st0 x0)) (by kernel_rfl) ?_|(refine zSSd M 0 (stP st0 x0) (stP st0 x0) (AaD _ _) (Aaa _ _) ?_;clear M;intro w' M)))
   refine zRt M.o.at0 ?_
   exact .inl ⟨_,by decide,by decide,StE.err M.o.ext⟩
  .have hn':((pu.length:Int)-(s.eqv.length:Int)==0)=false:=by simpa using hn
   clear hn
   (go_wp2_with (first|refine zLAd ?_|((first|refine zS1d M 2 (.slice A5 pu.length c5) (stP {s with eqv:=pu} {v with eqv:=⟨A5,pu.length,c5⟩}) ?_|refine zSSd M 0 (stP {s with eqv:=pu} {v with eqv:=⟨A5,pu.length,c5⟩}) (stP {s with eqv:=pu} {v with eqv:=⟨A5,pu.length,c5⟩}) (AaD _ _) (Aaa _ _) ?_);clear M;intro w' M)))
   refine zRt M.o.at0 ?_
   refine .inr ⟨(HV.o.1 (by simp)).1,(HV.o.1 (by simp)).2,?_⟩
   rw[HCU.o,HPU.o]
   exact StE.mk _ {HG.o.mono M.o.ext.le with eqv:=⟨rfl,HC5.o,HS5.o⟩} M.o.ext
 .have h0b:(er==0)=false:=beq_eq_false_iff_ne.2 h0
  have H0:=bx h0
  clear h0
  (go_wp2_with (first|refine zLAd ?_|refine zBDd 49 [] (fl (stP st0 x0)) (by kernel_rfl) ?_|(refine zSSd M 0 (stP st0 x0) (stP st0 x0) (AaD _ _) (Aaa _ _) ?_;clear M;intro w' M)))
  refine zRt M.o.at0 ?_
  exact .inl ⟨_,H0.o,HV.o.2,StE.err M.o.ext⟩
def MatP(Γ:Gam)(w:World)(z:Zst)(tag:U)(e:Ending)(w':World):Prop:=
 (e=.returned (.tuple #[.agg (fl (rqP rq0)).toArray,.agg (fl (zsP zs0 zx0)).toArray,.int .i64 23])/\Ext Γ w Γ w') \/
 ∃k,∃hk:k<z.reqs.length,z.reqs[k].tag=tag/\∃(x:Zls) (Γ':Gam),e=.returned (.tuple #[.agg (fl (rqP z.reqs[k])).toArray,.agg (fl (zsP {z with reqs:=z.reqs.take k++z.reqs.drop (k+1)} x)).toArray,.int .i64 0])/\ZsG Γ' x {z with reqs:=z.reqs.take k++z.reqs.drop (k+1)}/\Ext Γ w Γ' w'
theorem AqX{Γ:Gam}{T:List Rq}{k n c:Nat}{A:Option Addr}(hn:n=T.length)(hk:k<T.length)(h1:CapOk A (k+(n-(k+1))) c)(h2:SlG Γ A (k+(n-(k+1))) ((T.flatMap rqx).take (k*35)++(T.flatMap rqx).drop ((k+1)*35))) :
  SlR Γ ⟨A,k+(n-(k+1)),c⟩ (T.take k++T.drop (k+1)).length ((T.take k++T.drop (k+1)).flatMap rqx):=by
 refine⟨by simp[hn];omega,h1,?_⟩
 rw[AeU T (fun x _=>AbC x),Afq T (fun x _=>AbC x)]at h2
 rw[List.flatMap_append];exact h2
theorem AmB(Γ:Gam)(z:Zst)(x:Zls)(v:Vd)(w:World)(ok:Ok Γ w)(h:ZsG Γ x z)(hb:z.reqs.length<=30000) :
  Calls Tryz.prog 171 #[.agg (fl (zsP z x)).toArray,.agg (fl (vdP v)).toArray] w (MatP Γ w z v.tag):=by
 have M:=bx (MM.start ok)
 have HG:=bx h
 have LN:=bx h.reqs.n
 have HB:=bx hb
 have HCAP:=bx h.reqs.cap
 have ROW:Bx (∀{Γ':Gam} w',Ok Γ' w'->Le Γ Γ'->Row w' w'.heap.size 35 x.reqs.A x.reqs.n (z.reqs.flatMap rqx)):=⟨fun w' o hle=>(h.reqs.sl.mono hle).row (size:=35) (by rw[Aah z.reqs (fun x _=>AbC x),h.reqs.n]) o⟩
 have HO:Bx (∀k,One ((z.reqs.flatMap rqx).take (k*35))):=⟨fun k u hu=>AbM (fun x _=>AbF x) u (List.mem_of_mem_take hu)⟩
 have HO2:Bx (∀k,One ((z.reqs.flatMap rqx).drop (k*35))):=⟨fun k u hu=>AbM (fun x _=>AbF x) u (List.mem_of_mem_drop hu)⟩
 clear ok h hb
 go_enter Tryz.func171,Tryz.ntmps171
 (go_wp2_with (first|((first|refine zBXo ?_|refine zALo (ztRq) ?_|refine zALo (ztZs) ?_);clear M;intro w' g M)))
 rename_i gz _ gv _ gq _ _
 go_loopw [7] (fun j wr=>∃k:Nat,k<=z.reqs.length/\j=.int .i64 k/\MM Γ w Γ wr [⟨g,zsP zs0 zx0,zsL⟩,⟨gq,rqP rq0,[1,32,1,1]⟩,⟨gv,vdP v,[1,1,32]⟩,⟨gz,zsP z x,zsL⟩] []) (fun j _=>z.reqs.length-(intOf j).toNat)
 case atStart=>exact⟨0,Nat.zero_le _,rfl,M.o⟩
 case round=>
  obtain⟨k,hk,rfl,hM⟩:=hrel
  clear M
  have M:=bx hM
  clear hM
  have hbb:=HB.o
  by_cases hkn:k<z.reqs.length
  .obtain⟨gn,hA,hf⟩:=HG.o.reqs.fz (f:=rqP) AaY rfl k hkn
   have HA:=bx hA
   have F1:=bx hf
   have hki:(k:Int)<(x.reqs.n:Int):=by rw[LN.o];omega
   have hk0:0<=(k:Int):=by omega
   have hkl:k+1<=x.reqs.n:=by rw[LN.o];omega
   have hAe:x.reqs.A=some ⟨gn,0,none⟩:=by injection hA
   have HAE:=bx hAe
   have HRES:=bx (fun(e:z.reqs[k].tag=v.tag) (x':Zls) (Γ':Gam) (hz:ZsG Γ' x' {z with reqs:=z.reqs.take k++z.reqs.drop (k+1)}) (w2:World) (he:Ext Γ w Γ' w2)=>(show MatP Γ w z v.tag (.returned (.tuple #[.agg (fl (rqP z.reqs[k])).toArray,.agg (fl (zsP {z with reqs:=z.reqs.take k++z.reqs.drop (k+1)} x')).toArray,.int .i64 0])) w2 from .inr ⟨k,hkn,e,x',Γ',rfl,hz,he⟩))
   clear hA hf hAe
   generalize z.reqs[k]=y at *
   by_cases ht:y.tag=v.tag
   .have b1:((y.tag.n:Int)==(v.tag.n:Int))=true:=by rw[ht];simp
    have HR:=bx (HRES.o ht)
    clear ht HRES
    have ROW2:Bx (∀{Γ':Gam} w',Ok Γ' w'->Le Γ Γ'->Row w' w'.heap.size 35 (some ⟨gn,0,none⟩) x.reqs.n (z.reqs.flatMap rqx)):=⟨fun w' o hl=>HAE.o▸ROW.o w' o hl⟩
    have HCAP2:Bx (CapOk (some ⟨gn,0,none⟩) x.reqs.n x.reqs.c):=⟨HAE.o▸HCAP.o⟩
    have hcl:=HCAP2.o.le
    have hrn:x.reqs.n<=30000:=by rw[LN.o];exact hbb
    (go_wp2_with (refine zLAo ?_))
    refine zRG ?_;(repeat((go_big_quiet_want;first|((first|refine zQHo HA ?_|refine zQFo F1 ?_|refine zQAo ?_);go_big_quiet_on;refine zNM ?_)|(refine zQO ?_;go_big_quiet_on))));(refine zQN ?_;clear M;intro w4 M)
    go_upto_region 6 with(first|refine zLHo HA ?_|refine zRFo F1 ?_|(refine zALo (ztRq) ?_;clear M;intro w' g M)|(refine zSSo M 0 (rqP y) (rqP y) (AaY _) (AbF _) ?_;clear M;intro w' M))
    refine AaB [10,12] (.steps [(1,0),(0,1),(1,2),(1,3),(1,5),(0,6),(1,7),(1,8),(1,9),(2,4),(3,10),(1,11),(3,12)] .leaf) (by kernel_rfl) (by kernel_rfl) ?_;(simp only[MixT6,MT.steps,stepAt,List.getD_cons_zero,List.getD_cons_succ]);replace M:=bx (M.o.drew)
    refine zNM ?_
    (repeat(first|refine zM0 ?_|(go_big_quiet_want;first|((first|refine zQHo HA ?_|((refine Acu elRq rfl rfl rfl ?_ ?_);omega)|((refine Acs elRq (k:=k+1) rfl rfl rfl ?_ ?_);omega));go_big_quiet_on;refine zNM ?_)|(refine zQO ?_;go_big_quiet_on))))
    (obtain⟨A1,c1,w1,hr,hM,hb⟩:=Aal elRq M.o 50 (some ⟨gn,0,none⟩) k x.reqs.c _ ((ROW2.o _ M.ok M.o.ext.le).take (size:=35) (show k<=x.reqs.n by omega)) HCAP2.o.nil (HO.o _) (by unfold maxLen;omega) (by omega));refine AaA (AaE rfl rfl rfl hr) rfl ?_;refine⟨hb,?_⟩;clear M;have M:=bx hM;clear hM hr hb;refine zNM ?_
    (obtain⟨v6,w6,hr,hM⟩:=AaW elRq M.o 50 (cutA (some ⟨gn,0,none⟩) x.reqs.c (k+1) 35) (x.reqs.n-(k+1)) (x.reqs.c-(k+1)) _ ((ROW2.o _ M.ok M.o.ext.le).cut (size:=35) hkl HCAP2.o.le) (AcA HCAP2.o) (HO2.o _) (by unfold maxLen;omega) (by omega));refine AaA (AaE rfl rfl rfl hr) rfl ?_;replace M:=bx (hM);clear hr hM;refine zNM ?_
    refine zMRo ?_
    (obtain⟨A6,c6,e6⟩:=own_slice (M.o.rows _ (List.mem_cons_self ..));simp only at e6;subst e6)
    refine Aa6 M.o 4 (.slice A6 (k+(x.reqs.n-(k+1))) c6) (zsP {z with reqs:=z.reqs.take k++z.reqs.drop (k+1)} {x with reqs:=⟨A6,k+(x.reqs.n-(k+1)),c6⟩}) rfl rfl rfl rfl AhE rfl rfl rfl rfl rfl rfl ?_
    intro w7 M'
    simp only[List.set_cons_zero,List.set_cons_succ]at M'
    (replace M:=bx M';clear M')
    refine zNM ?_
    refine zMRo ?_
    refine NoPanic.normal ?_
    go_wp2_with fail
    refine AaF (fun w'=>HL w' g (rqP y) [1,32,1,1]/\HL w' gz (zsP {z with reqs:=z.reqs.take k++z.reqs.drop (k+1)} {x with reqs:=⟨A6,k+(x.reqs.n-(k+1)),c6⟩}) zsL) (.steps [(0,0),(0,1),(3,2),(3,3),(1,4)] .leaf) (by kernel_rfl) (by kernel_rfl) ⟨M.o.drew.at0,M.o.drew.at4⟩ ?_;(simp only[MixT7,MT.steps,stepI,List.getD_cons_zero,List.getD_cons_succ]);replace M:=bx (M.o.drew)
    refine zNM ?_
    (repeat(first|refine zM0 ?_|(go_big_quiet_want;first|((first|((with_reducible apply AaI (fun _ h=>h.1) (AaY y));rfl;rfl;exact zrts;rfl;refine zCT ?_)|((with_reducible apply AaI (fun _ h=>h.2) (AaH _ _));rfl;rfl;exact zrts;rfl;refine zCT ?_));go_big_quiet_on;refine zNM ?_))))
    refine zXS M 2 (rqP y) (rqP y) (AaY _) (AbF _) ?_;clear M;intro w7 M
    refine⟨⟨M.o.at0,M.o.at4⟩,?_⟩
    refine zXS M 1 (zsP {z with reqs:=z.reqs.take k++z.reqs.drop (k+1)} {x with reqs:=⟨A6,k+(x.reqs.n-(k+1)),c6⟩}) (zsP {z with reqs:=z.reqs.take k++z.reqs.drop (k+1)} {x with reqs:=⟨A6,k+(x.reqs.n-(k+1)),c6⟩}) (AaH _ _) (AaP _ _) ?_;clear M;intro w7 M
    refine⟨⟨M.o.at0,M.o.at4⟩,?_⟩
    refine zMR7 ?_
    refine NoPanic.normal ?_
    (go_wp2_with (refine zLAo ?_))
    obtain⟨Γ',h1,h2,h3,h4⟩:=M.o.frz
    (try refine zsm ?_);refine bodyPost_ret (Aas (by rfl) _ h4.at2 h4.at1 (by rfl) (by rfl) rtRq rtZs rfl rfl) rfl ?_
    exact HR.o {x with reqs:=⟨A6,k+(x.reqs.n-(k+1)),c6⟩} Γ' ⟨(HG.o.mono h4.ext.le).s,AqX LN.o hkn h1 h2,(HG.o.mono h4.ext.le).rets⟩ _ h4.ext
   .have b1:((y.tag.n:Int)==(v.tag.n:Int))=false:=beq_eq_false_iff_ne.2 (fun e=>ht (U.ext' (by omega)))
    clear ht HRES
    (go_wp2_with (refine zLAo ?_))
    refine zRG ?_;(repeat((go_big_quiet_want;first|((first|refine zQHo HA ?_|refine zQFo F1 ?_|refine zQAo ?_);go_big_quiet_on;refine zNM ?_)|(refine zQO ?_;go_big_quiet_on))));(refine zQN ?_;clear M;intro w4 M)
    (go_wp2_with (fail))
    go_roundw
    case rel=>exact⟨k+1,by omega,by go_num,M.o⟩
    case measure=>simp[intOf]<;>omega
  .have hki:(x.reqs.n:Int)<=(k:Int):=by rw[LN.o];omega
   (go_wp2_with (first|((first|refine zSSo M 1 (rqP rq0) (rqP rq0) (AaY _) (AbF _) ?_|refine zSSo M 0 (zsP zs0 zx0) (zsP zs0 zx0) (AaH _ _) (AaP _ _) ?_);clear M;intro w' M)|refine zLAo ?_|refine zBDo 151 [] (fl (rqP rq0)) (by kernel_rfl) ?_|refine zBDo 54 [] (fl (zsP zs0 zx0)) (by kernel_rfl) ?_))
   (try refine zsm ?_);refine bodyPost_ret (Aas (by rfl) _ M.o.at1 M.o.at0 (by rfl) (by rfl) rtRq rtZs rfl rfl) rfl ?_
   exact .inl ⟨rfl,M.o.ext⟩
def dropZ(z:Zst):Zst:={z with reqs:=knownR z.s.nodes z.reqs,rets:=knownR z.s.nodes z.rets}
theorem AkQ(Γ:Gam)(z:Zst)(x:Zls)(w:World)(ok:Ok Γ w)(h:ZsG Γ x z)(hb:z.reqs.length<=30000)(hb2:z.rets.length<=30000) :
  Calls Tryz.prog 127 #[.agg (fl (zsP z x)).toArray] w (ZsP Γ w (dropZ z)):=by
 have M:=bx (MM.start ok)
 have HG:=bx h
 have K1:Bx (∀(Γ':Gam) w,Ok Γ' w->Le Γ Γ'->Calls Tryz.prog 162 #[.agg (fl (zsP z x)).toArray,x.reqs.v] w (RqsP Γ' w (knownR z.s.nodes z.reqs))):=⟨fun Γ' w ok hl=>by
  have e:x.reqs.v=.slice x.reqs.A z.reqs.length x.reqs.c:=by rw[<-h.reqs.n]
  rw[e]
  have hs:=h.reqs.sl.mono hl
  rw[h.reqs.n]at hs
  exact Agl Γ' z x x.reqs.A x.reqs.c z.reqs w ok (h.mono hl) hs hb⟩
 have K2:Bx (∀(Γ':Gam) w,Ok Γ' w->Le Γ Γ'->Calls Tryz.prog 162 #[.agg (fl (zsP z x)).toArray,x.rets.v] w (RqsP Γ' w (knownR z.s.nodes z.rets))):=⟨fun Γ' w ok hl=>by
  have e:x.rets.v=.slice x.rets.A z.rets.length x.rets.c:=by rw[<-h.rets.n]
  rw[e]
  have hs:=h.rets.sl.mono hl
  rw[h.rets.n]at hs
  exact Agl Γ' z x x.rets.A x.rets.c z.rets w ok (h.mono hl) hs hb2⟩
 have HD:Bx (dropZ z = {z with reqs:=knownR z.s.nodes z.reqs,rets:=knownR z.s.nodes z.rets}):=⟨rfl⟩
 clear ok h hb hb2
 generalize dropZ z=res at *
 generalize knownR z.s.nodes z.reqs=r1 at *
 generalize knownR z.s.nodes z.rets=r2 at *
 rw[HD.o]
 go_enter Tryz.func127,Tryz.ntmps127
 (go_wp2_with (first|((first|refine zBXo ?_|refine zALo (ztZs) ?_);clear M;intro w' g M)))
 refine AaB [9,11] (.steps [(0,0),(1,1),(0,2),(0,4),(1,5),(0,6),(2,3),(1,8),(2,7),(3,9),(1,10),(3,11)] .leaf) (by kernel_rfl) (by kernel_rfl) ?_;(simp only[MixT6,MT.steps,stepAt,List.getD_cons_zero,List.getD_cons_succ]);replace M:=bx (M.o.drew)
 refine zNM ?_
 refine zMRo ?_
 refine zMC (K1.o _ _ M.ok M.o.ext.le) Tryz.func162 ?_
 rintro e4 w4 ⟨A4,c4,Γ4,rfl,hc4,hs4,hx4⟩
 refine⟨_,rfl,hx4.bel,?_⟩
 replace M:=bx (M.o.call hx4)
 have HC4:=bx hc4
 have HS4:=bx hs4
 clear hc4 hs4 hx4
 refine zNM ?_
 refine zMRo ?_
 refine zMC (K2.o _ _ M.ok M.o.ext.le) Tryz.func162 ?_
 rintro e5 w5 ⟨A5,c5,Γ5,rfl,hc5,hs5,hx5⟩
 refine⟨_,rfl,hx5.bel,?_⟩
 replace M:=bx (M.o.call hx5)
 have HC5:=bx hc5
 have HS5:=bx hs5
 have HS4':=bx (HS4.o.mono hx5.le)
 clear hc5 hs5 hx5 HS4
 refine zNM ?_
 refine zMRo ?_
 refine Aa6 M.o 1 (.slice A4 r1.length c4) (zsP {z with reqs:=r1} {x with reqs:=⟨A4,r1.length,c4⟩}) rfl rfl rfl rfl AhE rfl rfl rfl rfl rfl rfl ?_
 intro w7 M'
 simp only[List.set_cons_zero,List.set_cons_succ]at M'
 (replace M:=bx M';clear M')
 refine zNM ?_
 refine zMRo ?_
 refine Aa6 M.o 1 (.slice A5 r2.length c5) (zsP {z with reqs:=r1,rets:=r2} {x with reqs:=⟨A4,r1.length,c4⟩,rets:=⟨A5,r2.length,c5⟩}) rfl rfl rfl rfl AhE rfl rfl rfl rfl rfl rfl ?_
 intro w8 M'
 simp only[List.set_cons_zero,List.set_cons_succ]at M'
 (replace M:=bx M';clear M')
 refine zNM ?_
 refine zMRo ?_
 refine NoPanic.normal ?_
 (go_wp2_with (first|refine zLAo ?_|(refine zSSo M 0 (zsP {z with reqs:=r1,rets:=r2} {x with reqs:=⟨A4,r1.length,c4⟩,rets:=⟨A5,r2.length,c5⟩}) (zsP {z with reqs:=r1,rets:=r2} {x with reqs:=⟨A4,r1.length,c4⟩,rets:=⟨A5,r2.length,c5⟩}) (AaH _ _) (AaP _ _) ?_;clear M;intro w' M)))
 refine zR M.o.at0 ?_
 exact ZsP.mk _ ⟨(HG.o.mono M.o.ext.le).s,⟨rfl,HC4.o,HS4'.o⟩,⟨rfl,HC5.o,HS5.o⟩⟩ M.o.ext
end
section
open Go.RowKit
theorem elU8:ElT Tryz.prog 200 5 1 1:=Abr Tryz.underlying200 (by kernel_rfl) (by decide) (by decide)
def ByP(Γ0:Gam)(w0:World)(Γ:Gam)(L:List Ent)(R:List RowE)(m:Nat)(e:Ending)(w':World):Prop:=∃(A:Option Addr) (n c:Nat) (xs:List Value),e=.returned (.slice A n c)/\n<=m/\MM Γ0 w0 Γ w' L (⟨.slice A n c,5,1,n,xs⟩::R)
theorem AbJ{Γ0 Γ:Gam}{w0 w:World}{L:List Ent}{R:List RowE}(A:Option Addr)(n c:Nat)(xs:List Value)(v:U)(hn:n<=1000000)(hM:MM Γ0 w0 Γ w L (⟨.slice A n c,5,1,n,xs⟩::R)) :
  Calls Tryz.prog 154 #[.slice A n c,.int .u64 (v.n:Int)] w (ByP Γ0 w0 Γ L R (n+10)):=by
 have M:=bx hM
 have HV:Bx (v.n<128 ^ 10):=⟨Nat.lt_of_lt_of_le v.lt (by decide)⟩
 clear hM
 go_enter Tryz.func154,Tryz.ntmps154
 go_wp2_with fail
 go_loopw [0,1] (fun s0 s1 wr=>∃(p:Nat) (A:Option Addr) (k c:Nat) (xs:List Value) (u:U),1<=p/\p<=10/\u.n<128 ^ p/\k+p<=n+10/\s0=.slice A k c/\s1=.int .u64 (u.n:Int)/\MM Γ0 w0 Γ wr L (⟨.slice A k c,5,1,k,xs⟩::R)) (fun _ s1 _=>(intOf s1).toNat)
 case atStart=>exact⟨10,A,n,c,xs,v,by omega,by omega,HV.o,by omega,rfl,rfl,M.o⟩
 case round=>
  obtain⟨p,A,k,c,xs,u,hp1,hp2,hu,hk,rfl,rfl,hM⟩:=hrel
  clear M HV
  have M:=bx hM
  have HU:=bx hu
  clear hM hu
  have hu0:(0:Int)<=(u.n:Int):=by omega
  have hk6:k<=1000010:=by omega
  by_cases hb:127<u.n
  .have hbi:(127:Int)<(u.n:Int):=by omega
   have HP:Bx (2<=p/\u.n / 128<128 ^ (p-1)):=⟨by
    have h:=HU.o
    obtain⟨q,rfl⟩:∃q,p=q+1:=⟨p-1,by omega⟩
    refine⟨?_,?_⟩
    .rcases Nat.eq_zero_or_pos q with h0|h0
     .subst h0
      simp at h;omega
     .omega
    .rw[Nat.add_sub_cancel]
     rw[Nat.pow_succ]at h
     exact Nat.div_lt_of_lt_mul (by rw[Nat.mul_comm];exact h)⟩
   obtain⟨u',hu'⟩:∃u':U,u'.n=u.n / 128:=⟨⟨u.n / 128,by have:=u.lt;omega⟩,rfl⟩
   have hsh:(u.n:Int) / 128=(u'.n:Int):=by rw[hu'];simp
   have HDL:Bx (u'.n<u.n):=⟨by rw[hu'];omega⟩
   have HU':=bx hu'
   clear hu'
   go_wp2_with (first|((with_reducible apply Aa7 M.o elU8);rfl;rfl;rfl;rfl;intro w' g M' hb';(replace M:=bx M';clear M');clear hb')|(at_builtin;(with_reducible apply AaU M.o elU8);rfl;exact One.v rfl;(unfold maxLen;omega);omega;rfl;rfl;rfl;rfl;intro A' c' w' M';(replace M:=bx M';clear M')))
   go_roundw
   case rel=>exact⟨p-1,A',k+1,c',_,u',by have:=HP.o.1;omega,by omega,by rw[HU'.o];exact HP.o.2,by have:=HP.o.1;omega,rfl,rfl,M.o⟩
   case measure=>have:=HDL.o;simp[intOf];omega
  .have hbi:¬(127:Int)<(u.n:Int):=by omega
   go_wp2_with (first|((with_reducible apply Aa7 M.o elU8);rfl;rfl;rfl;rfl;intro w' g M' hb';(replace M:=bx M';clear M');clear hb')|(at_builtin;(with_reducible apply AaU M.o elU8);rfl;exact One.v rfl;(unfold maxLen;omega);omega;rfl;rfl;rfl;rfl;intro A' c' w' M';(replace M:=bx M';clear M')))
   go_ret
   exact⟨A',k+1,c',_,rfl,by omega,M.o⟩
theorem AnL{Γ0 Γ:Gam}{w0 w:World}{L:List Ent}{R:List RowE}(A:Option Addr)(n c:Nat)(xs:List Value)(b:Bool)(hn:n<=1000000)(hM:MM Γ0 w0 Γ w L (⟨.slice A n c,5,1,n,xs⟩::R)) :
  Calls Tryz.prog 181 #[.slice A n c,.bool b] w (ByP Γ0 w0 Γ L R (n+1)):=by
 have M:=bx hM
 clear hM
 cases b<;>go_enter Tryz.func181,Tryz.ntmps181<;>go_wp2_with (first|((with_reducible apply Aa7 M.o elU8);rfl;rfl;rfl;rfl;intro w' g M' hb';(replace M:=bx M';clear M');clear hb')|(at_builtin;(with_reducible apply AaU M.o elU8);rfl;exact One.v rfl;(unfold maxLen;omega);omega;rfl;rfl;rfl;rfl;intro A' c' w' M';(replace M:=bx M';clear M')))
 all_goals
  go_ret
  exact⟨A',n+1,c',_,rfl,Nat.le_refl _,M.o⟩
theorem Ab3{Γ0 Γ:Gam}{w0 w:World}{L:List Ent}{R:List RowE}(A:Option Addr)(n c:Nat)(xs:List Value)(r:Rt)(hn:n<=1000000)(hM:MM Γ0 w0 Γ w L (⟨.slice A n c,5,1,n,xs⟩::R)) :
  Calls Tryz.prog 178 #[.slice A n c,.agg (rc r).toArray] w (ByP Γ0 w0 Γ L R (n+32)):=by
 have M:=bx hM
 clear hM
 change Calls Tryz.prog _ #[_,.agg (fl [rc r]).toArray] _ _
 go_enter Tryz.func178,Tryz.ntmps178
 go_wp2_with (first|(refine zBYo (lenR r) ?_;clear M;intro w' g M)|(at_builtin;(with_reducible apply Aae M.o elU8 (Aaf M.o.at0 (m:=32) (size:=1) rfl));(intro h;cases h);exact Aac r;(unfold maxLen;omega);omega;rfl;rfl;rfl;rfl;intro A' c' w' M';(replace M:=bx M';clear M')))
 go_ret
 exact⟨A',n+32,c',_,rfl,Nat.le_refl _,M.o.tail⟩
end
section
open Go.RowKit Old
theorem Af3{Γ0 Γ:Gam}{w0 w:World}{L:List Ent}{R:List RowE}(A:Option Addr)(n c:Nat)(xs:List Value)(p:Cp)(hn:n<=900000)(hM:MM Γ0 w0 Γ w L (⟨.slice A n c,5,1,n,xs⟩::R)) :
  Calls Tryz.prog 180 #[.slice A n c,.agg (fl (cpP p)).toArray] w (ByP Γ0 w0 Γ L R (n+42)):=by
 have M:=bx hM
 clear hM
 go_enter Tryz.func180,Tryz.ntmps180
 (go_wp2_with (refine zBXo ?_;clear M;intro w' g M))
 refine AaF (fun w'=>HL w' g (cpP p) [1,32]) (.steps [(1,0),(1,1),(0,2),(1,4),(0,5),(2,3),(2,6),(1,7)] .leaf) (by kernel_rfl) (by kernel_rfl) M.o.drew.at0 ?_;(simp only[MixT7,MT.steps,stepI,List.getD_cons_zero,List.getD_cons_succ]);replace M:=bx (M.o.drew)
 refine zNM ?_
 (repeat(first|refine zM0 ?_|(go_big_quiet_want;first|(refine zQL (fun _ h=>h) (AaC p) ?_;go_big_quiet_on;refine zNM ?_)|(refine zQO ?_;go_big_quiet_on))))
 refine zMC (AbJ _ _ _ _ p.e (by omega) M.o) Tryz.func154 ?_;rintro e1 w1 ⟨A1,n1,c1,xs1,rfl,hn1,M'⟩;refine⟨_,rfl,M'.at0,?_⟩;(replace M:=bx M';clear M');refine zNM ?_
 refine zMR7 ?_
 refine zMC (Ab3 _ _ _ _ p.r (by omega) M.o) Tryz.func178 ?_;rintro e1 w1 ⟨A1,n1,c1,xs1,rfl,hn1,M'⟩;refine⟨_,rfl,M'.at0,?_⟩;(replace M:=bx M';clear M');refine zNM ?_
 refine zMR7 ?_
 refine NoPanic.normal ?_
 (go_wp2_with (fail))
 go_ret
 exact⟨A1,n1,c1,xs1,rfl,by omega,M.o.tail⟩
theorem ApD:ZeroT Tryz.prog 28 [List.replicate 32 (.int .u8 0)] [32]:=⟨fun w=>by kernel_rfl,rfl⟩
theorem Anp:RowT Tryz.prog 28 32:=⟨⟨_,Tryz.underlying28,rfl⟩,by kernel_rfl⟩
theorem otU8:OneT Tryz.prog 5:=⟨⟨_,Tryz.underlying5,rfl⟩,by kernel_rfl⟩
theorem ArJ(a:Wd)(i:Nat)(hi:i<4):(wc a)[i]? = some (.int .u64 (a.l.getD i 0))/\0<=a.l.getD i 0/\a.l.getD i 0<18446744073709551616:=by
 have h:i<a.l.length:=by rw[a.len];exact hi
 have e:a.l.getD i 0=a.l[i]:=by simp[List.getD,List.getElem?_eq_getElem h]
 refine⟨?_,?_⟩
 .unfold wc ints
  rw[List.getElem?_map,List.getElem?_eq_getElem h,e];rfl
 .rw[e];exact a.rg _ (List.getElem_mem h)
def B32P(Γ:Gam)(w:World)(e:Ending)(w':World):Prop:=∃l:List Int,l.length=32/\e=.returned (.agg (ints .u8 l).toArray)/\Ext Γ w Γ w'
theorem Aho(Γ:Gam)(a:Wd)(w:World)(ok:Ok Γ w) :
  Calls Tryz.prog 205 #[.agg (wc a).toArray] w (B32P Γ w):=by
 have M:=bx (MM.start ok)
 clear ok
 change Calls Tryz.prog _ #[.agg (fl [wc a]).toArray] _ _
 go_enter Tryz.func205,Tryz.ntmps205
 have ZB:Bx (List.replicate 32 (Value.int .u8 0)=ints .u8 (List.replicate 32 0)):=⟨by simp[ints]⟩
 go_upto_region 1 with(first|((refine zBYo (lenW a) ?_;clear M;intro w' g M);(obtain⟨g1,hg1⟩:∃y,y=g:=⟨_,rfl⟩);subst hg1)|((refine zALo (ApD) ?_;clear M;intro w' g M);(obtain⟨g2,hg2⟩:∃y,y=g:=⟨_,rfl⟩);subst hg2))
 go_wp2_with (((refine zALo (ApD) ?_;clear M;intro w' g M);(obtain⟨g3,hg3⟩:∃y,y=g:=⟨_,rfl⟩);subst hg3))
 rw[ZB.o]at M
 go_loopw [4] (fun i wr=>∃(k:Nat) (l:List Int),k<=32/\i=.int .i64 k/\l.length=32/\MM Γ w Γ wr [⟨g3,[ints .u8 l],[32]⟩,⟨g2,[ints .u8 (List.replicate 32 0)],[32]⟩,⟨g1,[wc a],[4]⟩] []) (fun i _=>32-(intOf i).toNat)
 case atStart=>exact⟨0,_,Nat.zero_le _,rfl,List.length_replicate,M.o⟩
 case round=>
  obtain⟨k,l,hk,rfl,hl,hM⟩:=hrel
  clear M
  have M:=bx hM
  have HL:=bx hl
  clear hM hl
  by_cases hk32:k<32
  .obtain⟨q1,q2,q3⟩:=ArJ a (k / 8) (by omega)
   have hc:wr.cell? ⟨g1,k / 8,none⟩=some (.int .u64 (a.l.getD (k / 8) 0)):=by
    have:=M.o.at2.has.cell (k / 8)
    rw[this];exact q1
   have HLL:Bx (31-k<(ints .u8 l).length):=⟨by rw[ints_len,HL.o];omega⟩
   have hkl:(k:Int)<32:=by omega
   have hk0:(0:Int)<=(k:Int):=by omega
   generalize a.l.getD (k / 8) 0=z at *
   clear q1
   go_wp2_with (((with_reducible apply AaX M.o 0 (.int .u8 _) rfl HLL.o);rfl;rfl;rfl;rfl;exact otU8;rfl;rfl;intro w4 M';(simp only[List.set_cons_zero,List.set_cons_succ]at M');(replace M:=bx M';clear M')))
   go_roundw
   case rel=>
    have h:=M.o
    have e:∀(j:Nat) (x:Int),(ints .u8 l).set j (.int .u8 x)=ints .u8 (l.set j x):=fun j x=>by unfold ints;rw[List.map_set]
    rw[e]at h
    exact⟨k+1,_,by omega,by go_num,by rw[List.length_set];exact HL.o,h⟩
   case measure=>simp[intOf];omega
  .obtain rfl:k=32:=by omega
   have OL:Bx (One (ints .u8 l)):=⟨One.ints _ _⟩
   have LL:Bx ([ints .u8 l].map List.length = [32]):=⟨by simp[ints,HL.o]⟩
   go_wp2_with (first|((with_reducible apply Aaq M.o.at0);rfl;rfl;rfl;exact Anp;rfl;rfl)|((with_reducible apply AcK M.o 1 [ints .u8 l] [ints .u8 l]);rfl;rfl;rfl;rfl;rfl;exact Anp;rfl;exact LL.o;exact OL.o;rfl;intro w' M' hg';(simp only[List.set_cons_zero,List.set_cons_succ]at M');(replace M:=bx M';clear M')))
   (try refine zsm ?_);exact bodyPost_ret (AbK (by rfl) _ M.o.at1 (by exact rfl) Anp rfl) rfl ⟨l,HL.o,rfl,M.o.ext⟩
theorem Ahi{Γ0 Γ:Gam}{w0 w:World}{L:List Ent}{R:List RowE}(A:Option Addr)(n c:Nat)(xs:List Value)(a:Wd)(hn:n<=1000000)(hM:MM Γ0 w0 Γ w L (⟨.slice A n c,5,1,n,xs⟩::R)) :
  Calls Tryz.prog 179 #[.slice A n c,.agg (wc a).toArray] w (ByP Γ0 w0 Γ L R (n+32)):=by
 have M:=bx hM
 clear hM
 change Calls Tryz.prog _ #[_,.agg (fl [wc a]).toArray] _ _
 go_enter Tryz.func179,Tryz.ntmps179
 (go_wp2_with (first|(refine zBXo ?_;clear M;intro w' g M)|refine zLAo ?_))
 refine(Aho _ a _ M.ok).mono ?_;rintro e w1 ⟨l,hl,rfl,hx⟩
 replace M:=bx (M.o.call hx)
 clear hx
 have OL:Bx (One (ints .u8 l)):=⟨One.ints _ _⟩
 have LL:Bx ([ints .u8 l].map List.length = [32]):=⟨by simp[ints,hl]⟩
 go_wp2_with (first|(refine zALo (ApD) ?_;clear M;intro w' g M)|((with_reducible apply AcK M.o 0 [ints .u8 l] [ints .u8 l]);rfl;rfl;rfl;rfl;rfl;exact Anp;rfl;exact LL.o;exact OL.o;rfl;intro w' M' hg';(simp only[List.set_cons_zero,List.set_cons_succ]at M');(replace M:=bx M';clear M'))|(at_builtin;(with_reducible apply Aae M.o elU8 (Aaf M.o.at0 (m:=32) (size:=1) rfl));(intro h;cases h);exact OL.o;(unfold maxLen;omega);omega;rfl;rfl;rfl;rfl;intro A' c' w' M';(replace M:=bx M';clear M')))
 go_ret
 exact⟨A',n+32,c',_,rfl,Nat.le_refl _,M.o.tail.tail⟩
theorem AlV{Γ0 Γ:Gam}{w0 w:World}{L:List Ent}{R:List RowE}(A:Option Addr)(n c:Nat)(xs:List Value)(b:Blk)(hn:n<=800000)(hM:MM Γ0 w0 Γ w L (⟨.slice A n c,5,1,n,xs⟩::R)) :
  Calls Tryz.prog 149 #[.slice A n c,.agg (fl (blP b)).toArray] w (ByP Γ0 w0 Γ L R (n+400)):=by
 have M:=bx hM
 clear hM
 go_enter Tryz.func149,Tryz.ntmps149
 (go_wp2_with (refine zBXo ?_;clear M;intro w' g M))
 refine AaF (fun w'=>HL w' g (blP b) blL) (.steps [(1,0),(1,1),(0,2),(1,4),(0,5),(1,7),(0,8),(1,10),(0,11),(2,3),(2,6),(2,9),(2,12),(1,13)] .leaf) (by kernel_rfl) (by kernel_rfl) M.o.drew.at0 ?_;(simp only[MixT7,MT.steps,stepI,List.getD_cons_zero,List.getD_cons_succ]);replace M:=bx (M.o.drew)
 refine zNM ?_
 (repeat(first|refine zM0 ?_|(go_big_quiet_want;first|(refine zQL (fun _ h=>h) (AaZ b) ?_;go_big_quiet_on;refine zNM ?_)|(refine zQO ?_;go_big_quiet_on))))
 refine zMC (AbJ _ _ _ _ b.slot (by omega) M.o) Tryz.func154 ?_;rintro e1 w1 ⟨A1,n1,c1,xs1,rfl,hn1,M'⟩;refine⟨_,rfl,M'.at0,?_⟩;(replace M:=bx M';clear M');refine zNM ?_
 refine zMR7 ?_
 refine zMC (Ab3 _ _ _ _ b.root (by omega) M.o) Tryz.func178 ?_;rintro e1 w1 ⟨A1,n1,c1,xs1,rfl,hn1,M'⟩;refine⟨_,rfl,M'.at0,?_⟩;(replace M:=bx M';clear M');refine zNM ?_
 refine zMR7 ?_
 refine zMC (Ab3 _ _ _ _ b.parent (by omega) M.o) Tryz.func178 ?_;rintro e1 w1 ⟨A1,n1,c1,xs1,rfl,hn1,M'⟩;refine⟨_,rfl,M'.at0,?_⟩;(replace M:=bx M';clear M');refine zNM ?_
 refine zMR7 ?_
 refine zMC (Ab3 _ _ _ _ b.payload (by omega) M.o) Tryz.func178 ?_;rintro e1 w1 ⟨A1,n1,c1,xs1,rfl,hn1,M'⟩;refine⟨_,rfl,M'.at0,?_⟩;(replace M:=bx M';clear M');refine zNM ?_
 refine zMR7 ?_
 refine NoPanic.normal ?_
 (go_wp2_with (fail))
 refine AaF (fun w'=>HL w' g (blP b) blL) (.steps [(1,0),(1,1),(0,2),(1,4),(0,5),(2,3),(2,6),(1,7)] .leaf) (by kernel_rfl) (by kernel_rfl) M.o.drew.at0 ?_;(simp only[MixT7,MT.steps,stepI,List.getD_cons_zero,List.getD_cons_succ]);replace M:=bx (M.o.drew)
 refine zNM ?_
 (repeat(first|refine zM0 ?_|(go_big_quiet_want;first|(refine zQL (fun _ h=>h) (AaZ b) ?_;go_big_quiet_on;refine zNM ?_)|(refine zQO ?_;go_big_quiet_on))))
 refine zMC (Ahi _ _ _ _ b.diff (by omega) M.o) Tryz.func179 ?_;rintro e1 w1 ⟨A1,n1,c1,xs1,rfl,hn1,M'⟩;refine⟨_,rfl,M'.at0,?_⟩;(replace M:=bx M';clear M');refine zNM ?_
 refine zMR7 ?_
 refine zMC (Ahi _ _ _ _ b.pdiff (by omega) M.o) Tryz.func179 ?_;rintro e1 w1 ⟨A1,n1,c1,xs1,rfl,hn1,M'⟩;refine⟨_,rfl,M'.at0,?_⟩;(replace M:=bx M';clear M');refine zNM ?_
 refine zMR7 ?_
 refine NoPanic.normal ?_
 (go_wp2_with (fail))
 refine AaF (fun w'=>HL w' g (blP b) blL) (.steps [(1,0),(1,1),(0,2),(1,4),(0,5),(2,3),(2,6),(1,7)] .leaf) (by kernel_rfl) (by kernel_rfl) M.o.drew.at0 ?_;(simp only[MixT7,MT.steps,stepI,List.getD_cons_zero,List.getD_cons_succ]);replace M:=bx (M.o.drew)
 refine zNM ?_
 (repeat(first|refine zM0 ?_|(go_big_quiet_want;first|(refine zQL (fun _ h=>h) (AaZ b) ?_;go_big_quiet_on;refine zNM ?_)|(refine zQO ?_;go_big_quiet_on))))
 refine zMC (Af3 _ _ _ _ b.just (by omega) M.o) Tryz.func180 ?_;rintro e1 w1 ⟨A1,n1,c1,xs1,rfl,hn1,M'⟩;refine⟨_,rfl,M'.at0,?_⟩;(replace M:=bx M';clear M');refine zNM ?_
 refine zMR7 ?_
 refine zMC (Af3 _ _ _ _ b.fin (by omega) M.o) Tryz.func180 ?_;rintro e1 w1 ⟨A1,n1,c1,xs1,rfl,hn1,M'⟩;refine⟨_,rfl,M'.at0,?_⟩;(replace M:=bx M';clear M');refine zNM ?_
 refine zMR7 ?_
 refine NoPanic.normal ?_
 (go_wp2_with (fail))
 refine AaF (fun w'=>HL w' g (blP b) blL) (.steps [(1,0),(1,1),(1,2),(0,3),(1,5),(1,6),(0,7),(1,9),(0,10),(2,4),(2,8),(2,11),(1,12)] .leaf) (by kernel_rfl) (by kernel_rfl) M.o.drew.at0 ?_;(simp only[MixT7,MT.steps,stepI,List.getD_cons_zero,List.getD_cons_succ]);replace M:=bx (M.o.drew)
 refine zNM ?_
 (repeat(first|refine zM0 ?_|(go_big_quiet_want;first|(refine zQL (fun _ h=>h) (AaZ b) ?_;go_big_quiet_on;refine zNM ?_)|(refine zQO ?_;go_big_quiet_on))))
 refine zMC (Af3 _ _ _ _ b.pj (by omega) M.o) Tryz.func180 ?_;rintro e1 w1 ⟨A1,n1,c1,xs1,rfl,hn1,M'⟩;refine⟨_,rfl,M'.at0,?_⟩;(replace M:=bx M';clear M');refine zNM ?_
 refine zMR7 ?_
 refine zMC (Af3 _ _ _ _ b.pf (by omega) M.o) Tryz.func180 ?_;rintro e1 w1 ⟨A1,n1,c1,xs1,rfl,hn1,M'⟩;refine⟨_,rfl,M'.at0,?_⟩;(replace M:=bx M';clear M');refine zNM ?_
 refine zMR7 ?_
 refine zMC (AnL _ _ _ _ b.timely (by omega) M.o) Tryz.func181 ?_;rintro e1 w1 ⟨A1,n1,c1,xs1,rfl,hn1,M'⟩;refine⟨_,rfl,M'.at0,?_⟩;(replace M:=bx M';clear M');refine zNM ?_
 refine zMR7 ?_
 refine NoPanic.normal ?_
 (go_wp2_with (fail))
 go_ret
 exact⟨A1,n1,c1,xs1,rfl,by omega,M.o.tail⟩
theorem AqN(x:Int):∃v:U,IntKind.u64.wrap x=(v.n:Int):=by
 have h:IntKind.u64.wrap x=x%18446744073709551616:=rfl
 have h0:0<=x%18446744073709551616:=Int.emod_nonneg _ (by decide)
 have h1:x%18446744073709551616<18446744073709551616:=Int.emod_lt_of_pos _ (by decide)
 exact⟨⟨(x%18446744073709551616).toNat,by omega⟩,by rw[h];exact(Int.toNat_of_nonneg h0).symm⟩
theorem Age{Γ0 Γ:Gam}{w0 w:World}{L:List Ent}{R:List RowE}(A:Option Addr)(n c:Nat)(xs:List Value)(x:Int)(hn:n<=1000000)(hM:MM Γ0 w0 Γ w L (⟨.slice A n c,5,1,n,xs⟩::R)) :
  Calls Tryz.prog 154 #[.slice A n c,.int .u64 (IntKind.u64.wrap x)] w (ByP Γ0 w0 Γ L R (n+10)):=by
 obtain⟨v,hv⟩:=AqN x
 rw[hv]
 exact AbJ A n c xs v hn hM
theorem Ae5{Γ:Gam}{A:Option Addr}{l:List Int}(h:SlG Γ A l.length (ints .i64 l)){w:World}(ok:Ok Γ w){k:Nat}(hk:k<l.length):∃g,A=some ⟨g,0,none⟩/\∀j (hj:j<l.length) (w':World),Below w.heap.size w w'->w'.cell? ⟨g,j,none⟩=some (.int .i64 l[j]):=by
 obtain⟨g,post,e,hg⟩:=h (by omega)
 refine⟨g,e,fun j hj w' hb=>?_⟩
 obtain⟨p2,hh⟩:=(ok.below hb) g _ hg
 rw[hh.cell,List.getElem?_append_left (by simp[ints];omega),List.getElem?_append_left (by simp[ints];omega)]
 unfold ints
 rw[List.getElem?_map,List.getElem?_eq_getElem hj];rfl
theorem AiL{Γ0 Γ:Gam}{w0 w:World}{L:List Ent}{R:List RowE}(A:Option Addr)(n c:Nat)(xs:List Value)(l:List Int)(A2:Option Addr)(c2:Nat)(hn:n<=700000)(hl:l.length<=4000)(hs:SlG Γ A2 l.length (ints .i64 l))(hM:MM Γ0 w0 Γ w L (⟨.slice A n c,5,1,n,xs⟩::R)) :
  Calls Tryz.prog 183 #[.slice A n c,.slice A2 l.length c2] w (ByP Γ0 w0 Γ L R (n+10+10*l.length)):=by
 have M:=bx hM
 have HS:=bx hs
 clear hM hs
 go_enter Tryz.func183,Tryz.ntmps183
 go_upto_region 2 with(fail)
 refine(AbJ A n c xs ⟨l.length,by omega⟩ (by omega) M.o).mono ?_;rintro e w1 ⟨A1,n1,c1,xs1,rfl,hn1,hM1⟩
 clear M
 have M:=bx hM1
 have HN1:=bx hn1
 clear hM1 hn1
 go_wp2_with fail
 go_loopw [0,5] (fun sv i wr=>∃(k:Nat) (A3:Option Addr) (n3 c3:Nat) (xs3:List Value),k<=l.length/\i=.int .i64 k/\sv=.slice A3 n3 c3/\n3<=n+10+10*k/\MM Γ0 w0 Γ wr L (⟨.slice A3 n3 c3,5,1,n3,xs3⟩::R)) (fun _ i _=>l.length-(intOf i).toNat)
 case atStart=>exact⟨0,A1,n1,c1,xs1,Nat.zero_le _,rfl,rfl,by have:=HN1.o;omega,M.o⟩
 case round=>
  obtain⟨k,A3,n3,c3,xs3,hk,rfl,rfl,hn3,hM⟩:=hrel
  clear M
  have M:=bx hM
  clear hM
  by_cases hkn:k<l.length
  .have hki:(k:Int)<(l.length:Int):=by omega
   have hk0:(0:Int)<=(k:Int):=by omega
   obtain⟨g2,rfl,hcell⟩:=Ae5 HS.o M.ok hkn
   cases k with
   |zero=>
    have hca:=hcell 0 hkn wr (Below.refl _ _)
    clear hcell
    generalize l[0]=z at *
    have hz:((0:Nat):Int)=0:=rfl
    rw[hz]
    go_wp2_with fail
    refine(Age A3 n3 c3 xs3 z (by omega) M.o).mono ?_;rintro e w2 ⟨A4,n4,c4,xs4,rfl,hn4,hM4⟩
    clear M
    have M:=bx hM4
    clear hM4
    go_wp2_with fail
    go_roundw
    case rel=>exact⟨1,A4,n4,c4,xs4,by omega,by go_num,rfl,by omega,M.o⟩
    case measure=>simp[intOf];omega
   |succ j=>
    have hj1:j<l.length:=by omega
    have HCE:=bx (fun(w':World) (ok':Ok Γ w')=>Ae5 HS.o ok' hkn)
    have C1:=bx (fun w' hb=>hcell (j+1) hkn w' hb)
    have C2:=bx (fun w' hb=>hcell j hj1 w' hb)
    clear hcell
    obtain⟨z1,hg1⟩:∃z,l[j+1]=z:=⟨_,rfl⟩
    obtain⟨z2,hg2⟩:∃z,l[j]=z:=⟨_,rfl⟩
    rw[hg1]at C1
    rw[hg2]at C2
    have hz:((j+1:Nat):Int)=(j:Int)+1:=by omega
    have hne:((j:Int)+1==0)=false:=by simp;omega
    have hsb:(j:Int)+1-1=(j:Int):=by omega
    have hji:(j:Int)<(l.length:Int):=by omega
    have hj0:(0:Int)<=(j:Int):=by omega
    go_wp2_with fail
    refine AaF (fun w'=>(w'.cell? ⟨g2,j+1,none⟩=some (.int .i64 z1)/\w'.cell? ⟨g2,j,none⟩=some (.int .i64 z2))) (.steps [(1,0),(1,1),(1,2),(1,3),(0,4),(1,5),(1,6),(1,7),(1,8),(0,9),(1,10),(1,11),(1,12),(2,13),(1,14)] .leaf) (by kernel_rfl) (by kernel_rfl) ⟨C1.o _ (Below.refl _ _).drew,C2.o _ (Below.refl _ _).drew⟩ ?_;(simp only[MixT7,MT.steps,stepI,List.getD_cons_zero,List.getD_cons_succ]);replace M:=bx (M.o.drew)
    refine zNM ?_
    (repeat(first|refine zM0 ?_|(go_big_quiet_want;first|((first|(refine Aa2 rfl rfl Ac5 (fun w' hw=>hw.1) ?_)|(refine Aa2 rfl rfl Ac5 (fun w' hw=>hw.2) ?_));go_big_quiet_on;refine zNM ?_)|(refine zQO ?_;go_big_quiet_on))))
    refine zMC (Age A3 n3 c3 xs3 _ (by omega) M.o) Tryz.func154 ?_
    rintro e w2 ⟨A4,n4,c4,xs4,rfl,hn4,hM4⟩
    clear M
    have M:=bx hM4
    obtain⟨g5,e5,hcell5⟩:=HCE.o w2 hM4.ext.ok
    injection e5 with e5
    injection e5 with e5
    subst e5
    have c1':=hcell5 (j+1) hkn w2 (Below.refl _ _)
    have c2':=hcell5 j hj1 w2 (Below.refl _ _)
    rw[hg1]at c1'
    rw[hg2]at c2'
    refine⟨_,rfl,⟨c1',c2'⟩,?_⟩
    clear hM4 hcell5 c1' c2'
    refine zNM ?_
    refine zMR7 ?_
    refine NoPanic.normal ?_
    go_wp2_with fail
    go_roundw
    case rel=>exact⟨j+1+1,A4,n4,c4,xs4,by omega,by go_num,rfl,by omega,M.o⟩
    case measure=>simp[intOf];omega
  .obtain rfl:k=l.length:=by omega
   go_wp2_with fail
   go_ret
   exact⟨A3,n3,c3,xs3,rfl,hn3,M.o⟩
def EncP(w:World)(e:Ending)(w':World):Prop:=∃(A:Option Addr) (n c:Nat) (x:Int),e=.returned (.tuple #[.slice A n c,.int .i64 x])/\Below w.heap.size w w'
theorem AlL(Γ:Gam)(a:Att)(A:Option Addr)(c:Nat)(hl:a.l.length<=4000)(hs:SlG Γ A a.l.length (ints .i64 a.l))(w:World)(ok:Ok Γ w) :
  Calls Tryz.prog 150 #[.agg (fl (atP a ⟨A,a.l.length,c⟩)).toArray] w (EncP w):=by
 have M:=bx (MM.start ok)
 have HS:=bx hs
 have VL4:=bx (fun w' ok'=>Aco Γ A c a.l 1024 w' ok' hs (by omega))
 clear ok hs
 go_enter Tryz.func150,Tryz.ntmps150
 (go_wp2_with (first|(refine zBXo ?_;clear M;intro w' g M)|refine zLAo ?_))
 refine(VL4.o _ M.ok).mono ?_;rintro e w1 ⟨er,rfl,hiff,hx⟩
 clear hiff
 replace M:=bx (M.o.call hx)
 clear hx
 by_cases he:er=0
 .subst he
  (go_wp2_with (fail))
  refine AaF (fun w'=>HL w' g (atP a ⟨A,a.l.length,c⟩) [1,32,1,32,1]) (.steps [(1,0),(0,1),(1,3),(0,4),(1,6),(0,7),(1,9),(0,10),(2,2),(2,5),(2,8),(2,11),(1,12),(1,13)] .leaf) (by kernel_rfl) (by kernel_rfl) M.o.drew.at0 ?_;(simp only[MixT7,MT.steps,stepI,List.getD_cons_zero,List.getD_cons_succ]);replace M:=bx (M.o.drew)
  refine zNM ?_
  (repeat(first|refine zM0 ?_|(go_big_quiet_want;first|(refine zQL (fun _ h=>h) (AbB _ _) ?_;go_big_quiet_on;refine zNM ?_)|(refine zQO ?_;go_big_quiet_on))))
  refine zMC (AbJ none 0 0 [] a.slot (by omega) (M.o.row0 5 1)) Tryz.func154 ?_;rintro e1 w1 ⟨A1,n1,c1,xs1,rfl,hn1,M'⟩;refine⟨_,rfl,M'.at0,?_⟩;(replace M:=bx M';clear M');refine zNM ?_
  refine zMR7 ?_
  refine zMC (Ab3 _ _ _ _ a.r (by omega) M.o) Tryz.func178 ?_;rintro e1 w1 ⟨A1,n1,c1,xs1,rfl,hn1,M'⟩;refine⟨_,rfl,M'.at0,?_⟩;(replace M:=bx M';clear M');refine zNM ?_
  refine zMR7 ?_
  refine zMC (Af3 _ _ _ _ a.t (by omega) M.o) Tryz.func180 ?_;rintro e1 w1 ⟨A1,n1,c1,xs1,rfl,hn1,M'⟩;refine⟨_,rfl,M'.at0,?_⟩;(replace M:=bx M';clear M');refine zNM ?_
  refine zMR7 ?_
  refine zMC (AiL _ _ _ _ a.l A c (by omega) hl HS.o M.o) Tryz.func183 ?_;rintro e1 w1 ⟨A1,n1,c1,xs1,rfl,hn1,M'⟩;refine⟨_,rfl,M'.at0,?_⟩;(replace M:=bx M';clear M');refine zNM ?_
  refine zMR7 ?_
  refine NoPanic.normal ?_
  (go_wp2_with (fail))
  go_ret2
  exact⟨_,_,_,_,rfl,M.bel⟩
 ·(go_wp2_with (fail))
  go_ret2
  exact⟨_,_,_,_,rfl,M.bel⟩
theorem Agp{Γ0 Γ:Gam}{w0 w:World}{L:List Ent}{R:List RowE}(A:Option Addr)(n c:Nat)(xs:List Value)(a:Clm)(A2:Option Addr)(c2:Nat)(hn:n<=400000)(hl:a.l.length<=4000)(hs:SlG Γ A2 a.l.length (ints .i64 a.l))(hM:MM Γ0 w0 Γ w L (⟨.slice A n c,5,1,n,xs⟩::R)) :
  Calls Tryz.prog 184 #[.slice A n c,.agg (fl (clP a ⟨A2,a.l.length,c2⟩)).toArray] w (ByP Γ0 w0 Γ L R (n+70+10*a.l.length)):=by
 have M:=bx hM
 have HS:=bx hs
 clear hM hs
 go_enter Tryz.func184,Tryz.ntmps184
 (go_wp2_with (refine zBXo ?_;clear M;intro w' g M))
 refine AaF (fun w'=>HL w' g (clP a ⟨A2,a.l.length,c2⟩) [1,1,32,1]) (.steps [(1,0),(1,1),(0,2),(1,4),(0,5),(1,7),(0,8),(1,10),(0,11),(2,3),(2,6),(2,9),(2,12),(1,13)] .leaf) (by kernel_rfl) (by kernel_rfl) M.o.drew.at0 ?_;(simp only[MixT7,MT.steps,stepI,List.getD_cons_zero,List.getD_cons_succ]);replace M:=bx (M.o.drew)
 refine zNM ?_
 (repeat(first|refine zM0 ?_|(go_big_quiet_want;first|(refine zQL (fun _ h=>h) (Adi _ _) ?_;go_big_quiet_on;refine zNM ?_)|(refine zQO ?_;go_big_quiet_on))))
 refine zMC (AbJ _ _ _ _ a.src (by omega) M.o) Tryz.func154 ?_;rintro e1 w1 ⟨A1,n1,c1,xs1,rfl,hn1,M'⟩;refine⟨_,rfl,M'.at0,?_⟩;(replace M:=bx M';clear M');refine zNM ?_
 refine zMR7 ?_
 refine zMC (AbJ _ _ _ _ a.tgt (by omega) M.o) Tryz.func154 ?_;rintro e1 w1 ⟨A1,n1,c1,xs1,rfl,hn1,M'⟩;refine⟨_,rfl,M'.at0,?_⟩;(replace M:=bx M';clear M');refine zNM ?_
 refine zMR7 ?_
 refine zMC (Ab3 _ _ _ _ a.r (by omega) M.o) Tryz.func178 ?_;rintro e1 w1 ⟨A1,n1,c1,xs1,rfl,hn1,M'⟩;refine⟨_,rfl,M'.at0,?_⟩;(replace M:=bx M';clear M');refine zNM ?_
 refine zMR7 ?_
 refine zMC (AiL _ _ _ _ a.l A2 c2 (by omega) hl HS.o M.o) Tryz.func183 ?_;rintro e1 w1 ⟨A1,n1,c1,xs1,rfl,hn1,M'⟩;refine⟨_,rfl,M'.at0,?_⟩;(replace M:=bx M';clear M');refine zNM ?_
 refine zMR7 ?_
 refine NoPanic.normal ?_
 (go_wp2_with (fail))
 go_ret
 exact⟨A1,n1,c1,xs1,rfl,by omega,M.o.tail⟩
theorem AiZ(Γ:Gam)(x:Slh)(A A2:Option Addr)(c c2:Nat)(hl:x.a.l.length<=4000)(hl2:x.b.l.length<=4000)(hs:SlG Γ A x.a.l.length (ints .i64 x.a.l))(hs2:SlG Γ A2 x.b.l.length (ints .i64 x.b.l))(w:World)(ok:Ok Γ w) :
  Calls Tryz.prog 151 #[.agg (fl (slP x ⟨A,x.a.l.length,c⟩ ⟨A2,x.b.l.length,c2⟩)).toArray] w (EncP w):=by
 have M:=bx (MM.start ok)
 have HS:=bx hs
 have HS2:=bx hs2
 have V1:=bx (fun w' ok'=>Aco Γ A c x.a.l 1024 w' ok' hs (by omega))
 have V2:=bx (fun w' ok'=>Aco Γ A2 c2 x.b.l 1024 w' ok' hs2 (by omega))
 clear ok hs hs2
 go_enter Tryz.func151,Tryz.ntmps151
 (go_wp2_with (first|(refine zBXo ?_;clear M;intro w' g M)|refine zLAo ?_))
 refine(V1.o _ M.ok).mono ?_;rintro e w1 ⟨er,rfl,hiff,hx⟩
 clear hiff
 replace M:=bx (M.o.call hx)
 clear hx
 by_cases he:er=0
 .subst he
  (go_wp2_with (refine zLAo ?_))
  refine(V2.o _ M.ok).mono ?_;rintro e w1 ⟨er,rfl,hiff,hx⟩
  clear hiff
  replace M:=bx (M.o.call hx)
  clear hx
  by_cases he:er=0
  .subst he
   (go_wp2_with (fail))
   refine AaF (fun w'=>HL w' g (slP x ⟨A,x.a.l.length,c⟩ ⟨A2,x.b.l.length,c2⟩) [1,1,32,1,1,1,32,1]) (.steps [(1,0),(0,1),(1,3),(0,4),(2,2),(2,5),(1,6),(1,7)] .leaf) (by kernel_rfl) (by kernel_rfl) M.o.drew.at0 ?_;(simp only[MixT7,MT.steps,stepI,List.getD_cons_zero,List.getD_cons_succ]);replace M:=bx (M.o.drew)
   refine zNM ?_
   (repeat(first|refine zM0 ?_|(go_big_quiet_want;first|(refine zQL (fun _ h=>h) (AdY _ _ _) ?_;go_big_quiet_on;refine zNM ?_)|(refine zQO ?_;go_big_quiet_on))))
   refine zMC (Agp none 0 0 [] x.a A c (by omega) hl HS.o (M.o.row0 5 1)) Tryz.func184 ?_;rintro e1 w1 ⟨A1,n1,c1,xs1,rfl,hn1,M'⟩;refine⟨_,rfl,M'.at0,?_⟩;(replace M:=bx M';clear M');refine zNM ?_
   refine zMR7 ?_
   refine zMC (Agp _ _ _ _ x.b A2 c2 (by omega) hl2 HS2.o M.o) Tryz.func184 ?_;rintro e1 w1 ⟨A1,n1,c1,xs1,rfl,hn1,M'⟩;refine⟨_,rfl,M'.at0,?_⟩;(replace M:=bx M';clear M');refine zNM ?_
   refine zMR7 ?_
   refine NoPanic.normal ?_
   (go_wp2_with (fail))
   go_ret2
   exact⟨_,_,_,_,rfl,M.bel⟩
  ·(go_wp2_with (fail))
   go_ret2
   exact⟨_,_,_,_,rfl,M.bel⟩
 ·(go_wp2_with (fail))
  go_ret2
  exact⟨_,_,_,_,rfl,M.bel⟩
theorem Alq{Γ:Gam}{A:Option Addr}{b:List U}(h:SlG Γ A b.length (us b)){w:World}(ok:Ok Γ w){k:Nat}(hk:k<b.length):∃g,A=some ⟨g,0,none⟩/\w.cell? ⟨g,k,none⟩=some (.int .u64 (b[k].n:Int)):=by
 obtain⟨g,post,e,hg⟩:=h (by omega)
 refine⟨g,e,?_⟩
 obtain⟨p2,hh⟩:=ok g _ hg
 rw[hh.cell,List.getElem?_append_left (by simp[AcY];omega),List.getElem?_append_left (by rw[AcY];exact hk)]
 unfold us
 rw[List.getElem?_map,List.getElem?_eq_getElem hk];rfl
theorem AiY(Γ:Gam)(p:Cp)(b:List U)(A:Option Addr)(c:Nat)(hl:b.length<=4000)(hs:SlG Γ A b.length (us b))(w:World)(ok:Ok Γ w) :
  Calls Tryz.prog 152 #[.agg (fl (tbP p (.slice A b.length c))).toArray] w (EncP w):=by
 have M:=bx (MM.start ok)
 have HS:=bx hs
 clear ok hs
 by_cases hbig:1024<b.length
 .have hbi:(1024:Int)<(b.length:Int):=by omega
  go_enter Tryz.func152,Tryz.ntmps152
  (go_wp2_with (first|(refine zBXo ?_;clear M;intro w' g M)|refine zLAo ?_))
  go_ret2
  exact⟨_,_,_,_,rfl,M.bel⟩
 .have hbi:¬(1024:Int)<(b.length:Int):=by omega
  go_enter Tryz.func152,Tryz.ntmps152
  (go_wp2_with (first|(refine zBXo ?_;clear M;intro w' g M)|refine zLAo ?_))
  refine AaF (fun w'=>HL w' g (tbP p (.slice A b.length c)) [1,32,1]) (.steps [(1,0),(1,1),(0,2),(1,4),(1,5),(0,6),(1,8),(0,9),(1,10),(1,11),(2,3),(2,7),(2,12),(1,13)] .leaf) (by kernel_rfl) (by kernel_rfl) M.o.drew.at0 ?_;(simp only[MixT7,MT.steps,stepI,List.getD_cons_zero,List.getD_cons_succ]);replace M:=bx (M.o.drew)
  refine zNM ?_
  (repeat(first|refine zM0 ?_|(go_big_quiet_want;first|(refine zQL (fun _ h=>h) (AaS _ _) ?_;go_big_quiet_on;refine zNM ?_)|(refine zQO ?_;go_big_quiet_on))))
  refine zMC (AbJ none 0 0 [] p.e (by omega) (M.o.row0 5 1)) Tryz.func154 ?_;rintro e1 w1 ⟨A1,n1,c1,xs1,rfl,hn1,M'⟩;refine⟨_,rfl,M'.at0,?_⟩;(replace M:=bx M';clear M');refine zNM ?_
  refine zMR7 ?_
  refine zMC (Ab3 _ _ _ _ p.r (by omega) M.o) Tryz.func178 ?_;rintro e1 w1 ⟨A1,n1,c1,xs1,rfl,hn1,M'⟩;refine⟨_,rfl,M'.at0,?_⟩;(replace M:=bx M';clear M');refine zNM ?_
  refine zMR7 ?_
  (refine zMC (AbJ _ _ _ _ ⟨b.length,by omega⟩ (by omega) M.o) Tryz.func154 ?_;rintro e1 w1 ⟨A1,n1,c1,xs1,rfl,hn1,M'⟩;refine⟨_,rfl,M'.at0,?_⟩;(replace M:=bx M';clear M');refine zNM ?_)
  refine zMR7 ?_
  refine NoPanic.normal ?_
  (go_wp2_with (fail))
  obtain⟨m,hm⟩:∃m,n1=m:=⟨_,rfl⟩
  have hm1:m<=100:=by omega
  subst hm
  go_loopw [4,5] (fun sv i wr=>∃(k:Nat) (A3:Option Addr) (n3 c3:Nat) (xs3:List Value),k<=b.length/\i=.int .i64 k/\sv=.slice A3 n3 c3/\n3<=100+10*k/\MM Γ w Γ wr [⟨g,tbP p (.slice A b.length c),[1,32,1]⟩] [⟨.slice A3 n3 c3,5,1,n3,xs3⟩]) (fun _ i _=>b.length-(intOf i).toNat)
  case atStart=>exact⟨0,A1,n1,c1,xs1,Nat.zero_le _,rfl,rfl,by omega,M.o⟩
  case round=>
   obtain⟨k,A3,n3,c3,xs3,hk,rfl,rfl,hn3,hM⟩:=hrel
   clear M
   have M:=bx hM
   clear hM
   by_cases hkn:k<b.length
   .have hki:(k:Int)<(b.length:Int):=by omega
    have hk0:(0:Int)<=(k:Int):=by omega
    obtain⟨g2,rfl,hca⟩:=Alq HS.o M.ok hkn
    obtain⟨u,hu⟩:∃u,b[k]=u:=⟨_,rfl⟩
    rw[hu]at hca
    clear hu
    (go_wp2_with (refine zLAo ?_))
    refine(AbJ A3 n3 c3 xs3 u (by omega) M.o).mono ?_;rintro e w2 ⟨A4,n4,c4,xs4,rfl,hn4,hM4⟩
    clear M
    have M:=bx hM4
    clear hM4
    (go_wp2_with (fail))
    go_roundw
    case rel=>exact⟨k+1,A4,n4,c4,xs4,by omega,by go_num,rfl,by omega,M.o⟩
    case measure=>simp[intOf];omega
   .obtain rfl:k=b.length:=by omega
    (go_wp2_with (refine zLAo ?_))
    go_ret2
    exact⟨_,_,_,_,rfl,M.bel⟩
theorem AjR(Γ:Gam)(v:Vd)(w:World)(ok:Ok Γ w) :
  Calls Tryz.prog 153 #[.agg (fl (vdP v)).toArray] w (EncP w):=by
 have M:=bx (MM.start ok)
 clear ok
 by_cases h1:v.kind<1
 .have d1:decide (v.kind<1)=true:=decide_eq_true h1
  go_enter Tryz.func153,Tryz.ntmps153
  (go_wp2_with (first|go_skip|(refine zBXo ?_;clear M;intro w' g M)|refine zLAo ?_))
  go_ret2
  exact⟨_,_,_,_,rfl,M.bel⟩
 .have d1:decide (v.kind<1)=false:=decide_eq_false h1
  by_cases h2:4<v.kind
  .have d2:decide (4<v.kind)=true:=decide_eq_true h2
   go_enter Tryz.func153,Tryz.ntmps153
   (go_wp2_with (first|(refine zBXo ?_;clear M;intro w' g M)|refine zLAo ?_))
   go_ret2
   exact⟨_,_,_,_,rfl,M.bel⟩
  .have d2:decide (4<v.kind)=false:=decide_eq_false h2
   go_enter Tryz.func153,Tryz.ntmps153
   (go_wp2_with (first|(refine zBXo ?_;clear M;intro w' g M)|refine zLAo ?_))
   refine AaF (fun w'=>HL w' g (vdP v) [1,1,32]) (.steps [(1,0),(1,1),(0,2),(1,4),(0,5),(1,6),(1,8),(0,9),(2,3),(2,7),(2,10),(1,11),(1,12)] .leaf) (by kernel_rfl) (by kernel_rfl) M.o.drew.at0 ?_;(simp only[MixT7,MT.steps,stepI,List.getD_cons_zero,List.getD_cons_succ]);replace M:=bx (M.o.drew)
   refine zNM ?_
   (repeat(first|refine zM0 ?_|(go_big_quiet_want;first|(refine zQL (fun _ h=>h) (Abe _) ?_;go_big_quiet_on;refine zNM ?_)|(refine zQO ?_;go_big_quiet_on))))
   refine zMC (AbJ none 0 0 [] v.tag (by omega) (M.o.row0 5 1)) Tryz.func154 ?_;rintro e1 w1 ⟨A1,n1,c1,xs1,rfl,hn1,M'⟩;refine⟨_,rfl,M'.at0,?_⟩;(replace M:=bx M';clear M');refine zNM ?_
   refine zMR7 ?_
   obtain⟨u,hu⟩:∃u:U,v.kind=(u.n:Int):=⟨⟨v.kind.toNat,by omega⟩,by show v.kind=(v.kind.toNat:Int);omega⟩
   (rw[hu];refine zMC (AbJ _ _ _ _ u (by omega) M.o) Tryz.func154 ?_;rintro e1 w1 ⟨A1,n1,c1,xs1,rfl,hn1,M'⟩;refine⟨_,rfl,M'.at0,?_⟩;(replace M:=bx M';clear M');refine zNM ?_)
   refine zMR7 ?_
   refine zMC (Ab3 _ _ _ _ v.latest (by omega) M.o) Tryz.func178 ?_;rintro e1 w1 ⟨A1,n1,c1,xs1,rfl,hn1,M'⟩;refine⟨_,rfl,M'.at0,?_⟩;(replace M:=bx M';clear M');refine zNM ?_
   refine zMR7 ?_
   refine NoPanic.normal ?_
   (go_wp2_with (fail))
   go_ret2
   exact⟨_,_,_,_,rfl,M.bel⟩
structure OpR(Γ:Gam)(o:OpD)(x:OpS):Prop where
 a:∃A c,x.a=⟨A,o.a.l.length,c⟩/\SlG Γ A o.a.l.length (ints .i64 o.a.l)/\o.a.l.length<=4000
 s1:∃A c,x.s1=⟨A,o.s.a.l.length,c⟩/\SlG Γ A o.s.a.l.length (ints .i64 o.s.a.l)/\o.s.a.l.length<=4000
 s2:∃A c,x.s2=⟨A,o.s.b.l.length,c⟩/\SlG Γ A o.s.b.l.length (ints .i64 o.s.b.l)/\o.s.b.l.length<=4000
 t:∃A c,x.t=⟨A,o.t.b.length,c⟩/\SlG Γ A o.t.b.length (us o.t.b)/\o.t.b.length<=4000
theorem Amj(Γ:Gam)(o:OpD)(x:OpS)(hk:1<=o.kind/\o.kind<=6)(h:OpR Γ o x)(w:World)(ok:Ok Γ w) :
  Calls Tryz.prog 123 #[.agg (fl (opP o x)).toArray] w (EncP w):=by
 have M:=bx (MM.start ok)
 obtain⟨⟨A1,c1,e1,q1,l1⟩,⟨A2,c2,e2,q2,l2⟩,⟨A3,c3,e3,q3,l3⟩,⟨A4,c4,e4,q4,l4⟩⟩:=h
 obtain⟨x1,x2,x3,x4⟩:=x
 simp only at e1 e2 e3 e4
 subst e1 e2 e3 e4
 have EA:=bx (fun w' ok'=>AlL Γ o.a A1 c1 l1 q1 w' ok')
 have ES:=bx (fun w' ok'=>AiZ Γ o.s A2 A3 c2 c3 l2 l3 q2 q3 w' ok')
 have ET:=bx (fun w' ok'=>AiY Γ o.t.c o.t.b A4 c4 l4 q4 w' ok')
 have EV:=bx (fun w' ok'=>AjR Γ o.v w' ok')
 clear ok q1 q2 q3 q4 l1 l2 l3 l4
 obtain⟨kd,b,a,s,t,v,wr,kp⟩:=o
 simp only at hk EA ES ET EV
 rcases(by omega:kd=1\/kd=2\/kd=3\/kd=4\/kd=5\/kd=6)with rfl|rfl|rfl|rfl|rfl|rfl
 .go_enter Tryz.func123,Tryz.ntmps123
  (go_wp2_with (first|(refine zBXo ?_;clear M;intro w' g M)|refine zLAo ?_))
  go_ret2
  exact⟨_,_,_,_,rfl,M.bel⟩
 .go_enter Tryz.func123,Tryz.ntmps123
  (go_wp2_with (first|(refine zBXo ?_;clear M;intro w' g M)|refine zLAo ?_))
  refine(AlV none 0 0 [] b (by omega) (M.o.row0 5 1)).mono ?_;rintro e w1 ⟨A1,n1,c1,xs,rfl,hn,hM⟩
  clear M
  have M:=bx hM
  clear hM
  (go_wp2_with (fail))
  go_ret2
  exact⟨_,_,_,_,rfl,M.bel⟩
 .go_enter Tryz.func123,Tryz.ntmps123
  (go_wp2_with (first|(refine zBXo ?_;clear M;intro w' g M)|refine zLAo ?_))
  (refine(EA.o _ M.ok).mono ?_;rintro e w1 ⟨A1,n1,c1,er,rfl,hb⟩;replace M:=bx (M.o.below hb);clear hb;(go_wp2_with (fail));go_ret2;exact⟨_,_,_,_,rfl,M.bel⟩)
 .go_enter Tryz.func123,Tryz.ntmps123
  (go_wp2_with (first|(refine zBXo ?_;clear M;intro w' g M)|refine zLAo ?_))
  (refine(ES.o _ M.ok).mono ?_;rintro e w1 ⟨A1,n1,c1,er,rfl,hb⟩;replace M:=bx (M.o.below hb);clear hb;(go_wp2_with (fail));go_ret2;exact⟨_,_,_,_,rfl,M.bel⟩)
 .go_enter Tryz.func123,Tryz.ntmps123
  (go_wp2_with (first|(refine zBXo ?_;clear M;intro w' g M)|refine zLAo ?_))
  (refine(ET.o _ M.ok).mono ?_;rintro e w1 ⟨A1,n1,c1,er,rfl,hb⟩;replace M:=bx (M.o.below hb);clear hb;(go_wp2_with (fail));go_ret2;exact⟨_,_,_,_,rfl,M.bel⟩)
 .go_enter Tryz.func123,Tryz.ntmps123
  (go_wp2_with (first|(refine zBXo ?_;clear M;intro w' g M)|refine zLAo ?_))
  (refine(EV.o _ M.ok).mono ?_;rintro e w1 ⟨A1,n1,c1,er,rfl,hb⟩;replace M:=bx (M.o.below hb);clear hb;(go_wp2_with (fail));go_ret2;exact⟨_,_,_,_,rfl,M.bel⟩)
def SmB(w:World)(e:Ending)(w':World):Prop:=∃b:Bool,e=.returned (.bool b)/\Below w.heap.size w w'
theorem Aer(Γ:Gam)(A A':Option Addr)(c c':Nat)(l l':List Int)(hl:l.length<=4000)(hl':l'.length<=4000)(h:SlG Γ A l.length (ints .i64 l))(h':SlG Γ A' l'.length (ints .i64 l'))(w:World)(ok:Ok Γ w) :
  Calls Tryz.prog 40 #[.slice A l.length c,.slice A' l'.length c'] w (SmB w):=by
 have M:=bx (MM.start ok)
 have H:=bx h
 have H':=bx h'
 clear ok h h'
 by_cases hne:l.length=l'.length
 .rw[<-hne]
  go_enter Tryz.func40,Tryz.ntmps40
  go_wp2_with fail
  go_loopw [5] (fun i wr=>∃k:Nat,k<=l.length/\i=.int .i64 k/\MM Γ w Γ wr [] []) (fun i _=>l.length-(intOf i).toNat)
  case atStart=>exact⟨0,Nat.zero_le _,rfl,M.o⟩
  case round=>
   obtain⟨k,hk,rfl,hM⟩:=hrel
   clear M
   have M:=bx hM
   clear hM
   by_cases hkn:k<l.length
   .have hki:(k:Int)<(l.length:Int):=by omega
    have hk0:(0:Int)<=(k:Int):=by omega
    obtain⟨g1,rfl,q1⟩:=Ae5 H.o M.ok hkn
    obtain⟨g2,rfl,q2⟩:=Ae5 H'.o M.ok (show k<l'.length by omega)
    have C1:=bx (q1 k hkn)
    have C2:=bx (q2 k (by omega))
    clear q1 q2
    obtain⟨z1,e1⟩:∃z,l[k]=z:=⟨_,rfl⟩
    obtain⟨z2,e2⟩:∃z,l'[k]=z:=⟨_,rfl⟩
    rw[e1]at C1
    rw[e2]at C2
    clear e1 e2
    go_wp2_with fail
    refine AaF (fun w'=>(w'.cell? ⟨g1,k,none⟩=some (.int .i64 z1)/\w'.cell? ⟨g2,k,none⟩=some (.int .i64 z2))) (.steps [(1,0),(1,1),(1,2),(0,3),(1,4),(1,5),(1,6),(0,7),(1,8)] .leaf) (by kernel_rfl) (by kernel_rfl) ⟨C1.o _ (Below.refl _ _).drew,C2.o _ (Below.refl _ _).drew⟩ ?_;(simp only[MixT7,MT.steps,stepI,List.getD_cons_zero,List.getD_cons_succ]);replace M:=bx (M.o.drew)
    try refine zNM ?_
    (repeat(first|refine zM0 ?_|(go_big_quiet_want;first|((first|(refine Aa2 rfl rfl Ac5 (fun w' hw=>hw.1) ?_)|(refine Aa2 rfl rfl Ac5 (fun w' hw=>hw.2) ?_));go_big_quiet_on;refine zNM ?_)|(refine zQO ?_;go_big_quiet_on))))
    refine NoPanic.normal ?_
    by_cases he:z1=z2
    .subst he
     go_wp2_with fail
     go_roundw
     case rel=>exact⟨k+1,by omega,by go_num,M.o⟩
     case measure=>simp[intOf];omega
    .have he':(z1 != z2)=true:=by simp[he]
     go_wp2_with fail
     go_ret
     exact⟨_,rfl,M.bel⟩
   .obtain rfl:k=l.length:=by omega
    go_wp2_with fail
    go_ret
    exact⟨_,rfl,M.bel⟩
 .have hne':((l.length:Int) != (l'.length:Int))=true:=by simp;omega
  go_enter Tryz.func40,Tryz.ntmps40
  go_wp2_with fail
  go_ret
  exact⟨_,rfl,M.bel⟩
theorem Ai2(Γ:Gam)(a b:Att)(A A':Option Addr)(c c':Nat)(hl:a.l.length<=4000)(hl':b.l.length<=4000)(h:SlG Γ A a.l.length (ints .i64 a.l))(h':SlG Γ A' b.l.length (ints .i64 b.l))(w:World)(ok:Ok Γ w) :
  Calls Tryz.prog 87 #[.agg (fl (atP a ⟨A,a.l.length,c⟩)).toArray,.agg (fl (atP b ⟨A',b.l.length,c'⟩)).toArray] w (SmB w):=by
 have M:=bx (MM.start ok)
 have SI:=bx (fun w' ok'=>Aer Γ A A' c c' a.l b.l hl hl' h h' w' ok')
 clear ok h h' hl hl'
 have hq:=Aa5 a.r b.r
 generalize decide (a.r=b.r)=q at *
 have hp:=Adg a.t b.t
 generalize decide (a.t=b.t)=p at *
 by_cases h0:(a.slot.n:Int)=(b.slot.n:Int)
 .have d0:((a.slot.n:Int)==(b.slot.n:Int))=true:=by simp[h0]
  cases q with
  |false=>(go_enter Tryz.func87,Tryz.ntmps87;(go_wp2_with (first|go_skip|(refine zBXo ?_;clear M;intro w' g M)|refine zLAo ?_));go_ret;exact⟨_,rfl,M.bel⟩)
  |true=>
   cases p with
   |false=>(go_enter Tryz.func87,Tryz.ntmps87;(go_wp2_with (first|go_skip|(refine zBXo ?_;clear M;intro w' g M)|refine zLAo ?_));go_ret;exact⟨_,rfl,M.bel⟩)
   |true=>(go_enter Tryz.func87,Tryz.ntmps87;(go_wp2_with (first|(refine zBXo ?_;clear M;intro w' g M)|refine zLAo ?_));refine(SI.o _ M.ok).mono ?_;rintro e w1 ⟨bb,rfl,hb⟩;replace M:=bx (M.o.below hb);clear hb;(go_wp2_with (fail));go_ret;exact⟨_,rfl,M.bel⟩)
 .have d0:((a.slot.n:Int)==(b.slot.n:Int))=false:=by simp[h0]
  (go_enter Tryz.func87,Tryz.ntmps87;(go_wp2_with (first|go_skip|(refine zBXo ?_;clear M;intro w' g M)|refine zLAo ?_));go_ret;exact⟨_,rfl,M.bel⟩)
theorem AeH(Γ:Gam)(a b:Clm)(A A':Option Addr)(c c':Nat)(hl:a.l.length<=4000)(hl':b.l.length<=4000)(h:SlG Γ A a.l.length (ints .i64 a.l))(h':SlG Γ A' b.l.length (ints .i64 b.l))(w:World)(ok:Ok Γ w) :
  Calls Tryz.prog 185 #[.agg (fl (clP a ⟨A,a.l.length,c⟩)).toArray,.agg (fl (clP b ⟨A',b.l.length,c'⟩)).toArray] w (SmB w):=by
 have M:=bx (MM.start ok)
 have SI:=bx (fun w' ok'=>Aer Γ A A' c c' a.l b.l hl hl' h h' w' ok')
 clear ok h h' hl hl'
 have hq:=Aa5 a.r b.r
 generalize decide (a.r=b.r)=q at *
 by_cases h0:(a.src.n:Int)=(b.src.n:Int)
 .have d0:((a.src.n:Int)==(b.src.n:Int))=true:=by simp[h0]
  by_cases h1:(a.tgt.n:Int)=(b.tgt.n:Int)
  .have d1:((a.tgt.n:Int)==(b.tgt.n:Int))=true:=by simp[h1]
   cases q with
   |false=>(go_enter Tryz.func185,Tryz.ntmps185;(go_wp2_with (first|go_skip|(refine zBXo ?_;clear M;intro w' g M)|refine zLAo ?_));go_ret;exact⟨_,rfl,M.bel⟩)
   |true=>(go_enter Tryz.func185,Tryz.ntmps185;(go_wp2_with (first|(refine zBXo ?_;clear M;intro w' g M)|refine zLAo ?_));refine(SI.o _ M.ok).mono ?_;rintro e w1 ⟨bb,rfl,hb⟩;replace M:=bx (M.o.below hb);clear hb;(go_wp2_with (fail));go_ret;exact⟨_,rfl,M.bel⟩)
  .have d1:((a.tgt.n:Int)==(b.tgt.n:Int))=false:=by simp[h1]
   (go_enter Tryz.func185,Tryz.ntmps185;(go_wp2_with (first|go_skip|(refine zBXo ?_;clear M;intro w' g M)|refine zLAo ?_));go_ret;exact⟨_,rfl,M.bel⟩)
 .have d0:((a.src.n:Int)==(b.src.n:Int))=false:=by simp[h0]
  (go_enter Tryz.func185,Tryz.ntmps185;(go_wp2_with (first|go_skip|(refine zBXo ?_;clear M;intro w' g M)|refine zLAo ?_));go_ret;exact⟨_,rfl,M.bel⟩)
theorem Ag3(Γ:Gam)(x y:Slh)(A1 A2 A3 A4:Option Addr)(c1 c2 c3 c4:Nat)(l1:x.a.l.length<=4000)(l2:x.b.l.length<=4000)(l3:y.a.l.length<=4000)(l4:y.b.l.length<=4000)
  (h1:SlG Γ A1 x.a.l.length (ints .i64 x.a.l)) (h2:SlG Γ A2 x.b.l.length (ints .i64 x.b.l)) (h3:SlG Γ A3 y.a.l.length (ints .i64 y.a.l)) (h4:SlG Γ A4 y.b.l.length (ints .i64 y.b.l)) (w:World) (ok:Ok Γ w) :
  Calls Tryz.prog 155 #[.agg (fl (slP x ⟨A1,x.a.l.length,c1⟩ ⟨A2,x.b.l.length,c2⟩)).toArray,.agg (fl (slP y ⟨A3,y.a.l.length,c3⟩ ⟨A4,y.b.l.length,c4⟩)).toArray] w (SmB w):=by
 have M:=bx (MM.start ok)
 have S1:=bx (fun w' ok'=>AeH Γ x.a y.a A1 A3 c1 c3 l1 l3 h1 h3 w' ok')
 have S2:=bx (fun w' ok'=>AeH Γ x.b y.b A2 A4 c2 c4 l2 l4 h2 h4 w' ok')
 clear ok h1 h2 h3 h4 l1 l2 l3 l4
 go_enter Tryz.func155,Tryz.ntmps155
 (go_wp2_with (first|(refine zBXo ?_;clear M;intro w' g M)|refine zLAo ?_))
 refine(S1.o _ M.ok).mono ?_;rintro e w1 ⟨bb,rfl,hb⟩
 replace M:=bx (M.o.below hb)
 clear hb
 cases bb with
 |false=>
  (go_wp2_with (go_skip))
  go_ret
  exact⟨_,rfl,M.bel⟩
 |true=>
  (go_wp2_with (refine zLAo ?_))
  refine(S2.o _ M.ok).mono ?_;rintro e w2 ⟨bb,rfl,hb⟩
  replace M:=bx (M.o.below hb)
  clear hb
  (go_wp2_with (fail))
  go_ret
  exact⟨_,rfl,M.bel⟩
end
section
open Go.RowKit
def kVd:List Value:=.int .u64 0 :: .int .i64 0::(List.replicate 32 [Value.int .u8 0]).flatten
theorem eqTg:EqT Tryz.prog 2 121 [.int .u64 0]:=by
 refine EqT.struct Tryz.underlying121 (by kernel_rfl) (by kernel_rfl) (by kernel_rfl) ?_
 exact⟨[.int .u64 0],[],rfl,by decide,rfl,EqT.int Tryz.underlying23 (by kernel_rfl),rfl⟩
theorem eqVd:EqT Tryz.prog 3 123 kVd:=by
 refine EqT.struct Tryz.underlying123 (by kernel_rfl) (by kernel_rfl) (by kernel_rfl) ?_
 refine⟨[.int .u64 0],_,rfl,by decide,rfl,eqTg,?_⟩
 refine⟨[.int .i64 0],_,rfl,by decide,rfl,(EqT.int Tryz.underlying3 (by kernel_rfl)).mono' (by omega),?_⟩
 exact⟨(List.replicate 32 [Value.int .u8 0]).flatten,[],by simp,by decide,rfl,Adf,rfl⟩
theorem Ame(a:Vd):Fits kVd (fl (vdP a)):=show Fits (.int .u64 0 :: .int .i64 0::_) (.int .u64 (a.tag.n:Int) :: .int .i64 a.kind::ints .u8 a.latest.l)from⟨rfl,rfl,Ab9 a.latest.len⟩
theorem AqL{a b:Vd}:fl (vdP a)=fl (vdP b)↔a=b:=by
 constructor
 .intro h
  simp only[vdP,fl,List.cons_append,List.nil_append,List.cons.injEq,Value.int.injEq,true_and]at h
  obtain⟨h1,h2,h3⟩:=h
  obtain⟨t,k,r⟩:=a
  obtain⟨t',k',r'⟩:=b
  have:=AfX.1 h3
  simp only at this h1 h2
  rw[this,h2,U.ext' (Int.ofNat.inj h1)]
 .rintro rfl;rfl
theorem ApH(a b:Vd)(w:World):(Op.equalIn 10000 123 (.agg (fl (vdP a)).toArray) (.agg (fl (vdP b)).toArray)).run Tryz.prog w=.ok (decide (a=b)) w:=
 eqVd.same (by omega) (Aa0 Tryz.underlying123) (AaV Tryz.underlying123) (Ame a) (Ame b) (AbE (Abe a)) (AbE (Abe b)) (by simp[AqL]) w
end
end Go.Proofs.YtpaihpeoiliioaaGreat
