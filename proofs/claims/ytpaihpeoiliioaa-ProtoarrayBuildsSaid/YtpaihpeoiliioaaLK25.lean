/- Texts joined: what the walks of this claim stand on (part 25). -/
import Derived.Test.YtpaihpeoiliioaaLK21
import Derived.Test.YtpaihpeoiliioaaLK22
import Derived.Test.YtpaihpeoiliioaaLK23
import Derived.Test.YtpaihpeoiliioaaLK24
set_option linter.all false
set_option maxRecDepth 20000
set_option maxHeartbeats 40000000
namespace Go.Proofs.Ytpaihpeoiliioaa
section
open Go.RowKit Old
def NodC(Γ:Gam)(w:World)(N:List Nod)(e:Ending)(w':World):Prop:=∃(A:Option Addr) (c:Nat) (Γ':Gam),e=.returned (.slice A N.length c)/\CapOk A N.length c/\SlG Γ' A N.length (N.flatMap nox)/\Ext Γ w Γ' w'
theorem AhF(Γ:Gam)(x:Sl)(N:List Nod)(hb:N.length<=4096)(hpos:0<N.length)(w:World)(ok:Ok Γ w)(h:NG Γ x N) :
  Calls Try.prog 52 #[x.v] w (NodC Γ w N):=by
 obtain⟨g,post,hA,_⟩:=h.sl (by rw[h.n];exact hpos)
 have HV:=Ae9 hA
 rw[h.n]at HV
 rw[HV]
 have HM:=bx ((MM.start ok).rowNew ((Below.refl w.heap.size w).alloc (Nat.le_refl _) (.cells #[] 52)) (World.ownsRow_made (base:=w.heap.size) (e:=52) (size:=240) w #[] 0 (Nat.le_refl _) (Nat.zero_le _) rfl))
 have hsl:SlG Γ (some ⟨g,0,none⟩) N.length (N.flatMap nox):=by rw[<-hA,<-h.n];exact h.sl
 have ROW:=bx (hsl.row (size:=240) (by rw[Aa2 N (fun x _=>AbF x)]) HM.o.ext.ok)
 have OneN:Bx (One (N.flatMap nox)):=⟨Ah4 fun x _=>AfR x⟩
 have he:∀(n c:Nat) (w:World),(binOp .eql 23 (.slice (some ⟨g,0,none⟩) n c) (.slice none 0 0)).run Try.prog w=.ok (.bool false) w:=fun _ _ _=>rfl
 have B1:Bx (0+N.length<=maxLen):=⟨by unfold maxLen;omega⟩
 have B2:Bx ((0+N.length)*352<=140737488355328):=⟨by omega⟩
 obtain⟨n,hn⟩:∃n,N.length=n:=⟨_,rfl⟩
 have HN:=bx hn
 rw[hn]at ROW B1 B2 |-
 clear ok h hb hpos hA hn HV hsl
 go_enter Try.func52,Try.ntmps52
 go_wp2_with (at_builtin;(with_reducible refine AbN HM.o elNo (s:=.tmp 5) (x:=.tmp 6) ROW.o (fun h=>by cases h) OneN.o B1.o B2.o rfl rfl rfl rfl ?_);intro A' c' w' M';have M:=bx M';clear M')
 go_ret
 have M1:=M.o
 rw[Nat.zero_add,List.nil_append,<-HN.o]at M1
 obtain⟨Γ',h1,h2,h3,h4⟩:=M1.frz
 exact⟨A',c',Γ',by rw[HN.o];rfl,h1,h2,h4.ext⟩
theorem Afl(Γ:Gam)(x:Sl)(N:List Nod)(hb:N.length<=4096)(hpos:0<N.length)(w:World)(ok:Ok Γ w)(h:NG Γ x N) :
  Calls Try.prog 43 #[.agg [x.v].toArray] w (fun e w'=>∃y Γ',e=.returned (.agg [y.v].toArray)/\NG Γ' y N/\Ext Γ w Γ' w'):=by
 have M:=bx (MM.start ok)
 have CN:=bx (fun w ok=>AhF Γ x N hb hpos w ok h)
 have HV:Bx (x.v=.slice x.A N.length x.c):=⟨by rw[<-h.n]⟩
 clear ok h hb hpos
 change Calls Try.prog _ #[.agg (fl [[x.v]]).toArray] _ _
 go_enter Try.func43,Try.ntmps43
 go_wp2_with (first|((first|refine zBXd ?_|refine zALd (Ac5) ?_);clear M;intro w' g M)|refine zLAd ?_)
 refine(CN.o _ M.ok).mono ?_
 rintro e1 w1 ⟨A,c,Γ1,rfl,hc,hs,hx⟩
 replace M:=bx (M.o.call hx)
 go_wp2_with (first|refine zBDd 25 [(0,.slice A N.length c)] [.slice A N.length c] (by kernel_rfl) ?_|(refine zSSd M 0 [[.slice A N.length c]] [[.slice A N.length c]] (by rfl) (AbZ _ _ _) ?_;clear M;intro w' M))
 (try refine zsm ?_);refine bodyPost_ret (Ab8 rfl _ M.o.at0 rfl Ab6 rfl) rfl ?_
 exact⟨⟨A,N.length,c⟩,Γ1,rfl,⟨rfl,hc,hs⟩,M.o.ext⟩
def arP(b d t di we:Value)(st:Int):List (List Value):=[[b],[d],[t],[di],[we],[.int .i64 st]]
def arL:List Nat:=[1,1,1,1,1,1]
theorem Aks(b d t di we:Value)(st:Int):(arP b d t di we st).map List.length=arL:=rfl
structure ArOk(Γ:Gam)(s:Sto)(B D:Option Addr)(y:Sl)(A2:Option Addr):Prop where
 b:SlG Γ B s.nodes.length (ints .i64 (bstL s.nodes s.wts s.lives))
 d:SlG Γ D s.nodes.length (ints .i64 (dscL s.nodes s.wts s.lives))
 t:NG Γ y s.nodes
 w:SlG Γ A2 s.nodes.length (us s.wts)
theorem ArOk.mono{Γ Γ':Gam}{s:Sto}{B D:Option Addr}{y:Sl}{A2:Option Addr}(h:ArOk Γ s B D y A2)(hl:Le Γ Γ'):ArOk Γ' s B D y A2:=⟨h.b.mono hl,h.d.mono hl,h.t.mono hl,h.w.mono hl⟩
theorem AhS{Γ0:Gam}{w0:World}{L:List Ent}{R:List RowE}(Γ:Gam)(s:Sto)(v:Sls)(k:Nat)(h:HOk Γ s v k)(g:Nat)(b d t di:Value)(A2:Option Addr)(c2:Nat)(st:Int)(w:World)(M0:MM Γ0 w0 Γ w (⟨g,arP b d t di (.slice A2 s.nodes.length c2) st,arL⟩::L) R)(h2:SlG Γ A2 s.nodes.length (us s.wts)) :
  Calls Try.prog 32 #[.pointer (some ⟨g,0,none⟩),.agg (fl (stP s v)).toArray] w fun e w'=>(∃u,e=.returned u)/\∃(B D:Option Addr) (cb cd:Nat) (y:Sl) (Γ':Gam),MM Γ0 w0 Γ' w' (⟨g,arP (.slice B s.nodes.length cb) (.slice D s.nodes.length cd) y.v di (.slice A2 s.nodes.length c2) (fndI s.nodes s.just.r),arL⟩::L) R/\ArOk Γ' s B D y A2/\Le Γ Γ':=by
 have M:=bx M0
 have H:=bx h
 have HS2:=bx h2
 have LL:=bx (Aht s)
 have WL:=bx (AhQ s)
 have NB:=bx h.nb
 have TI0:=bx h.si.t
 have CT:=bx (fun w ok=>Afl Γ v.nodes s.nodes h.nb h.si.t.pos w ok h.g.nodes)
 clear h h2 M0
 go_enter Try.func32,Try.ntmps32
 (go_wp2_with (first|(refine zBXd ?_;clear M;intro w' g M)|refine zLAd ?_))
 refine(CT.o _ M.ok).mono ?_
 rintro e1 w1 ⟨y,Γ1,rfl,hy,hx⟩
 replace M:=bx (M.o.call hx)
 have HY:=bx hy
 have H1:=bx (H.o.mono hx.le)
 have HS3:=bx (HS2.o.mono hx.le)
 have L1:=bx hx.le
 clear hy hx H HS2 CT
 (go_wp2_with ((refine zSSd M 1 [[y.v]] (arP b d y.v di (.slice A2 s.nodes.length c2) st) (by rfl) (AbZ _ _ _) ?_;clear M;intro w' M)))
 refine AaK [14] (.steps [(1,0),(1,1),(1,2),(1,3),(0,4),(1,5),(1,6),(1,7),(0,8),(0,9),(2,10),(2,11),(1,12),(1,13),(3,14)] .leaf) (by kernel_rfl) (by kernel_rfl) ?_;(simp only[MixT6,MT.steps,stepAt,List.getD_cons_zero,List.getD_cons_succ]);replace M:=bx (M.o.drew)
 refine zNM ?_
 refine zMRd ?_
 refine zMC (H1.o.live _ M.ok) Try.func44 ?_
 rintro e6 w6 ⟨A6,c6,Γ6,rfl,hc6,hs6,hx6⟩
 refine⟨_,rfl,hx6.bel,?_⟩
 replace M:=bx (M.o.call hx6)
 rw[LL.o]at hs6
 rw[LL.o]
 have H6:=bx (H1.o.mono hx6.le)
 have HS6:=bx hs6
 have HS4:=bx (HS3.o.mono hx6.le)
 have HY6:=bx (HY.o.mono hx6.le)
 have L6:=bx (L1.o.trans hx6.le)
 clear hc6 hs6 hx6 H1 HS3 HY L1
 refine zNM ?_
 refine zMRd ?_
 refine zMC (Ag0 Γ6 y s.nodes A2 A6 c2 c6 s.wts s.lives TI0.o.lk TI0.o.diff NB.o WL.o LL.o _ M.ok HY6.o HS4.o HS6.o) Try.func6 ?_
 rintro e7 w7 ⟨B,D,cb,cd,Γ7,rfl,hcb,hcd,hB,hD,hx7⟩
 refine⟨_,rfl,hx7.bel,?_⟩
 replace M:=bx (M.o.call hx7)
 have eb:(bstL s.nodes s.wts s.lives).length=s.nodes.length:=AaQ _ _
 have ed:(dscL s.nodes s.wts s.lives).length=s.nodes.length:=AaQ _ _
 rw[eb]at hB
 rw[ed]at hD
 rw[eb,ed]
 have H7:=bx (H6.o.mono hx7.le)
 have AO:=bx (ArOk.mk (s:=s) hB hD (HY6.o.mono hx7.le) (HS4.o.mono hx7.le))
 have L7:=bx (L6.o.trans hx7.le)
 clear hcb hcd hB hD hx7 H6 HS6 HS4 HY6 L6 eb ed
 refine zNM ?_
 refine zMRd ?_
 refine Aax M.o 1 (lkP (.slice B s.nodes.length cb) (.slice D s.nodes.length cd)) (arP (.slice B s.nodes.length cb) (.slice D s.nodes.length cd) y.v di (.slice A2 s.nodes.length c2) st) rfl rfl rfl rfl rtLk rfl rfl (Acm _ _ _ _ _ _) rfl rfl ?_
 intro w8 M'
 (simp only[List.set_cons_zero,List.set_cons_succ]at M')
 (replace M:=bx M';clear M')
 refine zNM ?_
 refine NoPanic.normal ?_
 go_wp2_with fail
 refine AaK [12] (.steps [(1,0),(1,1),(1,2),(1,3),(0,4),(1,5),(1,6),(1,7),(0,8),(2,9),(1,10),(1,11),(3,12)] .leaf) (by kernel_rfl) (by kernel_rfl) ?_;(simp only[MixT6,MT.steps,stepAt,List.getD_cons_zero,List.getD_cons_succ]);replace M:=bx (M.o.drew)
 refine zNM ?_
 refine zMRd ?_
 refine zMC (AhT Γ7 y s.nodes s.just.r _ M.ok AO.o.t NB.o) Try.func45 ?_
 rintro e9 w9 ⟨rfl,hx9⟩
 refine⟨_,rfl,hx9.bel,?_⟩
 replace M:=bx (M.o.call hx9)
 clear hx9
 refine zNM ?_
 refine zMRd ?_
 refine Afv M.o 1 (.int .i64 (fndI s.nodes s.just.r)) (arP (.slice B s.nodes.length cb) (.slice D s.nodes.length cd) y.v di (.slice A2 s.nodes.length c2) (fndI s.nodes s.just.r)) rfl rfl rfl rfl AcU rfl rfl rfl rfl rfl rfl ?_
 intro w7 M'
 (simp only[List.set_cons_zero,List.set_cons_succ]at M')
 (replace M:=bx M';clear M')
 refine zNM ?_
 refine NoPanic.normal ?_
 go_wp2_with fail
 go_end0
 exact⟨⟨_,rfl⟩,B,D,cb,cd,y,Γ7,M.o.tail,AO.o,L7.o⟩
def ArrP(Γ:Gam)(w:World)(s:Sto)(e:Ending)(w':World):Prop:=∃(g:Nat) (B D:Option Addr) (cb cd:Nat) (y:Sl) (di:Value) (A2:Option Addr) (c2:Nat) (Γ':Gam),e=.returned (.pointer (some ⟨g,0,none⟩))/\Γ' g=some (fl (arP (.slice B s.nodes.length cb) (.slice D s.nodes.length cd) y.v di (.slice A2 s.nodes.length c2) (fndI s.nodes s.just.r)))/\ArOk Γ' s B D y A2/\Ext Γ w Γ' w'
theorem Aih(Γ:Gam)(s:Sto)(v:Sls)(k:Nat)(h:HOk Γ s v k)(w:World)(ok:Ok Γ w) :
  Calls Try.prog 18 #[.agg (fl (stP s v)).toArray] w (ArrP Γ w s):=by
 have M:=bx (MM.start ok)
 have H:=bx h
 have hw:=h.si.wok h.k
 have nx:=h.g.nodes.n
 have DI:=bx (fun w ok=>Afr Γ s v k h.si h.k w ok h.g)
 have DL:=bx (Als hw.sm)
 have SU:Bx (∀(A:Option Addr) (c:Nat) w,Ok Γ w->Old.U64 s.db->Old.URow w A s.nodes.length s.db->Calls Try.prog 31 #[.agg #[v.nodes.v],.slice A s.nodes.length c] w (Old.UN s.nodes.length (subL (upsN s.nodes) s.nodes.length s.db) w)):=⟨fun A c w ok hd hr=>by
  have a1:=NG.nrow (x:=v.nodes) h.g.nodes ok
  rw[nx]at a1
  rw[show v.nodes.v=.slice v.nodes.A s.nodes.length v.nodes.c by rw[<-nx]]
  have:=Ae7 v.nodes.A A s.nodes.length v.nodes.c c (s.nodes.map toNd) s.db hd (by rw[AgA];exact hw.lk) hw.nb hw.pos w a1 hr
  rw[AgA,Aj2 hw.lk (by rw[AbS]) hw.pos hd DL.o]at this
  exact this⟩
 have WL:=bx (AjY s)
 clear ok h hw nx DL
 go_enter Try.func18,Try.ntmps18
 (go_wp2_with (first|(refine zBXd ?_;clear M;intro w' g M)|refine zLAd ?_))
 refine(DI.o _ M.ok).mono ?_
 rintro e5 w5 ⟨A5,c5,rfl,hu5,hr5,hx5⟩
 replace M:=bx (M.o.below hx5)
 have HU5:=bx hu5
 have HR5:=bx hr5
 clear hu5 hr5 hx5 DI
 go_wp2_with (first|refine zBDd 83 [(2,.slice A5 s.nodes.length c5)] [.slice none 0 0,.slice none 0 0,.slice none 0 0,.slice A5 s.nodes.length c5,.slice none 0 0,.int .i64 0] (by kernel_rfl) ?_|((with_reducible apply AbW M.o (P:=arP (.slice none 0 0) (.slice none 0 0) (.slice none 0 0) (.slice A5 s.nodes.length c5) (.slice none 0 0) 0) (ls:=arL));rfl;rfl;rfl;exact Aks _ _ _ _ _ _;intro w' g M' hb';have HB7:=bx hb'.1;clear hb';(replace M:=bx M';clear M');refine zNM ?_))
 have HR7:=bx (Old.URow.below HR5.o HB7.o)
 clear HR5 HB7
 refine AaK [10] (.steps [(1,0),(1,1),(0,2),(1,3),(1,4),(1,5),(0,6),(2,7),(1,8),(1,9),(3,10)] .leaf) (by kernel_rfl) (by kernel_rfl) ?_;(simp only[MixT6,MT.steps,stepAt,List.getD_cons_zero,List.getD_cons_succ]);replace M:=bx (M.o.drew)
 refine zNM ?_
 refine zMRd ?_
 refine zMC (SU.o A5 c5 _ M.ok HU5.o HR7.o) Try.func31 ?_
 rintro e6 w6 ⟨g6,c6,rfl,hu6,hl6,hg6,hc6,⟨post,hh⟩,hx6⟩
 refine⟨_,rfl,hx6,?_⟩
 replace M:=bx (M.o.newRow hx6 hg6 (P:=[ints .u64 (subL (upsN s.nodes) s.nodes.length s.db),post]) (ls:=[(ints .u64 (subL (upsN s.nodes) s.nodes.length s.db)).length,post.length]) (by simpa [fl]using hh) rfl)
 have HU6:=bx hu6
 clear hu6 hl6 hg6 hc6 hh hx6 SU HR7 HU5
 refine zNM ?_
 refine zMRd ?_
 refine Afv M.o 1 (.slice (some ⟨g6,0,none⟩) s.nodes.length c6) (arP (.slice none 0 0) (.slice none 0 0) (.slice none 0 0) (.slice A5 s.nodes.length c5) (.slice (some ⟨g6,0,none⟩) s.nodes.length c6) 0) rfl rfl rfl rfl (by exact zots) rfl rfl rfl rfl rfl rfl ?_
 intro w8 M'
 (simp only[List.set_cons_zero,List.set_cons_succ]at M')
 (replace M:=bx M';clear M')
 refine zNM ?_
 refine NoPanic.normal ?_
 obtain⟨Γ',h1,h2,h3⟩:=M.o.frzL
 have HS:Bx (SlG Γ' (some ⟨g6,0,none⟩) s.nodes.length (us s.wts)):=⟨fun _=>⟨g6,post,rfl,by rw[WL.o,Ak4 HU6.o];simpa [fl]using h1⟩⟩
 have H1:=bx (H.o.mono h2)
 clear M
 have M:=bx h3
 clear h1 h2 h3 H HU6 WL
 (go_wp2_with (refine zLAd ?_))
 refine(AhS Γ' s v k H1.o _ _ _ _ _ (some ⟨g6,0,none⟩) c6 0 _ M.o HS.o).mono ?_
 rintro e9 w9 ⟨⟨u,rfl⟩,B,D,cb,cd,y,Γ9,hM,hA,hl⟩
 clear M
 have M:=bx hM
 have HA:=bx hA
 clear hM hA hl HS H1
 refine zNM ?_
 (go_wp2_with (fail))
 go_ret
 obtain⟨Γz,z1,z2,z3⟩:=M.o.frzL
 exact⟨_,B,D,cb,cd,y,_,_,c6,Γz,rfl,z1,HA.o.mono z2,z3.ext⟩
theorem Ah0(l:List Int):ints .i64 l=l.flatMap fun u=>[.int .i64 u]:=by
 induction l with
 |nil=>rfl
 |cons a t ih=>rw[List.flatMap_cons,<-ih];rfl
theorem AgX{Γ:Gam}{A:Option Addr}{l:List Int}(h:SlG Γ A l.length (ints .i64 l))(i:Nat)(hi:i<l.length):∃g,A=some ⟨g,0,none⟩/\Chk Γ g i (fl [[.int .i64 l[i]]]):=by
 rw[Ah0]at h
 obtain⟨g,h1,h2⟩:=h.at (k:=1) (fun x _=>rfl) rfl i hi
 exact⟨g,h1,by rw[Nat.mul_one]at h2;exact h2⟩
theorem AnJ{Γ:Gam}{g:Nat}{b d t di we:Value}{st:Int}(h:Γ g=some (fl (arP b d t di we st))):Fz Γ g 0 (arP b d t di we st) arL:=⟨⟨_,h,fun j u hu=>by rw[Nat.zero_add];exact hu⟩,rfl⟩
def nthI(l:List Int)(d:Int)(i:Int):Int:=if 0<=i/\i<(l.length:Int)then l.getD i.toNat 0 else d
theorem Ahk{l:List Int}{d:Int}{i:Nat}(h:i<l.length):nthI l d (i:Int)=l[i]:=by
 unfold nthI;rw[if_pos ⟨by omega,by omega⟩,Int.toNat_natCast];simp[List.getD,List.getElem?_eq_getElem h]
theorem AdG{l:List Int}{d:Int}{i:Int}(h:i<0\/(l.length:Int)<=i):nthI l d i=d:=by
 unfold nthI;rw[if_neg (by omega)]
theorem Ad7(Γ:Gam)(g b0:Nat)(B D:Option Addr)(cb cd:Nat)(t di we:Value)(st:Int)(X Y:List Int)(hXY:Y.length=X.length)(i:Int)(w:World)(ok:Ok Γ w)(hF:Fz Γ g b0 (arP (.slice B X.length cb) (.slice D X.length cd) t di we st) arL)(hX:SlG Γ B X.length (ints .i64 X))(hY:SlG Γ D X.length (ints .i64 Y)) :
  Calls Try.prog 19 #[.pointer (some ⟨g,b0,none⟩),.int .i64 i] w fun e w'=>e=.returned (.tuple #[.int .i64 (nthI X (-1) i),.int .i64 (nthI Y (-1) i)])/\Ext Γ w Γ w':=by
 have M:=bx (MM.start ok)
 have F:=bx hF
 have HX:=bx hX
 have HY:Bx (SlG Γ D Y.length (ints .i64 Y)):=⟨by rw[hXY];exact hY⟩
 have HL:=bx hXY
 clear ok hF hX hY hXY
 rcases Int.lt_or_le i 0 with h0|h0
 .have e1:=bx (AdG (l:=X) (d:=-1) (i:=i) (.inl h0))
  have e2:=bx (AdG (l:=Y) (d:=-1) (i:=i) (.inl h0))
  go_enter Try.func19,Try.ntmps19
  (go_wp2_with (fail))
  go_ret2
  exact⟨by rw[e1.o,e2.o];rfl,M.o.ext⟩
 .obtain⟨k,rfl⟩:∃k:Nat,i=(k:Int):=⟨i.toNat,by omega⟩
  by_cases h1:k<X.length
  .have e1:=bx (Ahk (d:=-1) h1)
   have h2:k<Y.length:=by rw[HL.o];exact h1
   have e2:=bx (Ahk (d:=-1) h2)
   obtain⟨gb,rfl,hb⟩:=AgX HX.o k h1
   obtain⟨gd,rfl,hd⟩:=AgX HY.o k h2
   have FB:Bx (Fz Γ gb k [[.int .i64 X[k]]] [1]):=⟨hb,rfl⟩
   have FD:Bx (Fz Γ gd k [[.int .i64 Y[k]]] [1]):=⟨hd,rfl⟩
   have hki:(k:Int)<(X.length:Int):=by omega
   clear hb hd HX HY HL
   generalize X[k]=xk at *
   generalize Y[k]=yk at *
   go_enter Try.func19,Try.ntmps19
   (go_wp2_with (refine zRFd F ?_))
   refine AaK [] (.steps [(1,0),(1,1),(1,2),(1,3),(0,4),(1,5),(1,6),(0,7),(1,8),(1,9),(1,10),(1,11),(0,12),(1,13),(1,14),(0,15),(1,16),(1,17)] .leaf) (by kernel_rfl) (by kernel_rfl) ?_;(simp only[MixT6,MT.steps,stepAt,List.getD_cons_zero,List.getD_cons_succ]);replace M:=bx (M.o.drew)
   (repeat(first|refine zM0 ?_|(go_big_quiet_want;first|((first|refine zQFd F ?_|refine zQFd FB ?_|refine zQFd FD ?_);go_big_quiet_on;refine zNM ?_)|(refine zQO ?_;go_big_quiet_on))))
   refine NoPanic.normal ?_
   go_wp2_with fail
   go_ret2
   exact⟨by rw[e1.o,e2.o];rfl,M.o.ext⟩
  .have e1:=bx (AdG (l:=X) (d:=-1) (i:=(k:Int)) (.inr (by omega)))
   have e2:=bx (AdG (l:=Y) (d:=-1) (i:=(k:Int)) (.inr (by rw[HL.o];omega)))
   have hki:(X.length:Int)<=(k:Int):=by omega
   clear HX HY HL h1
   go_enter Try.func19,Try.ntmps19
   (go_wp2_with (refine zRFd F ?_))
   go_ret2
   exact⟨by rw[e1.o,e2.o];rfl,M.o.ext⟩
theorem Aif(Γ:Gam)(g b0:Nat)(B D:Option Addr)(cb cd:Nat)(t di we:Value)(st:Int)(X Y:List Int)(hXY:Y.length=X.length)(w:World)(ok:Ok Γ w)(hF:Fz Γ g b0 (arP (.slice B X.length cb) (.slice D X.length cd) t di we st) arL)(hX:SlG Γ B X.length (ints .i64 X))(hY:SlG Γ D X.length (ints .i64 Y)) :
  Calls Try.prog 20 #[.pointer (some ⟨g,b0,none⟩)] w fun e w'=>e=.returned (.int .i64 (if 0<=nthI Y (-1) st then nthI Y (-1) st else st))/\Ext Γ w Γ w':=by
 have M:=bx (MM.start ok)
 have F:=bx hF
 have BO:=bx (fun w ok=>Ad7 Γ g b0 B D cb cd t di we st X Y hXY st w ok hF hX hY)
 clear ok hF hX hY hXY
 generalize nthI X (-1) st=xs at *
 generalize nthI Y (-1) st=ys at *
 obtain⟨z,hz⟩:∃z,z=(if 0<=ys then ys else st):=⟨_,rfl⟩
 rw[<-hz]
 have HZ:=bx hz
 clear hz
 go_enter Try.func20,Try.ntmps20
 (go_wp2_with (refine zRFd F ?_))
 refine zCA M (BO.o _ M.ok) ?_;clear M;intro w1 M
 refine zNM ?_
 by_cases h:0<=ys
 .have HE:Bx (z=ys):=⟨by rw[HZ.o,if_pos h]⟩
  (go_wp2_with (fail))
  go_ret
  exact⟨by rw[HE.o];rfl,M.o.ext⟩
 .have HE:Bx (z=st):=⟨by rw[HZ.o,if_neg h]⟩
  (go_wp2_with (refine zRFd F ?_))
  go_ret
  exact⟨by rw[HE.o];rfl,M.o.ext⟩
theorem Af8(Γ:Gam)(g b0:Nat)(b d t di:Value)(A2:Option Addr)(c2:Nat)(st:Int)(W:List U)(i:Int)(w:World)(ok:Ok Γ w)(hF:Fz Γ g b0 (arP b d t di (.slice A2 W.length c2) st) arL)(h2:SlG Γ A2 W.length (us W)) :
  Calls Try.prog 21 #[.pointer (some ⟨g,b0,none⟩),.int .i64 i] w fun e w'=>e=.returned (.int .u64 (if 0<=i/\i<(W.length:Int)then((W.getD i.toNat u0).n:Int)else 0))/\Ext Γ w Γ w':=by
 have M:=bx (MM.start ok)
 have F:=bx hF
 have H2:=bx h2
 clear ok hF h2
 obtain⟨z,hz⟩:∃z:Int,z=(if 0<=i/\i<(W.length:Int)then((W.getD i.toNat u0).n:Int)else 0):=⟨_,rfl⟩
 rw[<-hz]
 have HZ:=bx hz
 clear hz
 rcases Int.lt_or_le i 0 with h0|h0
 .have HE:Bx (z=0):=⟨by rw[HZ.o,if_neg (by omega)]⟩
  go_enter Try.func21,Try.ntmps21
  (go_wp2_with (fail))
  go_ret
  exact⟨by rw[HE.o];rfl,M.o.ext⟩
 .obtain⟨k,rfl⟩:∃k:Nat,i=(k:Int):=⟨i.toNat,by omega⟩
  by_cases h1:k<W.length
  .have hp:0<=(k:Int)/\(k:Int)<(W.length:Int):=⟨h0,by omega⟩
   obtain⟨gb,rfl,hb⟩:=Ae3 H2.o k h1
   have FB:Bx (Fz Γ gb k [[.int .u64 (W[k].n:Int)]] [1]):=⟨hb,rfl⟩
   have hki:(k:Int)<(W.length:Int):=by omega
   have e:Bx (((W.getD ((k:Nat):Int).toNat u0).n:Int)=(W[k].n:Int)):=⟨by rw[Int.toNat_natCast];simp[List.getD,List.getElem?_eq_getElem h1]⟩
   have HE:Bx (z=(W[k].n:Int)):=⟨by rw[HZ.o,if_pos hp,e.o]⟩
   clear hb H2 hp e
   go_enter Try.func21,Try.ntmps21
   (go_wp2_with (first|refine zRFd F ?_|refine zRFd FB ?_))
   go_ret
   exact⟨by rw[HE.o];rfl,M.o.ext⟩
  .have hn:¬(0<=(k:Int)/\(k:Int)<(W.length:Int)):=by omega
   have HE:Bx (z=0):=⟨by rw[HZ.o,if_neg hn]⟩
   have hki:(W.length:Int)<=(k:Int):=by omega
   clear H2 hn h1
   go_enter Try.func21,Try.ntmps21
   (go_wp2_with (refine zRFd F ?_))
   go_ret
   exact⟨by rw[HE.o];rfl,M.o.ext⟩
def TicP(Γ:Gam)(w:World)(k:Nat)(e:Ending)(w':World):Prop:=∃(er:Int) (s':Sto),StE Γ w er s' e w'/\(er=0->SI k s')/\er≠21
theorem SI.tick{k:Nat}{s:Sto}(h:SI k s){u:U}(hu:u.n=s.now.n+1):SI (k+1) {s with now:=u,boost:=r0}:=
 {h with spe:=⟨h.spe.1,h.spe.2⟩,eqv:=by have:=h.eqv;simp only;omega,now:=by have:=h.now;simp only;omega,ord:=fun n hn=>⟨(h.ord n hn).1,by have:=(h.ord n hn).2;simp only;omega⟩}
theorem SI.early{k:Nat}{s:Sto}(h:SI k s){l:List Att}(h1:(l.length:Int)<=s.c.el)(h2:∀a∈l,a.l.length<=100):SI k {s with early:=l}:=
 {h with spe:=⟨h.spe.1,h.spe.2⟩,el:=⟨h1,h.el.2⟩,att:=h2}
theorem SI.lats{k:Nat}{s:Sto}(h:SI k s){l:List Vo}(h1:l.length=s.lat.length)(h2:∀v∈l,v.has=false->v=vo0):SI k {s with lat:=l}:=
 {h with spe:=⟨h.spe.1,h.spe.2⟩,lat:=h1.trans h.lat,lv:=h2}
theorem AiE(p:Cp × Cp):List.take 2 (puP p)=cpP p.1:=rfl
theorem AiD(p:Cp × Cp):List.take 2 (List.drop 2 (puP p))=cpP p.2:=rfl
theorem AgW{T:List Tbl}{t x:Tbl}:x∈addT T t↔x=t\/x∈T:=by
 unfold addT
 rw[List.mem_append,List.mem_cons]
 constructor
 .rintro(h|h|h)
  .exact .inr ((List.takeWhile_sublist _).subset h)
  .exact .inl h
  .exact .inr ((List.dropWhile_sublist _).subset h)
 .rintro(h|h)
  .exact .inr (.inl h)
  .rw[<-List.takeWhile_append_dropWhile (p:=fun x=>decide (cmpCp x.c t.c<0)) (l:=T)]at h
   rcases List.mem_append.1 h with h|h
   .exact .inl h
   .exact .inr (.inr h)
theorem AjW(T:List Tbl)(t:Tbl):(addT T t).length=T.length+1:=by
 unfold addT
 rw[List.length_append,List.length_cons]
 have:=congrArg List.length (List.takeWhile_append_dropWhile (p:=fun x=>decide (cmpCp x.c t.c<0)) (l:=T))
 rw[List.length_append]at this
 omega
theorem Anb{k:Nat}{s:Sto}{t:Tbl}(h:SI k s)(h0:(regS s t).1=0):SI k (regS s t).2:=by
 unfold regS at h0 |-
 split
 .rename_i hc;rw[if_pos hc]at h0;exact absurd h0 hc
 .rename_i hv
  rw[if_neg hv]at h0
  split
  .rename_i hc;rw[if_pos hc]at h0;simp at h0
  .rename_i hc
   rw[if_neg hc]at h0
   split
   .rename_i hc2;rw[if_pos hc2]at h0;exact absurd h0 hc2
   .rename_i hr
    have hr':(regM s.tabs t (s.bal.length:Int) s.c.tl).1=0:=by
     by_cases hx:(regM s.tabs t (s.bal.length:Int) s.c.tl).1=0
     .exact hx
     .exact absurd hx hr
    have hv':tbE t.b (s.bal.length:Int)=0:=by
     by_cases hx:tbE t.b (s.bal.length:Int)=0
     .exact hx
     .exact absurd hx hv
    have key:(s.tabs.length:Int)<s.c.tl/\(regM s.tabs t (s.bal.length:Int) s.c.tl).2=addT s.tabs t/\∀x∈s.tabs,x.c≠t.c:=by
     unfold regM at hr' |-
     rw[if_neg (by rw[hv'];simp)]at hr' |-
     split at hr'
     .simp at hr'
     .rename_i h1
      rw[if_neg h1]
      split at hr'
      .simp at hr'
      .rename_i h2
       rw[if_neg h2]
       exact⟨by omega,rfl,AhD h1⟩
    have htl:=h.tl
    simp only
    exact {h with
     spe:=⟨h.spe.1,h.spe.2⟩
     tl:=by simp only[key.2.1,AjW];omega
     asc:=by simp only[key.2.1];exact Aie h.asc key.2.2
     tab:=by
      obtain⟨x,hx,e⟩:=h.tab
      exact⟨x,by simp only[key.2.1];exact AgW.2 (.inr hx),e⟩
     tbs:=fun x hx=>by
      simp only[key.2.1]at hx
      rcases AgW.1 hx with rfl|hx
      .exact hv'
      .exact h.tbs x hx}
theorem Anp{k:Nat}{s:Sto}{a:Att}(h:SI k s):SI k {s with lat:=(castV s.lat a.t.e a.r a.l).1}:=h.lats (AiQ _ _ _ _).1 (AjH h.lv _ _ _)
theorem AmR{k:Nat}{s:Sto}{a:Att}(h:SI k s)(ha:a.l.length<=100)(hr:(s.early.length:Int)<s.c.el):SI k {s with early:=s.early ++ [a]}:=
 h.early (by simp;omega) (fun x hx=>by
  rcases List.mem_append.1 hx with hx|hx
  .exact h.att x hx
  .have:x=a:=by simpa using hx
   subst this;exact ha)
theorem AjF(x:Slh):(culI x).length<=x.a.l.length:=by
 have:=AiG x x.a.l.length
 unfold culTo at this
 rwa [List.take_of_length_le (Nat.le_refl _)]at this
theorem AfY{l:List Int}{n:Int}(h:l.Pairwise (· < ·)):(insI l n).Pairwise (· < ·)/\∀y∈insI l n,y=n\/y∈l:=by
 have hcat:l.takeWhile (fun x=>decide (x<n))++l.dropWhile (fun x=>decide (x<n))=l:=List.takeWhile_append_dropWhile
 have hA:∀x∈l.takeWhile (fun x=>decide (x<n)),x<n:=fun x hx=>by
  have:=List.all_eq_true.1 (List.all_takeWhile (p:=fun x=>decide (x<n)) (l:=l)) x hx
  simpa using this
 have hB:∀d t,l.dropWhile (fun x=>decide (x<n))=d::t->¬d<n:=fun d t e=>by
  have:=List.head?_dropWhile_not (p:=fun x=>decide (x<n)) l
  rw[e]at this
  simpa using this
 have hp:=h
 rw[<-hcat,List.pairwise_append]at hp
 obtain⟨h1,h2,h3⟩:=hp
 unfold insI
 generalize l.takeWhile (fun x=>decide (x<n))=A at *
 generalize l.dropWhile (fun x=>decide (x<n))=B at *
 split
 .exact⟨h,fun y hy=>.inr hy⟩
 .rename_i hne
  refine⟨?_,fun y hy=>?_⟩
  .rw[List.pairwise_append,List.pairwise_cons]
   have hn:∀b∈B,n<b:=fun b hb=>by
    cases B with
    |nil=>cases hb
    |cons d t=>
     have e1:=hB d t rfl
     have e2:d≠n:=fun e=>hne (by simp[e])
     rcases List.mem_cons.1 hb with rfl|hb
     .omega
     .have:=(List.pairwise_cons.1 h2).1 b hb
      omega
   refine⟨h1,⟨hn,h2⟩,fun a ha b hb=>?_⟩
   rcases List.mem_cons.1 hb with rfl|hb
   .exact hA a ha
   .exact h3 a ha b hb
  .rw[List.mem_append,List.mem_cons]at hy
   rcases hy with hy|rfl|hy
   .exact .inr (by rw[<-hcat];exact List.mem_append.2 (.inl hy))
   .exact .inl rfl
   .exact .inr (by rw[<-hcat];exact List.mem_append.2 (.inr hy))
theorem AfJ:∀(l s:List Int),s.Pairwise (· < ·)->(punI s l).Pairwise (· < ·)/\∀y∈punI s l,y∈s\/y∈l
 |[],s,h=>⟨h,fun y hy=>.inl hy⟩
 |a::t,s,h=>by
  obtain⟨h1,h2⟩:=AfY (n:=a) h
  obtain⟨h3,h4⟩:=AfJ t (insI s a) h1
  refine⟨h3,fun y hy=>?_⟩
  rcases h4 y hy with h|h
  .rcases h2 y h with rfl|h
   .exact .inr (by simp)
   .exact .inl h
  .exact .inr (by simp[h])
theorem AiH(x:Slh):(culI x).Pairwise (· < ·)/\∀y∈culI x,y∈x.a.l:=by
 unfold culI
 suffices hs:∀(l acc:List Int),acc.Pairwise (· < ·)->(l.foldl (fun acc y=>if y∈x.b.l then insI acc y else acc) acc).Pairwise (· < ·)/\∀y∈l.foldl (fun acc y=>if y∈x.b.l then insI acc y else acc) acc,y∈acc\/y∈l by
  obtain⟨h1,h2⟩:=hs x.a.l [] List.Pairwise.nil
  exact⟨h1,fun y hy=>(h2 y hy).elim (fun h=>(by cases h)) id⟩
 intro l
 induction l with
 |nil=>intro acc h;exact⟨h,fun y hy=>.inl hy⟩
 |cons a t ih=>
  intro acc h
  rw[List.foldl_cons]
  by_cases hb:a∈x.b.l
  .rw[if_pos hb]
   obtain⟨h1,h2⟩:=AfY (n:=a) h
   obtain⟨h3,h4⟩:=ih _ h1
   refine⟨h3,fun y hy=>?_⟩
   rcases h4 y hy with h|h
   .rcases h2 y h with rfl|h
    .exact .inr (by simp)
    .exact .inl h
   .exact .inr (by simp[h])
  .rw[if_neg hb]
   obtain⟨h3,h4⟩:=ih acc h
   exact⟨h3,fun y hy=>(h4 y hy).elim .inl fun h=>.inr (by simp[h])⟩
theorem AmA{k:Nat}{s:Sto}{x:Slh}(h:SI k s)(hx:x.a.l.length<=100)(hv:VList x.a.l (s.bal.length:Int)):SI (k+1) {s with eqv:=punI s.eqv (culI x)}:=by
 have h1:=Aip s.eqv (culI x)
 have h2:=AjF x
 have h3:=h.eqv
 obtain⟨p1,p2⟩:=AfJ (culI x) s.eqv h.eqa
 obtain⟨_,c2⟩:=AiH x
 exact {h with spe:=⟨h.spe.1,h.spe.2⟩,eqv:=by simp only;omega,now:=by have:=h.now;simp only;omega,eqa:=p1,eqr:=fun y hy=>(p2 y hy).elim (h.eqr y) fun hc=>hv.mem y (c2 y hc)}
theorem Ai0{k:Nat}{s:Sto}{M:List Nod}{i:Nat}{v:Vd}{r:Rt}(h:SI k s)(hi:i<s.nodes.length)
  (hj:judgeN s.nodes (i:Int) v [fndI s.nodes s.just.r,fndI s.nodes s.fin.r]=(0,M)):SI k {s with nodes:=M,boost:=r}:=by
 obtain⟨j,hjl,r1,r2⟩:=h.just
 obtain⟨h0,f1⟩:=h.fin
 have e1:fndI s.nodes s.just.r=(j:Int):=by rw[<-r1];exact Agh h.t.diff hjl
 have e2:fndI s.nodes s.fin.r=((0:Nat):Int):=by rw[<-f1];exact Agh h.t.diff h0
 rw[e1,e2]at hj
 obtain⟨J,K⟩:=Aiz (keep:=[j,0]) h.t hi hj
 have hl:=J.same.len
 exact {h with
  t:=J.t
  spe:=⟨h.spe.1,h.spe.2⟩
  nl:=by simp only[hl];exact h.nl
  just:=⟨j,by simp only[hl];exact hjl,by simp only;rw[(J.same.b j hjl (by omega)).1];exact r1,K j (by simp) hjl (by omega) r2⟩
  fin:=⟨by simp only[hl];exact h0,by simp only;rw[(J.same.b 0 h0 (by omega)).1];exact f1⟩
  ord:=fun n hn=>by
   obtain⟨q,hq,rfl⟩:=List.getElem_of_mem hn
   have hq':q<s.nodes.length:=by rw[<-hl];exact hq
   have:=h.ord _ (List.getElem_mem hq')
   rw[(J.same.b q hq' hq).1]
   exact this}
structure ZI(k:Nat)(z:Zst):Prop where
 s:SI k z.s
 nreq:z.reqs.length<=40*k
 nret:z.rets.length<=k
 tries:∀q,q∈z.reqs\/q∈z.rets->0<=q.tries/\q.tries<=(k:Int)
theorem ZI.more{k k':Nat}{z:Zst}(h:ZI k z)(hk:k<=k'):ZI k' z:=
 ⟨h.s.more hk,by have:=h.nreq;omega,by have:=h.nret;omega,fun q hq=>by have:=h.tries q hq;omega⟩
theorem ZI.halt{k:Nat}{z:Zst}(h:ZI k z)(b:Bool):ZI k {z with halt:=b}:=⟨h.s,h.nreq,h.nret,h.tries⟩
theorem ZI.emt{k:Nat}{z:Zst}(h:ZI k z):ZI k (emtZ z):=by
 unfold emtZ
 split
 .exact h
 .exact⟨h.s,h.nreq,h.nret,h.tries⟩
theorem ZI.store{k:Nat}{z:Zst}(h:ZI k z){s:Sto}(hs:SI k s):ZI k {z with s:=s}:=⟨hs,h.nreq,h.nret,h.tries⟩
theorem AfT{N:List Nod}{l:List Rq}{q:Rq}(h:q∈knownR N l):q∈l:=(List.mem_filter.1 h).1
theorem AfV(N:List Nod)(l:List Rq):(knownR N l).length<=l.length:=List.length_filter_le _ _
theorem ZI.drop{k:Nat}{z:Zst}(h:ZI k z):ZI k (dropZ z):=
 ⟨h.s,Nat.le_trans (AfV _ _) h.nreq,Nat.le_trans (AfV _ _) h.nret,fun q hq=>h.tries q (hq.elim (fun h=>.inl (AfT h)) fun h=>.inr (AfT h))⟩
theorem AgU:∀(l:List Rt) (z:Zst),(opTo z l).rets=z.rets/\∀q∈(opTo z l).reqs,q∈z.reqs\/q.tries=0
 |[],z=>⟨rfl,fun q hq=>.inl hq⟩
 |a::t,z=>by
  obtain⟨h1,h2⟩:=AgU t (opS z a)
  have e:opTo z (a::t)=opTo (opS z a) t:=rfl
  have h3:(opS z a).rets=z.rets/\∀q∈(opS z a).reqs,q∈z.reqs\/q.tries=0:=by
   unfold opS
   split
   .refine⟨rfl,fun q hq=>?_⟩
    rcases List.mem_append.1 hq with hq|hq
    .exact .inl hq
    .have:q=⟨z.ntag,a,0,u0⟩:=by simpa using hq
     rw[this];exact .inr rfl
   .exact⟨rfl,fun q hq=>.inl hq⟩
  rw[e]
  exact⟨h1.trans h3.1,fun q hq=>(h2 q hq).elim (h3.2 q) .inr⟩
theorem ZI.opens{k:Nat}{z:Zst}(h:ZI k z){l:List Rt}(hl:l.length<=9):ZI (k+1) (opTo z l):=by
 obtain⟨h1,h2⟩:=AlQ z l
 obtain⟨h3,h4⟩:=AgU l z
 have h5:=h.more (Nat.le_succ k)
 refine⟨by rw[h1];exact h5.s,by have:=h.nreq;omega,by rw[h3];exact h5.nret,fun q hq=>?_⟩
 rcases hq with hq|hq
 .rcases h4 q hq with hq|hq
  .exact h5.tries q (.inl hq)
  .rw[hq];omega
 .rw[h3]at hq;exact h5.tries q (.inr hq)
theorem Ai9(l:List Rq):∀y:Zst,∀q,q∈(l.foldl dueS y).reqs\/q∈(l.foldl dueS y).rets->(q∈y.reqs\/q∈y.rets)\/∃r∈l,q.tries=r.tries:=by
 induction l with
 |nil=>intro y q hq;exact .inl hq
 |cons a t ih=>
  intro y q hq
  rw[List.foldl_cons]at hq
  rcases ih (dueS y a) q hq with h|⟨r,hr,e⟩
  .unfold dueS at h
   split at h
   .rcases h with h|h
    .exact .inl (.inl h)
    .rcases List.mem_append.1 h with h|h
     .exact .inl (.inr h)
     .have:q=a:=by simpa using h
      exact .inr ⟨a,by simp,by rw[this]⟩
   .split at h
    .rcases h with h|h
     .rcases List.mem_append.1 h with h|h
      .exact .inl (.inl h)
      .have:q=⟨y.ntag,a.block,a.tries,u0⟩:=by simpa using h
       exact .inr ⟨a,by simp,by rw[this]⟩
     .exact .inl (.inr h)
    .exact .inl h
  .exact .inr ⟨r,by simp[hr],e⟩
theorem ZI.due{k:Nat}{z:Zst}(h:ZI (k+1) z)(e2:z.reqs.length<=40*k)(e1:z.rets.length<=k)(hk:k<=40):ZI (k+1) (dueZ z):=by
 obtain⟨h1,h2,h3⟩:=Akb z z.rets
 refine⟨by unfold dueZ;rw[h1];exact h.s,by unfold dueZ;omega,by unfold dueZ;omega,fun q hq=>?_⟩
 unfold dueZ dueTo at hq
 rcases Ai9 z.rets _ q hq with(hq|hq)|⟨r,hr,e⟩
 .exact h.tries q (.inl hq)
 .cases hq
 .rw[e];exact h.tries r (.inr hr)
theorem ZI.cut{k:Nat}{z:Zst}(h:ZI k z)(j:Nat):ZI k {z with reqs:=z.reqs.take j++z.reqs.drop (j+1)}:=by
 have hm:∀q∈z.reqs.take j++z.reqs.drop (j+1),q∈z.reqs:=fun q hq=>by
  rcases List.mem_append.1 hq with hq|hq
  .exact List.mem_of_mem_take hq
  .exact List.mem_of_mem_drop hq
 refine⟨h.s,?_,h.nret,fun q hq=>h.tries q (hq.imp (hm q) id)⟩
 have:=h.nreq
 simp only[List.length_append,List.length_take,List.length_drop]
 omega
theorem ZI.later{k:Nat}{z z':Zst}{r:Rq}(h:ZI k z)(hr:0<=r.tries/\r.tries<=(k:Int))(e1:z'.s=z.s)(e2:z'.reqs=z.reqs)(e3:z'.rets.length<=z.rets.length+1)(e4:∀q∈z'.rets,q∈z.rets\/q.tries=r.tries+1):ZI (k+1) z':=by
 have h5:=h.more (Nat.le_succ k)
 refine⟨by rw[e1];exact h5.s,by rw[e2];exact h5.nreq,by have:=h.nret;omega,fun q hq=>?_⟩
 rcases hq with hq|hq
 .rw[e2]at hq;exact h5.tries q (.inl hq)
 .rcases e4 q hq with hq|hq
  .exact h5.tries q (.inr hq)
  .rw[hq];omega
theorem ZI.judge{k:Nat}{z:Zst}{M:List Nod}{i:Nat}{v:Vd}{r:Rt}(h:ZI k z)(hi:i<z.s.nodes.length)
  (hj:judgeN z.s.nodes (i:Int) v [fndI z.s.nodes z.s.just.r,fndI z.s.nodes z.s.fin.r]=(0,M)):ZI k {z with s:={z.s with nodes:=M,boost:=r}}:=
 ⟨Ai0 h.s hi hj,h.nreq,h.nret,h.tries⟩
structure CfB(c:Cf)(bal:List U):Prop where
 ok:CfOk c bal
 nl:c.nl<=14
 ol:c.ol<=8
 el:c.el<=8
 tl:c.tl<=8
 bal:1<=bal.length/\bal.length<=6
theorem Ahl{c:Cf}{bal:List U}(h:CfB c bal):SI 0 (newS c bal) where
 t:=TI.one (genB c) h.ok.gen
 spe:=⟨h.ok.spe.1,h.ok.spe.2⟩
 nl:=⟨h.ok.nl.1,h.nl⟩
 ol:=⟨h.ok.ol.1,h.ol⟩
 el:=⟨h.ok.el.1,h.el⟩
 tl:=⟨h.ok.tl.1,h.tl⟩
 bp:=h.ok.bp
 bal:=h.bal
 lat:=by show(List.replicate bal.length vo0).length=bal.length;simp
 just:=⟨0,Nat.zero_lt_one,rfl,by show(1:Int)≠2;decide⟩
 fin:=⟨Nat.zero_lt_one,rfl⟩
 ord:=fun n hn=>by
  have:n=⟨genB c,-1,1⟩:=by simpa [newS]using hn
  subst this
  refine⟨?_,Nat.zero_le _⟩
  have e1:=h.ok.spe.1
  unfold ordrd
  simp[genB,newS,u0,epN,b0,st0]
 tab:=⟨⟨⟨u0,c.gen⟩,bal⟩,by simp[newS],rfl⟩
 tbs:=fun t ht=>by
  have:t=⟨⟨u0,c.gen⟩,bal⟩:=by simpa [newS]using ht
  subst this
  exact h.ok.sum
 att:=fun a ha=>by cases ha
 eqv:=Nat.zero_le _
 now:=Nat.le_refl _
 cf:=h.ok
 lv:=fun v hv _=>List.eq_of_mem_replicate hv
 eqr:=fun x hx=>by cases hx
 eqa:=List.Pairwise.nil
 asc:=List.pairwise_singleton _ _
def begZ(c:Cf)(bal:List U):Zst:=emtZ {zs0 with s:=newS c bal,ntag:=⟨1,by decide⟩}
theorem Ano{c:Cf}{bal:List U}(h:CfB c bal):ZI 0 (begZ c bal):=
 ZI.emt ⟨Ahl h,Nat.le_refl _,Nat.le_refl _,fun q hq=>by rcases hq with hq|hq<;>cases hq⟩
theorem An1{Γ:Gam}{x:Zls}{z:Zst}(h:ZsG Γ x z):ZsG Γ x (emtZ z):=by
 unfold emtZ
 split
 .exact h
 .exact⟨h.s,h.reqs,h.rets⟩
def StpP(Γ:Gam)(w:World)(k:Nat)(e:Ending)(w':World):Prop:=∃(z':Zst) (x':Zls) (Γ':Gam) (A:Option Addr) (n c:Nat) (L:List Cm) (er:Int),e=.returned (.tuple #[.agg (fl (zsP z' x')).toArray,.slice A n c,.int .i64 er])/\n=L.length/\CapOk A n c/\SlG Γ' A n (L.flatMap cmx)/\ZsG Γ' x' z'/\ZI k z'/\Ext Γ w Γ' w'
def BegP(Γ:Gam)(w:World)(z:Zst)(e:Ending)(w':World):Prop:=∃(x':Zls) (Γ':Gam) (A:Option Addr) (n cc:Nat) (L:List Cm),e=.returned (.tuple #[.agg (fl (zsP z x')).toArray,.slice A n cc,.int .i64 0])/\n=L.length/\CapOk A n cc/\SlG Γ' A n (L.flatMap cmx)/\ZsG Γ' x' z/\Ext Γ w Γ' w'
theorem Any(x:Int):∃u:U,IntKind.u64.wrap x=(u.n:Int):=by
 refine⟨⟨(IntKind.u64.wrap x).toNat,?_⟩,?_⟩
 .simp[IntKind.wrap,IntKind.bits,IntKind.signed];omega
 .simp[IntKind.wrap,IntKind.bits,IntKind.signed];omega
def CpoP(Γ:Gam)(w:World)(e:Ending)(w':World):Prop:=∃c:Cp,e=.returned (.agg (fl (cpP c)).toArray)/\Ext Γ w Γ w'
theorem Alx(e:U)(r:Rt):Try.prog.built 44 [(0,.int .u64 (e.n:Int)),(1,.agg (rc r).toArray)]=some (fl (cpP ⟨e,r⟩)).toArray:=by
 have stCpp:StrT Try.prog 44 [(0,1),(1,32)] (cpP cp0) [1,32]:=Aa3 Try.underlying44 (by kernel_rfl) (by kernel_rfl) (AaO _)
 rw[stCpp.eq]
 refine AaD (Q:=[[.int .u64 (e.n:Int)]]) stCpp.len rfl rfl rfl rfl rfl fun hl=>?_
 refine AaD (Q:=[rc r]) hl rfl rfl rfl (lenR r) rfl fun hl=>?_
 rfl
end
section
open Go.RowKit
def FitsL:List (List Value)->List (List Value)->Prop
 |[],[]=>True
 |k::K,p::P=>(Fits k p/\k.length=p.length)/\FitsL K P
 |_,_=>False
theorem FitsL.fl:∀{K P:List (List Value)},FitsL K P->Fits (fl K) (fl P)
 |[],[],_=>trivial
 |[],_::_,h=>h.elim
 |_::_,[],h=>h.elim
 |k::K,p::P,h=>by
  rw[AcC,AcC]
  exact Fits.app2 h.1.1 h.1.2 (FitsL.fl (K:=K) (P:=P) h.2)
theorem Ajk:∀{P Q:List (List Value)} {ls:List Nat},P.map List.length=ls->Q.map List.length=ls->fl P=fl Q->P=Q
 |[],[],_,_,_,_=>rfl
 |[],_::_,_,h1,h2,_=>by subst h1;simp at h2
 |_::_,[],_,h1,h2,_=>by subst h1;simp at h2
 |p::P,q::Q,ls,h1,h2,h=>by
  subst h1
  rw[AcC,AcC]at h
  simp only[List.map_cons,List.cons.injEq]at h2
  obtain⟨e1,e2⟩:=List.append_inj h h2.1.symm
  rw[e1,Ajk (P:=P) (Q:=Q) rfl h2.2 e2]
theorem Afe(n:Int):Fits [.int .u64 0] [.int .u64 n] /\ [Value.int .u64 0].length = [Value.int .u64 n].length:=⟨⟨rfl,trivial⟩,rfl⟩
theorem Alk(b:Bool):Fits [.bool false] [.bool b] /\ [Value.bool false].length = [Value.bool b].length:=⟨⟨rfl,trivial⟩,rfl⟩
theorem Adn(r:Rt):Fits kRt (rc r)/\kRt.length=(rc r).length:=⟨AbB r.len,by rw[AaU];rfl⟩
def kWd:List Value:=(List.replicate 4 [Value.int .u64 0]).flatten
theorem eqWd:EqT Try.prog 2 48 kWd:=EqT.array (EqT.int Try.underlying29 (by kernel_rfl)) Try.underlying48 (by kernel_rfl) (info_of_underlying Try.underlying29)
theorem Ajl(r:Wd):Fits kWd (wc r)/\kWd.length=(wc r).length:=⟨Fits.ints r.len,by rw[Aca];rfl⟩
def ksBl:List (List Value):=[[.int .u64 0],kRt,[.int .u64 0],kRt,[.int .u64 0],kRt,kRt,kRt,kWd,kWd,[.int .u64 0],kRt,[.int .u64 0],kRt,[.bool false]]
def kBl:List Value:=fl ksBl
theorem eqPu:EqT Try.prog 4 46 (kCk++kCk):=by
 refine EqT.struct Try.underlying46 (by kernel_rfl) (by kernel_rfl) (by kernel_rfl) ?_
 refine⟨kCk,kCk,rfl,by decide,rfl,eqCk,?_⟩
 exact⟨kCk,[],by simp,by decide,rfl,eqCk,rfl⟩
theorem eqBl:EqT Try.prog 5 50 kBl:=by
 refine EqT.struct Try.underlying50 (by kernel_rfl) (by kernel_rfl) (by kernel_rfl) ?_
 refine⟨kCk++kCk,fl (ksBl.drop 4),rfl,by decide,rfl,eqPu,?_⟩
 refine⟨[.int .u64 0],fl (ksBl.drop 5),rfl,by decide,rfl,(EqT.int Try.underlying29 (by kernel_rfl)).mono' (by omega),?_⟩
 refine⟨kRt,fl (ksBl.drop 6),rfl,by decide,rfl,Afg.mono' (by omega),?_⟩
 refine⟨kRt,fl (ksBl.drop 7),rfl,by decide,rfl,Afg.mono' (by omega),?_⟩
 refine⟨kRt,fl (ksBl.drop 8),rfl,by decide,rfl,Afg.mono' (by omega),?_⟩
 refine⟨kWd,fl (ksBl.drop 9),rfl,by decide,rfl,eqWd.mono' (by omega),?_⟩
 refine⟨kWd,fl (ksBl.drop 10),rfl,by decide,rfl,eqWd.mono' (by omega),?_⟩
 refine⟨kCk,fl (ksBl.drop 12),rfl,by decide,rfl,eqCk.mono' (by omega),?_⟩
 refine⟨kCk,fl (ksBl.drop 14),rfl,by decide,rfl,eqCk.mono' (by omega),?_⟩
 exact⟨[.bool false],[],rfl,by decide,rfl,(EqT.bool Try.underlying4 (by kernel_rfl)).mono' (by omega),rfl⟩
theorem Ah9(a:Blk):Fits kBl (fl (blP a)):=
 FitsL.fl ⟨Afe _,Adn _,Afe _,Adn _,Afe _,Adn _,Adn _,Adn _,Ajl _,Ajl _,Afe _,Adn _,Afe _,Adn _,Alk _,trivial⟩
theorem Ago{a b:Cp}(h1:(a.e.n:Int)=(b.e.n:Int))(h2:rc a.r=rc b.r):a=b:=by
 obtain⟨e,r⟩:=a
 obtain⟨e',r'⟩:=b
 simp only at h1 h2
 rw[Adb.1 h2,U.ext' (Int.ofNat.inj h1)]
theorem Al0{a b:Blk}:fl (blP a)=fl (blP b)↔a=b:=by
 refine⟨fun h=>?_,fun h=>h▸rfl⟩
 have h':=Ajk (AaY a) (AaY b) h
 simp only[blP,List.cons.injEq,Value.int.injEq,Value.bool.injEq,true_and,and_true]at h'
 obtain⟨h1,h2,h3,h4,h5,h6,h7,h8,h9,h10,h11,h12,h13,h14,h15⟩:=h'
 have e1:=Ago h1 h2
 have e2:=Ago h3 h4
 have e3:=Ago h11 h12
 have e4:=Ago h13 h14
 have e5:a.slot=b.slot:=U.ext' (Int.ofNat.inj h5)
 have e6:=Adb.1 h6
 have e7:=Adb.1 h7
 have e8:=Adb.1 h8
 have e9:=AjZ.1 h9
 have e10:=AjZ.1 h10
 cases a;cases b
 simp only at e1 e2 e3 e4 e5 e6 e7 e8 e9 e10 h15
 subst e1 e2 e3 e4 e5 e6 e7 e8 e9 e10 h15
 rfl
theorem AnF(a b:Blk)(w:World):(Op.equalIn 10000 50 (.agg (fl (blP a)).toArray) (.agg (fl (blP b)).toArray)).run Try.prog w=.ok (decide (a=b)) w:=
 eqBl.same (by omega) (AbD Try.underlying50) (AaN Try.underlying50) (Ah9 a) (Ah9 b) (by rw[Ags];rfl) (by rw[Ags];rfl) (by simp[Al0]) w
end
end Go.Proofs.Ytpaihpeoiliioaa
