/- Texts joined: what the walks of this claim stand on (part 56). -/
import Derived.Test.YtmgeheaneohldaaGreatJK55
set_option linter.all false
set_option maxRecDepth 20000
set_option maxHeartbeats 40000000
namespace Go.Proofs.YtmgeheaneohldaaGreat
open Go.RowKit Old
def NodC(Γ:Gam)(w:World)(N:List Nod)(e:Ending)(w':World):Prop:=∃(A:Option Addr) (c:Nat) (Γ':Gam),e=.returned (.slice A N.length c)/\CapOk A N.length c/\SlG Γ' A N.length (N.flatMap nox)/\Ext Γ w Γ' w'
theorem Alu(Γ:Gam)(x:Sl)(N:List Nod)(hb:N.length<=4096)(hpos:0<N.length)(w:World)(ok:Ok Γ w)(h:NG Γ x N) :
  Calls Tryz.prog 109 #[x.v] w (NodC Γ w N):=by
 obtain⟨g,post,hA,_⟩:=h.sl (by rw[h.n];exact hpos)
 have HV:=Ae6 hA
 rw[h.n]at HV
 rw[HV]
 have HM:=bx ((MM.start ok).rowNew ((Below.refl w.heap.size w).alloc (Nat.le_refl _) (.cells #[] 67)) (World.ownsRow_made (base:=w.heap.size) (e:=67) (size:=240) w #[] 0 (Nat.le_refl _) (Nat.zero_le _) rfl))
 have hsl:SlG Γ (some ⟨g,0,none⟩) N.length (N.flatMap nox):=by rw[<-hA,<-h.n];exact h.sl
 have ROW:=bx (hsl.row (size:=240) (by rw[Aaj N (fun x _=>AbS x)]) HM.o.ext.ok)
 have OneN:Bx (One (N.flatMap nox)):=⟨Ab4 fun x _=>Abu x⟩
 have he:∀(n c:Nat) (w:World),(binOp .eql 44 (.slice (some ⟨g,0,none⟩) n c) (.slice none 0 0)).run Tryz.prog w=.ok (.bool false) w:=fun _ _ _=>rfl
 have B1:Bx (0+N.length<=maxLen):=⟨by unfold maxLen;omega⟩
 have B2:Bx ((0+N.length)*352<=140737488355328):=⟨by omega⟩
 obtain⟨n,hn⟩:∃n,N.length=n:=⟨_,rfl⟩
 have HN:=bx hn
 rw[hn]at ROW B1 B2 |-
 clear ok h hb hpos hA hn HV hsl
 go_enter Tryz.func109,Tryz.ntmps109
 go_wp2_with (at_builtin;(with_reducible refine Aat HM.o elNo (s:=.tmp 5) (x:=.tmp 6) ROW.o (fun h=>by cases h) OneN.o B1.o B2.o rfl rfl rfl rfl ?_);intro A' c' w' M';have M:=bx M';clear M')
 go_ret
 have M1:=M.o
 rw[Nat.zero_add,List.nil_append,<-HN.o]at M1
 obtain⟨Γ',h1,h2,h3,h4⟩:=M1.frz
 exact⟨A',c',Γ',by rw[HN.o];rfl,h1,h2,h4.ext⟩
theorem AjN(Γ:Gam)(x:Sl)(N:List Nod)(hb:N.length<=4096)(hpos:0<N.length)(w:World)(ok:Ok Γ w)(h:NG Γ x N) :
  Calls Tryz.prog 92 #[.agg [x.v].toArray] w (fun e w'=>∃y Γ',e=.returned (.agg [y.v].toArray)/\NG Γ' y N/\Ext Γ w Γ' w'):=by
 have M:=bx (MM.start ok)
 have CN:=bx (fun w ok=>Alu Γ x N hb hpos w ok h)
 have HV:Bx (x.v=.slice x.A N.length x.c):=⟨by rw[<-h.n]⟩
 clear ok h hb hpos
 change Calls Tryz.prog _ #[.agg (fl [[x.v]]).toArray] _ _
 go_enter Tryz.func92,Tryz.ntmps92
 go_wp2_with (first|(refine zBXd ?_;clear M;intro w' g M)|(refine zALd (Aa3) ?_;clear M;intro w' g M)|refine zLAd ?_)
 refine(CN.o _ M.ok).mono ?_
 rintro e1 w1 ⟨A,c,Γ1,rfl,hc,hs,hx⟩
 replace M:=bx (M.o.call hx)
 go_wp2_with (first|refine zBDd 46 [(0,.slice A N.length c)] [.slice A N.length c] (by kernel_rfl) ?_|(refine zSSd M 0 [[.slice A N.length c]] [[.slice A N.length c]] (by rfl) (Aak _ _ _) ?_;clear M;intro w' M))
 (try refine zsm ?_);refine bodyPost_ret (Ac7 rfl _ M.o.at0 rfl Aao rfl) rfl ?_
 exact⟨⟨A,N.length,c⟩,Γ1,rfl,⟨rfl,hc,hs⟩,M.o.ext⟩
def arP(b d t di we:Value)(st:Int):List (List Value):=[[b],[d],[t],[di],[we],[.int .i64 st]]
def arL:List Nat:=[1,1,1,1,1,1]
theorem Aqc(b d t di we:Value)(st:Int):(arP b d t di we st).map List.length=arL:=rfl
theorem ztAr:ZeroT Tryz.prog 111 (arP (.slice none 0 0) (.slice none 0 0) (.slice none 0 0) (.slice none 0 0) (.slice none 0 0) 0) arL:=⟨fun w=>by kernel_rfl,rfl⟩
structure ArOk(Γ:Gam)(s:Sto)(B D:Option Addr)(y:Sl)(A2:Option Addr):Prop where
 b:SlG Γ B s.nodes.length (ints .i64 (bstL s.nodes s.wts s.lives))
 d:SlG Γ D s.nodes.length (ints .i64 (dscL s.nodes s.wts s.lives))
 t:NG Γ y s.nodes
 w:SlG Γ A2 s.nodes.length (us s.wts)
theorem ArOk.mono{Γ Γ':Gam}{s:Sto}{B D:Option Addr}{y:Sl}{A2:Option Addr}(h:ArOk Γ s B D y A2)(hl:Le Γ Γ'):ArOk Γ' s B D y A2:=⟨h.b.mono hl,h.d.mono hl,h.t.mono hl,h.w.mono hl⟩
theorem Al9{Γ0:Gam}{w0:World}{L:List Ent}{R:List RowE}(Γ:Gam)(s:Sto)(v:Sls)(k:Nat)(h:HOk Γ s v k)(g:Nat)(b d t di:Value)(A2:Option Addr)(c2:Nat)(st:Int)(w:World)(M0:MM Γ0 w0 Γ w (⟨g,arP b d t di (.slice A2 s.nodes.length c2) st,arL⟩::L) R)(h2:SlG Γ A2 s.nodes.length (us s.wts)) :
  Calls Tryz.prog 65 #[.pointer (some ⟨g,0,none⟩),.agg (fl (stP s v)).toArray] w fun e w'=>(∃u,e=.returned u)/\∃(B D:Option Addr) (cb cd:Nat) (y:Sl) (Γ':Gam),MM Γ0 w0 Γ' w' (⟨g,arP (.slice B s.nodes.length cb) (.slice D s.nodes.length cd) y.v di (.slice A2 s.nodes.length c2) (fndI s.nodes s.just.r),arL⟩::L) R/\ArOk Γ' s B D y A2/\Le Γ Γ':=by
 have M:=bx M0
 have H:=bx h
 have HS2:=bx h2
 have LL:=bx (AbD s)
 have WL:=bx (Abd s)
 have NB:=bx h.nb
 have TI0:=bx h.si.t
 have CT:=bx (fun w ok=>AjN Γ v.nodes s.nodes h.nb h.si.t.pos w ok h.g.nodes)
 clear h h2 M0
 go_enter Tryz.func65,Tryz.ntmps65
 (go_wp2_with (first|(refine zBXd ?_;clear M;intro w' g M)|refine zLAd ?_))
 refine(CT.o _ M.ok).mono ?_
 rintro e1 w1 ⟨y,Γ1,rfl,hy,hx⟩
 replace M:=bx (M.o.call hx)
 have HY:=bx hy
 have H1:=bx (H.o.mono hx.le)
 have HS3:=bx (HS2.o.mono hx.le)
 have L1:=bx hx.le
 clear hy hx H HS2 CT
 (go_wp2_with ((refine zSSd M 1 [[y.v]] (arP b d y.v di (.slice A2 s.nodes.length c2) st) (by rfl) (Aak _ _ _) ?_;clear M;intro w' M)))
 refine AaB [14] (.steps [(1,0),(1,1),(1,2),(1,3),(0,4),(1,5),(1,6),(1,7),(0,8),(0,9),(2,10),(2,11),(1,12),(1,13),(3,14)] .leaf) (by kernel_rfl) (by kernel_rfl) ?_;(simp only[MixT6,MT.steps,stepAt,List.getD_cons_zero,List.getD_cons_succ]);replace M:=bx (M.o.drew)
 refine zNM ?_
 refine zMRd ?_
 refine zMC (H1.o.live _ M.ok) Tryz.func14 ?_
 rintro e6 w6 ⟨A6,c6,Γ6,rfl,hc6,hs6,hx6⟩
 refine⟨_,rfl,hx6.bel,?_⟩
 replace M:=bx (M.o.call hx6)
 rw[LL.o]at hs6
 rw[LL.o]
 have H6:=bx (H1.o.mono hx6.le)
 have HS6:=bx hs6
 have HS4:=bx (HS3.o.mono hx6.le)
 have HY6:=bx (HY.o.mono hx6.le)
 have L6:=bx (L1.o.trans hx6.le)
 clear hc6 hs6 hx6 H1 HS3 HY L1
 refine zNM ?_
 refine zMRd ?_
 refine zMC (AlU Γ6 y s.nodes A2 A6 c2 c6 s.wts s.lives TI0.o.lk TI0.o.diff NB.o WL.o LL.o _ M.ok HY6.o HS4.o HS6.o) Tryz.func93 ?_
 rintro e7 w7 ⟨B,D,cb,cd,Γ7,rfl,hcb,hcd,hB,hD,hx7⟩
 refine⟨_,rfl,hx7.bel,?_⟩
 replace M:=bx (M.o.call hx7)
 have eb:(bstL s.nodes s.wts s.lives).length=s.nodes.length:=Aal _ _
 have ed:(dscL s.nodes s.wts s.lives).length=s.nodes.length:=Aal _ _
 rw[eb]at hB
 rw[ed]at hD
 rw[eb,ed]
 have H7:=bx (H6.o.mono hx7.le)
 have AO:=bx (ArOk.mk (s:=s) hB hD (HY6.o.mono hx7.le) (HS4.o.mono hx7.le))
 have L7:=bx (L6.o.trans hx7.le)
 clear hcb hcd hB hD hx7 H6 HS6 HS4 HY6 L6 eb ed
 refine zNM ?_
 refine zMRd ?_
 refine Aag M.o 1 (lkP (.slice B s.nodes.length cb) (.slice D s.nodes.length cd)) (arP (.slice B s.nodes.length cb) (.slice D s.nodes.length cd) y.v di (.slice A2 s.nodes.length c2) st) rfl rfl rfl rfl rtLk rfl rfl (Ab6 _ _ _ _ _ _) rfl rfl ?_
 intro w8 M'
 (simp only[List.set_cons_zero,List.set_cons_succ]at M')
 (replace M:=bx M';clear M')
 refine zNM ?_
 refine NoPanic.normal ?_
 go_wp2_with fail
 refine AaB [12] (.steps [(1,0),(1,1),(1,2),(1,3),(0,4),(1,5),(1,6),(1,7),(0,8),(2,9),(1,10),(1,11),(3,12)] .leaf) (by kernel_rfl) (by kernel_rfl) ?_;(simp only[MixT6,MT.steps,stepAt,List.getD_cons_zero,List.getD_cons_succ]);replace M:=bx (M.o.drew)
 refine zNM ?_
 refine zMRd ?_
 refine zMC (AiN Γ7 y s.nodes s.just.r _ M.ok AO.o.t NB.o) Tryz.func59 ?_
 rintro e9 w9 ⟨rfl,hx9⟩
 refine⟨_,rfl,hx9.bel,?_⟩
 replace M:=bx (M.o.call hx9)
 clear hx9
 refine zNM ?_
 refine zMRd ?_
 refine AbB M.o 1 (.int .i64 (fndI s.nodes s.just.r)) (arP (.slice B s.nodes.length cb) (.slice D s.nodes.length cd) y.v di (.slice A2 s.nodes.length c2) (fndI s.nodes s.just.r)) rfl rfl rfl rfl AdQ rfl rfl rfl rfl rfl rfl ?_
 intro w7 M'
 (simp only[List.set_cons_zero,List.set_cons_succ]at M')
 (replace M:=bx M';clear M')
 refine zNM ?_
 refine NoPanic.normal ?_
 go_wp2_with fail
 go_end0
 exact⟨⟨_,rfl⟩,B,D,cb,cd,y,Γ7,M.o.tail,AO.o,L7.o⟩
def ArrP(Γ:Gam)(w:World)(s:Sto)(e:Ending)(w':World):Prop:=∃(g:Nat) (B D:Option Addr) (cb cd:Nat) (y:Sl) (di:Value) (A2:Option Addr) (c2:Nat) (Γ':Gam),e=.returned (.pointer (some ⟨g,0,none⟩))/\Γ' g=some (fl (arP (.slice B s.nodes.length cb) (.slice D s.nodes.length cd) y.v di (.slice A2 s.nodes.length c2) (fndI s.nodes s.just.r)))/\ArOk Γ' s B D y A2/\Ext Γ w Γ' w'
theorem AhU(Γ:Gam)(s:Sto)(v:Sls)(k:Nat)(h:HOk Γ s v k)(w:World)(ok:Ok Γ w) :
  Calls Tryz.prog 40 #[.agg (fl (stP s v)).toArray] w (ArrP Γ w s):=by
 have M:=bx (MM.start ok)
 have H:=bx h
 have hw:=h.si.wok h.k
 have nx:=h.g.nodes.n
 have DI:=bx (fun w ok=>Afw Γ s v k h.si h.k w ok h.g)
 have DL:=bx (Apf hw.sm)
 have SU:Bx (∀(A:Option Addr) (c:Nat) w,Ok Γ w->Old.U64 s.db->Old.URow w A s.nodes.length s.db->Calls Tryz.prog 52 #[.agg #[v.nodes.v],.slice A s.nodes.length c] w (Old.UN s.nodes.length (subL (upsN s.nodes) s.nodes.length s.db) w)):=⟨fun A c w ok hd hr=>by
  have a1:=NG.nrow (x:=v.nodes) h.g.nodes ok
  rw[nx]at a1
  rw[show v.nodes.v=.slice v.nodes.A s.nodes.length v.nodes.c by rw[<-nx]]
  have:=AfM v.nodes.A A s.nodes.length v.nodes.c c (s.nodes.map toNd) s.db hd (by rw[AcF];exact hw.lk) hw.nb hw.pos w a1 hr
  rw[AcF,AmL hw.lk (by rw[Abj]) hw.pos hd DL.o]at this
  exact this⟩
 have WL:=bx (AkM s)
 clear ok h hw nx DL
 go_enter Tryz.func40,Tryz.ntmps40
 (go_wp2_with (first|(refine zBXd ?_;clear M;intro w' g M)|refine zLAd ?_))
 refine(DI.o _ M.ok).mono ?_
 rintro e5 w5 ⟨A5,c5,rfl,hu5,hr5,hx5⟩
 replace M:=bx (M.o.below hx5)
 have HU5:=bx hu5
 have HR5:=bx hr5
 clear hu5 hr5 hx5 DI
 go_wp2_with (first|refine zBDd 111 [(2,.slice A5 s.nodes.length c5)] [.slice none 0 0,.slice none 0 0,.slice none 0 0,.slice A5 s.nodes.length c5,.slice none 0 0,.int .i64 0] (by kernel_rfl) ?_|((with_reducible apply Ac1 M.o (P:=arP (.slice none 0 0) (.slice none 0 0) (.slice none 0 0) (.slice A5 s.nodes.length c5) (.slice none 0 0) 0) (ls:=arL));rfl;rfl;rfl;exact Aqc _ _ _ _ _ _;intro w' g M' hb';have HB7:=bx hb'.1;clear hb';(replace M:=bx M';clear M');refine zNM ?_))
 have HR7:=bx (Old.URow.below HR5.o HB7.o)
 clear HR5 HB7
 refine AaB [10] (.steps [(1,0),(1,1),(0,2),(1,3),(1,4),(1,5),(0,6),(2,7),(1,8),(1,9),(3,10)] .leaf) (by kernel_rfl) (by kernel_rfl) ?_;(simp only[MixT6,MT.steps,stepAt,List.getD_cons_zero,List.getD_cons_succ]);replace M:=bx (M.o.drew)
 refine zNM ?_
 refine zMRd ?_
 refine zMC (SU.o A5 c5 _ M.ok HU5.o HR7.o) Tryz.func52 ?_
 rintro e6 w6 ⟨g6,c6,rfl,hu6,hl6,hg6,hc6,⟨post,hh⟩,hx6⟩
 refine⟨_,rfl,hx6,?_⟩
 replace M:=bx (M.o.newRow hx6 hg6 (P:=[ints .u64 (subL (upsN s.nodes) s.nodes.length s.db),post]) (ls:=[(ints .u64 (subL (upsN s.nodes) s.nodes.length s.db)).length,post.length]) (by simpa [fl]using hh) rfl)
 have HU6:=bx hu6
 clear hu6 hl6 hg6 hc6 hh hx6 SU HR7 HU5
 refine zNM ?_
 refine zMRd ?_
 refine AbB M.o 1 (.slice (some ⟨g6,0,none⟩) s.nodes.length c6) (arP (.slice none 0 0) (.slice none 0 0) (.slice none 0 0) (.slice A5 s.nodes.length c5) (.slice (some ⟨g6,0,none⟩) s.nodes.length c6) 0) rfl rfl rfl rfl (by exact zots) rfl rfl rfl rfl rfl rfl ?_
 intro w8 M'
 (simp only[List.set_cons_zero,List.set_cons_succ]at M')
 (replace M:=bx M';clear M')
 refine zNM ?_
 refine NoPanic.normal ?_
 obtain⟨Γ',h1,h2,h3⟩:=M.o.frzL
 have HS:Bx (SlG Γ' (some ⟨g6,0,none⟩) s.nodes.length (us s.wts)):=⟨fun _=>⟨g6,post,rfl,by rw[WL.o,AmB HU6.o];simpa [fl]using h1⟩⟩
 have H1:=bx (H.o.mono h2)
 clear M
 have M:=bx h3
 clear h1 h2 h3 H HU6 WL
 (go_wp2_with (refine zLAd ?_))
 refine(Al9 Γ' s v k H1.o _ _ _ _ _ (some ⟨g6,0,none⟩) c6 0 _ M.o HS.o).mono ?_
 rintro e9 w9 ⟨⟨u,rfl⟩,B,D,cb,cd,y,Γ9,hM,hA,hl⟩
 clear M
 have M:=bx hM
 have HA:=bx hA
 clear hM hA hl HS H1
 refine zNM ?_
 (go_wp2_with (fail))
 go_ret
 obtain⟨Γz,z1,z2,z3⟩:=M.o.frzL
 exact⟨_,B,D,cb,cd,y,_,_,c6,Γz,rfl,z1,HA.o.mono z2,z3.ext⟩
theorem Am5(l:List Int):ints .i64 l=l.flatMap fun u=>[.int .i64 u]:=by
 induction l with
 |nil=>rfl
 |cons a t ih=>rw[List.flatMap_cons,<-ih];rfl
theorem Ad9{Γ:Gam}{A:Option Addr}{l:List Int}(h:SlG Γ A l.length (ints .i64 l))(i:Nat)(hi:i<l.length):∃g,A=some ⟨g,0,none⟩/\Chk Γ g i (fl [[.int .i64 l[i]]]):=by
 rw[Am5]at h
 obtain⟨g,h1,h2⟩:=h.at (k:=1) (fun x _=>rfl) rfl i hi
 exact⟨g,h1,by rw[Nat.mul_one]at h2;exact h2⟩
theorem Aqb{Γ:Gam}{g:Nat}{b d t di we:Value}{st:Int}(h:Γ g=some (fl (arP b d t di we st))):Fz Γ g 0 (arP b d t di we st) arL:=⟨⟨_,h,fun j u hu=>by rw[Nat.zero_add];exact hu⟩,rfl⟩
def nthI(l:List Int)(d:Int)(i:Int):Int:=if 0<=i/\i<(l.length:Int)then l.getD i.toNat 0 else d
theorem AeN{l:List Int}{d:Int}{i:Nat}(h:i<l.length):nthI l d (i:Int)=l[i]:=by
 unfold nthI;rw[if_pos ⟨by omega,by omega⟩,Int.toNat_natCast];simp[List.getD,List.getElem?_eq_getElem h]
theorem Acp{l:List Int}{d:Int}{i:Int}(h:i<0\/(l.length:Int)<=i):nthI l d i=d:=by
 unfold nthI;rw[if_neg (by omega)]
theorem Adl(Γ:Gam)(g b0:Nat)(B D:Option Addr)(cb cd:Nat)(t di we:Value)(st:Int)(X Y:List Int)(hXY:Y.length=X.length)(i:Int)(w:World)(ok:Ok Γ w)(hF:Fz Γ g b0 (arP (.slice B X.length cb) (.slice D X.length cd) t di we st) arL)(hX:SlG Γ B X.length (ints .i64 X))(hY:SlG Γ D X.length (ints .i64 Y)) :
  Calls Tryz.prog 43 #[.pointer (some ⟨g,b0,none⟩),.int .i64 i] w fun e w'=>e=.returned (.tuple #[.int .i64 (nthI X (-1) i),.int .i64 (nthI Y (-1) i)])/\Ext Γ w Γ w':=by
 have M:=bx (MM.start ok)
 have F:=bx hF
 have HX:=bx hX
 have HY:Bx (SlG Γ D Y.length (ints .i64 Y)):=⟨by rw[hXY];exact hY⟩
 have HL:=bx hXY
 clear ok hF hX hY hXY
 rcases Int.lt_or_le i 0 with h0|h0
 .have e1:=bx (Acp (l:=X) (d:=-1) (i:=i) (.inl h0))
  have e2:=bx (Acp (l:=Y) (d:=-1) (i:=i) (.inl h0))
  go_enter Tryz.func43,Tryz.ntmps43
  (go_wp2_with (fail))
  go_ret2
  exact⟨by rw[e1.o,e2.o];rfl,M.o.ext⟩
 .obtain⟨k,rfl⟩:∃k:Nat,i=(k:Int):=⟨i.toNat,by omega⟩
  by_cases h1:k<X.length
  .have e1:=bx (AeN (d:=-1) h1)
   have h2:k<Y.length:=by rw[HL.o];exact h1
   have e2:=bx (AeN (d:=-1) h2)
   obtain⟨gb,rfl,hb⟩:=Ad9 HX.o k h1
   obtain⟨gd,rfl,hd⟩:=Ad9 HY.o k h2
   have FB:Bx (Fz Γ gb k [[.int .i64 X[k]]] [1]):=⟨hb,rfl⟩
   have FD:Bx (Fz Γ gd k [[.int .i64 Y[k]]] [1]):=⟨hd,rfl⟩
   have hki:(k:Int)<(X.length:Int):=by omega
   clear hb hd HX HY HL
   generalize X[k]=xk at *
   generalize Y[k]=yk at *
   go_enter Tryz.func43,Tryz.ntmps43
   (go_wp2_with (refine zRFd F ?_))
   refine AaB [] (.steps [(1,0),(1,1),(1,2),(1,3),(0,4),(1,5),(1,6),(0,7),(1,8),(1,9),(1,10),(1,11),(0,12),(1,13),(1,14),(0,15),(1,16),(1,17)] .leaf) (by kernel_rfl) (by kernel_rfl) ?_;(simp only[MixT6,MT.steps,stepAt,List.getD_cons_zero,List.getD_cons_succ]);replace M:=bx (M.o.drew)
   (repeat(first|refine zM0 ?_|(go_big_quiet_want;first|(refine zQFd F ?_;go_big_quiet_on;refine zNM ?_)|(refine zQFd FB ?_;go_big_quiet_on;refine zNM ?_)|(refine zQFd FD ?_;go_big_quiet_on;refine zNM ?_)|(refine zQO ?_;go_big_quiet_on))))
   refine NoPanic.normal ?_
   go_wp2_with fail
   go_ret2
   exact⟨by rw[e1.o,e2.o];rfl,M.o.ext⟩
  .have e1:=bx (Acp (l:=X) (d:=-1) (i:=(k:Int)) (.inr (by omega)))
   have e2:=bx (Acp (l:=Y) (d:=-1) (i:=(k:Int)) (.inr (by rw[HL.o];omega)))
   have hki:(X.length:Int)<=(k:Int):=by omega
   clear HX HY HL h1
   go_enter Tryz.func43,Tryz.ntmps43
   (go_wp2_with (refine zRFd F ?_))
   go_ret2
   exact⟨by rw[e1.o,e2.o];rfl,M.o.ext⟩
theorem Agn(Γ:Gam)(g b0:Nat)(B D:Option Addr)(cb cd:Nat)(t di we:Value)(st:Int)(X Y:List Int)(hXY:Y.length=X.length)(w:World)(ok:Ok Γ w)(hF:Fz Γ g b0 (arP (.slice B X.length cb) (.slice D X.length cd) t di we st) arL)(hX:SlG Γ B X.length (ints .i64 X))(hY:SlG Γ D X.length (ints .i64 Y)) :
  Calls Tryz.prog 44 #[.pointer (some ⟨g,b0,none⟩)] w fun e w'=>e=.returned (.int .i64 (if 0<=nthI Y (-1) st then nthI Y (-1) st else st))/\Ext Γ w Γ w':=by
 have M:=bx (MM.start ok)
 have F:=bx hF
 have BO:=bx (fun w ok=>Adl Γ g b0 B D cb cd t di we st X Y hXY st w ok hF hX hY)
 clear ok hF hX hY hXY
 generalize nthI X (-1) st=xs at *
 generalize nthI Y (-1) st=ys at *
 obtain⟨z,hz⟩:∃z,z=(if 0<=ys then ys else st):=⟨_,rfl⟩
 rw[<-hz]
 have HZ:=bx hz
 clear hz
 go_enter Tryz.func44,Tryz.ntmps44
 (go_wp2_with (refine zRFd F ?_))
 refine zCA M (BO.o _ M.ok) ?_;clear M;intro w1 M
 refine zNM ?_
 by_cases h:0<=ys
 .have HE:Bx (z=ys):=⟨by rw[HZ.o,if_pos h]⟩
  (go_wp2_with (fail))
  go_ret
  exact⟨by rw[HE.o];rfl,M.o.ext⟩
 .have HE:Bx (z=st):=⟨by rw[HZ.o,if_neg h]⟩
  (go_wp2_with (refine zRFd F ?_))
  go_ret
  exact⟨by rw[HE.o];rfl,M.o.ext⟩
theorem Agm(Γ:Gam)(g b0:Nat)(b d t di:Value)(A2:Option Addr)(c2:Nat)(st:Int)(W:List U)(i:Int)(w:World)(ok:Ok Γ w)(hF:Fz Γ g b0 (arP b d t di (.slice A2 W.length c2) st) arL)(h2:SlG Γ A2 W.length (us W)) :
  Calls Tryz.prog 67 #[.pointer (some ⟨g,b0,none⟩),.int .i64 i] w fun e w'=>e=.returned (.int .u64 (if 0<=i/\i<(W.length:Int)then((W.getD i.toNat u0).n:Int)else 0))/\Ext Γ w Γ w':=by
 have M:=bx (MM.start ok)
 have F:=bx hF
 have H2:=bx h2
 clear ok hF h2
 obtain⟨z,hz⟩:∃z:Int,z=(if 0<=i/\i<(W.length:Int)then((W.getD i.toNat u0).n:Int)else 0):=⟨_,rfl⟩
 rw[<-hz]
 have HZ:=bx hz
 clear hz
 rcases Int.lt_or_le i 0 with h0|h0
 .have HE:Bx (z=0):=⟨by rw[HZ.o,if_neg (by omega)]⟩
  go_enter Tryz.func67,Tryz.ntmps67
  (go_wp2_with (fail))
  go_ret
  exact⟨by rw[HE.o];rfl,M.o.ext⟩
 .obtain⟨k,rfl⟩:∃k:Nat,i=(k:Int):=⟨i.toNat,by omega⟩
  by_cases h1:k<W.length
  .have hp:0<=(k:Int)/\(k:Int)<(W.length:Int):=⟨h0,by omega⟩
   obtain⟨gb,rfl,hb⟩:=Ac4 H2.o k h1
   have FB:Bx (Fz Γ gb k [[.int .u64 (W[k].n:Int)]] [1]):=⟨hb,rfl⟩
   have hki:(k:Int)<(W.length:Int):=by omega
   have e:Bx (((W.getD ((k:Nat):Int).toNat u0).n:Int)=(W[k].n:Int)):=⟨by rw[Int.toNat_natCast];simp[List.getD,List.getElem?_eq_getElem h1]⟩
   have HE:Bx (z=(W[k].n:Int)):=⟨by rw[HZ.o,if_pos hp,e.o]⟩
   clear hb H2 hp e
   go_enter Tryz.func67,Tryz.ntmps67
   (go_wp2_with (first|refine zRFd F ?_|refine zRFd FB ?_))
   go_ret
   exact⟨by rw[HE.o];rfl,M.o.ext⟩
  .have hn:¬(0<=(k:Int)/\(k:Int)<(W.length:Int)):=by omega
   have HE:Bx (z=0):=⟨by rw[HZ.o,if_neg hn]⟩
   have hki:(W.length:Int)<=(k:Int):=by omega
   clear H2 hn h1
   go_enter Tryz.func67,Tryz.ntmps67
   (go_wp2_with (refine zRFd F ?_))
   go_ret
   exact⟨by rw[HE.o];rfl,M.o.ext⟩
end Go.Proofs.YtmgeheaneohldaaGreat
