/- Texts joined: what the walks of this claim stand on (part 32 of 43). -/
import Derived.Test.YtmgeheaneohldaaGreatYK29
import Derived.Test.YtmgeheaneohldaaGreatYK30
import Derived.Test.YtmgeheaneohldaaGreatYK31
set_option linter.all false
set_option maxRecDepth 20000
set_option maxHeartbeats 40000000
namespace Go.Proofs.YtmgeheaneohldaaGreat
open Go.RowKit Go.Proofs.YtmgeheaneohldaaGreat.Old
structure CfB(c:Cf)(bal:List U):Prop where
 ok:CfOk c bal
 nl:c.nl<=14
 ol:c.ol<=8
 el:c.el<=8
 tl:c.tl<=8
 bal:1<=bal.length/\bal.length<=6
theorem AjG{c:Cf}{bal:List U}(h:CfB c bal):SI 0 (newS c bal) where
 t:=TI.one (genB c) h.ok.gen
 spe:=⟨h.ok.spe.1,h.ok.spe.2⟩
 nl:=⟨h.ok.nl.1,h.nl⟩
 ol:=⟨h.ok.ol.1,h.ol⟩
 el:=⟨h.ok.el.1,h.el⟩
 tl:=⟨h.ok.tl.1,h.tl⟩
 bp:=h.ok.bp
 bal:=h.bal
 lat:=by show(List.replicate bal.length vo0).length=bal.length;simp
 just:=⟨0,Nat.zero_lt_one,rfl,by show(1:Int)≠2;decide⟩
 fin:=⟨Nat.zero_lt_one,rfl⟩
 ord:=fun n hn=>by
  have:n=⟨genB c,-1,1⟩:=by simpa [newS]using hn
  subst this
  refine⟨?_,Nat.zero_le _⟩
  have e1:=h.ok.spe.1
  unfold ordrd
  simp[genB,newS,u0,epN,b0,st0]
 tab:=⟨⟨⟨u0,c.gen⟩,bal⟩,by simp[newS],rfl⟩
 tbs:=fun t ht=>by
  have:t=⟨⟨u0,c.gen⟩,bal⟩:=by simpa [newS]using ht
  subst this
  exact h.ok.sum
 att:=fun a ha=>by cases ha
 eqv:=Nat.zero_le _
 now:=Nat.le_refl _
 cf:=h.ok
 lv:=fun v hv _=>List.eq_of_mem_replicate hv
 eqr:=fun x hx=>by cases hx
 eqa:=List.Pairwise.nil
 asc:=List.pairwise_singleton _ _
def begZ(c:Cf)(bal:List U):Zst:=emtZ {zs0 with s:=newS c bal,ntag:=⟨1,by decide⟩}
theorem AnQ{c:Cf}{bal:List U}(h:CfB c bal):ZI 0 (begZ c bal):=
 ZI.emt ⟨AjG h,Nat.le_refl _,Nat.le_refl _,fun q hq=>by rcases hq with hq|hq<;>cases hq⟩
theorem stZs:StrT Tryz.prog 54 [(0,150),(150,1),(151,1),(152,1),(153,1),(154,96),(250,1),(251,1)] (zsP zs0 zx0) zsL:=AbB Tryz.underlying54 (by kernel_rfl) (by kernel_rfl) (AaL _ _)
theorem Ak8(s:Sto)(v:Sls)(t:U):Tryz.prog.built 54 [(0,.agg (fl (stP s v)).toArray),(3,.int .u64 (t.n:Int))]=some (fl (zsP {zs0 with s:=s,ntag:=t} {zx0 with s:=v})).toArray:=by
 rw[stZs.eq]
 refine AaJ (Q:=stP s v) stZs.len rfl rfl rfl (AaD s v) rfl fun hl=>?_
 refine AaJ (Q:=[[.int .u64 (t.n:Int)]]) hl rfl rfl rfl rfl rfl fun hl=>?_
 rfl
theorem Am7{Γ:Gam}{x:Zls}{z:Zst}(h:ZsG Γ x z):ZsG Γ x (emtZ z):=by
 unfold emtZ
 split
 .exact h
 .exact⟨h.s,h.reqs,h.rets⟩
def StpP(Γ:Gam)(w:World)(k:Nat)(e:Ending)(w':World):Prop:=∃(z':Zst) (x':Zls) (Γ':Gam) (A:Option Addr) (n c:Nat) (L:List Cm) (er:Int),e=.returned (.tuple #[.agg (fl (zsP z' x')).toArray,.slice A n c,.int .i64 er])/\n=L.length/\CapOk A n c/\SlG Γ' A n (L.flatMap cmx)/\ZsG Γ' x' z'/\ZI k z'/\Ext Γ w Γ' w'
def BegP(Γ:Gam)(w:World)(z:Zst)(e:Ending)(w':World):Prop:=∃(x':Zls) (Γ':Gam) (A:Option Addr) (n cc:Nat) (L:List Cm),e=.returned (.tuple #[.agg (fl (zsP z x')).toArray,.slice A n cc,.int .i64 0])/\n=L.length/\CapOk A n cc/\SlG Γ' A n (L.flatMap cmx)/\ZsG Γ' x' z/\Ext Γ w Γ' w'
theorem AkC(Γ:Gam)(c:Cf)(sb:Sl)(bal:List U)(hc:CfB c bal)(w:World)(ok:Ok Γ w)(h:SlR Γ sb bal.length (us bal)) :
  Calls Tryz.prog 68 #[.agg (fl (cfP c sb)).toArray] w (BegP Γ w (begZ c bal)):=by
 have M:=bx (MM.start ok)
 have NW:=bx (fun w ok=>new_any Γ c sb bal hc.ok w ok h)
 have hw:WOk (newS c bal):=(AjG hc).wok (Nat.zero_le _)
 obtain⟨z0,hz0⟩:∃z0:Zst,z0 = {zs0 with s:=newS c bal,ntag:=⟨1,by decide⟩}:=⟨_,rfl⟩
 rw[show begZ c bal=emtZ z0 by rw[hz0];rfl]
 have HW:Bx (WOk z0.s):=⟨by rw[hz0];exact hw⟩
 have BB:Bx (∀v,Tryz.prog.built 54 [(0,.agg (fl (stP (newS c bal) v)).toArray),(3,.int .u64 1)]=some (fl (zsP z0 {zx0 with s:=v})).toArray):=⟨fun v=>by rw[hz0];exact Ak8 _ v ⟨1,by decide⟩⟩
 have HG0:Bx (∀(Γ:Gam) v,StG Γ v (newS c bal)->ZsG Γ {zx0 with s:=v} z0):=⟨fun Γ v hv=>by rw[hz0];exact⟨hv,slR0 _,slR0 _⟩⟩
 clear ok h hc hw hz0
 generalize newS c bal=s0 at *
 go_enter Tryz.func68,Tryz.ntmps68
 (go_wp2_with (first|go_skip|(refine zBXd ?_;clear M;intro w' g M)|(refine zALd (ztSt) ?_;clear M;intro w' g M)|(refine zALd (ztZs) ?_;clear M;intro w' g M)|fail|refine zLAd ?_))
 refine(NW.out _ M.ok).mono ?_
 rintro e w1 ⟨v,Γ1,rfl,hv,hx⟩
 replace M:=bx (M.out.call hx)
 have HZ0:=bx (HG0.out Γ1 v hv)
 clear hx hv NW HG0
 have EM:=bx (fun w ok=>Ah7 Γ1 z0 {zx0 with s:=v} HW.out w ok HZ0.out)
 clear HW
 (go_wp2_with (first|go_skip|(refine zBXd ?_;clear M;intro w' g M)|(refine zALd (ztSt) ?_;clear M;intro w' g M)|(refine zALd (ztZs) ?_;clear M;intro w' g M)|(refine zSSd M 0 (stP s0 v) (stP s0 v) (AaD _ _) (Aac _ _) ?_;clear M;intro w' M)|refine zBDd 54 [(0,.agg (fl (stP s0 v)).toArray),(3,.int .u64 1)] (fl (zsP z0 {zx0 with s:=v})) (BB.out v) ?_|refine zLAd ?_))
 refine(EM.out _ M.ok).mono ?_
 rintro e w2 ⟨A,cc,Γ2,rfl,hA,hL,hx⟩
 replace M:=bx (M.out.call hx)
 have HL:=bx (And.intro hA hL)
 have HZ1:=bx (Am7 (HZ0.out.mono hx.le))
 clear hx hA hL EM HZ0 BB
 generalize {zx0 with s:=v}=x0' at *
 (go_wp2_with (first|go_skip|(refine zBXd ?_;clear M;intro w' g M)|(refine zALd (ztSt) ?_;clear M;intro w' g M)|(refine zALd (ztZs) ?_;clear M;intro w' g M)|(refine zSSd M 0 (zsP (emtZ z0) x0') (zsP (emtZ z0) x0') (AaL _ _) (AaS _ _) ?_;clear M;intro w' M)|(refine zSSd M 2 (zsP (emtZ z0) x0') (zsP (emtZ z0) x0') (AaL _ _) (AaS _ _) ?_;clear M;intro w' M)|refine zLAd ?_))
 (try refine zsm ?_);refine bodyPost_ret (Aa0 (by rfl) _ M.out.at2 (by rfl) rtZs rfl) rfl ?_
 exact⟨x0',Γ2,A,_,cc,emtL z0,rfl,rfl,HL.out.1,HL.out.2,HZ1.out,M.out.ext⟩
structure OpK(Γ:Gam)(o:OpD)(x:OpS):Prop where
 kind:1<=o.kind/\o.kind<=6
 a:SlR Γ x.a o.a.l.length (ints .i64 o.a.l)
 s1:SlR Γ x.s1 o.s.a.l.length (ints .i64 o.s.a.l)
 s2:SlR Γ x.s2 o.s.b.l.length (ints .i64 o.s.b.l)
 t:SlR Γ x.t o.t.b.length (us o.t.b)
 la:o.a.l.length<=100
 l1:o.s.a.l.length<=100
 l2:o.s.b.l.length<=100
 lt:o.t.b.length<=100
theorem OpK.mono{Γ Γ':Gam}{o:OpD}{x:OpS}(h:OpK Γ o x)(hl:Le Γ Γ'):OpK Γ' o x:=⟨h.kind,h.a.mono hl,h.s1.mono hl,h.s2.mono hl,h.t.mono hl,h.la,h.l1,h.l2,h.lt⟩
theorem Ahj{Γ:Gam}{s:Sl}{n:Nat}{xs:List Value}(h:SlR Γ s n xs)(hn:n<=4000):∃A c,s=⟨A,n,c⟩/\SlG Γ A n xs/\n<=4000:=by
 obtain⟨A,m,c⟩:=s
 obtain rfl:m=n:=h.n
 exact⟨A,c,rfl,h.sl,hn⟩
theorem OpK.r{Γ:Gam}{o:OpD}{x:OpS}(h:OpK Γ o x):OpR Γ o x:=⟨Ahj h.a (by have:=h.la;omega),Ahj h.s1 (by have:=h.l1;omega),Ahj h.s2 (by have:=h.l2;omega),Ahj h.t (by have:=h.lt;omega)⟩
theorem VerP.mk{Γ Γ':Gam}{w w':World}{k:Nat}(z':Zst)(x':Zls)(er:Int)(h:ZsG Γ' x' z')(h1:er=0\/er=21->ZI k z')(hx:Ext Γ w Γ' w'):VerP Γ w k (.returned (.tuple #[.agg (fl (zsP z' x')).toArray,.int .i64 er])) w':=⟨z',x',Γ',er,rfl,h,h1,hx⟩
theorem ZsG.sto{Γ Γ':Gam}{x:Zls}{z:Zst}(h:ZsG Γ x z)(hl:Le Γ Γ'){s:Sto}{v:Sls}(hs:StG Γ' v s):ZsG Γ' {x with s:=v} {z with s:=s}:=⟨hs,h.reqs.mono hl,h.rets.mono hl⟩
def StoO(Γ:Gam)(w:World)(k:Nat)(e:Ending)(w':World):Prop:=∃(er:Int) (s':Sto) (v':Sls) (Γ':Gam),e=.returned (.tuple #[.agg (fl (stP s' v')).toArray,.int .i64 er])/\StG Γ' v' s'/\Ext Γ w Γ' w'/\(er=0->SI k s')/\er≠21
theorem StoO.of{Γ:Gam}{w:World}{k:Nat}{er:Int}{s':Sto}{e:Ending}{w':World}(h:StE Γ w er s' e w')(h0:er=0->SI k s')(h1:er≠21):StoO Γ w k e w':=by
 obtain⟨v,Γ',h2,h3,h4⟩:=h
 exact⟨er,s',v,Γ',h2,h3,h4,h0,h1⟩
theorem Ahf(b:List U)(v:Int):tbE b v≠21:=by
 unfold tbE valE
 split
 .split<;>decide
 .decide
theorem Ai5(T:List Tbl)(t:Tbl)(v lim:Int):(regM T t v lim).1≠21:=by
 unfold regM
 split
 .exact Ahf _ _
 .split
  .exact(by decide:(9:Int)≠21)
  .split
   .exact(by decide:(11:Int)≠21)
   .exact(by decide:(0:Int)≠21)
theorem AkY(s:Sto)(t:Tbl):(regS s t).1≠21:=by
 unfold regS
 split
 .exact Ahf _ _
 .split
  .exact(by decide:(13:Int)≠21)
  .split
   .exact Ai5 _ _ _ _
   .exact(by decide:(0:Int)≠21)
theorem AgM{k:Nat}(hk:k<=30)(Γ:Gam)(z:Zst)(x:Zls)(o:OpD)(y:OpS)(hz:ZI k z)(ho:OpK Γ o y)(h1:o.kind=1)(w:World)(ok:Ok Γ w)(h:ZsG Γ x z) :
  Calls Tryz.prog 101 #[.agg (fl (zsP z x)).toArray,.agg (fl (opP o y)).toArray] w (VerP Γ w (k+1)):=by
 have M:=bx (MM.start ok)
 have HZ:=bx hz
 have HG:=bx h
 have TK:=bx (fun w ok=>AkN Γ z.s x.s hz.s w ok h.s)
 have b1:(o.kind==1)=true:=by rw[h1];rfl
 clear ok h hz h1 ho
 go_enter Tryz.func101,Tryz.ntmps101;(go_wp2_with (first|go_skip|(refine zBXd ?_;clear M;intro w' g M)|(refine zALd (ztZs) ?_;clear M;intro w' g M)|(refine zSSd M 0 (zsP z x) (zsP z x) (AaL _ _) (AaS _ _) ?_;clear M;intro w' M)|refine zLAd ?_))
 refine(TK.out _ M.ok).mono ?_
 rintro e1 w1 ⟨er,s',⟨v',Γ1,rfl,hs,hx⟩,hsi,h21⟩
 replace M:=bx (M.out.call hx)
 have HG1:=bx (HG.out.sto hx.le hs)
 have HSI:=bx hsi
 clear hx hs hsi TK
 by_cases he:er=0
 .subst he
  obtain⟨z1,hz1⟩:∃z1:Zst,z1 = {z with s:=s'}:=⟨_,rfl⟩
  obtain⟨x1,hx1⟩:∃x1:Zls,x1 = {x with s:=v'}:=⟨_,rfl⟩
  rw[<-hz1,<-hx1]at HG1
  have HZ2:Bx (ZI (k+1) z1):=⟨by rw[hz1];exact(HZ.out.more (Nat.le_succ k)).store (HSI.out rfl)⟩
  have LN1:Bx (z1.reqs.length<=40*k/\z1.rets.length<=k):=⟨by rw[hz1];exact⟨HZ.out.nreq,HZ.out.nret⟩⟩
  clear HSI HG HZ
  have DR:=bx (fun w ok=>Ah8 Γ1 z1 x1 w ok HG1.out (by have:=LN1.out;omega) (by have:=LN1.out;omega))
  have HZ3:=bx (HZ2.out.drop)
  have LN3:Bx ((dropZ z1).reqs.length<=40*k/\(dropZ z1).rets.length<=k):=⟨Nat.le_trans (Ade _ _) LN1.out.1,Nat.le_trans (Ade _ _) LN1.out.2⟩
  clear HG1 HZ2 LN1
  generalize hz3:dropZ z1=z3 at *
  clear hz3
  (go_wp2_with (first|go_skip|(refine zBXd ?_;clear M;intro w' g M)|(refine zALd (ztZs) ?_;clear M;intro w' g M)|(refine zSSd M 0 (stP s' v') (zsP {z with s:=s'} {x with s:=v'}) (AaD _ _) (Aac _ _) ?_;clear M;intro w' M)|refine zLAd ?_))
  rw[<-hz1,<-hx1]
  refine(DR.out _ M.ok).mono ?_
  rintro e1 w1 ⟨x3,Γ3,rfl,hz3,hx⟩
  replace M:=bx (M.out.call hx)
  have HG3:=bx hz3
  clear hx hz3 DR
  have DU:=bx (fun w ok=>AmF Γ3 z3 x3 w ok HG3.out (by have:=LN3.out;omega) (by have:=LN3.out;omega))
  have HZ4:=bx (HZ3.out.due LN3.out.1 LN3.out.2 (by omega))
  generalize dueZ z3=z4 at *
  clear HZ3 LN3 HG3
  (go_wp2_with (first|go_skip|(refine zBXd ?_;clear M;intro w' g M)|(refine zALd (ztZs) ?_;clear M;intro w' g M)|fail|refine zLAd ?_))
  refine(DU.out _ M.ok).mono ?_
  rintro e1 w1 ⟨x4,Γ4,rfl,hz4,hx⟩
  replace M:=bx (M.out.call hx)
  have HG4:=bx hz4
  clear hx hz4 DU
  (go_wp2_with (first|go_skip|(refine zBXd ?_;clear M;intro w' g M)|(refine zALd (ztZs) ?_;clear M;intro w' g M)|(refine zSSd M 0 (zsP z4 x4) (zsP z4 x4) (AaL _ _) (AaS _ _) ?_;clear M;intro w' M)|(refine zSSd M 1 (zsP z4 x4) (zsP z4 x4) (AaL _ _) (AaS _ _) ?_;clear M;intro w' M)|refine zLAd ?_))
  refine zRt M.out.at1 ?_
  exact VerP.mk z4 x4 0 HG4.out (fun _=>HZ4.out) M.out.ext
 .have b0:(er==0)=false:=beq_eq_false_iff_ne.2 he
  (go_wp2_with (first|go_skip|(refine zBXd ?_;clear M;intro w' g M)|(refine zALd (ztZs) ?_;clear M;intro w' g M)|(refine zSSd M 1 (zsP {z with s:=s'} {x with s:=v'}) (zsP {z with s:=s'} {x with s:=v'}) (AaL _ _) (AaS _ _) ?_;clear M;intro w' M)|(refine zSSd M 0 (stP s' v') (zsP {z with s:=s'} {x with s:=v'}) (AaD _ _) (Aac _ _) ?_;clear M;intro w' M)|refine zLAd ?_));refine zRt M.out.at1 ?_
  exact VerP.mk _ _ er HG1.out (fun h=>h.elim (fun h=>absurd h he) fun h=>absurd h h21) M.out.ext
theorem Afh{k:Nat}(hk:k<=30)(Γ:Gam)(z:Zst)(x:Zls)(o:OpD)(y:OpS)(hz:ZI k z)(ho:OpK Γ o y)(h1:o.kind=2)(w:World)(ok:Ok Γ w)(h:ZsG Γ x z) :
  Calls Tryz.prog 101 #[.agg (fl (zsP z x)).toArray,.agg (fl (opP o y)).toArray] w (VerP Γ w (k+1)):=by
 have M:=bx (MM.start ok)
 have HZ:=bx hz
 have HG:=bx h
 have TK:=bx (fun w ok=>AkA Γ z.s x.s o.b hz.s w ok h.s)
 have b1:(o.kind==1)=false:=by rw[h1];rfl
 have b2:(o.kind==2)=true:=by rw[h1];rfl
 clear ok h hz h1 ho
 go_enter Tryz.func101,Tryz.ntmps101;(go_wp2_with (first|go_skip|(refine zBXd ?_;clear M;intro w' g M)|(refine zALd (ztZs) ?_;clear M;intro w' g M)|(refine zSSd M 0 (zsP z x) (zsP z x) (AaL _ _) (AaS _ _) ?_;clear M;intro w' M)|refine zLAd ?_))
 refine(TK.out _ M.ok).mono ?_
 rintro e1 w1 ⟨er,s',l,⟨v',Al,cl,Γ1,rfl,hs,hca,hsl,hx⟩,hsi,h21⟩
 replace M:=bx (M.out.call hx)
 have HG1:=bx (HG.out.sto hx.le hs)
 have HSI:=bx hsi
 have HSL:=bx hsl
 clear hx hs hsi TK hca hsl
 by_cases he:er=0
 .subst he
  obtain⟨z1,hz1⟩:∃z1:Zst,z1 = {z with s:=s'}:=⟨_,rfl⟩
  obtain⟨x1,hx1⟩:∃x1:Zls,x1 = {x with s:=v'}:=⟨_,rfl⟩
  rw[<-hz1,<-hx1]at HG1
  have HZ2:Bx (ZI k z1):=⟨by rw[hz1];exact HZ.out.store (HSI.out rfl).1⟩
  have hl9:l.length<=9:=(HSI.out rfl).2.1
  clear HSI HG HZ
  have DR:=bx (fun w ok=>Ah8 Γ1 z1 x1 w ok HG1.out (by have:=HZ2.out.nreq;omega) (by have:=HZ2.out.nret;omega))
  have HZ3:=bx (HZ2.out.drop)
  clear HG1 HZ2
  generalize hz3:dropZ z1=z3 at *
  clear hz3
  (go_wp2_with (first|go_skip|(refine zBXd ?_;clear M;intro w' g M)|(refine zALd (ztZs) ?_;clear M;intro w' g M)|(refine zSSd M 0 (stP s' v') (zsP {z with s:=s'} {x with s:=v'}) (AaD _ _) (Aac _ _) ?_;clear M;intro w' M)|refine zLAd ?_))
  rw[<-hz1,<-hx1]
  refine(DR.out _ M.ok).mono ?_
  rintro e1 w1 ⟨x3,Γ3,rfl,hz3,hx⟩
  replace M:=bx (M.out.call hx)
  have HG3:=bx hz3
  have HSL3:=bx (HSL.out.mono hx.le)
  clear hx hz3 DR HSL
  have DU:=bx (fun w ok=>AhO Γ3 z3 x3 Al cl l w ok HG3.out HSL3.out (by have:=HZ3.out.nreq;omega) (by omega))
  have HZ4:=bx (HZ3.out.opens hl9)
  generalize opTo z3 l=z4 at *
  clear HZ3 HG3
  (go_wp2_with (first|go_skip|(refine zBXd ?_;clear M;intro w' g M)|(refine zALd (ztZs) ?_;clear M;intro w' g M)|fail|refine zLAd ?_))
  refine(DU.out _ M.ok).mono ?_
  rintro e1 w1 ⟨x4,Γ4,rfl,hz4,hx⟩
  replace M:=bx (M.out.call hx)
  have HG4:=bx hz4
  clear hx hz4 DU
  (go_wp2_with (first|go_skip|(refine zBXd ?_;clear M;intro w' g M)|(refine zALd (ztZs) ?_;clear M;intro w' g M)|(refine zSSd M 0 (zsP z4 x4) (zsP z4 x4) (AaL _ _) (AaS _ _) ?_;clear M;intro w' M)|(refine zSSd M 1 (zsP z4 x4) (zsP z4 x4) (AaL _ _) (AaS _ _) ?_;clear M;intro w' M)|refine zLAd ?_))
  refine zRt M.out.at1 ?_
  exact VerP.mk z4 x4 0 HG4.out (fun _=>HZ4.out) M.out.ext
 .have b0:(er==0)=false:=beq_eq_false_iff_ne.2 he
  (go_wp2_with (first|go_skip|(refine zBXd ?_;clear M;intro w' g M)|(refine zALd (ztZs) ?_;clear M;intro w' g M)|(refine zSSd M 1 (zsP {z with s:=s'} {x with s:=v'}) (zsP {z with s:=s'} {x with s:=v'}) (AaL _ _) (AaS _ _) ?_;clear M;intro w' M)|(refine zSSd M 0 (stP s' v') (zsP {z with s:=s'} {x with s:=v'}) (AaD _ _) (Aac _ _) ?_;clear M;intro w' M)|refine zLAd ?_));refine zRt M.out.at1 ?_
  exact VerP.mk _ _ er HG1.out (fun h=>h.elim (fun h=>absurd h he) fun h=>absurd h h21) M.out.ext
theorem AhI{k:Nat}(hk:k<=30)(Γ:Gam)(z:Zst)(x:Zls)(o:OpD)(y:OpS)(hz:ZI k z)(ho:OpK Γ o y)(h1:o.kind=3)(w:World)(ok:Ok Γ w)(h:ZsG Γ x z) :
  Calls Tryz.prog 101 #[.agg (fl (zsP z x)).toArray,.agg (fl (opP o y)).toArray] w (VerP Γ w (k+1)):=by
 have M:=bx (MM.start ok)
 have HZ:=bx hz
 have HG:=bx h
 have TK:Bx (∀w,Ok Γ w->Calls Tryz.prog 121 #[.agg (fl (stP z.s x.s)).toArray,.agg (fl (atP o.a y.a)).toArray] w (StoO Γ w (k+1))):=⟨fun w ok=>by
  have l1:=ho.la
  have l2:=hz.s.nl;have l3:=hz.s.bal;have l4:=hz.s.lat;have l5:=hz.s.el
  refine(Aio Γ z.s x.s o.a y.a hz.s.spe hz.s.t.lk (by omega) (by omega) hz.s.lat (by omega) (by omega) w ok h.s ho.a).mono ?_
  rintro e w' (⟨er,e0,e21,hE⟩|⟨hv,hE|⟨hr,hE⟩⟩)
  .exact StoO.of hE (fun e=>absurd e e0) e21
  .exact StoO.of hE (fun _=>(AnR hz.s).more (Nat.le_succ k)) (by decide)
  .exact StoO.of hE (fun _=>(Ak1 hz.s (by omega) hr).more (Nat.le_succ k)) (by decide)⟩
 have b1:(o.kind==1)=false:=by rw[h1];rfl
 have b2:(o.kind==2)=false:=by rw[h1];rfl
 have b3:(o.kind==3)=true:=by rw[h1];rfl
 clear ok h hz h1 ho
 go_enter Tryz.func101,Tryz.ntmps101;(go_wp2_with (first|go_skip|(refine zBXd ?_;clear M;intro w' g M)|(refine zALd (ztZs) ?_;clear M;intro w' g M)|(refine zSSd M 0 (zsP z x) (zsP z x) (AaL _ _) (AaS _ _) ?_;clear M;intro w' M)|refine zLAd ?_))
 refine(TK.out _ M.ok).mono ?_
 rintro e1 w1 ⟨er,s',v',Γ1,rfl,hs,hx,hsi,h21⟩
 replace M:=bx (M.out.call hx)
 have HG1:=bx (HG.out.sto hx.le hs)
 have HZ2:Bx (er=0->ZI (k+1) {z with s:=s'}):=⟨fun e=>(HZ.out.more (Nat.le_succ k)).store (hsi e)⟩
 clear hx hs TK hsi
 (go_wp2_with (first|go_skip|(refine zBXd ?_;clear M;intro w' g M)|(refine zALd (ztZs) ?_;clear M;intro w' g M)|(refine zSSd M 1 (zsP {z with s:=s'} {x with s:=v'}) (zsP {z with s:=s'} {x with s:=v'}) (AaL _ _) (AaS _ _) ?_;clear M;intro w' M)|(refine zSSd M 0 (stP s' v') (zsP {z with s:=s'} {x with s:=v'}) (AaD _ _) (Aac _ _) ?_;clear M;intro w' M)|refine zLAd ?_));refine zRt M.out.at1 ?_
 exact VerP.mk _ _ er HG1.out (fun h=>h.elim HZ2.out fun h=>absurd h h21) M.out.ext
theorem Afg{k:Nat}(hk:k<=30)(Γ:Gam)(z:Zst)(x:Zls)(o:OpD)(y:OpS)(hz:ZI k z)(ho:OpK Γ o y)(h1:o.kind=4)(w:World)(ok:Ok Γ w)(h:ZsG Γ x z) :
  Calls Tryz.prog 101 #[.agg (fl (zsP z x)).toArray,.agg (fl (opP o y)).toArray] w (VerP Γ w (k+1)):=by
 have M:=bx (MM.start ok)
 have HZ:=bx hz
 have HG:=bx h
 have TK:Bx (∀w,Ok Γ w->Calls Tryz.prog 122 #[.agg (fl (stP z.s x.s)).toArray,.agg (fl (slP o.s y.s1 y.s2)).toArray] w (StoO Γ w (k+1))):=⟨fun w ok=>by
  have l1:=ho.l1;have l2:=ho.l2;have l3:=hz.s.eqv
  refine(Ai1 Γ z.s x.s o.s y.s1 y.s2 w ok h.s ⟨ho.s1,ho.s2⟩ (by omega) (by omega) (by omega)).mono ?_
  rintro e w' (⟨er,e0,e21,hE⟩|⟨hv,_,hE⟩)
  .exact StoO.of hE (fun e=>absurd e e0) e21
  .exact StoO.of hE (fun _=>AkP hz.s l1 hv) (by decide)⟩
 have b1:(o.kind==1)=false:=by rw[h1];rfl
 have b2:(o.kind==2)=false:=by rw[h1];rfl
 have b3:(o.kind==3)=false:=by rw[h1];rfl
 have b4:(o.kind==4)=true:=by rw[h1];rfl
 clear ok h hz h1 ho
 go_enter Tryz.func101,Tryz.ntmps101;(go_wp2_with (first|go_skip|(refine zBXd ?_;clear M;intro w' g M)|(refine zALd (ztZs) ?_;clear M;intro w' g M)|(refine zSSd M 0 (zsP z x) (zsP z x) (AaL _ _) (AaS _ _) ?_;clear M;intro w' M)|refine zLAd ?_))
 refine(TK.out _ M.ok).mono ?_
 rintro e1 w1 ⟨er,s',v',Γ1,rfl,hs,hx,hsi,h21⟩
 replace M:=bx (M.out.call hx)
 have HG1:=bx (HG.out.sto hx.le hs)
 have HZ2:Bx (er=0->ZI (k+1) {z with s:=s'}):=⟨fun e=>(HZ.out.more (Nat.le_succ k)).store (hsi e)⟩
 clear hx hs TK hsi
 (go_wp2_with (first|go_skip|(refine zBXd ?_;clear M;intro w' g M)|(refine zALd (ztZs) ?_;clear M;intro w' g M)|(refine zSSd M 1 (zsP {z with s:=s'} {x with s:=v'}) (zsP {z with s:=s'} {x with s:=v'}) (AaL _ _) (AaS _ _) ?_;clear M;intro w' M)|(refine zSSd M 0 (stP s' v') (zsP {z with s:=s'} {x with s:=v'}) (AaD _ _) (Aac _ _) ?_;clear M;intro w' M)|refine zLAd ?_));refine zRt M.out.at1 ?_
 exact VerP.mk _ _ er HG1.out (fun h=>h.elim HZ2.out fun h=>absurd h h21) M.out.ext
theorem AhH{k:Nat}(hk:k<=30)(Γ:Gam)(z:Zst)(x:Zls)(o:OpD)(y:OpS)(hz:ZI k z)(ho:OpK Γ o y)(h1:o.kind=5)(w:World)(ok:Ok Γ w)(h:ZsG Γ x z) :
  Calls Tryz.prog 101 #[.agg (fl (zsP z x)).toArray,.agg (fl (opP o y)).toArray] w (VerP Γ w (k+1)):=by
 have M:=bx (MM.start ok)
 have HZ:=bx hz
 have HG:=bx h
 have TK:Bx (∀w,Ok Γ w->Calls Tryz.prog 123 #[.agg (fl (stP z.s x.s)).toArray,.agg (fl (tbP o.t.c y.t.v)).toArray] w (StoO Γ w (k+1))):=⟨fun w ok=>by
  have l1:=ho.lt;have l2:=hz.s.tl
  refine(AgE Γ z.s x.s o.t y.t (by omega) (by omega) w ok h.s ho.t).mono fun e w' hE=>?_
  exact StoO.of hE (fun e=>(Amm hz.s e).more (Nat.le_succ k)) (AkY _ _)⟩
 have b1:(o.kind==1)=false:=by rw[h1];rfl
 have b2:(o.kind==2)=false:=by rw[h1];rfl
 have b3:(o.kind==3)=false:=by rw[h1];rfl
 have b4:(o.kind==4)=false:=by rw[h1];rfl
 have b5:(o.kind==5)=true:=by rw[h1];rfl
 clear ok h hz h1 ho
 go_enter Tryz.func101,Tryz.ntmps101;(go_wp2_with (first|go_skip|(refine zBXd ?_;clear M;intro w' g M)|(refine zALd (ztZs) ?_;clear M;intro w' g M)|(refine zSSd M 0 (zsP z x) (zsP z x) (AaL _ _) (AaS _ _) ?_;clear M;intro w' M)|refine zLAd ?_))
 refine(TK.out _ M.ok).mono ?_
 rintro e1 w1 ⟨er,s',v',Γ1,rfl,hs,hx,hsi,h21⟩
 replace M:=bx (M.out.call hx)
 have HG1:=bx (HG.out.sto hx.le hs)
 have HZ2:Bx (er=0->ZI (k+1) {z with s:=s'}):=⟨fun e=>(HZ.out.more (Nat.le_succ k)).store (hsi e)⟩
 clear hx hs TK hsi
 (go_wp2_with (first|go_skip|(refine zBXd ?_;clear M;intro w' g M)|(refine zALd (ztZs) ?_;clear M;intro w' g M)|(refine zSSd M 1 (zsP {z with s:=s'} {x with s:=v'}) (zsP {z with s:=s'} {x with s:=v'}) (AaL _ _) (AaS _ _) ?_;clear M;intro w' M)|(refine zSSd M 0 (stP s' v') (zsP {z with s:=s'} {x with s:=v'}) (AaD _ _) (Aac _ _) ?_;clear M;intro w' M)|refine zLAd ?_));refine zRt M.out.at1 ?_
 exact VerP.mk _ _ er HG1.out (fun h=>h.elim HZ2.out fun h=>absurd h h21) M.out.ext
theorem AhG{k:Nat}(hk:k<=30)(Γ:Gam)(z:Zst)(x:Zls)(o:OpD)(y:OpS)(hz:ZI k z)(ho:OpK Γ o y)(h1:o.kind=6)(w:World)(ok:Ok Γ w)(h:ZsG Γ x z) :
  Calls Tryz.prog 101 #[.agg (fl (zsP z x)).toArray,.agg (fl (opP o y)).toArray] w (VerP Γ w (k+1)):=by
 have M:=bx (MM.start ok)
 have HZ:=bx hz
 have HG:=bx h
 have TK:=bx (fun w ok=>Ag4 (k:=k) (by omega) Γ z x o.v hz w ok h)
 have b1:(o.kind==1)=false:=by rw[h1];rfl
 have b2:(o.kind==2)=false:=by rw[h1];rfl
 have b3:(o.kind==3)=false:=by rw[h1];rfl
 have b4:(o.kind==4)=false:=by rw[h1];rfl
 have b5:(o.kind==5)=false:=by rw[h1];rfl
 have b6:(o.kind==6)=true:=by rw[h1];rfl
 clear ok h hz h1 ho
 go_enter Tryz.func101,Tryz.ntmps101;(go_wp2_with (first|go_skip|(refine zBXd ?_;clear M;intro w' g M)|(refine zALd (ztZs) ?_;clear M;intro w' g M)|(refine zSSd M 0 (zsP z x) (zsP z x) (AaL _ _) (AaS _ _) ?_;clear M;intro w' M)|refine zLAd ?_))
 refine(TK.out _ M.ok).mono ?_
 rintro e1 w1 ⟨z',x',Γ',er,rfl,hg,hzi,hx⟩
 replace M:=bx (M.out.call hx)
 have HG1:=bx hg
 have HZ1:=bx hzi
 clear hx hg hzi TK
 (go_wp2_with (first|go_skip|(refine zBXd ?_;clear M;intro w' g M)|(refine zALd (ztZs) ?_;clear M;intro w' g M)|(refine zSSd M 1 (zsP z' x') (zsP z' x') (AaL _ _) (AaS _ _) ?_;clear M;intro w' M)|refine zLAd ?_))
 refine zRt M.out.at1 ?_
 exact VerP.mk z' x' er HG1.out HZ1.out M.out.ext
theorem AhJ{k:Nat}(hk:k<=30)(Γ:Gam)(z:Zst)(x:Zls)(o:OpD)(y:OpS)(hz:ZI k z)(ho:OpK Γ o y)(w:World)(ok:Ok Γ w)(h:ZsG Γ x z) :
  Calls Tryz.prog 101 #[.agg (fl (zsP z x)).toArray,.agg (fl (opP o y)).toArray] w (VerP Γ w (k+1)):=by
 have hkd:=ho.kind
 rcases(by omega:o.kind=1\/o.kind=2\/o.kind=3\/o.kind=4\/o.kind=5\/o.kind=6)with e|e|e|e|e|e
 .exact AgM hk Γ z x o y hz ho e w ok h
 .exact Afh hk Γ z x o y hz ho e w ok h
 .exact AhI hk Γ z x o y hz ho e w ok h
 .exact Afg hk Γ z x o y hz ho e w ok h
 .exact AhH hk Γ z x o y hz ho e w ok h
 .exact AhG hk Γ z x o y hz ho e w ok h
theorem StpP.nil{Γ Γ':Gam}{w w':World}{k:Nat}(z':Zst)(x':Zls)(er:Int)(h:ZsG Γ' x' z')(h1:ZI k z')(hx:Ext Γ w Γ' w'):StpP Γ w k (.returned (.tuple #[.agg (fl (zsP z' x')).toArray,.slice Option.none 0 0,.int .i64 er])) w':=
 ⟨z',x',Γ',Option.none,0,0,[],er,rfl,rfl,⟨Nat.le_refl _,Nat.zero_le _,fun _=>rfl⟩,fun h=>absurd h (Nat.lt_irrefl _),h,h1,hx⟩
theorem AkO{k:Nat}(hk:k<=30)(Γ:Gam)(z:Zst)(x:Zls)(o:OpD)(y:OpS)(hz:ZI k z)(ho:OpK Γ o y)(w:World)(ok:Ok Γ w)(h:ZsG Γ x z) :
  Calls Tryz.prog 71 #[.agg (fl (zsP z x)).toArray,.agg (fl (opP o y)).toArray] w (StpP Γ w (k+1)):=by
 have M:=bx (MM.start ok)
 have HZ:=bx (hz.more (Nat.le_succ k))
 have HG:=bx h
 have VO:=bx (fun w ok=>Ag5 Γ o y ho.kind ho.r w ok)
 have PF:=bx (fun w ok=>AhJ hk Γ z x o y hz ho w ok h)
 clear ok h hz ho
 cases hh:z.halt with
 |true=>
  have HH:Bx (Value.bool z.halt=.bool true):=⟨by rw[hh]⟩
  clear hh
  go_enter Tryz.func71,Tryz.ntmps71
  (go_wp2_with (first|(refine zBXd ?_;clear M;intro w' g M)|(refine zALd (ztZs) ?_;clear M;intro w' g M)|refine zLHd HH ?_|(refine zSSd M 0 (zsP z x) (zsP z x) (AaL _ _) (AaS _ _) ?_;clear M;intro w' M)|refine zLAd ?_))
  (try refine zsm ?_);refine bodyPost_ret (Aa0 (by rfl) _ M.out.at0 (by rfl) rtZs rfl) rfl ?_
  exact StpP.nil z x 22 HG.out HZ.out M.out.ext
 |false=>
  have HH:Bx (Value.bool z.halt=.bool false):=⟨by rw[hh]⟩
  clear hh
  go_enter Tryz.func71,Tryz.ntmps71
  (go_wp2_with (first|(refine zBXd ?_;clear M;intro w' g M)|(refine zALd (ztZs) ?_;clear M;intro w' g M)|refine zLHd HH ?_|refine zLAd ?_))
  refine(VO.out _ M.ok).mono ?_
  rintro e1 w1 ⟨er,rfl,hb⟩
  replace M:=bx (M.out.below hb)
  clear hb VO
  by_cases he:er=0
  .subst he
   (go_wp2_with (refine zLAd ?_))
   refine(PF.out _ M.ok).mono ?_
   rintro e1 w1 ⟨z1,x1,Γ1,er,rfl,hg,hzi,hx⟩
   replace M:=bx (M.out.call hx)
   have HG1:=bx hg
   have HZ1:=bx hzi
   have LX:=bx hx.le
   clear hx hg hzi PF
   by_cases h21:er=21
   .subst h21
    (go_wp2_with (first|(refine zALd (ztZs) ?_;clear M;intro w' g M)|(refine zSSd M 0 (zsP z1 x1) (zsP z1 x1) (AaL _ _) (AaS _ _) ?_;clear M;intro w' M)|(refine zSSd M 1 (zsP z1 x1) (zsP z1 x1) (AaL _ _) (AaS _ _) ?_;clear M;intro w' M)|refine zLAd ?_))
    (try refine zsm ?_);refine bodyPost_ret (Aa0 (by rfl) _ M.out.at1 (by rfl) rtZs rfl) rfl ?_
    exact StpP.nil z1 x1 21 HG1.out (HZ1.out (by simp)) M.out.ext
   .have b21:(er==21)=false:=beq_eq_false_iff_ne.2 h21
    by_cases h0:er=0
    .subst h0
     have HZ2:=bx (HZ1.out (by simp))
     have EM:=bx (fun w ok=>Ah7 Γ1 z1 x1 (HZ2.out.s.wok (by omega)) w ok HG1.out)
     clear HZ1
     (go_wp2_with (first|(refine zALd (ztZs) ?_;clear M;intro w' g M)|(refine zSSd M 0 (zsP z1 x1) (zsP z1 x1) (AaL _ _) (AaS _ _) ?_;clear M;intro w' M)|refine zLAd ?_))
     refine(EM.out _ M.ok).mono ?_
     rintro e1 w1 ⟨A,cc,Γ2,rfl,hA,hL,hx⟩
     replace M:=bx (M.out.call hx)
     have HL:=bx (And.intro hA hL)
     have HG2:=bx (Am7 (HG1.out.mono hx.le))
     have HZ3:=bx HZ2.out.emt
     clear hx hA hL EM HG1 HZ2
     generalize emtZ z1=z2 at *
     generalize emtL z1=L2 at *
     (go_wp2_with (first|(refine zALd (ztZs) ?_;clear M;intro w' g M)|(refine zSSd M 0 (zsP z2 x1) (zsP z2 x1) (AaL _ _) (AaS _ _) ?_;clear M;intro w' M)|(refine zSSd M 2 (zsP z2 x1) (zsP z2 x1) (AaL _ _) (AaS _ _) ?_;clear M;intro w' M)|refine zLAd ?_))
     (try refine zsm ?_);refine bodyPost_ret (Aa0 (by rfl) _ M.out.at2 (by rfl) rtZs rfl) rfl ?_
     exact⟨z2,x1,Γ2,A,_,cc,L2,0,rfl,rfl,HL.out.1,HL.out.2,HG2.out,HZ3.out,M.out.ext⟩
    .have b0:(er != 0)=true:=by simp[h0]
     (go_wp2_with (first|(refine zALd (ztZs) ?_;clear M;intro w' g M)|(refine zSSd M 0 (zsP z1 x1) (zsP z1 x1) (AaL _ _) (AaS _ _) ?_;clear M;intro w' M)|(refine zSSd M 1 (zsP z x) (zsP z x) (AaL _ _) (AaS _ _) ?_;clear M;intro w' M)|refine zLAd ?_))
     (try refine zsm ?_);refine bodyPost_ret (Aa0 (by rfl) _ M.out.at1 (by rfl) rtZs rfl) rfl ?_
     exact StpP.nil z x er (HG.out.mono LX.out) HZ.out M.out.ext
  .have he':(er != 0)=true:=by simp[he]
   (go_wp2_with (first|(refine zSSd M 0 (zsP z x) (zsP z x) (AaL _ _) (AaS _ _) ?_;clear M;intro w' M)|refine zLAd ?_))
   (try refine zsm ?_);refine bodyPost_ret (Aa0 (by rfl) _ M.out.at0 (by rfl) rtZs rfl) rfl ?_
   exact StpP.nil z x er HG.out HZ.out M.out.ext
end Go.Proofs.YtmgeheaneohldaaGreat
