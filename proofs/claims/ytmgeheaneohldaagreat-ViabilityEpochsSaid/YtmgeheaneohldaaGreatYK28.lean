/- Texts joined: what the walks of this claim stand on (part 28 of 43). -/
import Derived.Test.YtmgeheaneohldaaGreatYK26
import Derived.Test.YtmgeheaneohldaaGreatYK27
set_option linter.all false
set_option maxRecDepth 20000
set_option maxHeartbeats 40000000
namespace Go.Proofs.YtmgeheaneohldaaGreat
open Go.RowKit Go.Proofs.YtmgeheaneohldaaGreat.Old
structure ZI(k:Nat)(z:Zst):Prop where
 s:SI k z.s
 nreq:z.reqs.length<=40*k
 nret:z.rets.length<=k
 tries:∀q,q∈z.reqs\/q∈z.rets->0<=q.tries/\q.tries<=(k:Int)
theorem ZI.more{k k':Nat}{z:Zst}(h:ZI k z)(hk:k<=k'):ZI k' z:=
 ⟨h.s.more hk,by have:=h.nreq;omega,by have:=h.nret;omega,fun q hq=>by have:=h.tries q hq;omega⟩
theorem ZI.halt{k:Nat}{z:Zst}(h:ZI k z)(b:Bool):ZI k {z with halt:=b}:=⟨h.s,h.nreq,h.nret,h.tries⟩
theorem ZI.emt{k:Nat}{z:Zst}(h:ZI k z):ZI k (emtZ z):=by
 unfold emtZ
 split
 .exact h
 .exact⟨h.s,h.nreq,h.nret,h.tries⟩
theorem ZI.store{k:Nat}{z:Zst}(h:ZI k z){s:Sto}(hs:SI k s):ZI k {z with s:=s}:=⟨hs,h.nreq,h.nret,h.tries⟩
theorem AgS{N:List Nod}{l:List Rq}{q:Rq}(h:q∈knownR N l):q∈l:=(List.mem_filter.1 h).1
theorem Ade(N:List Nod)(l:List Rq):(knownR N l).length<=l.length:=List.length_filter_le _ _
theorem ZI.drop{k:Nat}{z:Zst}(h:ZI k z):ZI k (dropZ z):=
 ⟨h.s,Nat.le_trans (Ade _ _) h.nreq,Nat.le_trans (Ade _ _) h.nret,fun q hq=>h.tries q (hq.elim (fun h=>.inl (AgS h)) fun h=>.inr (AgS h))⟩
theorem Ahu:∀(l:List Rt) (z:Zst),(opTo z l).rets=z.rets/\∀q∈(opTo z l).reqs,q∈z.reqs\/q.tries=0
 |[],z=>⟨rfl,fun q hq=>.inl hq⟩
 |a::t,z=>by
  obtain⟨h1,h2⟩:=Ahu t (opS z a)
  have e:opTo z (a::t)=opTo (opS z a) t:=rfl
  have h3:(opS z a).rets=z.rets/\∀q∈(opS z a).reqs,q∈z.reqs\/q.tries=0:=by
   unfold opS
   split
   .refine⟨rfl,fun q hq=>?_⟩
    rcases List.mem_append.1 hq with hq|hq
    .exact .inl hq
    .have:q=⟨z.ntag,a,0,u0⟩:=by simpa using hq
     rw[this];exact .inr rfl
   .exact⟨rfl,fun q hq=>.inl hq⟩
  rw[e]
  exact⟨h1.trans h3.1,fun q hq=>(h2 q hq).elim (h3.2 q) .inr⟩
theorem ZI.opens{k:Nat}{z:Zst}(h:ZI k z){l:List Rt}(hl:l.length<=9):ZI (k+1) (opTo z l):=by
 obtain⟨h1,h2⟩:=AlZ z l
 obtain⟨h3,h4⟩:=Ahu l z
 have h5:=h.more (Nat.le_succ k)
 refine⟨by rw[h1];exact h5.s,by have:=h.nreq;omega,by rw[h3];exact h5.nret,fun q hq=>?_⟩
 rcases hq with hq|hq
 .rcases h4 q hq with hq|hq
  .exact h5.tries q (.inl hq)
  .rw[hq];omega
 .rw[h3]at hq;exact h5.tries q (.inr hq)
theorem Ak2(l:List Rq):∀y:Zst,∀q,q∈(l.foldl dueS y).reqs\/q∈(l.foldl dueS y).rets->(q∈y.reqs\/q∈y.rets)\/∃r∈l,q.tries=r.tries:=by
 induction l with
 |nil=>intro y q hq;exact .inl hq
 |cons a t ih=>
  intro y q hq
  rw[List.foldl_cons]at hq
  rcases ih (dueS y a) q hq with h|⟨r,hr,e⟩
  .unfold dueS at h
   split at h
   .rcases h with h|h
    .exact .inl (.inl h)
    .rcases List.mem_append.1 h with h|h
     .exact .inl (.inr h)
     .have:q=a:=by simpa using h
      exact .inr ⟨a,by simp,by rw[this]⟩
   .split at h
    .rcases h with h|h
     .rcases List.mem_append.1 h with h|h
      .exact .inl (.inl h)
      .have:q=⟨y.ntag,a.block,a.tries,u0⟩:=by simpa using h
       exact .inr ⟨a,by simp,by rw[this]⟩
     .exact .inl (.inr h)
    .exact .inl h
  .exact .inr ⟨r,by simp[hr],e⟩
theorem ZI.due{k:Nat}{z:Zst}(h:ZI (k+1) z)(e2:z.reqs.length<=40*k)(e1:z.rets.length<=k)(hk:k<=40):ZI (k+1) (dueZ z):=by
 obtain⟨h1,h2,h3⟩:=Ajm z z.rets
 refine⟨by unfold dueZ;rw[h1];exact h.s,by unfold dueZ;omega,by unfold dueZ;omega,fun q hq=>?_⟩
 unfold dueZ dueTo at hq
 rcases Ak2 z.rets _ q hq with(hq|hq)|⟨r,hr,e⟩
 .exact h.tries q (.inl hq)
 .cases hq
 .rw[e];exact h.tries r (.inr hr)
theorem ZI.cut{k:Nat}{z:Zst}(h:ZI k z)(j:Nat):ZI k {z with reqs:=z.reqs.take j++z.reqs.drop (j+1)}:=by
 have hm:∀q∈z.reqs.take j++z.reqs.drop (j+1),q∈z.reqs:=fun q hq=>by
  rcases List.mem_append.1 hq with hq|hq
  .exact List.mem_of_mem_take hq
  .exact List.mem_of_mem_drop hq
 refine⟨h.s,?_,h.nret,fun q hq=>h.tries q (hq.imp (hm q) id)⟩
 have:=h.nreq
 simp only[List.length_append,List.length_take,List.length_drop]
 omega
theorem ZI.later{k:Nat}{z z':Zst}{r:Rq}(h:ZI k z)(hr:0<=r.tries/\r.tries<=(k:Int))(e1:z'.s=z.s)(e2:z'.reqs=z.reqs)(e3:z'.rets.length<=z.rets.length+1)(e4:∀q∈z'.rets,q∈z.rets\/q.tries=r.tries+1):ZI (k+1) z':=by
 have h5:=h.more (Nat.le_succ k)
 refine⟨by rw[e1];exact h5.s,by rw[e2];exact h5.nreq,by have:=h.nret;omega,fun q hq=>?_⟩
 rcases hq with hq|hq
 .rw[e2]at hq;exact h5.tries q (.inl hq)
 .rcases e4 q hq with hq|hq
  .exact h5.tries q (.inr hq)
  .rw[hq];omega
theorem ZI.judge{k:Nat}{z:Zst}{M:List Nod}{i:Nat}{v:Vd}{r:Rt}(h:ZI k z)(hi:i<z.s.nodes.length)
  (hj:judgeN z.s.nodes (i:Int) v [fndI z.s.nodes z.s.just.r,fndI z.s.nodes z.s.fin.r]=(0,M)):ZI k {z with s:={z.s with nodes:=M,boost:=r}}:=
 ⟨Akp h.s hi hj,h.nreq,h.nret,h.tries⟩
theorem Ag6(x:Int):∃u:U,IntKind.u64.wrap x=(u.n:Int):=by
 refine⟨⟨(IntKind.u64.wrap x).toNat,?_⟩,?_⟩
 .simp[IntKind.wrap,IntKind.bits,IntKind.signed];omega
 .simp[IntKind.wrap,IntKind.bits,IntKind.signed];omega
def CpoP(Γ:Gam)(w:World)(e:Ending)(w':World):Prop:=∃c:Cp,e=.returned (.agg (fl (cpP c)).toArray)/\Ext Γ w Γ w'
theorem Aj8(e:U)(r:Rt):Tryz.prog.built 37 [(0,.int .u64 (e.n:Int)),(1,.agg (rc r).toArray)]=some (fl (cpP ⟨e,r⟩)).toArray:=by
 have stCpp:StrT Tryz.prog 37 [(0,1),(1,32)] (cpP cp0) [1,32]:=AbB Tryz.underlying37 (by kernel_rfl) (by kernel_rfl) (AaA _)
 rw[stCpp.eq]
 refine AaJ (Q:=[[.int .u64 (e.n:Int)]]) stCpp.len rfl rfl rfl rfl rfl fun hl=>?_
 refine AaJ (Q:=[rc r]) hl rfl rfl rfl (lenR r) rfl fun hl=>?_
 rfl
theorem Ahe(Γ:Gam)(s:Sto)(v:Sls)(hk:Lk (upsN s.nodes))(hb:s.nodes.length<=4096)(i:Int)(e:U)(w:World)(ok:Ok Γ w)(h:StG Γ v s) :
  Calls Tryz.prog 111 #[.agg (fl (stP s v)).toArray,.int .i64 i,.int .u64 (e.n:Int)] w (CpoP Γ w):=by
 have M:=bx (MM.start ok)
 have HG:=bx h
 have LN:=bx h.nodes.n
 obtain⟨m,hm⟩:=Ag6 ((e.n:Int)*(s.c.spe.n:Int))
 have AT:=bx (fun w ok=>AhS Γ v.nodes s.nodes i m w ok h.nodes hk hb)
 have AC:=bx (Agx hk i m)
 clear ok h hk
 generalize atI s.nodes i m=j at *
 rcases AC.out with rfl|⟨k,hkl,rfl⟩
 .go_enter Tryz.func111,Tryz.ntmps111
  (go_wp2_with (first|(refine zBXd ?_;clear M;intro w' g M)|(refine zALd (Aan) ?_;clear M;intro w' g M)|refine zLAd ?_))
  refine zCA M (AT.out _ M.ok) ?_;clear M;intro w1 M
  (go_wp2_with (first|(refine zSSd M 0 (cpP s.fin) (cpP s.fin) (AaA _) (AaF _) ?_;clear M;intro w' M)|refine zLAd ?_))
  refine zR M.out.at0 ?_
  exact⟨s.fin,rfl,M.out.ext⟩
 .obtain⟨gn,hA,hf⟩:=HG.out.nodes.fz (f:=noP) (k:=240) AaO rfl k hkl
  have HA:=bx hA
  have F1:=bx hf
  have hki:(k:Int)<(v.nodes.n:Int):=by rw[LN.out];omega
  have hk0:0<=(k:Int):=by omega
  have hkn:¬(k:Int)<0:=by omega
  clear hA hf AC
  generalize s.nodes[k]=y at *
  have BK:=bx (Aj8 e y.b.root)
  go_enter Tryz.func111,Tryz.ntmps111
  (go_wp2_with (first|(refine zBXd ?_;clear M;intro w' g M)|(refine zALd (Aan) ?_;clear M;intro w' g M)|refine zLAd ?_))
  refine zCA M (AT.out _ M.ok) ?_;clear M;intro w1 M
  (go_wp2_with (first|refine zLHd HA ?_|refine zRFd F1 ?_|refine zBDd 37 [(0,.int .u64 (e.n:Int)),(1,.agg (rc y.b.root).toArray)] (fl (cpP ⟨e,y.b.root⟩)) BK.out ?_|(refine zSSd M 0 (cpP ⟨e,y.b.root⟩) (cpP ⟨e,y.b.root⟩) (AaA _) (AaF _) ?_;clear M;intro w' M)|refine zLAd ?_))
  refine zR M.out.at0 ?_
  exact⟨⟨e,y.b.root⟩,rfl,M.out.ext⟩
end Go.Proofs.YtmgeheaneohldaaGreat
namespace Go.Proofs.YtmgeheaneohldaaGreat
open Go.RowKit
def FitsL:List (List Value)->List (List Value)->Prop
 |[],[]=>True
 |k::K,p::P=>(Fits k p/\k.length=p.length)/\FitsL K P
 |_,_=>False
theorem FitsL.fl:∀{K P:List (List Value)},FitsL K P->Fits (fl K) (fl P)
 |[],[],_=>trivial
 |[],_::_,h=>h.elim
 |_::_,[],h=>h.elim
 |k::K,p::P,h=>by
  rw[Acv,Acv]
  exact Fits.app2 h.1.1 h.1.2 (FitsL.fl (K:=K) (P:=P) h.2)
theorem Alf:∀{P Q:List (List Value)} {ls:List Nat},P.map List.length=ls->Q.map List.length=ls->fl P=fl Q->P=Q
 |[],[],_,_,_,_=>rfl
 |[],_::_,_,h1,h2,_=>by subst h1;simp at h2
 |_::_,[],_,h1,h2,_=>by subst h1;simp at h2
 |p::P,q::Q,ls,h1,h2,h=>by
  subst h1
  rw[Acv,Acv]at h
  simp only[List.map_cons,List.cons.injEq]at h2
  obtain⟨e1,e2⟩:=List.append_inj h h2.1.symm
  rw[e1,Alf (P:=P) (Q:=Q) rfl h2.2 e2]
theorem Agg(n:Int):Fits [.int .u64 0] [.int .u64 n] /\ [Value.int .u64 0].length = [Value.int .u64 n].length:=⟨⟨rfl,trivial⟩,rfl⟩
theorem Am5(b:Bool):Fits [.bool false] [.bool b] /\ [Value.bool false].length = [Value.bool b].length:=⟨⟨rfl,trivial⟩,rfl⟩
theorem Aem(r:Rt):Fits kRt (rc r)/\kRt.length=(rc r).length:=⟨Ab2 r.len,by rw[Aax];rfl⟩
def kWd:List Value:=(List.replicate 4 [Value.int .u64 0]).flatten
theorem eqWd:EqT Tryz.prog 2 27 kWd:=EqT.array (EqT.int Tryz.underlying23 (by kernel_rfl)) Tryz.underlying27 (by kernel_rfl) (info_of_underlying Tryz.underlying23)
theorem Alg(r:Wd):Fits kWd (wc r)/\kWd.length=(wc r).length:=⟨Fits.ints r.len,by rw[Ach];rfl⟩
def ksBl:List (List Value):=[[.int .u64 0],kRt,[.int .u64 0],kRt,[.int .u64 0],kRt,kRt,kRt,kWd,kWd,[.int .u64 0],kRt,[.int .u64 0],kRt,[.bool false]]
def kBl:List Value:=fl ksBl
theorem eqPu:EqT Tryz.prog 4 63 (kCk++kCk):=by
 refine EqT.struct Tryz.underlying63 (by kernel_rfl) (by kernel_rfl) (by kernel_rfl) ?_
 refine⟨kCk,kCk,rfl,by decide,rfl,eqCk,?_⟩
 exact⟨kCk,[],by simp,by decide,rfl,eqCk,rfl⟩
theorem eqBl:EqT Tryz.prog 5 65 kBl:=by
 refine EqT.struct Tryz.underlying65 (by kernel_rfl) (by kernel_rfl) (by kernel_rfl) ?_
 refine⟨kCk++kCk,fl (ksBl.drop 4),rfl,by decide,rfl,eqPu,?_⟩
 refine⟨[.int .u64 0],fl (ksBl.drop 5),rfl,by decide,rfl,(EqT.int Tryz.underlying23 (by kernel_rfl)).mono' (by omega),?_⟩
 refine⟨kRt,fl (ksBl.drop 6),rfl,by decide,rfl,Adi.mono' (by omega),?_⟩
 refine⟨kRt,fl (ksBl.drop 7),rfl,by decide,rfl,Adi.mono' (by omega),?_⟩
 refine⟨kRt,fl (ksBl.drop 8),rfl,by decide,rfl,Adi.mono' (by omega),?_⟩
 refine⟨kWd,fl (ksBl.drop 9),rfl,by decide,rfl,eqWd.mono' (by omega),?_⟩
 refine⟨kWd,fl (ksBl.drop 10),rfl,by decide,rfl,eqWd.mono' (by omega),?_⟩
 refine⟨kCk,fl (ksBl.drop 12),rfl,by decide,rfl,eqCk.mono' (by omega),?_⟩
 refine⟨kCk,fl (ksBl.drop 14),rfl,by decide,rfl,eqCk.mono' (by omega),?_⟩
 exact⟨[.bool false],[],rfl,by decide,rfl,(EqT.bool Tryz.underlying4 (by kernel_rfl)).mono' (by omega),rfl⟩
theorem Ajj(a:Blk):Fits kBl (fl (blP a)):=
 FitsL.fl ⟨Agg _,Aem _,Agg _,Aem _,Agg _,Aem _,Aem _,Aem _,Alg _,Alg _,Agg _,Aem _,Agg _,Aem _,Am5 _,trivial⟩
theorem AiF{a b:Cp}(h1:(a.e.n:Int)=(b.e.n:Int))(h2:rc a.r=rc b.r):a=b:=by
 obtain⟨e,r⟩:=a
 obtain⟨e',r'⟩:=b
 simp only at h1 h2
 rw[AeV.1 h2,U.ext' (Int.ofNat.inj h1)]
theorem AnO{a b:Blk}:fl (blP a)=fl (blP b)↔a=b:=by
 refine⟨fun h=>?_,fun h=>h▸rfl⟩
 have h':=Alf (AaY a) (AaY b) h
 simp only[blP,List.cons.injEq,Value.int.injEq,Value.bool.injEq,true_and,and_true]at h'
 obtain⟨h1,h2,h3,h4,h5,h6,h7,h8,h9,h10,h11,h12,h13,h14,h15⟩:=h'
 have e1:=AiF h1 h2
 have e2:=AiF h3 h4
 have e3:=AiF h11 h12
 have e4:=AiF h13 h14
 have e5:a.slot=b.slot:=U.ext' (Int.ofNat.inj h5)
 have e6:=AeV.1 h6
 have e7:=AeV.1 h7
 have e8:=AeV.1 h8
 have e9:=AlR.1 h9
 have e10:=AlR.1 h10
 cases a;cases b
 simp only at e1 e2 e3 e4 e5 e6 e7 e8 e9 e10 h15
 subst e1 e2 e3 e4 e5 e6 e7 e8 e9 e10 h15
 rfl
theorem AmP(a b:Blk)(w:World):(Op.equalIn 10000 65 (.agg (fl (blP a)).toArray) (.agg (fl (blP b)).toArray)).run Tryz.prog w=.ok (decide (a=b)) w:=
 eqBl.same (by omega) (AbV Tryz.underlying65) (Aad Tryz.underlying65) (Ajj a) (Ajj b) (by rw[Ad7];rfl) (by rw[Ad7];rfl) (by simp[AnO]) w
end Go.Proofs.YtmgeheaneohldaaGreat
namespace Go.Proofs.YtmgeheaneohldaaGreat
open Go.RowKit Go.Proofs.YtmgeheaneohldaaGreat.Old
theorem AiS(Γ:Gam)(t t':Tbl)(A A':Option Addr)(c c':Nat)(hb:t.b.length<=4000)(hb':t'.b.length<=4000)(h:SlG Γ A t.b.length (us t.b))(h':SlG Γ A' t'.b.length (us t'.b))(w:World)(ok:Ok Γ w) :
  Calls Tryz.prog 137 #[.agg (fl (tbP t.c (.slice A t.b.length c))).toArray,.agg (fl (tbP t'.c (.slice A' t'.b.length c'))).toArray] w (SmB w):=by
 have M:=bx (MM.start ok)
 have SN:Bx (∀w',Ok Γ w'->Calls Tryz.prog 22 #[.slice A t.b.length c,.slice A' t'.b.length c'] w' (SmB w')):=⟨fun w' ok'=>
  (sameNumbers_any _ A A' t.b.length t'.b.length c c' (t.b.map fun x=>(x.n:Int)) (t'.b.map fun x=>(x.n:Int)) _ (Nat.le_refl _) ((Adp t.b)▸h.row (size:=1) (by rw[AdH,Nat.mul_one]) ok') ((Adp t'.b)▸h'.row (size:=1) (by rw[AdH,Nat.mul_one]) ok') (by omega) (by omega)).mono fun _ _ ⟨e,hb⟩=>⟨_,e,hb⟩⟩
 clear ok h h' hb hb'
 have hq:=AdS t.c t'.c
 generalize decide (t.c=t'.c)=q at *
 cases q with
 |false=>go_enter Tryz.func137,Tryz.ntmps137;((go_wp2_with (first|go_skip|(refine zBXo ?_;clear M;intro w' g M)|refine zLAo ?_));go_ret;exact⟨_,rfl,M.bel⟩)
 |true=>
  go_enter Tryz.func137,Tryz.ntmps137
  (go_wp2_with (first|go_skip|(refine zBXo ?_;clear M;intro w' g M)|refine zLAo ?_))
  (refine(SN.out _ M.ok).mono ?_;rintro e w1 ⟨bb,rfl,hb⟩;replace M:=bx (M.out.below hb);clear hb;cases bb)
  ·((go_wp2_with (first|go_skip|(refine zBXo ?_;clear M;intro w' g M)|refine zLAo ?_));go_ret;exact⟨_,rfl,M.bel⟩)
  ·((go_wp2_with (first|go_skip|(refine zBXo ?_;clear M;intro w' g M)|refine zLAo ?_));go_ret;exact⟨_,rfl,M.bel⟩)
theorem AiT(Γ:Gam)(o p:OpD)(x y:OpS)(h:OpR Γ o x)(h':OpR Γ p y)(w:World)(ok:Ok Γ w) :
  Calls Tryz.prog 115 #[.agg (fl (opP o x)).toArray,.agg (fl (opP p y)).toArray] w (SmB w):=by
 have M:=bx (MM.start ok)
 obtain⟨⟨A1,c1,e1,q1,l1⟩,⟨A2,c2,e2,q2,l2⟩,⟨A3,c3,e3,q3,l3⟩,⟨A4,c4,e4,q4,l4⟩⟩:=h
 obtain⟨⟨B1,d1,f1,r1,m1⟩,⟨B2,d2,f2,r2,m2⟩,⟨B3,d3,f3,r3,m3⟩,⟨B4,d4,f4,r4,m4⟩⟩:=h'
 obtain⟨x1,x2,x3,x4⟩:=x
 obtain⟨y1,y2,y3,y4⟩:=y
 simp only at e1 e2 e3 e4 f1 f2 f3 f4
 subst e1 e2 e3 e4 f1 f2 f3 f4
 have SA:=bx (fun w' ok'=>Ag8 Γ o.a p.a A1 B1 c1 d1 l1 m1 q1 r1 w' ok')
 have SS:=bx (fun w' ok'=>Afb Γ o.s p.s A2 A3 B2 B3 c2 c3 d2 d3 l2 l3 m2 m3 q2 q3 r2 r3 w' ok')
 have ST:Bx (∀w',Ok Γ w'->Calls Tryz.prog 137 #[.agg (fl (tbP o.t.c (.slice A4 o.t.b.length c4))).toArray,.agg (fl (tbP p.t.c (.slice B4 p.t.b.length d4))).toArray] w' (SmB w')):=⟨fun w' ok'=>AiS Γ o.t p.t A4 B4 c4 d4 l4 m4 q4 r4 w' ok'⟩
 clear ok q1 q2 q3 q4 l1 l2 l3 l4 r1 r2 r3 r4 m1 m2 m3 m4
 obtain⟨kd,b,a,s,t,v,wr,kp⟩:=o
 obtain⟨kd',b',a',s',t',v',wr',kp'⟩:=p
 simp only at SA SS ST
 have hq:=AmP b b'
 generalize decide (b=b')=q at *
 have hv:=All v v'
 generalize decide (v=v')=qv at *
 by_cases h0:kd=kd'
 .subst h0
  cases q with
  |false=>go_enter Tryz.func115,Tryz.ntmps115;((go_wp2_with (first|go_skip|(refine zBXo ?_;clear M;intro w' g M)|refine zLAo ?_));go_ret;exact⟨_,rfl,M.bel⟩)
  |true=>
   go_enter Tryz.func115,Tryz.ntmps115
   (go_wp2_with (first|go_skip|(refine zBXo ?_;clear M;intro w' g M)|refine zLAo ?_))
   (refine(SA.out _ M.ok).mono ?_;rintro e w1 ⟨bb,rfl,hb⟩;replace M:=bx (M.out.below hb);clear hb;cases bb)
   ·((go_wp2_with (first|go_skip|(refine zBXo ?_;clear M;intro w' g M)|refine zLAo ?_));go_ret;exact⟨_,rfl,M.bel⟩)
   ·(go_wp2_with (first|go_skip|(refine zBXo ?_;clear M;intro w' g M)|refine zLAo ?_))
    (refine(SS.out _ M.ok).mono ?_;rintro e w1 ⟨bb,rfl,hb⟩;replace M:=bx (M.out.below hb);clear hb;cases bb)
    ·((go_wp2_with (first|go_skip|(refine zBXo ?_;clear M;intro w' g M)|refine zLAo ?_));go_ret;exact⟨_,rfl,M.bel⟩)
    ·(go_wp2_with (first|go_skip|(refine zBXo ?_;clear M;intro w' g M)|refine zLAo ?_))
     (refine(ST.out _ M.ok).mono ?_;rintro e w1 ⟨bb,rfl,hb⟩;replace M:=bx (M.out.below hb);clear hb;cases bb)
     ·((go_wp2_with (first|go_skip|(refine zBXo ?_;clear M;intro w' g M)|refine zLAo ?_));go_ret;exact⟨_,rfl,M.bel⟩)
     .cases qv with
      |false=>((go_wp2_with (first|go_skip|(refine zBXo ?_;clear M;intro w' g M)|refine zLAo ?_));go_ret;exact⟨_,rfl,M.bel⟩)
      |true=>
       by_cases h1:wr=wr'
       .subst h1
        ((go_wp2_with (first|go_skip|(refine zBXo ?_;clear M;intro w' g M)|refine zLAo ?_));go_ret;exact⟨_,rfl,M.bel⟩)
       .have e1:(wr==wr')=false:=by simp[h1]
        ((go_wp2_with (first|go_skip|(refine zBXo ?_;clear M;intro w' g M)|refine zLAo ?_));go_ret;exact⟨_,rfl,M.bel⟩)
 .have e0:(kd==kd')=false:=by simp[h0]
  go_enter Tryz.func115,Tryz.ntmps115;((go_wp2_with (first|go_skip|(refine zBXo ?_;clear M;intro w' g M)|refine zLAo ?_));go_ret;exact⟨_,rfl,M.bel⟩)
end Go.Proofs.YtmgeheaneohldaaGreat
