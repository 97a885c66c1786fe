/- Texts joined: what the walks of this claim stand on (part 39). -/
import Derived.Test.YtpaihpeoiliioaaGreatKK22
import Derived.Test.YtpaihpeoiliioaaGreatKK37
import Derived.Test.YtpaihpeoiliioaaGreatKK38
set_option linter.all false
set_option maxRecDepth 20000
set_option maxHeartbeats 40000000
namespace Go.Proofs.YtpaihpeoiliioaaGreat
open Go.RowKit Old
structure CfB(c:Cf)(bal:List U):Prop where
 ok:CfOk c bal
 nl:c.nl<=14
 ol:c.ol<=8
 el:c.el<=8
 tl:c.tl<=8
 bal:1<=bal.length/\bal.length<=6
 gr:RtOk c.gen
theorem Aj2{c:Cf}{bal:List U}(h:CfB c bal):SI 0 (newS c bal) where
 t:=TI.one (genB c) h.ok.gen
 spe:=⟨h.ok.spe.1,h.ok.spe.2⟩
 nl:=⟨h.ok.nl.1,h.nl⟩
 ol:=⟨h.ok.ol.1,h.ol⟩
 el:=⟨h.ok.el.1,h.el⟩
 tl:=⟨h.ok.tl.1,h.tl⟩
 bp:=h.ok.bp
 bal:=h.bal
 lat:=by show(List.replicate bal.length vo0).length=bal.length;simp
 just:=⟨0,Nat.zero_lt_one,rfl,by show(1:Int)≠2;decide⟩
 fin:=⟨Nat.zero_lt_one,rfl⟩
 ord:=fun n hn=>by
  have:n=⟨genB c,-1,1⟩:=by simpa [newS]using hn
  subst this
  refine⟨?_,Nat.zero_le _⟩
  have e1:=h.ok.spe.1
  unfold ordrd
  simp[genB,newS,u0,epN,b0,st0]
 tab:=⟨⟨⟨u0,c.gen⟩,bal⟩,by simp[newS],rfl⟩
 tbs:=fun t ht=>by
  have:t=⟨⟨u0,c.gen⟩,bal⟩:=by simpa [newS]using ht
  subst this
  exact h.ok.sum
 att:=fun a ha=>by cases ha
 eqv:=Nat.zero_le _
 now:=Nat.le_refl _
 cf:=h.ok
 lv:=fun v hv _=>List.eq_of_mem_replicate hv
 eqr:=fun x hx=>by cases hx
 eqa:=List.Pairwise.nil
 asc:=List.pairwise_singleton _ _
 rtn:=fun n hn=>by
  have:n=⟨genB c,-1,1⟩:=by simpa [newS]using hn
  subst this
  exact h.gr
 rto:=fun b hb=>by cases hb
def begZ(c:Cf)(bal:List U):Zst:=emtZ {zs0 with s:=newS c bal,ntag:=⟨1,by decide⟩}
theorem Aq7{c:Cf}{bal:List U}(h:CfB c bal):ZI 0 (begZ c bal):=
 ZI.emt ⟨Aj2 h,Nat.le_refl _,Nat.le_refl _,fun q hq=>by rcases hq with hq|hq<;>cases hq⟩
theorem stZs:StrT Tryz.prog 54 [(0,150),(150,1),(151,1),(152,1),(153,1),(154,96),(250,1),(251,1)] (zsP zs0 zx0) zsL:=Aa9 Tryz.underlying54 (by kernel_rfl) (by kernel_rfl) (AaH _ _)
theorem AoV(s:Sto)(v:Sls)(t:U):Tryz.prog.built 54 [(0,.agg (fl (stP s v)).toArray),(3,.int .u64 (t.n:Int))]=some (fl (zsP {zs0 with s:=s,ntag:=t} {zx0 with s:=v})).toArray:=by
 rw[stZs.eq]
 refine AaG (Q:=stP s v) stZs.len rfl rfl rfl (AaD s v) rfl fun hl=>?_
 refine AaG (Q:=[[.int .u64 (t.n:Int)]]) hl rfl rfl rfl rfl rfl fun hl=>?_
 rfl
theorem Aqv{Γ:Gam}{x:Zls}{z:Zst}(h:ZsG Γ x z):ZsG Γ x (emtZ z):=by
 unfold emtZ
 split
 .exact h
 .exact⟨h.s,h.reqs,h.rets⟩
def StpP(Γ:Gam)(w:World)(k:Nat)(e:Ending)(w':World):Prop:=∃(z':Zst) (x':Zls) (Γ':Gam) (A:Option Addr) (n c:Nat) (L:List Cm) (er:Int),e=.returned (.tuple #[.agg (fl (zsP z' x')).toArray,.slice A n c,.int .i64 er])/\n=L.length/\CapOk A n c/\SlG Γ' A n (L.flatMap cmx)/\ZsG Γ' x' z'/\ZI k z'/\Ext Γ w Γ' w'
def BegP(Γ:Gam)(w:World)(z:Zst)(e:Ending)(w':World):Prop:=∃(x':Zls) (Γ':Gam) (A:Option Addr) (n cc:Nat) (L:List Cm),e=.returned (.tuple #[.agg (fl (zsP z x')).toArray,.slice A n cc,.int .i64 0])/\n=L.length/\CapOk A n cc/\SlG Γ' A n (L.flatMap cmx)/\ZsG Γ' x' z/\Ext Γ w Γ' w'
theorem AnQ(Γ:Gam)(c:Cf)(sb:Sl)(bal:List U)(hc:CfB c bal)(w:World)(ok:Ok Γ w)(h:SlR Γ sb bal.length (us bal)) :
  Calls Tryz.prog 47 #[.agg (fl (cfP c sb)).toArray] w (BegP Γ w (begZ c bal)):=by
 have M:=bx (MM.start ok)
 have NW:=bx (fun w ok=>new_any Γ c sb bal hc.ok w ok h)
 have hw:WOk (newS c bal):=(Aj2 hc).wok (Nat.zero_le _)
 obtain⟨z0,hz0⟩:∃z0:Zst,z0 = {zs0 with s:=newS c bal,ntag:=⟨1,by decide⟩}:=⟨_,rfl⟩
 rw[show begZ c bal=emtZ z0 by rw[hz0];rfl]
 have HW:Bx (WOk z0.s):=⟨by rw[hz0];exact hw⟩
 have BB:Bx (∀v,Tryz.prog.built 54 [(0,.agg (fl (stP (newS c bal) v)).toArray),(3,.int .u64 1)]=some (fl (zsP z0 {zx0 with s:=v})).toArray):=⟨fun v=>by rw[hz0];exact AoV _ v ⟨1,by decide⟩⟩
 have HG0:Bx (∀(Γ:Gam) v,StG Γ v (newS c bal)->ZsG Γ {zx0 with s:=v} z0):=⟨fun Γ v hv=>by rw[hz0];exact⟨hv,slR0 _,slR0 _⟩⟩
 clear ok h hc hw hz0
 generalize newS c bal=s0 at *
 go_enter Tryz.func47,Tryz.ntmps47
 (go_wp2_with (first|((first|refine zBXd ?_|refine zALd (ztZs) ?_);clear M;intro w' g M)|refine zLAd ?_))
 refine(NW.o _ M.ok).mono ?_
 rintro e w1 ⟨v,Γ1,rfl,hv,hx⟩
 replace M:=bx (M.o.call hx)
 have HZ0:=bx (HG0.o Γ1 v hv)
 clear hx hv NW HG0
 have EM:=bx (fun w ok=>AkP Γ1 z0 {zx0 with s:=v} HW.o w ok HZ0.o)
 clear HW
 (go_wp2_with (first|(refine zALd (ztSt) ?_;clear M;intro w' g M)|(refine zSSd M 0 (stP s0 v) (stP s0 v) (AaD _ _) (Aaa _ _) ?_;clear M;intro w' M)|refine zBDd 54 [(0,.agg (fl (stP s0 v)).toArray),(3,.int .u64 1)] (fl (zsP z0 {zx0 with s:=v})) (BB.o v) ?_|refine zLAd ?_))
 refine(EM.o _ M.ok).mono ?_
 rintro e w2 ⟨A,cc,Γ2,rfl,hA,hL,hx⟩
 replace M:=bx (M.o.call hx)
 have HL:=bx (And.intro hA hL)
 have HZ1:=bx (Aqv (HZ0.o.mono hx.le))
 clear hx hA hL EM HZ0 BB
 generalize {zx0 with s:=v}=x0' at *
 (go_wp2_with (first|(refine zALd (ztZs) ?_;clear M;intro w' g M)|((first|refine zSSd M 0 (zsP (emtZ z0) x0') (zsP (emtZ z0) x0') (AaH _ _) (AaP _ _) ?_|refine zSSd M 2 (zsP (emtZ z0) x0') (zsP (emtZ z0) x0') (AaH _ _) (AaP _ _) ?_);clear M;intro w' M)|refine zLAd ?_))
 (try refine zsm ?_);refine bodyPost_ret (Aaz (by rfl) _ M.o.at2 (by rfl) rtZs rfl) rfl ?_
 exact⟨x0',Γ2,A,_,cc,emtL z0,rfl,rfl,HL.o.1,HL.o.2,HZ1.o,M.o.ext⟩
theorem Aiz(x:Int):∃u:U,IntKind.u64.wrap x=(u.n:Int):=by
 refine⟨⟨(IntKind.u64.wrap x).toNat,?_⟩,?_⟩
 .simp[IntKind.wrap,IntKind.bits,IntKind.signed];omega
 .simp[IntKind.wrap,IntKind.bits,IntKind.signed];omega
def CpoP(Γ:Gam)(w:World)(e:Ending)(w':World):Prop:=∃c:Cp,e=.returned (.agg (fl (cpP c)).toArray)/\Ext Γ w Γ w'
theorem AnJ(e:U)(r:Rt):Tryz.prog.built 37 [(0,.int .u64 (e.n:Int)),(1,.agg (rc r).toArray)]=some (fl (cpP ⟨e,r⟩)).toArray:=by
 have stCpp:StrT Tryz.prog 37 [(0,1),(1,32)] (cpP cp0) [1,32]:=Aa9 Tryz.underlying37 (by kernel_rfl) (by kernel_rfl) (AaC _)
 rw[stCpp.eq]
 refine AaG (Q:=[[.int .u64 (e.n:Int)]]) stCpp.len rfl rfl rfl rfl rfl fun hl=>?_
 refine AaG (Q:=[rc r]) hl rfl rfl rfl (lenR r) rfl fun hl=>?_
 rfl
theorem Aje(Γ:Gam)(s:Sto)(v:Sls)(hk:Lk (upsN s.nodes))(hb:s.nodes.length<=4096)(i:Int)(e:U)(w:World)(ok:Ok Γ w)(h:StG Γ v s) :
  Calls Tryz.prog 120 #[.agg (fl (stP s v)).toArray,.int .i64 i,.int .u64 (e.n:Int)] w (CpoP Γ w):=by
 have M:=bx (MM.start ok)
 have HG:=bx h
 have LN:=bx h.nodes.n
 obtain⟨m,hm⟩:=Aiz ((e.n:Int)*(s.c.spe.n:Int))
 have AT:=bx (fun w ok=>AjN Γ v.nodes s.nodes i m w ok h.nodes hk hb)
 have AC:=bx (Aip hk i m)
 clear ok h hk
 generalize atI s.nodes i m=j at *
 rcases AC.o with rfl|⟨k,hkl,rfl⟩
 .go_enter Tryz.func120,Tryz.ntmps120
  (go_wp2_with (first|((first|refine zBXd ?_|refine zALd (Agw) ?_);clear M;intro w' g M)|refine zLAd ?_))
  refine zCA M (AT.o _ M.ok) ?_;clear M;intro w1 M
  (go_wp2_with (first|(refine zSSd M 0 (cpP s.fin) (cpP s.fin) (AaC _) (AaO _) ?_;clear M;intro w' M)|refine zLAd ?_))
  refine zR M.o.at0 ?_
  exact⟨s.fin,rfl,M.o.ext⟩
 .obtain⟨gn,hA,hf⟩:=HG.o.nodes.fz (f:=noP) (k:=240) AaK rfl k hkl
  have HA:=bx hA
  have F1:=bx hf
  have hki:(k:Int)<(v.nodes.n:Int):=by rw[LN.o];omega
  have hk0:0<=(k:Int):=by omega
  have hkn:¬(k:Int)<0:=by omega
  clear hA hf AC
  generalize s.nodes[k]=y at *
  have BK:=bx (AnJ e y.b.root)
  go_enter Tryz.func120,Tryz.ntmps120
  (go_wp2_with (first|((first|refine zBXd ?_|refine zALd (Agw) ?_);clear M;intro w' g M)|refine zLAd ?_))
  refine zCA M (AT.o _ M.ok) ?_;clear M;intro w1 M
  (go_wp2_with (first|refine zLHd HA ?_|refine zRFd F1 ?_|refine zBDd 37 [(0,.int .u64 (e.n:Int)),(1,.agg (rc y.b.root).toArray)] (fl (cpP ⟨e,y.b.root⟩)) BK.o ?_|(refine zSSd M 0 (cpP ⟨e,y.b.root⟩) (cpP ⟨e,y.b.root⟩) (AaC _) (AaO _) ?_;clear M;intro w' M)|refine zLAd ?_))
  refine zR M.o.at0 ?_
  exact⟨⟨e,y.b.root⟩,rfl,M.o.ext⟩
end Go.Proofs.YtpaihpeoiliioaaGreat
