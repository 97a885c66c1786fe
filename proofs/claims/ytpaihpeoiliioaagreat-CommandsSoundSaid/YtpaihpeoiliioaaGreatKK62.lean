/- Texts joined (KK62). -/
import Derived.Test.YtpaihpeoiliioaaGreatKK60
set_option linter.all false
set_option maxRecDepth 20000
set_option maxHeartbeats 40000000
namespace Go.Proofs.YtpaihpeoiliioaaGreat
open Go.RowKit Old
theorem commandsSound_walk(a0:Option Addr)(n0 c0:Nat)(l0:List Int)(w:World)(_:Fit .i64 l0)(_:l0.length=n0)(hr0:Row w w.heap.size 1 a0 n0 (ints .i64 l0))(hnc0:n0<=c0)(hcm0:c0<=maxLen) :
  Calls Tryz.prog 5 #[.slice a0 n0 c0] w fun e w'=>e=.returned (.bool true)/\Below w.heap.size w w':=by
 have M:=bx (MM.start (AiD w))
 have ST:=bx (Agf g0 a0 n0 c0 l0 w (AiD w) hr0 (Nat.le_trans hnc0 hcm0))
 clear hr0 hnc0 hcm0
 go_enter Tryz.func5,Tryz.ntmps5
 (go_wp2_with (first|go_skip|(refine zBXd ?_;clear M;intro w' g M)|fail|refine zLAd ?_))
 refine ST.o.mono ?_
 rintro e1 w1 ⟨x,z,Γ1,rfl,hz,hg,hx⟩
 replace M:=bx (M.o.call hx)
 have H:=bx (HOk.mk hz.s (by decide) hg.s)
 obtain⟨o,j,m,hsn⟩:=hz.s.snd (by decide)
 have SN:=bx hsn
 clear hx hz hg ST hsn
 go_upto_region 2 with(first|go_skip|((refine zALd (ztZs) ?_;clear M;intro w' g M);(obtain⟨g3,hg0⟩:∃y,y=g:=⟨_,rfl⟩);subst hg0)|(refine zSSd M 0 (zsP z x) (zsP z x) (AaH _ _) (AaP _ _) ?_;clear M;intro w' M)|refine zLAd ?_)
 (go_wp2_with (first|go_skip|(refine zBXd ?_;clear M;intro w' g M)|fail|refine zLAd ?_))
 refine(Ail Γ1 z.s x.s _ H.o _ M.ok).mono ?_
 rintro e1 w1 ⟨rfl,hx⟩
 replace M:=bx (M.o.call hx)
 clear hx
 rw[SN.o.c]
 obtain⟨gn,hA,hf⟩:=H.o.g.nodeAt m SN.o.hm
 obtain⟨gn',hA',hf0⟩:=H.o.g.nodeAt o SN.o.h0
 obtain⟨gn'',hA'',hfj⟩:=H.o.g.nodeAt j SN.o.hj
 obtain rfl:gn'=gn:=by rw[hA]at hA';injection hA' with h;injection h with h;injection h with h;exact h.symm
 obtain rfl:gn''=gn':=by rw[hA]at hA'';injection hA'' with h;injection h with h;injection h with h;exact h.symm
 have HA:=bx hA
 have F1:=bx hf
 have F0:=bx hf0
 have FJ:=bx hfj
 have FM:=bx (fun w ok=>Aag Γ1 x.s.nodes z.s.nodes (z.s.nodes[m]'SN.o.hm).b.root w ok H.o.g.nodes)
 have FF:=bx (fun w ok=>Aag Γ1 x.s.nodes z.s.nodes z.s.fin.r w ok H.o.g.nodes)
 have FR:=bx (fun w ok=>Aag Γ1 x.s.nodes z.s.nodes z.s.just.r w ok H.o.g.nodes)
 have IA:=bx (fun a b w ok=>AeT Γ1 x.s.nodes z.s.nodes a b w ok H.o.g.nodes H.o.si.t.lk H.o.nb)
 have I1:=bx (fun w ok=>IA.o (o:Int) (m:Int) w ok)
 have I2:=bx (fun w ok=>IA.o (j:Int) (m:Int) w ok)
 have I3:=bx (fun w ok=>IA.o (o:Int) (j:Int) w ok)
 rw[SN.o.am]at I1
 rw[SN.o.ajm]at I2
 rw[SN.o.aj]at I3
 rw[SN.o.fm]at FM
 rw[SN.o.f0]at FF
 rw[SN.o.fj]at FR
 have LN:x.s.nodes.n=z.s.nodes.length:=H.o.g.nodes.n
 have SF:=bx SN.o.sf
 have hmi:(m:Int)<(x.s.nodes.n:Int):=by have:=SN.o.hm;omega
 have hji:(j:Int)<(x.s.nodes.n:Int):=by have:=SN.o.hj;omega
 have hoi:(o:Int)<(x.s.nodes.n:Int):=by have:=SN.o.h0;omega
 have hm0:(0:Int)<=(m:Int):=by omega
 have hj0:(0:Int)<=(j:Int):=by omega
 have ho0:(0:Int)<=(o:Int):=by omega
 have do0:decide ((o:Int)<0)=false:=decide_eq_false (by omega)
 have dm:decide ((m:Int)<0)=false:=decide_eq_false (by omega)
 have dj:decide ((0:Int)<=(j:Int))=true:=decide_eq_true (by omega)
 have mi:=SN.o.mi
 have zi:=SN.o.zi
 clear H IA hA hA' hA'' hf hf0 hfj LN
 generalize z.s.nodes[m]'SN.o.hm=ym at *
 generalize z.s.nodes[o]'SN.o.h0=y0 at *
 generalize z.s.nodes[j]'SN.o.hj=yj at *
 clear SN
 generalize safeR z.s=sr at *
 go_upto_region 3 with(first|go_skip|((refine zALd (ztCm) ?_;clear M;intro w' g M);(obtain⟨g4,hg0⟩:∃y,y=g:=⟨_,rfl⟩);subst hg0)|(refine zSSd M 0 (cmP ⟨ym.b.root,sr,z.s.fin.r⟩) (cmP ⟨ym.b.root,sr,z.s.fin.r⟩) (Aai _) (AdT _) ?_;clear M;intro w' M)|refine zLAd ?_)
 have C0:=bx (clsE M.o fun w' ok'=>FM.o w' ok')
 have C1:=bx (clsE M.o fun w' ok'=>FF.o w' ok')
 (go_wp2_with (first|go_skip|(refine zBXd ?_;clear M;intro w' g M)|fail|refine zLAd ?_))
 refine zRG ?_;(repeat(first|go_big_quiet_skip|(go_big_quiet_want;first|((first|refine zQC (AaJ C0.o) Tryz.func24 ?_|refine zQC (AaJ C1.o) Tryz.func24 ?_|refine zQAd ?_);go_big_quiet_on;refine zNM ?_)|(refine zQO ?_;go_big_quiet_on))));(refine zQN ?_;clear M;intro w4 M)
 clear C0 C1 FM FF
 go_upto_region 4 with(first|go_skip|refine zLAd ?_)
 try simp only[List.append_eq,List.cons_append,List.nil_append]
 (go_wp2_with (first|go_skip|(refine zBXd ?_;clear M;intro w' g M)|refine zLHd HA ?_|refine zRFd F1 ?_|refine zRFd F0 ?_|refine zLAd ?_))
 refine zCA M (I1.o _ M.ok) ?_;clear M;intro w1 M
 rcases SF.o with hs|⟨hs,hnz,hst⟩
 .subst hs
  have hq:=Aa5 r0 r0
  rw[decide_eq_true rfl]at hq
  (go_wp2_with (first|go_skip|(refine zBXd ?_;clear M;intro w' g M)|refine zBDd 29 [] (rc r0) (by kernel_rfl) ?_|refine zLAd ?_))
  refine zCB M (awake29_any _) ?_;clear M;intro w1 M
  (go_wp2_with (first|go_skip|(refine zBXd ?_;clear M;intro w' g M)|fail|refine zLAd ?_))
  go_ret
  exact⟨rfl,M.bel⟩
 .subst hs
  have hq:=Aa5 z.s.just.r r0
  rw[decide_eq_false hnz]at hq
  have b1:(yj.st==1)=true:=by rw[hst];rfl
  (go_wp2_with (first|go_skip|(refine zBXd ?_;clear M;intro w' g M)|refine zBDd 29 [] (rc r0) (by kernel_rfl) ?_|refine zLAd ?_))
  refine zCA M (FR.o _ M.ok) ?_;clear M;intro w1 M
  go_upto_region 9 with(first|go_skip|refine zLAd ?_)
  try simp only[List.append_eq,List.cons_append,List.nil_append]
  (go_wp2_with (first|go_skip|(refine zBXd ?_;clear M;intro w' g M)|refine zLHd HA ?_|refine zRFd FJ ?_|refine zLAd ?_))
  refine zCA M (I2.o _ M.ok) ?_;clear M;intro w1 M
  (go_wp2_with (first|go_skip|(refine zBXd ?_;clear M;intro w' g M)|fail|refine zLAd ?_))
  refine zCA M (I3.o _ M.ok) ?_;clear M;intro w1 M
  (go_wp2_with (first|go_skip|(refine zBXd ?_;clear M;intro w' g M)|fail|refine zLAd ?_))
  refine zCB M (awake29_any _) ?_;clear M;intro w1 M
  (go_wp2_with (first|go_skip|(refine zBXd ?_;clear M;intro w' g M)|fail|refine zLAd ?_))
  go_ret
  exact⟨rfl,M.bel⟩
end Go.Proofs.YtpaihpeoiliioaaGreat
