/- Texts joined: what the walks of this claim stand on (part 11). -/
import Derived.Test.YtpaihpeoiliioaaGreatKK5
set_option linter.all false
set_option maxRecDepth 20000
set_option maxHeartbeats 40000000
namespace Go.Proofs.YtpaihpeoiliioaaGreat
open Go.RowKit
theorem AgI(Γ:Gam)(s:Sto)(v:Sls)(i:Int)(hs:SpeOk s)(w:World)(ok:Ok Γ w)(h:StG Γ v s) :
  Calls Tryz.prog 102 #[.agg (fl (stP s v)).toArray,.int .i64 i] w fun e w'=>e=.returned (.bool (s.qual i))/\Ext Γ w Γ w':=by
 have M:=bx (MM.start ok)
 have LN:=bx h.nodes.n
 have SO:=bx (fun w ok=>Aiv Γ s v i hs w ok h)
 have EP:=bx (fun(Γ:Gam) (w:World) ok=>Agc Γ s v s.now hs w ok)
 clear ok
 rcases AeP s i with⟨h1,h2⟩|⟨k,hk,rfl,h1,h2⟩
 .have HR:Bx (s.qual i=false):=⟨by unfold Sto.qual;rw[h2]⟩
  have hni:i<0\/(0<=i/\(v.nodes.n:Int)<=i):=by have:=of_decide_eq_false h1;rw[LN.o];omega
  clear h1 h2 h SO EP
  rcases hni with hi|⟨hi,hi2⟩
  .go_enter Tryz.func102,Tryz.ntmps102
   go_wp2_with (first|go_skip|(refine zBYo (AaD s v) ?_;clear M;intro w' g M))
   go_ret
   exact⟨by rw[HR.o];rfl,M.o.ext⟩
  .have hd:decide (i<0)=false:=by simp;omega
   go_enter Tryz.func102,Tryz.ntmps102
   go_wp2_with (first|go_skip|(refine zBYo (AaD s v) ?_;clear M;intro w' g M)|refine zLDo (M.o.at0) ?_)
   go_ret
   exact⟨by rw[HR.o];rfl,M.o.ext⟩
 .have HS:Bx (s.src (k:Int)=s.srcN s.nodes[k]):=⟨by unfold Sto.src;rw[h2]⟩
  have HQ:Bx (s.qual (k:Int)=s.qualN s.nodes[k]):=⟨by unfold Sto.qual;rw[h2]⟩
  rw[HS.o]at SO
  obtain⟨gn,hA,hc⟩:=h.nodes.at (fun x _=>AbH x) k hk
  have HC:=bx hc
  have HA:=bx (Aei hA)
  have hki:(k:Int)<(v.nodes.n:Int):=by rw[h.nodes.n];omega
  have hk0:0<=(k:Int):=by omega
  have hd:decide ((k:Int)<0)=false:=by simp
  have hd2:decide (v.nodes.n<=k)=false:=by simp;omega
  clear h1 h2 h hc hs hA HS
  generalize s.nodes[k]=x at *
  by_cases hst:x.st=2
  .have HR:=bx (HQ.o.trans (AfZ hst))
   clear HQ SO EP
   go_enter Tryz.func102,Tryz.ntmps102
   go_wp2_with (first|(refine zBYo (AaD s v) ?_;clear M;intro w' g M)|refine zLE M.o.at0 (HA.o) ?_|refine zRD (CL.of HC.o (AaK _) M.ok) ?_)
   go_ret
   exact⟨by rw[HR.o];rfl,M.o.ext⟩
  .have HR:=bx (HQ.o.trans (Ah8 hst))
   have hst':(x.st==2)=false:=by simpa using hst
   clear HQ
   generalize s.srcN x=c at *
   have hj:=s.just.e.lt
   have hn:=(s.ep s.now).lt
   have hc:=c.e.lt
   by_cases h0:s.just.e.n=0
   .have hi0:(s.just.e.n:Int)=0:=by omega
    have HR':Bx (s.qual (k:Int)=true):=⟨by rw[HR.o];simp[h0]⟩
    clear HR
    (go_enter Tryz.func102,Tryz.ntmps102);(go_wp2_with (first|(refine zBYo (AaD s v) ?_;clear M;intro w' g M)|refine zLE M.o.at0 (HA.o) ?_|refine zRD (CL.of HC.o (AaK _) M.ok) ?_));have Q0:=bx M.o.at0.cls;have E1:=bx (clsE M.o fun w ok=>SO.o w ok);have E2:=bx (clsE M.o fun w ok=>EP.o Γ w ok);(refine zRG ?_);(repeat((go_big_quiet_want;first|(first|((first|refine zQL Q0.o (AaD _ _) ?_|((with_reducible apply AeL AiX);rfl;rfl;exact AaC _;exact zots;rfl;rfl)|refine zQC (AaJ E1.o) Tryz.func136 ?_|refine zQC (AaJ E2.o) Tryz.func137 ?_);go_big_quiet_on;refine zNM ?_))|(refine zQO ?_;go_big_quiet_on))));(refine zQN ?_;clear M;intro w4 M);clear Q0 E1 E2;(go_wp2_with (refine zLDo (M.o.at0) ?_))
    go_ret
    exact⟨by rw[HR'.o];rfl,M.o.ext⟩
   .have hi0:((s.just.e.n:Int)==0)=false:=by simp;omega
    by_cases h1:c.e.n=s.just.e.n
    .have hi1:((c.e.n:Int)==(s.just.e.n:Int))=true:=by simp;omega
     have HR':Bx (s.qual (k:Int)=true):=⟨by rw[HR.o];simp[h1]⟩
     clear HR
     (go_enter Tryz.func102,Tryz.ntmps102);(go_wp2_with (first|(refine zBYo (AaD s v) ?_;clear M;intro w' g M)|refine zLE M.o.at0 (HA.o) ?_|refine zRD (CL.of HC.o (AaK _) M.ok) ?_));have Q0:=bx M.o.at0.cls;have E1:=bx (clsE M.o fun w ok=>SO.o w ok);have E2:=bx (clsE M.o fun w ok=>EP.o Γ w ok);(refine zRG ?_);(repeat((go_big_quiet_want;first|(first|((first|refine zQL Q0.o (AaD _ _) ?_|((with_reducible apply AeL AiX);rfl;rfl;exact AaC _;exact zots;rfl;rfl)|refine zQC (AaJ E1.o) Tryz.func136 ?_|refine zQC (AaJ E2.o) Tryz.func137 ?_);go_big_quiet_on;refine zNM ?_))|(refine zQO ?_;go_big_quiet_on))));(refine zQN ?_;clear M;intro w4 M);clear Q0 E1 E2;(go_wp2_with (refine zLDo (M.o.at0) ?_))
     go_ret
     exact⟨by rw[HR'.o];rfl,M.o.ext⟩
    .have hi1:((c.e.n:Int)==(s.just.e.n:Int))=false:=by simp;omega
     by_cases h2:(s.ep s.now).n<=c.e.n
     .have hi2:((s.ep s.now).n:Int)<=(c.e.n:Int):=by omega
      have HR':Bx (s.qual (k:Int)=true):=⟨by rw[HR.o];simp[h2]⟩
      clear HR
      (go_enter Tryz.func102,Tryz.ntmps102);(go_wp2_with (first|(refine zBYo (AaD s v) ?_;clear M;intro w' g M)|refine zLE M.o.at0 (HA.o) ?_|refine zRD (CL.of HC.o (AaK _) M.ok) ?_));have Q0:=bx M.o.at0.cls;have E1:=bx (clsE M.o fun w ok=>SO.o w ok);have E2:=bx (clsE M.o fun w ok=>EP.o Γ w ok);(refine zRG ?_);(repeat((go_big_quiet_want;first|(first|((first|refine zQL Q0.o (AaD _ _) ?_|((with_reducible apply AeL AiX);rfl;rfl;exact AaC _;exact zots;rfl;rfl)|refine zQC (AaJ E1.o) Tryz.func136 ?_|refine zQC (AaJ E2.o) Tryz.func137 ?_);go_big_quiet_on;refine zNM ?_))|(refine zQO ?_;go_big_quiet_on))));(refine zQN ?_;clear M;intro w4 M);clear Q0 E1 E2;(go_wp2_with (refine zLDo (M.o.at0) ?_))
      go_ret
      exact⟨by rw[HR'.o];rfl,M.o.ext⟩
     .have hi2:¬((s.ep s.now).n:Int)<=(c.e.n:Int):=by omega
      have hwr:IntKind.u64.wrap (((s.ep s.now).n:Int)-(c.e.n:Int))=(((s.ep s.now).n-c.e.n:Nat):Int):=by rw[AdS (by omega) (by omega)];omega
      have HR':Bx (s.qual (k:Int)=decide ((s.ep s.now).n-c.e.n<=2)):=⟨by rw[HR.o];simp[h0,h1,h2]⟩
      clear HR
      (go_enter Tryz.func102,Tryz.ntmps102);(go_wp2_with (first|(refine zBYo (AaD s v) ?_;clear M;intro w' g M)|refine zLE M.o.at0 (HA.o) ?_|refine zRD (CL.of HC.o (AaK _) M.ok) ?_));have Q0:=bx M.o.at0.cls;have E1:=bx (clsE M.o fun w ok=>SO.o w ok);have E2:=bx (clsE M.o fun w ok=>EP.o Γ w ok);(refine zRG ?_);(repeat((go_big_quiet_want;first|(first|((first|refine zQL Q0.o (AaD _ _) ?_|((with_reducible apply AeL AiX);rfl;rfl;exact AaC _;exact zots;rfl;rfl)|refine zQC (AaJ E1.o) Tryz.func136 ?_|refine zQC (AaJ E2.o) Tryz.func137 ?_);go_big_quiet_on;refine zNM ?_))|(refine zQO ?_;go_big_quiet_on))));(refine zQN ?_;clear M;intro w4 M);clear Q0 E1 E2;(go_wp2_with (refine zLDo (M.o.at0) ?_))
      go_ret
      exact⟨by rw[HR'.o];go_num,M.o.ext⟩
end Go.Proofs.YtpaihpeoiliioaaGreat
