/- Texts joined: what the walks of this claim stand on (part 22 of 43). -/
import Derived.Test.YtmgeheaneohldaaGreatYK3
set_option linter.all false
set_option maxRecDepth 20000
set_option maxHeartbeats 40000000
namespace Go.Proofs.YtmgeheaneohldaaGreat
open Go.RowKit
theorem AbK(Γ:Gam)(s:Sto)(v:Sls)(i:Int)(hs:SpeOk s)(w:World)(ok:Ok Γ w)(h:StG Γ v s) :
  Calls Tryz.prog 18 #[.agg (fl (stP s v)).toArray,.int .i64 i] w fun e w'=>e=.returned (.bool (s.qual i))/\Ext Γ w Γ w':=by
 have M:=bx (MM.start ok)
 have LN:=bx h.nodes.n
 have SO:=bx (fun w ok=>Acc Γ s v i hs w ok h)
 have EP:=bx (fun(Γ:Gam) (w:World) ok=>AfE Γ s v s.now hs w ok)
 clear ok
 rcases Adc s i with⟨h1,h2⟩|⟨k,hk,rfl,h1,h2⟩
 .have HR:Bx (s.qual i=false):=⟨by unfold Sto.qual;rw[h2]⟩
  have hni:i<0\/(0<=i/\(v.nodes.n:Int)<=i):=by have:=of_decide_eq_false h1;rw[LN.out];omega
  clear h1 h2 h SO EP
  rcases hni with hi|⟨hi,hi2⟩
  .go_enter Tryz.func18,Tryz.ntmps18
   go_wp2_with (first|go_skip|(refine zBYo (AaD s v) ?_;clear M;intro w' g M)|refine zLDo (M.out.at0) ?_)
   go_ret
   exact⟨by rw[HR.out];rfl,M.out.ext⟩
  .have hd:decide (i<0)=false:=by simp;omega
   go_enter Tryz.func18,Tryz.ntmps18
   go_wp2_with (first|go_skip|(refine zBYo (AaD s v) ?_;clear M;intro w' g M)|refine zLDo (M.out.at0) ?_)
   go_ret
   exact⟨by rw[HR.out];rfl,M.out.ext⟩
 .have HS:Bx (s.src (k:Int)=s.srcN s.nodes[k]):=⟨by unfold Sto.src;rw[h2]⟩
  have HQ:Bx (s.qual (k:Int)=s.qualN s.nodes[k]):=⟨by unfold Sto.qual;rw[h2]⟩
  rw[HS.out]at SO
  obtain⟨gn,hA,hc⟩:=h.nodes.at (fun x _=>AbW x) k hk
  have HC:=bx hc
  have HA:=bx (AeB hA)
  have hki:(k:Int)<(v.nodes.n:Int):=by rw[h.nodes.n];omega
  have hk0:0<=(k:Int):=by omega
  have hd:decide ((k:Int)<0)=false:=by simp
  have hd2:decide (v.nodes.n<=k)=false:=by simp;omega
  clear h1 h2 h hc hs hA HS
  generalize s.nodes[k]=x at *
  by_cases hst:x.st=2
  .have HR:=bx (HQ.out.trans (AdZ hst))
   clear HQ SO EP
   go_enter Tryz.func18,Tryz.ntmps18
   go_wp2_with (first|go_skip|(refine zBYo (AaD s v) ?_;clear M;intro w' g M)|refine zLE M.out.at0 (HA.out) ?_|refine zLDo (M.out.at0) ?_|refine zRD (CL.of HC.out (AaO _) M.ok) ?_)
   go_ret
   exact⟨by rw[HR.out];rfl,M.out.ext⟩
  .have HR:=bx (HQ.out.trans (AeW hst))
   have hst':(x.st==2)=false:=by simpa using hst
   clear HQ
   generalize s.srcN x=c at *
   have hj:=s.just.e.lt
   have hn:=(s.ep s.now).lt
   have hc:=c.e.lt
   by_cases h0:s.just.e.n=0
   .have hi0:(s.just.e.n:Int)=0:=by omega
    have HR':Bx (s.qual (k:Int)=true):=⟨by rw[HR.out];simp[h0]⟩
    clear HR
    (go_enter Tryz.func18,Tryz.ntmps18);(go_wp2_with (first|go_skip|(refine zBYo (AaD s v) ?_;clear M;intro w' g M)|refine zLE M.out.at0 (HA.out) ?_|refine zLDo (M.out.at0) ?_|refine zRD (CL.of HC.out (AaO _) M.ok) ?_));have Q0:=bx M.out.at0.cls;have E1:=bx (clsE M.out fun w ok=>SO.out w ok);have E2:=bx (clsE M.out fun w ok=>EP.out Γ w ok);(refine zRG ?_);(repeat(first|go_big_quiet_skip|(go_big_quiet_want;first|(first|(refine zQL Q0.out (AaD _ _) ?_;go_big_quiet_on;refine zNM ?_)|((with_reducible apply Acq Adh);rfl;rfl;exact AaA _;exact zots;rfl;rfl;go_big_quiet_on;refine zNM ?_)|((with_reducible apply AcS Adh);rfl;rfl;exact AaA _;exact zrts;rfl;refine zCT ?_;go_big_quiet_on;refine zNM ?_)|(refine zQC (AaI E1.out) Tryz.func16 ?_;go_big_quiet_on;refine zNM ?_)|(refine zQC (AaI E2.out) Tryz.func47 ?_;go_big_quiet_on;refine zNM ?_))|(refine zQO ?_;go_big_quiet_on))));((refine zQN ?_;clear M;intro w4 M));clear Q0 E1 E2;(go_wp2_with (first|go_skip|(refine zBYo (AaD s v) ?_;clear M;intro w' g M)|refine zLE M.out.at0 (HA.out) ?_|refine zLDo (M.out.at0) ?_|refine zRD (CL.of HC.out (AaO _) M.ok) ?_))
    go_ret
    exact⟨by rw[HR'.out];rfl,M.out.ext⟩
   .have hi0:((s.just.e.n:Int)==0)=false:=by simp;omega
    by_cases h1:c.e.n=s.just.e.n
    .have hi1:((c.e.n:Int)==(s.just.e.n:Int))=true:=by simp;omega
     have HR':Bx (s.qual (k:Int)=true):=⟨by rw[HR.out];simp[h1]⟩
     clear HR
     (go_enter Tryz.func18,Tryz.ntmps18);(go_wp2_with (first|go_skip|(refine zBYo (AaD s v) ?_;clear M;intro w' g M)|refine zLE M.out.at0 (HA.out) ?_|refine zLDo (M.out.at0) ?_|refine zRD (CL.of HC.out (AaO _) M.ok) ?_));have Q0:=bx M.out.at0.cls;have E1:=bx (clsE M.out fun w ok=>SO.out w ok);have E2:=bx (clsE M.out fun w ok=>EP.out Γ w ok);(refine zRG ?_);(repeat(first|go_big_quiet_skip|(go_big_quiet_want;first|(first|(refine zQL Q0.out (AaD _ _) ?_;go_big_quiet_on;refine zNM ?_)|((with_reducible apply Acq Adh);rfl;rfl;exact AaA _;exact zots;rfl;rfl;go_big_quiet_on;refine zNM ?_)|((with_reducible apply AcS Adh);rfl;rfl;exact AaA _;exact zrts;rfl;refine zCT ?_;go_big_quiet_on;refine zNM ?_)|(refine zQC (AaI E1.out) Tryz.func16 ?_;go_big_quiet_on;refine zNM ?_)|(refine zQC (AaI E2.out) Tryz.func47 ?_;go_big_quiet_on;refine zNM ?_))|(refine zQO ?_;go_big_quiet_on))));((refine zQN ?_;clear M;intro w4 M));clear Q0 E1 E2;(go_wp2_with (first|go_skip|(refine zBYo (AaD s v) ?_;clear M;intro w' g M)|refine zLE M.out.at0 (HA.out) ?_|refine zLDo (M.out.at0) ?_|refine zRD (CL.of HC.out (AaO _) M.ok) ?_))
     go_ret
     exact⟨by rw[HR'.out];rfl,M.out.ext⟩
    .have hi1:((c.e.n:Int)==(s.just.e.n:Int))=false:=by simp;omega
     by_cases h2:(s.ep s.now).n<=c.e.n
     .have hi2:((s.ep s.now).n:Int)<=(c.e.n:Int):=by omega
      have HR':Bx (s.qual (k:Int)=true):=⟨by rw[HR.out];simp[h2]⟩
      clear HR
      (go_enter Tryz.func18,Tryz.ntmps18);(go_wp2_with (first|go_skip|(refine zBYo (AaD s v) ?_;clear M;intro w' g M)|refine zLE M.out.at0 (HA.out) ?_|refine zLDo (M.out.at0) ?_|refine zRD (CL.of HC.out (AaO _) M.ok) ?_));have Q0:=bx M.out.at0.cls;have E1:=bx (clsE M.out fun w ok=>SO.out w ok);have E2:=bx (clsE M.out fun w ok=>EP.out Γ w ok);(refine zRG ?_);(repeat(first|go_big_quiet_skip|(go_big_quiet_want;first|(first|(refine zQL Q0.out (AaD _ _) ?_;go_big_quiet_on;refine zNM ?_)|((with_reducible apply Acq Adh);rfl;rfl;exact AaA _;exact zots;rfl;rfl;go_big_quiet_on;refine zNM ?_)|((with_reducible apply AcS Adh);rfl;rfl;exact AaA _;exact zrts;rfl;refine zCT ?_;go_big_quiet_on;refine zNM ?_)|(refine zQC (AaI E1.out) Tryz.func16 ?_;go_big_quiet_on;refine zNM ?_)|(refine zQC (AaI E2.out) Tryz.func47 ?_;go_big_quiet_on;refine zNM ?_))|(refine zQO ?_;go_big_quiet_on))));((refine zQN ?_;clear M;intro w4 M));clear Q0 E1 E2;(go_wp2_with (first|go_skip|(refine zBYo (AaD s v) ?_;clear M;intro w' g M)|refine zLE M.out.at0 (HA.out) ?_|refine zLDo (M.out.at0) ?_|refine zRD (CL.of HC.out (AaO _) M.ok) ?_))
      go_ret
      exact⟨by rw[HR'.out];rfl,M.out.ext⟩
     .have hi2:¬((s.ep s.now).n:Int)<=(c.e.n:Int):=by omega
      have hwr:IntKind.u64.wrap (((s.ep s.now).n:Int)-(c.e.n:Int))=(((s.ep s.now).n-c.e.n:Nat):Int):=by rw[AdI (by omega) (by omega)];omega
      have HR':Bx (s.qual (k:Int)=decide ((s.ep s.now).n-c.e.n<=2)):=⟨by rw[HR.out];simp[h0,h1,h2]⟩
      clear HR
      (go_enter Tryz.func18,Tryz.ntmps18);(go_wp2_with (first|go_skip|(refine zBYo (AaD s v) ?_;clear M;intro w' g M)|refine zLE M.out.at0 (HA.out) ?_|refine zLDo (M.out.at0) ?_|refine zRD (CL.of HC.out (AaO _) M.ok) ?_));have Q0:=bx M.out.at0.cls;have E1:=bx (clsE M.out fun w ok=>SO.out w ok);have E2:=bx (clsE M.out fun w ok=>EP.out Γ w ok);(refine zRG ?_);(repeat(first|go_big_quiet_skip|(go_big_quiet_want;first|(first|(refine zQL Q0.out (AaD _ _) ?_;go_big_quiet_on;refine zNM ?_)|((with_reducible apply Acq Adh);rfl;rfl;exact AaA _;exact zots;rfl;rfl;go_big_quiet_on;refine zNM ?_)|((with_reducible apply AcS Adh);rfl;rfl;exact AaA _;exact zrts;rfl;refine zCT ?_;go_big_quiet_on;refine zNM ?_)|(refine zQC (AaI E1.out) Tryz.func16 ?_;go_big_quiet_on;refine zNM ?_)|(refine zQC (AaI E2.out) Tryz.func47 ?_;go_big_quiet_on;refine zNM ?_))|(refine zQO ?_;go_big_quiet_on))));((refine zQN ?_;clear M;intro w4 M));clear Q0 E1 E2;(go_wp2_with (first|go_skip|(refine zBYo (AaD s v) ?_;clear M;intro w' g M)|refine zLE M.out.at0 (HA.out) ?_|refine zLDo (M.out.at0) ?_|refine zRD (CL.of HC.out (AaO _) M.ok) ?_))
      go_ret
      exact⟨by rw[HR'.out];go_num,M.out.ext⟩
end Go.Proofs.YtmgeheaneohldaaGreat
