/- Texts joined: what the walks of this claim stand on (part 27 of 43). -/
import Derived.Test.YtmgeheaneohldaaGreatYK25
set_option linter.all false
set_option maxRecDepth 20000
set_option maxHeartbeats 40000000
namespace Go.Proofs.YtmgeheaneohldaaGreat
open Go.RowKit Go.Proofs.YtmgeheaneohldaaGreat.Old
def kRt:List Value:=(List.replicate 32 [Value.int .u8 0]).flatten
def kCm:List Value:=kRt++(kRt++kRt)
theorem eqCm:EqT Tryz.prog 3 52 kCm:=by
 refine EqT.struct Tryz.underlying52 (by kernel_rfl) (by kernel_rfl) (by kernel_rfl) ?_
 refine⟨kRt,kRt++kRt,rfl,by decide,rfl,Adi,?_⟩
 refine⟨kRt,kRt,rfl,by decide,rfl,Adi,?_⟩
 exact⟨kRt,[],by simp,by decide,rfl,Adi,rfl⟩
theorem Fits.app2:∀{K l K' l':List Value},Fits K l->K.length=l.length->Fits K' l'->Fits (K++K') (l++l')
 |[],[],_,_,_,_,h=>h
 |[],_::_,_,_,_,h,_=>by simp at h
 |_::_,[],_,_,_,h,_=>by simp at h
 |k::K,v::l,K',l',h1,h2,h3=>⟨h1.1,Fits.app2 (K:=K) (l:=l) h1.2 (by simpa using h2) h3⟩
theorem Adw(c:Cm):(fl (cmP c)).length=96:=AbA (AbF c)
theorem Aji(c:Cm):Fits kCm (fl (cmP c)):=by
 show Fits (kRt++(kRt++kRt)) (rc c.head++(rc c.safe++rc c.fin))
 have hk:∀r:Rt,kRt.length=(rc r).length:=fun r=>by rw[Aax];rfl
 exact Fits.app2 (Ab2 c.head.len) (hk _) (Fits.app2 (Ab2 c.safe.len) (hk _) (Ab2 c.fin.len))
theorem AnA{a b:Cm}:fl (cmP a)=fl (cmP b)↔a=b:=by
 refine⟨fun h=>?_,fun h=>h▸rfl⟩
 have h':rc a.head++(rc a.safe++rc a.fin)=rc b.head++(rc b.safe++rc b.fin):=h
 obtain⟨h1,h2⟩:=List.append_inj h' (by rw[Aax,Aax])
 obtain⟨h3,h4⟩:=List.append_inj h2 (by rw[Aax,Aax])
 cases a;cases b
 simp only[AeV]at h1 h3 h4
 simp[h1,h3,h4]
theorem AmM(a b:Cm)(w:World):(Op.equalIn 10000 52 (.agg (fl (cmP a)).toArray) (.agg (fl (cmP b)).toArray)).run Tryz.prog w=.ok (decide (a=b)) w:=
 eqCm.same (by omega) (AbV Tryz.underlying52) (Aad Tryz.underlying52) (Aji a) (Aji b) (by rw[Adw];rfl) (by rw[Adw];rfl) (by simp[AnA]) w
abbrev cmx(c:Cm):List Value:=fl (cmP c)
def emtZ(z:Zst):Zst:=if z.sent=true/\z.last=z.s.cmd then z else {z with sent:=true,last:=z.s.cmd}
def emtL(z:Zst):List Cm:=if z.sent=true/\z.last=z.s.cmd then []else [z.s.cmd]
def EmtP(Γ:Gam)(w:World)(z:Zst)(x:Zls)(e:Ending)(w':World):Prop:=∃(A:Option Addr) (c:Nat) (Γ':Gam),e=.returned (.tuple #[.agg (fl (zsP (emtZ z) x)).toArray,.slice A (emtL z).length c])/\CapOk A (emtL z).length c/\SlG Γ' A (emtL z).length ((emtL z).flatMap cmx)/\Ext Γ w Γ' w'
theorem elCm:ElT Tryz.prog 115 52 96 96:=AcX Tryz.underlying115 (by kernel_rfl) (by decide) (by decide)
theorem Ah7(Γ:Gam)(z:Zst)(x:Zls)(hw:WOk z.s)(w:World)(ok:Ok Γ w)(h:ZsG Γ x z) :
  Calls Tryz.prog 94 #[.agg (fl (zsP z x)).toArray] w (EmtP Γ w z x):=by
 have M:=bx (MM.start ok)
 have CD:=bx (fun w ok=>AhY Γ z.s x.s hw w ok h.s)
 clear ok h hw
 obtain⟨cmd,hcmd⟩:∃c,z.s.cmd=c:=⟨_,rfl⟩
 have HC:=bx hcmd
 rw[hcmd]at CD
 clear hcmd
 cases hs:z.sent with
 |false=>
  have HT:Bx (Value.bool z.sent=.bool false):=⟨by rw[hs]⟩
  have HY:Bx (emtZ z = {z with sent:=true,last:=cmd}/\emtL z = [cmd]):=⟨by have h:¬(z.sent=true/\z.last=z.s.cmd):=(by rw[HC.out];exact fun h=>by rw[hs]at h;cases h.1);unfold emtZ emtL;rw[if_neg h,if_neg h,HC.out];exact⟨rfl,rfl⟩⟩
  clear hs
  unfold EmtP
  rw[HY.out.1,HY.out.2]
  go_enter Tryz.func94,Tryz.ntmps94
  (go_wp2_with (first|go_skip|(refine zBXo ?_;clear M;intro w' g M)|(refine zALo (ztZs) ?_;clear M;intro w' g M)|(refine zALo (ztCm) ?_;clear M;intro w' g M)|fail|refine zLAo ?_))
  refine zCA M (CD.out _ M.ok) ?_;clear M;intro w1 M
  go_upto_region 4 with(first|go_skip|(refine zALo (ztCm) ?_;clear M;intro w' g M)|refine zLHo HT ?_|refine zLAo ?_|(refine zSSo M 0 (cmP cmd) (cmP cmd) (AbF _) (AfQ _) ?_;clear M;intro w' M))
  (go_wp2_with (first|go_skip|(refine zBXo ?_;clear M;intro w' g M)|(refine zALo (ztZs) ?_;clear M;intro w' g M)|(refine zALo (ztCm) ?_;clear M;intro w' g M)|fail|refine zLAo ?_))
  refine AaH (fun w'=>HL w' g (cmP cmd) [32,32,32]) (.steps [(0,0),(1,1),(3,2),(1,3),(3,4)] .leaf) (by kernel_rfl) (by kernel_rfl) M.out.drew.at0 ?_;(simp only[MixT7,MT.steps,stepI,List.getD_cons_zero,List.getD_cons_succ]);replace M:=bx (M.out.drew)
  refine zNM ?_
  (repeat(first|refine zM0 ?_|(go_big_quiet_want;first|(refine zQL (fun _ h=>h) (AbF cmd) ?_;go_big_quiet_on;refine zNM ?_)|(refine zQO ?_;go_big_quiet_on))))
  refine AbL M.out 2 (.bool true) (zsP {z with sent:=true} x) rfl rfl rfl rfl AjD rfl rfl rfl rfl rfl rfl ?_
  intro w7 M'
  simp only[List.set_cons_zero,List.set_cons_succ]at M'
  (replace M:=bx M';clear M')
  refine zNM ?_
  refine⟨M.out.at0,?_⟩
  refine zMR7 ?_
  refine zXS M 2 (cmP cmd) (zsP {z with sent:=true,last:=cmd} x) (AbF _) (AfQ _) ?_;clear M;intro w7 M
  refine⟨M.out.at0,?_⟩
  refine zMR7 ?_
  refine NoPanic.normal ?_
  go_wp2_with fail
  rename_i gz _ _ _ _ _ _
  refine AaH (fun w'=>HL w' g (cmP cmd) [32,32,32]/\HL w' gz (zsP {z with sent:=true,last:=cmd} x) zsL) (.steps [(0,0),(0,1)] (.fork 2 (.steps [(3,3),(1,4)] .leaf) 3 (.steps [(2,2),(1,4)] .leaf))) (by kernel_rfl) (by kernel_rfl) ⟨M.out.drew.at0,M.out.drew.at2⟩ ?_;(simp only[MixT7,MT.steps,stepI,List.getD_cons_zero,List.getD_cons_succ]);replace M:=bx (M.out.drew)
  refine zNM ?_
  (repeat(first|refine zM0 ?_|(go_big_quiet_want;first|((with_reducible apply AaP (fun _ h=>h.1) (AbF cmd));rfl;rfl;exact zrts;rfl;rfl;go_big_quiet_on;refine zNM ?_)|((with_reducible apply AaN (fun _ h=>h.1));rfl;rfl;exact zots;rfl;rfl;go_big_quiet_on;refine zNM ?_)|((with_reducible apply AaM (fun _ h=>h.1) (AbF cmd));rfl;rfl;exact zrts;rfl;refine zCT ?_;go_big_quiet_on;refine zNM ?_)|((with_reducible apply AaP (fun _ h=>h.2) (AaL _ _));rfl;rfl;exact zrts;rfl;rfl;go_big_quiet_on;refine zNM ?_)|((with_reducible apply AaN (fun _ h=>h.2));rfl;rfl;exact zots;rfl;rfl;go_big_quiet_on;refine zNM ?_)|((with_reducible apply AaM (fun _ h=>h.2) (AaL _ _));rfl;rfl;exact zrts;rfl;refine zCT ?_;go_big_quiet_on;refine zNM ?_)|(refine zQO ?_;go_big_quiet_on))))
  refine⟨?_,?_⟩
  .refine AaB (Aa3 elCm rfl rfl (v:=.agg (fl (cmP cmd)).toArray) (cs:=fl (cmP cmd)) rfl (Adw _)) rfl ?_
   replace M:=bx (M.out.alloc (P:=cmP cmd) (ls:=[32,32,32]) (AbF _) rfl 52)
   refine zNM ?_
   refine⟨⟨M.out.at1,M.out.at3⟩,?_⟩
   refine zMR7 ?_
   refine zXS M 2 (zsP {z with sent:=true,last:=cmd} x) (zsP {z with sent:=true,last:=cmd} x) (AaL _ _) (AaS _ _) ?_;clear M;intro w7 M
   refine⟨⟨M.out.at1,M.out.at3⟩,?_⟩
   refine zMR7 ?_
   refine NoPanic.normal ?_
   go_wp2_with fail
   obtain⟨Γ',e1,l1,h4⟩:=M.out.frzL
   (try refine zsm ?_);refine bodyPost_ret (AaR (by rfl) _ h4.at1 (by rfl) rtZs rfl) rfl ?_
   exact⟨_,1,Γ',rfl,⟨Nat.le_refl _,by unfold maxLen;omega,fun h=>(by cases h)⟩,fun _=>⟨_,[],rfl,by rw[e1];simp⟩,h4.ext⟩
  .refine zXS M 1 (zsP {z with sent:=true,last:=cmd} x) (zsP {z with sent:=true,last:=cmd} x) (AaL _ _) (AaS _ _) ?_;clear M;intro w7 M
   refine⟨⟨M.out.at0,M.out.at2⟩,?_⟩
   refine zMR7 ?_
   refine AaB (Aa3 elCm rfl rfl (v:=.agg (fl (cmP cmd)).toArray) (cs:=fl (cmP cmd)) rfl (Adw _)) rfl ?_
   replace M:=bx (M.out.alloc (P:=cmP cmd) (ls:=[32,32,32]) (AbF _) rfl 52)
   refine zNM ?_
   refine⟨⟨M.out.at1,M.out.at3⟩,?_⟩
   refine zMR7 ?_
   refine NoPanic.normal ?_
   go_wp2_with fail
   obtain⟨Γ',e1,l1,h4⟩:=M.out.frzL
   (try refine zsm ?_);refine bodyPost_ret (AaR (by rfl) _ h4.at1 (by rfl) rtZs rfl) rfl ?_
   exact⟨_,1,Γ',rfl,⟨Nat.le_refl _,by unfold maxLen;omega,fun h=>(by cases h)⟩,fun _=>⟨_,[],rfl,by rw[e1];simp⟩,h4.ext⟩
 |true=>
  have HT:Bx (Value.bool z.sent=.bool true):=⟨by rw[hs]⟩
  have hq:=AmM z.last cmd
  by_cases he:z.last=cmd
  .rw[decide_eq_true he]at hq
   have HY:Bx (emtZ z=z/\emtL z = []):=⟨by
    have h:z.sent=true/\z.last=z.s.cmd:=⟨hs,by rw[HC.out];exact he⟩
    unfold emtZ emtL
    rw[if_pos h,if_pos h]
    exact⟨rfl,rfl⟩⟩
   clear hs he
   unfold EmtP
   rw[HY.out.1,HY.out.2]
   go_enter Tryz.func94,Tryz.ntmps94
   (go_wp2_with (first|go_skip|(refine zBXo ?_;clear M;intro w' g M)|(refine zALo (ztZs) ?_;clear M;intro w' g M)|(refine zALo (ztCm) ?_;clear M;intro w' g M)|fail|refine zLAo ?_))
   refine zCA M (CD.out _ M.ok) ?_;clear M;intro w1 M
   (go_wp2_with (first|go_skip|(refine zBXo ?_;clear M;intro w' g M)|(refine zALo (ztZs) ?_;clear M;intro w' g M)|(refine zALo (ztCm) ?_;clear M;intro w' g M)|refine zLHo HT ?_|(refine zSSo M 0 (cmP cmd) (cmP cmd) (AbF _) (AfQ _) ?_;clear M;intro w' M)|(refine zSSo M 1 (zsP z x) (zsP z x) (AaL _ _) (AaS _ _) ?_;clear M;intro w' M)|refine zLAo ?_))
   refine zRt M.out.at1 ?_
   exact⟨none,0,Γ,rfl,⟨Nat.le_refl _,Nat.zero_le _,fun _=>rfl⟩,fun h=>absurd h (Nat.lt_irrefl _),M.out.ext⟩
  .rw[decide_eq_false he]at hq
   have HY:Bx (emtZ z = {z with sent:=true,last:=cmd}/\emtL z = [cmd]):=⟨by have h:¬(z.sent=true/\z.last=z.s.cmd):=(by rw[HC.out];exact fun h=>he h.2);unfold emtZ emtL;rw[if_neg h,if_neg h,HC.out];exact⟨rfl,rfl⟩⟩
   clear hs he
   unfold EmtP
   rw[HY.out.1,HY.out.2]
   go_enter Tryz.func94,Tryz.ntmps94
   (go_wp2_with (first|go_skip|(refine zBXo ?_;clear M;intro w' g M)|(refine zALo (ztZs) ?_;clear M;intro w' g M)|(refine zALo (ztCm) ?_;clear M;intro w' g M)|fail|refine zLAo ?_))
   refine zCA M (CD.out _ M.ok) ?_;clear M;intro w1 M
   go_upto_region 4 with(first|go_skip|(refine zALo (ztCm) ?_;clear M;intro w' g M)|refine zLHo HT ?_|refine zLAo ?_|(refine zSSo M 0 (cmP cmd) (cmP cmd) (AbF _) (AfQ _) ?_;clear M;intro w' M))
   (go_wp2_with (first|go_skip|(refine zBXo ?_;clear M;intro w' g M)|(refine zALo (ztZs) ?_;clear M;intro w' g M)|(refine zALo (ztCm) ?_;clear M;intro w' g M)|fail|refine zLAo ?_))
   refine AaH (fun w'=>HL w' g (cmP cmd) [32,32,32]) (.steps [(0,0),(1,1),(3,2),(1,3),(3,4)] .leaf) (by kernel_rfl) (by kernel_rfl) M.out.drew.at0 ?_;(simp only[MixT7,MT.steps,stepI,List.getD_cons_zero,List.getD_cons_succ]);replace M:=bx (M.out.drew)
   refine zNM ?_
   (repeat(first|refine zM0 ?_|(go_big_quiet_want;first|(refine zQL (fun _ h=>h) (AbF cmd) ?_;go_big_quiet_on;refine zNM ?_)|(refine zQO ?_;go_big_quiet_on))))
   refine AbL M.out 2 (.bool true) (zsP {z with sent:=true} x) rfl rfl rfl rfl AjD rfl rfl rfl rfl rfl rfl ?_
   intro w7 M'
   simp only[List.set_cons_zero,List.set_cons_succ]at M'
   (replace M:=bx M';clear M')
   refine zNM ?_
   refine⟨M.out.at0,?_⟩
   refine zMR7 ?_
   refine zXS M 2 (cmP cmd) (zsP {z with sent:=true,last:=cmd} x) (AbF _) (AfQ _) ?_;clear M;intro w7 M
   refine⟨M.out.at0,?_⟩
   refine zMR7 ?_
   refine NoPanic.normal ?_
   go_wp2_with fail
   rename_i gz _ _ _ _ _ _
   refine AaH (fun w'=>HL w' g (cmP cmd) [32,32,32]/\HL w' gz (zsP {z with sent:=true,last:=cmd} x) zsL) (.steps [(0,0),(0,1)] (.fork 2 (.steps [(3,3),(1,4)] .leaf) 3 (.steps [(2,2),(1,4)] .leaf))) (by kernel_rfl) (by kernel_rfl) ⟨M.out.drew.at0,M.out.drew.at2⟩ ?_;(simp only[MixT7,MT.steps,stepI,List.getD_cons_zero,List.getD_cons_succ]);replace M:=bx (M.out.drew)
   refine zNM ?_
   (repeat(first|refine zM0 ?_|(go_big_quiet_want;first|((with_reducible apply AaP (fun _ h=>h.1) (AbF cmd));rfl;rfl;exact zrts;rfl;rfl;go_big_quiet_on;refine zNM ?_)|((with_reducible apply AaN (fun _ h=>h.1));rfl;rfl;exact zots;rfl;rfl;go_big_quiet_on;refine zNM ?_)|((with_reducible apply AaM (fun _ h=>h.1) (AbF cmd));rfl;rfl;exact zrts;rfl;refine zCT ?_;go_big_quiet_on;refine zNM ?_)|((with_reducible apply AaP (fun _ h=>h.2) (AaL _ _));rfl;rfl;exact zrts;rfl;rfl;go_big_quiet_on;refine zNM ?_)|((with_reducible apply AaN (fun _ h=>h.2));rfl;rfl;exact zots;rfl;rfl;go_big_quiet_on;refine zNM ?_)|((with_reducible apply AaM (fun _ h=>h.2) (AaL _ _));rfl;rfl;exact zrts;rfl;refine zCT ?_;go_big_quiet_on;refine zNM ?_)|(refine zQO ?_;go_big_quiet_on))))
   refine⟨?_,?_⟩
   .refine AaB (Aa3 elCm rfl rfl (v:=.agg (fl (cmP cmd)).toArray) (cs:=fl (cmP cmd)) rfl (Adw _)) rfl ?_
    replace M:=bx (M.out.alloc (P:=cmP cmd) (ls:=[32,32,32]) (AbF _) rfl 52)
    refine zNM ?_
    refine⟨⟨M.out.at1,M.out.at3⟩,?_⟩
    refine zMR7 ?_
    refine zXS M 2 (zsP {z with sent:=true,last:=cmd} x) (zsP {z with sent:=true,last:=cmd} x) (AaL _ _) (AaS _ _) ?_;clear M;intro w7 M
    refine⟨⟨M.out.at1,M.out.at3⟩,?_⟩
    refine zMR7 ?_
    refine NoPanic.normal ?_
    go_wp2_with fail
    obtain⟨Γ',e1,l1,h4⟩:=M.out.frzL
    (try refine zsm ?_);refine bodyPost_ret (AaR (by rfl) _ h4.at1 (by rfl) rtZs rfl) rfl ?_
    exact⟨_,1,Γ',rfl,⟨Nat.le_refl _,by unfold maxLen;omega,fun h=>(by cases h)⟩,fun _=>⟨_,[],rfl,by rw[e1];simp⟩,h4.ext⟩
   .refine zXS M 1 (zsP {z with sent:=true,last:=cmd} x) (zsP {z with sent:=true,last:=cmd} x) (AaL _ _) (AaS _ _) ?_;clear M;intro w7 M
    refine⟨⟨M.out.at0,M.out.at2⟩,?_⟩
    refine zMR7 ?_
    refine AaB (Aa3 elCm rfl rfl (v:=.agg (fl (cmP cmd)).toArray) (cs:=fl (cmP cmd)) rfl (Adw _)) rfl ?_
    replace M:=bx (M.out.alloc (P:=cmP cmd) (ls:=[32,32,32]) (AbF _) rfl 52)
    refine zNM ?_
    refine⟨⟨M.out.at1,M.out.at3⟩,?_⟩
    refine zMR7 ?_
    refine NoPanic.normal ?_
    go_wp2_with fail
    obtain⟨Γ',e1,l1,h4⟩:=M.out.frzL
    (try refine zsm ?_);refine bodyPost_ret (AaR (by rfl) _ h4.at1 (by rfl) rtZs rfl) rfl ?_
    exact⟨_,1,Γ',rfl,⟨Nat.le_refl _,by unfold maxLen;omega,fun h=>(by cases h)⟩,fun _=>⟨_,[],rfl,by rw[e1];simp⟩,h4.ext⟩
end Go.Proofs.YtmgeheaneohldaaGreat
