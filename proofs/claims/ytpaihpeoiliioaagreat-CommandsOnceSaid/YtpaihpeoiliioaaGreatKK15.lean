/- Texts joined: what the walks of this claim stand on (part 15). -/
import Derived.Test.YtpaihpeoiliioaaGreatKK14
set_option linter.all false
set_option maxRecDepth 20000
set_option maxHeartbeats 40000000
namespace Go.Proofs.YtpaihpeoiliioaaGreat
open Go.RowKit Old
def kRt:List Value:=(List.replicate 32 [Value.int .u8 0]).flatten
def kCm:List Value:=kRt++(kRt++kRt)
theorem eqCm:EqT Tryz.prog 3 52 kCm:=by
 refine EqT.struct Tryz.underlying52 (by kernel_rfl) (by kernel_rfl) (by kernel_rfl) ?_
 refine⟨kRt,kRt++kRt,rfl,by decide,rfl,Adf,?_⟩
 refine⟨kRt,kRt,rfl,by decide,rfl,Adf,?_⟩
 exact⟨kRt,[],by simp,by decide,rfl,Adf,rfl⟩
theorem Fits.app2:∀{K l K' l':List Value},Fits K l->K.length=l.length->Fits K' l'->Fits (K++K') (l++l')
 |[],[],_,_,_,_,h=>h
 |[],_::_,_,_,_,h,_=>by simp at h
 |_::_,[],_,_,_,h,_=>by simp at h
 |k::K,v::l,K',l',h1,h2,h3=>⟨h1.1,Fits.app2 (K:=K) (l:=l) h1.2 (by simpa using h2) h3⟩
theorem Acj(c:Cm):(fl (cmP c)).length=96:=AbE (Aai c)
theorem Amh(c:Cm):Fits kCm (fl (cmP c)):=by
 show Fits (kRt++(kRt++kRt)) (rc c.head++(rc c.safe++rc c.fin))
 have hk:∀r:Rt,kRt.length=(rc r).length:=fun r=>by rw[Aav];rfl
 exact Fits.app2 (Ab9 c.head.len) (hk _) (Fits.app2 (Ab9 c.safe.len) (hk _) (Ab9 c.fin.len))
theorem Aqy{a b:Cm}:fl (cmP a)=fl (cmP b)↔a=b:=by
 refine⟨fun h=>?_,fun h=>h▸rfl⟩
 have h':rc a.head++(rc a.safe++rc a.fin)=rc b.head++(rc b.safe++rc b.fin):=h
 obtain⟨h1,h2⟩:=List.append_inj h' (by rw[Aav,Aav])
 obtain⟨h3,h4⟩:=List.append_inj h2 (by rw[Aav,Aav])
 cases a;cases b
 simp only[AfX]at h1 h3 h4
 simp[h1,h3,h4]
theorem AjZ(a b:Cm)(w:World):(Op.equalIn 10000 52 (.agg (fl (cmP a)).toArray) (.agg (fl (cmP b)).toArray)).run Tryz.prog w=.ok (decide (a=b)) w:=
 eqCm.same (by omega) (Aa0 Tryz.underlying52) (AaV Tryz.underlying52) (Amh a) (Amh b) (by rw[Acj];rfl) (by rw[Acj];rfl) (by simp[Aqy]) w
abbrev cmx(c:Cm):List Value:=fl (cmP c)
def emtZ(z:Zst):Zst:=if z.sent=true/\z.last=z.s.cmd then z else {z with sent:=true,last:=z.s.cmd}
def emtL(z:Zst):List Cm:=if z.sent=true/\z.last=z.s.cmd then []else [z.s.cmd]
def EmtP(Γ:Gam)(w:World)(z:Zst)(x:Zls)(e:Ending)(w':World):Prop:=∃(A:Option Addr) (c:Nat) (Γ':Gam),e=.returned (.tuple #[.agg (fl (zsP (emtZ z) x)).toArray,.slice A (emtL z).length c])/\CapOk A (emtL z).length c/\SlG Γ' A (emtL z).length ((emtL z).flatMap cmx)/\Ext Γ w Γ' w'
theorem elCm:ElT Tryz.prog 66 52 96 96:=Abr Tryz.underlying66 (by kernel_rfl) (by decide) (by decide)
theorem AkP(Γ:Gam)(z:Zst)(x:Zls)(hw:WOk z.s)(w:World)(ok:Ok Γ w)(h:ZsG Γ x z) :
  Calls Tryz.prog 16 #[.agg (fl (zsP z x)).toArray] w (EmtP Γ w z x):=by
 have M:=bx (MM.start ok)
 have CD:=bx (fun w ok=>AjV Γ z.s x.s hw w ok h.s)
 clear ok h hw
 obtain⟨cmd,hcmd⟩:∃c,z.s.cmd=c:=⟨_,rfl⟩
 have HC:=bx hcmd
 rw[hcmd]at CD
 clear hcmd
 cases hs:z.sent with
 |false=>
  have HT:Bx (Value.bool z.sent=.bool false):=⟨by rw[hs]⟩
  have HY:Bx (emtZ z = {z with sent:=true,last:=cmd}/\emtL z = [cmd]):=⟨by have h:¬(z.sent=true/\z.last=z.s.cmd):=(by rw[HC.o];exact fun h=>by rw[hs]at h;cases h.1);unfold emtZ emtL;rw[if_neg h,if_neg h,HC.o];exact⟨rfl,rfl⟩⟩
  clear hs
  unfold EmtP
  rw[HY.o.1,HY.o.2]
  go_enter Tryz.func16,Tryz.ntmps16
  (go_wp2_with (first|((first|refine zBXo ?_|refine zALo (ztZs) ?_);clear M;intro w' g M)|refine zLAo ?_))
  refine zCA M (CD.o _ M.ok) ?_;clear M;intro w1 M
  go_upto_region 4 with(first|go_skip|(refine zALo (ztCm) ?_;clear M;intro w' g M)|refine zLHo HT ?_|(refine zSSo M 0 (cmP cmd) (cmP cmd) (Aai _) (AdT _) ?_;clear M;intro w' M))
  (go_wp2_with (fail))
  refine AaF (fun w'=>HL w' g (cmP cmd) [32,32,32]) (.steps [(0,0),(1,1),(3,2),(1,3),(3,4)] .leaf) (by kernel_rfl) (by kernel_rfl) M.o.drew.at0 ?_;(simp only[MixT7,MT.steps,stepI,List.getD_cons_zero,List.getD_cons_succ]);replace M:=bx (M.o.drew)
  refine zNM ?_
  (repeat(first|refine zM0 ?_|(go_big_quiet_want;first|(refine zQL (fun _ h=>h) (Aai cmd) ?_;go_big_quiet_on;refine zNM ?_)|(refine zQO ?_;go_big_quiet_on))))
  refine Aa6 M.o 2 (.bool true) (zsP {z with sent:=true} x) rfl rfl rfl rfl AiC rfl rfl rfl rfl rfl rfl ?_
  intro w7 M'
  simp only[List.set_cons_zero,List.set_cons_succ]at M'
  (replace M:=bx M';clear M')
  refine zNM ?_
  refine⟨M.o.at0,?_⟩
  refine zMR7 ?_
  refine zXS M 2 (cmP cmd) (zsP {z with sent:=true,last:=cmd} x) (Aai _) (AdT _) ?_;clear M;intro w7 M
  refine⟨M.o.at0,?_⟩
  refine zMR7 ?_
  refine NoPanic.normal ?_
  go_wp2_with fail
  rename_i gz _ _ _ _ _ _
  refine AaF (fun w'=>HL w' g (cmP cmd) [32,32,32]/\HL w' gz (zsP {z with sent:=true,last:=cmd} x) zsL) (.steps [(0,0),(0,1)] (.fork 2 (.steps [(3,3),(1,4)] .leaf) 3 (.steps [(2,2),(1,4)] .leaf))) (by kernel_rfl) (by kernel_rfl) ⟨M.o.drew.at0,M.o.drew.at2⟩ ?_;(simp only[MixT7,MT.steps,stepI,List.getD_cons_zero,List.getD_cons_succ]);replace M:=bx (M.o.drew)
  refine zNM ?_
  (repeat(first|refine zM0 ?_|(go_big_quiet_want;first|((first|((with_reducible apply AaI (fun _ h=>h.1) (Aai cmd));rfl;rfl;exact zrts;rfl;refine zCT ?_)|((with_reducible apply AaI (fun _ h=>h.2) (AaH _ _));rfl;rfl;exact zrts;rfl;refine zCT ?_));go_big_quiet_on;refine zNM ?_))))
  refine⟨?_,?_⟩
  focus
   refine AaA (Aau elCm rfl rfl (v:=.agg (fl (cmP cmd)).toArray) (cs:=fl (cmP cmd)) rfl (Acj _)) rfl ?_
   replace M:=bx (M.o.alloc (P:=cmP cmd) (ls:=[32,32,32]) (Aai _) rfl 52)
   refine zNM ?_
   refine⟨⟨M.o.at1,M.o.at3⟩,?_⟩
   refine zMR7 ?_
   refine zXS M 2 (zsP {z with sent:=true,last:=cmd} x) (zsP {z with sent:=true,last:=cmd} x) (AaH _ _) (AaP _ _) ?_;clear M;intro w7 M
  rotate_left
  focus
   refine zXS M 1 (zsP {z with sent:=true,last:=cmd} x) (zsP {z with sent:=true,last:=cmd} x) (AaH _ _) (AaP _ _) ?_;clear M;intro w7 M
   refine⟨⟨M.o.at0,M.o.at2⟩,?_⟩
   refine zMR7 ?_
   refine AaA (Aau elCm rfl rfl (v:=.agg (fl (cmP cmd)).toArray) (cs:=fl (cmP cmd)) rfl (Acj _)) rfl ?_
   replace M:=bx (M.o.alloc (P:=cmP cmd) (ls:=[32,32,32]) (Aai _) rfl 52)
   refine zNM ?_
  all_goals
   refine⟨⟨M.o.at1,M.o.at3⟩,?_⟩
   refine zMR7 ?_
   refine NoPanic.normal ?_
   go_wp2_with fail
   obtain⟨Γ',e1,l1,h4⟩:=M.o.frzL
   (try refine zsm ?_);refine bodyPost_ret (AaN (by rfl) _ h4.at1 (by rfl) rtZs rfl) rfl ?_
   exact⟨_,1,Γ',rfl,⟨Nat.le_refl _,by unfold maxLen;omega,fun h=>(by cases h)⟩,fun _=>⟨_,[],rfl,by rw[e1];simp⟩,h4.ext⟩
 |true=>
  have HT:Bx (Value.bool z.sent=.bool true):=⟨by rw[hs]⟩
  have hq:=AjZ z.last cmd
  by_cases he:z.last=cmd
  .rw[decide_eq_true he]at hq
   have HY:Bx (emtZ z=z/\emtL z = []):=⟨by
    have h:z.sent=true/\z.last=z.s.cmd:=⟨hs,by rw[HC.o];exact he⟩
    unfold emtZ emtL
    rw[if_pos h,if_pos h]
    exact⟨rfl,rfl⟩⟩
   clear hs he
   unfold EmtP
   rw[HY.o.1,HY.o.2]
   go_enter Tryz.func16,Tryz.ntmps16
   (go_wp2_with (first|((first|refine zBXo ?_|refine zALo (ztZs) ?_);clear M;intro w' g M)|refine zLAo ?_))
   refine zCA M (CD.o _ M.ok) ?_;clear M;intro w1 M
   (go_wp2_with (first|(refine zALo (ztCm) ?_;clear M;intro w' g M)|refine zLHo HT ?_|((first|refine zSSo M 0 (cmP cmd) (cmP cmd) (Aai _) (AdT _) ?_|refine zSSo M 1 (zsP z x) (zsP z x) (AaH _ _) (AaP _ _) ?_);clear M;intro w' M)|refine zLAo ?_))
   refine zRt M.o.at1 ?_
   exact⟨none,0,Γ,rfl,⟨Nat.le_refl _,Nat.zero_le _,fun _=>rfl⟩,fun h=>absurd h (Nat.lt_irrefl _),M.o.ext⟩
  .rw[decide_eq_false he]at hq
   have HY:Bx (emtZ z = {z with sent:=true,last:=cmd}/\emtL z = [cmd]):=⟨by have h:¬(z.sent=true/\z.last=z.s.cmd):=(by rw[HC.o];exact fun h=>he h.2);unfold emtZ emtL;rw[if_neg h,if_neg h,HC.o];exact⟨rfl,rfl⟩⟩
   clear hs he
   unfold EmtP
   rw[HY.o.1,HY.o.2]
   go_enter Tryz.func16,Tryz.ntmps16
   (go_wp2_with (first|((first|refine zBXo ?_|refine zALo (ztZs) ?_);clear M;intro w' g M)|refine zLAo ?_))
   refine zCA M (CD.o _ M.ok) ?_;clear M;intro w1 M
   go_upto_region 4 with(first|(refine zALo (ztCm) ?_;clear M;intro w' g M)|refine zLHo HT ?_|refine zLAo ?_|(refine zSSo M 0 (cmP cmd) (cmP cmd) (Aai _) (AdT _) ?_;clear M;intro w' M))
   (go_wp2_with (fail))
   refine AaF (fun w'=>HL w' g (cmP cmd) [32,32,32]) (.steps [(0,0),(1,1),(3,2),(1,3),(3,4)] .leaf) (by kernel_rfl) (by kernel_rfl) M.o.drew.at0 ?_;(simp only[MixT7,MT.steps,stepI,List.getD_cons_zero,List.getD_cons_succ]);replace M:=bx (M.o.drew)
   refine zNM ?_
   (repeat(first|refine zM0 ?_|(go_big_quiet_want;first|(refine zQL (fun _ h=>h) (Aai cmd) ?_;go_big_quiet_on;refine zNM ?_)|(refine zQO ?_;go_big_quiet_on))))
   refine Aa6 M.o 2 (.bool true) (zsP {z with sent:=true} x) rfl rfl rfl rfl AiC rfl rfl rfl rfl rfl rfl ?_
   intro w7 M'
   simp only[List.set_cons_zero,List.set_cons_succ]at M'
   (replace M:=bx M';clear M')
   refine zNM ?_
   refine⟨M.o.at0,?_⟩
   refine zMR7 ?_
   refine zXS M 2 (cmP cmd) (zsP {z with sent:=true,last:=cmd} x) (Aai _) (AdT _) ?_;clear M;intro w7 M
   refine⟨M.o.at0,?_⟩
   refine zMR7 ?_
   refine NoPanic.normal ?_
   go_wp2_with fail
   rename_i gz _ _ _ _ _ _
   refine AaF (fun w'=>HL w' g (cmP cmd) [32,32,32]/\HL w' gz (zsP {z with sent:=true,last:=cmd} x) zsL) (.steps [(0,0),(0,1)] (.fork 2 (.steps [(3,3),(1,4)] .leaf) 3 (.steps [(2,2),(1,4)] .leaf))) (by kernel_rfl) (by kernel_rfl) ⟨M.o.drew.at0,M.o.drew.at2⟩ ?_;(simp only[MixT7,MT.steps,stepI,List.getD_cons_zero,List.getD_cons_succ]);replace M:=bx (M.o.drew)
   refine zNM ?_
   (repeat(first|refine zM0 ?_|(go_big_quiet_want;first|((first|((with_reducible apply AaI (fun _ h=>h.1) (Aai cmd));rfl;rfl;exact zrts;rfl;refine zCT ?_)|((with_reducible apply AaI (fun _ h=>h.2) (AaH _ _));rfl;rfl;exact zrts;rfl;refine zCT ?_));go_big_quiet_on;refine zNM ?_))))
   refine⟨?_,?_⟩
   focus
    refine AaA (Aau elCm rfl rfl (v:=.agg (fl (cmP cmd)).toArray) (cs:=fl (cmP cmd)) rfl (Acj _)) rfl ?_
    replace M:=bx (M.o.alloc (P:=cmP cmd) (ls:=[32,32,32]) (Aai _) rfl 52)
    refine zNM ?_
    refine⟨⟨M.o.at1,M.o.at3⟩,?_⟩
    refine zMR7 ?_
    refine zXS M 2 (zsP {z with sent:=true,last:=cmd} x) (zsP {z with sent:=true,last:=cmd} x) (AaH _ _) (AaP _ _) ?_;clear M;intro w7 M
   rotate_left
   focus
    refine zXS M 1 (zsP {z with sent:=true,last:=cmd} x) (zsP {z with sent:=true,last:=cmd} x) (AaH _ _) (AaP _ _) ?_;clear M;intro w7 M
    refine⟨⟨M.o.at0,M.o.at2⟩,?_⟩
    refine zMR7 ?_
    refine AaA (Aau elCm rfl rfl (v:=.agg (fl (cmP cmd)).toArray) (cs:=fl (cmP cmd)) rfl (Acj _)) rfl ?_
    replace M:=bx (M.o.alloc (P:=cmP cmd) (ls:=[32,32,32]) (Aai _) rfl 52)
    refine zNM ?_
   all_goals
    refine⟨⟨M.o.at1,M.o.at3⟩,?_⟩
    refine zMR7 ?_
    refine NoPanic.normal ?_
    go_wp2_with fail
    obtain⟨Γ',e1,l1,h4⟩:=M.o.frzL
    (try refine zsm ?_);refine bodyPost_ret (AaN (by rfl) _ h4.at1 (by rfl) rtZs rfl) rfl ?_
    exact⟨_,1,Γ',rfl,⟨Nat.le_refl _,by unfold maxLen;omega,fun h=>(by cases h)⟩,fun _=>⟨_,[],rfl,by rw[e1];simp⟩,h4.ext⟩
end Go.Proofs.YtpaihpeoiliioaaGreat
