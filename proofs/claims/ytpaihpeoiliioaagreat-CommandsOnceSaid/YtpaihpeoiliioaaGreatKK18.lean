/- Texts joined: what the walks of this claim stand on (part 18). -/
import Derived.Test.YtpaihpeoiliioaaGreatKK17
set_option linter.all false
set_option maxRecDepth 20000
set_option maxHeartbeats 40000000
namespace Go.Proofs.YtpaihpeoiliioaaGreat
open Go.RowKit Old
theorem Alh(Γ:Gam)(s:Sto)(v:Sls)(j f:Cp)(w:World)(ok:Ok Γ w)(h:StG Γ v s)(cu:∀w,Ok Γ w->Calls Tryz.prog 186 #[.agg (fl (stP s v)).toArray,.agg (fl (cpP j)).toArray,.agg (fl (cpP f)).toArray] w fun e w'=>e=.returned (.tuple #[.agg (fl (cpP cp0)).toArray,.agg (fl (cpP cp0)).toArray,.bool false])/\Ext Γ w Γ w') :
  Calls Tryz.prog 157 #[.agg (fl (stP s v)).toArray,.agg (fl (cpP j)).toArray,.agg (fl (cpP f)).toArray] w (StP Γ w s):=by
 have M:=bx (MM.start ok)
 have HG:=bx h
 have CU:=bx cu
 clear ok h cu
 go_enter Tryz.func157,Tryz.ntmps157
 (go_wp2_with (first|((first|refine zBXo ?_|refine zALo (ztSt) ?_);clear M;intro w' g M)|refine zLAo ?_))
 refine zCA M (CU.o _ M.ok) ?_;clear M;intro w1 M
 clear CU
 (go_wp2_with (first|(refine zALo (ztCp) ?_;clear M;intro w' g M)|refine zLAo ?_|((first|refine zSSo M 1 (cpP cp0) (cpP cp0) (AaC _) (AaO _) ?_|refine zSSo M 0 (cpP cp0) (cpP cp0) (AaC _) (AaO _) ?_|refine zSSo M 2 (stP s v) (stP s v) (AaD _ _) (Aaa _ _) ?_);clear M;intro w' M)))
 refine zR M.o.at2 ?_
 exact StP.mk _ (HG.o.mono M.o.ext.le) M.o.ext
theorem Alj(Γ:Gam)(s:Sto)(v:Sls)(j f ca cb:Cp)(hs:SpeOk s)(hk:Lk (upsN s.nodes))(hb:s.nodes.length<=4096)(ht:s.tabs.length<=65535)(hob:s.orph.length<=30000)(w:World)(ok:Ok Γ w)(h:StG Γ v s)(cu:∀w,Ok Γ w->Calls Tryz.prog 186 #[.agg (fl (stP s v)).toArray,.agg (fl (cpP j)).toArray,.agg (fl (cpP f)).toArray] w fun e w'=>e=.returned (.tuple #[.agg (fl (cpP ca)).toArray,.agg (fl (cpP cb)).toArray,.bool true])/\Ext Γ w Γ w')(he:cb=s.fin) :
  Calls Tryz.prog 157 #[.agg (fl (stP s v)).toArray,.agg (fl (cpP j)).toArray,.agg (fl (cpP f)).toArray] w (StP Γ w {s with tabs:=dropT s.tabs ca.e.n,just:=ca,fin:=cb}):=by
 have M:=bx (MM.start ok)
 have HG:=bx h
 have CU:=bx cu
 have DT:Bx (∀w,Ok Γ w->Calls Tryz.prog 187 #[v.tabs.v,.int .u64 (ca.e.n:Int)] w (TsP Γ w (dropT s.tabs ca.e.n))):=⟨fun w ok=>Ad3 Γ v.tabs.A v.tabs.n v.tabs.c s.tabs ca.e.n (by rw[<-h.tabs.2.1];exact ht) w ok h.tabs.2⟩
 have hq:=Adg cb s.fin
 rw[decide_eq_true he]at hq
 clear ok h cu hs hk hb ht hob he
 go_enter Tryz.func157,Tryz.ntmps157
 (go_wp2_with (first|((first|refine zBXo ?_|refine zALo (ztSt) ?_);clear M;intro w' g M)|refine zLAo ?_))
 refine zCA M (CU.o _ M.ok) ?_;clear M;intro w1 M
 clear CU
 (go_wp2_with (first|(refine zALo (ztCp) ?_;clear M;intro w' g M)|refine zLAo ?_|((first|refine zSSo M 1 (cpP ca) (cpP ca) (AaC _) (AaO _) ?_|refine zSSo M 0 (cpP cb) (cpP cb) (AaC _) (AaO _) ?_);clear M;intro w' M)))
 refine(DT.o _ M.ok).mono ?_
 rintro e1 w1 ⟨A1,c1,Γ1,rfl,hc1,ht1,hx1⟩
 replace M:=bx (M.o.call hx1)
 have HT1:=bx (show TabsG Γ1 ⟨A1,_,c1⟩ _ from⟨hc1,ht1⟩)
 clear hc1 ht1 hx1 DT
 generalize dropT s.tabs ca.e.n=T1 at *
 (go_wp2_with (first|refine zLAo ?_|(refine zS1o M 5 (.slice A1 T1.length c1) (stP {s with tabs:=T1} {v with tabs:=⟨A1,T1.length,c1⟩}) ?_;clear M;intro w' M)))
 rename_i g7 _ _ _ _ _
 .refine AaF (fun w'=>HL w' g7 (cpP ca) [1,32]/\HL w' g (cpP cb) [1,32]) (.steps [(0,0),(0,1),(1,2),(1,3),(3,4),(1,5),(1,6),(3,7)] .leaf) (by kernel_rfl) (by kernel_rfl) ⟨M.o.drew.at1,M.o.drew.at0⟩ ?_;(simp only[MixT7,MT.steps,stepI,List.getD_cons_zero,List.getD_cons_succ]);replace M:=bx (M.o.drew)
  refine zNM ?_
  (repeat(first|refine zM0 ?_|(go_big_quiet_want;first|((first|((with_reducible apply AaI (fun _ h=>h.1) (AaC ca));rfl;rfl;exact zrts;rfl;refine zCT ?_)|((with_reducible apply AaI (fun _ h=>h.2) (AaC cb));rfl;rfl;exact zrts;rfl;refine zCT ?_));go_big_quiet_on;refine zNM ?_)|(refine zQO ?_;go_big_quiet_on))))
  refine zXS M 5 (cpP ca) (stP {s with tabs:=T1,just:=ca} {v with tabs:=⟨A1,T1.length,c1⟩}) (AaC _) (AaO _) ?_;clear M;intro w7 M
  refine⟨⟨M.o.at1,M.o.at0⟩,?_⟩
  refine zMR7 ?_
  refine zXS M 5 (cpP cb) (stP {s with tabs:=T1,just:=ca,fin:=cb} {v with tabs:=⟨A1,T1.length,c1⟩}) (AaC _) (AaO _) ?_;clear M;intro w7 M
  refine⟨⟨M.o.at1,M.o.at0⟩,?_⟩
  refine zMR7 ?_
  refine NoPanic.normal ?_
  (go_wp2_with (first|refine zLAo ?_|(refine zSSo M 2 (stP {s with tabs:=T1,just:=ca,fin:=cb} {v with tabs:=⟨A1,T1.length,c1⟩}) (stP {s with tabs:=T1,just:=ca,fin:=cb} {v with tabs:=⟨A1,T1.length,c1⟩}) (AaD _ _) (Aaa _ _) ?_;clear M;intro w' M)))
  refine zR M.o.at2 ?_
  exact StP.mk _ {HG.o.mono M.o.ext.le with tabs:=HT1.o.mono (Le.refl _)} M.o.ext
end Go.Proofs.YtpaihpeoiliioaaGreat
