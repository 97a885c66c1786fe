/- Texts joined: what the walks of this claim stand on (part 19). -/
import Derived.Test.YtpaihpeoiliioaaGreatKK17
set_option linter.all false
set_option maxRecDepth 20000
set_option maxHeartbeats 40000000
namespace Go.Proofs.YtpaihpeoiliioaaGreat
open Go.RowKit Old
theorem Ali(Γ:Gam)(s:Sto)(v:Sls)(j f ca cb:Cp)(hs:SpeOk s)(hk:Lk (upsN s.nodes))(hb:s.nodes.length<=4096)(ht:s.tabs.length<=65535)(hob:s.orph.length<=30000)(w:World)(ok:Ok Γ w)(h:StG Γ v s)(cu:∀w,Ok Γ w->Calls Tryz.prog 186 #[.agg (fl (stP s v)).toArray,.agg (fl (cpP j)).toArray,.agg (fl (cpP f)).toArray] w fun e w'=>e=.returned (.tuple #[.agg (fl (cpP ca)).toArray,.agg (fl (cpP cb)).toArray,.bool true])/\Ext Γ w Γ w')(he:cb≠s.fin)(k:Nat)(hkl:k<s.nodes.length)(hfk:fndI s.nodes cb.r=(k:Int)) :
  Calls Tryz.prog 157 #[.agg (fl (stP s v)).toArray,.agg (fl (cpP j)).toArray,.agg (fl (cpP f)).toArray] w (StP Γ w (pruS {s with tabs:=dropT s.tabs ca.e.n,just:=ca,fin:=cb} k (stU cb.e s.c.spe))):=by
 have M:=bx (MM.start ok)
 have HG:=bx h
 have CU:=bx cu
 have DT:Bx (∀w,Ok Γ w->Calls Tryz.prog 187 #[v.tabs.v,.int .u64 (ca.e.n:Int)] w (TsP Γ w (dropT s.tabs ca.e.n))):=⟨fun w ok=>Ad3 Γ v.tabs.A v.tabs.n v.tabs.c s.tabs ca.e.n (by rw[<-h.tabs.2.1];exact ht) w ok h.tabs.2⟩
 have HB:=bx hob
 have FK:Bx (∀(Γ':Gam) w,Le Γ Γ'->Ok Γ' w->Calls Tryz.prog 24 #[.agg [v.nodes.v].toArray,.agg (rc cb.r).toArray] w fun e w'=>e=.returned (.int .i64 (k:Int))/\Ext Γ' w Γ' w'):=⟨fun Γ' w hl ok=>by
  have:=Aag Γ' v.nodes s.nodes cb.r w ok (h.nodes.mono hl)
  rwa [hfk]at this⟩
 have PR:=bx (fun(Γ':Gam) w (hl:Le Γ Γ') ok=>Al1 Γ' v.nodes s.nodes k w ok (h.nodes.mono hl) hk hkl hb)
 have HSP:=bx hs
 have LNO:=bx h.orph.n
 have hq:=Adg cb s.fin
 rw[decide_eq_false he]at hq
 obtain⟨bz,hbz⟩:∃bz,bz=if fndI (pruneN s.nodes k) s.boost<0 then r0 else s.boost:=⟨_,rfl⟩
 have HPR:Bx (pruS {s with tabs:=dropT s.tabs ca.e.n,just:=ca,fin:=cb} k (stU cb.e s.c.spe) = {s with tabs:=dropT s.tabs ca.e.n,just:=ca,fin:=cb,nodes:=pruneN s.nodes k,boost:=bz,orph:=later (stU cb.e s.c.spe) s.orph}):=⟨by unfold pruS;rw[hbz]⟩
 obtain⟨bi,hbi⟩:∃bi,fndI (pruneN s.nodes k) s.boost=bi:=⟨_,rfl⟩
 rw[hbi]at hbz
 have HBI:=bx hbi
 have B1:Bx (bi<0->bz=r0):=⟨fun h=>by rw[hbz,if_pos h]⟩
 have B2:Bx (0<=bi->bz=s.boost):=⟨fun h=>by rw[hbz,if_neg (by omega)]⟩
 generalize pruneN s.nodes k=P at *
 rw[HPR.o]
 clear ok h cu hs hk hb ht hob he hfk hkl hbz hbi HPR
 go_enter Tryz.func157,Tryz.ntmps157
 (go_wp2_with (first|((first|refine zBXo ?_|refine zALo (ztSt) ?_);clear M;intro w' g M)|refine zLAo ?_))
 refine zCA M (CU.o _ M.ok) ?_;clear M;intro w1 M
 clear CU
 (go_wp2_with (first|(refine zALo (ztCp) ?_;clear M;intro w' g M)|refine zLAo ?_|((first|refine zSSo M 1 (cpP ca) (cpP ca) (AaC _) (AaO _) ?_|refine zSSo M 0 (cpP cb) (cpP cb) (AaC _) (AaO _) ?_);clear M;intro w' M)))
 refine(DT.o _ M.ok).mono ?_
 rintro e1 w1 ⟨A1,c1,Γ1,rfl,hc1,ht1,hx1⟩
 replace M:=bx (M.o.call hx1)
 have HT1:=bx (show TabsG Γ1 ⟨A1,_,c1⟩ _ from⟨hc1,ht1⟩)
 clear hc1 ht1 hx1 DT
 generalize dropT s.tabs ca.e.n=T1 at *
 (go_wp2_with (first|refine zLAo ?_|(refine zS1o M 5 (.slice A1 T1.length c1) (stP {s with tabs:=T1} {v with tabs:=⟨A1,T1.length,c1⟩}) ?_;clear M;intro w' M)))
 rename_i gs _ gj _ gf _ g6 _ _ g7 _ _ _ _ _
 .refine AaF (fun w'=>HL w' g7 (cpP ca) [1,32]/\HL w' g (cpP cb) [1,32]) (.steps [(0,0),(0,1),(1,2),(1,3),(3,4),(1,5),(1,6),(3,7)] .leaf) (by kernel_rfl) (by kernel_rfl) ⟨M.o.drew.at1,M.o.drew.at0⟩ ?_;(simp only[MixT7,MT.steps,stepI,List.getD_cons_zero,List.getD_cons_succ]);replace M:=bx (M.o.drew)
  refine zNM ?_
  (repeat(first|refine zM0 ?_|(go_big_quiet_want;first|((first|((with_reducible apply AaI (fun _ h=>h.1) (AaC ca));rfl;rfl;exact zrts;rfl;refine zCT ?_)|((with_reducible apply AaI (fun _ h=>h.2) (AaC cb));rfl;rfl;exact zrts;rfl;refine zCT ?_));go_big_quiet_on;refine zNM ?_)|(refine zQO ?_;go_big_quiet_on))))
  refine zXS M 5 (cpP ca) (stP {s with tabs:=T1,just:=ca} {v with tabs:=⟨A1,T1.length,c1⟩}) (AaC _) (AaO _) ?_;clear M;intro w7 M
  refine⟨⟨M.o.at1,M.o.at0⟩,?_⟩
  refine zMR7 ?_
  refine zXS M 5 (cpP cb) (stP {s with tabs:=T1,just:=ca,fin:=cb} {v with tabs:=⟨A1,T1.length,c1⟩}) (AaC _) (AaO _) ?_;clear M;intro w7 M
  refine⟨⟨M.o.at1,M.o.at0⟩,?_⟩
  refine zMR7 ?_
  refine NoPanic.normal ?_
  clear hq
  go_wp2_with fail
  refine AaB [13] (.steps [(1,0),(0,1),(1,2),(0,3),(1,4),(0,5),(2,6),(2,7),(1,8),(1,9),(1,10),(1,11),(1,12),(3,13)] .leaf) (by kernel_rfl) (by kernel_rfl) ?_;(simp only[MixT6,MT.steps,stepAt,List.getD_cons_zero,List.getD_cons_succ]);replace M:=bx (M.o.drew)
  refine zNM ?_
  refine zMRo ?_
  refine zMC (FK.o _ _ M.o.ext.le M.ok) Tryz.func24 ?_
  rintro e2 w2 ⟨rfl,hx2⟩
  refine⟨_,rfl,hx2.bel,?_⟩
  replace M:=bx (M.o.call hx2)
  clear hx2
  refine zNM ?_
  refine zMRo ?_
  refine zMC (PR.o _ _ M.o.ext.le M.ok) Tryz.func188 ?_
  rintro e3 w3 ⟨x3,v3,Γ3,rfl,hn3,hx3⟩
  refine⟨_,rfl,hx3.bel,?_⟩
  replace M:=bx (M.o.call hx3)
  have HN3:=bx hn3
  have HT3:=bx (HT1.o.mono hx3.le)
  clear hx3 hn3 FK PR HT1
  refine zNM ?_
  refine zMRo ?_
  refine Aam M.o 5 [[x3.v]] (stP {s with tabs:=T1,just:=ca,fin:=cb,nodes:=P} {v with tabs:=⟨A1,T1.length,c1⟩,nodes:=x3}) rfl rfl rfl rfl Aap rfl rfl (Aak _ _ _) rfl rfl ?_
  intro w7 M'
  simp only[List.set_cons_zero,List.set_cons_succ]at M'
  (replace M:=bx M';clear M')
  refine zNM ?_
  refine zMRo ?_
  refine NoPanic.normal ?_
  have FIB:=bx (fun w ok=>Aag Γ3 x3 P s.boost w ok HN3.o)
  rw[HBI.o]at FIB
  (go_wp2_with (refine zLAo ?_))
  refine zCA M (FIB.o _ M.ok) ?_;clear M;intro w1 M
  clear FIB
  go_upto_if 64 with fail
  go_cut []from 15 (fun wx=>MM Γ w Γ3 wx [⟨g,cpP cb,[1,32]⟩,⟨g7,cpP ca,[1,32]⟩,⟨g6,stP st0 x0,stL⟩,⟨gf,cpP f,[1,32]⟩,⟨gj,cpP j,[1,32]⟩,⟨gs,stP {s with tabs:=T1,just:=ca,fin:=cb,nodes:=P,boost:=bz} {v with tabs:=⟨A1,T1.length,c1⟩,nodes:=x3},stL⟩] [])
  case first=>
   rcases Int.lt_or_le bi 0 with hbi|hbi
   .have E:=B1.o hbi
    clear B1 B2
    (go_wp2_with (first|refine zBDo 29 [] (rc r0) (by kernel_rfl) ?_|(refine zSSo M 5 [rc r0] (stP {s with tabs:=T1,just:=ca,fin:=cb,nodes:=P,boost:=r0} {v with tabs:=⟨A1,T1.length,c1⟩,nodes:=x3}) (lenR _) (Aac _) ?_;clear M;intro w' M)))
    go_meet
    case rel=>rw[E];exact M.o
   .have E:=B2.o hbi
    clear B1 B2
    (go_wp2_with (fail))
    go_meet
    case rel=>rw[E];exact M.o
  case rest=>
   clear M B1 B2
   have M:=bx hcut
   clear hcut
   (go_wp2_with (refine zLAo ?_))
   refine zCA M (AdW Γ3 {s with tabs:=T1,just:=ca,fin:=cb,nodes:=P,boost:=bz} {v with tabs:=⟨A1,T1.length,c1⟩,nodes:=x3} cb.e ⟨HSP.o.1,HSP.o.2⟩ _ M.ok) ?_;clear M;intro w1 M
   simp only
   generalize stU cb.e s.c.spe=at_ at *
   generalize stB cb.e s.c.spe=ab at *
   have LF:Bx (later at_ (s.orph.take s.orph.length)=later at_ s.orph):=⟨by rw[List.take_of_length_le (Nat.le_refl _)]⟩
   (go_wp2_with (fail))
   go_loopw [13,14] (fun o jj wr=>∃(q:Nat) (A:Option Addr) (c:Nat),q<=s.orph.length/\jj=.int .i64 q/\o=.slice A (later at_ (s.orph.take q)).length c /\
    MM Γ w Γ3 wr [⟨g,cpP cb,[1,32]⟩,⟨g7,cpP ca,[1,32]⟩,⟨g6,stP st0 x0,stL⟩,⟨gf,cpP f,[1,32]⟩,⟨gj,cpP j,[1,32]⟩,⟨gs,stP {s with tabs:=T1,just:=ca,fin:=cb,nodes:=P,boost:=bz} {v with tabs:=⟨A1,T1.length,c1⟩,nodes:=x3},stL⟩]
     [⟨.slice A (later at_ (s.orph.take q)).length c,78,238,(later at_ (s.orph.take q)).length,(later at_ (s.orph.take q)).flatMap blx⟩]) (fun _ jj _=>s.orph.length-(intOf jj).toNat)
   case atStart=>exact⟨0,none,0,Nat.zero_le _,rfl,rfl,M.o.row0 _ _⟩
   case round=>
    obtain⟨q,A,c,hq,rfl,rfl,hM⟩:=hrel
    clear M
    have M:=bx hM
    clear hM
    have hob:=HB.o
    have hll:=AiN at_ (s.orph.take q)
    have htk:(s.orph.take q).length<=q:=by rw[List.length_take];omega
    by_cases hqn:q<s.orph.length
    .obtain⟨gn,hA,hf⟩:=(HG.o.mono M.o.ext.le).orphAt q hqn
     have HA:=bx hA
     have F1:=bx hf
     have hki:(q:Int)<(v.orph.n:Int):=by rw[LNO.o];omega
     have hk0:0<=(q:Int):=by omega
     have LY:=bx (fun h=>AmJ (a:=at_) hqn h)
     have LX:=bx (fun h=>An7 (a:=at_) hqn h)
     clear hA hf
     generalize s.orph[q]=y at *
     generalize hl1:later at_ (s.orph.take (q+1))=l1 at *
     generalize later at_ (s.orph.take q)=l0 at *
     rcases two2 at_.n y.slot.n with⟨j1,j2⟩|⟨j1,j2⟩
     .have E:=LY.o j1
      clear LY LX
      (go_wp2_with (first|refine zLHo HA ?_|refine zRFo F1 ?_|((with_reducible apply AbP M.o elBl);rfl;rfl;rfl;rfl;exact AaZ _;rfl;intro w' g M' hb';(replace M:=bx M';clear M');clear hb')|(at_builtin;(with_reducible apply AaU M.o elBl);rfl;exact Acf _;(unfold maxLen;omega);omega;rfl;rfl;rfl;rfl;intro A' c' w' M';(replace M:=bx M';clear M'))))
      go_roundw
      case rel=>
       refine⟨q+1,A',c',by omega,by go_num,by rw[hl1,E];simp,?_⟩
       rw[hl1,E]
       simp only[List.flatMap_append,List.flatMap_cons,List.flatMap_nil,List.append_nil,List.length_append,List.length_cons,List.length_nil,Nat.zero_add]
       exact M.o
      case measure=>simp[intOf]<;>omega
     .have E:=LX.o j1
      clear LY LX
      (go_wp2_with (first|refine zLHo HA ?_|refine zRFo F1 ?_))
      go_roundw
      case rel=>exact⟨q+1,A,c,by omega,by go_num,by rw[hl1,E],by rw[hl1,E];exact M.o⟩
      case measure=>simp[intOf]<;>omega
    .have hki:(v.orph.n:Int)<=(q:Int):=by rw[LNO.o];omega
     obtain rfl:q=s.orph.length:=by omega
     rw[LF.o]at M |-
     clear LF hll
     generalize later at_ s.orph=lo at *
     (go_wp2_with (first|refine zLAo ?_|((first|refine zS1o M 5 (.slice A lo.length c) (stP {s with tabs:=T1,just:=ca,fin:=cb,nodes:=P,boost:=bz,orph:=lo} {v with tabs:=⟨A1,T1.length,c1⟩,nodes:=x3,orph:=⟨A,lo.length,c⟩}) ?_|refine zSSo M 2 (stP {s with tabs:=T1,just:=ca,fin:=cb,nodes:=P,boost:=bz,orph:=lo} {v with tabs:=⟨A1,T1.length,c1⟩,nodes:=x3,orph:=⟨A,lo.length,c⟩}) (stP {s with tabs:=T1,just:=ca,fin:=cb,nodes:=P,boost:=bz,orph:=lo} {v with tabs:=⟨A1,T1.length,c1⟩,nodes:=x3,orph:=⟨A,lo.length,c⟩}) (AaD _ _) (Aaa _ _) ?_);clear M;intro w' M)))
     obtain⟨Γ',h1,h2,h3,h4⟩:=M.o.frz
     refine zR h4.at2 ?_
     exact StP.mk _ {HG.o.mono h4.ext.le with tabs:=HT3.o.mono h3,nodes:=HN3.o.mono h3,orph:=⟨rfl,h1,h2⟩} h4.ext
end Go.Proofs.YtpaihpeoiliioaaGreat
