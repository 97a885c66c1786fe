/- Texts joined: what the walks of this claim stand on (part 42). -/
import Derived.Test.YtpaihpeoiliioaaGreatKK41
set_option linter.all false
set_option maxRecDepth 20000
set_option maxHeartbeats 40000000
namespace Go.Proofs.YtpaihpeoiliioaaGreat
open Go.RowKit Old
noncomputable def blkB(Γ:Gam)(s:Sto)(v:Sls)(n k:Nat)(hn:n<=100000)(hk:k<=100000000)(hsp:0<s.c.spe.n)(hrn:RtOk (rtB (n:Int)))(hnr:∀nd∈s.nodes,RtOk nd.b.root)(w:World):PSigma fun R:Prop=>(Nat->R)->(blkA Γ s v n k hn hk hsp hrn hnr w).1:=by
 apply PSigma.mk
 case snd=>
  intro hR
  conv=>whnf
  set_option tactic.hygienic false in intros
  have nzs:((s.c.spe.n:Int)==0)=false:=by rw[beq_eq_false_iff_ne];omega
  have hspi:(0:Int)<(s.c.spe.n:Int):=by omega
  go_upto_region 10 with fail
  go_cut [10]from 12 (fun s10 wx=>∃eu:U,s10=.int .u64 (eu.n:Int)/\MM Γ w Γ wx [⟨g9,blP b3,blL⟩,⟨g8,noP y,noL⟩,⟨g6,blP b0,blL⟩,⟨g3,stP s v,stL⟩] [])
  case first=>
   as_aux_lemma=>
    (go_wp2_with (refine zLAd ?_))
    go_meet;(case rel=>exact⟨epN b3.slot s.c.spe,(by rw[Afr]),M.o⟩)
  clear M;(obtain⟨eu,rfl,hM⟩:=hcut);have M:=bx hM;clear hM
  (go_wp2_with (refine zLAd ?_))
  (refine(AT.o p eu _ M.ok).mono ?_)
  rintro e1 w1 ⟨cc,rfl,hx1⟩
  replace M:=bx (M.o.call hx1)
  clear hx1
  obtain⟨q13,hq13,i13⟩:=Ad1 k 8192 8192 rfl;obtain⟨r13,e13,f13⟩:=AbL q13 2 (by decide) 2 rfl;have c13:(0:Int)<=(q13:Int):=(by omega);have d13:(0:Int)<=(r13:Int):=(by omega)
  obtain⟨q14,hq14,i14⟩:=Ad1 k 16384 16384 rfl;obtain⟨r14,e14,f14⟩:=AbL q14 2 (by decide) 2 rfl;have c14:(0:Int)<=(q14:Int):=(by omega);have d14:(0:Int)<=(r14:Int):=(by omega)
  obtain⟨q15,hq15,i15⟩:=Ad1 k 32768 32768 rfl;obtain⟨r15,e15,f15⟩:=AbL q15 3 (by decide) 3 rfl;have c15:(0:Int)<=(q15:Int):=(by omega);have d15:(0:Int)<=(r15:Int):=(by omega)
  go_upto_region 12 with(first|((refine zALd (Agw) ?_;clear M;intro w' g M);(obtain⟨g11,hg0⟩:∃y,y=g:=⟨_,rfl⟩);subst hg0)|(refine zSSd M 0 (cpP cc) (cpP cc) (AaC _) (AaO _) ?_;clear M;intro w' M))
  go_cut [109]from 12 (fun s109 wx=>∃bb,s109=.bool bb/\MM Γ w Γ wx [⟨g11,cpP cc,[1,32]⟩,⟨g9,blP b3,blL⟩,⟨g8,noP y,noL⟩,⟨g6,blP b0,blL⟩,⟨g3,stP s v,stL⟩] [])
  case first=>
   as_aux_lemma=>
    by_cases hc:b3.pj.e.n<cc.e.n
    .have hc':(b3.pj.e.n:Int)<(cc.e.n:Int):=by omega
     (go_wp2_with (refine zLAd ?_))
     go_meet;(case rel=>exact⟨_,rfl,M.o⟩)
    .have hc':¬(b3.pj.e.n:Int)<(cc.e.n:Int):=by omega
     (go_wp2_with (refine zLAd ?_))
     go_meet;(case rel=>exact⟨_,rfl,M.o⟩)
  clear e13 f13 d13 i13 hq13 c13
  clear M;(obtain⟨bb,rfl,hM⟩:=hcut);have M:=bx hM;clear hM
  go_upto_if 109 with fail
  go_cut []from 12 (fun wx=>∃b,RtOk b.root/\MM Γ w Γ wx [⟨g11,cpP cc,[1,32]⟩,⟨g9,blP b,blL⟩,⟨g8,noP y,noL⟩,⟨g6,blP b0,blL⟩,⟨g3,stP s v,stL⟩] [])
  case first=>
   as_aux_lemma=>
    cases bb with
    |true=>
     by_cases hr:r14=0
     .subst hr
      (go_wp2_with (first|((first|refine zSSd M 1 (cpP b3.pj) (blP {b3 with pf:=b3.pj}) (AaC _) (AaO _) ?_|refine zSSd M 1 (cpP cc) (blP {b3 with pf:=b3.pj,pj:=cc}) (AaC _) (AaO _) ?_);clear M;intro w' M)|refine zLAd ?_))
      go_meet;(case rel=>exact⟨_,(by exact HR),M.o⟩)
     .have h1:((r14:Int)==0)=false:=by rw[beq_eq_false_iff_ne];omega
      (go_wp2_with (first|(refine zSSd M 1 (cpP cc) (blP {b3 with pj:=cc}) (AaC _) (AaO _) ?_;clear M;intro w' M)|refine zLAd ?_))
      go_meet;(case rel=>exact⟨_,(by exact HR),M.o⟩)
    |false=>
     (go_wp2_with (fail))
     go_meet;(case rel=>exact⟨b3,HR,M.o⟩)
  clear e14 f14 d14 i14 hq14 c14
  clear M HR;(obtain⟨b4,HR,hM⟩:=hcut);have M:=bx hM;clear hM
  clear b3
  go_upto_region 16 with fail
  go_cut [136]from 12 (fun s136 wx=>∃bb,s136=.bool bb/\MM Γ w Γ wx [⟨g11,cpP cc,[1,32]⟩,⟨g9,blP b4,blL⟩,⟨g8,noP y,noL⟩,⟨g6,blP b0,blL⟩,⟨g3,stP s v,stL⟩] [])
  case first=>
   as_aux_lemma=>
    by_cases hr:r15=0
    .subst hr
     have hy:=Afr y.b.slot s.c.spe
     generalize epN y.b.slot s.c.spe=ey at *
     by_cases hc:ey.n<eu.n
     .have hc':(ey.n:Int)<(eu.n:Int):=by omega
      (go_wp2_with (refine zLAd ?_))
      go_meet;(case rel=>exact⟨_,rfl,M.o⟩)
     .have hc':¬(ey.n:Int)<(eu.n:Int):=by omega
      (go_wp2_with (refine zLAd ?_))
      go_meet;(case rel=>exact⟨_,rfl,M.o⟩)
    .have h1:((r15:Int)==0)=false:=by rw[beq_eq_false_iff_ne];omega
     go_wp2_with fail
     go_meet;(case rel=>exact⟨_,rfl,M.o⟩)
  clear e15 f15 d15 i15 hq15 c15
  clear M;(obtain⟨bb,rfl,hM⟩:=hcut);have M:=bx hM;clear hM
  go_upto_if 136 with fail
  go_cut []from 12 (fun wx=>∃b,RtOk b.root/\MM Γ w Γ wx [⟨g11,cpP cc,[1,32]⟩,⟨g9,blP b,blL⟩,⟨g8,noP y,noL⟩,⟨g6,blP b0,blL⟩,⟨g3,stP s v,stL⟩] [])
  case first=>
   as_aux_lemma=>
    cases bb with
    |true=>
     (go_wp2_with (fail))
     refine AaF (fun w'=>HL w' g8 (noP y) noL) (.steps [(1,0),(1,1),(1,2),(0,3),(1,4),(1,5),(1,6),(0,7),(1,8),(3,9),(1,10),(3,11)] .leaf) (by kernel_rfl) (by kernel_rfl) M.o.drew.at2 ?_;(simp only[MixT7,MT.steps,stepI,List.getD_cons_zero,List.getD_cons_succ]);replace M:=bx (M.o.drew)
     refine zNM ?_
     (repeat(first|refine zM0 ?_|(go_big_quiet_want;first|(refine zQL (fun _ h=>h) (AaK _) ?_;go_big_quiet_on;refine zNM ?_)|(refine zQO ?_;go_big_quiet_on))))
     refine zXS M 1 (cpP y.b.pj) (blP {b4 with just:=y.b.pj}) (AaC _) (AaO _) ?_;clear M;intro w7 M
     refine⟨M.o.at2,?_⟩
     refine zMR7 ?_
     refine zXS M 1 (cpP y.b.pf) (blP {b4 with just:=y.b.pj,fin:=y.b.pf}) (AaC _) (AaO _) ?_;clear M;intro w7 M
     refine⟨M.o.at2,?_⟩
     refine NoPanic.normal ?_
     (go_wp2_with (fail))
     go_meet;(case rel=>exact⟨_,(by exact HR),M.o⟩)
    |false=>
     (go_wp2_with (fail))
     go_meet;(case rel=>exact⟨b4,HR,M.o⟩)
  clear M HR;(obtain⟨b5,HR,hM⟩:=hcut);have M:=bx hM;clear hM
  clear b4
  rename (∀(a:Act) (w:World),_->_)=>hK
  refine hK _ _ ?_
  clear hK
  revert HG AT hki hk0 hni hn0 N p y g3 g6 g8 g9 eu g11 cc q16 r16 wc u12 u13 u14 u15 u16 u17 u18 u19 u20 u21 u22 u23 u24 u25 u26 u27 u28 u29 u30 u31 u32 u33 u34 u35 u36 u37 u38 u39 u40 u41 u42 u43 u44 u45 u46 u47 u48 u49 u50 u51 u52 u53 u54 u55 u56 u57 u58 u59 u60 u61 u62 u63 u64 u65 u66 u67 u68 u69 u70 u71 u72 u73 u74 u75 u76 u77 u78 u79 u80 u81 u82 u83 u84 u85 u86 u87 u88 u89 u90 u91 u92 u93 u94 u95 u96 u97 u98 u99 u100 u101 u102 u103 u104 u105 u106 u107 u108 u109 u110 u111 u112 u113 u114 u115 u116 u117 u118 u119 u120 u121 u122 u123 u124 u125 u126 u127 u128 u129 u130 u131 u132 u133 u134 u135 u136 u137 u138 u139 u140 u141 u142 u143 u144 u145 u146 u147 u148 u149 u150 u151 u152 u153 u154 u155 u156 u157 u158 u159 u160 u161 u162 u163 u164 u165 u166 u167 u168 u169 u170 u171 u172 u173 u174 u175 u176 u177 u178 u179 u180 u181 u182 u183 u184 u185 u186 u187 u188 u189 u190 u191 u192 u193 u194 u195 u196 u197 u198 u199 u200 u201 u202 u203 u204 u205 u206 u207 u208 u209 u210 u211 u212 u213 u214 u215 u216 u217 u218 u219 u220 u221 u222 u223 u224 u225 u226 u227 u228 u229 u230 u231 u232 u233 b5
  exact hR 0
end Go.Proofs.YtpaihpeoiliioaaGreat
