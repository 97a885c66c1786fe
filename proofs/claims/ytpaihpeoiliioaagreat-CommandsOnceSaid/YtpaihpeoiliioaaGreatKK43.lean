/- Texts joined: what the walks of this claim stand on (part 43). -/
import Derived.Test.YtpaihpeoiliioaaGreatKK42
set_option linter.all false
set_option maxRecDepth 20000
set_option maxHeartbeats 40000000
namespace Go.Proofs.YtpaihpeoiliioaaGreat
open Go.RowKit Old
theorem AlU(Γ:Gam)(s:Sto)(v:Sls)(n k:Nat)(hn:n<=100000)(hk:k<=100000000)(hL:Lk (upsN s.nodes))(hpos:0<s.nodes.length)(hb:s.nodes.length<=4096)(hsp:0<s.c.spe.n)(hrn:RtOk (rtB (n:Int)))(hnr:∀nd∈s.nodes,RtOk nd.b.root)(w:World)(ok:Ok Γ w)(h:StG Γ v s) :
  Calls Tryz.prog 89 #[.agg (fl (stP s v)).toArray,.int .i64 n,.int .i64 k] w (BloP Γ w):=by
 refine(blkA Γ s v n k hn hk hsp hrn hnr w).2 (fun _=>(blkB Γ s v n k hn hk hsp hrn hnr w).2 fun _=>?_) hL hpos hb ok h
 clear hL hpos hb ok h
 conv=>whnf
 set_option tactic.hygienic false in intros
 have hq:=Aa5 y.b.payload r0
 generalize decide (y.b.payload=r0)=qq at *
 go_upto_region 18 with fail
 go_cut [157]from 12 (fun s157 wx=>∃bb,s157=.bool bb/\MM Γ w Γ wx [⟨g11,cpP cc,[1,32]⟩,⟨g9,blP b5,blL⟩,⟨g8,noP y,noL⟩,⟨g6,blP b0,blL⟩,⟨g3,stP s v,stL⟩] [])
 case first=>
  as_aux_lemma=>
   cases qq with
   |true=>
    by_cases hr:r16=0
    .subst hr
     (go_wp2_with (first|refine zBDd 29 [] (rc r0) (by kernel_rfl) ?_|refine zLAd ?_))
     go_meet;(case rel=>exact⟨_,rfl,M.o⟩)
    .have h1:((r16:Int)==0)=false:=by rw[beq_eq_false_iff_ne];omega
     (go_wp2_with (first|refine zBDd 29 [] (rc r0) (by kernel_rfl) ?_|refine zLAd ?_))
     go_meet;(case rel=>exact⟨_,rfl,M.o⟩)
   |false=>
    (go_wp2_with (first|refine zBDd 29 [] (rc r0) (by kernel_rfl) ?_|refine zLAd ?_))
    go_meet;(case rel=>exact⟨_,rfl,M.o⟩)
 clear hq e16 f16 d16 i16 hq16 c16
 clear M;(obtain⟨bb,rfl,hM⟩:=hcut);have M:=bx hM;clear hM
 go_upto_if 157 with fail
 go_cut []from 12 (fun wx=>∃b,RtOk b.root/\MM Γ w Γ wx [⟨g11,cpP cc,[1,32]⟩,⟨g9,blP b,blL⟩,⟨g8,noP y,noL⟩,⟨g6,blP b0,blL⟩,⟨g3,stP s v,stL⟩] [])
 case first=>
  as_aux_lemma=>
   cases bb with
   |true=>
    (go_wp2_with (fail))
    refine zCB M (AbQ _ _) ?_;clear M;intro w1 M
    (go_wp2_with ((refine zSSd M 1 [rc (rtB (1000+(n:Int)))] (blP {b5 with payload:=rtB (1000+(n:Int))}) (lenR _) (Aac _) ?_;clear M;intro w' M)))
    refine AaF (fun w'=>HL w' g3 (stP s v) stL) (.steps [(1,0),(1,1),(1,2),(0,3),(1,4),(3,5),(1,6),(3,7)] .leaf) (by kernel_rfl) (by kernel_rfl) M.o.drew.at4 ?_;(simp only[MixT7,MT.steps,stepI,List.getD_cons_zero,List.getD_cons_succ]);replace M:=bx (M.o.drew)
    refine zNM ?_
    (repeat(first|refine zM0 ?_|(go_big_quiet_want;first|((first|refine zQL (fun _ h=>h) (AaD _ _) ?_|((with_reducible refine AaT 27 _ rfl [(0,.int .u64 99)] _ ?_ (Acd 99) ?_);rfl));go_big_quiet_on;refine zNM ?_)|(refine zQO ?_;go_big_quiet_on))))
    refine zXS M 1 [wdc w99] (blP {b5 with payload:=rtB (1000+(n:Int)),pdiff:=w99}) (lenW _) (Adz _) ?_;clear M;intro w7 M
    refine⟨M.o.at4,?_⟩
    refine zMR7 ?_
    refine zXS M 1 [wdc s.c.ttd] (blP {b5 with payload:=rtB (1000+(n:Int)),pdiff:=w99,diff:=s.c.ttd}) (lenW _) (Adz _) ?_;clear M;intro w7 M
    refine⟨M.o.at4,?_⟩
    refine NoPanic.normal ?_
    (go_wp2_with (fail))
    go_meet;(case rel=>exact⟨_,(by exact HR),M.o⟩)
   |false=>
    (go_wp2_with (fail))
    go_meet;(case rel=>exact⟨b5,HR,M.o⟩)
 clear M HR;(obtain⟨b6,HR,hM⟩:=hcut);have M:=bx hM;clear hM
 clear b5
 obtain⟨q18,hq18,i18⟩:=Ad1 k 262144 262144 rfl;obtain⟨r18,e18,f18⟩:=AbL q18 24 (by decide) 24 rfl;have c18:(0:Int)<=(q18:Int):=(by omega);have d18:(0:Int)<=(r18:Int):=(by omega)
 obtain⟨q3,hq3,i3⟩:=Ad1 k 8 8 rfl
 have c3:(0:Int)<=(q3:Int):=by omega
 go_upto_block 0 with fail
 go_cut []from 12 (fun wx=>∃b,RtOk b.root/\MM Γ w Γ wx [⟨g11,cpP cc,[1,32]⟩,⟨g9,blP b,blL⟩,⟨g8,noP y,noL⟩,⟨g6,blP b0,blL⟩,⟨g3,stP s v,stL⟩] [])
 case first=>
  as_aux_lemma=>
   rcases(by omega:r18=0\/r18=1\/r18=2\/r18=3\/r18=4\/r18=5\/r18=6\/r18=7\/8<=r18)with hr|hr|hr|hr|hr|hr|hr|hr|hr
   .subst hr
    have hn3:0<=(n:Int)%3:=by omega
    (go_wp2_with (fail))
    refine zCB M (AbQ _ _) ?_;clear M;intro w1 M
    (go_wp2_with ((refine zSSd M 1 [rc (rtB (1000+(n:Int)%3))] (blP {b6 with payload:=rtB (1000+(n:Int)%3)}) (lenR _) (Aac _) ?_;clear M;intro w' M)))
    go_meet;(case rel=>exact⟨_,(by exact HR),M.o⟩)
   .subst hr
    (go_wp2_with (fail))
    (refine(Ahh (q3:Int) _).mono ?_);rintro e1 w1 ⟨wd,rfl,hx1⟩;replace M:=bx (M.o.below hx1);clear hx1
    (go_wp2_with (refine zSSd M 1 [wdc wd] (blP {b6 with diff:=wd}) (lenW _) (Adz _) ?_;clear M;intro w' M))
    go_meet;(case rel=>exact⟨_,(by exact HR),M.o⟩)
   .subst hr
    (go_wp2_with (fail))
    (refine(Ahh (q3:Int) _).mono ?_);rintro e1 w1 ⟨wd,rfl,hx1⟩;replace M:=bx (M.o.below hx1);clear hx1
    (go_wp2_with (refine zSSd M 1 [wdc wd] (blP {b6 with pdiff:=wd}) (lenW _) (Adz _) ?_;clear M;intro w' M))
    go_meet;(case rel=>exact⟨_,(by exact HR),M.o⟩)
   .subst hr
    obtain⟨u,hu⟩:=Aiz ((b6.pj.e.n:Int)+1)
    (go_wp2_with (first|(refine zS1d M 1 (.int .u64 (u.n:Int)) (blP {b6 with pj:=⟨u,b6.pj.r⟩}) ?_;clear M;intro w' M)|refine zLAd ?_))
    go_meet;(case rel=>exact⟨_,(by exact HR),M.o⟩)
   .subst hr
    obtain⟨u,hu⟩:=Aiz ((s.now.n:Int)+1)
    (go_wp2_with (first|(refine zS1d M 1 (.int .u64 (u.n:Int)) (blP {b6 with slot:=u}) ?_;clear M;intro w' M)|refine zLAd ?_))
    go_meet;(case rel=>exact⟨_,(by exact HR),M.o⟩)
   .subst hr
    obtain⟨p5,hp5,hp6⟩:∃p5:Nat,(q3:Int)%(N:Int)=(p5:Int)/\p5<N:=⟨q3%N,by omega,Nat.mod_lt _ (by omega)⟩
    have nzN:((N:Int)==0)=false:=by rw[beq_eq_false_iff_ne];omega
    have hps:p5<s.nodes.length:=by rw[<-HNL.o];exact hp6
    obtain⟨gn,hA,hf⟩:=HG.o.nodeAt p5 hps
    have hpi:(p5:Int)<(N:Int):=by omega
    have hp50:0<=(p5:Int):=by omega
    have HA:Bx (v.nodes.v=.slice (some ⟨gn,0,none⟩) N v.nodes.c):=⟨by rw[hA];have:=HV.o;simp only[Value.slice.injEq]at this;rw[this.2.1]⟩
    have F1:=bx hf
    clear hA hf
    have HY5:=hnr _ (List.getElem_mem hps)
    generalize s.nodes[p5]=y5 at *
    clear hps hp6
    (go_wp2_with (fail))
    refine Aad [15] (.steps [(1,0),(1,1),(0,2),(1,3),(1,4),(1,5),(1,6),(0,7),(1,8),(1,9),(1,10),(1,11),(1,12),(0,13),(1,14),(3,15)] .leaf) (by kernel_rfl) (by kernel_rfl) ?_;(simp only[MixT8,MT.steps,stepAt,List.getD_cons_zero,List.getD_cons_succ]);replace M:=bx (M.o.drew)
    refine zNM ?_
    (repeat(first|refine zM0 ?_|(go_big_quiet_want;first|((first|refine zQHd HA ?_|refine zQFd F1 ?_);go_big_quiet_on;refine zNM ?_)|(refine zQO ?_;go_big_quiet_on))))
    refine zH8 M ?_;clear M;intro w8 M
    refine zXS M 1 [rc y5.b.root] (blP {b6 with root:=y5.b.root}) (lenR _) (Aac _) ?_;clear M;intro w7 M
    refine zH8 M ?_;clear M;intro w9 M;refine NoPanic.normal ?_
    (go_wp2_with (fail))
    go_meet;(case rel=>exact⟨_,(by exact HY5),M.o⟩)
   .subst hr
    (go_wp2_with (fail))
    refine zCB M (AbQ _ _) ?_;clear M;intro w1 M
    (go_wp2_with ((refine zSSd M 1 [rc (rtB (n:Int))] (blP {b6 with fin:=⟨b6.fin.e,rtB (n:Int)⟩}) (lenR _) (Aac _) ?_;clear M;intro w' M)))
    go_meet;(case rel=>exact⟨_,(by exact HR),M.o⟩)
   .subst hr
    (go_wp2_with (first|refine zBDd 29 [] (rc r0) (by kernel_rfl) ?_|(refine zSSd M 1 [rc r0] (blP {b6 with payload:=r0}) (lenR _) (Aac _) ?_;clear M;intro w' M)))
    go_meet;(case rel=>exact⟨_,(by exact HR),M.o⟩)
   .have h0:((r18:Int)==0)=false:=by rw[beq_eq_false_iff_ne];omega
    have h1:((r18:Int)==1)=false:=by rw[beq_eq_false_iff_ne];omega
    have h2:((r18:Int)==2)=false:=by rw[beq_eq_false_iff_ne];omega
    have h3:((r18:Int)==3)=false:=by rw[beq_eq_false_iff_ne];omega
    have h4:((r18:Int)==4)=false:=by rw[beq_eq_false_iff_ne];omega
    have h5:((r18:Int)==5)=false:=by rw[beq_eq_false_iff_ne];omega
    have h6:((r18:Int)==6)=false:=by rw[beq_eq_false_iff_ne];omega
    have h7:((r18:Int)==7)=false:=by rw[beq_eq_false_iff_ne];omega
    (go_wp2_with (fail))
    go_meet;(case rel=>exact⟨b6,HR,M.o⟩)
 clear M HR;(obtain⟨b7,HR,hM⟩:=hcut);have M:=bx hM;clear hM
 clear b6
 (go_wp2_with (first|(refine zSSd M 3 (blP b7) (blP b7) (AaZ _) (Acf _) ?_;clear M;intro w' M)|refine zLAd ?_))
 refine zR M.o.at3 ?_
 exact⟨b7,rfl,HR,M.o.ext⟩
end Go.Proofs.YtpaihpeoiliioaaGreat
