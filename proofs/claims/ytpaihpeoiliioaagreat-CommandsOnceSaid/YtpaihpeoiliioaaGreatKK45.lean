/- Texts joined: what the walks of this claim stand on (part 45). -/
import Derived.Test.YtpaihpeoiliioaaGreatKK37
set_option linter.all false
set_option maxRecDepth 20000
set_option maxHeartbeats 40000000
namespace Go.Proofs.YtpaihpeoiliioaaGreat
open Go.RowKit Old
def VerP(Γ:Gam)(w:World)(k:Nat)(e:Ending)(w':World):Prop:=∃(z':Zst) (x':Zls) (Γ':Gam) (er:Int),e=.returned (.tuple #[.agg (fl (zsP z' x')).toArray,.int .i64 er])/\ZsG Γ' x' z'/\(er=0\/er=21->ZI k z')/\Ext Γ w Γ' w'
theorem AmP{N M:List Nod}{i:Int}{v:Vd}{keep:List Int}(h:judgeN N i v keep=(0,M)):∃k:Nat,k<N.length/\i=(k:Int):=by
 unfold judgeN at h
 split at h
 .injection h with h;omega
 .rename_i hi
  have h':isI i N.length=true:=by simpa using hi
  unfold isI at h'
  simp only[Bool.and_eq_true,decide_eq_true_eq]at h'
  exact⟨i.toNat,by omega,by omega⟩
theorem An9(j f:Int):Tryz.prog.builtSlice 3 2 [(0,.int .i64 j),(1,.int .i64 f)]=some (ints .i64 [j,f]).toArray:=by kernel_rfl
theorem Aiw{k:Nat}(hk:k<=40)(Γ:Gam)(z:Zst)(x:Zls)(v:Vd)(hz:ZI k z)(w:World)(ok:Ok Γ w)(h:ZsG Γ x z) :
  Calls Tryz.prog 133 #[.agg (fl (zsP z x)).toArray,.agg (fl (vdP v)).toArray] w (VerP Γ w (k+1)):=by
 have M:=bx (MM.start ok)
 have HZ:=bx hz
 have HG:=bx h
 have MT:=bx (fun w ok=>AmB Γ z x v w ok h (by have:=hz.nreq;omega))
 have CUT:=bx (fun j=>hz.cut j)
 have TRI:=bx (fun j (hj:j<z.reqs.length)=>hz.tries z.reqs[j] (.inl (List.getElem_mem hj)))
 clear ok h hz
 go_enter Tryz.func133,Tryz.ntmps133
 (go_wp2_with (first|((first|refine zBXd ?_|refine zALd (ztZs) ?_);clear M;intro w' g M)|refine zLAd ?_))
 refine(MT.o _ M.ok).mono ?_
 clear MT
 rintro e w1 (⟨rfl,hx⟩|⟨j,hj,ht,x1,Γ1,rfl,hz1,hx⟩)
 .replace M:=bx (M.o.call hx)
  clear hx
  (go_wp2_with (first|((first|refine zALd (ztRq) ?_|refine zALd (ztZs) ?_);clear M;intro w' g M)|((first|refine zSSd M 1 (rqP rq0) (rqP rq0) (AaY _) (AbF _) ?_|refine zSSd M 0 (zsP zs0 zx0) (zsP zs0 zx0) (AaH _ _) (AaP _ _) ?_|refine zSSd M 2 (zsP z x) (zsP z x) (AaH _ _) (AaP _ _) ?_);clear M;intro w' M)|refine zLAd ?_))
  refine zRt M.o.at2 ?_
  exact⟨z,x,Γ,23,rfl,HG.o,fun h=>(by omega),M.o.ext⟩
 .replace M:=bx (M.o.call hx)
  have HTR:=bx (TRI.o j hj)
  have HZ1:=bx (CUT.o j)
  have HG1:=bx hz1
  have LX:=bx hx.le
  clear hx ht TRI CUT hz1
  generalize z.reqs[j]=r at *
  generalize {z with reqs:=z.reqs.take j++z.reqs.drop (j+1)}=z1 at *
  clear hj
  go_upto_region 4 with(first|((first|refine zALd (ztRq) ?_|refine zALd (ztZs) ?_);clear M;intro w' g M)|((first|refine zSSd M 1 (rqP r) (rqP r) (AaY _) (AbF _) ?_|refine zSSd M 0 (zsP z1 x1) (zsP z1 x1) (AaH _ _) (AaP _ _) ?_);clear M;intro w' M))
  have LT:=bx (fun w ok=>AmK Γ1 z1 x1 r HTR.o.1 (by have:=HTR.o.2;omega) (by have:=HZ1.o.s.now;omega) HZ1.o.s.cf.bo.2 w ok HG1.o (by have:=HZ1.o.nret;omega))
  by_cases c3:v.kind=3
  .have b3:(v.kind==3)=true:=by rw[c3];rfl
   (go_wp2_with (first|go_skip|refine zLAd ?_));(refine(LT.o _ M.ok).mono ?_);rintro e1 w2 ⟨z',x',Γ2,rfl,hz2,l1,l2,l3,l4,hx⟩;replace M:=bx (M.o.call hx);have HZ2:=bx hz2;have HZI:=bx (HZ1.o.later HTR.o l1 l2 l3 l4);clear hx hz2 l1 l2 l3 l4;(go_wp2_with (first|(refine zSSd M 2 (zsP z' x') (zsP z' x') (AaH _ _) (AaP _ _) ?_;clear M;intro w' M)|refine zLAd ?_));refine zRt M.o.at2 ?_;exact⟨z',x',Γ2,0,rfl,HZ2.o,fun _=>HZI.o,M.o.ext⟩
  have b3:(v.kind==3)=false:=beq_eq_false_iff_ne.2 c3
  by_cases c4:v.kind=4
  .have b4:(v.kind==4)=true:=by rw[c4];rfl
   (go_wp2_with (refine zLAd ?_));(refine(LT.o _ M.ok).mono ?_);rintro e1 w2 ⟨z',x',Γ2,rfl,hz2,l1,l2,l3,l4,hx⟩;replace M:=bx (M.o.call hx);have HZ2:=bx hz2;have HZI:=bx (HZ1.o.later HTR.o l1 l2 l3 l4);clear hx hz2 l1 l2 l3 l4;(go_wp2_with (first|(refine zSSd M 2 (zsP z' x') (zsP z' x') (AaH _ _) (AaP _ _) ?_;clear M;intro w' M)|refine zLAd ?_));refine zRt M.o.at2 ?_;exact⟨z',x',Γ2,0,rfl,HZ2.o,fun _=>HZI.o,M.o.ext⟩
  have b4:(v.kind==4)=false:=beq_eq_false_iff_ne.2 c4
  clear LT
  have FJ:=bx (fun w ok=>Aag Γ1 x1.s.nodes z1.s.nodes z1.s.just.r w ok HG1.o.s.nodes)
  have FF:=bx (fun w ok=>Aag Γ1 x1.s.nodes z1.s.nodes z1.s.fin.r w ok HG1.o.s.nodes)
  have FB:=bx (fun w ok=>Aag Γ1 x1.s.nodes z1.s.nodes r.block w ok HG1.o.s.nodes)
  have JD:Bx (∀i keep M,judgeN z1.s.nodes i v keep=(0,M)->∃q:Nat,q<z1.s.nodes.length/\i=(q:Int)):=⟨fun i keep M h=>AmP h⟩
  have JZ:=bx (fun i (hi:i<z1.s.nodes.length) M r=>HZ1.o.judge (v:=v) (M:=M) (r:=r) hi)
  generalize hfj:fndI z1.s.nodes z1.s.just.r=fj at *
  generalize hff:fndI z1.s.nodes z1.s.fin.r=ff at *
  generalize hfb:fndI z1.s.nodes r.block=fb at *
  have HFB:=bx hfb
  clear hfj hff hfb c3 c4
  (go_wp2_with (refine zLAd ?_))
  refine Aad [] (.steps [(1,0),(1,1),(0,2),(1,3),(1,4),(1,5),(1,6),(0,7),(1,9),(1,10),(0,11),(1,12),(1,13),(1,14),(1,15),(0,16),(4,8),(4,17),(2,18),(1,19)] .leaf) (by kernel_rfl) (by kernel_rfl) ?_;(simp only[MixT8,MT.steps,stepAt,List.getD_cons_zero,List.getD_cons_succ]);replace M:=bx (M.o.drew)
  refine zNM ?_
  refine zMRd ?_
  (refine Aa4 (fun w' hw'=>((FJ.o _ (M.ok.below hw'.o)).mono fun _ _ ⟨e,hx⟩=>⟨e,hx.bel⟩)) Tryz.func24 rfl rfl rfl ?_ ?_ ?_);rfl;rfl;refine zNM ?_
  (refine Aa4 (fun w' hw'=>((FF.o _ (M.ok.below hw'.o)).mono fun _ _ ⟨e,hx⟩=>⟨e,hx.bel⟩)) Tryz.func24 rfl rfl rfl ?_ ?_ ?_);rfl;rfl;refine zNM ?_
  refine zH8 M ?_;clear M;intro w8 M
  refine AaA (Ad7 Tryz.underlying22 [(0,.int .i64 fj),(1,.int .i64 ff)] (ints .i64 [fj,ff]) rfl rfl (An9 fj ff)) rfl ?_
  refine⟨ext_alloc _ _,?_⟩
  replace M:=bx (M.o.alloc (P:=[ints .i64 [fj,ff]]) (ls:=[2]) rfl rfl 3)
  refine zNM ?_
  refine zMRd ?_
  refine zH8 M ?_;clear M;intro w9 M;refine NoPanic.normal ?_
  generalize w8.heap.size=gk at *
  obtain⟨Γ2,f1,f2,f3⟩:=M.o.frzS 2
  clear M
  have M:=bx f3
  have HK:=bx f1
  have L2:=bx f2
  clear f1 f2 f3 FJ FF
  have JG:Bx (∀w,Ok Γ2 w->Calls Tryz.prog 173 #[.agg [x1.s.nodes.v].toArray,.int .i64 fb,.agg (fl (vdP v)).toArray,.slice (some ⟨gk,0,none⟩) 2 2] w (TrE Γ2 w (judgeN z1.s.nodes fb v [fj,ff]))):=⟨fun w ok=>AmQ Γ2 x1.s.nodes z1.s.nodes fb v _ 2 [fj,ff] w ok (HG1.o.s.nodes.mono L2.o) HZ1.o.s.t.lk HZ1.o.s.t.pos (by have:=HZ1.o.s.nl;omega) HK.o (by simp)⟩
  have FB:=bx (fun w (ok:Ok Γ2 w)=>Aag Γ2 x1.s.nodes z1.s.nodes r.block w ok (HG1.o.s.nodes.mono L2.o))
  rw[HFB.o]at FB
  obtain⟨jr,hjr⟩:∃jr,judgeN z1.s.nodes fb v [fj,ff]=jr:=⟨_,rfl⟩
  have HJ:Bx (jr.1=0->∀rr,ZI k {z1 with s:={z1.s with nodes:=jr.2,boost:=rr}}):=⟨fun h0 rr=>by
   have e:judgeN z1.s.nodes fb v [fj,ff]=(0,jr.2):=by rw[hjr,<-h0]
   obtain⟨q,hq,rfl⟩:=JD.o _ _ _ e
   exact JZ.o _ hq _ _ e⟩
  rw[hjr]at JG
  obtain⟨je,jM⟩:=jr
  simp only at HJ
  clear JD JZ hjr HK
  (go_wp2_with (fail))
  refine Aad [16] (.steps [(1,0),(1,1),(0,2),(1,3),(1,4),(0,5),(1,6),(0,7),(0,9),(1,10),(4,8)] (.fork 11 (.steps [(1,12),(1,13),(1,14),(2,15),(3,16),(1,17)] .leaf) 15 (.steps [(2,11),(1,12),(1,13),(1,14),(3,16),(1,17)] .leaf))) (by kernel_rfl) (by kernel_rfl) ?_;(simp only[MixT8,MT.steps,stepAt,List.getD_cons_zero,List.getD_cons_succ]);replace M:=bx (M.o.drew)
  refine zNM ?_
  refine zMRd ?_
  (refine Aa4 (fun w' hw'=>((FB.o _ (M.ok.below hw'.o)).mono fun _ _ ⟨e,hx⟩=>⟨e,hx.bel⟩)) Tryz.func24 rfl rfl rfl ?_ ?_ ?_);rfl;rfl;refine zNM ?_
  refine zH8 M ?_;clear M;intro w8 M
  refine⟨?_,?_⟩
  focus
   refine zMC (JG.o _ M.ok) Tryz.func173 ?_;rintro e1 w1 ⟨xM,ΓM,rfl,hN,hx⟩;refine⟨_,rfl,hx.bel,?_⟩;replace M:=bx (M.o.call hx);have HN:=bx hN;have LM:=bx hx.le;clear hx hN;refine zNM ?_;refine zMRd ?_
   refine zH8 M ?_;clear M;intro w8 M
   refine AaA (AaR rfl Aa1) rfl ?_;refine⟨ext_alloc _ _,?_⟩;replace M:=bx (M.o.alloc (P:=[[.slice none 0 0]]) (ls:=[1]) rfl rfl 46);refine zNM ?_
   refine zMRd ?_
  rotate_left
  focus
   refine AaA (AaR rfl Aa1) rfl ?_;refine⟨ext_alloc _ _,?_⟩;replace M:=bx (M.o.alloc (P:=[[.slice none 0 0]]) (ls:=[1]) rfl rfl 46);refine zNM ?_
   refine zMRd ?_
   refine zH8 M ?_;clear M;intro w8 M
   refine zMC (JG.o _ M.ok) Tryz.func173 ?_;rintro e1 w1 ⟨xM,ΓM,rfl,hN,hx⟩;refine⟨_,rfl,hx.bel,?_⟩;replace M:=bx (M.o.call hx);have HN:=bx hN;have LM:=bx hx.le;clear hx hN;refine zNM ?_;refine zMRd ?_
  all_goals
   refine zH8 M ?_;clear M;intro w8 M
   refine zXS M 0 [[xM.v]] [[xM.v]] rfl (Aak _ _ _) ?_;clear M;intro w7 M
   refine zMRd ?_
   refine zH8 M ?_;clear M;intro w9 M;refine NoPanic.normal ?_
   by_cases he:je=0
   .subst he
    have HJ0:=bx (fun rr=>(HJ.o rfl rr).more (Nat.le_succ k))
    clear HJ
    have FT:=bx (fun w ok=>Aag ΓM xM jM z1.s.boost w ok HN.o)
    rcases Ab8 jM z1.s.boost with n1|⟨b,hb,n1⟩
    .rw[n1]at FT
     clear n1
     (go_wp2_with (first|(refine zSSd M 1 [[xM.v]] (zsP {z1 with s:={z1.s with nodes:=jM}} {x1 with s:={x1.s with nodes:=xM}}) (rfl) (Aak _ _ _) ?_;clear M;intro w' M)|refine zLAd ?_))
     refine zCA M (FT.o _ M.ok) ?_;clear M;intro w1 M
     (go_wp2_with (first|go_skip|(refine zSSd M 3 (zsP {z1 with s:={z1.s with nodes:=jM}} {x1 with s:={x1.s with nodes:=xM}}) (zsP {z1 with s:={z1.s with nodes:=jM}} {x1 with s:={x1.s with nodes:=xM}}) (AaH _ _) (AaP _ _) ?_;clear M;intro w' M)|refine zLAd ?_))
     refine zRt M.o.at3 ?_
     exact⟨{z1 with s:={z1.s with nodes:=jM}},{x1 with s:={x1.s with nodes:=xM}},ΓM,0,rfl,⟨{HG1.o.s.mono (L2.o.trans LM.o)with nodes:=HN.o},HG1.o.reqs.mono (L2.o.trans LM.o),HG1.o.rets.mono (L2.o.trans LM.o)⟩,fun _=>HJ0.o _,M.o.ext⟩
    .rw[n1]at FT
     obtain⟨gn,hA,hf⟩:=HN.o.fz (f:=noP) (k:=240) AaK rfl b hb
     have HA:=bx hA
     have F1:=bx hf
     have hki:(b:Int)<(xM.n:Int):=by have:=HN.o.n;simp only at this;omega
     have hk0:0<=(b:Int):=by omega
     clear n1 hA hf
     generalize jM[b]=y at *
     (go_wp2_with (first|(refine zSSd M 1 [[xM.v]] (zsP {z1 with s:={z1.s with nodes:=jM}} {x1 with s:={x1.s with nodes:=xM}}) (rfl) (Aak _ _ _) ?_;clear M;intro w' M)|refine zLAd ?_))
     refine zCA M (FT.o _ M.ok) ?_;clear M;intro w1 M
     by_cases hs:y.st=2
     .have b1:(y.st==2)=true:=by rw[hs];rfl
      (go_wp2_with (first|refine zLHd HA ?_|refine zRFd F1 ?_|refine zBDd 29 [] (rc r0) (by kernel_rfl) ?_|((first|refine zSSd M 1 [rc r0] (zsP {z1 with s:={z1.s with nodes:=jM,boost:=r0}} {x1 with s:={x1.s with nodes:=xM}}) (lenR _) (Aac _) ?_|refine zSSd M 3 (zsP {z1 with s:={z1.s with nodes:=jM,boost:=r0}} {x1 with s:={x1.s with nodes:=xM}}) (zsP {z1 with s:={z1.s with nodes:=jM,boost:=r0}} {x1 with s:={x1.s with nodes:=xM}}) (AaH _ _) (AaP _ _) ?_);clear M;intro w' M)|refine zLAd ?_))
      refine zRt M.o.at3 ?_
      exact⟨{z1 with s:={z1.s with nodes:=jM,boost:=r0}},{x1 with s:={x1.s with nodes:=xM}},ΓM,0,rfl,⟨{HG1.o.s.mono (L2.o.trans LM.o)with nodes:=HN.o},HG1.o.reqs.mono (L2.o.trans LM.o),HG1.o.rets.mono (L2.o.trans LM.o)⟩,fun _=>HJ0.o _,M.o.ext⟩
     .have b1:(y.st==2)=false:=beq_eq_false_iff_ne.2 hs
      (go_wp2_with (first|refine zLHd HA ?_|refine zRFd F1 ?_|(refine zSSd M 3 (zsP {z1 with s:={z1.s with nodes:=jM}} {x1 with s:={x1.s with nodes:=xM}}) (zsP {z1 with s:={z1.s with nodes:=jM}} {x1 with s:={x1.s with nodes:=xM}}) (AaH _ _) (AaP _ _) ?_;clear M;intro w' M)|refine zLAd ?_))
      refine zRt M.o.at3 ?_
      exact⟨{z1 with s:={z1.s with nodes:=jM}},{x1 with s:={x1.s with nodes:=xM}},ΓM,0,rfl,⟨{HG1.o.s.mono (L2.o.trans LM.o)with nodes:=HN.o},HG1.o.reqs.mono (L2.o.trans LM.o),HG1.o.rets.mono (L2.o.trans LM.o)⟩,fun _=>HJ0.o _,M.o.ext⟩
   .have he':(je != 0)=true:=by simp[he]
    (go_wp2_with (first|((first|refine zS1d M 5 (.bool true) (zsP {z with halt:=true} x) ?_|refine zSSd M 3 (zsP {z with halt:=true} x) (zsP {z with halt:=true} x) (AaH _ _) (AaP _ _) ?_);clear M;intro w' M)|refine zLAd ?_))
    refine zRt M.o.at3 ?_
    exact⟨{z with halt:=true},x,ΓM,21,rfl,⟨(HG.o.mono M.o.ext.le).s,(HG.o.mono M.o.ext.le).reqs,(HG.o.mono M.o.ext.le).rets⟩,fun _=>(HZ.o.more (Nat.le_succ k)).halt true,M.o.ext⟩
end Go.Proofs.YtpaihpeoiliioaaGreat
