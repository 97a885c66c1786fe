/- Texts joined: what the walks of this claim stand on (part 3). -/
import Derived.Test.YtpaihpeoiliioaaGreatKK2
set_option linter.all false
set_option maxRecDepth 20000
set_option maxHeartbeats 40000000
namespace Go.Proofs.YtpaihpeoiliioaaGreat
section
open Go.RowKit
section
variable {P:Program}{ops:Array Oper}{md:Region.Mode}{Q:Exit->Act->World->Prop}
def wpAnyI(P:Program)(md:Region.Mode)(ops:Array Oper)(Q:Exit->Act->World->Prop)(C:World->Prop):Nat->Array Bool->Act->World->Prop
 |0,listed,a,w=>Region.ready md ops listed = []/\Q .normal a w
 |f+1,listed,a,w=>(Region.ready md ops listed = []->Q .normal a w) /\
  ∀i∈Region.ready md ops listed,wpOp P ops Q i (fun a' w'=>C w'/\wpAnyI P md ops Q C f (listed.setIfInBounds i true) a' w') a w
theorem AgZ{C:World->Prop}:∀(f:Nat) (listed:Array Bool) (a:Act) (w:World),wpAnyI P md ops Q C f listed a w->wpAny P md ops Q f listed a w
 |0,listed,a,w,h=>h
 |f+1,listed,a,w,h=>⟨h.1,fun i hi=>wpOp_mono (fun a' w' h'=>AgZ f _ a' w' h'.2) (h.2 i hi)⟩
theorem AcV{C:World->Prop}{i:Nat}{oi:Oper}{v:Value}(hi:ops[i]? = some oi)(hsel:∀(j:Nat) (o:Oper) cs b,ops[j]? = some o->o.op ≠ .select cs b)
  (hQ:∀c a w,Q (.panic c) (a.put oi.dst v) w->Q (.panic c) a w) :
  ∀(f:Nat) (listed:Array Bool) (a:Act) (w:World),Closed md ops listed ->
   (∀j oj,ops[j]? = some oj->j≠i->listed.getD j true=false->(∀e∈oj.after,Region.binds md e=true->e.on≠i)->oi.apart ops oj=true) ->
   i∈Region.ready md ops listed->C w->(YieldsS P ops (fun _=>True) oi v a\/YieldsS P ops C oi v a) ->
   wpAnyI P md ops Q C f (listed.setIfInBounds i true) (a.put oi.dst v) w->wpAnyI P md ops Q C (f+1) listed a w:=by
 intro f
 induction f with
 |zero=>
  intro listed a w inv _ hr hC hy H
  refine⟨fun h=>(by rw[h]at hr;cases hr),fun j hj=>?_⟩
  by_cases hji:j=i
  .subst hji
   rcases hy with hy|hy
   .exact hy.wpOp hi trivial ⟨hC,H⟩
   .exact hy.wpOp hi hC ⟨hC,H⟩
  .have:=ready_mono hj hji
   rw[H.1]at this
   cases this
 |succ f ih=>
  intro listed a w inv hfree hr hC hy H
  have hun:=(mem_ready.1 hr).1
  refine⟨fun h=>(by rw[h]at hr;cases hr),fun j hj=>?_⟩
  by_cases hji:j=i
  .subst hji
   rcases hy with hy|hy
   .exact hy.wpOp hi trivial ⟨hC,H⟩
   .exact hy.wpOp hi hC ⟨hC,H⟩
  .have h1:=H.2 j (ready_mono hj hji)
   obtain⟨hjun,oj,hoj,hall⟩:=mem_ready.1 hj
   have hnot:∀e∈oj.after,Region.binds md e=true->e.on≠i:=fun e he hb heq=>by
    have h1:=hall e he hb
    rw[heq,getD_both hun]at h1
    cases h1
   have hfree':∀k ok,ops[k]? = some ok->k≠i->(listed.setIfInBounds j true).getD k true=false ->
     (∀e∈ok.after,Region.binds md e=true->e.on≠i)->oi.apart ops ok=true:=fun k ok hk hki hun2 hno=>by
    refine hfree k ok hk hki ?_ hno
    by_cases hjk:j=k
    .subst hjk;exact hjun
    .rw[getD_set_ne true hjk]at hun2;exact hun2
   have h2:=Aee hoj (hfree j oj hoj hji hjun hnot) (fun cs b=>hsel i oi cs b hi) (fun cs b=>hsel j oj cs b hoj) hQ h1
   refine wpOp_mono (fun a' w' h3=>⟨h3.2.1,ih (listed.setIfInBounds j true) a' w' (inv.set hj) hfree' (ready_mono hr (Ne.symm hji)) h3.2.1 ?_ ?_⟩) h2
   .rcases hy with hy|hy
    .exact .inl (h3.1 _ hy)
    .exact .inr (h3.1 _ hy)
   .rw[Array.setIfInBounds_comm _ _ hji]
    exact h3.2.2
def stepB7(md:Region.Mode)(ops:Array Oper)(c i:Nat)(listed:Array Bool):Bool:=
 (Region.ready md ops listed).contains i&&(if 2<=c then decide (Region.ready md ops listed = [i])else Region.free md ops listed i&&isPure (ops.getD i default).op)
def mixRun7(md:Region.Mode)(ops:Array Oper):MT->Array Bool->Bool
 |.leaf,listed=>(Region.ready md ops listed).isEmpty
 |.one c i rest,listed=>stepB7 md ops c i listed&&mixRun7 md ops rest (listed.setIfInBounds i true)
 |.fork i ri j rj,listed=>(Region.ready md ops listed).all (fun k=>k==i||k==j)&&(Region.ready md ops listed).contains i&&decide (ri.len=rj.len) &&
   mixRun7 md ops ri (listed.setIfInBounds i true)&&mixRun7 md ops rj (listed.setIfInBounds j true)
 |.fork3 i ri j rj k rk,listed=>(Region.ready md ops listed).all (fun z=>z==i||z==j||z==k)&&(Region.ready md ops listed).contains i&&decide (ri.len=rj.len)&&decide (ri.len=rk.len) &&
   mixRun7 md ops ri (listed.setIfInBounds i true)&&mixRun7 md ops rj (listed.setIfInBounds j true)&&mixRun7 md ops rk (listed.setIfInBounds k true)
def stepI(P:Program)(ops:Array Oper)(Q:Exit->Act->World->Prop)(C:World->Prop)(l:List Oper)(i:Nat)(K:Act->World->Prop)(a:Act)(w:World):Prop:=
 if Region.wanted (l.getD i default) (yielded ops a.tmps)=true then(l.getD i default).wp P a w (fun a2 w2=>C w2/\K a2 w2) Q else K (a.put (l.getD i default).dst undef) w
def MixT7(P:Program)(ops:Array Oper)(Q:Exit->Act->World->Prop)(C:World->Prop)(l:List Oper):MT->Act->World->Prop
 |.leaf,a,w=>Q .normal a w
 |.one c i rest,a,w=>match c with
  |0=>wpQuiet P ops C (fun a'=>MixT7 P ops Q C l rest a' w) [l.getD i default] a
  |1=>wpQuiet P ops (fun _=>True) (fun a'=>MixT7 P ops Q C l rest a' w) [l.getD i default] a
  |_=>stepI P ops Q C l i (MixT7 P ops Q C l rest) a w
 |.fork i ri j rj,a,w=>stepI P ops Q C l i (MixT7 P ops Q C l ri) a w/\stepI P ops Q C l j (MixT7 P ops Q C l rj) a w
 |.fork3 i ri j rj k rk,a,w=>stepI P ops Q C l i (MixT7 P ops Q C l ri) a w/\stepI P ops Q C l j (MixT7 P ops Q C l rj) a w/\stepI P ops Q C l k (MixT7 P ops Q C l rk) a w
theorem Adp{C:World->Prop}{l:List Oper}{i:Nat}{oi:Oper}(hoi:l.toArray[i]? = some oi){K K2:Act->World->Prop}{a:Act}{w:World}(hC:C w)(h:stepI P l.toArray Q C l i K a w)(hK:∀a2 w2,C w2->K a2 w2->K2 a2 w2) :
  wpOp P l.toArray Q i (fun a2 w2=>C w2/\K2 a2 w2) a w:=by
 have hgd:=AcP hoi
 simp only[stepI,hgd]at h
 unfold Go.wpOp
 simp only[hoi]
 by_cases hw:Region.wanted oi (yielded l.toArray a.tmps)=true
 .rw[if_pos hw]at h |-
  exact .inl (Oper.wp_mono (fun a2 w2 hh=>⟨hh.1,hK _ _ hh.1 hh.2⟩) h)
 .rw[if_neg hw]at h |-
  exact⟨hC,hK _ _ hC h⟩
theorem Abm{C:World->Prop}{l:List Oper}(hsel:Region.noSelect l.toArray=true)
  (hQ:∀(d:Option Tmp) (v:Value) c a w,Q (.panic c) (a.put d v) w->Q (.panic c) a w) :
  ∀(t:MT) (listed:Array Bool) (a:Act) (w:World),Closed md l.toArray listed->mixRun7 md l.toArray t listed=true->C w->MixT7 P l.toArray Q C l t a w ->
   wpAnyI P md l.toArray Q C t.len listed a w
 |.leaf,listed,a,w,inv,hB,hC,h=>⟨by simpa [mixRun7]using hB,h⟩
 |.fork i ri j rj,listed,a,w,inv,hB,hC,h=>by
  simp only[mixRun7,Bool.and_eq_true,decide_eq_true_eq]at hB
  obtain⟨⟨⟨⟨hall,hc⟩,hlen⟩,hBi⟩,hBj⟩:=hB
  show wpAnyI P md l.toArray Q C (ri.len+1) listed a w
  refine⟨fun h0=>(by rw[h0]at hc;simp at hc),fun k hk=>?_⟩
  have hk2:=List.all_eq_true.1 hall k hk
  simp only[Bool.or_eq_true,beq_iff_eq]at hk2
  obtain⟨_,oi,hoi,_⟩:=mem_ready.1 hk
  rcases hk2 with rfl|rfl
  .exact Adp hoi hC h.1 (fun a2 w2 hC2 h2=>Abm hsel hQ ri _ a2 w2 (inv.set hk) hBi hC2 h2)
  .rw[hlen]
   exact Adp hoi hC h.2 (fun a2 w2 hC2 h2=>Abm hsel hQ rj _ a2 w2 (inv.set hk) hBj hC2 h2)
 |.fork3 i ri j rj k' rk,listed,a,w,inv,hB,hC,h=>by
  simp only[mixRun7,Bool.and_eq_true,decide_eq_true_eq]at hB
  obtain⟨⟨⟨⟨⟨⟨hall,hc⟩,hlen⟩,hlen2⟩,hBi⟩,hBj⟩,hBk⟩:=hB
  show wpAnyI P md l.toArray Q C (ri.len+1) listed a w
  refine⟨fun h0=>(by rw[h0]at hc;simp at hc),fun k hk=>?_⟩
  have hk2:=List.all_eq_true.1 hall k hk
  simp only[Bool.or_eq_true,beq_iff_eq]at hk2
  obtain⟨_,oi,hoi,_⟩:=mem_ready.1 hk
  rcases hk2 with(rfl|rfl)|rfl
  .exact Adp hoi hC h.1 (fun a2 w2 hC2 h2=>Abm hsel hQ ri _ a2 w2 (inv.set hk) hBi hC2 h2)
  .rw[hlen]
   exact Adp hoi hC h.2.1 (fun a2 w2 hC2 h2=>Abm hsel hQ rj _ a2 w2 (inv.set hk) hBj hC2 h2)
  .rw[hlen2]
   exact Adp hoi hC h.2.2 (fun a2 w2 hC2 h2=>Abm hsel hQ rk _ a2 w2 (inv.set hk) hBk hC2 h2)
 |.one c i rest,listed,a,w,inv,hB,hC,h=>by
  simp only[mixRun7,Bool.and_eq_true]at hB
  obtain⟨hcnd,h1⟩:=hB
  simp only[stepB7,Bool.and_eq_true]at hcnd
  obtain⟨hrd,hcnd⟩:=hcnd
  have hr':i∈Region.ready md l.toArray listed:=by simpa using hrd
  obtain⟨_,oi,hoi,_⟩:=mem_ready.1 hr'
  have hgd:=AcP hoi
  have hgd2:l.toArray.getD i default=oi:=by simp[Array.getD_eq_getD_getElem?,hoi]
  show wpAnyI P md l.toArray Q C (rest.len+1) listed a w
  match c,hcnd,h with
  |0,hcnd,h=>
   rw[if_neg (show ¬2<=0 by omega)]at hcnd
   simp only[Bool.and_eq_true]at hcnd
   obtain⟨hfr,hpu⟩:=hcnd
   rw[hgd2]at hpu
   simp only[MixT7,hgd]at h
   unfold wpQuiet at h
   by_cases hw:Region.wanted oi (yielded l.toArray a.tmps)=true
   .rw[if_pos hw]at h
    obtain⟨v,hv,hq⟩:=h
    exact AcV hoi (Region.noSelect_spec hsel) (hQ _ _) _ listed a w inv (Region.free_spec hoi hfr) hr' hC (.inr (.inl ⟨hw,fun w' hw'=>Ab5 hpu (hv w' hw')⟩))
     (Abm hsel hQ rest _ _ w (inv.set hr') h1 hC hq)
   .rw[if_neg hw]at h
    exact AcV hoi (Region.noSelect_spec hsel) (hQ _ _) _ listed a w inv (Region.free_spec hoi hfr) hr' hC (.inl (.inr ⟨by simpa using hw,rfl⟩))
     (Abm hsel hQ rest _ _ w (inv.set hr') h1 hC h)
  |1,hcnd,h=>
   rw[if_neg (show ¬2<=1 by omega)]at hcnd
   simp only[Bool.and_eq_true]at hcnd
   obtain⟨hfr,hpu⟩:=hcnd
   rw[hgd2]at hpu
   simp only[MixT7,hgd]at h
   unfold wpQuiet at h
   by_cases hw:Region.wanted oi (yielded l.toArray a.tmps)=true
   .rw[if_pos hw]at h
    obtain⟨v,hv,hq⟩:=h
    exact AcV hoi (Region.noSelect_spec hsel) (hQ _ _) _ listed a w inv (Region.free_spec hoi hfr) hr' hC (.inl (.inl ⟨hw,fun w' hw'=>Ab5 hpu (hv w' hw')⟩))
     (Abm hsel hQ rest _ _ w (inv.set hr') h1 hC hq)
   .rw[if_neg hw]at h
    exact AcV hoi (Region.noSelect_spec hsel) (hQ _ _) _ listed a w inv (Region.free_spec hoi hfr) hr' hC (.inl (.inr ⟨by simpa using hw,rfl⟩))
     (Abm hsel hQ rest _ _ w (inv.set hr') h1 hC h)
  |c+2,hcnd,hm=>
   rw[if_pos (show 2<=c+2 by omega)]at hcnd
   have hrd2:=of_decide_eq_true hcnd
   refine⟨fun h0=>(by rw[h0]at hr';cases hr'),fun j hj=>?_⟩
   rw[hrd2]at hj
   obtain rfl:j=i:=by simpa using hj
   exact Adp hoi hC hm (fun a2 w2 hC2 h2=>Abm hsel hQ rest _ a2 w2 (inv.set hr') h1 hC2 h2)
def mixB7(md:Region.Mode)(ops:Array Oper)(t:MT):Bool:=
 Region.noSelect ops&&decide (t.len=ops.size)&&mixRun7 md ops t (Array.replicate ops.size false)
theorem AaF{id:Nat}{a:Act}{w:World}{l:List Oper}(C:World->Prop)(t:MT)(hm:P.follows .mixedOrders=true)(hB:mixB7 .any l.toArray t=true)(hC:C w.drew)
  (h:MixT7 P l.toArray (NoPanic Q) C l t a w.drew):(Code.region id l.toArray true).wp P Q a w:=by
 refine wp_region_noPanic ?_
 simp only[mixB7,Bool.and_eq_true,decide_eq_true_eq]at hB
 obtain⟨⟨hsel,hlen⟩,hB⟩:=hB
 have inv0:Closed .any l.toArray (Array.replicate l.toArray.size false):=⟨by simp,fun j oj _ hl=>(by rw[getD_replicate_false]at hl;cases hl)⟩
 have H:=Abm (P:=P) (Q:=NoPanic Q) hsel (fun _ _ _ _ _ hh=>hh) t _ a w.drew inv0 hB hC h
 rw[hlen]at H
 exact wp_region_any hm (AgZ _ _ _ _ H)
end
open Go.RowKit
theorem zrts{A:Prop}(h:A:=by first|(first|exact AqW|exact rtCk|exact rtSt|exact Aap|exact rtBl|exact rtNo|exact rtTb|exact rtVo|exact rtCf|exact Ai3|exact rtZs|exact rtAt|exact rtRq|exact rtCm|exact rtWd|exact rtCl|exact rtSl|exact rtVd|exact rtOp)|exact rtPu):A:=h
theorem zots{A:Prop}(h:A:=by first|(first|exact Ac5|exact Aqc|exact AiC|exact Apb|exact Aqb|exact Aqd|exact ArR|exact ArQ|exact Anx|exact Anw|exact AhE)|exact otPt|exact otPs|exact otPb|exact otIs|exact otVs):A:=h
theorem AqJ{A:Prop}(h:A:=by(first|with_reducible exact AaD _ _|with_reducible exact AaK _|with_reducible exact AaZ _|with_reducible exact AaH _ _|with_reducible exact AbB _ _|with_reducible exact AaY _|with_reducible exact Aai _|with_reducible exact AbA _ _|with_reducible exact Ac2 _|with_reducible exact AaC _|with_reducible exact AaS _ _|with_reducible exact len1 _|with_reducible exact lenR _|with_reducible exact lenW _|with_reducible exact Adi _ _|with_reducible exact AdY _ _ _|with_reducible exact Abe _|with_reducible exact Aat _ _|(simp[Aav,AdR];done))):A:=h
theorem zCT{A B:Prop}(h:B)(hs:B->A:=by(intro hh';(first|simp only[Nat.reduceAdd,List.drop_zero,AeY,AeX,AcH,Af0,AcS,AcT,AdK,AdL,Afy,AdJ,AcQ,AcR,AdH,AdI,Afv,Af1,AdM,Afx,Afz,Aeu,Afw,AdG,AdD,AdE,AdF,Afu,Ac8,AdC,AdA,AdB,Ac9,AkZ,AkW,AfD,AfC,AkV,AkY,AfH,AfI,AfG,AfF,AfE,Apu,Apv]|simp only[Nat.reduceAdd,List.drop_zero,AeY,AeX,AcH,Af0,AcS,AcT,AdK,AdL,Afy,AdJ,AcQ,AcR,AdH,AdI,Afv,Af1,AdM,Afx,Afz,Aeu,Afw,AdG,AdD,AdE,AdF,Afu,Ac8,AdC,AdA,AdB,Ac9,AkZ,AkW,AfD,AfC,AkV,AkY,AfH,AfI,AfG,AfF,AfE,AkX,Ams,Amr]|simp only[Nat.reduceAdd,List.drop_zero,AeY,AeX,AcH,Af0,AcS,AcT,AdK,AdL,Afy,AdJ,AcQ,AcR,AdH,AdI,Afv,Af1,AdM,Afx,Afz,Aeu,Afw,AdG,AdD,AdE,AdF,Afu,Ac8,AdC,AdA,AdB,Ac9,AkZ,AkW,AfD,AfC,AkV,AkY,AfH,AfI,AfG,AfF,AfE,AkX]|simp only[Nat.reduceAdd,List.drop_zero,AeY,AeX,AcH,Af0,AcS,AcT,AdK,AdL,Afy,AdJ,AcQ,AcR,AdH,AdI,Afv,Af1,AdM,Afx,Afz,Aeu,Afw,AdG,AdD,AdE,AdF,Afu,Ac8,AdC,AdA,AdB,Ac9,AkZ,AkW,AfD,AfC,AkV,AkY,AfH,AfI,AfG,AfF,AfE]|simp only[Nat.reduceAdd,List.drop_zero,AeY,AeX,AcH,Af0,AcS,AcT,AdK,AdL,Afy,AdJ,AcQ,AcR,AdH,AdI,Afv,Af1,AdM,Afx,Afz,Aeu,Afw,AdG,AdD,AdE,AdF,Afu,Ac8,AdC,AdA,AdB,Ac9,AkX,Ams,Amr]|simp only[Nat.reduceAdd,List.drop_zero,AeY,AeX,AcH,Af0,AcS,AcT,AdK,AdL,Afy,AdJ,AcQ,AcR,AdH,AdI,Afv,Af1,AdM,Afx,Afz,Aeu,Afw,AdG,AdD,AdE,AdF,Afu,Ac8,AdC,AdA,AdB,Ac9,AkX]|simp only[Nat.reduceAdd,List.drop_zero,AeY,AeX,AcH,Af0,AcS,AcT,AdK,AdL,Afy,AdJ,AcQ,AcR,AdH,AdI,Afv,Af1,AdM,Afx,Afz,Aeu,Afw,AdG,AdD,AdE,AdF,Afu,Ac8,AdC,AdA,AdB,Ac9]|simp only[Nat.reduceAdd,List.drop_zero,AeY,AeX,AcH,Aeu]|simp only[Nat.reduceAdd,List.drop_zero,AeY,AeX,AcH]|skip);exact hh')):A:=hs h
theorem zQL{C:World->Prop}{g:Nat}{P:List (List Value)}{ls:List Nat}(H:∀w',C w'->HL w' g P ls)(H0:P.map List.length=ls){A B:Prop}(h:B)(hs:(∀w',C w'->HL w' g P ls)->P.map List.length=ls->B->A:=by(intro HX HY hh';(first|((with_reducible apply AaM HX HY);rfl;rfl;exact zrts;rfl;rfl;skip)|((with_reducible apply AaL HX);rfl;rfl;exact zots;rfl;rfl;skip)|((with_reducible apply AaI HX HY);rfl;rfl;exact zrts;rfl;refine zCT ?_;skip));exact hh')):A:=hs H H0 h
theorem zQR{C:World->Prop}{g b:Nat}{P:List (List Value)}{ls:List Nat}(H:∀w',C w'->CL w' g b P ls)(H0:P.map List.length=ls){A B:Prop}(h:B)(hs:(∀w',C w'->CL w' g b P ls)->P.map List.length=ls->B->A:=by(intro HX HY hh';(first|((with_reducible apply Ah4 HX HY);rfl;rfl;exact zrts;rfl;rfl;skip)|((with_reducible apply Ah5 HX);rfl;rfl;exact zots;rfl;rfl;skip)|((with_reducible apply quiet_rds HX HY);rfl;rfl;exact zrts;rfl;refine zCT ?_;skip)|((with_reducible apply Agi HX HY);rfl;rfl;exact zrts;rfl;rfl;skip)|((with_reducible apply Agj HX);rfl;rfl;exact zots;rfl;rfl;skip)|((with_reducible apply Agh HX HY);rfl;rfl;exact zrts;rfl;refine zCT ?_;skip));exact hh')):A:=hs H H0 h
theorem zQE{C:World->Prop}{g:Nat}{P:List (List Value)}{ls:List Nat}(H:∀w',C w'->HL w' g P ls){v v':Value}(e:v=v'){A B:Prop}(h:B)(hs:(∀w',C w'->HL w' g P ls)->v=v'->B->A:=by(intro HX HY hh';(((with_reducible apply Aax HX HY);rfl;rfl;exact zots;rfl;rfl;skip));exact hh')):A:=hs H e h
theorem zQO{A B:Prop}(h:B)(hs:B->A:=by(intro hh';(go_big_quiet_op;try(with_reducible refine⟨_,fun _ _=>rfl,?_⟩));exact hh')):A:=hs h
theorem zQAo{A B:Prop}(h:B)(hs:B->A:=by(intro hh';(((with_reducible refine AbY ?_);first|((with_reducible apply AaM M.o.at0.cls M.o.at0.len);rfl;rfl;exact zrts;rfl;rfl;skip)|((with_reducible apply AaL M.o.at0.cls);rfl;rfl;exact zots;rfl;rfl;skip)|((with_reducible apply AaI M.o.at0.cls M.o.at0.len);rfl;rfl;exact zrts;rfl;refine zCT ?_;skip)|((with_reducible apply AaM M.o.at1.cls M.o.at1.len);rfl;rfl;exact zrts;rfl;rfl;skip)|((with_reducible apply AaL M.o.at1.cls);rfl;rfl;exact zots;rfl;rfl;skip)|((with_reducible apply AaI M.o.at1.cls M.o.at1.len);rfl;rfl;exact zrts;rfl;refine zCT ?_;skip)|((with_reducible apply AaM M.o.at2.cls M.o.at2.len);rfl;rfl;exact zrts;rfl;rfl;skip)|((with_reducible apply AaL M.o.at2.cls);rfl;rfl;exact zots;rfl;rfl;skip)|((with_reducible apply AaI M.o.at2.cls M.o.at2.len);rfl;rfl;exact zrts;rfl;refine zCT ?_;skip)|((with_reducible apply AaM M.o.at3.cls M.o.at3.len);rfl;rfl;exact zrts;rfl;rfl;skip)|((with_reducible apply AaL M.o.at3.cls);rfl;rfl;exact zots;rfl;rfl;skip)|((with_reducible apply AaI M.o.at3.cls M.o.at3.len);rfl;rfl;exact zrts;rfl;refine zCT ?_;skip)|((with_reducible apply AaM M.o.at4.cls M.o.at4.len);rfl;rfl;exact zrts;rfl;rfl;skip)|((with_reducible apply AaL M.o.at4.cls);rfl;rfl;exact zots;rfl;rfl;skip)|((with_reducible apply AaI M.o.at4.cls M.o.at4.len);rfl;rfl;exact zrts;rfl;refine zCT ?_;skip)|((with_reducible apply AaM M.o.at5.cls M.o.at5.len);rfl;rfl;exact zrts;rfl;rfl;skip)|((with_reducible apply AaL M.o.at5.cls);rfl;rfl;exact zots;rfl;rfl;skip)|((with_reducible apply AaI M.o.at5.cls M.o.at5.len);rfl;rfl;exact zrts;rfl;refine zCT ?_;skip)|((with_reducible apply AaM M.o.at6.cls M.o.at6.len);rfl;rfl;exact zrts;rfl;rfl;skip)|((with_reducible apply AaL M.o.at6.cls);rfl;rfl;exact zots;rfl;rfl;skip)|((with_reducible apply AaI M.o.at6.cls M.o.at6.len);rfl;rfl;exact zrts;rfl;refine zCT ?_;skip)|((with_reducible apply AaM M.o.at7.cls M.o.at7.len);rfl;rfl;exact zrts;rfl;rfl;skip)|((with_reducible apply AaL M.o.at7.cls);rfl;rfl;exact zots;rfl;rfl;skip)|((with_reducible apply AaI M.o.at7.cls M.o.at7.len);rfl;rfl;exact zrts;rfl;refine zCT ?_;skip)|((with_reducible apply AaM M.o.at8.cls M.o.at8.len);rfl;rfl;exact zrts;rfl;rfl;skip)|((with_reducible apply AaL M.o.at8.cls);rfl;rfl;exact zots;rfl;rfl;skip)|((with_reducible apply AaI M.o.at8.cls M.o.at8.len);rfl;rfl;exact zrts;rfl;refine zCT ?_;skip)|((with_reducible apply AaM M.o.at9.cls M.o.at9.len);rfl;rfl;exact zrts;rfl;rfl;skip)|((with_reducible apply AaL M.o.at9.cls);rfl;rfl;exact zots;rfl;rfl;skip)|((with_reducible apply AaI M.o.at9.cls M.o.at9.len);rfl;rfl;exact zrts;rfl;refine zCT ?_;skip)|((with_reducible apply AaM M.o.at10.cls M.o.at10.len);rfl;rfl;exact zrts;rfl;rfl;skip)|((with_reducible apply AaL M.o.at10.cls);rfl;rfl;exact zots;rfl;rfl;skip)|((with_reducible apply AaI M.o.at10.cls M.o.at10.len);rfl;rfl;exact zrts;rfl;refine zCT ?_;skip)|((with_reducible apply AaM M.o.at11.cls M.o.at11.len);rfl;rfl;exact zrts;rfl;rfl;skip)|((with_reducible apply AaL M.o.at11.cls);rfl;rfl;exact zots;rfl;rfl;skip)|((with_reducible apply AaI M.o.at11.cls M.o.at11.len);rfl;rfl;exact zrts;rfl;refine zCT ?_;skip)|((with_reducible apply AaM M.o.at12.cls M.o.at12.len);rfl;rfl;exact zrts;rfl;rfl;skip)|((with_reducible apply AaL M.o.at12.cls);rfl;rfl;exact zots;rfl;rfl;skip)|((with_reducible apply AaI M.o.at12.cls M.o.at12.len);rfl;rfl;exact zrts;rfl;refine zCT ?_;skip)));exact hh')):A:=hs h
theorem zQHo{A B X:Prop}(x:X)(h:B)(hs:X->B->A:=by(intro HX hh';(((with_reducible refine AbY ?_);first|((with_reducible apply Aax M.o.at0.cls HX.o);rfl;rfl;exact zots;rfl;rfl;skip)|((with_reducible apply Aax M.o.at1.cls HX.o);rfl;rfl;exact zots;rfl;rfl;skip)|((with_reducible apply Aax M.o.at2.cls HX.o);rfl;rfl;exact zots;rfl;rfl;skip)|((with_reducible apply Aax M.o.at3.cls HX.o);rfl;rfl;exact zots;rfl;rfl;skip)|((with_reducible apply Aax M.o.at4.cls HX.o);rfl;rfl;exact zots;rfl;rfl;skip)|((with_reducible apply Aax M.o.at5.cls HX.o);rfl;rfl;exact zots;rfl;rfl;skip)|((with_reducible apply Aax M.o.at6.cls HX.o);rfl;rfl;exact zots;rfl;rfl;skip)|((with_reducible apply Aax M.o.at7.cls HX.o);rfl;rfl;exact zots;rfl;rfl;skip)|((with_reducible apply Aax M.o.at8.cls HX.o);rfl;rfl;exact zots;rfl;rfl;skip)|((with_reducible apply Aax M.o.at9.cls HX.o);rfl;rfl;exact zots;rfl;rfl;skip)|((with_reducible apply Aax M.o.at10.cls HX.o);rfl;rfl;exact zots;rfl;rfl;skip)|((with_reducible apply Aax M.o.at11.cls HX.o);rfl;rfl;exact zots;rfl;rfl;skip)|((with_reducible apply Aax M.o.at12.cls HX.o);rfl;rfl;exact zots;rfl;rfl;skip)));exact hh')):A:=hs x h
theorem zQFo{A B X:Prop}(x:X)(h:B)(hs:X->B->A:=by(intro HX hh';(((with_reducible refine AbY ?_);first|((with_reducible apply Ah4 (HX.o.cls M.ok) HX.o.len);rfl;rfl;exact zrts;rfl;rfl;skip)|((with_reducible apply Ah5 (HX.o.cls M.ok));rfl;rfl;exact zots;rfl;rfl;skip)|((with_reducible apply quiet_rds (HX.o.cls M.ok) HX.o.len);rfl;rfl;exact zrts;rfl;refine zCT ?_;skip)|((with_reducible apply Agi (HX.o.cls M.ok) HX.o.len);rfl;rfl;exact zrts;rfl;rfl;skip)|((with_reducible apply Agj (HX.o.cls M.ok));rfl;rfl;exact zots;rfl;rfl;skip)|((with_reducible apply Agh (HX.o.cls M.ok) HX.o.len);rfl;rfl;exact zrts;rfl;refine zCT ?_;skip)));exact hh')):A:=hs x h
theorem zQAd{A B:Prop}(h:B)(hs:B->A:=by(intro hh';(((with_reducible refine AbY ?_);((with_reducible apply AeK);rfl;rfl);(first|(first|((with_reducible apply LdAt.c1 M.o.at0.all);exact zots;rfl;rfl)|((with_reducible apply LdAt.p1 M.o.at0.all);exact zrts;rfl;rfl)|((with_reducible apply LdAt.ps M.o.at0.all);exact zrts;rfl;refine zCT ?_))|(first|((with_reducible apply LdAt.c1 M.o.at1.all);exact zots;rfl;rfl)|((with_reducible apply LdAt.p1 M.o.at1.all);exact zrts;rfl;rfl)|((with_reducible apply LdAt.ps M.o.at1.all);exact zrts;rfl;refine zCT ?_))|(first|((with_reducible apply LdAt.c1 M.o.at2.all);exact zots;rfl;rfl)|((with_reducible apply LdAt.p1 M.o.at2.all);exact zrts;rfl;rfl)|((with_reducible apply LdAt.ps M.o.at2.all);exact zrts;rfl;refine zCT ?_))|(first|((with_reducible apply LdAt.c1 M.o.at3.all);exact zots;rfl;rfl)|((with_reducible apply LdAt.p1 M.o.at3.all);exact zrts;rfl;rfl)|((with_reducible apply LdAt.ps M.o.at3.all);exact zrts;rfl;refine zCT ?_))|(first|((with_reducible apply LdAt.c1 M.o.at4.all);exact zots;rfl;rfl)|((with_reducible apply LdAt.p1 M.o.at4.all);exact zrts;rfl;rfl)|((with_reducible apply LdAt.ps M.o.at4.all);exact zrts;rfl;refine zCT ?_))|(first|((with_reducible apply LdAt.c1 M.o.at5.all);exact zots;rfl;rfl)|((with_reducible apply LdAt.p1 M.o.at5.all);exact zrts;rfl;rfl)|((with_reducible apply LdAt.ps M.o.at5.all);exact zrts;rfl;refine zCT ?_))|(first|((with_reducible apply LdAt.c1 M.o.at6.all);exact zots;rfl;rfl)|((with_reducible apply LdAt.p1 M.o.at6.all);exact zrts;rfl;rfl)|((with_reducible apply LdAt.ps M.o.at6.all);exact zrts;rfl;refine zCT ?_))|(first|((with_reducible apply LdAt.c1 M.o.at7.all);exact zots;rfl;rfl)|((with_reducible apply LdAt.p1 M.o.at7.all);exact zrts;rfl;rfl)|((with_reducible apply LdAt.ps M.o.at7.all);exact zrts;rfl;refine zCT ?_))|(first|((with_reducible apply LdAt.c1 M.o.at8.all);exact zots;rfl;rfl)|((with_reducible apply LdAt.p1 M.o.at8.all);exact zrts;rfl;rfl)|((with_reducible apply LdAt.ps M.o.at8.all);exact zrts;rfl;refine zCT ?_))|(first|((with_reducible apply LdAt.c1 M.o.at9.all);exact zots;rfl;rfl)|((with_reducible apply LdAt.p1 M.o.at9.all);exact zrts;rfl;rfl)|((with_reducible apply LdAt.ps M.o.at9.all);exact zrts;rfl;refine zCT ?_))|(first|((with_reducible apply LdAt.c1 M.o.at10.all);exact zots;rfl;rfl)|((with_reducible apply LdAt.p1 M.o.at10.all);exact zrts;rfl;rfl)|((with_reducible apply LdAt.ps M.o.at10.all);exact zrts;rfl;refine zCT ?_)));skip));exact hh')):A:=hs h
theorem zQHd{A B X:Prop}(x:X)(h:B)(hs:X->B->A:=by(intro HX hh';(((with_reducible refine AbY ?_);((with_reducible apply AeK);rfl;rfl);(first|((with_reducible apply LdAt.c1e M.o.at0.all HX.o);exact zots;rfl;rfl)|((with_reducible apply LdAt.c1e M.o.at1.all HX.o);exact zots;rfl;rfl)|((with_reducible apply LdAt.c1e M.o.at2.all HX.o);exact zots;rfl;rfl)|((with_reducible apply LdAt.c1e M.o.at3.all HX.o);exact zots;rfl;rfl)|((with_reducible apply LdAt.c1e M.o.at4.all HX.o);exact zots;rfl;rfl)|((with_reducible apply LdAt.c1e M.o.at5.all HX.o);exact zots;rfl;rfl)|((with_reducible apply LdAt.c1e M.o.at6.all HX.o);exact zots;rfl;rfl));skip));exact hh')):A:=hs x h
theorem zQFd{A B X:Prop}(x:X)(h:B)(hs:X->B->A:=by(intro HX hh';(((with_reducible refine AbY ?_);((with_reducible apply AeK);rfl;rfl);(first|((with_reducible apply LdAt.rc1 (HX.o.all M.ok));exact zots;rfl;rfl)|((with_reducible apply LdAt.rp1 (HX.o.all M.ok));exact zrts;rfl;rfl)|((with_reducible apply LdAt.rps (HX.o.all M.ok));exact zrts;rfl;refine zCT ?_)|((with_reducible apply LdAt.rc0 (HX.o.all M.ok));exact zots;rfl;rfl)|((with_reducible apply LdAt.rp0 (HX.o.all M.ok));exact zrts;rfl;rfl)|((with_reducible apply LdAt.rs0 (HX.o.all M.ok));exact zrts;rfl;refine zCT ?_));skip));exact hh')):A:=hs x h
def cellR:ResultVar->Bool
 |.cell _ _=>true
 |_=>false
structure Stop(p:Prop)(x:PLift p->Unit):Prop where
 out:p
theorem zsm{p:Prop}{x:PLift p->Unit}(h:p):Stop p x:=⟨h⟩
theorem Aoq{P:Program}{fn:Func}{R:Ending->World->Prop}{a:Act}{w:World}(h:Stop (bodyPost P fn R .ret a w) (fun _=>()))(hc:fn.results.toList.any cellR=true:=by rfl):bodyPost P fn R .ret a w:=h.out
theorem zNM{A B:Prop}(h:B)(hs:B->A:=by(intro hh';(simp only[Act.put,List.setIfInBounds_toArray,List.set_cons_succ,List.set_cons_zero]);exact hh')):A:=hs h
theorem zLAo{A B:Prop}(h:B)(hs:B->A:=by(intro hh';(first|(((with_reducible refine AiU ?_);first|((with_reducible apply Aaq M.o.at0);rfl;rfl;rfl;exact zrts;rfl;rfl)|((with_reducible apply Aar M.o.at0);rfl;rfl;rfl;exact zots;rfl;rfl)|((with_reducible apply Aaw M.o.at0);rfl;rfl;rfl;exact zrts;rfl;refine zCT ?_)|((with_reducible apply Aaq M.o.at1);rfl;rfl;rfl;exact zrts;rfl;rfl)|((with_reducible apply Aar M.o.at1);rfl;rfl;rfl;exact zots;rfl;rfl)|((with_reducible apply Aaw M.o.at1);rfl;rfl;rfl;exact zrts;rfl;refine zCT ?_)|((with_reducible apply Aaq M.o.at2);rfl;rfl;rfl;exact zrts;rfl;rfl)|((with_reducible apply Aar M.o.at2);rfl;rfl;rfl;exact zots;rfl;rfl)|((with_reducible apply Aaw M.o.at2);rfl;rfl;rfl;exact zrts;rfl;refine zCT ?_)|((with_reducible apply Aaq M.o.at3);rfl;rfl;rfl;exact zrts;rfl;rfl)|((with_reducible apply Aar M.o.at3);rfl;rfl;rfl;exact zots;rfl;rfl)|((with_reducible apply Aaw M.o.at3);rfl;rfl;rfl;exact zrts;rfl;refine zCT ?_)|((with_reducible apply Aaq M.o.at4);rfl;rfl;rfl;exact zrts;rfl;rfl)|((with_reducible apply Aar M.o.at4);rfl;rfl;rfl;exact zots;rfl;rfl)|((with_reducible apply Aaw M.o.at4);rfl;rfl;rfl;exact zrts;rfl;refine zCT ?_)|((with_reducible apply Aaq M.o.at5);rfl;rfl;rfl;exact zrts;rfl;rfl)|((with_reducible apply Aar M.o.at5);rfl;rfl;rfl;exact zots;rfl;rfl)|((with_reducible apply Aaw M.o.at5);rfl;rfl;rfl;exact zrts;rfl;refine zCT ?_)|((with_reducible apply Aaq M.o.at6);rfl;rfl;rfl;exact zrts;rfl;rfl)|((with_reducible apply Aar M.o.at6);rfl;rfl;rfl;exact zots;rfl;rfl)|((with_reducible apply Aaw M.o.at6);rfl;rfl;rfl;exact zrts;rfl;refine zCT ?_)|((with_reducible apply Aaq M.o.at7);rfl;rfl;rfl;exact zrts;rfl;rfl)|((with_reducible apply Aar M.o.at7);rfl;rfl;rfl;exact zots;rfl;rfl)|((with_reducible apply Aaw M.o.at7);rfl;rfl;rfl;exact zrts;rfl;refine zCT ?_)|((with_reducible apply Aaq M.o.at8);rfl;rfl;rfl;exact zrts;rfl;rfl)|((with_reducible apply Aar M.o.at8);rfl;rfl;rfl;exact zots;rfl;rfl)|((with_reducible apply Aaw M.o.at8);rfl;rfl;rfl;exact zrts;rfl;refine zCT ?_)|((with_reducible apply Aaq M.o.at9);rfl;rfl;rfl;exact zrts;rfl;rfl)|((with_reducible apply Aar M.o.at9);rfl;rfl;rfl;exact zots;rfl;rfl)|((with_reducible apply Aaw M.o.at9);rfl;rfl;rfl;exact zrts;rfl;refine zCT ?_)|((with_reducible apply Aaq M.o.at10);rfl;rfl;rfl;exact zrts;rfl;rfl)|((with_reducible apply Aar M.o.at10);rfl;rfl;rfl;exact zots;rfl;rfl)|((with_reducible apply Aaw M.o.at10);rfl;rfl;rfl;exact zrts;rfl;refine zCT ?_)|((with_reducible apply Aaq M.o.at11);rfl;rfl;rfl;exact zrts;rfl;rfl)|((with_reducible apply Aar M.o.at11);rfl;rfl;rfl;exact zots;rfl;rfl)|((with_reducible apply Aaw M.o.at11);rfl;rfl;rfl;exact zrts;rfl;refine zCT ?_)|((with_reducible apply Aaq M.o.at12);rfl;rfl;rfl;exact zrts;rfl;rfl)|((with_reducible apply Aar M.o.at12);rfl;rfl;rfl;exact zots;rfl;rfl)|((with_reducible apply Aaw M.o.at12);rfl;rfl;rfl;exact zrts;rfl;refine zCT ?_)))|(refine Aoq ?_));exact hh')):A:=hs h
theorem zRD{w:World}{g b:Nat}{P:List (List Value)}{ls:List Nat}(H:CL w g b P ls){A B:Prop}(h:B)(hs:CL w g b P ls->B->A:=by(intro HX hh';(first|((with_reducible apply AgT HX);rfl;rfl;rfl;exact zrts;rfl;rfl)|((with_reducible apply AgU HX);rfl;rfl;rfl;exact zots;rfl;rfl)|((with_reducible apply wpList_rds HX);rfl;rfl;rfl;exact zrts;rfl;refine zCT ?_)|((with_reducible apply wpList_rdp0 HX);rfl;rfl;rfl;exact zrts;rfl;rfl)|((with_reducible apply AfM HX);rfl;rfl;rfl;exact zots;rfl;rfl)|((with_reducible apply AfL HX);rfl;rfl;rfl;exact zrts;rfl;refine zCT ?_));exact hh')):A:=hs H h
theorem zLE{w:World}{g:Nat}{P:List (List Value)}{ls:List Nat}(H:HL w g P ls){v v':Value}(e:v=v'){A B:Prop}(h:B)(hs:HL w g P ls->v=v'->B->A:=by(intro HX HY hh';(((with_reducible apply Aan HX HY);rfl;rfl;rfl;exact zots;rfl;rfl));exact hh')):A:=hs H e h
theorem zLHo{A B X:Prop}(x:X)(h:B)(hs:X->B->A:=by(intro HX hh';(((with_reducible refine AiU ?_);first|((with_reducible apply Aan M.o.at0 HX.o);rfl;rfl;rfl;exact zots;rfl;rfl)|((with_reducible apply Aan M.o.at1 HX.o);rfl;rfl;rfl;exact zots;rfl;rfl)|((with_reducible apply Aan M.o.at2 HX.o);rfl;rfl;rfl;exact zots;rfl;rfl)|((with_reducible apply Aan M.o.at3 HX.o);rfl;rfl;rfl;exact zots;rfl;rfl)|((with_reducible apply Aan M.o.at4 HX.o);rfl;rfl;rfl;exact zots;rfl;rfl)|((with_reducible apply Aan M.o.at5 HX.o);rfl;rfl;rfl;exact zots;rfl;rfl)|((with_reducible apply Aan M.o.at6 HX.o);rfl;rfl;rfl;exact zots;rfl;rfl)|((with_reducible apply Aan M.o.at7 HX.o);rfl;rfl;rfl;exact zots;rfl;rfl)|((with_reducible apply Aan M.o.at8 HX.o);rfl;rfl;rfl;exact zots;rfl;rfl)|((with_reducible apply Aan M.o.at9 HX.o);rfl;rfl;rfl;exact zots;rfl;rfl)|((with_reducible apply Aan M.o.at10 HX.o);rfl;rfl;rfl;exact zots;rfl;rfl)|((with_reducible apply Aan M.o.at11 HX.o);rfl;rfl;rfl;exact zots;rfl;rfl)|((with_reducible apply Aan M.o.at12 HX.o);rfl;rfl;rfl;exact zots;rfl;rfl)));exact hh')):A:=hs x h
theorem zRFo{A B X:Prop}(x:X)(h:B)(hs:X->B->A:=by(intro HX hh';(((with_reducible refine AiU ?_);first|((with_reducible apply AgT (HX.o.cl M.ok));rfl;rfl;rfl;exact zrts;rfl;rfl)|((with_reducible apply AgU (HX.o.cl M.ok));rfl;rfl;rfl;exact zots;rfl;rfl)|((with_reducible apply wpList_rds (HX.o.cl M.ok));rfl;rfl;rfl;exact zrts;rfl;refine zCT ?_)|((with_reducible apply wpList_rdp0 (HX.o.cl M.ok));rfl;rfl;rfl;exact zrts;rfl;rfl)|((with_reducible apply AfM (HX.o.cl M.ok));rfl;rfl;rfl;exact zots;rfl;rfl)|((with_reducible apply AfL (HX.o.cl M.ok));rfl;rfl;rfl;exact zrts;rfl;refine zCT ?_)));exact hh')):A:=hs x h
theorem zLDo{A B X:Prop}(x:X)(h:B)(hs:X->B->A:=by(intro HX hh';((first|((with_reducible apply Aaq HX);rfl;rfl;rfl;exact zrts;rfl;rfl)|((with_reducible apply Aar HX);rfl;rfl;rfl;exact zots;rfl;rfl)|((with_reducible apply Aaw HX);rfl;rfl;rfl;exact zrts;rfl;refine zCT ?_)));exact hh')):A:=hs x h
theorem zM0{A B:Prop}(h:B)(hs:B->A:=by(intro hh';(first|(with_reducible refine wpQuiet_nil ?_)|go_big_quiet_skip);exact hh')):A:=hs h
theorem zMRo{A B:Prop}(h:B)(hs:B->A:=by(intro hh';((repeat(first|(with_reducible refine wpQuiet_nil ?_)|(first|go_big_quiet_skip|(go_big_quiet_want;first|(first|fail|((with_reducible refine AbY ?_);first|((with_reducible apply AaM M.o.at0.cls M.o.at0.len);rfl;rfl;exact zrts;rfl;rfl;go_big_quiet_on;(simp only[Act.put,List.setIfInBounds_toArray,List.set_cons_succ,List.set_cons_zero]))|((with_reducible apply AaL M.o.at0.cls);rfl;rfl;exact zots;rfl;rfl;go_big_quiet_on;(simp only[Act.put,List.setIfInBounds_toArray,List.set_cons_succ,List.set_cons_zero]))|((with_reducible apply AaI M.o.at0.cls M.o.at0.len);rfl;rfl;exact zrts;rfl;refine zCT ?_;go_big_quiet_on;(simp only[Act.put,List.setIfInBounds_toArray,List.set_cons_succ,List.set_cons_zero]))|((with_reducible apply AaM M.o.at1.cls M.o.at1.len);rfl;rfl;exact zrts;rfl;rfl;go_big_quiet_on;(simp only[Act.put,List.setIfInBounds_toArray,List.set_cons_succ,List.set_cons_zero]))|((with_reducible apply AaL M.o.at1.cls);rfl;rfl;exact zots;rfl;rfl;go_big_quiet_on;(simp only[Act.put,List.setIfInBounds_toArray,List.set_cons_succ,List.set_cons_zero]))|((with_reducible apply AaI M.o.at1.cls M.o.at1.len);rfl;rfl;exact zrts;rfl;refine zCT ?_;go_big_quiet_on;(simp only[Act.put,List.setIfInBounds_toArray,List.set_cons_succ,List.set_cons_zero]))|((with_reducible apply AaM M.o.at2.cls M.o.at2.len);rfl;rfl;exact zrts;rfl;rfl;go_big_quiet_on;(simp only[Act.put,List.setIfInBounds_toArray,List.set_cons_succ,List.set_cons_zero]))|((with_reducible apply AaL M.o.at2.cls);rfl;rfl;exact zots;rfl;rfl;go_big_quiet_on;(simp only[Act.put,List.setIfInBounds_toArray,List.set_cons_succ,List.set_cons_zero]))|((with_reducible apply AaI M.o.at2.cls M.o.at2.len);rfl;rfl;exact zrts;rfl;refine zCT ?_;go_big_quiet_on;(simp only[Act.put,List.setIfInBounds_toArray,List.set_cons_succ,List.set_cons_zero]))|((with_reducible apply AaM M.o.at3.cls M.o.at3.len);rfl;rfl;exact zrts;rfl;rfl;go_big_quiet_on;(simp only[Act.put,List.setIfInBounds_toArray,List.set_cons_succ,List.set_cons_zero]))|((with_reducible apply AaL M.o.at3.cls);rfl;rfl;exact zots;rfl;rfl;go_big_quiet_on;(simp only[Act.put,List.setIfInBounds_toArray,List.set_cons_succ,List.set_cons_zero]))|((with_reducible apply AaI M.o.at3.cls M.o.at3.len);rfl;rfl;exact zrts;rfl;refine zCT ?_;go_big_quiet_on;(simp only[Act.put,List.setIfInBounds_toArray,List.set_cons_succ,List.set_cons_zero]))|((with_reducible apply AaM M.o.at4.cls M.o.at4.len);rfl;rfl;exact zrts;rfl;rfl;go_big_quiet_on;(simp only[Act.put,List.setIfInBounds_toArray,List.set_cons_succ,List.set_cons_zero]))|((with_reducible apply AaL M.o.at4.cls);rfl;rfl;exact zots;rfl;rfl;go_big_quiet_on;(simp only[Act.put,List.setIfInBounds_toArray,List.set_cons_succ,List.set_cons_zero]))|((with_reducible apply AaI M.o.at4.cls M.o.at4.len);rfl;rfl;exact zrts;rfl;refine zCT ?_;go_big_quiet_on;(simp only[Act.put,List.setIfInBounds_toArray,List.set_cons_succ,List.set_cons_zero]))|((with_reducible apply AaM M.o.at5.cls M.o.at5.len);rfl;rfl;exact zrts;rfl;rfl;go_big_quiet_on;(simp only[Act.put,List.setIfInBounds_toArray,List.set_cons_succ,List.set_cons_zero]))|((with_reducible apply AaL M.o.at5.cls);rfl;rfl;exact zots;rfl;rfl;go_big_quiet_on;(simp only[Act.put,List.setIfInBounds_toArray,List.set_cons_succ,List.set_cons_zero]))|((with_reducible apply AaI M.o.at5.cls M.o.at5.len);rfl;rfl;exact zrts;rfl;refine zCT ?_;go_big_quiet_on;(simp only[Act.put,List.setIfInBounds_toArray,List.set_cons_succ,List.set_cons_zero]))|((with_reducible apply AaM M.o.at6.cls M.o.at6.len);rfl;rfl;exact zrts;rfl;rfl;go_big_quiet_on;(simp only[Act.put,List.setIfInBounds_toArray,List.set_cons_succ,List.set_cons_zero]))|((with_reducible apply AaL M.o.at6.cls);rfl;rfl;exact zots;rfl;rfl;go_big_quiet_on;(simp only[Act.put,List.setIfInBounds_toArray,List.set_cons_succ,List.set_cons_zero]))|((with_reducible apply AaI M.o.at6.cls M.o.at6.len);rfl;rfl;exact zrts;rfl;refine zCT ?_;go_big_quiet_on;(simp only[Act.put,List.setIfInBounds_toArray,List.set_cons_succ,List.set_cons_zero]))|((with_reducible apply AaM M.o.at7.cls M.o.at7.len);rfl;rfl;exact zrts;rfl;rfl;go_big_quiet_on;(simp only[Act.put,List.setIfInBounds_toArray,List.set_cons_succ,List.set_cons_zero]))|((with_reducible apply AaL M.o.at7.cls);rfl;rfl;exact zots;rfl;rfl;go_big_quiet_on;(simp only[Act.put,List.setIfInBounds_toArray,List.set_cons_succ,List.set_cons_zero]))|((with_reducible apply AaI M.o.at7.cls M.o.at7.len);rfl;rfl;exact zrts;rfl;refine zCT ?_;go_big_quiet_on;(simp only[Act.put,List.setIfInBounds_toArray,List.set_cons_succ,List.set_cons_zero]))|((with_reducible apply AaM M.o.at8.cls M.o.at8.len);rfl;rfl;exact zrts;rfl;rfl;go_big_quiet_on;(simp only[Act.put,List.setIfInBounds_toArray,List.set_cons_succ,List.set_cons_zero]))|((with_reducible apply AaL M.o.at8.cls);rfl;rfl;exact zots;rfl;rfl;go_big_quiet_on;(simp only[Act.put,List.setIfInBounds_toArray,List.set_cons_succ,List.set_cons_zero]))|((with_reducible apply AaI M.o.at8.cls M.o.at8.len);rfl;rfl;exact zrts;rfl;refine zCT ?_;go_big_quiet_on;(simp only[Act.put,List.setIfInBounds_toArray,List.set_cons_succ,List.set_cons_zero]))|((with_reducible apply AaM M.o.at9.cls M.o.at9.len);rfl;rfl;exact zrts;rfl;rfl;go_big_quiet_on;(simp only[Act.put,List.setIfInBounds_toArray,List.set_cons_succ,List.set_cons_zero]))|((with_reducible apply AaL M.o.at9.cls);rfl;rfl;exact zots;rfl;rfl;go_big_quiet_on;(simp only[Act.put,List.setIfInBounds_toArray,List.set_cons_succ,List.set_cons_zero]))|((with_reducible apply AaI M.o.at9.cls M.o.at9.len);rfl;rfl;exact zrts;rfl;refine zCT ?_;go_big_quiet_on;(simp only[Act.put,List.setIfInBounds_toArray,List.set_cons_succ,List.set_cons_zero]))|((with_reducible apply AaM M.o.at10.cls M.o.at10.len);rfl;rfl;exact zrts;rfl;rfl;go_big_quiet_on;(simp only[Act.put,List.setIfInBounds_toArray,List.set_cons_succ,List.set_cons_zero]))|((with_reducible apply AaL M.o.at10.cls);rfl;rfl;exact zots;rfl;rfl;go_big_quiet_on;(simp only[Act.put,List.setIfInBounds_toArray,List.set_cons_succ,List.set_cons_zero]))|((with_reducible apply AaI M.o.at10.cls M.o.at10.len);rfl;rfl;exact zrts;rfl;refine zCT ?_;go_big_quiet_on;(simp only[Act.put,List.setIfInBounds_toArray,List.set_cons_succ,List.set_cons_zero]))|((with_reducible apply AaM M.o.at11.cls M.o.at11.len);rfl;rfl;exact zrts;rfl;rfl;go_big_quiet_on;(simp only[Act.put,List.setIfInBounds_toArray,List.set_cons_succ,List.set_cons_zero]))|((with_reducible apply AaL M.o.at11.cls);rfl;rfl;exact zots;rfl;rfl;go_big_quiet_on;(simp only[Act.put,List.setIfInBounds_toArray,List.set_cons_succ,List.set_cons_zero]))|((with_reducible apply AaI M.o.at11.cls M.o.at11.len);rfl;rfl;exact zrts;rfl;refine zCT ?_;go_big_quiet_on;(simp only[Act.put,List.setIfInBounds_toArray,List.set_cons_succ,List.set_cons_zero]))|((with_reducible apply AaM M.o.at12.cls M.o.at12.len);rfl;rfl;exact zrts;rfl;rfl;go_big_quiet_on;(simp only[Act.put,List.setIfInBounds_toArray,List.set_cons_succ,List.set_cons_zero]))|((with_reducible apply AaL M.o.at12.cls);rfl;rfl;exact zots;rfl;rfl;go_big_quiet_on;(simp only[Act.put,List.setIfInBounds_toArray,List.set_cons_succ,List.set_cons_zero]))|((with_reducible apply AaI M.o.at12.cls M.o.at12.len);rfl;rfl;exact zrts;rfl;refine zCT ?_;go_big_quiet_on;(simp only[Act.put,List.setIfInBounds_toArray,List.set_cons_succ,List.set_cons_zero]))))|(go_big_quiet_op;first|go_big_quiet_on|((with_reducible refine⟨_,fun _ _=>rfl,?_⟩);go_big_quiet_on)))))));exact hh')):A:=hs h
theorem zMR7{A B:Prop}(h:B)(hs:B->A:=by(intro hh';((repeat(first|(with_reducible refine wpQuiet_nil ?_)|(first|go_big_quiet_skip|(go_big_quiet_want;first|(first|fail)|(go_big_quiet_op;first|go_big_quiet_on|((with_reducible refine⟨_,fun _ _=>rfl,?_⟩);go_big_quiet_on)))))));exact hh')):A:=hs h
theorem zRG{A B:Prop}(h:B)(hs:B->A:=by(intro hh';(refine AfU M.o (by kernel_rfl) (by kernel_rfl) ?_;try simp only[Act.put,List.setIfInBounds_toArray,List.set_cons_succ,List.set_cons_zero]);exact hh')):A:=hs h
theorem zBXo{A:Prop}{T B:World->Nat->Prop}(h:∀w g,T w g->B w g)(hs:(∀w g,T w g->B w g)->A:=by(intro hh';(((with_reducible refine Aqq ?_);first|((with_reducible apply Acm M.o);rfl;rfl;rfl;exact AqJ;intro w' g M' hb';(have M:=bx M';clear M');clear hb')|((with_reducible apply wpList_box1 M.o);rfl;rfl;rfl;rfl;intro w' g M' hb';(have M:=bx M';clear M');clear hb')));exact hh' w' g M)):A:=hs h
theorem zBYo{A X:Prop}{T B:World->Nat->Prop}(x:X)(h:∀w g,T w g->B w g)(hs:X->(∀w g,T w g->B w g)->A:=by(intro HX hh';(((with_reducible apply Acm M.o);rfl;rfl;rfl;exact HX;intro w' g M' hb';(have M:=bx M';clear M');clear hb'));exact hh' w' g M)):A:=hs x h
theorem zALo{A X:Prop}{T B:World->Nat->Prop}(x:X)(h:∀w g,T w g->B w g)(hs:X->(∀w g,T w g->B w g)->A:=by(intro HX hh';(((with_reducible apply AgX M.o);rfl;rfl;exact HX;intro w' g M' hb';(have M:=bx M';clear M');clear hb'));exact hh' w' g M)):A:=hs x h
theorem zQN{A:Prop}{T B:World->Prop}(h:∀w,T w->B w)(hs:(∀w,T w->B w)->A:=by(intro hh';(refine wpQuiet_nil ?_;intro w4 hw4;have M':=M.o.below hw4.o;(have M:=bx M';clear M');clear hw4);exact hh' w4 M)):A:=hs h
theorem zQXo{A:Prop}{T B:World->Prop}(h:∀w,T w->B w)(hs:(∀w,T w->B w)->A:=by(intro hh';((refine AfU M.o (by kernel_rfl) (by kernel_rfl) ?_;try simp only[Act.put,List.setIfInBounds_toArray,List.set_cons_succ,List.set_cons_zero]);(repeat(first|go_big_quiet_skip|(go_big_quiet_want;first|(first|fail|((with_reducible refine AbY ?_);first|((with_reducible apply AaM M.o.at0.cls M.o.at0.len);rfl;rfl;exact zrts;rfl;rfl;go_big_quiet_on;(simp only[Act.put,List.setIfInBounds_toArray,List.set_cons_succ,List.set_cons_zero]))|((with_reducible apply AaL M.o.at0.cls);rfl;rfl;exact zots;rfl;rfl;go_big_quiet_on;(simp only[Act.put,List.setIfInBounds_toArray,List.set_cons_succ,List.set_cons_zero]))|((with_reducible apply AaI M.o.at0.cls M.o.at0.len);rfl;rfl;exact zrts;rfl;refine zCT ?_;go_big_quiet_on;(simp only[Act.put,List.setIfInBounds_toArray,List.set_cons_succ,List.set_cons_zero]))|((with_reducible apply AaM M.o.at1.cls M.o.at1.len);rfl;rfl;exact zrts;rfl;rfl;go_big_quiet_on;(simp only[Act.put,List.setIfInBounds_toArray,List.set_cons_succ,List.set_cons_zero]))|((with_reducible apply AaL M.o.at1.cls);rfl;rfl;exact zots;rfl;rfl;go_big_quiet_on;(simp only[Act.put,List.setIfInBounds_toArray,List.set_cons_succ,List.set_cons_zero]))|((with_reducible apply AaI M.o.at1.cls M.o.at1.len);rfl;rfl;exact zrts;rfl;refine zCT ?_;go_big_quiet_on;(simp only[Act.put,List.setIfInBounds_toArray,List.set_cons_succ,List.set_cons_zero]))|((with_reducible apply AaM M.o.at2.cls M.o.at2.len);rfl;rfl;exact zrts;rfl;rfl;go_big_quiet_on;(simp only[Act.put,List.setIfInBounds_toArray,List.set_cons_succ,List.set_cons_zero]))|((with_reducible apply AaL M.o.at2.cls);rfl;rfl;exact zots;rfl;rfl;go_big_quiet_on;(simp only[Act.put,List.setIfInBounds_toArray,List.set_cons_succ,List.set_cons_zero]))|((with_reducible apply AaI M.o.at2.cls M.o.at2.len);rfl;rfl;exact zrts;rfl;refine zCT ?_;go_big_quiet_on;(simp only[Act.put,List.setIfInBounds_toArray,List.set_cons_succ,List.set_cons_zero]))|((with_reducible apply AaM M.o.at3.cls M.o.at3.len);rfl;rfl;exact zrts;rfl;rfl;go_big_quiet_on;(simp only[Act.put,List.setIfInBounds_toArray,List.set_cons_succ,List.set_cons_zero]))|((with_reducible apply AaL M.o.at3.cls);rfl;rfl;exact zots;rfl;rfl;go_big_quiet_on;(simp only[Act.put,List.setIfInBounds_toArray,List.set_cons_succ,List.set_cons_zero]))|((with_reducible apply AaI M.o.at3.cls M.o.at3.len);rfl;rfl;exact zrts;rfl;refine zCT ?_;go_big_quiet_on;(simp only[Act.put,List.setIfInBounds_toArray,List.set_cons_succ,List.set_cons_zero]))|((with_reducible apply AaM M.o.at4.cls M.o.at4.len);rfl;rfl;exact zrts;rfl;rfl;go_big_quiet_on;(simp only[Act.put,List.setIfInBounds_toArray,List.set_cons_succ,List.set_cons_zero]))|((with_reducible apply AaL M.o.at4.cls);rfl;rfl;exact zots;rfl;rfl;go_big_quiet_on;(simp only[Act.put,List.setIfInBounds_toArray,List.set_cons_succ,List.set_cons_zero]))|((with_reducible apply AaI M.o.at4.cls M.o.at4.len);rfl;rfl;exact zrts;rfl;refine zCT ?_;go_big_quiet_on;(simp only[Act.put,List.setIfInBounds_toArray,List.set_cons_succ,List.set_cons_zero]))|((with_reducible apply AaM M.o.at5.cls M.o.at5.len);rfl;rfl;exact zrts;rfl;rfl;go_big_quiet_on;(simp only[Act.put,List.setIfInBounds_toArray,List.set_cons_succ,List.set_cons_zero]))|((with_reducible apply AaL M.o.at5.cls);rfl;rfl;exact zots;rfl;rfl;go_big_quiet_on;(simp only[Act.put,List.setIfInBounds_toArray,List.set_cons_succ,List.set_cons_zero]))|((with_reducible apply AaI M.o.at5.cls M.o.at5.len);rfl;rfl;exact zrts;rfl;refine zCT ?_;go_big_quiet_on;(simp only[Act.put,List.setIfInBounds_toArray,List.set_cons_succ,List.set_cons_zero]))|((with_reducible apply AaM M.o.at6.cls M.o.at6.len);rfl;rfl;exact zrts;rfl;rfl;go_big_quiet_on;(simp only[Act.put,List.setIfInBounds_toArray,List.set_cons_succ,List.set_cons_zero]))|((with_reducible apply AaL M.o.at6.cls);rfl;rfl;exact zots;rfl;rfl;go_big_quiet_on;(simp only[Act.put,List.setIfInBounds_toArray,List.set_cons_succ,List.set_cons_zero]))|((with_reducible apply AaI M.o.at6.cls M.o.at6.len);rfl;rfl;exact zrts;rfl;refine zCT ?_;go_big_quiet_on;(simp only[Act.put,List.setIfInBounds_toArray,List.set_cons_succ,List.set_cons_zero]))|((with_reducible apply AaM M.o.at7.cls M.o.at7.len);rfl;rfl;exact zrts;rfl;rfl;go_big_quiet_on;(simp only[Act.put,List.setIfInBounds_toArray,List.set_cons_succ,List.set_cons_zero]))|((with_reducible apply AaL M.o.at7.cls);rfl;rfl;exact zots;rfl;rfl;go_big_quiet_on;(simp only[Act.put,List.setIfInBounds_toArray,List.set_cons_succ,List.set_cons_zero]))|((with_reducible apply AaI M.o.at7.cls M.o.at7.len);rfl;rfl;exact zrts;rfl;refine zCT ?_;go_big_quiet_on;(simp only[Act.put,List.setIfInBounds_toArray,List.set_cons_succ,List.set_cons_zero]))|((with_reducible apply AaM M.o.at8.cls M.o.at8.len);rfl;rfl;exact zrts;rfl;rfl;go_big_quiet_on;(simp only[Act.put,List.setIfInBounds_toArray,List.set_cons_succ,List.set_cons_zero]))|((with_reducible apply AaL M.o.at8.cls);rfl;rfl;exact zots;rfl;rfl;go_big_quiet_on;(simp only[Act.put,List.setIfInBounds_toArray,List.set_cons_succ,List.set_cons_zero]))|((with_reducible apply AaI M.o.at8.cls M.o.at8.len);rfl;rfl;exact zrts;rfl;refine zCT ?_;go_big_quiet_on;(simp only[Act.put,List.setIfInBounds_toArray,List.set_cons_succ,List.set_cons_zero]))|((with_reducible apply AaM M.o.at9.cls M.o.at9.len);rfl;rfl;exact zrts;rfl;rfl;go_big_quiet_on;(simp only[Act.put,List.setIfInBounds_toArray,List.set_cons_succ,List.set_cons_zero]))|((with_reducible apply AaL M.o.at9.cls);rfl;rfl;exact zots;rfl;rfl;go_big_quiet_on;(simp only[Act.put,List.setIfInBounds_toArray,List.set_cons_succ,List.set_cons_zero]))|((with_reducible apply AaI M.o.at9.cls M.o.at9.len);rfl;rfl;exact zrts;rfl;refine zCT ?_;go_big_quiet_on;(simp only[Act.put,List.setIfInBounds_toArray,List.set_cons_succ,List.set_cons_zero]))|((with_reducible apply AaM M.o.at10.cls M.o.at10.len);rfl;rfl;exact zrts;rfl;rfl;go_big_quiet_on;(simp only[Act.put,List.setIfInBounds_toArray,List.set_cons_succ,List.set_cons_zero]))|((with_reducible apply AaL M.o.at10.cls);rfl;rfl;exact zots;rfl;rfl;go_big_quiet_on;(simp only[Act.put,List.setIfInBounds_toArray,List.set_cons_succ,List.set_cons_zero]))|((with_reducible apply AaI M.o.at10.cls M.o.at10.len);rfl;rfl;exact zrts;rfl;refine zCT ?_;go_big_quiet_on;(simp only[Act.put,List.setIfInBounds_toArray,List.set_cons_succ,List.set_cons_zero]))|((with_reducible apply AaM M.o.at11.cls M.o.at11.len);rfl;rfl;exact zrts;rfl;rfl;go_big_quiet_on;(simp only[Act.put,List.setIfInBounds_toArray,List.set_cons_succ,List.set_cons_zero]))|((with_reducible apply AaL M.o.at11.cls);rfl;rfl;exact zots;rfl;rfl;go_big_quiet_on;(simp only[Act.put,List.setIfInBounds_toArray,List.set_cons_succ,List.set_cons_zero]))|((with_reducible apply AaI M.o.at11.cls M.o.at11.len);rfl;rfl;exact zrts;rfl;refine zCT ?_;go_big_quiet_on;(simp only[Act.put,List.setIfInBounds_toArray,List.set_cons_succ,List.set_cons_zero]))|((with_reducible apply AaM M.o.at12.cls M.o.at12.len);rfl;rfl;exact zrts;rfl;rfl;go_big_quiet_on;(simp only[Act.put,List.setIfInBounds_toArray,List.set_cons_succ,List.set_cons_zero]))|((with_reducible apply AaL M.o.at12.cls);rfl;rfl;exact zots;rfl;rfl;go_big_quiet_on;(simp only[Act.put,List.setIfInBounds_toArray,List.set_cons_succ,List.set_cons_zero]))|((with_reducible apply AaI M.o.at12.cls M.o.at12.len);rfl;rfl;exact zrts;rfl;refine zCT ?_;go_big_quiet_on;(simp only[Act.put,List.setIfInBounds_toArray,List.set_cons_succ,List.set_cons_zero]))))|(go_big_quiet_op;first|go_big_quiet_on|((with_reducible refine⟨_,fun _ _=>rfl,?_⟩);go_big_quiet_on)))));refine wpQuiet_nil ?_;intro w4 hw4;have M':=M.o.below hw4.o;(have M:=bx M';clear M');clear hw4);exact hh' w4 M)):A:=hs h
theorem zR{P:Program}{fn:Func}{R:Ending->World->Prop}{a:Act}{w:World}{x:PLift (bodyPost P fn R .ret a w)->Unit}{p:Tmp}{ty:TypeId}{g n:Nat}{Pp:List (List Value)}{ls:List Nat}(H:HL w g Pp ls)(h:R (.returned (.agg (fl Pp).toArray)) w)
  (h1:fn.results = #[.cell p ty]:=by rfl) (hp:a.tmps.getD p undef=.pointer (some ⟨g,0,none⟩):=by rfl) (rt:RowT P ty n:=by exact zrts) (hn:ls.sum=n:=by rfl) (hd:a.defers = []:=by rfl):Stop (bodyPost P fn R .ret a w) x:=⟨bodyPost_ret (AbK h1 _ H hp rt hn) hd h⟩
theorem zRb{P:Program}{fn:Func}{R:Ending->World->Prop}{a:Act}{w:World}{p:Tmp}{ty:TypeId}{g n:Nat}{Pp:List (List Value)}{ls:List Nat}(H:HL w g Pp ls)(h:R (.returned (.agg (fl Pp).toArray)) w)
  (h1:fn.results = #[.cell p ty]:=by rfl) (hp:a.tmps.getD p undef=.pointer (some ⟨g,0,none⟩):=by rfl) (rt:RowT P ty n:=by exact zrts) (hn:ls.sum=n:=by rfl) (hd:a.defers = []:=by rfl):bodyPost P fn R .ret a w:=bodyPost_ret (AbK h1 _ H hp rt hn) hd h
theorem zRt{P:Program}{fn:Func}{R:Ending->World->Prop}{a:Act}{w:World}{x:PLift (bodyPost P fn R .ret a w)->Unit}{p q:Tmp}{ty:TypeId}{g n:Nat}{Pp:List (List Value)}{ls:List Nat}{v:Value}(H:HL w g Pp ls)(h:R (.returned (.tuple #[.agg (fl Pp).toArray,v])) w)
  (h1:fn.results = #[.cell p ty,.tmp q]:=by rfl) (hv:a.tmps.getD q undef=v:=by rfl) (hp:a.tmps.getD p undef=.pointer (some ⟨g,0,none⟩):=by rfl) (rt:RowT P ty n:=by exact zrts) (hn:ls.sum=n:=by rfl) (hd:a.defers = []:=by rfl):Stop (bodyPost P fn R .ret a w) x:=⟨bodyPost_ret (AaN h1 _ H hp rt hn) hd (by rw[hv];exact h)⟩
section
variable {Γ0 Γ:Gam}{w0 w:World}{L L':List Ent}{R:List RowE}{Pg:Program}{ops:Array Oper}{rest:List Oper}{op:Oper}{a:Act}{Q:Exit->Act->World->Prop}
theorem zSSo{g:Nat}{P:List (List Value)}{ls lq:List Nat}(M:Bx (MM Γ0 w0 Γ w L R))(i:Nat)(Q' P':List (List Value))(hl:Q'.map List.length=lq)(h1:One (fl Q')){ty:TypeId}{x y:Operand}{o n k j:Nat}{B:World->Prop}(h:∀w',Bx (MM Γ0 w0 Γ w' L' R)->B w')
  (hi:L[i]? = some ⟨g,P,ls⟩:=by rfl) (ho:op.op=.store ty x y:=by rfl) (hgd:op.guard=none:=by rfl) (hx:a.eval x=.pointer (some ⟨g,o,none⟩):=by rfl) (hy:a.eval y=.agg (fl Q').toArray:=by rfl) (rt:RowT Pg ty n:=by exact zrts)
  (hf:findPart ls o n=some (k,j):=by rfl) (hQ:lq=(ls.drop k).take j:=by rfl) (hP:P.take k++Q'++P.drop (k+j)=P':=by rfl) (hL:L.set i ⟨g,P',ls⟩=L':=by(simp only[List.set_cons_zero,List.set_cons_succ];try rfl))
  (hB:∀w',B w'->wpList Pg ops Q rest (a.put op.dst undef) w':=by(intro w' hh';exact hh')):wpList Pg ops Q (op::rest) a w:=
 AcK M.o i Q' P' hi ho hgd hx hy rt hf (hl.trans hQ) h1 hP fun w' M' _=>hB w' (h w' ⟨hL▸M'⟩)
theorem zSSd{g:Nat}{P:List (List Value)}{ls lq:List Nat}(M:Bx (MM Γ0 w0 Γ w L R))(i:Nat)(Q' P':List (List Value))(hl:Q'.map List.length=lq)(h1:One (fl Q')){ty:TypeId}{x y:Operand}{o n k j:Nat}{B:World->Prop}(h:∀w',Bx (MM Γ0 w0 Γ w' L' R)->B w')
  (hi:L[i]? = some ⟨g,P,ls⟩:=by rfl) (ho:op.op=.store ty x y:=by rfl) (hgd:op.guard=none:=by rfl) (hx:a.eval x=.pointer (some ⟨g,o,none⟩):=by rfl) (hy:a.eval y=.agg (fl Q').toArray:=by rfl) (rt:RowT Pg ty n:=by exact zrts)
  (hf:findPart ls o n=some (k,j):=by rfl) (hQ:lq=(ls.drop k).take j:=by rfl) (hP:P.take k++Q'++P.drop (k+j)=P':=by rfl) (hL:L.set i ⟨g,P',ls⟩=L':=by(simp only[List.set_cons_zero,List.set_cons_succ];try rfl))
  (hB:∀w',B w'->wpList Pg ops Q rest (a.put op.dst undef) w':=by(intro w' hh';simp only[Act.put,List.setIfInBounds_toArray,List.set_cons_succ,List.set_cons_zero];exact hh')):wpList Pg ops Q (op::rest) a w:=
 AcK M.o i Q' P' hi ho hgd hx hy rt hf (hl.trans hQ) h1 hP fun w' M' _=>hB w' (h w' ⟨hL▸M'⟩)
theorem zS1o{g:Nat}{P:List (List Value)}{ls:List Nat}(M:Bx (MM Γ0 w0 Γ w L R))(i:Nat)(v:Value)(P':List (List Value)){ty:TypeId}{x y:Operand}{o k:Nat}{B:World->Prop}(h:∀w',Bx (MM Γ0 w0 Γ w' L' R)->B w')
  (hi:L[i]? = some ⟨g,P,ls⟩:=by rfl) (ho:op.op=.store ty x y:=by rfl) (hgd:op.guard=none:=by rfl) (hx:a.eval x=.pointer (some ⟨g,o,none⟩):=by rfl) (hy:a.eval y=v:=by rfl) (ot:OneT Pg ty:=by exact zots)
  (hf:findPart ls o 1=some (k,1):=by rfl) (hk:(ls.drop k).take 1 = [1]:=by rfl) (hv:v.oneCell'=true:=by rfl) (hc:v.cells = #[v]:=by rfl) (hP:P.take k ++ [[v]]++P.drop (k+1)=P':=by rfl) (hL:L.set i ⟨g,P',ls⟩=L':=by(simp only[List.set_cons_zero,List.set_cons_succ];try rfl))
  (hB:∀w',B w'->wpList Pg ops Q rest (a.put op.dst undef) w':=by(intro w' hh';exact hh')):wpList Pg ops Q (op::rest) a w:=
 AgS M.o i v P' hi ho hgd hx hy ot hf hk hv hc hP fun w' M' _=>hB w' (h w' ⟨hL▸M'⟩)
theorem zS1d{g:Nat}{P:List (List Value)}{ls:List Nat}(M:Bx (MM Γ0 w0 Γ w L R))(i:Nat)(v:Value)(P':List (List Value)){ty:TypeId}{x y:Operand}{o k:Nat}{B:World->Prop}(h:∀w',Bx (MM Γ0 w0 Γ w' L' R)->B w')
  (hi:L[i]? = some ⟨g,P,ls⟩:=by rfl) (ho:op.op=.store ty x y:=by rfl) (hgd:op.guard=none:=by rfl) (hx:a.eval x=.pointer (some ⟨g,o,none⟩):=by rfl) (hy:a.eval y=v:=by rfl) (ot:OneT Pg ty:=by exact zots)
  (hf:findPart ls o 1=some (k,1):=by rfl) (hk:(ls.drop k).take 1 = [1]:=by rfl) (hv:v.oneCell'=true:=by rfl) (hc:v.cells = #[v]:=by rfl) (hP:P.take k ++ [[v]]++P.drop (k+1)=P':=by rfl) (hL:L.set i ⟨g,P',ls⟩=L':=by(simp only[List.set_cons_zero,List.set_cons_succ];try rfl))
  (hB:∀w',B w'->wpList Pg ops Q rest (a.put op.dst undef) w':=by(intro w' hh';simp only[Act.put,List.setIfInBounds_toArray,List.set_cons_succ,List.set_cons_zero];exact hh')):wpList Pg ops Q (op::rest) a w:=
 AgS M.o i v P' hi ho hgd hx hy ot hf hk hv hc hP fun w' M' _=>hB w' (h w' ⟨hL▸M'⟩)
theorem zXS{g:Nat}{P:List (List Value)}{ls lq:List Nat}(M:Bx (MM Γ0 w0 Γ w L R))(i:Nat)(Q' P':List (List Value))(hl:Q'.map List.length=lq)(h1:One (fl Q')){opsA:Array Oper}{ts:Array Value}{K:Act->World->Prop}{E:Prop}{ty:TypeId}{x y:Operand}{o n k j:Nat}{B:World->Prop}(h:∀w',Bx (MM Γ0 w0 Γ w' L' R)->B w')
  (hi:L[i]? = some ⟨g,P,ls⟩:=by rfl) (ho:op.op=.store ty x y:=by rfl) (hx:a.eval x=.pointer (some ⟨g,o,none⟩):=by rfl) (hy:a.eval y=.agg (fl Q').toArray:=by rfl) (rt:RowT Pg ty n:=by exact zrts)
  (hf:findPart ls o n=some (k,j):=by rfl) (hQ:lq=(ls.drop k).take j:=by rfl) (hP:P.take k++Q'++P.drop (k+j)=P':=by rfl) (hw:Region.wanted op (yielded opsA ts)=true:=by rfl) (hL:L.set i ⟨g,P',ls⟩=L':=by(simp only[List.set_cons_zero,List.set_cons_succ];try rfl))
  (hB:∀w',B w'->K (a.put op.dst undef) w':=by(intro w' hh';simp only[Act.put,List.setIfInBounds_toArray,List.set_cons_succ,List.set_cons_zero];exact hh')):if Region.wanted op (yielded opsA ts)=true then op.wp Pg a w K Q else E:=
 Aam M.o i Q' P' hi ho hx hy rt hf (hl.trans hQ) h1 hP hw fun w' M'=>hB w' (h w' ⟨hL▸M'⟩)
theorem zX1{g:Nat}{P:List (List Value)}{ls:List Nat}(M:Bx (MM Γ0 w0 Γ w L R))(i:Nat)(v:Value)(P':List (List Value)){opsA:Array Oper}{ts:Array Value}{K:Act->World->Prop}{E:Prop}{ty:TypeId}{x y:Operand}{o k:Nat}{B:World->Prop}(h:∀w',Bx (MM Γ0 w0 Γ w' L' R)->B w')
  (hi:L[i]? = some ⟨g,P,ls⟩:=by rfl) (ho:op.op=.store ty x y:=by rfl) (hx:a.eval x=.pointer (some ⟨g,o,none⟩):=by rfl) (hy:a.eval y=v:=by rfl) (ot:OneT Pg ty:=by exact zots)
  (hf:findPart ls o 1=some (k,1):=by rfl) (hk:(ls.drop k).take 1 = [1]:=by rfl) (hv:v.oneCell'=true:=by rfl) (hc:v.cells = #[v]:=by rfl) (hP:P.take k ++ [[v]]++P.drop (k+1)=P':=by rfl) (hw:Region.wanted op (yielded opsA ts)=true:=by rfl) (hL:L.set i ⟨g,P',ls⟩=L':=by(simp only[List.set_cons_zero,List.set_cons_succ];try rfl))
  (hB:∀w',B w'->K (a.put op.dst undef) w':=by(intro w' hh';simp only[Act.put,List.setIfInBounds_toArray,List.set_cons_succ,List.set_cons_zero];exact hh')):if Region.wanted op (yielded opsA ts)=true then op.wp Pg a w K Q else E:=
 Aa6 M.o i v P' hi ho hx hy ot hf hk hv hc hP hw fun w' M'=>hB w' (h w' ⟨hL▸M'⟩)
theorem zBDo(t:TypeId)(ps:List (Nat × Value))(cells:List Value)(hb:Pg.built t ps=some cells.toArray){parts:Array (Nat × Operand)}{B:Prop}(h:B)(hgd:Region.wanted op (yielded ops a.tmps)=true:=by rfl)(ho:op.op=.build t parts:=by rfl)
  (hps:parts.toList.map (fun x=>(x.1,a.eval x.2))=ps:=by rfl) (hB:B->wpList Pg ops Q rest (a.put op.dst (.agg cells.toArray)) w:=by(intro hh';exact hh')):wpList Pg ops Q (op::rest) a w:=AcM hgd t parts ho ps cells hps hb (hB h)
theorem zBDd(t:TypeId)(ps:List (Nat × Value))(cells:List Value)(hb:Pg.built t ps=some cells.toArray){parts:Array (Nat × Operand)}{B:Prop}(h:B)(hgd:Region.wanted op (yielded ops a.tmps)=true:=by rfl)(ho:op.op=.build t parts:=by rfl)
  (hps:parts.toList.map (fun x=>(x.1,a.eval x.2))=ps:=by rfl) (hB:B->wpList Pg ops Q rest (a.put op.dst (.agg cells.toArray)) w:=by(intro hh';simp only[Act.put,List.setIfInBounds_toArray,List.set_cons_succ,List.set_cons_zero];exact hh')):wpList Pg ops Q (op::rest) a w:=AcM hgd t parts ho ps cells hps hb (hB h)
theorem zQC {C : World -> Prop} {K : Act -> Prop} {f : FuncId} {fn : Func} {args : Array Value} {v : Value} (hc : ∀ w', C w' -> Calls Pg f args w' fun e w'' => e = .returned v /\ C w'') (hf : Pg.funcs[f]? = some fn) {xs : Array Operand} {ts : Array TypeId} (h : K (a.put op.dst v)) (hn : (fn.name == "runtime.NumGoroutine") = false := by rfl) (hb : fn.body.isNone = false := by rfl)
  (ho:op.op=.call {callee:=.value (.func f),args:=xs,argTypes:=ts}:=by rfl) (hargs0:xs.toList.map a.eval=args.toList:=by rfl):op.quiet Pg a C K:=AlA hc hf hn hb ho hargs0 h
theorem zMC {ts : Array Value} {K : Act -> World -> Prop} {E : Prop} {f : FuncId} {fn : Func} {args : Array Value} {Post : Ending -> World -> Prop} (hc : Calls Pg f args w Post) (hf : Pg.funcs[f]? = some fn) {xs : Array Operand} {tt : Array TypeId} (hk : ∀ e w', Post e w' -> ∃ v, e = .returned v /\ K (a.put op.dst v) w') (hn : (fn.name == "runtime.NumGoroutine") = false := by rfl) (hb : fn.body.isNone = false := by rfl)
  (ho:op.op=.call {callee:=.value (.func f),args:=xs,argTypes:=tt}:=by rfl) (hargs0:xs.toList.map a.eval=args.toList:=by rfl) (hw:Region.wanted op (yielded ops ts)=true:=by rfl):if Region.wanted op (yielded ops ts)=true then op.wp Pg a w K Q else E:=AiH hc hf hn hb xs tt ho hargs0 hw hk
theorem zCA{f:FuncId}{args:Array Value}{v:Ending}{Q:Ending->World->Prop}(M:Bx (MM Γ0 w0 Γ w L R))(hc:Calls Pg f args w fun e w'=>e=v/\Ext Γ w Γ w')(h:∀w',Bx (MM Γ0 w0 Γ w' L R)->Q v w'):Calls Pg f args w Q:=
 hc.mono fun _ w' ⟨e,hx⟩=>e▸h w' ⟨M.o.call hx⟩
theorem zCB{f:FuncId}{args:Array Value}{v:Ending}{Q:Ending->World->Prop}(M:Bx (MM Γ0 w0 Γ w L R))(hc:Calls Pg f args w fun e w'=>e=v/\Below w.heap.size w w')(h:∀w',Bx (MM Γ0 w0 Γ w' L R)->Q v w'):Calls Pg f args w Q:=
 hc.mono fun _ w' ⟨e,hx⟩=>e▸h w' ⟨M.o.below hx⟩
theorem zH8{B:World->Prop}(M:Bx (MM Γ0 w0 Γ w L R))(h:∀w',Bx (MM Γ0 w0 Γ w' L R)->B w'):∀w',Cls w.heap.size w w'->B w':=fun w' h8=>h w' ⟨M.o.below h8.o⟩
end
open Go.RowKit
theorem zLAd{A B:Prop}(h:B)(hs:B->A:=by(intro hh';(first|((((with_reducible refine AiU ?_);((with_reducible apply Acl);rfl;rfl;rfl);first|(first|((with_reducible apply LdAt.c1 M.o.at0.one);exact zots;rfl;rfl)|((with_reducible apply LdAt.p1 M.o.at0.one);exact zrts;rfl;rfl)|((with_reducible apply LdAt.ps M.o.at0.one);exact zrts;rfl;refine zCT ?_))|(first|((with_reducible apply LdAt.c1 M.o.at1.one);exact zots;rfl;rfl)|((with_reducible apply LdAt.p1 M.o.at1.one);exact zrts;rfl;rfl)|((with_reducible apply LdAt.ps M.o.at1.one);exact zrts;rfl;refine zCT ?_))|(first|((with_reducible apply LdAt.c1 M.o.at2.one);exact zots;rfl;rfl)|((with_reducible apply LdAt.p1 M.o.at2.one);exact zrts;rfl;rfl)|((with_reducible apply LdAt.ps M.o.at2.one);exact zrts;rfl;refine zCT ?_))|(first|((with_reducible apply LdAt.c1 M.o.at3.one);exact zots;rfl;rfl)|((with_reducible apply LdAt.p1 M.o.at3.one);exact zrts;rfl;rfl)|((with_reducible apply LdAt.ps M.o.at3.one);exact zrts;rfl;refine zCT ?_))|(first|((with_reducible apply LdAt.c1 M.o.at4.one);exact zots;rfl;rfl)|((with_reducible apply LdAt.p1 M.o.at4.one);exact zrts;rfl;rfl)|((with_reducible apply LdAt.ps M.o.at4.one);exact zrts;rfl;refine zCT ?_))|(first|((with_reducible apply LdAt.c1 M.o.at5.one);exact zots;rfl;rfl)|((with_reducible apply LdAt.p1 M.o.at5.one);exact zrts;rfl;rfl)|((with_reducible apply LdAt.ps M.o.at5.one);exact zrts;rfl;refine zCT ?_))|(first|((with_reducible apply LdAt.c1 M.o.at6.one);exact zots;rfl;rfl)|((with_reducible apply LdAt.p1 M.o.at6.one);exact zrts;rfl;rfl)|((with_reducible apply LdAt.ps M.o.at6.one);exact zrts;rfl;refine zCT ?_))|(first|((with_reducible apply LdAt.c1 M.o.at7.one);exact zots;rfl;rfl)|((with_reducible apply LdAt.p1 M.o.at7.one);exact zrts;rfl;rfl)|((with_reducible apply LdAt.ps M.o.at7.one);exact zrts;rfl;refine zCT ?_))|(first|((with_reducible apply LdAt.c1 M.o.at8.one);exact zots;rfl;rfl)|((with_reducible apply LdAt.p1 M.o.at8.one);exact zrts;rfl;rfl)|((with_reducible apply LdAt.ps M.o.at8.one);exact zrts;rfl;refine zCT ?_))|(first|((with_reducible apply LdAt.c1 M.o.at9.one);exact zots;rfl;rfl)|((with_reducible apply LdAt.p1 M.o.at9.one);exact zrts;rfl;rfl)|((with_reducible apply LdAt.ps M.o.at9.one);exact zrts;rfl;refine zCT ?_))|(first|((with_reducible apply LdAt.c1 M.o.at10.one);exact zots;rfl;rfl)|((with_reducible apply LdAt.p1 M.o.at10.one);exact zrts;rfl;rfl)|((with_reducible apply LdAt.ps M.o.at10.one);exact zrts;rfl;refine zCT ?_))|(first|((with_reducible apply LdAt.c1 M.o.at11.one);exact zots;rfl;rfl)|((with_reducible apply LdAt.p1 M.o.at11.one);exact zrts;rfl;rfl)|((with_reducible apply LdAt.ps M.o.at11.one);exact zrts;rfl;refine zCT ?_))|(first|((with_reducible apply LdAt.c1 M.o.at12.one);exact zots;rfl;rfl)|((with_reducible apply LdAt.p1 M.o.at12.one);exact zrts;rfl;rfl)|((with_reducible apply LdAt.ps M.o.at12.one);exact zrts;rfl;refine zCT ?_)));simp only[Act.put,List.setIfInBounds_toArray,List.set_cons_succ,List.set_cons_zero]))|(refine Aoq ?_));exact hh')):A:=hs h
theorem zLHd{A B X:Prop}(x:X)(h:B)(hs:X->B->A:=by(intro HX hh';((((with_reducible refine AiU ?_);((with_reducible apply Acl);rfl;rfl;rfl);first|((with_reducible apply LdAt.c1e M.o.at0.one HX.o);exact zots;rfl;rfl)|((with_reducible apply LdAt.c1e M.o.at1.one HX.o);exact zots;rfl;rfl)|((with_reducible apply LdAt.c1e M.o.at2.one HX.o);exact zots;rfl;rfl)|((with_reducible apply LdAt.c1e M.o.at3.one HX.o);exact zots;rfl;rfl)|((with_reducible apply LdAt.c1e M.o.at4.one HX.o);exact zots;rfl;rfl)|((with_reducible apply LdAt.c1e M.o.at5.one HX.o);exact zots;rfl;rfl)|((with_reducible apply LdAt.c1e M.o.at6.one HX.o);exact zots;rfl;rfl)|((with_reducible apply LdAt.c1e M.o.at7.one HX.o);exact zots;rfl;rfl)|((with_reducible apply LdAt.c1e M.o.at8.one HX.o);exact zots;rfl;rfl));simp only[Act.put,List.setIfInBounds_toArray,List.set_cons_succ,List.set_cons_zero]));exact hh')):A:=hs x h
theorem zRFd{A B X:Prop}(x:X)(h:B)(hs:X->B->A:=by(intro HX hh';((((with_reducible refine AiU ?_);((with_reducible apply Acl);rfl;rfl;rfl);(first|((with_reducible apply LdAt.rc1 (HX.o.one M.ok));exact zots;rfl;rfl)|((with_reducible apply LdAt.rp1 (HX.o.one M.ok));exact zrts;rfl;rfl)|((with_reducible apply LdAt.rps (HX.o.one M.ok));exact zrts;rfl;refine zCT ?_)|((with_reducible apply LdAt.rc0 (HX.o.one M.ok));exact zots;rfl;rfl)|((with_reducible apply LdAt.rp0 (HX.o.one M.ok));exact zrts;rfl;rfl)|((with_reducible apply LdAt.rs0 (HX.o.one M.ok));exact zrts;rfl;refine zCT ?_)));simp only[Act.put,List.setIfInBounds_toArray,List.set_cons_succ,List.set_cons_zero]));exact hh')):A:=hs x h
theorem zMRd{A B:Prop}(h:B)(hs:B->A:=by(intro hh';((repeat(first|(with_reducible refine wpQuiet_nil ?_)|(first|go_big_quiet_skip|(go_big_quiet_want;first|(first|fail|((with_reducible refine AbY ?_);((with_reducible apply AeK);rfl;rfl);(first|(first|((with_reducible apply LdAt.c1 M.o.at0.all);exact zots;rfl;rfl)|((with_reducible apply LdAt.p1 M.o.at0.all);exact zrts;rfl;rfl)|((with_reducible apply LdAt.ps M.o.at0.all);exact zrts;rfl;refine zCT ?_))|(first|((with_reducible apply LdAt.c1 M.o.at1.all);exact zots;rfl;rfl)|((with_reducible apply LdAt.p1 M.o.at1.all);exact zrts;rfl;rfl)|((with_reducible apply LdAt.ps M.o.at1.all);exact zrts;rfl;refine zCT ?_))|(first|((with_reducible apply LdAt.c1 M.o.at2.all);exact zots;rfl;rfl)|((with_reducible apply LdAt.p1 M.o.at2.all);exact zrts;rfl;rfl)|((with_reducible apply LdAt.ps M.o.at2.all);exact zrts;rfl;refine zCT ?_))|(first|((with_reducible apply LdAt.c1 M.o.at3.all);exact zots;rfl;rfl)|((with_reducible apply LdAt.p1 M.o.at3.all);exact zrts;rfl;rfl)|((with_reducible apply LdAt.ps M.o.at3.all);exact zrts;rfl;refine zCT ?_))|(first|((with_reducible apply LdAt.c1 M.o.at4.all);exact zots;rfl;rfl)|((with_reducible apply LdAt.p1 M.o.at4.all);exact zrts;rfl;rfl)|((with_reducible apply LdAt.ps M.o.at4.all);exact zrts;rfl;refine zCT ?_))|(first|((with_reducible apply LdAt.c1 M.o.at5.all);exact zots;rfl;rfl)|((with_reducible apply LdAt.p1 M.o.at5.all);exact zrts;rfl;rfl)|((with_reducible apply LdAt.ps M.o.at5.all);exact zrts;rfl;refine zCT ?_))|(first|((with_reducible apply LdAt.c1 M.o.at6.all);exact zots;rfl;rfl)|((with_reducible apply LdAt.p1 M.o.at6.all);exact zrts;rfl;rfl)|((with_reducible apply LdAt.ps M.o.at6.all);exact zrts;rfl;refine zCT ?_))|(first|((with_reducible apply LdAt.c1 M.o.at7.all);exact zots;rfl;rfl)|((with_reducible apply LdAt.p1 M.o.at7.all);exact zrts;rfl;rfl)|((with_reducible apply LdAt.ps M.o.at7.all);exact zrts;rfl;refine zCT ?_))|(first|((with_reducible apply LdAt.c1 M.o.at8.all);exact zots;rfl;rfl)|((with_reducible apply LdAt.p1 M.o.at8.all);exact zrts;rfl;rfl)|((with_reducible apply LdAt.ps M.o.at8.all);exact zrts;rfl;refine zCT ?_))|(first|((with_reducible apply LdAt.c1 M.o.at9.all);exact zots;rfl;rfl)|((with_reducible apply LdAt.p1 M.o.at9.all);exact zrts;rfl;rfl)|((with_reducible apply LdAt.ps M.o.at9.all);exact zrts;rfl;refine zCT ?_))|(first|((with_reducible apply LdAt.c1 M.o.at10.all);exact zots;rfl;rfl)|((with_reducible apply LdAt.p1 M.o.at10.all);exact zrts;rfl;rfl)|((with_reducible apply LdAt.ps M.o.at10.all);exact zrts;rfl;refine zCT ?_)));go_big_quiet_on;(simp only[Act.put,List.setIfInBounds_toArray,List.set_cons_succ,List.set_cons_zero])))|(go_big_quiet_op;first|go_big_quiet_on|((with_reducible refine⟨_,fun _ _=>rfl,?_⟩);go_big_quiet_on)))))));exact hh')):A:=hs h
theorem zBXd{A:Prop}{T B:World->Nat->Prop}(h:∀w g,T w g->B w g)(hs:(∀w g,T w g->B w g)->A:=by(intro hh';(((with_reducible refine Aqq ?_);first|((with_reducible apply Acm M.o);rfl;rfl;rfl;exact AqJ;intro w' g M' hb';(have M:=bx M';clear M');clear hb';simp only[Act.put,List.setIfInBounds_toArray,List.set_cons_succ,List.set_cons_zero])|((with_reducible apply wpList_box1 M.o);rfl;rfl;rfl;rfl;intro w' g M' hb';(have M:=bx M';clear M');clear hb';simp only[Act.put,List.setIfInBounds_toArray,List.set_cons_succ,List.set_cons_zero])));exact hh' w' g M)):A:=hs h
theorem zBYd{A X:Prop}{T B:World->Nat->Prop}(x:X)(h:∀w g,T w g->B w g)(hs:X->(∀w g,T w g->B w g)->A:=by(intro HX hh';(((with_reducible apply Acm M.o);rfl;rfl;rfl;exact HX;intro w' g M' hb';(have M:=bx M';clear M');clear hb';simp only[Act.put,List.setIfInBounds_toArray,List.set_cons_succ,List.set_cons_zero]));exact hh' w' g M)):A:=hs x h
theorem zALd{A X:Prop}{T B:World->Nat->Prop}(x:X)(h:∀w g,T w g->B w g)(hs:X->(∀w g,T w g->B w g)->A:=by(intro HX hh';(((with_reducible apply AgX M.o);rfl;rfl;exact HX;intro w' g M' hb';(have M:=bx M';clear M');clear hb';simp only[Act.put,List.setIfInBounds_toArray,List.set_cons_succ,List.set_cons_zero]));exact hh' w' g M)):A:=hs x h
def epN(k p:U):U:=⟨k.n / p.n,Nat.lt_of_le_of_lt (Nat.div_le_self _ _) k.lt⟩
theorem Afr(k p:U):IntKind.u64.wrap ((k.n:Int) / (p.n:Int))=((epN k p).n:Int):=by
 rw[AdS (Int.ediv_nonneg (by omega) (by omega))]
 .rfl
 .have:=(epN k p).lt;unfold epN at this;simp only at this;rw[<-Int.natCast_ediv];omega
theorem AbZ(Γ:Gam)(s:Sto)(v:Sls)(k:U)(hs:0<s.c.spe.n)(w:World)(ok:Ok Γ w) :
  Calls Tryz.prog 143 #[.agg (fl (stP s v)).toArray,.int .u64 (k.n:Int)] w fun e w'=>e=.returned (.int .u64 ((epN k s.c.spe).n:Int))/\Ext Γ w Γ w':=by
 have M:=bx (MM.start ok)
 have h1:=k.lt
 have h2:=s.c.spe.lt
 have hne:¬((s.c.spe.n:Int)=0):=by omega
 have hw:=Afr k s.c.spe
 clear ok
 go_enter Tryz.func143,Tryz.ntmps143
 go_wp2_with (first|(refine zBYo (AaD s v) ?_;clear M;intro w' g M)|refine zLDo (M.o.at0) ?_)
 go_ret
 exact⟨rfl,M.o.ext⟩
def isI(i:Int)(n:Nat):Bool:=decide (0<=i/\i<(n:Int))
theorem AcO{i:Int}{n:Nat}(h:0<=i)(h2:i<(n:Int)):isI i n=true:=decide_eq_true ⟨h,h2⟩
theorem Aj9{i:Int}{n:Nat}(h:¬(0<=i/\i<(n:Int))):isI i n=false:=decide_eq_false h
theorem AcF{i:Int}{n:Nat}(h:isI i n=true):0<=i/\i<(n:Int):=of_decide_eq_true h
theorem AhM(Γ:Gam)(s:Sto)(v:Sls)(i:Int)(w:World)(ok:Ok Γ w) :
  Calls Tryz.prog 141 #[.agg (fl (stP s v)).toArray,.int .i64 i] w fun e w'=>e=.returned (.bool (isI i v.nodes.n))/\Ext Γ w Γ w':=by
 have M:=bx (MM.start ok)
 clear ok
 by_cases h:0<=i
 .by_cases h2:i<(v.nodes.n:Int)
  .have HD:=bx (AcO h h2)
   go_enter Tryz.func141,Tryz.ntmps141
   go_wp2_with (first|(refine zBYo (AaD s v) ?_;clear M;intro w' g M)|refine zLDo (M.o.at0) ?_)
   go_ret
   exact⟨by rw[HD.o];rfl,M.o.ext⟩
  .have HD:=bx (Aj9 (fun h=>h2 h.2))
   go_enter Tryz.func141,Tryz.ntmps141
   go_wp2_with (first|(refine zBYo (AaD s v) ?_;clear M;intro w' g M)|refine zLDo (M.o.at0) ?_)
   go_ret
   exact⟨by rw[HD.o];rfl,M.o.ext⟩
 .have HD:=bx (Aj9 (n:=v.nodes.n) (fun h'=>h h'.1))
  go_enter Tryz.func141,Tryz.ntmps141
  go_wp2_with (refine zBYo (AaD s v) ?_;clear M;intro w' g M)
  go_ret
  exact⟨by rw[HD.o];rfl,M.o.ext⟩
def Sto.nod(s:Sto)(i:Int):Option Nod:=if 0<=i then s.nodes[i.toNat]? else none
theorem Al5{s:Sto}{k:Nat}(h:k<s.nodes.length):s.nod (k:Int)=some s.nodes[k]:=by simp[Sto.nod,List.getElem?_eq_getElem h]
theorem Aqf{s:Sto}{i:Int}(h:isI i s.nodes.length=false):s.nod i=none:=by
 have:=of_decide_eq_false h
 unfold Sto.nod
 split
 .rw[List.getElem?_eq_none];omega
 .rfl
theorem AeP(s:Sto)(i:Int):(isI i s.nodes.length=false/\s.nod i=none)\/∃k:Nat,∃h:k<s.nodes.length,i=(k:Int)/\isI i s.nodes.length=true/\s.nod i=some s.nodes[k]:=by
 cases h:isI i s.nodes.length with
 |false=>exact .inl ⟨rfl,Aqf h⟩
 |true=>
  have:=AcF h
  obtain⟨k,rfl⟩:∃k:Nat,i=(k:Int):=⟨i.toNat,by omega⟩
  have hk:k<s.nodes.length:=by omega
  exact .inr ⟨k,hk,rfl,rfl,Al5 hk⟩
def Sto.ep(s:Sto)(k:U):U:=epN k s.c.spe
def Sto.srcN(s:Sto)(n:Nod):Cp:=if(s.ep n.b.slot).n<(s.ep s.now).n then n.b.pj else n.b.just
def Sto.src(s:Sto)(i:Int):Cp:=match s.nod i with|none=>cp0|some n=>s.srcN n
def Sto.qualN(s:Sto)(n:Nod):Bool:=decide (n.st≠2)&&(let e:=(s.srcN n).e.n;decide (s.just.e.n=0)||decide (e=s.just.e.n)||decide ((s.ep s.now).n<=e)||decide ((s.ep s.now).n-e<=2))
def Sto.qual(s:Sto)(i:Int):Bool:=match s.nod i with|none=>false|some n=>s.qualN n
theorem Agw:ZeroT Tryz.prog 37 (cpP cp0) [1,32]:=⟨fun w=>by kernel_rfl,AaC _⟩
theorem Akz(Γ:Gam)(s:Sto)(v:Sls)(i:Int)(hs:0<s.c.spe.n)(w:World)(ok:Ok Γ w)(h:StG Γ v s) :
  Calls Tryz.prog 142 #[.agg (fl (stP s v)).toArray,.int .i64 i] w fun e w'=>e=.returned (.agg (fl (cpP (s.src i))).toArray)/\Ext Γ w Γ w':=by
 have M:=bx (MM.start ok)
 have hspe:=hs
 have LN:=bx h.nodes.n
 clear ok
 rcases AeP s i with⟨h1,h2⟩|⟨k,hk,rfl,h1,h2⟩
 .have HI:=bx h1
  have HR:Bx (s.src i=cp0):=⟨by unfold Sto.src;rw[h2]⟩
  clear h1 h2 h
  go_enter Tryz.func142,Tryz.ntmps142
  go_wp2_with (first|((first|refine zBYo (AaD s v) ?_|refine zALo (Agw) ?_);clear M;intro w' g M)|refine zLDo (M.o.at1) ?_)
  refine zCA M (AhM _ s v i _ M.ok) ?_;clear M;intro w1 M
  rw[LN.o,HI.o]
  go_wp2_with (first|((with_reducible refine AcM rfl 37 _ rfl [] (fl (cpP cp0)) ?_ (by kernel_rfl) ?_);rfl)|(refine zSSo M 0 (cpP cp0) (cpP cp0) (AaC _) (AaO _) ?_;clear M;intro w' M))
  rw[HR.o]
  exact zRb M.o.at0 ⟨rfl,M.o.ext⟩
 .have HI:=bx h1
  have HS:Bx (s.src (k:Int)=s.srcN s.nodes[k]):=⟨by unfold Sto.src;rw[h2]⟩
  obtain⟨gn,hA,hc⟩:=h.nodes.at (fun x _=>AbH x) k hk
  have HC:=bx hc
  have HA:=bx (Aei hA)
  have hkn:k<v.nodes.n:=by rw[LN.o];exact hk
  have E1:=bx (fun(Γ:Gam) (x:U) w' (ok:Ok Γ w')=>AbZ Γ s v x hspe w' ok)
  have HV:Bx (s.srcN s.nodes[k]=if(epN s.nodes[k].b.slot s.c.spe).n<(epN s.now s.c.spe).n then s.nodes[k].b.pj else s.nodes[k].b.just):=⟨rfl⟩
  clear h1 h2 h hc hs
  generalize s.nodes[k]=x at *
  have hki:(k:Int)<(v.nodes.n:Int):=by omega
  have hk0:0<=(k:Int):=by omega
  go_enter Tryz.func142,Tryz.ntmps142
  go_wp2_with (first|((first|refine zBYo (AaD s v) ?_|refine zALo (Agw) ?_);clear M;intro w' g M)|refine zLDo (M.o.at1) ?_)
  refine zCA M (AhM _ s v (k:Int) _ M.ok) ?_;clear M;intro w1 M
  rw[LN.o,HI.o]
  go_wp2_with (first|refine zLE M.o.at1 (HA.o) ?_|refine zRD (CL.of HC.o (AaK _) M.ok) ?_|(refine zALo (ztNo) ?_;clear M;intro w' g M)|(refine zSSo M 0 (noP x) (noP x) (AaK _) (AbX _) ?_;clear M;intro w' M))
  have Q1:=bx M.o.at2.cls
  have Q0:=bx M.o.at0.cls
  have EC:=bx (fun y:U=>clsE M.o fun w' ok=>E1.o _ y w' ok)
  refine zRG ?_
  repeat((go_big_quiet_want;first|(first|((first|refine zQL Q0.o (AaK _) ?_|refine zQL Q1.o (AaD _ _) ?_|refine zQC (AaJ (EC.o x.b.slot)) Tryz.func143 ?_|refine zQC (AaJ (EC.o s.now)) Tryz.func143 ?_);go_big_quiet_on;refine zNM ?_))|(refine zQO ?_;go_big_quiet_on)))
  (refine zQN ?_;clear M;intro w4 M)
  clear Q1 Q0 EC
  by_cases hlt:(epN x.b.slot s.c.spe).n<(epN s.now s.c.spe).n
  .have HV':=bx (HV.o.trans (if_pos hlt))
   have hlti:((epN x.b.slot s.c.spe).n:Int)<((epN s.now s.c.spe).n:Int):=by omega
   clear HV
   go_wp2_with (first|refine zLDo (M.o.at0) ?_|(refine zSSo M 1 (cpP x.b.pj) (cpP x.b.pj) (AaC _) (AaO _) ?_;clear M;intro w' M))
   rw[HS.o,HV'.o]
   exact zRb M.o.at1 ⟨rfl,M.o.ext⟩
  .have HV':=bx (HV.o.trans (if_neg hlt))
   have hlti:((epN s.now s.c.spe).n:Int)<=((epN x.b.slot s.c.spe).n:Int):=by omega
   clear HV
   go_wp2_with (first|refine zLDo (M.o.at0) ?_|(refine zSSo M 1 (cpP x.b.just) (cpP x.b.just) (AaC _) (AaO _) ?_;clear M;intro w' M))
   rw[HS.o,HV'.o]
   exact zRb M.o.at1 ⟨rfl,M.o.ext⟩
theorem AfZ{s:Sto}{n:Nod}(h:n.st=2):s.qualN n=false:=by unfold Sto.qualN;simp[h]
theorem Ah8{s:Sto}{n:Nod}(h:n.st≠2):s.qualN n=(decide (s.just.e.n=0)||decide ((s.srcN n).e.n=s.just.e.n)||decide ((s.ep s.now).n<=(s.srcN n).e.n)||decide ((s.ep s.now).n-(s.srcN n).e.n<=2)):=by unfold Sto.qualN;simp[h]
theorem AhA(Γ:Gam)(s:Sto)(v:Sls)(i:Int)(hs:0<s.c.spe.n)(w:World)(ok:Ok Γ w)(h:StG Γ v s) :
  Calls Tryz.prog 112 #[.agg (fl (stP s v)).toArray,.int .i64 i] w fun e w'=>e=.returned (.bool (s.qual i))/\Ext Γ w Γ w':=by
 have M:=bx (MM.start ok)
 have IS:Bx (∀Γ w,Ok Γ w->Calls Tryz.prog 141 #[.agg (fl (stP s v)).toArray,.int .i64 i] w fun e w'=>e=.returned (.bool (isI i s.nodes.length))/\Ext Γ w Γ w'):=⟨fun Γ w ok=>by have:=AhM Γ s v i w ok;rwa [h.nodes.n]at this⟩
 have SO:=bx (fun w ok=>Akz Γ s v i hs w ok h)
 have EP:=bx (fun(Γ:Gam) (w:World) ok=>AbZ Γ s v s.now hs w ok)
 clear ok
 rcases AeP s i with⟨h1,h2⟩|⟨k,hk,rfl,h1,h2⟩
 .have HA:Bx (v.nodes.v=v.nodes.v):=⟨rfl⟩
  rw[h1]at IS
  have HR:Bx (s.qual i=false):=⟨by unfold Sto.qual;rw[h2]⟩
  clear h1 h2 h SO EP
  go_enter Tryz.func112,Tryz.ntmps112
  go_wp2_with (first|(refine zBYo (AaD s v) ?_;clear M;intro w' g M)|refine zLDo (M.o.at0) ?_)
  refine zCA M (IS.o _ _ M.ok) ?_;clear M;intro w1 M
  go_wp2_with (go_skip)
  go_ret
  exact⟨by rw[HR.o];rfl,M.o.ext⟩
 .rw[h1]at IS
  have HS:Bx (s.src (k:Int)=s.srcN s.nodes[k]):=⟨by unfold Sto.src;rw[h2]⟩
  have HQ:Bx (s.qual (k:Int)=s.qualN s.nodes[k]):=⟨by unfold Sto.qual;rw[h2]⟩
  rw[HS.o]at SO
  obtain⟨gn,hA,hc⟩:=h.nodes.at (fun x _=>AbH x) k hk
  have HC:=bx hc
  have HA:=bx (Aei hA)
  have hki:(k:Int)<(v.nodes.n:Int):=by rw[h.nodes.n];omega
  have hk0:0<=(k:Int):=by omega
  clear h1 h2 h hc hs hA HS
  generalize s.nodes[k]=x at *
  by_cases hst:x.st=2
  .have HR:=bx (HQ.o.trans (AfZ hst))
   clear HQ SO EP
   (go_enter Tryz.func112,Tryz.ntmps112);(go_wp2_with (first|(refine zBYo (AaD s v) ?_;clear M;intro w' g M)|refine zLDo (M.o.at0) ?_));refine zCA M (IS.o _ _ M.ok) ?_;clear M;intro w1 M;(go_wp2_with (first|refine zLE M.o.at0 (HA.o) ?_|refine zRD (CL.of HC.o (AaK _) M.ok) ?_))
   go_ret
   exact⟨by rw[HR.o];rfl,M.o.ext⟩
  .have HR:=bx (HQ.o.trans (Ah8 hst))
   clear HQ
   generalize s.srcN x=c at *
   change Bx (∀(Γ:Gam) (w:World) (ok:Ok Γ w),Calls Tryz.prog 143 #[.agg (fl (stP s v)).toArray,.int .u64 (s.now.n:Int)] w fun e w'=>e=.returned (.int .u64 ((s.ep s.now).n:Int))/\Ext Γ w Γ w')at EP
   have hj:=s.just.e.lt
   have hn:=(s.ep s.now).lt
   have hc:=c.e.lt
   by_cases h0:s.just.e.n=0
   .have hi0:(s.just.e.n:Int)=0:=by omega
    have HR':Bx (s.qual (k:Int)=true):=⟨by rw[HR.o];simp[h0]⟩
    clear HR
    (go_enter Tryz.func112,Tryz.ntmps112);(go_wp2_with (first|(refine zBYo (AaD s v) ?_;clear M;intro w' g M)|refine zLDo (M.o.at0) ?_));refine zCA M (IS.o _ _ M.ok) ?_;clear M;intro w1 M;(go_wp2_with (first|refine zLE M.o.at0 (HA.o) ?_|refine zLDo (M.o.at0) ?_|refine zRD (CL.of HC.o (AaK _) M.ok) ?_));refine zCA M (SO.o _ M.ok) ?_;clear M;intro w1 M;(go_wp2_with (first|go_skip|refine zLDo (M.o.at0) ?_|((with_reducible apply Adn AiX);rfl;rfl;rfl;exact AaC _;exact zots;rfl;rfl)))
    go_ret
    exact⟨by rw[HR'.o];rfl,M.o.ext⟩
   .have hi0:((s.just.e.n:Int)==0)=false:=by simp;omega
    by_cases h1:c.e.n=s.just.e.n
    .have hi1:((c.e.n:Int)==(s.just.e.n:Int))=true:=by simp;omega
     have HR':Bx (s.qual (k:Int)=true):=⟨by rw[HR.o];simp[h1]⟩
     clear HR
     (go_enter Tryz.func112,Tryz.ntmps112);(go_wp2_with (first|(refine zBYo (AaD s v) ?_;clear M;intro w' g M)|refine zLDo (M.o.at0) ?_));refine zCA M (IS.o _ _ M.ok) ?_;clear M;intro w1 M;(go_wp2_with (first|refine zLE M.o.at0 (HA.o) ?_|refine zLDo (M.o.at0) ?_|refine zRD (CL.of HC.o (AaK _) M.ok) ?_));refine zCA M (SO.o _ M.ok) ?_;clear M;intro w1 M;(go_wp2_with (first|go_skip|refine zLDo (M.o.at0) ?_|((with_reducible apply Adn AiX);rfl;rfl;rfl;exact AaC _;exact zots;rfl;rfl)))
     go_ret
     exact⟨by rw[HR'.o];rfl,M.o.ext⟩
    .have hi1:((c.e.n:Int)==(s.just.e.n:Int))=false:=by simp;omega
     by_cases h2:(s.ep s.now).n<=c.e.n
     .have hi2:((s.ep s.now).n:Int)<=(c.e.n:Int):=by omega
      have HR':Bx (s.qual (k:Int)=true):=⟨by rw[HR.o];simp[h2]⟩
      clear HR
      (go_enter Tryz.func112,Tryz.ntmps112);(go_wp2_with (first|(refine zBYo (AaD s v) ?_;clear M;intro w' g M)|refine zLDo (M.o.at0) ?_));refine zCA M (IS.o _ _ M.ok) ?_;clear M;intro w1 M;(go_wp2_with (first|refine zLE M.o.at0 (HA.o) ?_|refine zLDo (M.o.at0) ?_|refine zRD (CL.of HC.o (AaK _) M.ok) ?_));refine zCA M (SO.o _ M.ok) ?_;clear M;intro w1 M;(go_wp2_with (first|refine zLDo (M.o.at0) ?_|((with_reducible apply Adn AiX);rfl;rfl;rfl;exact AaC _;exact zots;rfl;rfl)))
      refine zCA M (EP.o _ _ M.ok) ?_;clear M;intro w1 M
      go_wp2_with (go_skip)
      go_ret
      exact⟨by rw[HR'.o];rfl,M.o.ext⟩
     .have hi2:¬((s.ep s.now).n:Int)<=(c.e.n:Int):=by omega
      have hwr:IntKind.u64.wrap (((s.ep s.now).n:Int)-(c.e.n:Int))=(((s.ep s.now).n-c.e.n:Nat):Int):=by rw[AdS (by omega) (by omega)];omega
      have HR':Bx (s.qual (k:Int)=decide ((s.ep s.now).n-c.e.n<=2)):=⟨by rw[HR.o];simp[h0,h1,h2]⟩
      clear HR
      (go_enter Tryz.func112,Tryz.ntmps112);(go_wp2_with (first|(refine zBYo (AaD s v) ?_;clear M;intro w' g M)|refine zLDo (M.o.at0) ?_));refine zCA M (IS.o _ _ M.ok) ?_;clear M;intro w1 M;(go_wp2_with (first|refine zLE M.o.at0 (HA.o) ?_|refine zLDo (M.o.at0) ?_|refine zRD (CL.of HC.o (AaK _) M.ok) ?_));refine zCA M (SO.o _ M.ok) ?_;clear M;intro w1 M;(go_wp2_with (first|refine zLDo (M.o.at0) ?_|((with_reducible apply Adn AiX);rfl;rfl;rfl;exact AaC _;exact zots;rfl;rfl)))
      refine zCA M (EP.o _ _ M.ok) ?_;clear M;intro w1 M
      go_wp2_with (refine zLDo (M.o.at0) ?_)
      refine zCA M (EP.o _ _ M.ok) ?_;clear M;intro w1 M
      go_wp2_with (fail)
      go_ret
      exact⟨by rw[HR'.o];go_num,M.o.ext⟩
def idxI{α:Type}(p:α->Bool)(T:List α):Int:=match T.findIdx? p with|some i=>(i:Int)|none=>-1
theorem AeS{α:Type}{p:α->Bool}{T:List α}(h:∀j (hj:j<T.length),p T[j]=false):idxI p T = -1:=by
 have:T.findIdx? p=none:=List.findIdx?_eq_none_iff.2 fun x hx=>by
  obtain⟨j,hj,rfl⟩:=List.getElem_of_mem hx
  exact h j hj
 unfold idxI;rw[this]
theorem AeR{α:Type}{p:α->Bool}{T:List α}{k:Nat}(hk:k<T.length)(h:∀j (hj:j<k),p (T[j]'(by omega))=false)(hp:p T[k]=true):idxI p T=(k:Int):=by
 have:T.findIdx? p=some k:=List.findIdx?_eq_some_iff_getElem.2 ⟨hk,hp,fun j hj=>by rw[h j hj];simp⟩
 unfold idxI;rw[this]
theorem Aay{α:Type}(p:α->Bool)(T:List α):(idxI p T = -1/\∀x∈T,p x=false)\/∃k,∃hk:k<T.length,idxI p T=(k:Int)/\p T[k]=true/\∀j (hj:j<k),p (T[j]'(by omega))=false:=by
 unfold idxI
 cases h:T.findIdx? p with
 |none=>exact .inl ⟨rfl,fun x hx=>(List.findIdx?_eq_none_iff.1 h) x hx⟩
 |some k=>
  obtain⟨hk,h1,h2⟩:=List.findIdx?_eq_some_iff_getElem.1 h
  exact .inr ⟨k,hk,rfl,h1,fun j hj=>by simpa using h2 j hj⟩
theorem Abq(Γ:Gam)(A:Option Addr)(n c:Nat)(T:List Tbl)(x:Cp)(hn:n<=65535)(w:World)(ok:Ok Γ w)(h:TsG Γ A n T) :
  Calls Tryz.prog 106 #[.slice A n c,.agg (fl (cpP x)).toArray] w fun e w'=>e=.returned (.int .i64 (idxI (fun t=>decide (t.c=x)) T))/\Ext Γ w Γ w':=by
 have M:=bx (MM.start ok)
 have HT:=bx h
 have LN:=bx h.1
 clear h ok
 go_enter Tryz.func106,Tryz.ntmps106
 go_wp2_with (refine zBYo (AaC x) ?_;clear M;intro w' g M)
 go_loopw [5] (fun i wr=>∃k:Nat,k<=n/\i=.int .i64 k/\(∀j (hj:j<T.length),j<k->decide (T[j].c=x)=false)/\MM Γ w Γ wr [⟨g,cpP x,[1,32]⟩] []) (fun i _=>n-(intOf i).toNat)
 case atStart=>exact⟨0,Nat.zero_le _,rfl,fun j _ hj=>absurd hj (Nat.not_lt_zero _),M.o⟩
 case round=>
  obtain⟨k,hk,rfl,hno,hM⟩:=hrel
  clear M
  have M:=bx hM
  have HNO:=bx hno
  clear hM hno
  by_cases hkn:k<n
  .have hkl:k<T.length:=by rw[LN.o];exact hkn
   obtain⟨gt,s,rfl,hst,hc⟩:=HT.o.at k hkn
   have QM:=bx M.o.at0.cls
   have QC:=bx (CL.cls hc (AaS _ _) M.ok)
   have HS:=bx (Adg T[k].c x)
   have FND:=bx (fun e=>AeR (p:=fun t=>decide (t.c=x)) hkl (fun j hj=>HNO.o j (Nat.lt_trans hj hkl) hj) e)
   have NXT:=bx (fun(e:decide (T[k].c=x)=false) j (hj:j<T.length) (hjk:j<k+1)=>(Nat.lt_or_eq_of_le (Nat.le_of_lt_succ hjk)).elim (HNO.o j hj) (fun h=>by subst h;exact e))
   have hki:(k:Int)<(n:Int):=by omega
   have hk0:0<=(k:Int):=by omega
   generalize T[k].c=tc at *
   have hq:=HS.o
   cases he:decide (tc=x)with
   |true=>
    rw[he]at hq
    have HE:=bx he
    clear he
    go_wp2_with fail
    refine Aa3 wr.heap.size (by kernel_rfl) (by kernel_rfl) ?_
    repeat((go_big_quiet_want;first|(first|((first|refine zQL QM.o (AaC _) ?_|refine zQR QC.o (AaS _ _) ?_);go_big_quiet_on;refine zNM ?_))|(refine zQO ?_;go_big_quiet_on)))
    refine wpQuiet_nil ?_
    intro w4 hw4
    have M4:=bx (M.o.below hw4.o)
    clear hw4
    go_wp2_with fail
    go_ret
    exact⟨by rw[FND.o HE.o];rfl,M4.o.ext⟩
   |false=>
    rw[he]at hq
    have HE:=bx he
    clear he
    go_wp2_with fail
    refine Aa3 wr.heap.size (by kernel_rfl) (by kernel_rfl) ?_
    repeat((go_big_quiet_want;first|(first|((first|refine zQL QM.o (AaC _) ?_|refine zQR QC.o (AaS _ _) ?_);go_big_quiet_on;refine zNM ?_))|(refine zQO ?_;go_big_quiet_on)))
    refine wpQuiet_nil ?_
    intro w4 hw4
    have M4:=bx (M.o.below hw4.o)
    clear hw4
    go_wp2_with fail
    go_roundw
    case rel=>exact⟨k+1,by omega,by go_num,NXT.o HE.o,M4.o⟩
    case measure=>simp[intOf];omega
  .obtain rfl:k=n:=by omega
   have HR:=bx (AeS (p:=fun t=>decide (t.c=x)) (fun j hj=>HNO.o j hj (by rw[<-LN.o];exact hj)))
   go_wp2_with fail
   go_ret
   exact⟨by rw[HR.o];rfl,M.o.ext⟩
abbrev NG(Γ:Gam)(x:Sl)(N:List Nod):Prop:=SlR Γ x N.length (N.flatMap nox)
theorem SlR.max{Γ:Gam}{s:Sl}{n:Nat}{xs:List Value}(h:SlR Γ s n xs):s.n<=9223372036854775807:=by
 have h1:=h.cap.le
 have h2:=h.cap.mx
 unfold maxLen at h2
 omega
theorem Adu(Γ:Gam)(x:Sl)(i:Int)(w:World)(ok:Ok Γ w) :
  Calls Tryz.prog 88 #[.agg [x.v].toArray,.int .i64 i] w fun e w'=>e=.returned (.bool (isI i x.n))/\Ext Γ w Γ w':=by
 have M:=bx (MM.start ok)
 clear ok
 have hl:([[x.v]]:List (List Value)).map List.length = [1]:=rfl
 change Calls Tryz.prog _ #[.agg (fl [[x.v]]).toArray,_] _ _
 by_cases h:0<=i
 .by_cases h2:i<(x.n:Int)
  .have HD:=bx (AcO h h2)
   go_enter Tryz.func88,Tryz.ntmps88
   go_wp2_with (first|(refine zBYo (hl) ?_;clear M;intro w' g M)|refine zLDo (M.o.at0) ?_)
   go_ret
   exact⟨by rw[HD.o];rfl,M.o.ext⟩
  .have HD:=bx (Aj9 (fun h=>h2 h.2))
   go_enter Tryz.func88,Tryz.ntmps88
   go_wp2_with (first|(refine zBYo (hl) ?_;clear M;intro w' g M)|refine zLDo (M.o.at0) ?_)
   go_ret
   exact⟨by rw[HD.o];rfl,M.o.ext⟩
 .have HD:=bx (Aj9 (n:=x.n) (fun h'=>h h'.1))
  go_enter Tryz.func88,Tryz.ntmps88
  go_wp2_with (refine zBYo (hl) ?_;clear M;intro w' g M)
  go_ret
  exact⟨by rw[HD.o];rfl,M.o.ext⟩
def fndI(N:List Nod)(r:Rt):Int:=idxI (fun n=>decide (n.b.root=r)) N
theorem Aag(Γ:Gam)(x:Sl)(N:List Nod)(r:Rt)(w:World)(ok:Ok Γ w)(h:NG Γ x N) :
  Calls Tryz.prog 24 #[.agg [x.v].toArray,.agg (rc r).toArray] w fun e w'=>e=.returned (.int .i64 (fndI N r))/\Ext Γ w Γ w':=by
 have M:=bx (MM.start ok)
 have HN:=bx h
 have LN:=bx h.n
 have hmx:=h.max
 have hl:([[x.v]]:List (List Value)).map List.length = [1]:=rfl
 have hr:([rc r]:List (List Value)).map List.length = [32]:=by simp[Aav]
 clear h ok
 change Calls Tryz.prog _ #[.agg (fl [[x.v]]).toArray,.agg (fl [rc r]).toArray] _ _
 go_enter Tryz.func24,Tryz.ntmps24
 go_wp2_with (first|((first|refine zBYo (hl) ?_|refine zBYo (hr) ?_);clear M;intro w' g M))
 rename_i g1 _ _
 go_loopw [5] (fun i wr=>∃k:Nat,k<=x.n/\i=.int .i64 k/\(∀j (hj:j<N.length),j<k->decide (N[j].b.root=r)=false)/\MM Γ w Γ wr [⟨g,[rc r],[32]⟩,⟨g1,[[x.v]],[1]⟩] []) (fun i _=>x.n-(intOf i).toNat)
 case atStart=>exact⟨0,Nat.zero_le _,rfl,fun j _ hj=>absurd hj (Nat.not_lt_zero _),M.o⟩
 case round=>
  obtain⟨k,hk,rfl,hno,hM⟩:=hrel
  clear M
  have M:=bx hM
  have HNO:=bx hno
  clear hM hno
  by_cases hkn:k<x.n
  .have hkl:k<N.length:=by rw[<-LN.o];exact hkn
   obtain⟨gt,hA,hc⟩:=HN.o.at (fun x _=>AbH x) k hkl
   have HA:=bx (Aei hA)
   have QM:=bx M.o.at1.cls
   have Q0:=bx M.o.at0.cls
   have QC:=bx (CL.cls hc (AaK _) M.ok)
   have HS:=bx (Aa5 N[k].b.root r)
   have FND:=bx (fun e=>AeR (p:=fun n:Nod=>decide (n.b.root=r)) hkl (fun j hj=>HNO.o j (Nat.lt_trans hj hkl) hj) e)
   have NXT:=bx (fun(e:decide (N[k].b.root=r)=false) j (hj:j<N.length) (hjk:j<k+1)=>(Nat.lt_or_eq_of_le (Nat.le_of_lt_succ hjk)).elim (HNO.o j hj) (fun h=>by subst h;exact e))
   have hki:(k:Int)<(x.n:Int):=by omega
   have hk0:0<=(k:Int):=by omega
   clear hA hc
   generalize N[k]=y at *
   have hq:=HS.o
   cases he:decide (y.b.root=r)with
   |true=>
    rw[he]at hq
    have HE:=bx he
    clear he
    go_wp2_with (refine zLDo (M.o.at1) ?_)
    refine zRG ?_
    repeat((go_big_quiet_want;first|(first|((first|refine zQE QM.o (HA.o) ?_|refine zQL Q0.o hr ?_|refine zQR QC.o (AaK _) ?_);go_big_quiet_on;refine zNM ?_))|(refine zQO ?_;go_big_quiet_on)))
    (refine zQN ?_;clear M;intro w4 M)
    clear QM Q0 QC
    go_wp2_with fail
    go_ret
    exact⟨by unfold fndI;rw[FND.o HE.o];rfl,M.o.ext⟩
   |false=>
    rw[he]at hq
    have HE:=bx he
    clear he
    go_wp2_with (refine zLDo (M.o.at1) ?_)
    refine zRG ?_
    repeat((go_big_quiet_want;first|(first|((first|refine zQE QM.o (HA.o) ?_|refine zQL Q0.o hr ?_|refine zQR QC.o (AaK _) ?_);go_big_quiet_on;refine zNM ?_))|(refine zQO ?_;go_big_quiet_on)))
    (refine zQN ?_;clear M;intro w4 M)
    clear QM Q0 QC
    go_wp2_with fail
    go_roundw
    case rel=>exact⟨k+1,by omega,by go_num,NXT.o HE.o,M.o⟩
    case measure=>simp[intOf];omega
  .obtain rfl:k=x.n:=by omega
   have HR:=bx (AeS (p:=fun n:Nod=>decide (n.b.root=r)) (fun j hj=>HNO.o j hj (by rw[LN.o];exact hj)))
   go_wp2_with (refine zLDo (M.o.at1) ?_)
   go_ret
   exact⟨by unfold fndI;rw[HR.o];rfl,M.o.ext⟩
abbrev nis(l:List Nat):List Value:=ints .i64 (l.map fun(k:Nat)=>(k:Int))
theorem Anz(l:List Nat)(k:Nat):nis (l ++ [k])=nis l ++ [.int .i64 k]:=by simp[nis,ints]
theorem Aph(l:List Nat):(nis l).length=l.length:=by simp[nis,ints]
def n0:Nod:=⟨b0,0,0⟩
theorem nget{N:List Nod}{k:Nat}(h:k<N.length):N.getD k n0=N[k]:=by simp[List.getD,List.getElem?_eq_getElem h]
def kidsTo(N:List Nod)(i:Int)(m:Nat):List Nat:=(List.range m).filter fun k=>decide ((N.getD k n0).up=i)
def kids(N:List Nod)(i:Int):List Nat:=if isI i N.length then kidsTo N i N.length else []
theorem AlE{N:List Nod}{i:Int}{k:Nat}(hk:k<N.length)(h:N[k].up=i):kidsTo N i (k+1)=kidsTo N i k ++ [k]:=by
 unfold kidsTo
 rw[List.range_succ,List.filter_append]
 simp[List.getD,List.getElem?_eq_getElem hk,h]
theorem AmL{N:List Nod}{i:Int}{k:Nat}(hk:k<N.length)(h:N[k].up≠i):kidsTo N i (k+1)=kidsTo N i k:=by
 unfold kidsTo
 rw[List.range_succ,List.filter_append]
 simp[List.getD,List.getElem?_eq_getElem hk,h]
def NisP(Γ:Gam)(w:World)(l:List Nat)(e:Ending)(w':World):Prop:=∃(A:Option Addr) (c:Nat) (Γ':Gam),e=.returned (.slice A l.length c)/\CapOk A l.length c/\SlG Γ' A l.length (nis l)/\Ext Γ w Γ' w'
theorem Aew(Γ:Gam)(x:Sl)(N:List Nod)(i:Int)(w:World)(ok:Ok Γ w)(h:NG Γ x N)(hb:N.length<=65535):Calls Tryz.prog 110 #[.agg [x.v].toArray,.int .i64 i] w (NisP Γ w (kids N i)):=by
 have M:=bx (MM.start ok)
 have HN:=bx h
 have LN:=bx h.n
 have HB:=bx hb
 have hmx:=h.max
 have hl:([[x.v]]:List (List Value)).map List.length = [1]:=rfl
 have IS:Bx (∀Γ w,Ok Γ w->Calls Tryz.prog 88 #[.agg [x.v].toArray,.int .i64 i] w fun e w'=>e=.returned (.bool (isI i N.length))/\Ext Γ w Γ w'):=⟨fun Γ w ok=>by have:=Adu Γ x i w ok;rwa [h.n]at this⟩
 clear h ok hb
 change Calls Tryz.prog _ #[.agg (fl [[x.v]]).toArray,_] _ _
 go_enter Tryz.func110,Tryz.ntmps110
 go_wp2_with (refine zBYo (hl) ?_;clear M;intro w' g M)
 go_loopw [5,6] (fun l j wr=>∃(k:Nat) (A1:Option Addr) (c1:Nat),k<=x.n/\j=.int .i64 k/\(k=0\/isI i N.length=true)/\l=.slice A1 (kidsTo N i k).length c1/\(kidsTo N i k).length<=k/\MM Γ w Γ wr [⟨g,[[x.v]],[1]⟩] [⟨.slice A1 (kidsTo N i k).length c1,3,1,(kidsTo N i k).length,nis (kidsTo N i k)⟩]) (fun _ j _=>x.n-(intOf j).toNat)
 case atStart=>exact⟨0,none,0,Nat.zero_le _,rfl,.inl rfl,rfl,Nat.le_refl 0,M.o.row0 _ _⟩
 case round=>
  obtain⟨k,A1,c1,hk,rfl,hv,rfl,hlen,hM⟩:=hrel
  clear M
  have M:=bx hM
  have HV:=bx hv
  clear hM hv
  by_cases hkn:k<x.n
  .have hkl:k<N.length:=by rw[<-LN.o];exact hkn
   have hki:(k:Int)<(x.n:Int):=by omega
   have hk0:0<=(k:Int):=by omega
   cases hi:isI i N.length with
   |false=>
    rw[hi]at IS
    have hk0':k=0:=HV.o.elim id (fun h=>by rw[hi]at h;cases h)
    have HK:Bx (kids N i = []):=⟨by unfold kids;rw[hi];rfl⟩
    subst hk0'
    go_wp2_with (refine zLDo (M.o.at0) ?_)
    refine zCA M (IS.o _ _ M.ok) ?_;clear M;intro w1 M
    go_wp2_with (fail)
    go_ret
    obtain⟨Γ',h1,h2,h3,h4⟩:=M.o.frz
    unfold NisP
    rw[HK.o]
    exact⟨A1,c1,Γ',rfl,h1,h2,h4.ext⟩
   |true=>
    rw[hi]at IS
    have HI:=bx hi
    obtain⟨gt,hA,hc⟩:=HN.o.at (fun x _=>AbH x) k hkl
    have HA:=bx (Aei hA)
    have HC:=bx hc
    have YES:=bx (AlE (i:=i) hkl)
    have NO:=bx (AmL (i:=i) hkl)
    have HKN:=bx hkn
    have hx5:(kidsTo N i k).length+1<=65536:=by have:=HB.o;omega
    clear hA hc hi HV
    generalize N[k]=y at *
    generalize kidsTo N i k=K at *
    by_cases he:y.up=i
    .subst he
     have YES':=bx (YES.o rfl)
     clear YES NO
     go_wp2_with (refine zLDo (M.o.at0) ?_)
     refine zCA M (IS.o _ _ M.ok) ?_;clear M;intro w1 M
     go_wp2_with (first|refine zLE M.o.at0 (HA.o) ?_|refine zRD (CL.of HC.o (AaK _) M.ok) ?_|((with_reducible apply Aa7 M.o AbO);rfl;rfl;rfl;rfl;intro w' g M' hb';(replace M:=bx M';clear M');clear hb')|(at_builtin;(with_reducible apply AaU M.o AbO);rfl;exact Abk _ _;(unfold maxLen;omega);omega;rfl;rfl;rfl;rfl;intro A' c' w' M';(replace M:=bx M';clear M')))
     go_roundw
     case rel=>exact⟨k+1,A',c',by omega,by go_num,.inr (by trivial),by rw[YES'.o,List.length_append];rfl,by rw[YES'.o,List.length_append];simp;omega,by rw[YES'.o,Anz,List.length_append];exact M.o⟩
     case measure=>have:=HKN.o;simp[intOf];omega
    .have NO':=bx (NO.o he)
     have he':(y.up==i)=false:=by simpa using he
     clear YES NO
     go_wp2_with (refine zLDo (M.o.at0) ?_)
     refine zCA M (IS.o _ _ M.ok) ?_;clear M;intro w1 M
     go_wp2_with (first|refine zLE M.o.at0 (HA.o) ?_|refine zRD (CL.of HC.o (AaK _) M.ok) ?_)
     go_roundw
     case rel=>exact⟨k+1,A1,c1,by omega,by go_num,.inr (by trivial),by rw[NO'.o],by rw[NO'.o];omega,by rw[NO'.o];exact M.o⟩
     case measure=>have:=HKN.o;simp[intOf];omega
  .obtain rfl:k=x.n:=by omega
   have HK:Bx (kids N i=kidsTo N i x.n):=⟨by
    unfold kids
    rw[LN.o]at *
    rcases HV.o with h|h
    .split
     .rfl
     .rw[h];rfl
    .rw[h];rfl⟩
   go_wp2_with (refine zLDo (M.o.at0) ?_)
   go_ret
   obtain⟨Γ',h1,h2,h3,h4⟩:=M.o.frz
   unfold NisP
   rw[HK.o]
   exact⟨A1,c1,Γ',rfl,h1,h2,h4.ext⟩
end
section
def Lk(us:List Int):Prop:=∀i,i<us.length->(i=0/\us.getD i 0 = -1)\/∃u:Nat,u<i/\us.getD i 0=u
def hat(us:List Int)(k:Nat):Nat->Nat->Nat
 |0,j=>j
 |f+1,j=>if j<k then j else hat us k f (us.getD j 0).toNat
def pathF(us:List Int):Nat->Nat->List Nat
 |0,_=>[0]
 |f+1,j=>if j=0 then [0]else pathF us f (us.getD j 0).toNat ++ [j]
theorem Lk.up{us:List Int}(h:Lk us){i:Nat}(hi:i<us.length)(h0:0<i):∃u:Nat,u<i/\us.getD i 0=u:=by
 rcases h i hi with⟨h1,_⟩|h1
 .omega
 .exact h1
theorem AkI{us:List Int}{k j:Nat}(hj:j<k):∀f,hat us k f j=j
 |0=>rfl
 |f+1=>by rw[hat,if_pos hj]
theorem AkH{us:List Int}(h:Lk us){i:Nat}(hi:0<i)(hil:i<us.length):∀(f j:Nat),j<us.length->j<=f ->
  hat us i f j=if hat us (i+1) f j=i then(us.getD i 0).toNat else hat us (i+1) f j
 |0,j,_,hf=>by
  obtain rfl:j=0:=by omega
  simp[hat];omega
 |f+1,j,hj,hf=>by
  unfold hat
  by_cases h1:j<i
  .rw[if_pos h1,if_pos (by omega:j<i+1),if_neg (by omega)]
  .rw[if_neg h1]
   by_cases h2:j=i
   .subst h2
    rw[if_pos (Nat.lt_succ_self _),if_pos rfl]
    obtain⟨u,hu,e⟩:=h.up hj hi
    rw[e,Int.toNat_natCast]
    exact AkI hu f
   .rw[if_neg (by omega:¬j<i+1)]
    obtain⟨u,hu,e⟩:=h.up hj (by omega)
    rw[e,Int.toNat_natCast]
    exact AkH h hi hil f u (by omega) (by omega)
theorem AiB{us:List Int}(h:Lk us):∀(f g j:Nat),j<us.length->j<=f->j<=g->pathF us f j=pathF us g j
 |0,g,j,_,hf,_=>by
  obtain rfl:j=0:=by omega
  cases g<;>simp[pathF]
 |f+1,0,j,_,_,hg=>by
  obtain rfl:j=0:=by omega
  simp[pathF]
 |f+1,g+1,j,hj,hf,hg=>by
  unfold pathF
  by_cases h0:j=0
  .rw[if_pos h0,if_pos h0]
  .rw[if_neg h0,if_neg h0]
   obtain⟨u,hu,e⟩:=h.up hj (by omega)
   rw[e,Int.toNat_natCast,AiB h f g u (by omega) (by omega) (by omega)]
theorem AjG{us:List Int}(h:Lk us):∀(f j:Nat),j<us.length->j<=f->∀x∈pathF us f j,x<=j
 |0,j,_,_,x,hx=>by simp[pathF]at hx;omega
 |f+1,j,hj,hf,x,hx=>by
  unfold pathF at hx
  by_cases h0:j=0
  .rw[if_pos h0]at hx;simp at hx;omega
  .rw[if_neg h0]at hx
   obtain⟨u,hu,e⟩:=h.up hj (by omega)
   rw[e,Int.toNat_natCast]at hx
   rcases List.mem_append.1 hx with hx|hx
   .have:=AjG h f u (by omega) (by omega) x hx;omega
   .simp at hx;omega
theorem Ajx{us:List Int}(h:Lk us)(i:Nat):∀(f j:Nat),j<us.length->j<=f->(i∈pathF us f j↔hat us (i+1) f j=i)
 |0,j,_,hf=>by
  obtain rfl:j=0:=by omega
  simp[pathF,hat];omega
 |f+1,j,hj,hf=>by
  unfold pathF hat
  by_cases h0:j=0
  .subst h0
   rw[if_pos rfl,if_pos (by omega:0<i+1)]
   simp;omega
  .rw[if_neg h0]
   obtain⟨u,hu,e⟩:=h.up hj (by omega)
   rw[e,Int.toNat_natCast]
   by_cases hji:j<i+1
   .rw[if_pos hji]
    constructor
    .intro hx
     rcases List.mem_append.1 hx with hx|hx
     .have:=AjG h f u (by omega) (by omega) i hx;omega
     .simp at hx;omega
    .intro hx;subst hx;simp
   .rw[if_neg hji,<-Ajx h i f u (by omega) (by omega)]
    simp;omega
def anc(us:List Int)(i j:Nat):Bool:=decide (hat us (i+1) j j=i)
def own(us:List Int)(k:Nat)(d:Nat->Int)(i:Nat):Nat->Int
 |0=>0
 |n+1=>own us k d i n+if hat us k n n=i then d n else 0
def tot(us:List Int)(d:Nat->Int)(i n:Nat):Int:=own us (i+1) d i n
theorem Al2{us:List Int}(d:Nat->Int)(i:Nat):∀(n k:Nat),n<=k->own us k d i n=if i<n then d i else 0
 |0,k,_=>by simp[own]
 |n+1,k,h=>by
  rw[own,Al2 d i n k (by omega),AkI (by omega)]
  by_cases h1:i<n
  .rw[if_pos h1,if_neg (by omega),if_pos (by omega)];omega
  .rw[if_neg h1]
   by_cases h2:n=i
   .subst h2;rw[if_pos rfl,if_pos (by omega)];omega
   .rw[if_neg h2,if_neg (by omega)];rfl
theorem Aj0{us:List Int}(h:Lk us){i u:Nat}(d:Nat->Int)(hi:0<i)(hil:i<us.length)(hu:u<i):∀n,n<=us.length ->
  own us i d u n=own us (i+1) d u n+if us.getD i 0=u then own us (i+1) d i n else 0
 |0,_=>by simp[own]
 |n+1,hn=>by
  have ih:=Aj0 h d hi hil hu n (by omega)
  have hs:=AkH h hi hil n n (by omega) (Nat.le_refl _)
  obtain⟨v,hv,e⟩:=h.up hil hi
  rw[e]at ih hs |-
  rw[Int.toNat_natCast]at hs
  rw[own,own,own,ih,hs]
  by_cases h1:hat us (i+1) n n=i
  .rw[if_pos h1,if_pos h1,if_neg (by omega:¬hat us (i+1) n n=u)]
   by_cases h2:v=u
   .rw[if_pos (by omega:(v:Int)=(u:Int)),if_pos h2,if_pos (by omega:(v:Int)=(u:Int))];omega
   .rw[if_neg (by omega:¬(v:Int)=(u:Int)),if_neg h2,if_neg (by omega:¬(v:Int)=(u:Int))]
  .rw[if_neg h1,if_neg h1]
   by_cases h2:v=u
   .rw[if_pos (by omega:(v:Int)=(u:Int)),if_pos (by omega:(v:Int)=(u:Int))];omega
   .rw[if_neg (by omega:¬(v:Int)=(u:Int)),if_neg (by omega:¬(v:Int)=(u:Int))];omega
end
section
open Go.RowKit
theorem MM.lswap{Γ0 Γ:Gam}{w0 w:World}{L:List Ent}{R:List RowE}{a b:Ent}(M:MM Γ0 w0 Γ w (a::b::L) R):MM Γ0 w0 Γ w (b::a::L) R:=by
 have sw:∀{p:Ent},p∈b::a::L->p∈a::b::L:=fun h=>by
  simp only[List.mem_cons]at h |-;exact h.elim (fun h=>.inr (.inl h)) fun h=>h.elim .inl fun h=>.inr (.inr h)
 obtain⟨h1,h2⟩:=List.pairwise_cons.1 M.nd
 obtain⟨h3,h4⟩:=List.pairwise_cons.1 h2
 refine⟨M.ext,fun p h=>M.has p (sw h),fun p h=>M.len p (sw h),fun p h=>M.off p (sw h),fun p h=>M.lo p (sw h),List.pairwise_cons.2 ⟨fun p hp=>?_,List.pairwise_cons.2 ⟨fun p hp=>h1 p (List.mem_cons_of_mem _ hp),h4⟩⟩,M.rows,fun r h g hg=>⟨(M.roff r h g hg).1,fun p hp=>(M.roff r h g hg).2 p (sw hp)⟩,M.rnd⟩
 rcases List.mem_cons.1 hp with rfl|hp
 .exact fun e=>h1 b (List.mem_cons_self ..) e.symm
 .exact h3 p hp
theorem Aas{Pg:Program}{w:World}{fn:Func}{p q r:Tmp}{ty ty2:TypeId}(h:fn.results = #[.cell p ty,.cell q ty2,.tmp r])(tmps:Array Value){g n g2 n2:Nat}{P P2:List (List Value)}{ls ls2:List Nat}(H:HL w g P ls)(H2:HL w g2 P2 ls2)(hp:tmps.getD p undef=.pointer (some ⟨g,0,none⟩))(hq:tmps.getD q undef=.pointer (some ⟨g2,0,none⟩))(rt:RowT Pg ty n)(rt2:RowT Pg ty2 n2)(hn:ls.sum=n)(hn2:ls2.sum=n2) :
  (results fn tmps).run Pg w=.ok (.tuple #[.agg (fl P).toArray,.agg (fl P2).toArray,tmps.getD r undef]) w:=by
 obtain⟨d,hu,hd⟩:=rt.ex
 obtain⟨d2,hu2,hd2⟩:=rt2.ex
 have hp':tmps[p]?.getD undef=.pointer (some ⟨g,0,none⟩):=by simpa using hp
 have hq':tmps[q]?.getD undef=.pointer (some ⟨g2,0,none⟩):=by simpa using hq
 have h1:=Ab2 (P:=Pg) (g:=g) H.has hu (by cases d<;>first|rfl|cases hd) (by rw[rt.n,AbE H.len,hn])
 have h2:=Ab2 (P:=Pg) (g:=g2) H2.has hu2 (by cases d2<;>first|rfl|cases hd2) (by rw[rt2.n,AbE H2.len,hn2])
 simp[results,h,hp',hq',asAddr,h1,h2]
end
end Go.Proofs.YtpaihpeoiliioaaGreat
