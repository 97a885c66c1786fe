/- Texts joined: what the walks of this claim stand on (part 3). -/
import Derived.Test.YtpaihpeoiliioaaLK2
set_option linter.all false
set_option maxRecDepth 20000
set_option maxHeartbeats 40000000
namespace Go.Proofs.Ytpaihpeoiliioaa
section
open Go.RowKit
section
variable {P:Program}{ops:Array Oper}{md:Region.Mode}{Q:Exit->Act->World->Prop}
def wpAnyI(P:Program)(md:Region.Mode)(ops:Array Oper)(Q:Exit->Act->World->Prop)(C:World->Prop):Nat->Array Bool->Act->World->Prop
 |0,listed,a,w=>Region.ready md ops listed = []/\Q .normal a w
 |f+1,listed,a,w=>(Region.ready md ops listed = []->Q .normal a w) /\
  ∀i∈Region.ready md ops listed,wpOp P ops Q i (fun a' w'=>C w'/\wpAnyI P md ops Q C f (listed.setIfInBounds i true) a' w') a w
theorem AeI{C:World->Prop}:∀(f:Nat) (listed:Array Bool) (a:Act) (w:World),wpAnyI P md ops Q C f listed a w->wpAny P md ops Q f listed a w
 |0,listed,a,w,h=>h
 |f+1,listed,a,w,h=>⟨h.1,fun i hi=>wpOp_mono (fun a' w' h'=>AeI f _ a' w' h'.2) (h.2 i hi)⟩
theorem AbQ{C:World->Prop}{i:Nat}{oi:Oper}{v:Value}(hi:ops[i]? = some oi)(hsel:∀(j:Nat) (o:Oper) cs b,ops[j]? = some o->o.op ≠ .select cs b)
  (hQ:∀c a w,Q (.panic c) (a.put oi.dst v) w->Q (.panic c) a w) :
  ∀(f:Nat) (listed:Array Bool) (a:Act) (w:World),Closed md ops listed ->
   (∀j oj,ops[j]? = some oj->j≠i->listed.getD j true=false->(∀e∈oj.after,Region.binds md e=true->e.on≠i)->oi.apart ops oj=true) ->
   i∈Region.ready md ops listed->C w->(YieldsS P ops (fun _=>True) oi v a\/YieldsS P ops C oi v a) ->
   wpAnyI P md ops Q C f (listed.setIfInBounds i true) (a.put oi.dst v) w->wpAnyI P md ops Q C (f+1) listed a w:=by
 intro f
 induction f with
 |zero=>
  intro listed a w inv _ hr hC hy H
  refine⟨fun h=>(by rw[h]at hr;cases hr),fun j hj=>?_⟩
  by_cases hji:j=i
  .subst hji
   rcases hy with hy|hy
   .exact hy.wpOp hi trivial ⟨hC,H⟩
   .exact hy.wpOp hi hC ⟨hC,H⟩
  .have:=ready_mono hj hji
   rw[H.1]at this
   cases this
 |succ f ih=>
  intro listed a w inv hfree hr hC hy H
  have hun:=(mem_ready.1 hr).1
  refine⟨fun h=>(by rw[h]at hr;cases hr),fun j hj=>?_⟩
  by_cases hji:j=i
  .subst hji
   rcases hy with hy|hy
   .exact hy.wpOp hi trivial ⟨hC,H⟩
   .exact hy.wpOp hi hC ⟨hC,H⟩
  .have h1:=H.2 j (ready_mono hj hji)
   obtain⟨hjun,oj,hoj,hall⟩:=mem_ready.1 hj
   have hnot:∀e∈oj.after,Region.binds md e=true->e.on≠i:=fun e he hb heq=>by
    have h1:=hall e he hb
    rw[heq,getD_both hun]at h1
    cases h1
   have hfree':∀k ok,ops[k]? = some ok->k≠i->(listed.setIfInBounds j true).getD k true=false ->
     (∀e∈ok.after,Region.binds md e=true->e.on≠i)->oi.apart ops ok=true:=fun k ok hk hki hun2 hno=>by
    refine hfree k ok hk hki ?_ hno
    by_cases hjk:j=k
    .subst hjk;exact hjun
    .rw[getD_set_ne true hjk]at hun2;exact hun2
   have h2:=Ac0 hoj (hfree j oj hoj hji hjun hnot) (fun cs b=>hsel i oi cs b hi) (fun cs b=>hsel j oj cs b hoj) hQ h1
   refine wpOp_mono (fun a' w' h3=>⟨h3.2.1,ih (listed.setIfInBounds j true) a' w' (inv.set hj) hfree' (ready_mono hr (Ne.symm hji)) h3.2.1 ?_ ?_⟩) h2
   .rcases hy with hy|hy
    .exact .inl (h3.1 _ hy)
    .exact .inr (h3.1 _ hy)
   .rw[Array.setIfInBounds_comm _ _ hji]
    exact h3.2.2
def stepB7(md:Region.Mode)(ops:Array Oper)(c i:Nat)(listed:Array Bool):Bool:=
 (Region.ready md ops listed).contains i&&(if 2<=c then decide (Region.ready md ops listed = [i])else Region.free md ops listed i&&isPure (ops.getD i default).op)
def mixRun7(md:Region.Mode)(ops:Array Oper):MT->Array Bool->Bool
 |.leaf,listed=>(Region.ready md ops listed).isEmpty
 |.one c i rest,listed=>stepB7 md ops c i listed&&mixRun7 md ops rest (listed.setIfInBounds i true)
 |.fork i ri j rj,listed=>(Region.ready md ops listed).all (fun k=>k==i||k==j)&&(Region.ready md ops listed).contains i&&decide (ri.len=rj.len) &&
   mixRun7 md ops ri (listed.setIfInBounds i true)&&mixRun7 md ops rj (listed.setIfInBounds j true)
 |.fork3 i ri j rj k rk,listed=>(Region.ready md ops listed).all (fun z=>z==i||z==j||z==k)&&(Region.ready md ops listed).contains i&&decide (ri.len=rj.len)&&decide (ri.len=rk.len) &&
   mixRun7 md ops ri (listed.setIfInBounds i true)&&mixRun7 md ops rj (listed.setIfInBounds j true)&&mixRun7 md ops rk (listed.setIfInBounds k true)
def stepI(P:Program)(ops:Array Oper)(Q:Exit->Act->World->Prop)(C:World->Prop)(l:List Oper)(i:Nat)(K:Act->World->Prop)(a:Act)(w:World):Prop:=
 if Region.wanted (l.getD i default) (yielded ops a.tmps)=true then(l.getD i default).wp P a w (fun a2 w2=>C w2/\K a2 w2) Q else K (a.put (l.getD i default).dst undef) w
def MixT7(P:Program)(ops:Array Oper)(Q:Exit->Act->World->Prop)(C:World->Prop)(l:List Oper):MT->Act->World->Prop
 |.leaf,a,w=>Q .normal a w
 |.one c i rest,a,w=>match c with
  |0=>wpQuiet P ops C (fun a'=>MixT7 P ops Q C l rest a' w) [l.getD i default] a
  |1=>wpQuiet P ops (fun _=>True) (fun a'=>MixT7 P ops Q C l rest a' w) [l.getD i default] a
  |_=>stepI P ops Q C l i (MixT7 P ops Q C l rest) a w
 |.fork i ri j rj,a,w=>stepI P ops Q C l i (MixT7 P ops Q C l ri) a w/\stepI P ops Q C l j (MixT7 P ops Q C l rj) a w
 |.fork3 i ri j rj k rk,a,w=>stepI P ops Q C l i (MixT7 P ops Q C l ri) a w/\stepI P ops Q C l j (MixT7 P ops Q C l rj) a w/\stepI P ops Q C l k (MixT7 P ops Q C l rk) a w
theorem AcI{C:World->Prop}{l:List Oper}{i:Nat}{oi:Oper}(hoi:l.toArray[i]? = some oi){K K2:Act->World->Prop}{a:Act}{w:World}(hC:C w)(h:stepI P l.toArray Q C l i K a w)(hK:∀a2 w2,C w2->K a2 w2->K2 a2 w2) :
  wpOp P l.toArray Q i (fun a2 w2=>C w2/\K2 a2 w2) a w:=by
 have hgd:=AbH hoi
 simp only[stepI,hgd]at h
 unfold Go.wpOp
 simp only[hoi]
 by_cases hw:Region.wanted oi (yielded l.toArray a.tmps)=true
 .rw[if_pos hw]at h |-
  exact .inl (Oper.wp_mono (fun a2 w2 hh=>⟨hh.1,hK _ _ hh.1 hh.2⟩) h)
 .rw[if_neg hw]at h |-
  exact⟨hC,hK _ _ hC h⟩
theorem Aay{C:World->Prop}{l:List Oper}(hsel:Region.noSelect l.toArray=true)
  (hQ:∀(d:Option Tmp) (v:Value) c a w,Q (.panic c) (a.put d v) w->Q (.panic c) a w) :
  ∀(t:MT) (listed:Array Bool) (a:Act) (w:World),Closed md l.toArray listed->mixRun7 md l.toArray t listed=true->C w->MixT7 P l.toArray Q C l t a w ->
   wpAnyI P md l.toArray Q C t.len listed a w
 |.leaf,listed,a,w,inv,hB,hC,h=>⟨by simpa [mixRun7]using hB,h⟩
 |.fork i ri j rj,listed,a,w,inv,hB,hC,h=>by
  simp only[mixRun7,Bool.and_eq_true,decide_eq_true_eq]at hB
  obtain⟨⟨⟨⟨hall,hc⟩,hlen⟩,hBi⟩,hBj⟩:=hB
  show wpAnyI P md l.toArray Q C (ri.len+1) listed a w
  refine⟨fun h0=>(by rw[h0]at hc;simp at hc),fun k hk=>?_⟩
  have hk2:=List.all_eq_true.1 hall k hk
  simp only[Bool.or_eq_true,beq_iff_eq]at hk2
  obtain⟨_,oi,hoi,_⟩:=mem_ready.1 hk
  rcases hk2 with rfl|rfl
  .exact AcI hoi hC h.1 (fun a2 w2 hC2 h2=>Aay hsel hQ ri _ a2 w2 (inv.set hk) hBi hC2 h2)
  .rw[hlen]
   exact AcI hoi hC h.2 (fun a2 w2 hC2 h2=>Aay hsel hQ rj _ a2 w2 (inv.set hk) hBj hC2 h2)
 |.fork3 i ri j rj k' rk,listed,a,w,inv,hB,hC,h=>by
  simp only[mixRun7,Bool.and_eq_true,decide_eq_true_eq]at hB
  obtain⟨⟨⟨⟨⟨⟨hall,hc⟩,hlen⟩,hlen2⟩,hBi⟩,hBj⟩,hBk⟩:=hB
  show wpAnyI P md l.toArray Q C (ri.len+1) listed a w
  refine⟨fun h0=>(by rw[h0]at hc;simp at hc),fun k hk=>?_⟩
  have hk2:=List.all_eq_true.1 hall k hk
  simp only[Bool.or_eq_true,beq_iff_eq]at hk2
  obtain⟨_,oi,hoi,_⟩:=mem_ready.1 hk
  rcases hk2 with(rfl|rfl)|rfl
  .exact AcI hoi hC h.1 (fun a2 w2 hC2 h2=>Aay hsel hQ ri _ a2 w2 (inv.set hk) hBi hC2 h2)
  .rw[hlen]
   exact AcI hoi hC h.2.1 (fun a2 w2 hC2 h2=>Aay hsel hQ rj _ a2 w2 (inv.set hk) hBj hC2 h2)
  .rw[hlen2]
   exact AcI hoi hC h.2.2 (fun a2 w2 hC2 h2=>Aay hsel hQ rk _ a2 w2 (inv.set hk) hBk hC2 h2)
 |.one c i rest,listed,a,w,inv,hB,hC,h=>by
  simp only[mixRun7,Bool.and_eq_true]at hB
  obtain⟨hcnd,h1⟩:=hB
  simp only[stepB7,Bool.and_eq_true]at hcnd
  obtain⟨hrd,hcnd⟩:=hcnd
  have hr':i∈Region.ready md l.toArray listed:=by simpa using hrd
  obtain⟨_,oi,hoi,_⟩:=mem_ready.1 hr'
  have hgd:=AbH hoi
  have hgd2:l.toArray.getD i default=oi:=by simp[Array.getD_eq_getD_getElem?,hoi]
  show wpAnyI P md l.toArray Q C (rest.len+1) listed a w
  match c,hcnd,h with
  |0,hcnd,h=>
   rw[if_neg (show ¬2<=0 by omega)]at hcnd
   simp only[Bool.and_eq_true]at hcnd
   obtain⟨hfr,hpu⟩:=hcnd
   rw[hgd2]at hpu
   simp only[MixT7,hgd]at h
   unfold wpQuiet at h
   by_cases hw:Region.wanted oi (yielded l.toArray a.tmps)=true
   .rw[if_pos hw]at h
    obtain⟨v,hv,hq⟩:=h
    exact AbQ hoi (Region.noSelect_spec hsel) (hQ _ _) _ listed a w inv (Region.free_spec hoi hfr) hr' hC (.inr (.inl ⟨hw,fun w' hw'=>Aa8 hpu (hv w' hw')⟩))
     (Aay hsel hQ rest _ _ w (inv.set hr') h1 hC hq)
   .rw[if_neg hw]at h
    exact AbQ hoi (Region.noSelect_spec hsel) (hQ _ _) _ listed a w inv (Region.free_spec hoi hfr) hr' hC (.inl (.inr ⟨by simpa using hw,rfl⟩))
     (Aay hsel hQ rest _ _ w (inv.set hr') h1 hC h)
  |1,hcnd,h=>
   rw[if_neg (show ¬2<=1 by omega)]at hcnd
   simp only[Bool.and_eq_true]at hcnd
   obtain⟨hfr,hpu⟩:=hcnd
   rw[hgd2]at hpu
   simp only[MixT7,hgd]at h
   unfold wpQuiet at h
   by_cases hw:Region.wanted oi (yielded l.toArray a.tmps)=true
   .rw[if_pos hw]at h
    obtain⟨v,hv,hq⟩:=h
    exact AbQ hoi (Region.noSelect_spec hsel) (hQ _ _) _ listed a w inv (Region.free_spec hoi hfr) hr' hC (.inl (.inl ⟨hw,fun w' hw'=>Aa8 hpu (hv w' hw')⟩))
     (Aay hsel hQ rest _ _ w (inv.set hr') h1 hC hq)
   .rw[if_neg hw]at h
    exact AbQ hoi (Region.noSelect_spec hsel) (hQ _ _) _ listed a w inv (Region.free_spec hoi hfr) hr' hC (.inl (.inr ⟨by simpa using hw,rfl⟩))
     (Aay hsel hQ rest _ _ w (inv.set hr') h1 hC h)
  |c+2,hcnd,hm=>
   rw[if_pos (show 2<=c+2 by omega)]at hcnd
   have hrd2:=of_decide_eq_true hcnd
   refine⟨fun h0=>(by rw[h0]at hr';cases hr'),fun j hj=>?_⟩
   rw[hrd2]at hj
   obtain rfl:j=i:=by simpa using hj
   exact AcI hoi hC hm (fun a2 w2 hC2 h2=>Aay hsel hQ rest _ a2 w2 (inv.set hr') h1 hC2 h2)
def mixB7(md:Region.Mode)(ops:Array Oper)(t:MT):Bool:=
 Region.noSelect ops&&decide (t.len=ops.size)&&mixRun7 md ops t (Array.replicate ops.size false)
theorem Aai{id:Nat}{a:Act}{w:World}{l:List Oper}(C:World->Prop)(t:MT)(hm:P.follows .mixedOrders=true)(hB:mixB7 .any l.toArray t=true)(hC:C w.drew)
  (h:MixT7 P l.toArray (NoPanic Q) C l t a w.drew):(Code.region id l.toArray true).wp P Q a w:=by
 refine wp_region_noPanic ?_
 simp only[mixB7,Bool.and_eq_true,decide_eq_true_eq]at hB
 obtain⟨⟨hsel,hlen⟩,hB⟩:=hB
 have inv0:Closed .any l.toArray (Array.replicate l.toArray.size false):=⟨by simp,fun j oj _ hl=>(by rw[getD_replicate_false]at hl;cases hl)⟩
 have H:=Aay (P:=P) (Q:=NoPanic Q) hsel (fun _ _ _ _ _ hh=>hh) t _ a w.drew inv0 hB hC h
 rw[hlen]at H
 exact wp_region_any hm (AeI _ _ _ _ H)
end
open Go.RowKit
theorem zrts{A:Prop}(h:A:=by first|(first|exact AlE|exact rtCk|exact rtSt|exact Ab6|exact rtBl|exact rtNo|exact rtTb|exact rtVo|exact rtCf|exact Aj7|exact rtAt|exact rtWd)|exact rtPu):A:=h
theorem zots{A:Prop}(h:A:=by first|(first|exact AcU|exact Amt|exact AlO|exact AkI|exact AlM|exact AlN|exact Amu|exact Ams|exact Amw|exact Amv)|exact otPt|exact otPs|exact otPb|exact otIs|exact otVs):A:=h
theorem Ak2{A:Prop}(h:A:=by(first|with_reducible exact AaL _ _|with_reducible exact AaG _|with_reducible exact AaY _|with_reducible exact Ajt _ _|with_reducible exact Aey _ _|with_reducible exact Ahc _|with_reducible exact AiN _|with_reducible exact Aae _ _|with_reducible exact Aeb _|with_reducible exact AaO _|with_reducible exact Aao _ _|with_reducible exact len1 _|with_reducible exact lenR _|with_reducible exact lenW _|with_reducible exact Akk _ _|with_reducible exact Aj4 _ _ _|with_reducible exact Ajx _|with_reducible exact AkJ _ _|(simp[AaU,Aca];done))):A:=h
theorem zCT{A B:Prop}(h:B)(hs:B->A:=by(intro hh';(first|simp only[Nat.reduceAdd,List.drop_zero,Acu,Acs,AbC,Adu,AbL,AbM,Aby,Abz,Ads,Abx,AbJ,AbK,Abv,Abw,Adp,Adv,Ab0,Adr,Adt,Ac9,Adq,Abu,Abr,Abs,Abt,Ado,Abm,Abq,Abo,Abp,Abn,Agn,Agk,AdM,AdL,Agj,Agm,AdQ,AdR,AdP,AdO,AdN,Akf,Akg]|simp only[Nat.reduceAdd,List.drop_zero,Acu,Acs,AbC,Adu,AbL,AbM,Aby,Abz,Ads,Abx,AbJ,AbK,Abv,Abw,Adp,Adv,Ab0,Adr,Adt,Ac9,Adq,Abu,Abr,Abs,Abt,Ado,Abm,Abq,Abo,Abp,Abn,Agn,Agk,AdM,AdL,Agj,Agm,AdQ,AdR,AdP,AdO,AdN,Agl,AiE,AiD]|simp only[Nat.reduceAdd,List.drop_zero,Acu,Acs,AbC,Adu,AbL,AbM,Aby,Abz,Ads,Abx,AbJ,AbK,Abv,Abw,Adp,Adv,Ab0,Adr,Adt,Ac9,Adq,Abu,Abr,Abs,Abt,Ado,Abm,Abq,Abo,Abp,Abn,Agn,Agk,AdM,AdL,Agj,Agm,AdQ,AdR,AdP,AdO,AdN,Agl]|simp only[Nat.reduceAdd,List.drop_zero,Acu,Acs,AbC,Adu,AbL,AbM,Aby,Abz,Ads,Abx,AbJ,AbK,Abv,Abw,Adp,Adv,Ab0,Adr,Adt,Ac9,Adq,Abu,Abr,Abs,Abt,Ado,Abm,Abq,Abo,Abp,Abn,Agn,Agk,AdM,AdL,Agj,Agm,AdQ,AdR,AdP,AdO,AdN]|simp only[Nat.reduceAdd,List.drop_zero,Acu,Acs,AbC,Adu,AbL,AbM,Aby,Abz,Ads,Abx,AbJ,AbK,Abv,Abw,Adp,Adv,Ab0,Adr,Adt,Ac9,Adq,Abu,Abr,Abs,Abt,Ado,Abm,Abq,Abo,Abp,Abn,Agl,AiE,AiD]|simp only[Nat.reduceAdd,List.drop_zero,Acu,Acs,AbC,Adu,AbL,AbM,Aby,Abz,Ads,Abx,AbJ,AbK,Abv,Abw,Adp,Adv,Ab0,Adr,Adt,Ac9,Adq,Abu,Abr,Abs,Abt,Ado,Abm,Abq,Abo,Abp,Abn,Agl]|simp only[Nat.reduceAdd,List.drop_zero,Acu,Acs,AbC,Adu,AbL,AbM,Aby,Abz,Ads,Abx,AbJ,AbK,Abv,Abw,Adp,Adv,Ab0,Adr,Adt,Ac9,Adq,Abu,Abr,Abs,Abt,Ado,Abm,Abq,Abo,Abp,Abn]|simp only[Nat.reduceAdd,List.drop_zero,Acu,Acs,AbC,Ac9]|simp only[Nat.reduceAdd,List.drop_zero,Acu,Acs,AbC]|skip);exact hh')):A:=hs h
theorem zQL{C:World->Prop}{g:Nat}{P:List (List Value)}{ls:List Nat}(H:∀w',C w'->HL w' g P ls)(H0:P.map List.length=ls){A B:Prop}(h:B)(hs:(∀w',C w'->HL w' g P ls)->P.map List.length=ls->B->A:=by(intro HX HY hh';(first|((with_reducible apply AaC HX HY);rfl;rfl;exact zrts;rfl;rfl;skip)|((with_reducible apply AaA HX);rfl;rfl;exact zots;rfl;rfl;skip)|((with_reducible apply AaB HX HY);rfl;rfl;exact zrts;rfl;refine zCT ?_;skip));exact hh')):A:=hs H H0 h
theorem zQR{C:World->Prop}{g b:Nat}{P:List (List Value)}{ls:List Nat}(H:∀w',C w'->CL w' g b P ls)(H0:P.map List.length=ls){A B:Prop}(h:B)(hs:(∀w',C w'->CL w' g b P ls)->P.map List.length=ls->B->A:=by(intro HX HY hh';(first|((with_reducible apply AfG HX HY);rfl;rfl;exact zrts;rfl;rfl;skip)|((with_reducible apply AfH HX);rfl;rfl;exact zots;rfl;rfl;skip)|((with_reducible apply quiet_rds HX HY);rfl;rfl;exact zrts;rfl;refine zCT ?_;skip)|((with_reducible apply AeR HX HY);rfl;rfl;exact zrts;rfl;rfl;skip)|((with_reducible apply AeS HX);rfl;rfl;exact zots;rfl;rfl;skip)|((with_reducible apply AeQ HX HY);rfl;rfl;exact zrts;rfl;refine zCT ?_;skip));exact hh')):A:=hs H H0 h
theorem zQE{C:World->Prop}{g:Nat}{P:List (List Value)}{ls:List Nat}(H:∀w',C w'->HL w' g P ls){v v':Value}(e:v=v'){A B:Prop}(h:B)(hs:(∀w',C w'->HL w' g P ls)->v=v'->B->A:=by(intro HX HY hh';(((with_reducible apply AaT HX HY);rfl;rfl;exact zots;rfl;rfl;skip));exact hh')):A:=hs H e h
theorem zQO{A B:Prop}(h:B)(hs:B->A:=by(intro hh';(go_big_quiet_op;try(with_reducible refine⟨_,fun _ _=>rfl,?_⟩));exact hh')):A:=hs h
theorem zQAo{A B:Prop}(h:B)(hs:B->A:=by(intro hh';(((with_reducible refine Acn ?_);first|((with_reducible apply AaC M.o.at0.cls M.o.at0.len);rfl;rfl;exact zrts;rfl;rfl;skip)|((with_reducible apply AaA M.o.at0.cls);rfl;rfl;exact zots;rfl;rfl;skip)|((with_reducible apply AaB M.o.at0.cls M.o.at0.len);rfl;rfl;exact zrts;rfl;refine zCT ?_;skip)|((with_reducible apply AaC M.o.at1.cls M.o.at1.len);rfl;rfl;exact zrts;rfl;rfl;skip)|((with_reducible apply AaA M.o.at1.cls);rfl;rfl;exact zots;rfl;rfl;skip)|((with_reducible apply AaB M.o.at1.cls M.o.at1.len);rfl;rfl;exact zrts;rfl;refine zCT ?_;skip)|((with_reducible apply AaC M.o.at2.cls M.o.at2.len);rfl;rfl;exact zrts;rfl;rfl;skip)|((with_reducible apply AaA M.o.at2.cls);rfl;rfl;exact zots;rfl;rfl;skip)|((with_reducible apply AaB M.o.at2.cls M.o.at2.len);rfl;rfl;exact zrts;rfl;refine zCT ?_;skip)|((with_reducible apply AaC M.o.at3.cls M.o.at3.len);rfl;rfl;exact zrts;rfl;rfl;skip)|((with_reducible apply AaA M.o.at3.cls);rfl;rfl;exact zots;rfl;rfl;skip)|((with_reducible apply AaB M.o.at3.cls M.o.at3.len);rfl;rfl;exact zrts;rfl;refine zCT ?_;skip)|((with_reducible apply AaC M.o.at4.cls M.o.at4.len);rfl;rfl;exact zrts;rfl;rfl;skip)|((with_reducible apply AaA M.o.at4.cls);rfl;rfl;exact zots;rfl;rfl;skip)|((with_reducible apply AaB M.o.at4.cls M.o.at4.len);rfl;rfl;exact zrts;rfl;refine zCT ?_;skip)|((with_reducible apply AaC M.o.at5.cls M.o.at5.len);rfl;rfl;exact zrts;rfl;rfl;skip)|((with_reducible apply AaA M.o.at5.cls);rfl;rfl;exact zots;rfl;rfl;skip)|((with_reducible apply AaB M.o.at5.cls M.o.at5.len);rfl;rfl;exact zrts;rfl;refine zCT ?_;skip)|((with_reducible apply AaC M.o.at6.cls M.o.at6.len);rfl;rfl;exact zrts;rfl;rfl;skip)|((with_reducible apply AaA M.o.at6.cls);rfl;rfl;exact zots;rfl;rfl;skip)|((with_reducible apply AaB M.o.at6.cls M.o.at6.len);rfl;rfl;exact zrts;rfl;refine zCT ?_;skip)|((with_reducible apply AaC M.o.at7.cls M.o.at7.len);rfl;rfl;exact zrts;rfl;rfl;skip)|((with_reducible apply AaA M.o.at7.cls);rfl;rfl;exact zots;rfl;rfl;skip)|((with_reducible apply AaB M.o.at7.cls M.o.at7.len);rfl;rfl;exact zrts;rfl;refine zCT ?_;skip)|((with_reducible apply AaC M.o.at8.cls M.o.at8.len);rfl;rfl;exact zrts;rfl;rfl;skip)|((with_reducible apply AaA M.o.at8.cls);rfl;rfl;exact zots;rfl;rfl;skip)|((with_reducible apply AaB M.o.at8.cls M.o.at8.len);rfl;rfl;exact zrts;rfl;refine zCT ?_;skip)|((with_reducible apply AaC M.o.at9.cls M.o.at9.len);rfl;rfl;exact zrts;rfl;rfl;skip)|((with_reducible apply AaA M.o.at9.cls);rfl;rfl;exact zots;rfl;rfl;skip)|((with_reducible apply AaB M.o.at9.cls M.o.at9.len);rfl;rfl;exact zrts;rfl;refine zCT ?_;skip)|((with_reducible apply AaC M.o.at10.cls M.o.at10.len);rfl;rfl;exact zrts;rfl;rfl;skip)|((with_reducible apply AaA M.o.at10.cls);rfl;rfl;exact zots;rfl;rfl;skip)|((with_reducible apply AaB M.o.at10.cls M.o.at10.len);rfl;rfl;exact zrts;rfl;refine zCT ?_;skip)|((with_reducible apply AaC M.o.at11.cls M.o.at11.len);rfl;rfl;exact zrts;rfl;rfl;skip)|((with_reducible apply AaA M.o.at11.cls);rfl;rfl;exact zots;rfl;rfl;skip)|((with_reducible apply AaB M.o.at11.cls M.o.at11.len);rfl;rfl;exact zrts;rfl;refine zCT ?_;skip)|((with_reducible apply AaC M.o.at12.cls M.o.at12.len);rfl;rfl;exact zrts;rfl;rfl;skip)|((with_reducible apply AaA M.o.at12.cls);rfl;rfl;exact zots;rfl;rfl;skip)|((with_reducible apply AaB M.o.at12.cls M.o.at12.len);rfl;rfl;exact zrts;rfl;refine zCT ?_;skip)));exact hh')):A:=hs h
theorem zQHo{A B X:Prop}(x:X)(h:B)(hs:X->B->A:=by(intro HX hh';(((with_reducible refine Acn ?_);first|((with_reducible apply AaT M.o.at0.cls HX.o);rfl;rfl;exact zots;rfl;rfl;skip)|((with_reducible apply AaT M.o.at1.cls HX.o);rfl;rfl;exact zots;rfl;rfl;skip)|((with_reducible apply AaT M.o.at2.cls HX.o);rfl;rfl;exact zots;rfl;rfl;skip)|((with_reducible apply AaT M.o.at3.cls HX.o);rfl;rfl;exact zots;rfl;rfl;skip)|((with_reducible apply AaT M.o.at4.cls HX.o);rfl;rfl;exact zots;rfl;rfl;skip)|((with_reducible apply AaT M.o.at5.cls HX.o);rfl;rfl;exact zots;rfl;rfl;skip)|((with_reducible apply AaT M.o.at6.cls HX.o);rfl;rfl;exact zots;rfl;rfl;skip)|((with_reducible apply AaT M.o.at7.cls HX.o);rfl;rfl;exact zots;rfl;rfl;skip)|((with_reducible apply AaT M.o.at8.cls HX.o);rfl;rfl;exact zots;rfl;rfl;skip)|((with_reducible apply AaT M.o.at9.cls HX.o);rfl;rfl;exact zots;rfl;rfl;skip)|((with_reducible apply AaT M.o.at10.cls HX.o);rfl;rfl;exact zots;rfl;rfl;skip)|((with_reducible apply AaT M.o.at11.cls HX.o);rfl;rfl;exact zots;rfl;rfl;skip)|((with_reducible apply AaT M.o.at12.cls HX.o);rfl;rfl;exact zots;rfl;rfl;skip)));exact hh')):A:=hs x h
theorem zQFo{A B X:Prop}(x:X)(h:B)(hs:X->B->A:=by(intro HX hh';(((with_reducible refine Acn ?_);first|((with_reducible apply AfG (HX.o.cls M.ok) HX.o.len);rfl;rfl;exact zrts;rfl;rfl;skip)|((with_reducible apply AfH (HX.o.cls M.ok));rfl;rfl;exact zots;rfl;rfl;skip)|((with_reducible apply quiet_rds (HX.o.cls M.ok) HX.o.len);rfl;rfl;exact zrts;rfl;refine zCT ?_;skip)|((with_reducible apply AeR (HX.o.cls M.ok) HX.o.len);rfl;rfl;exact zrts;rfl;rfl;skip)|((with_reducible apply AeS (HX.o.cls M.ok));rfl;rfl;exact zots;rfl;rfl;skip)|((with_reducible apply AeQ (HX.o.cls M.ok) HX.o.len);rfl;rfl;exact zrts;rfl;refine zCT ?_;skip)));exact hh')):A:=hs x h
theorem zQAd{A B:Prop}(h:B)(hs:B->A:=by(intro hh';(((with_reducible refine Acn ?_);((with_reducible apply Aci);rfl;rfl);(first|(first|((with_reducible apply LdAt.c1 M.o.at0.all);exact zots;rfl;rfl)|((with_reducible apply LdAt.p1 M.o.at0.all);exact zrts;rfl;rfl)|((with_reducible apply LdAt.ps M.o.at0.all);exact zrts;rfl;refine zCT ?_))|(first|((with_reducible apply LdAt.c1 M.o.at1.all);exact zots;rfl;rfl)|((with_reducible apply LdAt.p1 M.o.at1.all);exact zrts;rfl;rfl)|((with_reducible apply LdAt.ps M.o.at1.all);exact zrts;rfl;refine zCT ?_))|(first|((with_reducible apply LdAt.c1 M.o.at2.all);exact zots;rfl;rfl)|((with_reducible apply LdAt.p1 M.o.at2.all);exact zrts;rfl;rfl)|((with_reducible apply LdAt.ps M.o.at2.all);exact zrts;rfl;refine zCT ?_))|(first|((with_reducible apply LdAt.c1 M.o.at3.all);exact zots;rfl;rfl)|((with_reducible apply LdAt.p1 M.o.at3.all);exact zrts;rfl;rfl)|((with_reducible apply LdAt.ps M.o.at3.all);exact zrts;rfl;refine zCT ?_))|(first|((with_reducible apply LdAt.c1 M.o.at4.all);exact zots;rfl;rfl)|((with_reducible apply LdAt.p1 M.o.at4.all);exact zrts;rfl;rfl)|((with_reducible apply LdAt.ps M.o.at4.all);exact zrts;rfl;refine zCT ?_))|(first|((with_reducible apply LdAt.c1 M.o.at5.all);exact zots;rfl;rfl)|((with_reducible apply LdAt.p1 M.o.at5.all);exact zrts;rfl;rfl)|((with_reducible apply LdAt.ps M.o.at5.all);exact zrts;rfl;refine zCT ?_))|(first|((with_reducible apply LdAt.c1 M.o.at6.all);exact zots;rfl;rfl)|((with_reducible apply LdAt.p1 M.o.at6.all);exact zrts;rfl;rfl)|((with_reducible apply LdAt.ps M.o.at6.all);exact zrts;rfl;refine zCT ?_))|(first|((with_reducible apply LdAt.c1 M.o.at7.all);exact zots;rfl;rfl)|((with_reducible apply LdAt.p1 M.o.at7.all);exact zrts;rfl;rfl)|((with_reducible apply LdAt.ps M.o.at7.all);exact zrts;rfl;refine zCT ?_))|(first|((with_reducible apply LdAt.c1 M.o.at8.all);exact zots;rfl;rfl)|((with_reducible apply LdAt.p1 M.o.at8.all);exact zrts;rfl;rfl)|((with_reducible apply LdAt.ps M.o.at8.all);exact zrts;rfl;refine zCT ?_))|(first|((with_reducible apply LdAt.c1 M.o.at9.all);exact zots;rfl;rfl)|((with_reducible apply LdAt.p1 M.o.at9.all);exact zrts;rfl;rfl)|((with_reducible apply LdAt.ps M.o.at9.all);exact zrts;rfl;refine zCT ?_))|(first|((with_reducible apply LdAt.c1 M.o.at10.all);exact zots;rfl;rfl)|((with_reducible apply LdAt.p1 M.o.at10.all);exact zrts;rfl;rfl)|((with_reducible apply LdAt.ps M.o.at10.all);exact zrts;rfl;refine zCT ?_)));skip));exact hh')):A:=hs h
theorem zQHd{A B X:Prop}(x:X)(h:B)(hs:X->B->A:=by(intro HX hh';(((with_reducible refine Acn ?_);((with_reducible apply Aci);rfl;rfl);(first|((with_reducible apply LdAt.c1e M.o.at0.all HX.o);exact zots;rfl;rfl)|((with_reducible apply LdAt.c1e M.o.at1.all HX.o);exact zots;rfl;rfl)|((with_reducible apply LdAt.c1e M.o.at2.all HX.o);exact zots;rfl;rfl)|((with_reducible apply LdAt.c1e M.o.at3.all HX.o);exact zots;rfl;rfl)|((with_reducible apply LdAt.c1e M.o.at4.all HX.o);exact zots;rfl;rfl)|((with_reducible apply LdAt.c1e M.o.at5.all HX.o);exact zots;rfl;rfl)|((with_reducible apply LdAt.c1e M.o.at6.all HX.o);exact zots;rfl;rfl));skip));exact hh')):A:=hs x h
theorem zQFd{A B X:Prop}(x:X)(h:B)(hs:X->B->A:=by(intro HX hh';(((with_reducible refine Acn ?_);((with_reducible apply Aci);rfl;rfl);(first|((with_reducible apply LdAt.rc1 (HX.o.all M.ok));exact zots;rfl;rfl)|((with_reducible apply LdAt.rp1 (HX.o.all M.ok));exact zrts;rfl;rfl)|((with_reducible apply LdAt.rps (HX.o.all M.ok));exact zrts;rfl;refine zCT ?_)|((with_reducible apply LdAt.rc0 (HX.o.all M.ok));exact zots;rfl;rfl)|((with_reducible apply LdAt.rp0 (HX.o.all M.ok));exact zrts;rfl;rfl)|((with_reducible apply LdAt.rs0 (HX.o.all M.ok));exact zrts;rfl;refine zCT ?_));skip));exact hh')):A:=hs x h
def cellR:ResultVar->Bool
 |.cell _ _=>true
 |_=>false
structure Stop(p:Prop)(x:PLift p->Unit):Prop where
 out:p
theorem zsm{p:Prop}{x:PLift p->Unit}(h:p):Stop p x:=⟨h⟩
theorem AjX{P:Program}{fn:Func}{R:Ending->World->Prop}{a:Act}{w:World}(h:Stop (bodyPost P fn R .ret a w) (fun _=>()))(hc:fn.results.toList.any cellR=true:=by rfl):bodyPost P fn R .ret a w:=h.out
theorem zNM{A B:Prop}(h:B)(hs:B->A:=by(intro hh';(simp only[Act.put,List.setIfInBounds_toArray,List.set_cons_succ,List.set_cons_zero]);exact hh')):A:=hs h
theorem zLAo{A B:Prop}(h:B)(hs:B->A:=by(intro hh';(first|(((with_reducible refine Afd ?_);first|((with_reducible apply AaS M.o.at0);rfl;rfl;rfl;exact zrts;rfl;rfl)|((with_reducible apply AaP M.o.at0);rfl;rfl;rfl;exact zots;rfl;rfl)|((with_reducible apply AaR M.o.at0);rfl;rfl;rfl;exact zrts;rfl;refine zCT ?_)|((with_reducible apply AaS M.o.at1);rfl;rfl;rfl;exact zrts;rfl;rfl)|((with_reducible apply AaP M.o.at1);rfl;rfl;rfl;exact zots;rfl;rfl)|((with_reducible apply AaR M.o.at1);rfl;rfl;rfl;exact zrts;rfl;refine zCT ?_)|((with_reducible apply AaS M.o.at2);rfl;rfl;rfl;exact zrts;rfl;rfl)|((with_reducible apply AaP M.o.at2);rfl;rfl;rfl;exact zots;rfl;rfl)|((with_reducible apply AaR M.o.at2);rfl;rfl;rfl;exact zrts;rfl;refine zCT ?_)|((with_reducible apply AaS M.o.at3);rfl;rfl;rfl;exact zrts;rfl;rfl)|((with_reducible apply AaP M.o.at3);rfl;rfl;rfl;exact zots;rfl;rfl)|((with_reducible apply AaR M.o.at3);rfl;rfl;rfl;exact zrts;rfl;refine zCT ?_)|((with_reducible apply AaS M.o.at4);rfl;rfl;rfl;exact zrts;rfl;rfl)|((with_reducible apply AaP M.o.at4);rfl;rfl;rfl;exact zots;rfl;rfl)|((with_reducible apply AaR M.o.at4);rfl;rfl;rfl;exact zrts;rfl;refine zCT ?_)|((with_reducible apply AaS M.o.at5);rfl;rfl;rfl;exact zrts;rfl;rfl)|((with_reducible apply AaP M.o.at5);rfl;rfl;rfl;exact zots;rfl;rfl)|((with_reducible apply AaR M.o.at5);rfl;rfl;rfl;exact zrts;rfl;refine zCT ?_)|((with_reducible apply AaS M.o.at6);rfl;rfl;rfl;exact zrts;rfl;rfl)|((with_reducible apply AaP M.o.at6);rfl;rfl;rfl;exact zots;rfl;rfl)|((with_reducible apply AaR M.o.at6);rfl;rfl;rfl;exact zrts;rfl;refine zCT ?_)|((with_reducible apply AaS M.o.at7);rfl;rfl;rfl;exact zrts;rfl;rfl)|((with_reducible apply AaP M.o.at7);rfl;rfl;rfl;exact zots;rfl;rfl)|((with_reducible apply AaR M.o.at7);rfl;rfl;rfl;exact zrts;rfl;refine zCT ?_)|((with_reducible apply AaS M.o.at8);rfl;rfl;rfl;exact zrts;rfl;rfl)|((with_reducible apply AaP M.o.at8);rfl;rfl;rfl;exact zots;rfl;rfl)|((with_reducible apply AaR M.o.at8);rfl;rfl;rfl;exact zrts;rfl;refine zCT ?_)|((with_reducible apply AaS M.o.at9);rfl;rfl;rfl;exact zrts;rfl;rfl)|((with_reducible apply AaP M.o.at9);rfl;rfl;rfl;exact zots;rfl;rfl)|((with_reducible apply AaR M.o.at9);rfl;rfl;rfl;exact zrts;rfl;refine zCT ?_)|((with_reducible apply AaS M.o.at10);rfl;rfl;rfl;exact zrts;rfl;rfl)|((with_reducible apply AaP M.o.at10);rfl;rfl;rfl;exact zots;rfl;rfl)|((with_reducible apply AaR M.o.at10);rfl;rfl;rfl;exact zrts;rfl;refine zCT ?_)|((with_reducible apply AaS M.o.at11);rfl;rfl;rfl;exact zrts;rfl;rfl)|((with_reducible apply AaP M.o.at11);rfl;rfl;rfl;exact zots;rfl;rfl)|((with_reducible apply AaR M.o.at11);rfl;rfl;rfl;exact zrts;rfl;refine zCT ?_)|((with_reducible apply AaS M.o.at12);rfl;rfl;rfl;exact zrts;rfl;rfl)|((with_reducible apply AaP M.o.at12);rfl;rfl;rfl;exact zots;rfl;rfl)|((with_reducible apply AaR M.o.at12);rfl;rfl;rfl;exact zrts;rfl;refine zCT ?_)))|(refine AjX ?_));exact hh')):A:=hs h
theorem zRD{w:World}{g b:Nat}{P:List (List Value)}{ls:List Nat}(H:CL w g b P ls){A B:Prop}(h:B)(hs:CL w g b P ls->B->A:=by(intro HX hh';(first|((with_reducible apply AeE HX);rfl;rfl;rfl;exact zrts;rfl;rfl)|((with_reducible apply AeF HX);rfl;rfl;rfl;exact zots;rfl;rfl)|((with_reducible apply wpList_rds HX);rfl;rfl;rfl;exact zrts;rfl;refine zCT ?_)|((with_reducible apply wpList_rdp0 HX);rfl;rfl;rfl;exact zrts;rfl;rfl)|((with_reducible apply AdV HX);rfl;rfl;rfl;exact zots;rfl;rfl)|((with_reducible apply AdU HX);rfl;rfl;rfl;exact zrts;rfl;refine zCT ?_));exact hh')):A:=hs H h
theorem zLE{w:World}{g:Nat}{P:List (List Value)}{ls:List Nat}(H:HL w g P ls){v v':Value}(e:v=v'){A B:Prop}(h:B)(hs:HL w g P ls->v=v'->B->A:=by(intro HX HY hh';(((with_reducible apply AaM HX HY);rfl;rfl;rfl;exact zots;rfl;rfl));exact hh')):A:=hs H e h
theorem zLHo{A B X:Prop}(x:X)(h:B)(hs:X->B->A:=by(intro HX hh';(((with_reducible refine Afd ?_);first|((with_reducible apply AaM M.o.at0 HX.o);rfl;rfl;rfl;exact zots;rfl;rfl)|((with_reducible apply AaM M.o.at1 HX.o);rfl;rfl;rfl;exact zots;rfl;rfl)|((with_reducible apply AaM M.o.at2 HX.o);rfl;rfl;rfl;exact zots;rfl;rfl)|((with_reducible apply AaM M.o.at3 HX.o);rfl;rfl;rfl;exact zots;rfl;rfl)|((with_reducible apply AaM M.o.at4 HX.o);rfl;rfl;rfl;exact zots;rfl;rfl)|((with_reducible apply AaM M.o.at5 HX.o);rfl;rfl;rfl;exact zots;rfl;rfl)|((with_reducible apply AaM M.o.at6 HX.o);rfl;rfl;rfl;exact zots;rfl;rfl)|((with_reducible apply AaM M.o.at7 HX.o);rfl;rfl;rfl;exact zots;rfl;rfl)|((with_reducible apply AaM M.o.at8 HX.o);rfl;rfl;rfl;exact zots;rfl;rfl)|((with_reducible apply AaM M.o.at9 HX.o);rfl;rfl;rfl;exact zots;rfl;rfl)|((with_reducible apply AaM M.o.at10 HX.o);rfl;rfl;rfl;exact zots;rfl;rfl)|((with_reducible apply AaM M.o.at11 HX.o);rfl;rfl;rfl;exact zots;rfl;rfl)|((with_reducible apply AaM M.o.at12 HX.o);rfl;rfl;rfl;exact zots;rfl;rfl)));exact hh')):A:=hs x h
theorem zRFo{A B X:Prop}(x:X)(h:B)(hs:X->B->A:=by(intro HX hh';(((with_reducible refine Afd ?_);first|((with_reducible apply AeE (HX.o.cl M.ok));rfl;rfl;rfl;exact zrts;rfl;rfl)|((with_reducible apply AeF (HX.o.cl M.ok));rfl;rfl;rfl;exact zots;rfl;rfl)|((with_reducible apply wpList_rds (HX.o.cl M.ok));rfl;rfl;rfl;exact zrts;rfl;refine zCT ?_)|((with_reducible apply wpList_rdp0 (HX.o.cl M.ok));rfl;rfl;rfl;exact zrts;rfl;rfl)|((with_reducible apply AdV (HX.o.cl M.ok));rfl;rfl;rfl;exact zots;rfl;rfl)|((with_reducible apply AdU (HX.o.cl M.ok));rfl;rfl;rfl;exact zrts;rfl;refine zCT ?_)));exact hh')):A:=hs x h
theorem zLDo{A B X:Prop}(x:X)(h:B)(hs:X->B->A:=by(intro HX hh';((first|((with_reducible apply AaS HX);rfl;rfl;rfl;exact zrts;rfl;rfl)|((with_reducible apply AaP HX);rfl;rfl;rfl;exact zots;rfl;rfl)|((with_reducible apply AaR HX);rfl;rfl;rfl;exact zrts;rfl;refine zCT ?_)));exact hh')):A:=hs x h
theorem zM0{A B:Prop}(h:B)(hs:B->A:=by(intro hh';(first|(with_reducible refine wpQuiet_nil ?_)|go_big_quiet_skip);exact hh')):A:=hs h
theorem zMRo{A B:Prop}(h:B)(hs:B->A:=by(intro hh';((repeat(first|(with_reducible refine wpQuiet_nil ?_)|(first|go_big_quiet_skip|(go_big_quiet_want;first|(first|fail|((with_reducible refine Acn ?_);first|((with_reducible apply AaC M.o.at0.cls M.o.at0.len);rfl;rfl;exact zrts;rfl;rfl;go_big_quiet_on;(simp only[Act.put,List.setIfInBounds_toArray,List.set_cons_succ,List.set_cons_zero]))|((with_reducible apply AaA M.o.at0.cls);rfl;rfl;exact zots;rfl;rfl;go_big_quiet_on;(simp only[Act.put,List.setIfInBounds_toArray,List.set_cons_succ,List.set_cons_zero]))|((with_reducible apply AaB M.o.at0.cls M.o.at0.len);rfl;rfl;exact zrts;rfl;refine zCT ?_;go_big_quiet_on;(simp only[Act.put,List.setIfInBounds_toArray,List.set_cons_succ,List.set_cons_zero]))|((with_reducible apply AaC M.o.at1.cls M.o.at1.len);rfl;rfl;exact zrts;rfl;rfl;go_big_quiet_on;(simp only[Act.put,List.setIfInBounds_toArray,List.set_cons_succ,List.set_cons_zero]))|((with_reducible apply AaA M.o.at1.cls);rfl;rfl;exact zots;rfl;rfl;go_big_quiet_on;(simp only[Act.put,List.setIfInBounds_toArray,List.set_cons_succ,List.set_cons_zero]))|((with_reducible apply AaB M.o.at1.cls M.o.at1.len);rfl;rfl;exact zrts;rfl;refine zCT ?_;go_big_quiet_on;(simp only[Act.put,List.setIfInBounds_toArray,List.set_cons_succ,List.set_cons_zero]))|((with_reducible apply AaC M.o.at2.cls M.o.at2.len);rfl;rfl;exact zrts;rfl;rfl;go_big_quiet_on;(simp only[Act.put,List.setIfInBounds_toArray,List.set_cons_succ,List.set_cons_zero]))|((with_reducible apply AaA M.o.at2.cls);rfl;rfl;exact zots;rfl;rfl;go_big_quiet_on;(simp only[Act.put,List.setIfInBounds_toArray,List.set_cons_succ,List.set_cons_zero]))|((with_reducible apply AaB M.o.at2.cls M.o.at2.len);rfl;rfl;exact zrts;rfl;refine zCT ?_;go_big_quiet_on;(simp only[Act.put,List.setIfInBounds_toArray,List.set_cons_succ,List.set_cons_zero]))|((with_reducible apply AaC M.o.at3.cls M.o.at3.len);rfl;rfl;exact zrts;rfl;rfl;go_big_quiet_on;(simp only[Act.put,List.setIfInBounds_toArray,List.set_cons_succ,List.set_cons_zero]))|((with_reducible apply AaA M.o.at3.cls);rfl;rfl;exact zots;rfl;rfl;go_big_quiet_on;(simp only[Act.put,List.setIfInBounds_toArray,List.set_cons_succ,List.set_cons_zero]))|((with_reducible apply AaB M.o.at3.cls M.o.at3.len);rfl;rfl;exact zrts;rfl;refine zCT ?_;go_big_quiet_on;(simp only[Act.put,List.setIfInBounds_toArray,List.set_cons_succ,List.set_cons_zero]))|((with_reducible apply AaC M.o.at4.cls M.o.at4.len);rfl;rfl;exact zrts;rfl;rfl;go_big_quiet_on;(simp only[Act.put,List.setIfInBounds_toArray,List.set_cons_succ,List.set_cons_zero]))|((with_reducible apply AaA M.o.at4.cls);rfl;rfl;exact zots;rfl;rfl;go_big_quiet_on;(simp only[Act.put,List.setIfInBounds_toArray,List.set_cons_succ,List.set_cons_zero]))|((with_reducible apply AaB M.o.at4.cls M.o.at4.len);rfl;rfl;exact zrts;rfl;refine zCT ?_;go_big_quiet_on;(simp only[Act.put,List.setIfInBounds_toArray,List.set_cons_succ,List.set_cons_zero]))|((with_reducible apply AaC M.o.at5.cls M.o.at5.len);rfl;rfl;exact zrts;rfl;rfl;go_big_quiet_on;(simp only[Act.put,List.setIfInBounds_toArray,List.set_cons_succ,List.set_cons_zero]))|((with_reducible apply AaA M.o.at5.cls);rfl;rfl;exact zots;rfl;rfl;go_big_quiet_on;(simp only[Act.put,List.setIfInBounds_toArray,List.set_cons_succ,List.set_cons_zero]))|((with_reducible apply AaB M.o.at5.cls M.o.at5.len);rfl;rfl;exact zrts;rfl;refine zCT ?_;go_big_quiet_on;(simp only[Act.put,List.setIfInBounds_toArray,List.set_cons_succ,List.set_cons_zero]))|((with_reducible apply AaC M.o.at6.cls M.o.at6.len);rfl;rfl;exact zrts;rfl;rfl;go_big_quiet_on;(simp only[Act.put,List.setIfInBounds_toArray,List.set_cons_succ,List.set_cons_zero]))|((with_reducible apply AaA M.o.at6.cls);rfl;rfl;exact zots;rfl;rfl;go_big_quiet_on;(simp only[Act.put,List.setIfInBounds_toArray,List.set_cons_succ,List.set_cons_zero]))|((with_reducible apply AaB M.o.at6.cls M.o.at6.len);rfl;rfl;exact zrts;rfl;refine zCT ?_;go_big_quiet_on;(simp only[Act.put,List.setIfInBounds_toArray,List.set_cons_succ,List.set_cons_zero]))|((with_reducible apply AaC M.o.at7.cls M.o.at7.len);rfl;rfl;exact zrts;rfl;rfl;go_big_quiet_on;(simp only[Act.put,List.setIfInBounds_toArray,List.set_cons_succ,List.set_cons_zero]))|((with_reducible apply AaA M.o.at7.cls);rfl;rfl;exact zots;rfl;rfl;go_big_quiet_on;(simp only[Act.put,List.setIfInBounds_toArray,List.set_cons_succ,List.set_cons_zero]))|((with_reducible apply AaB M.o.at7.cls M.o.at7.len);rfl;rfl;exact zrts;rfl;refine zCT ?_;go_big_quiet_on;(simp only[Act.put,List.setIfInBounds_toArray,List.set_cons_succ,List.set_cons_zero]))|((with_reducible apply AaC M.o.at8.cls M.o.at8.len);rfl;rfl;exact zrts;rfl;rfl;go_big_quiet_on;(simp only[Act.put,List.setIfInBounds_toArray,List.set_cons_succ,List.set_cons_zero]))|((with_reducible apply AaA M.o.at8.cls);rfl;rfl;exact zots;rfl;rfl;go_big_quiet_on;(simp only[Act.put,List.setIfInBounds_toArray,List.set_cons_succ,List.set_cons_zero]))|((with_reducible apply AaB M.o.at8.cls M.o.at8.len);rfl;rfl;exact zrts;rfl;refine zCT ?_;go_big_quiet_on;(simp only[Act.put,List.setIfInBounds_toArray,List.set_cons_succ,List.set_cons_zero]))|((with_reducible apply AaC M.o.at9.cls M.o.at9.len);rfl;rfl;exact zrts;rfl;rfl;go_big_quiet_on;(simp only[Act.put,List.setIfInBounds_toArray,List.set_cons_succ,List.set_cons_zero]))|((with_reducible apply AaA M.o.at9.cls);rfl;rfl;exact zots;rfl;rfl;go_big_quiet_on;(simp only[Act.put,List.setIfInBounds_toArray,List.set_cons_succ,List.set_cons_zero]))|((with_reducible apply AaB M.o.at9.cls M.o.at9.len);rfl;rfl;exact zrts;rfl;refine zCT ?_;go_big_quiet_on;(simp only[Act.put,List.setIfInBounds_toArray,List.set_cons_succ,List.set_cons_zero]))|((with_reducible apply AaC M.o.at10.cls M.o.at10.len);rfl;rfl;exact zrts;rfl;rfl;go_big_quiet_on;(simp only[Act.put,List.setIfInBounds_toArray,List.set_cons_succ,List.set_cons_zero]))|((with_reducible apply AaA M.o.at10.cls);rfl;rfl;exact zots;rfl;rfl;go_big_quiet_on;(simp only[Act.put,List.setIfInBounds_toArray,List.set_cons_succ,List.set_cons_zero]))|((with_reducible apply AaB M.o.at10.cls M.o.at10.len);rfl;rfl;exact zrts;rfl;refine zCT ?_;go_big_quiet_on;(simp only[Act.put,List.setIfInBounds_toArray,List.set_cons_succ,List.set_cons_zero]))|((with_reducible apply AaC M.o.at11.cls M.o.at11.len);rfl;rfl;exact zrts;rfl;rfl;go_big_quiet_on;(simp only[Act.put,List.setIfInBounds_toArray,List.set_cons_succ,List.set_cons_zero]))|((with_reducible apply AaA M.o.at11.cls);rfl;rfl;exact zots;rfl;rfl;go_big_quiet_on;(simp only[Act.put,List.setIfInBounds_toArray,List.set_cons_succ,List.set_cons_zero]))|((with_reducible apply AaB M.o.at11.cls M.o.at11.len);rfl;rfl;exact zrts;rfl;refine zCT ?_;go_big_quiet_on;(simp only[Act.put,List.setIfInBounds_toArray,List.set_cons_succ,List.set_cons_zero]))|((with_reducible apply AaC M.o.at12.cls M.o.at12.len);rfl;rfl;exact zrts;rfl;rfl;go_big_quiet_on;(simp only[Act.put,List.setIfInBounds_toArray,List.set_cons_succ,List.set_cons_zero]))|((with_reducible apply AaA M.o.at12.cls);rfl;rfl;exact zots;rfl;rfl;go_big_quiet_on;(simp only[Act.put,List.setIfInBounds_toArray,List.set_cons_succ,List.set_cons_zero]))|((with_reducible apply AaB M.o.at12.cls M.o.at12.len);rfl;rfl;exact zrts;rfl;refine zCT ?_;go_big_quiet_on;(simp only[Act.put,List.setIfInBounds_toArray,List.set_cons_succ,List.set_cons_zero]))))|(go_big_quiet_op;first|go_big_quiet_on|((with_reducible refine⟨_,fun _ _=>rfl,?_⟩);go_big_quiet_on)))))));exact hh')):A:=hs h
theorem zMR7{A B:Prop}(h:B)(hs:B->A:=by(intro hh';((repeat(first|(with_reducible refine wpQuiet_nil ?_)|(first|go_big_quiet_skip|(go_big_quiet_want;first|(first|fail)|(go_big_quiet_op;first|go_big_quiet_on|((with_reducible refine⟨_,fun _ _=>rfl,?_⟩);go_big_quiet_on)))))));exact hh')):A:=hs h
theorem zRG{A B:Prop}(h:B)(hs:B->A:=by(intro hh';(refine AdZ M.o (by kernel_rfl) (by kernel_rfl) ?_;try simp only[Act.put,List.setIfInBounds_toArray,List.set_cons_succ,List.set_cons_zero]);exact hh')):A:=hs h
theorem zBXo{A:Prop}{T B:World->Nat->Prop}(h:∀w g,T w g->B w g)(hs:(∀w g,T w g->B w g)->A:=by(intro hh';(((with_reducible refine Alg ?_);first|((with_reducible apply AbW M.o);rfl;rfl;rfl;exact Ak2;intro w' g M' hb';(have M:=bx M';clear M');clear hb')|((with_reducible apply wpList_box1 M.o);rfl;rfl;rfl;rfl;intro w' g M' hb';(have M:=bx M';clear M');clear hb')));exact hh' w' g M)):A:=hs h
theorem zBYo{A X:Prop}{T B:World->Nat->Prop}(x:X)(h:∀w g,T w g->B w g)(hs:X->(∀w g,T w g->B w g)->A:=by(intro HX hh';(((with_reducible apply AbW M.o);rfl;rfl;rfl;exact HX;intro w' g M' hb';(have M:=bx M';clear M');clear hb'));exact hh' w' g M)):A:=hs x h
theorem zALo{A X:Prop}{T B:World->Nat->Prop}(x:X)(h:∀w g,T w g->B w g)(hs:X->(∀w g,T w g->B w g)->A:=by(intro HX hh';(((with_reducible apply AeG M.o);rfl;rfl;exact HX;intro w' g M' hb';(have M:=bx M';clear M');clear hb'));exact hh' w' g M)):A:=hs x h
theorem zQN{A:Prop}{T B:World->Prop}(h:∀w,T w->B w)(hs:(∀w,T w->B w)->A:=by(intro hh';(refine wpQuiet_nil ?_;intro w4 hw4;have M':=M.o.below hw4.o;(have M:=bx M';clear M');clear hw4);exact hh' w4 M)):A:=hs h
theorem zQXo{A:Prop}{T B:World->Prop}(h:∀w,T w->B w)(hs:(∀w,T w->B w)->A:=by(intro hh';((refine AdZ M.o (by kernel_rfl) (by kernel_rfl) ?_;try simp only[Act.put,List.setIfInBounds_toArray,List.set_cons_succ,List.set_cons_zero]);(repeat(first|go_big_quiet_skip|(go_big_quiet_want;first|(first|fail|((with_reducible refine Acn ?_);first|((with_reducible apply AaC M.o.at0.cls M.o.at0.len);rfl;rfl;exact zrts;rfl;rfl;go_big_quiet_on;(simp only[Act.put,List.setIfInBounds_toArray,List.set_cons_succ,List.set_cons_zero]))|((with_reducible apply AaA M.o.at0.cls);rfl;rfl;exact zots;rfl;rfl;go_big_quiet_on;(simp only[Act.put,List.setIfInBounds_toArray,List.set_cons_succ,List.set_cons_zero]))|((with_reducible apply AaB M.o.at0.cls M.o.at0.len);rfl;rfl;exact zrts;rfl;refine zCT ?_;go_big_quiet_on;(simp only[Act.put,List.setIfInBounds_toArray,List.set_cons_succ,List.set_cons_zero]))|((with_reducible apply AaC M.o.at1.cls M.o.at1.len);rfl;rfl;exact zrts;rfl;rfl;go_big_quiet_on;(simp only[Act.put,List.setIfInBounds_toArray,List.set_cons_succ,List.set_cons_zero]))|((with_reducible apply AaA M.o.at1.cls);rfl;rfl;exact zots;rfl;rfl;go_big_quiet_on;(simp only[Act.put,List.setIfInBounds_toArray,List.set_cons_succ,List.set_cons_zero]))|((with_reducible apply AaB M.o.at1.cls M.o.at1.len);rfl;rfl;exact zrts;rfl;refine zCT ?_;go_big_quiet_on;(simp only[Act.put,List.setIfInBounds_toArray,List.set_cons_succ,List.set_cons_zero]))|((with_reducible apply AaC M.o.at2.cls M.o.at2.len);rfl;rfl;exact zrts;rfl;rfl;go_big_quiet_on;(simp only[Act.put,List.setIfInBounds_toArray,List.set_cons_succ,List.set_cons_zero]))|((with_reducible apply AaA M.o.at2.cls);rfl;rfl;exact zots;rfl;rfl;go_big_quiet_on;(simp only[Act.put,List.setIfInBounds_toArray,List.set_cons_succ,List.set_cons_zero]))|((with_reducible apply AaB M.o.at2.cls M.o.at2.len);rfl;rfl;exact zrts;rfl;refine zCT ?_;go_big_quiet_on;(simp only[Act.put,List.setIfInBounds_toArray,List.set_cons_succ,List.set_cons_zero]))|((with_reducible apply AaC M.o.at3.cls M.o.at3.len);rfl;rfl;exact zrts;rfl;rfl;go_big_quiet_on;(simp only[Act.put,List.setIfInBounds_toArray,List.set_cons_succ,List.set_cons_zero]))|((with_reducible apply AaA M.o.at3.cls);rfl;rfl;exact zots;rfl;rfl;go_big_quiet_on;(simp only[Act.put,List.setIfInBounds_toArray,List.set_cons_succ,List.set_cons_zero]))|((with_reducible apply AaB M.o.at3.cls M.o.at3.len);rfl;rfl;exact zrts;rfl;refine zCT ?_;go_big_quiet_on;(simp only[Act.put,List.setIfInBounds_toArray,List.set_cons_succ,List.set_cons_zero]))|((with_reducible apply AaC M.o.at4.cls M.o.at4.len);rfl;rfl;exact zrts;rfl;rfl;go_big_quiet_on;(simp only[Act.put,List.setIfInBounds_toArray,List.set_cons_succ,List.set_cons_zero]))|((with_reducible apply AaA M.o.at4.cls);rfl;rfl;exact zots;rfl;rfl;go_big_quiet_on;(simp only[Act.put,List.setIfInBounds_toArray,List.set_cons_succ,List.set_cons_zero]))|((with_reducible apply AaB M.o.at4.cls M.o.at4.len);rfl;rfl;exact zrts;rfl;refine zCT ?_;go_big_quiet_on;(simp only[Act.put,List.setIfInBounds_toArray,List.set_cons_succ,List.set_cons_zero]))|((with_reducible apply AaC M.o.at5.cls M.o.at5.len);rfl;rfl;exact zrts;rfl;rfl;go_big_quiet_on;(simp only[Act.put,List.setIfInBounds_toArray,List.set_cons_succ,List.set_cons_zero]))|((with_reducible apply AaA M.o.at5.cls);rfl;rfl;exact zots;rfl;rfl;go_big_quiet_on;(simp only[Act.put,List.setIfInBounds_toArray,List.set_cons_succ,List.set_cons_zero]))|((with_reducible apply AaB M.o.at5.cls M.o.at5.len);rfl;rfl;exact zrts;rfl;refine zCT ?_;go_big_quiet_on;(simp only[Act.put,List.setIfInBounds_toArray,List.set_cons_succ,List.set_cons_zero]))|((with_reducible apply AaC M.o.at6.cls M.o.at6.len);rfl;rfl;exact zrts;rfl;rfl;go_big_quiet_on;(simp only[Act.put,List.setIfInBounds_toArray,List.set_cons_succ,List.set_cons_zero]))|((with_reducible apply AaA M.o.at6.cls);rfl;rfl;exact zots;rfl;rfl;go_big_quiet_on;(simp only[Act.put,List.setIfInBounds_toArray,List.set_cons_succ,List.set_cons_zero]))|((with_reducible apply AaB M.o.at6.cls M.o.at6.len);rfl;rfl;exact zrts;rfl;refine zCT ?_;go_big_quiet_on;(simp only[Act.put,List.setIfInBounds_toArray,List.set_cons_succ,List.set_cons_zero]))|((with_reducible apply AaC M.o.at7.cls M.o.at7.len);rfl;rfl;exact zrts;rfl;rfl;go_big_quiet_on;(simp only[Act.put,List.setIfInBounds_toArray,List.set_cons_succ,List.set_cons_zero]))|((with_reducible apply AaA M.o.at7.cls);rfl;rfl;exact zots;rfl;rfl;go_big_quiet_on;(simp only[Act.put,List.setIfInBounds_toArray,List.set_cons_succ,List.set_cons_zero]))|((with_reducible apply AaB M.o.at7.cls M.o.at7.len);rfl;rfl;exact zrts;rfl;refine zCT ?_;go_big_quiet_on;(simp only[Act.put,List.setIfInBounds_toArray,List.set_cons_succ,List.set_cons_zero]))|((with_reducible apply AaC M.o.at8.cls M.o.at8.len);rfl;rfl;exact zrts;rfl;rfl;go_big_quiet_on;(simp only[Act.put,List.setIfInBounds_toArray,List.set_cons_succ,List.set_cons_zero]))|((with_reducible apply AaA M.o.at8.cls);rfl;rfl;exact zots;rfl;rfl;go_big_quiet_on;(simp only[Act.put,List.setIfInBounds_toArray,List.set_cons_succ,List.set_cons_zero]))|((with_reducible apply AaB M.o.at8.cls M.o.at8.len);rfl;rfl;exact zrts;rfl;refine zCT ?_;go_big_quiet_on;(simp only[Act.put,List.setIfInBounds_toArray,List.set_cons_succ,List.set_cons_zero]))|((with_reducible apply AaC M.o.at9.cls M.o.at9.len);rfl;rfl;exact zrts;rfl;rfl;go_big_quiet_on;(simp only[Act.put,List.setIfInBounds_toArray,List.set_cons_succ,List.set_cons_zero]))|((with_reducible apply AaA M.o.at9.cls);rfl;rfl;exact zots;rfl;rfl;go_big_quiet_on;(simp only[Act.put,List.setIfInBounds_toArray,List.set_cons_succ,List.set_cons_zero]))|((with_reducible apply AaB M.o.at9.cls M.o.at9.len);rfl;rfl;exact zrts;rfl;refine zCT ?_;go_big_quiet_on;(simp only[Act.put,List.setIfInBounds_toArray,List.set_cons_succ,List.set_cons_zero]))|((with_reducible apply AaC M.o.at10.cls M.o.at10.len);rfl;rfl;exact zrts;rfl;rfl;go_big_quiet_on;(simp only[Act.put,List.setIfInBounds_toArray,List.set_cons_succ,List.set_cons_zero]))|((with_reducible apply AaA M.o.at10.cls);rfl;rfl;exact zots;rfl;rfl;go_big_quiet_on;(simp only[Act.put,List.setIfInBounds_toArray,List.set_cons_succ,List.set_cons_zero]))|((with_reducible apply AaB M.o.at10.cls M.o.at10.len);rfl;rfl;exact zrts;rfl;refine zCT ?_;go_big_quiet_on;(simp only[Act.put,List.setIfInBounds_toArray,List.set_cons_succ,List.set_cons_zero]))|((with_reducible apply AaC M.o.at11.cls M.o.at11.len);rfl;rfl;exact zrts;rfl;rfl;go_big_quiet_on;(simp only[Act.put,List.setIfInBounds_toArray,List.set_cons_succ,List.set_cons_zero]))|((with_reducible apply AaA M.o.at11.cls);rfl;rfl;exact zots;rfl;rfl;go_big_quiet_on;(simp only[Act.put,List.setIfInBounds_toArray,List.set_cons_succ,List.set_cons_zero]))|((with_reducible apply AaB M.o.at11.cls M.o.at11.len);rfl;rfl;exact zrts;rfl;refine zCT ?_;go_big_quiet_on;(simp only[Act.put,List.setIfInBounds_toArray,List.set_cons_succ,List.set_cons_zero]))|((with_reducible apply AaC M.o.at12.cls M.o.at12.len);rfl;rfl;exact zrts;rfl;rfl;go_big_quiet_on;(simp only[Act.put,List.setIfInBounds_toArray,List.set_cons_succ,List.set_cons_zero]))|((with_reducible apply AaA M.o.at12.cls);rfl;rfl;exact zots;rfl;rfl;go_big_quiet_on;(simp only[Act.put,List.setIfInBounds_toArray,List.set_cons_succ,List.set_cons_zero]))|((with_reducible apply AaB M.o.at12.cls M.o.at12.len);rfl;rfl;exact zrts;rfl;refine zCT ?_;go_big_quiet_on;(simp only[Act.put,List.setIfInBounds_toArray,List.set_cons_succ,List.set_cons_zero]))))|(go_big_quiet_op;first|go_big_quiet_on|((with_reducible refine⟨_,fun _ _=>rfl,?_⟩);go_big_quiet_on)))));refine wpQuiet_nil ?_;intro w4 hw4;have M':=M.o.below hw4.o;(have M:=bx M';clear M');clear hw4);exact hh' w4 M)):A:=hs h
theorem zR{P:Program}{fn:Func}{R:Ending->World->Prop}{a:Act}{w:World}{x:PLift (bodyPost P fn R .ret a w)->Unit}{p:Tmp}{ty:TypeId}{g n:Nat}{Pp:List (List Value)}{ls:List Nat}(H:HL w g Pp ls)(h:R (.returned (.agg (fl Pp).toArray)) w)
  (h1:fn.results = #[.cell p ty]:=by rfl) (hp:a.tmps.getD p undef=.pointer (some ⟨g,0,none⟩):=by rfl) (rt:RowT P ty n:=by exact zrts) (hn:ls.sum=n:=by rfl) (hd:a.defers = []:=by rfl):Stop (bodyPost P fn R .ret a w) x:=⟨bodyPost_ret (Ab8 h1 _ H hp rt hn) hd h⟩
theorem zRb{P:Program}{fn:Func}{R:Ending->World->Prop}{a:Act}{w:World}{p:Tmp}{ty:TypeId}{g n:Nat}{Pp:List (List Value)}{ls:List Nat}(H:HL w g Pp ls)(h:R (.returned (.agg (fl Pp).toArray)) w)
  (h1:fn.results = #[.cell p ty]:=by rfl) (hp:a.tmps.getD p undef=.pointer (some ⟨g,0,none⟩):=by rfl) (rt:RowT P ty n:=by exact zrts) (hn:ls.sum=n:=by rfl) (hd:a.defers = []:=by rfl):bodyPost P fn R .ret a w:=bodyPost_ret (Ab8 h1 _ H hp rt hn) hd h
theorem zRt{P:Program}{fn:Func}{R:Ending->World->Prop}{a:Act}{w:World}{x:PLift (bodyPost P fn R .ret a w)->Unit}{p q:Tmp}{ty:TypeId}{g n:Nat}{Pp:List (List Value)}{ls:List Nat}{v:Value}(H:HL w g Pp ls)(h:R (.returned (.tuple #[.agg (fl Pp).toArray,v])) w)
  (h1:fn.results = #[.cell p ty,.tmp q]:=by rfl) (hv:a.tmps.getD q undef=v:=by rfl) (hp:a.tmps.getD p undef=.pointer (some ⟨g,0,none⟩):=by rfl) (rt:RowT P ty n:=by exact zrts) (hn:ls.sum=n:=by rfl) (hd:a.defers = []:=by rfl):Stop (bodyPost P fn R .ret a w) x:=⟨bodyPost_ret (Aar h1 _ H hp rt hn) hd (by rw[hv];exact h)⟩
section
variable {Γ0 Γ:Gam}{w0 w:World}{L L':List Ent}{R:List RowE}{Pg:Program}{ops:Array Oper}{rest:List Oper}{op:Oper}{a:Act}{Q:Exit->Act->World->Prop}
theorem zSSo{g:Nat}{P:List (List Value)}{ls lq:List Nat}(M:Bx (MM Γ0 w0 Γ w L R))(i:Nat)(Q' P':List (List Value))(hl:Q'.map List.length=lq)(h1:One (fl Q')){ty:TypeId}{x y:Operand}{o n k j:Nat}{B:World->Prop}(h:∀w',Bx (MM Γ0 w0 Γ w' L' R)->B w')
  (hi:L[i]? = some ⟨g,P,ls⟩:=by rfl) (ho:op.op=.store ty x y:=by rfl) (hgd:op.guard=none:=by rfl) (hx:a.eval x=.pointer (some ⟨g,o,none⟩):=by rfl) (hy:a.eval y=.agg (fl Q').toArray:=by rfl) (rt:RowT Pg ty n:=by exact zrts)
  (hf:findPart ls o n=some (k,j):=by rfl) (hQ:lq=(ls.drop k).take j:=by rfl) (hP:P.take k++Q'++P.drop (k+j)=P':=by rfl) (hL:L.set i ⟨g,P',ls⟩=L':=by(simp only[List.set_cons_zero,List.set_cons_succ];try rfl))
  (hB:∀w',B w'->wpList Pg ops Q rest (a.put op.dst undef) w':=by(intro w' hh';exact hh')):wpList Pg ops Q (op::rest) a w:=
 AcG M.o i Q' P' hi ho hgd hx hy rt hf (hl.trans hQ) h1 hP fun w' M' _=>hB w' (h w' ⟨hL▸M'⟩)
theorem zSSd{g:Nat}{P:List (List Value)}{ls lq:List Nat}(M:Bx (MM Γ0 w0 Γ w L R))(i:Nat)(Q' P':List (List Value))(hl:Q'.map List.length=lq)(h1:One (fl Q')){ty:TypeId}{x y:Operand}{o n k j:Nat}{B:World->Prop}(h:∀w',Bx (MM Γ0 w0 Γ w' L' R)->B w')
  (hi:L[i]? = some ⟨g,P,ls⟩:=by rfl) (ho:op.op=.store ty x y:=by rfl) (hgd:op.guard=none:=by rfl) (hx:a.eval x=.pointer (some ⟨g,o,none⟩):=by rfl) (hy:a.eval y=.agg (fl Q').toArray:=by rfl) (rt:RowT Pg ty n:=by exact zrts)
  (hf:findPart ls o n=some (k,j):=by rfl) (hQ:lq=(ls.drop k).take j:=by rfl) (hP:P.take k++Q'++P.drop (k+j)=P':=by rfl) (hL:L.set i ⟨g,P',ls⟩=L':=by(simp only[List.set_cons_zero,List.set_cons_succ];try rfl))
  (hB:∀w',B w'->wpList Pg ops Q rest (a.put op.dst undef) w':=by(intro w' hh';simp only[Act.put,List.setIfInBounds_toArray,List.set_cons_succ,List.set_cons_zero];exact hh')):wpList Pg ops Q (op::rest) a w:=
 AcG M.o i Q' P' hi ho hgd hx hy rt hf (hl.trans hQ) h1 hP fun w' M' _=>hB w' (h w' ⟨hL▸M'⟩)
theorem zS1o{g:Nat}{P:List (List Value)}{ls:List Nat}(M:Bx (MM Γ0 w0 Γ w L R))(i:Nat)(v:Value)(P':List (List Value)){ty:TypeId}{x y:Operand}{o k:Nat}{B:World->Prop}(h:∀w',Bx (MM Γ0 w0 Γ w' L' R)->B w')
  (hi:L[i]? = some ⟨g,P,ls⟩:=by rfl) (ho:op.op=.store ty x y:=by rfl) (hgd:op.guard=none:=by rfl) (hx:a.eval x=.pointer (some ⟨g,o,none⟩):=by rfl) (hy:a.eval y=v:=by rfl) (ot:OneT Pg ty:=by exact zots)
  (hf:findPart ls o 1=some (k,1):=by rfl) (hk:(ls.drop k).take 1 = [1]:=by rfl) (hv:v.oneCell'=true:=by rfl) (hc:v.cells = #[v]:=by rfl) (hP:P.take k ++ [[v]]++P.drop (k+1)=P':=by rfl) (hL:L.set i ⟨g,P',ls⟩=L':=by(simp only[List.set_cons_zero,List.set_cons_succ];try rfl))
  (hB:∀w',B w'->wpList Pg ops Q rest (a.put op.dst undef) w':=by(intro w' hh';exact hh')):wpList Pg ops Q (op::rest) a w:=
 AeD M.o i v P' hi ho hgd hx hy ot hf hk hv hc hP fun w' M' _=>hB w' (h w' ⟨hL▸M'⟩)
theorem zS1d{g:Nat}{P:List (List Value)}{ls:List Nat}(M:Bx (MM Γ0 w0 Γ w L R))(i:Nat)(v:Value)(P':List (List Value)){ty:TypeId}{x y:Operand}{o k:Nat}{B:World->Prop}(h:∀w',Bx (MM Γ0 w0 Γ w' L' R)->B w')
  (hi:L[i]? = some ⟨g,P,ls⟩:=by rfl) (ho:op.op=.store ty x y:=by rfl) (hgd:op.guard=none:=by rfl) (hx:a.eval x=.pointer (some ⟨g,o,none⟩):=by rfl) (hy:a.eval y=v:=by rfl) (ot:OneT Pg ty:=by exact zots)
  (hf:findPart ls o 1=some (k,1):=by rfl) (hk:(ls.drop k).take 1 = [1]:=by rfl) (hv:v.oneCell'=true:=by rfl) (hc:v.cells = #[v]:=by rfl) (hP:P.take k ++ [[v]]++P.drop (k+1)=P':=by rfl) (hL:L.set i ⟨g,P',ls⟩=L':=by(simp only[List.set_cons_zero,List.set_cons_succ];try rfl))
  (hB:∀w',B w'->wpList Pg ops Q rest (a.put op.dst undef) w':=by(intro w' hh';simp only[Act.put,List.setIfInBounds_toArray,List.set_cons_succ,List.set_cons_zero];exact hh')):wpList Pg ops Q (op::rest) a w:=
 AeD M.o i v P' hi ho hgd hx hy ot hf hk hv hc hP fun w' M' _=>hB w' (h w' ⟨hL▸M'⟩)
theorem zXS{g:Nat}{P:List (List Value)}{ls lq:List Nat}(M:Bx (MM Γ0 w0 Γ w L R))(i:Nat)(Q' P':List (List Value))(hl:Q'.map List.length=lq)(h1:One (fl Q')){opsA:Array Oper}{ts:Array Value}{K:Act->World->Prop}{E:Prop}{ty:TypeId}{x y:Operand}{o n k j:Nat}{B:World->Prop}(h:∀w',Bx (MM Γ0 w0 Γ w' L' R)->B w')
  (hi:L[i]? = some ⟨g,P,ls⟩:=by rfl) (ho:op.op=.store ty x y:=by rfl) (hx:a.eval x=.pointer (some ⟨g,o,none⟩):=by rfl) (hy:a.eval y=.agg (fl Q').toArray:=by rfl) (rt:RowT Pg ty n:=by exact zrts)
  (hf:findPart ls o n=some (k,j):=by rfl) (hQ:lq=(ls.drop k).take j:=by rfl) (hP:P.take k++Q'++P.drop (k+j)=P':=by rfl) (hw:Region.wanted op (yielded opsA ts)=true:=by rfl) (hL:L.set i ⟨g,P',ls⟩=L':=by(simp only[List.set_cons_zero,List.set_cons_succ];try rfl))
  (hB:∀w',B w'->K (a.put op.dst undef) w':=by(intro w' hh';simp only[Act.put,List.setIfInBounds_toArray,List.set_cons_succ,List.set_cons_zero];exact hh')):if Region.wanted op (yielded opsA ts)=true then op.wp Pg a w K Q else E:=
 Aax M.o i Q' P' hi ho hx hy rt hf (hl.trans hQ) h1 hP hw fun w' M'=>hB w' (h w' ⟨hL▸M'⟩)
theorem zX1{g:Nat}{P:List (List Value)}{ls:List Nat}(M:Bx (MM Γ0 w0 Γ w L R))(i:Nat)(v:Value)(P':List (List Value)){opsA:Array Oper}{ts:Array Value}{K:Act->World->Prop}{E:Prop}{ty:TypeId}{x y:Operand}{o k:Nat}{B:World->Prop}(h:∀w',Bx (MM Γ0 w0 Γ w' L' R)->B w')
  (hi:L[i]? = some ⟨g,P,ls⟩:=by rfl) (ho:op.op=.store ty x y:=by rfl) (hx:a.eval x=.pointer (some ⟨g,o,none⟩):=by rfl) (hy:a.eval y=v:=by rfl) (ot:OneT Pg ty:=by exact zots)
  (hf:findPart ls o 1=some (k,1):=by rfl) (hk:(ls.drop k).take 1 = [1]:=by rfl) (hv:v.oneCell'=true:=by rfl) (hc:v.cells = #[v]:=by rfl) (hP:P.take k ++ [[v]]++P.drop (k+1)=P':=by rfl) (hw:Region.wanted op (yielded opsA ts)=true:=by rfl) (hL:L.set i ⟨g,P',ls⟩=L':=by(simp only[List.set_cons_zero,List.set_cons_succ];try rfl))
  (hB:∀w',B w'->K (a.put op.dst undef) w':=by(intro w' hh';simp only[Act.put,List.setIfInBounds_toArray,List.set_cons_succ,List.set_cons_zero];exact hh')):if Region.wanted op (yielded opsA ts)=true then op.wp Pg a w K Q else E:=
 Afv M.o i v P' hi ho hx hy ot hf hk hv hc hP hw fun w' M'=>hB w' (h w' ⟨hL▸M'⟩)
theorem zBDo(t:TypeId)(ps:List (Nat × Value))(cells:List Value)(hb:Pg.built t ps=some cells.toArray){parts:Array (Nat × Operand)}{B:Prop}(h:B)(hgd:Region.wanted op (yielded ops a.tmps)=true:=by rfl)(ho:op.op=.build t parts:=by rfl)
  (hps:parts.toList.map (fun x=>(x.1,a.eval x.2))=ps:=by rfl) (hB:B->wpList Pg ops Q rest (a.put op.dst (.agg cells.toArray)) w:=by(intro hh';exact hh')):wpList Pg ops Q (op::rest) a w:=Abe hgd t parts ho ps cells hps hb (hB h)
theorem zBDd(t:TypeId)(ps:List (Nat × Value))(cells:List Value)(hb:Pg.built t ps=some cells.toArray){parts:Array (Nat × Operand)}{B:Prop}(h:B)(hgd:Region.wanted op (yielded ops a.tmps)=true:=by rfl)(ho:op.op=.build t parts:=by rfl)
  (hps:parts.toList.map (fun x=>(x.1,a.eval x.2))=ps:=by rfl) (hB:B->wpList Pg ops Q rest (a.put op.dst (.agg cells.toArray)) w:=by(intro hh';simp only[Act.put,List.setIfInBounds_toArray,List.set_cons_succ,List.set_cons_zero];exact hh')):wpList Pg ops Q (op::rest) a w:=Abe hgd t parts ho ps cells hps hb (hB h)
theorem zQC {C : World -> Prop} {K : Act -> Prop} {f : FuncId} {fn : Func} {args : Array Value} {v : Value} (hc : ∀ w', C w' -> Calls Pg f args w' fun e w'' => e = .returned v /\ C w'') (hf : Pg.funcs[f]? = some fn) {xs : Array Operand} {ts : Array TypeId} (h : K (a.put op.dst v)) (hn : (fn.name == "runtime.NumGoroutine") = false := by rfl) (hb : fn.body.isNone = false := by rfl)
  (ho:op.op=.call {callee:=.value (.func f),args:=xs,argTypes:=ts}:=by rfl) (hargs0:xs.toList.map a.eval=args.toList:=by rfl):op.quiet Pg a C K:=Ag5 hc hf hn hb ho hargs0 h
theorem zMC {ts : Array Value} {K : Act -> World -> Prop} {E : Prop} {f : FuncId} {fn : Func} {args : Array Value} {Post : Ending -> World -> Prop} (hc : Calls Pg f args w Post) (hf : Pg.funcs[f]? = some fn) {xs : Array Operand} {tt : Array TypeId} (hk : ∀ e w', Post e w' -> ∃ v, e = .returned v /\ K (a.put op.dst v) w') (hn : (fn.name == "runtime.NumGoroutine") = false := by rfl) (hb : fn.body.isNone = false := by rfl)
  (ho:op.op=.call {callee:=.value (.func f),args:=xs,argTypes:=tt}:=by rfl) (hargs0:xs.toList.map a.eval=args.toList:=by rfl) (hw:Region.wanted op (yielded ops ts)=true:=by rfl):if Region.wanted op (yielded ops ts)=true then op.wp Pg a w K Q else E:=Ahp hc hf hn hb xs tt ho hargs0 hw hk
theorem zCA{f:FuncId}{args:Array Value}{v:Ending}{Q:Ending->World->Prop}(M:Bx (MM Γ0 w0 Γ w L R))(hc:Calls Pg f args w fun e w'=>e=v/\Ext Γ w Γ w')(h:∀w',Bx (MM Γ0 w0 Γ w' L R)->Q v w'):Calls Pg f args w Q:=
 hc.mono fun _ w' ⟨e,hx⟩=>e▸h w' ⟨M.o.call hx⟩
theorem zCB{f:FuncId}{args:Array Value}{v:Ending}{Q:Ending->World->Prop}(M:Bx (MM Γ0 w0 Γ w L R))(hc:Calls Pg f args w fun e w'=>e=v/\Below w.heap.size w w')(h:∀w',Bx (MM Γ0 w0 Γ w' L R)->Q v w'):Calls Pg f args w Q:=
 hc.mono fun _ w' ⟨e,hx⟩=>e▸h w' ⟨M.o.below hx⟩
theorem zH8{B:World->Prop}(M:Bx (MM Γ0 w0 Γ w L R))(h:∀w',Bx (MM Γ0 w0 Γ w' L R)->B w'):∀w',Cls w.heap.size w w'->B w':=fun w' h8=>h w' ⟨M.o.below h8.o⟩
end
open Go.RowKit
theorem zLAd{A B:Prop}(h:B)(hs:B->A:=by(intro hh';(first|((((with_reducible refine Afd ?_);((with_reducible apply AbV);rfl;rfl;rfl);first|(first|((with_reducible apply LdAt.c1 M.o.at0.one);exact zots;rfl;rfl)|((with_reducible apply LdAt.p1 M.o.at0.one);exact zrts;rfl;rfl)|((with_reducible apply LdAt.ps M.o.at0.one);exact zrts;rfl;refine zCT ?_))|(first|((with_reducible apply LdAt.c1 M.o.at1.one);exact zots;rfl;rfl)|((with_reducible apply LdAt.p1 M.o.at1.one);exact zrts;rfl;rfl)|((with_reducible apply LdAt.ps M.o.at1.one);exact zrts;rfl;refine zCT ?_))|(first|((with_reducible apply LdAt.c1 M.o.at2.one);exact zots;rfl;rfl)|((with_reducible apply LdAt.p1 M.o.at2.one);exact zrts;rfl;rfl)|((with_reducible apply LdAt.ps M.o.at2.one);exact zrts;rfl;refine zCT ?_))|(first|((with_reducible apply LdAt.c1 M.o.at3.one);exact zots;rfl;rfl)|((with_reducible apply LdAt.p1 M.o.at3.one);exact zrts;rfl;rfl)|((with_reducible apply LdAt.ps M.o.at3.one);exact zrts;rfl;refine zCT ?_))|(first|((with_reducible apply LdAt.c1 M.o.at4.one);exact zots;rfl;rfl)|((with_reducible apply LdAt.p1 M.o.at4.one);exact zrts;rfl;rfl)|((with_reducible apply LdAt.ps M.o.at4.one);exact zrts;rfl;refine zCT ?_))|(first|((with_reducible apply LdAt.c1 M.o.at5.one);exact zots;rfl;rfl)|((with_reducible apply LdAt.p1 M.o.at5.one);exact zrts;rfl;rfl)|((with_reducible apply LdAt.ps M.o.at5.one);exact zrts;rfl;refine zCT ?_))|(first|((with_reducible apply LdAt.c1 M.o.at6.one);exact zots;rfl;rfl)|((with_reducible apply LdAt.p1 M.o.at6.one);exact zrts;rfl;rfl)|((with_reducible apply LdAt.ps M.o.at6.one);exact zrts;rfl;refine zCT ?_))|(first|((with_reducible apply LdAt.c1 M.o.at7.one);exact zots;rfl;rfl)|((with_reducible apply LdAt.p1 M.o.at7.one);exact zrts;rfl;rfl)|((with_reducible apply LdAt.ps M.o.at7.one);exact zrts;rfl;refine zCT ?_))|(first|((with_reducible apply LdAt.c1 M.o.at8.one);exact zots;rfl;rfl)|((with_reducible apply LdAt.p1 M.o.at8.one);exact zrts;rfl;rfl)|((with_reducible apply LdAt.ps M.o.at8.one);exact zrts;rfl;refine zCT ?_))|(first|((with_reducible apply LdAt.c1 M.o.at9.one);exact zots;rfl;rfl)|((with_reducible apply LdAt.p1 M.o.at9.one);exact zrts;rfl;rfl)|((with_reducible apply LdAt.ps M.o.at9.one);exact zrts;rfl;refine zCT ?_))|(first|((with_reducible apply LdAt.c1 M.o.at10.one);exact zots;rfl;rfl)|((with_reducible apply LdAt.p1 M.o.at10.one);exact zrts;rfl;rfl)|((with_reducible apply LdAt.ps M.o.at10.one);exact zrts;rfl;refine zCT ?_))|(first|((with_reducible apply LdAt.c1 M.o.at11.one);exact zots;rfl;rfl)|((with_reducible apply LdAt.p1 M.o.at11.one);exact zrts;rfl;rfl)|((with_reducible apply LdAt.ps M.o.at11.one);exact zrts;rfl;refine zCT ?_))|(first|((with_reducible apply LdAt.c1 M.o.at12.one);exact zots;rfl;rfl)|((with_reducible apply LdAt.p1 M.o.at12.one);exact zrts;rfl;rfl)|((with_reducible apply LdAt.ps M.o.at12.one);exact zrts;rfl;refine zCT ?_)));simp only[Act.put,List.setIfInBounds_toArray,List.set_cons_succ,List.set_cons_zero]))|(refine AjX ?_));exact hh')):A:=hs h
theorem zLHd{A B X:Prop}(x:X)(h:B)(hs:X->B->A:=by(intro HX hh';((((with_reducible refine Afd ?_);((with_reducible apply AbV);rfl;rfl;rfl);first|((with_reducible apply LdAt.c1e M.o.at0.one HX.o);exact zots;rfl;rfl)|((with_reducible apply LdAt.c1e M.o.at1.one HX.o);exact zots;rfl;rfl)|((with_reducible apply LdAt.c1e M.o.at2.one HX.o);exact zots;rfl;rfl)|((with_reducible apply LdAt.c1e M.o.at3.one HX.o);exact zots;rfl;rfl)|((with_reducible apply LdAt.c1e M.o.at4.one HX.o);exact zots;rfl;rfl)|((with_reducible apply LdAt.c1e M.o.at5.one HX.o);exact zots;rfl;rfl)|((with_reducible apply LdAt.c1e M.o.at6.one HX.o);exact zots;rfl;rfl)|((with_reducible apply LdAt.c1e M.o.at7.one HX.o);exact zots;rfl;rfl)|((with_reducible apply LdAt.c1e M.o.at8.one HX.o);exact zots;rfl;rfl));simp only[Act.put,List.setIfInBounds_toArray,List.set_cons_succ,List.set_cons_zero]));exact hh')):A:=hs x h
theorem zRFd{A B X:Prop}(x:X)(h:B)(hs:X->B->A:=by(intro HX hh';((((with_reducible refine Afd ?_);((with_reducible apply AbV);rfl;rfl;rfl);(first|((with_reducible apply LdAt.rc1 (HX.o.one M.ok));exact zots;rfl;rfl)|((with_reducible apply LdAt.rp1 (HX.o.one M.ok));exact zrts;rfl;rfl)|((with_reducible apply LdAt.rps (HX.o.one M.ok));exact zrts;rfl;refine zCT ?_)|((with_reducible apply LdAt.rc0 (HX.o.one M.ok));exact zots;rfl;rfl)|((with_reducible apply LdAt.rp0 (HX.o.one M.ok));exact zrts;rfl;rfl)|((with_reducible apply LdAt.rs0 (HX.o.one M.ok));exact zrts;rfl;refine zCT ?_)));simp only[Act.put,List.setIfInBounds_toArray,List.set_cons_succ,List.set_cons_zero]));exact hh')):A:=hs x h
theorem zMRd{A B:Prop}(h:B)(hs:B->A:=by(intro hh';((repeat(first|(with_reducible refine wpQuiet_nil ?_)|(first|go_big_quiet_skip|(go_big_quiet_want;first|(first|fail|((with_reducible refine Acn ?_);((with_reducible apply Aci);rfl;rfl);(first|(first|((with_reducible apply LdAt.c1 M.o.at0.all);exact zots;rfl;rfl)|((with_reducible apply LdAt.p1 M.o.at0.all);exact zrts;rfl;rfl)|((with_reducible apply LdAt.ps M.o.at0.all);exact zrts;rfl;refine zCT ?_))|(first|((with_reducible apply LdAt.c1 M.o.at1.all);exact zots;rfl;rfl)|((with_reducible apply LdAt.p1 M.o.at1.all);exact zrts;rfl;rfl)|((with_reducible apply LdAt.ps M.o.at1.all);exact zrts;rfl;refine zCT ?_))|(first|((with_reducible apply LdAt.c1 M.o.at2.all);exact zots;rfl;rfl)|((with_reducible apply LdAt.p1 M.o.at2.all);exact zrts;rfl;rfl)|((with_reducible apply LdAt.ps M.o.at2.all);exact zrts;rfl;refine zCT ?_))|(first|((with_reducible apply LdAt.c1 M.o.at3.all);exact zots;rfl;rfl)|((with_reducible apply LdAt.p1 M.o.at3.all);exact zrts;rfl;rfl)|((with_reducible apply LdAt.ps M.o.at3.all);exact zrts;rfl;refine zCT ?_))|(first|((with_reducible apply LdAt.c1 M.o.at4.all);exact zots;rfl;rfl)|((with_reducible apply LdAt.p1 M.o.at4.all);exact zrts;rfl;rfl)|((with_reducible apply LdAt.ps M.o.at4.all);exact zrts;rfl;refine zCT ?_))|(first|((with_reducible apply LdAt.c1 M.o.at5.all);exact zots;rfl;rfl)|((with_reducible apply LdAt.p1 M.o.at5.all);exact zrts;rfl;rfl)|((with_reducible apply LdAt.ps M.o.at5.all);exact zrts;rfl;refine zCT ?_))|(first|((with_reducible apply LdAt.c1 M.o.at6.all);exact zots;rfl;rfl)|((with_reducible apply LdAt.p1 M.o.at6.all);exact zrts;rfl;rfl)|((with_reducible apply LdAt.ps M.o.at6.all);exact zrts;rfl;refine zCT ?_))|(first|((with_reducible apply LdAt.c1 M.o.at7.all);exact zots;rfl;rfl)|((with_reducible apply LdAt.p1 M.o.at7.all);exact zrts;rfl;rfl)|((with_reducible apply LdAt.ps M.o.at7.all);exact zrts;rfl;refine zCT ?_))|(first|((with_reducible apply LdAt.c1 M.o.at8.all);exact zots;rfl;rfl)|((with_reducible apply LdAt.p1 M.o.at8.all);exact zrts;rfl;rfl)|((with_reducible apply LdAt.ps M.o.at8.all);exact zrts;rfl;refine zCT ?_))|(first|((with_reducible apply LdAt.c1 M.o.at9.all);exact zots;rfl;rfl)|((with_reducible apply LdAt.p1 M.o.at9.all);exact zrts;rfl;rfl)|((with_reducible apply LdAt.ps M.o.at9.all);exact zrts;rfl;refine zCT ?_))|(first|((with_reducible apply LdAt.c1 M.o.at10.all);exact zots;rfl;rfl)|((with_reducible apply LdAt.p1 M.o.at10.all);exact zrts;rfl;rfl)|((with_reducible apply LdAt.ps M.o.at10.all);exact zrts;rfl;refine zCT ?_)));go_big_quiet_on;(simp only[Act.put,List.setIfInBounds_toArray,List.set_cons_succ,List.set_cons_zero])))|(go_big_quiet_op;first|go_big_quiet_on|((with_reducible refine⟨_,fun _ _=>rfl,?_⟩);go_big_quiet_on)))))));exact hh')):A:=hs h
theorem zBXd{A:Prop}{T B:World->Nat->Prop}(h:∀w g,T w g->B w g)(hs:(∀w g,T w g->B w g)->A:=by(intro hh';(((with_reducible refine Alg ?_);first|((with_reducible apply AbW M.o);rfl;rfl;rfl;exact Ak2;intro w' g M' hb';(have M:=bx M';clear M');clear hb';simp only[Act.put,List.setIfInBounds_toArray,List.set_cons_succ,List.set_cons_zero])|((with_reducible apply wpList_box1 M.o);rfl;rfl;rfl;rfl;intro w' g M' hb';(have M:=bx M';clear M');clear hb';simp only[Act.put,List.setIfInBounds_toArray,List.set_cons_succ,List.set_cons_zero])));exact hh' w' g M)):A:=hs h
theorem zBYd{A X:Prop}{T B:World->Nat->Prop}(x:X)(h:∀w g,T w g->B w g)(hs:X->(∀w g,T w g->B w g)->A:=by(intro HX hh';(((with_reducible apply AbW M.o);rfl;rfl;rfl;exact HX;intro w' g M' hb';(have M:=bx M';clear M');clear hb';simp only[Act.put,List.setIfInBounds_toArray,List.set_cons_succ,List.set_cons_zero]));exact hh' w' g M)):A:=hs x h
theorem zALd{A X:Prop}{T B:World->Nat->Prop}(x:X)(h:∀w g,T w g->B w g)(hs:X->(∀w g,T w g->B w g)->A:=by(intro HX hh';(((with_reducible apply AeG M.o);rfl;rfl;exact HX;intro w' g M' hb';(have M:=bx M';clear M');clear hb';simp only[Act.put,List.setIfInBounds_toArray,List.set_cons_succ,List.set_cons_zero]));exact hh' w' g M)):A:=hs x h
def epN(k p:U):U:=⟨k.n / p.n,Nat.lt_of_le_of_lt (Nat.div_le_self _ _) k.lt⟩
theorem AnA(k p:U):IntKind.u64.wrap ((k.n:Int) / (p.n:Int))=((epN k p).n:Int):=by
 rw[AdW (Int.ediv_nonneg (by omega) (by omega))]
 .rfl
 .have:=(epN k p).lt;unfold epN at this;simp only at this;rw[<-Int.natCast_ediv];omega
def isI(i:Int)(n:Nat):Bool:=decide (0<=i/\i<(n:Int))
theorem Abi{i:Int}{n:Nat}(h:0<=i)(h2:i<(n:Int)):isI i n=true:=decide_eq_true ⟨h,h2⟩
theorem Ajh{i:Int}{n:Nat}(h:¬(0<=i/\i<(n:Int))):isI i n=false:=decide_eq_false h
theorem Abj{i:Int}{n:Nat}(h:isI i n=true):0<=i/\i<(n:Int):=of_decide_eq_true h
def Sto.nod(s:Sto)(i:Int):Option Nod:=if 0<=i then s.nodes[i.toNat]? else none
theorem AkM{s:Sto}{k:Nat}(h:k<s.nodes.length):s.nod (k:Int)=some s.nodes[k]:=by simp[Sto.nod,List.getElem?_eq_getElem h]
theorem AlR{s:Sto}{i:Int}(h:isI i s.nodes.length=false):s.nod i=none:=by
 have:=of_decide_eq_false h
 unfold Sto.nod
 split
 .rw[List.getElem?_eq_none];omega
 .rfl
theorem AfQ(s:Sto)(i:Int):(isI i s.nodes.length=false/\s.nod i=none)\/∃k:Nat,∃h:k<s.nodes.length,i=(k:Int)/\isI i s.nodes.length=true/\s.nod i=some s.nodes[k]:=by
 cases h:isI i s.nodes.length with
 |false=>exact .inl ⟨rfl,AlR h⟩
 |true=>
  have:=Abj h
  obtain⟨k,rfl⟩:∃k:Nat,i=(k:Int):=⟨i.toNat,by omega⟩
  have hk:k<s.nodes.length:=by omega
  exact .inr ⟨k,hk,rfl,rfl,AkM hk⟩
def Sto.ep(s:Sto)(k:U):U:=epN k s.c.spe
def Sto.srcN(s:Sto)(n:Nod):Cp:=if(s.ep n.b.slot).n<(s.ep s.now).n then n.b.pj else n.b.just
def Sto.src(s:Sto)(i:Int):Cp:=match s.nod i with|none=>cp0|some n=>s.srcN n
def Sto.qualN(s:Sto)(n:Nod):Bool:=decide (n.st≠2)&&(let e:=(s.srcN n).e.n;decide (s.just.e.n=0)||decide (e=s.just.e.n)||decide ((s.ep s.now).n<=e)||decide ((s.ep s.now).n-e<=2))
def Sto.qual(s:Sto)(i:Int):Bool:=match s.nod i with|none=>false|some n=>s.qualN n
theorem Aig:ZeroT Try.prog 44 (cpP cp0) [1,32]:=⟨fun w=>by kernel_rfl,AaO _⟩
theorem Ahh{s:Sto}{n:Nod}(h:n.st=2):s.qualN n=false:=by unfold Sto.qualN;simp[h]
theorem Ahg{s:Sto}{n:Nod}(h:n.st≠2):s.qualN n=(decide (s.just.e.n=0)||decide ((s.srcN n).e.n=s.just.e.n)||decide ((s.ep s.now).n<=(s.srcN n).e.n)||decide ((s.ep s.now).n-(s.srcN n).e.n<=2)):=by unfold Sto.qualN;simp[h]
def idxI{α:Type}(p:α->Bool)(T:List α):Int:=match T.findIdx? p with|some i=>(i:Int)|none=>-1
theorem Afb{α:Type}{p:α->Bool}{T:List α}(h:∀j (hj:j<T.length),p T[j]=false):idxI p T = -1:=by
 have:T.findIdx? p=none:=List.findIdx?_eq_none_iff.2 fun x hx=>by
  obtain⟨j,hj,rfl⟩:=List.getElem_of_mem hx
  exact h j hj
 unfold idxI;rw[this]
theorem Afa{α:Type}{p:α->Bool}{T:List α}{k:Nat}(hk:k<T.length)(h:∀j (hj:j<k),p (T[j]'(by omega))=false)(hp:p T[k]=true):idxI p T=(k:Int):=by
 have:T.findIdx? p=some k:=List.findIdx?_eq_some_iff_getElem.2 ⟨hk,hp,fun j hj=>by rw[h j hj];simp⟩
 unfold idxI;rw[this]
theorem AaV{α:Type}(p:α->Bool)(T:List α):(idxI p T = -1/\∀x∈T,p x=false)\/∃k,∃hk:k<T.length,idxI p T=(k:Int)/\p T[k]=true/\∀j (hj:j<k),p (T[j]'(by omega))=false:=by
 unfold idxI
 cases h:T.findIdx? p with
 |none=>exact .inl ⟨rfl,fun x hx=>(List.findIdx?_eq_none_iff.1 h) x hx⟩
 |some k=>
  obtain⟨hk,h1,h2⟩:=List.findIdx?_eq_some_iff_getElem.1 h
  exact .inr ⟨k,hk,rfl,h1,fun j hj=>by simpa using h2 j hj⟩
abbrev NG(Γ:Gam)(x:Sl)(N:List Nod):Prop:=SlR Γ x N.length (N.flatMap nox)
theorem SlR.max{Γ:Gam}{s:Sl}{n:Nat}{xs:List Value}(h:SlR Γ s n xs):s.n<=9223372036854775807:=by
 have h1:=h.cap.le
 have h2:=h.cap.mx
 unfold maxLen at h2
 omega
theorem Ai2(Γ:Gam)(x:Sl)(i:Int)(w:World)(ok:Ok Γ w) :
  Calls Try.prog 34 #[.agg [x.v].toArray,.int .i64 i] w fun e w'=>e=.returned (.bool (isI i x.n))/\Ext Γ w Γ w':=by
 have M:=bx (MM.start ok)
 clear ok
 have hl:([[x.v]]:List (List Value)).map List.length = [1]:=rfl
 change Calls Try.prog _ #[.agg (fl [[x.v]]).toArray,_] _ _
 by_cases h:0<=i
 .by_cases h2:i<(x.n:Int)
  .have HD:=bx (Abi h h2)
   go_enter Try.func34,Try.ntmps34
   go_wp2_with (first|(refine zBYo (hl) ?_;clear M;intro w' g M)|refine zLDo (M.o.at0) ?_)
   go_ret
   exact⟨by rw[HD.o];rfl,M.o.ext⟩
  .have HD:=bx (Ajh (fun h=>h2 h.2))
   go_enter Try.func34,Try.ntmps34
   go_wp2_with (first|(refine zBYo (hl) ?_;clear M;intro w' g M)|refine zLDo (M.o.at0) ?_)
   go_ret
   exact⟨by rw[HD.o];rfl,M.o.ext⟩
 .have HD:=bx (Ajh (n:=x.n) (fun h'=>h h'.1))
  go_enter Try.func34,Try.ntmps34
  go_wp2_with (refine zBYo (hl) ?_;clear M;intro w' g M)
  go_ret
  exact⟨by rw[HD.o];rfl,M.o.ext⟩
def fndI(N:List Nod)(r:Rt):Int:=idxI (fun n=>decide (n.b.root=r)) N
theorem AfZ(Γ:Gam)(x:Sl)(N:List Nod)(r:Rt)(w:World)(ok:Ok Γ w)(h:NG Γ x N) :
  Calls Try.prog 23 #[.agg [x.v].toArray,.agg (rc r).toArray] w fun e w'=>e=.returned (.int .i64 (fndI N r))/\Ext Γ w Γ w':=by
 have M:=bx (MM.start ok)
 have HN:=bx h
 have LN:=bx h.n
 have hmx:=h.max
 have hl:([[x.v]]:List (List Value)).map List.length = [1]:=rfl
 have hr:([rc r]:List (List Value)).map List.length = [32]:=by simp[AaU]
 clear h ok
 change Calls Try.prog _ #[.agg (fl [[x.v]]).toArray,.agg (fl [rc r]).toArray] _ _
 go_enter Try.func23,Try.ntmps23
 go_wp2_with (first|((first|refine zBYo (hl) ?_|refine zBYo (hr) ?_);clear M;intro w' g M))
 rename_i g1 _ _
 go_loopw [5] (fun i wr=>∃k:Nat,k<=x.n/\i=.int .i64 k/\(∀j (hj:j<N.length),j<k->decide (N[j].b.root=r)=false)/\MM Γ w Γ wr [⟨g,[rc r],[32]⟩,⟨g1,[[x.v]],[1]⟩] []) (fun i _=>x.n-(intOf i).toNat)
 case atStart=>exact⟨0,Nat.zero_le _,rfl,fun j _ hj=>absurd hj (Nat.not_lt_zero _),M.o⟩
 case round=>
  obtain⟨k,hk,rfl,hno,hM⟩:=hrel
  clear M
  have M:=bx hM
  have HNO:=bx hno
  clear hM hno
  by_cases hkn:k<x.n
  .have hkl:k<N.length:=by rw[<-LN.o];exact hkn
   obtain⟨gt,hA,hc⟩:=HN.o.at (fun x _=>AbF x) k hkl
   have HA:=bx (Ae9 hA)
   have QM:=bx M.o.at1.cls
   have Q0:=bx M.o.at0.cls
   have QC:=bx (CL.cls hc (AaG _) M.ok)
   have HS:=bx (Ahb N[k].b.root r)
   have FND:=bx (fun e=>Afa (p:=fun n:Nod=>decide (n.b.root=r)) hkl (fun j hj=>HNO.o j (Nat.lt_trans hj hkl) hj) e)
   have NXT:=bx (fun(e:decide (N[k].b.root=r)=false) j (hj:j<N.length) (hjk:j<k+1)=>(Nat.lt_or_eq_of_le (Nat.le_of_lt_succ hjk)).elim (HNO.o j hj) (fun h=>by subst h;exact e))
   have hki:(k:Int)<(x.n:Int):=by omega
   have hk0:0<=(k:Int):=by omega
   clear hA hc
   generalize N[k]=y at *
   have hq:=HS.o
   cases he:decide (y.b.root=r)with
   |true=>
    rw[he]at hq
    have HE:=bx he
    clear he
    go_wp2_with (refine zLDo (M.o.at1) ?_)
    refine zRG ?_
    repeat((go_big_quiet_want;first|(first|((first|refine zQE QM.o (HA.o) ?_|refine zQL Q0.o hr ?_|refine zQR QC.o (AaG _) ?_);go_big_quiet_on;refine zNM ?_))|(refine zQO ?_;go_big_quiet_on)))
    (refine zQN ?_;clear M;intro w4 M)
    clear QM Q0 QC
    go_wp2_with fail
    go_ret
    exact⟨by unfold fndI;rw[FND.o HE.o];rfl,M.o.ext⟩
   |false=>
    rw[he]at hq
    have HE:=bx he
    clear he
    go_wp2_with (refine zLDo (M.o.at1) ?_)
    refine zRG ?_
    repeat((go_big_quiet_want;first|(first|((first|refine zQE QM.o (HA.o) ?_|refine zQL Q0.o hr ?_|refine zQR QC.o (AaG _) ?_);go_big_quiet_on;refine zNM ?_))|(refine zQO ?_;go_big_quiet_on)))
    (refine zQN ?_;clear M;intro w4 M)
    clear QM Q0 QC
    go_wp2_with fail
    go_roundw
    case rel=>exact⟨k+1,by omega,by go_num,NXT.o HE.o,M.o⟩
    case measure=>simp[intOf];omega
  .obtain rfl:k=x.n:=by omega
   have HR:=bx (Afb (p:=fun n:Nod=>decide (n.b.root=r)) (fun j hj=>HNO.o j hj (by rw[LN.o];exact hj)))
   go_wp2_with (refine zLDo (M.o.at1) ?_)
   go_ret
   exact⟨by unfold fndI;rw[HR.o];rfl,M.o.ext⟩
abbrev nis(l:List Nat):List Value:=ints .i64 (l.map fun(k:Nat)=>(k:Int))
theorem Air(l:List Nat)(k:Nat):nis (l ++ [k])=nis l ++ [.int .i64 k]:=by simp[nis,ints]
theorem Amy(l:List Nat):(nis l).length=l.length:=by simp[nis,ints]
def n0:Nod:=⟨b0,0,0⟩
theorem nget{N:List Nod}{k:Nat}(h:k<N.length):N.getD k n0=N[k]:=by simp[List.getD,List.getElem?_eq_getElem h]
def kidsTo(N:List Nod)(i:Int)(m:Nat):List Nat:=(List.range m).filter fun k=>decide ((N.getD k n0).up=i)
def kids(N:List Nod)(i:Int):List Nat:=if isI i N.length then kidsTo N i N.length else []
theorem Ag9{N:List Nod}{i:Int}{k:Nat}(hk:k<N.length)(h:N[k].up=i):kidsTo N i (k+1)=kidsTo N i k ++ [k]:=by
 unfold kidsTo
 rw[List.range_succ,List.filter_append]
 simp[List.getD,List.getElem?_eq_getElem hk,h]
theorem Ahv{N:List Nod}{i:Int}{k:Nat}(hk:k<N.length)(h:N[k].up≠i):kidsTo N i (k+1)=kidsTo N i k:=by
 unfold kidsTo
 rw[List.range_succ,List.filter_append]
 simp[List.getD,List.getElem?_eq_getElem hk,h]
def NisP(Γ:Gam)(w:World)(l:List Nat)(e:Ending)(w':World):Prop:=∃(A:Option Addr) (c:Nat) (Γ':Gam),e=.returned (.slice A l.length c)/\CapOk A l.length c/\SlG Γ' A l.length (nis l)/\Ext Γ w Γ' w'
theorem Afo(Γ:Gam)(x:Sl)(N:List Nod)(i:Int)(w:World)(ok:Ok Γ w)(h:NG Γ x N)(hb:N.length<=65535):Calls Try.prog 25 #[.agg [x.v].toArray,.int .i64 i] w (NisP Γ w (kids N i)):=by
 have M:=bx (MM.start ok)
 have HN:=bx h
 have LN:=bx h.n
 have HB:=bx hb
 have hmx:=h.max
 have hl:([[x.v]]:List (List Value)).map List.length = [1]:=rfl
 have IS:Bx (∀Γ w,Ok Γ w->Calls Try.prog 34 #[.agg [x.v].toArray,.int .i64 i] w fun e w'=>e=.returned (.bool (isI i N.length))/\Ext Γ w Γ w'):=⟨fun Γ w ok=>by have:=Ai2 Γ x i w ok;rwa [h.n]at this⟩
 clear h ok hb
 change Calls Try.prog _ #[.agg (fl [[x.v]]).toArray,_] _ _
 go_enter Try.func25,Try.ntmps25
 go_wp2_with (refine zBYo (hl) ?_;clear M;intro w' g M)
 go_loopw [5,6] (fun l j wr=>∃(k:Nat) (A1:Option Addr) (c1:Nat),k<=x.n/\j=.int .i64 k/\(k=0\/isI i N.length=true)/\l=.slice A1 (kidsTo N i k).length c1/\(kidsTo N i k).length<=k/\MM Γ w Γ wr [⟨g,[[x.v]],[1]⟩] [⟨.slice A1 (kidsTo N i k).length c1,3,1,(kidsTo N i k).length,nis (kidsTo N i k)⟩]) (fun _ j _=>x.n-(intOf j).toNat)
 case atStart=>exact⟨0,none,0,Nat.zero_le _,rfl,.inl rfl,rfl,Nat.le_refl 0,M.o.row0 _ _⟩
 case round=>
  obtain⟨k,A1,c1,hk,rfl,hv,rfl,hlen,hM⟩:=hrel
  clear M
  have M:=bx hM
  have HV:=bx hv
  clear hM hv
  by_cases hkn:k<x.n
  .have hkl:k<N.length:=by rw[<-LN.o];exact hkn
   have hki:(k:Int)<(x.n:Int):=by omega
   have hk0:0<=(k:Int):=by omega
   cases hi:isI i N.length with
   |false=>
    rw[hi]at IS
    have hk0':k=0:=HV.o.elim id (fun h=>by rw[hi]at h;cases h)
    have HK:Bx (kids N i = []):=⟨by unfold kids;rw[hi];rfl⟩
    subst hk0'
    go_wp2_with (refine zLDo (M.o.at0) ?_)
    refine zCA M (IS.o _ _ M.ok) ?_;clear M;intro w1 M
    go_wp2_with (fail)
    go_ret
    obtain⟨Γ',h1,h2,h3,h4⟩:=M.o.frz
    unfold NisP
    rw[HK.o]
    exact⟨A1,c1,Γ',rfl,h1,h2,h4.ext⟩
   |true=>
    rw[hi]at IS
    have HI:=bx hi
    obtain⟨gt,hA,hc⟩:=HN.o.at (fun x _=>AbF x) k hkl
    have HA:=bx (Ae9 hA)
    have HC:=bx hc
    have YES:=bx (Ag9 (i:=i) hkl)
    have NO:=bx (Ahv (i:=i) hkl)
    have HKN:=bx hkn
    have hx5:(kidsTo N i k).length+1<=65536:=by have:=HB.o;omega
    clear hA hc hi HV
    generalize N[k]=y at *
    generalize kidsTo N i k=K at *
    by_cases he:y.up=i
    .subst he
     have YES':=bx (YES.o rfl)
     clear YES NO
     go_wp2_with (refine zLDo (M.o.at0) ?_)
     refine zCA M (IS.o _ _ M.ok) ?_;clear M;intro w1 M
     go_wp2_with (first|refine zLE M.o.at0 (HA.o) ?_|refine zRD (CL.of HC.o (AaG _) M.ok) ?_|((with_reducible apply Agx M.o Aln);rfl;rfl;rfl;rfl;intro w' g M' hb';(replace M:=bx M';clear M');clear hb')|(at_builtin;(with_reducible apply Ae0 M.o Aln);rfl;exact AbE _ _;(unfold maxLen;omega);omega;rfl;rfl;rfl;rfl;intro A' c' w' M';(replace M:=bx M';clear M')))
     go_roundw
     case rel=>exact⟨k+1,A',c',by omega,by go_num,.inr (by trivial),by rw[YES'.o,List.length_append];rfl,by rw[YES'.o,List.length_append];simp;omega,by rw[YES'.o,Air,List.length_append];exact M.o⟩
     case measure=>have:=HKN.o;simp[intOf];omega
    .have NO':=bx (NO.o he)
     have he':(y.up==i)=false:=by simpa using he
     clear YES NO
     go_wp2_with (refine zLDo (M.o.at0) ?_)
     refine zCA M (IS.o _ _ M.ok) ?_;clear M;intro w1 M
     go_wp2_with (first|refine zLE M.o.at0 (HA.o) ?_|refine zRD (CL.of HC.o (AaG _) M.ok) ?_)
     go_roundw
     case rel=>exact⟨k+1,A1,c1,by omega,by go_num,.inr (by trivial),by rw[NO'.o],by rw[NO'.o];omega,by rw[NO'.o];exact M.o⟩
     case measure=>have:=HKN.o;simp[intOf];omega
  .obtain rfl:k=x.n:=by omega
   have HK:Bx (kids N i=kidsTo N i x.n):=⟨by
    unfold kids
    rw[LN.o]at *
    rcases HV.o with h|h
    .split
     .rfl
     .rw[h];rfl
    .rw[h];rfl⟩
   go_wp2_with (refine zLDo (M.o.at0) ?_)
   go_ret
   obtain⟨Γ',h1,h2,h3,h4⟩:=M.o.frz
   unfold NisP
   rw[HK.o]
   exact⟨A1,c1,Γ',rfl,h1,h2,h4.ext⟩
theorem Ais(l:List Nat):nis l=l.flatMap fun k=>[.int .i64 (k:Int)]:=by
 induction l with
 |nil=>rfl
 |cons a t ih=>simp only[List.flatMap_cons,<-ih];rfl
theorem AlS{Γ:Gam}{A:Option Addr}{l:List Nat}(h:SlG Γ A l.length (nis l))(i:Nat)(hi:i<l.length):∃g,A=some ⟨g,0,none⟩/\Chk Γ g i (fl [[.int .i64 (l[i]:Int)]]):=by
 rw[Ais]at h
 obtain⟨g,h1,h2⟩:=h.at (k:=1) (fun x _=>rfl) rfl i hi
 exact⟨g,h1,by rw[Nat.mul_one]at h2;exact h2⟩
def Ahead(N:List Nod):Prop:=∀k (h:k<N.length),N[k].up<(k:Int)
def Sto.liveF(s:Sto):Nat->Int->Bool
 |0,_=>false
 |f+1,i=>s.qual i||(kids s.nodes i).any fun k=>s.liveF f (k:Int)
theorem Abh{N:List Nod}{i:Int}{k:Nat}(h:k∈kids N i):∃hk:k<N.length,N[k].up=i:=by
 unfold kids at h
 split at h
 .unfold kidsTo at h
  simp only[List.mem_filter,List.mem_range,decide_eq_true_eq]at h
  refine⟨h.1,Eq.trans ?_ h.2⟩
  simp[List.getD,List.getElem?_eq_getElem h.1]
 .cases h
theorem Aiy(N:List Nod)(i:Int):(kids N i).length<=N.length:=by
 unfold kids
 split
 .exact Nat.le_trans (List.length_filter_le _ _) (by simp)
 .simp
theorem AlZ{s:Sto}{f:Nat}{i:Int}(h:s.qual i=true):s.liveF (f+1) i=true:=by simp[Sto.liveF,h]
theorem AlY{s:Sto}{f:Nat}{i:Int}{k:Nat}(hk:k<(kids s.nodes i).length)(h:s.liveF f ((kids s.nodes i)[k]:Int)=true):s.liveF (f+1) i=true:=by
 simp only[Sto.liveF,Bool.or_eq_true,List.any_eq_true]
 exact .inr ⟨_,List.getElem_mem hk,h⟩
theorem AmJ{s:Sto}{f:Nat}{i:Int}(h0:s.qual i=false)(h:∀j (hj:j<(kids s.nodes i).length),s.liveF f ((kids s.nodes i)[j]:Int)=false):s.liveF (f+1) i=false:=by
 simp only[Sto.liveF,h0,Bool.false_or,List.any_eq_false]
 intro x hx
 obtain⟨j,hj,rfl⟩:=List.getElem_of_mem hx
 simp[h j hj]
def Sto.lives(s:Sto):List Bool:=(List.range s.nodes.length).map fun(k:Nat)=>s.liveF (s.nodes.length+1) (k:Int)
def bls(l:List Bool):List Value:=l.map Value.bool
theorem Anj:ElT Try.prog 30 4 1 1:=Acq Try.underlying30 (by kernel_rfl) (by decide) (by decide)
def BlsP(Γ:Gam)(w:World)(l:List Bool)(e:Ending)(w':World):Prop:=∃(A:Option Addr) (c:Nat) (Γ':Gam),e=.returned (.slice A l.length c)/\CapOk A l.length c/\SlG Γ' A l.length (bls l)/\Ext Γ w Γ' w'
end
namespace Old
open Go.RowKit
structure Bk where
 pre:List Value
 slot:Int
 root:List Int
 parent:List Int
 rest:List Value
def bc(b:Bk):List Value:=b.pre++(.int .u64 b.slot::(ints .u8 b.root++(ints .u8 b.parent++b.rest)))
structure BkOk(b:Bk):Prop where
 pre:b.pre.length=66
 root:b.root.length=32
 parent:b.parent.length=32
 rest:b.rest.length=107
 one1:∀u∈b.pre,u.oneCell'=true
 one2:∀u∈b.rest,u.oneCell'=true
theorem BkOk.len{b:Bk}(h:BkOk b):(bc b).length=238:=by simp[bc,ints,h.pre,h.root,h.parent,h.rest]
theorem BkOk.one{b:Bk}(h:BkOk b):∀u∈bc b,u.oneCell'=true:=fun u hu=>by
 simp only[bc,List.mem_append,List.mem_cons]at hu
 rcases hu with hu|rfl|hu|hu|hu
 .exact h.one1 u hu
 .rfl
 .obtain⟨x,_,rfl⟩:=List.mem_map.1 hu;rfl
 .obtain⟨x,_,rfl⟩:=List.mem_map.1 hu;rfl
 .exact h.one2 u hu
structure Nd where
 b:Bk
 up:Int
 st:Int
def nc(n:Nd):List Value:=bc n.b ++ [.int .i64 n.up,.int .i64 n.st]
def NOk(ns:List Nd):Prop:=∀x∈ns,BkOk x.b
theorem Ahm{n:Nd}(h:BkOk n.b):(nc n).length=240:=by simp[nc,h.len]
theorem NOk.len{ns:List Nd}(h:NOk ns):∀x∈ns,(nc x).length=240:=fun x hx=>Ahm (h x hx)
theorem AlT{n:Nd}(h:BkOk n.b):∀u∈nc n,u.oneCell'=true:=fun u hu=>by
 rcases List.mem_append.1 hu with hu|hu
 .exact h.one u hu
 .simp only[List.mem_cons,List.mem_nil_iff,or_false]at hu
  rcases hu with rfl|rfl<;>rfl
def NRow(w:World)(A:Option Addr)(n:Nat)(ns:List Nd):Prop:=ns.length=n/\NOk ns/\(0<n->∃g post,A=some ⟨g,0,none⟩/\Has w g (ns.flatMap nc++post))
theorem NRow.below{w w':World}{A:Option Addr}{n:Nat}{ns:List Nd}(h:NRow w A n ns)(hb:Below w.heap.size w w'):NRow w' A n ns:=
 ⟨h.1,h.2.1,fun hn=>by
  obtain⟨g,post,h1,h2⟩:=h.2.2 hn
  exact⟨g,post,h1,h2.below hb h2.lt⟩⟩
theorem AcL{w:World}{g o:Nat}{cs ds:List Value}(k:Nat)(h:w.rangeAt g o cs)(hp:∀j u,ds[j]? = some u->cs[k+j]? = some u):w.rangeAt g (o+k) ds:=fun j u hu=>by
 rw[Nat.add_assoc]
 exact h _ _ (hp j u hu)
theorem _root_.Go.Proofs.Ytpaihpeoiliioaa.Has.rangeAll{w:World}{g:Nat}{cs:List Value}(h:Has w g cs):w.rangeAt g 0 cs:=fun j u hu=>by rw[h.cell,Nat.zero_add];exact hu
theorem Af7{b:Bk}(h:BkOk b):∀j u,(ints .u8 b.root)[j]? = some u->(bc b)[67+j]? = some u:=fun j u hu=>by
 have hj:j<(ints .u8 b.root).length:=(List.getElem?_eq_some_iff.1 hu).1
 unfold bc
 rw[List.getElem?_append_right (by rw[h.pre];omega),h.pre,show 67+j-66=j+1 by omega,List.getElem?_cons_succ,List.getElem?_append_left hj]
 exact hu
theorem AkP{n:Nd}(h:BkOk n.b){k:Nat}{u:Value}(hk:(bc n.b)[k]? = some u):(nc n)[k]? = some u:=by
 unfold nc
 rw[List.getElem?_append_left (List.getElem?_eq_some_iff.1 hk).1]
 exact hk
theorem Amz{n:Nd}(h:BkOk n.b):(nc n)[238]? = some (.int .i64 n.up):=by
 unfold nc
 rw[List.getElem?_append_right (by rw[h.len];omega),h.len];rfl
theorem AkO{n:Nd}(h:BkOk n.b):(nc n)[239]? = some (.int .i64 n.st):=by
 unfold nc
 rw[List.getElem?_append_right (by rw[h.len];omega),h.len];rfl
theorem _root_.Go.Proofs.Ytpaihpeoiliioaa.Has.nodeRoot{w:World}{g:Nat}{ns:List Nd}{post:List Value}(h:Has w g (ns.flatMap nc++post))(hk:NOk ns)(i:Nat)(hi:i<ns.length):w.rangeAt g (i*240+67) (ints .u8 ns[i].b.root):=
 AcL 67 (h.rangeP hk.len i hi) fun j u hu=>AkP (hk _ (List.getElem_mem hi)) (Af7 (hk _ (List.getElem_mem hi)) j u hu)
theorem _root_.Go.Proofs.Ytpaihpeoiliioaa.Has.nodeCell{w:World}{g:Nat}{ns:List Nd}{post:List Value}(h:Has w g (ns.flatMap nc++post))(hk:NOk ns)(i:Nat)(hi:i<ns.length)(k:Nat)(u:Value)(hu:(nc ns[i])[k]? = some u):w.cell? ⟨g,i*240+k,none⟩=some u:=
 h.rangeP hk.len i hi k u hu
theorem AbO{P:Program}{ops:Array Oper}{rest:List Oper}{op:Oper}{a:Act}{w:World}{Q:Exit->Act->World->Prop}(ty:TypeId)(x:Operand)(ho:op.op=.load ty x)
  (hgd:Region.wanted op (yielded ops a.tmps)=true) (g o:Nat) (cs:List Value) (hr:w.rangeAt g o cs) (hx:a.eval x=.pointer (some ⟨g,o,none⟩)) {d:TypeDesc} (hu:P.underlying ty=some d) (hd:d.isRow=true) (hc:P.cellsOf ty=cs.length)
  (h:wpList P ops Q rest (a.put op.dst (.agg cs.toArray)) w):wpList P ops Q (op::rest) a w:=
 Aa5 hgd fun K hK=>wp_load_mid ty x ho g o hx cs d hr hu hd (Aac hu hc) (hK _ _ h)
theorem Ach{P:Program}{C:World->Prop}{op:Oper}{a:Act}{K:Act->Prop}(ty:TypeId)(x:Operand)(ho:op.op=.load ty x)
  (g o:Nat) (cs:List Value) (hx:a.eval x=.pointer (some ⟨g,o,none⟩)) (hr:∀w,C w->w.rangeAt g o cs)
  {d:TypeDesc} (hu:P.underlying ty=some d) (hd:d.isRow=true) (hc:P.cellsOf ty=cs.length)
  (h:K (a.put op.dst (.agg cs.toArray))):op.quiet P a C K:=by
 refine⟨_,fun w hw=>?_,h⟩
 unfold Oper.quietAt execOp
 have:=run_loadVar_mid (P:=P) w g o ty cs d (hr w hw) hu hd (Aac hu hc)
 simp only[ho,hx,Instr.loadAt,Instr.sureAddr,Sem.run_bind,Sem.run_pure,Result.andThen_ok,this]
 exact⟨rfl,rfl⟩
theorem quiet_cell{P:Program}{C:World->Prop}{o:Oper}{a:Act}{K:Act->Prop}(ty:TypeId)(x:Operand)(ho:o.op=.load ty x)(p:Addr)(v:Value)
  (hx:a.eval x=.pointer (some p)) (hr:∀w,C w->(Instr.loadAt ty (.pointer (some p))).run P w=.ok v w) (hk:K (a.put o.dst v)):o.quiet P a C K:=by
 refine⟨_,fun w hw=>?_,hk⟩
 unfold Oper.quietAt execOp
 simp only[ho,hx,hr w hw,Sem.run_bind,Sem.run_pure,Result.andThen_ok]
 exact⟨rfl,rfl⟩
theorem AeO{w:World}{p:Addr}{v:Value}(hc:w.cell? p=some v):(Instr.loadAt 23 (.pointer (some p))).run Try.prog w=.ok v w:=by
 simp[Instr.loadAt,Instr.sureAddr,loadVar,isAgg,run_underlying Try.underlying23,run_load,hc]
theorem AgK{w:World}{p:Addr}{v:Value}(hc:w.cell? p=some v):(Instr.loadAt 3 (.pointer (some p))).run Try.prog w=.ok v w:=by
 simp[Instr.loadAt,Instr.sureAddr,loadVar,isAgg,run_underlying Try.underlying3,run_load,hc]
theorem AgJ{w:World}{p:Addr}{v:Value}(hc:w.cell? p=some v):(Instr.loadAt 29 (.pointer (some p))).run Try.prog w=.ok v w:=by
 simp[Instr.loadAt,Instr.sureAddr,loadVar,isAgg,run_underlying Try.underlying29,run_load,hc]
theorem cells_root{l:List Int}(h:l.length=32):Try.prog.cellsOf 40=(ints .u8 l).length:=by rw[ints,List.length_map,h];kernel_rfl
def FP(ns:List Nd)(r:List Int)(w:World)(e:Ending)(w':World):Prop:=
 (∃k:Int,e=.returned (.int .i64 k)/\((k = -1/\∀x∈ns,x.b.root≠r)\/∃(i:Nat) (hi:i<ns.length),k=i/\ns[i].b.root=r/\∀j (hj:j<i),(ns[j]'(Nat.lt_trans hj hi)).b.root≠r))/\Below w.heap.size w w'
theorem AmQ(A:Option Addr)(n c:Nat)(ns:List Nd)(r:List Int)(hr:r.length=32)(w:World)(h:NRow w A n ns)(hn:n<=4096) :
  Calls Try.prog 23 #[.agg #[.slice A n c],.agg (ints .u8 r).toArray] w (FP ns r w):=by
 have HR:=bx hr
 have HROW:=bx h
 have HLEN:=bx h.1
 have X0:Bx (Has ((w.alloc (.cells #[.slice A n c] 25)).alloc (.cells (ints .u8 r).toArray 40)) w.heap.size [.slice A n c]):=⟨(Has.new w [.slice A n c] 25).alloc _⟩
 have X1:Bx (Has ((w.alloc (.cells #[.slice A n c] 25)).alloc (.cells (ints .u8 r).toArray 40)) (w.heap.size+1) (ints .u8 r)):=⟨by have:=Has.new (w.alloc (.cells #[.slice A n c] 25)) (ints .u8 r) 40;simpa using this⟩
 have B0:Bx (Below w.heap.size w ((w.alloc (.cells #[.slice A n c] 25)).alloc (.cells (ints .u8 r).toArray 40))):=⟨((Below.refl w.heap.size w).alloc (Nat.le_refl _) _).alloc (by simp) _⟩
 clear h hr
 go_enter Try.func23,Try.ntmps23
 go_wp2_with fail
 go_loopw [5] (fun i wr=>∃k:Nat,k<=n/\i=.int .i64 k/\(∀j (hj:j<ns.length),j<k->ns[j].b.root≠r)/\Has wr w.heap.size [.slice A n c]/\Has wr (w.heap.size+1) (ints .u8 r)/\Below w.heap.size w wr) (fun i _=>n-(intOf i).toNat)
 case atStart=>exact⟨0,Nat.zero_le _,rfl,fun j _ hj=>absurd hj (Nat.not_lt_zero _),X0.o,X1.o,B0.o⟩
 case round=>
  obtain⟨k,hk,rfl,hno,hx0,hx1,hbel⟩:=hrel
  have HNO:=bx hno
  have Y0:=bx hx0
  have Y1:=bx hx1
  have BY:=bx hbel
  clear hno hx0 hx1 hbel X0 X1 B0
  have CN:=bx (fun(w1:World) (h1:Cls wr.heap.size wr w1)=>AeO ((Y0.o.below h1.o Y0.o.lt).cell 0))
  have hc:wr.cell? ⟨w.heap.size,0,none⟩=some (.slice A n c):=Y0.o.cell 0
  by_cases hkn:k<n
  .have hkl:k<ns.length:=by rw[HLEN.o];exact hkn
   obtain⟨g1,p1,rfl,hg1⟩:=(HROW.o.below BY.o).2.2 (by omega)
   have CR:=bx (fun(w1:World) (h1:Cls wr.heap.size wr w1)=>(hg1.below h1.o hg1.lt).nodeRoot HROW.o.2.1 k hkl)
   have C1:=bx (fun(w1:World) (h1:Cls wr.heap.size wr w1)=>Y1.o.below h1.o Y1.o.lt)
   have HRK:=bx ((HROW.o.2.1 _ (List.getElem_mem hkl)).root)
   have hq:=Ab7 HRK.o HR.o
   have HFD:Bx (ns[k].b.root=r->∀w',Below w.heap.size w w'->FP ns r w (.returned (.int .i64 k)) w'):=⟨fun e w' h=>
    ⟨⟨k,rfl,.inr ⟨k,hkl,rfl,e,fun j hj=>HNO.o j (Nat.lt_trans hj hkl) hj⟩⟩,h⟩⟩
   have HNX:Bx (ns[k].b.root≠r->∀j (hj:j<ns.length),j<k+1->ns[j].b.root≠r):=⟨fun e j hj hjk=>by
    rcases Nat.lt_or_eq_of_le (Nat.le_of_lt_succ hjk)with h|h
    .exact HNO.o j hj h
    .subst h;exact e⟩
   have hki:(k:Int)<(n:Int):=by omega
   have hk0:0<=(k:Int):=by omega
   clear hg1
   generalize ns[k].b.root=rk at *
   by_cases he:rk=r
   .rw[decide_eq_true he]at hq
    have HE:=bx he
    clear he
    go_wp2_with fail
    refine AcK wr.heap.size (by kernel_rfl) (by kernel_rfl) ?_
    repeat(first|go_big_quiet_skip|(go_big_quiet_want;first|(first|((with_reducible refine quiet_cell 23 _ rfl _ _ ?_ CN.o ?_);rfl;go_big_quiet_on;(simp only[Act.put,List.setIfInBounds_toArray,List.set_cons_succ,List.set_cons_zero]))|((with_reducible refine Ach 40 _ rfl g1 (k*240+67) (ints .u8 rk) ?_ CR.o Try.underlying40 ?_ ?_ ?_);rfl;rfl;exact cells_root HRK.o;go_big_quiet_on;(simp only[Act.put,List.setIfInBounds_toArray,List.set_cons_succ,List.set_cons_zero]))|((with_reducible refine Adc 40 _ rfl _ (ints .u8 r) ?_ C1.o Try.underlying40 rfl ?_ ?_);rfl;exact cells_root HR.o;go_big_quiet_on;(simp only[Act.put,List.setIfInBounds_toArray,List.set_cons_succ,List.set_cons_zero])))|(go_big_quiet_op;first|go_big_quiet_on|((with_reducible refine⟨_,fun _ _=>rfl,?_⟩);go_big_quiet_on))))
    refine wpQuiet_nil ?_
    intro w4 hw4
    have B4:=bx (BY.o.trans (hw4.o.mono BY.o.size))
    clear hw4
    go_wp2_with fail
    go_ret
    exact HFD.o HE.o _ B4.o
   .rw[decide_eq_false he]at hq
    have HE:=bx he
    clear he
    go_wp2_with fail
    refine AcK wr.heap.size (by kernel_rfl) (by kernel_rfl) ?_
    repeat(first|go_big_quiet_skip|(go_big_quiet_want;first|(first|((with_reducible refine quiet_cell 23 _ rfl _ _ ?_ CN.o ?_);rfl;go_big_quiet_on;(simp only[Act.put,List.setIfInBounds_toArray,List.set_cons_succ,List.set_cons_zero]))|((with_reducible refine Ach 40 _ rfl g1 (k*240+67) (ints .u8 rk) ?_ CR.o Try.underlying40 ?_ ?_ ?_);rfl;rfl;exact cells_root HRK.o;go_big_quiet_on;(simp only[Act.put,List.setIfInBounds_toArray,List.set_cons_succ,List.set_cons_zero]))|((with_reducible refine Adc 40 _ rfl _ (ints .u8 r) ?_ C1.o Try.underlying40 rfl ?_ ?_);rfl;exact cells_root HR.o;go_big_quiet_on;(simp only[Act.put,List.setIfInBounds_toArray,List.set_cons_succ,List.set_cons_zero])))|(go_big_quiet_op;first|go_big_quiet_on|((with_reducible refine⟨_,fun _ _=>rfl,?_⟩);go_big_quiet_on))))
    refine wpQuiet_nil ?_
    intro w4 hw4
    have B4:=bx (BY.o.trans (hw4.o.mono BY.o.size))
    have Y4:=bx (Y0.o.below hw4.o Y0.o.lt)
    have Y5:=bx (Y1.o.below hw4.o Y1.o.lt)
    clear hw4
    go_wp2_with fail
    go_roundw
    case rel=>exact⟨k+1,by omega,by go_num,HNX.o HE.o,Y4.o,Y5.o,B4.o⟩
    case measure=>simp[intOf];omega
  .obtain rfl:k=n:=by omega
   go_wp2_with fail
   go_ret
   exact⟨⟨-1,rfl,.inl ⟨rfl,fun x hx=>by
    obtain⟨j,hj,rfl⟩:=List.getElem_of_mem hx
    exact HNO.o j hj (by rw[<-HLEN.o];exact hj)⟩⟩,BY.o⟩
def zck:List Value:=.int .u64 0::ints .u8 zroot
def zpre:List Value:=zck++zck
def zrest(payload:List Int):List Value:=ints .u8 payload++(List.replicate 8 (.int .u64 0)++(zck++(zck ++ [.bool false])))
def mkB(slot:Int)(root parent payload:List Int):Bk:=⟨zpre,slot,root,parent,zrest payload⟩
def zBlk:Bk:=mkB 0 zroot zroot zroot
def zNode:Nd:=⟨zBlk,0,0⟩
theorem AhP(w:World):(zeroValue 52).run Try.prog w=.ok (.agg (nc zNode).toArray) w:=by kernel_rfl
theorem Acp(place:Nat->Option (Nat × Nat))(pre mid post l:List Value)(i:Nat)(v:Value)(rest:List (Nat × Value))(hp:place i=some (pre.length,l.length))(hv:v.cells=l.toArray)(hm:mid.length=l.length) :
  Instr.fill place (pre++mid++post).toArray ((i,v)::rest)=Instr.fill place (pre++l++post).toArray rest:=by
 have h1:v.cells.zipIdx.foldl (fun cs (x:Value × Nat)=>cs.setIfInBounds (pre.length+x.2) x.1) (pre++mid++post).toArray=(pre++l++post).toArray:=by
  have:=AdJ pre.length l mid pre post 0 hm (by omega)
  rw[hv,<-Array.foldl_toList,Array.toList_zipIdx]
  exact this
 rw[Instr.fill]
 simp only[hp]
 rw[if_neg (by rw[hv];simp;omega)]
 exact congrArg (fun c=>Instr.fill place c rest) h1
theorem Ad1(ps:List (Nat × Value)):Try.prog.built 52 ps=Instr.fill (fun i=>(#[(0,238),(238,1),(239,1)]:Array (Nat × Nat))[i]?) (nc zNode).toArray ps:=by kernel_rfl
theorem AhI{b:Bk}(h:BkOk b)(u s:Int):Try.prog.built 52 [(0,.agg (bc b).toArray),(1,.int .i64 u),(2,.int .i64 s)]=some (nc ⟨b,u,s⟩).toArray:=by
 rw[Ad1]
 have e0:nc zNode = []++bc zBlk ++ [.int .i64 0,.int .i64 0]:=rfl
 rw[e0,Acp _ [] (bc zBlk) _ (bc b) 0 _ _ (by rw[h.len];rfl) rfl (by rw[h.len];rfl)]
 have e1:[]++bc b ++ [Value.int .i64 0,.int .i64 0]=bc b ++ [.int .i64 0] ++ [.int .i64 0]:=by simp
 rw[e1,Acp _ (bc b) [.int .i64 0] _ [.int .i64 u] 1 _ _ (by rw[h.len];rfl) rfl rfl]
 have e2:bc b ++ [Value.int .i64 u] ++ [.int .i64 0]=(bc b ++ [.int .i64 u]) ++ [.int .i64 0] ++ []:=by simp
 rw[e2,Acp _ (bc b ++ [Value.int .i64 u]) [Value.int .i64 0] _ [Value.int .i64 s] 2 _ _ (by simp[h.len]) rfl rfl]
 simp[Instr.fill,nc]
theorem AaJ{P:Program}{C:World->Prop}{o:Oper}{a:Act}{K:Act->Prop}(t:TypeId)(parts:Array (Nat × Operand))(ho:o.op=.build t parts)
  (ps:List (Nat × Value)) (cells:List Value) (hps:parts.toList.map (fun x=>(x.1,a.eval x.2))=ps) (hf:P.built t ps=some cells.toArray) (h:K (a.put o.dst (.agg cells.toArray))):o.quiet P a C K:=by
 refine⟨_,fun w _=>?_,h⟩
 have e:(parts.map fun(i,x)=>(i,a.eval x))=ps.toArray:=Array.ext' (by rw[Array.toList_map];exact hps)
 have:=run_build (P:=P) w t ps.toArray cells.toArray hf
 unfold Oper.quietAt execOp
 simp only[ho,e,this,Sem.run_bind,Result.andThen_ok]
 exact⟨rfl,rfl⟩
theorem run_allocZ{P:Program}{ty:TypeId}{cs:List Value}(hz:∀w,(zeroValue ty).run P w=.ok (.agg cs.toArray) w){o:Oper}{a:Act}{w:World}(ho:o.op=.alloc ty) :
  (execOp a.eval o).run P w=.ok (.value (.pointer (some ⟨w.heap.size,0,none⟩))) (w.alloc (.cells cs.toArray ty)):=by
 unfold execOp
 simp only[ho]
 simp[Instr.alloc,Sem.run_bind,hz,newVar,Value.cells,newRow]
theorem own_ext{w w':World}{base:Nat}{e:TypeId}{size:Nat}{v:Value}{n:Nat}{xs:List Value}(h:w.ownsRow base e size v n xs)(hb:Below w.heap.size w w'):w'.ownsRow base e size v n xs:=by
 refine⟨h.1,?_⟩
 rcases h.2 with h1|⟨g,cap,cur,h1,h2,h3,h4⟩
 .exact .inl h1
 .exact .inr ⟨g,cap,cur,h1,h2,by rw[hb.block g (Array.getElem?_eq_some_iff.1 h3).1];exact h3,h4⟩
theorem own_slice{w:World}{base:Nat}{e:TypeId}{size:Nat}{v:Value}{n:Nat}{xs:List Value}(h:w.ownsRow base e size v n xs):∃A c,v=.slice A n c:=by
 rcases h.2 with⟨h1,h2⟩|⟨g,cap,cur,h1,_⟩
 .subst h2;exact⟨none,0,h1⟩
 .exact⟨_,_,h1⟩
theorem own_block{w:World}{base:Nat}{e:TypeId}{size:Nat}{v:Value}{n:Nat}{xs:List Value}(h:w.ownsRow base e size v n xs)(hn:0<n) :
  ∃g c post,v=.slice (some ⟨g,0,none⟩) n c/\base<=g/\Has w g (xs++post):=by
 rcases h.2 with⟨h1,h2⟩|⟨g,cap,cur,h1,h2,h3,h4,h5,h6,h7⟩
 .omega
 .refine⟨g,cap,cur.toList.drop (n*size),h1,h2,⟨e,?_⟩⟩
  rw[<-h7,List.take_append_drop]
  simpa using h3
theorem mix_run{P:Program}{ops:Array Oper}{o:Oper}{a:Act}{w w':World}{K:Act->World->Prop}{Q:Exit->Act->World->Prop}{E:Prop}{v:Value}
  (hr:(execOp a.eval o).run P w=.ok (.value v) w') (hw:Region.wanted o (yielded ops a.tmps)=true) (hk:K (a.put o.dst v) w'):if Region.wanted o (yielded ops a.tmps)=true then o.wp P a w K Q else E:=by
 rw[if_pos hw]
 unfold Oper.wp
 rw[hr,Oper.upon_value]
 exact hk
theorem ext_alloc(w:World)(o:Obj):Below w.heap.size w (w.alloc o):=(Below.refl _ _).alloc (Nat.le_refl _) o
theorem alloc_size(w:World)(o:Obj):(w.alloc o).heap.size=w.heap.size+1:=by simp
theorem ne_som{a b:Nat}(h:a≠b):some a≠some b:=fun e=>h (by injection e)
theorem run_sliceTo{P:Program}(w:World)(t e:TypeId)(len:Nat)(parts:Array (Nat × Value))(cells:Array Value)(hu:P.underlying t=some (.slice e))(hf:P.builtSlice e len parts.toList=some cells) :
  (Instr.buildSlice t len parts).run P w=.ok (.slice (some ⟨w.heap.size,0,none⟩) len len) (w.alloc (.cells cells e)):=by
 unfold Program.builtSlice at hf
 cases hie:P.info? e with
 |none=>simp[hie]at hf
 |some ie=>
  simp only[hie]at hf
  cases hz:ie.zero with
  |none=>simp[hz]at hf
  |some z=>
   simp only[hz]at hf
   by_cases hc:len*ie.size>2 ^ 24\/len*ie.size=0
   .simp[hc]at hf
   .rw[if_neg hc]at hf
    exact run_buildSlice w t e len parts cells ie z hu hie hz (fun h'=>hc (Or.inl h')) (fun h'=>hc (Or.inr h')) hf
theorem AhH{n:Nd}(h:BkOk n.b):Try.prog.cellsOf 52=(nc n).length:=by rw[Ahm h];kernel_rfl
theorem AhG(v:Value):Try.prog.cellsOf 25 = [v].length:=by kernel_rfl
theorem Ac4(A:Option Addr)(n c:Nat):Try.prog.built 25 [(0,.slice A n c)]=some (#[.slice A n c]:Array Value):=by kernel_rfl
theorem own_mono{w:World}{base base':Nat}{e:TypeId}{size:Nat}{v:Value}{n:Nat}{xs:List Value}(h:w.ownsRow base e size v n xs)(hb:base'<=base):w.ownsRow base' e size v n xs:=by
 refine⟨h.1,?_⟩
 rcases h.2 with h1|⟨g,cap,cur,h1,h2,h3⟩
 .exact .inl h1
 .exact .inr ⟨g,cap,cur,h1,Nat.le_trans hb h2,h3⟩
end Old
end Go.Proofs.Ytpaihpeoiliioaa
