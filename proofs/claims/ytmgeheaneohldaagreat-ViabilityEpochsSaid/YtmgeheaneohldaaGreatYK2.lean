/- Texts joined: what the walks of this claim stand on (part 2 of 43). -/
import Derived.Test.YtmgeheaneohldaaGreatYK1
set_option linter.all false
set_option maxRecDepth 20000
set_option maxHeartbeats 40000000
namespace Go.Proofs.YtmgeheaneohldaaGreat
open Go.RowKit
theorem zrts{A:Prop}(h:A:=by first|(first|exact Amk|exact rtCk|exact rtSt|exact Aav|exact rtBl|exact rtNo|exact rtTb|exact rtVo|exact rtCf|exact Alx|exact rtZs|exact rtAt|exact rtRq|exact rtCm|exact rtWd|exact rtCl|exact rtSl|exact rtVd|exact rtOp)|exact rtPu):A:=h
theorem zots{A:Prop}(h:A:=by first|(first|exact AhM|exact Amo|exact AjD|exact Al2|exact Amn|exact Amp|exact Anc|exact Anb|exact Akc|exact Akb|exact Afi)|exact otPt|exact otPs|exact otPb|exact otIs|exact otVs):A:=h
theorem AmX{A:Prop}(h:A:=by(first|with_reducible exact AaD _ _|with_reducible exact AaO _|with_reducible exact AaY _|with_reducible exact AaL _ _|with_reducible exact AbY _ _|with_reducible exact AaX _|with_reducible exact AbF _|with_reducible exact Aa5 _ _|with_reducible exact AdP _|with_reducible exact AaA _|with_reducible exact Aaf _ _|with_reducible exact len1 _|with_reducible exact lenR _|with_reducible exact lenW _|with_reducible exact Acw _ _|with_reducible exact Acm _ _ _|with_reducible exact Abc _|with_reducible exact AaQ _ _|(simp[Aax,Ach];done))):A:=h
theorem zCT{A B:Prop}(h:B)(hs:B->A:=by(intro hh';(first|simp only[Nat.reduceAdd,List.drop_zero,An2,An1,Anh,AoH,Ank,Anl,Any,Anz,AoF,Anx,Ani,Anj,Anv,Anw,AoC,AoI,An0,AoE,AoG,An3,AoD,Anu,Anr,Ans,Ant,AoB,Anm,Anq,Ano,Anp,Ann,AoN,AoK,An5,An4,AoJ,AoM,An9,AoA,An8,An7,An6,AoQ,AoR]|simp only[Nat.reduceAdd,List.drop_zero,An2,An1,Anh,AoH,Ank,Anl,Any,Anz,AoF,Anx,Ani,Anj,Anv,Anw,AoC,AoI,An0,AoE,AoG,An3,AoD,Anu,Anr,Ans,Ant,AoB,Anm,Anq,Ano,Anp,Ann,AoN,AoK,An5,An4,AoJ,AoM,An9,AoA,An8,An7,An6,AoL,AoP,AoO]|simp only[Nat.reduceAdd,List.drop_zero,An2,An1,Anh,AoH,Ank,Anl,Any,Anz,AoF,Anx,Ani,Anj,Anv,Anw,AoC,AoI,An0,AoE,AoG,An3,AoD,Anu,Anr,Ans,Ant,AoB,Anm,Anq,Ano,Anp,Ann,AoN,AoK,An5,An4,AoJ,AoM,An9,AoA,An8,An7,An6,AoL]|simp only[Nat.reduceAdd,List.drop_zero,An2,An1,Anh,AoH,Ank,Anl,Any,Anz,AoF,Anx,Ani,Anj,Anv,Anw,AoC,AoI,An0,AoE,AoG,An3,AoD,Anu,Anr,Ans,Ant,AoB,Anm,Anq,Ano,Anp,Ann,AoN,AoK,An5,An4,AoJ,AoM,An9,AoA,An8,An7,An6]|simp only[Nat.reduceAdd,List.drop_zero,An2,An1,Anh,AoH,Ank,Anl,Any,Anz,AoF,Anx,Ani,Anj,Anv,Anw,AoC,AoI,An0,AoE,AoG,An3,AoD,Anu,Anr,Ans,Ant,AoB,Anm,Anq,Ano,Anp,Ann,AoL,AoP,AoO]|simp only[Nat.reduceAdd,List.drop_zero,An2,An1,Anh,AoH,Ank,Anl,Any,Anz,AoF,Anx,Ani,Anj,Anv,Anw,AoC,AoI,An0,AoE,AoG,An3,AoD,Anu,Anr,Ans,Ant,AoB,Anm,Anq,Ano,Anp,Ann,AoL]|simp only[Nat.reduceAdd,List.drop_zero,An2,An1,Anh,AoH,Ank,Anl,Any,Anz,AoF,Anx,Ani,Anj,Anv,Anw,AoC,AoI,An0,AoE,AoG,An3,AoD,Anu,Anr,Ans,Ant,AoB,Anm,Anq,Ano,Anp,Ann]|simp only[Nat.reduceAdd,List.drop_zero,An2,An1,Anh,An3]|simp only[Nat.reduceAdd,List.drop_zero,An2,An1,Anh]|skip);exact hh')):A:=hs h
theorem zQL{C:World->Prop}{g:Nat}{P:List (List Value)}{ls:List Nat}(H:∀w',C w'->HL w' g P ls)(H0:P.map List.length=ls){A B:Prop}(h:B)(hs:(∀w',C w'->HL w' g P ls)->P.map List.length=ls->B->A:=by(intro HX HY hh';(first|((with_reducible apply AaP HX HY);rfl;rfl;exact zrts;rfl;rfl;skip)|((with_reducible apply AaN HX);rfl;rfl;exact zots;rfl;rfl;skip)|((with_reducible apply AaM HX HY);rfl;rfl;exact zrts;rfl;refine zCT ?_;skip));exact hh')):A:=hs H H0 h
theorem zQR{C:World->Prop}{g b:Nat}{P:List (List Value)}{ls:List Nat}(H:∀w',C w'->CL w' g b P ls)(H0:P.map List.length=ls){A B:Prop}(h:B)(hs:(∀w',C w'->CL w' g b P ls)->P.map List.length=ls->B->A:=by(intro HX HY hh';(first|((with_reducible apply AgG HX HY);rfl;rfl;exact zrts;rfl;rfl;skip)|((with_reducible apply AgH HX);rfl;rfl;exact zots;rfl;rfl;skip)|((with_reducible apply quiet_rds HX HY);rfl;rfl;exact zrts;rfl;refine zCT ?_;skip)|((with_reducible apply AfL HX HY);rfl;rfl;exact zrts;rfl;rfl;skip)|((with_reducible apply AfM HX);rfl;rfl;exact zots;rfl;rfl;skip)|((with_reducible apply AfK HX HY);rfl;rfl;exact zrts;rfl;refine zCT ?_;skip));exact hh')):A:=hs H H0 h
theorem zQE{C:World->Prop}{g:Nat}{P:List (List Value)}{ls:List Nat}(H:∀w',C w'->HL w' g P ls){v v':Value}(e:v=v'){A B:Prop}(h:B)(hs:(∀w',C w'->HL w' g P ls)->v=v'->B->A:=by(intro HX HY hh';(((with_reducible apply Aaz HX HY);rfl;rfl;exact zots;rfl;rfl;skip));exact hh')):A:=hs H e h
theorem zQO{A B:Prop}(h:B)(hs:B->A:=by(intro hh';(go_big_quiet_op;try(with_reducible refine⟨_,fun _ _=>rfl,?_⟩));exact hh')):A:=hs h
theorem zQAo{A B:Prop}(h:B)(hs:B->A:=by(intro hh';(((with_reducible refine AbX ?_);first|((with_reducible apply AaP M.out.at0.cls M.out.at0.len);rfl;rfl;exact zrts;rfl;rfl;skip)|((with_reducible apply AaN M.out.at0.cls);rfl;rfl;exact zots;rfl;rfl;skip)|((with_reducible apply AaM M.out.at0.cls M.out.at0.len);rfl;rfl;exact zrts;rfl;refine zCT ?_;skip)|((with_reducible apply AaP M.out.at1.cls M.out.at1.len);rfl;rfl;exact zrts;rfl;rfl;skip)|((with_reducible apply AaN M.out.at1.cls);rfl;rfl;exact zots;rfl;rfl;skip)|((with_reducible apply AaM M.out.at1.cls M.out.at1.len);rfl;rfl;exact zrts;rfl;refine zCT ?_;skip)|((with_reducible apply AaP M.out.at2.cls M.out.at2.len);rfl;rfl;exact zrts;rfl;rfl;skip)|((with_reducible apply AaN M.out.at2.cls);rfl;rfl;exact zots;rfl;rfl;skip)|((with_reducible apply AaM M.out.at2.cls M.out.at2.len);rfl;rfl;exact zrts;rfl;refine zCT ?_;skip)|((with_reducible apply AaP M.out.at3.cls M.out.at3.len);rfl;rfl;exact zrts;rfl;rfl;skip)|((with_reducible apply AaN M.out.at3.cls);rfl;rfl;exact zots;rfl;rfl;skip)|((with_reducible apply AaM M.out.at3.cls M.out.at3.len);rfl;rfl;exact zrts;rfl;refine zCT ?_;skip)|((with_reducible apply AaP M.out.at4.cls M.out.at4.len);rfl;rfl;exact zrts;rfl;rfl;skip)|((with_reducible apply AaN M.out.at4.cls);rfl;rfl;exact zots;rfl;rfl;skip)|((with_reducible apply AaM M.out.at4.cls M.out.at4.len);rfl;rfl;exact zrts;rfl;refine zCT ?_;skip)|((with_reducible apply AaP M.out.at5.cls M.out.at5.len);rfl;rfl;exact zrts;rfl;rfl;skip)|((with_reducible apply AaN M.out.at5.cls);rfl;rfl;exact zots;rfl;rfl;skip)|((with_reducible apply AaM M.out.at5.cls M.out.at5.len);rfl;rfl;exact zrts;rfl;refine zCT ?_;skip)|((with_reducible apply AaP M.out.at6.cls M.out.at6.len);rfl;rfl;exact zrts;rfl;rfl;skip)|((with_reducible apply AaN M.out.at6.cls);rfl;rfl;exact zots;rfl;rfl;skip)|((with_reducible apply AaM M.out.at6.cls M.out.at6.len);rfl;rfl;exact zrts;rfl;refine zCT ?_;skip)|((with_reducible apply AaP M.out.at7.cls M.out.at7.len);rfl;rfl;exact zrts;rfl;rfl;skip)|((with_reducible apply AaN M.out.at7.cls);rfl;rfl;exact zots;rfl;rfl;skip)|((with_reducible apply AaM M.out.at7.cls M.out.at7.len);rfl;rfl;exact zrts;rfl;refine zCT ?_;skip)|((with_reducible apply AaP M.out.at8.cls M.out.at8.len);rfl;rfl;exact zrts;rfl;rfl;skip)|((with_reducible apply AaN M.out.at8.cls);rfl;rfl;exact zots;rfl;rfl;skip)|((with_reducible apply AaM M.out.at8.cls M.out.at8.len);rfl;rfl;exact zrts;rfl;refine zCT ?_;skip)|((with_reducible apply AaP M.out.at9.cls M.out.at9.len);rfl;rfl;exact zrts;rfl;rfl;skip)|((with_reducible apply AaN M.out.at9.cls);rfl;rfl;exact zots;rfl;rfl;skip)|((with_reducible apply AaM M.out.at9.cls M.out.at9.len);rfl;rfl;exact zrts;rfl;refine zCT ?_;skip)|((with_reducible apply AaP M.out.at10.cls M.out.at10.len);rfl;rfl;exact zrts;rfl;rfl;skip)|((with_reducible apply AaN M.out.at10.cls);rfl;rfl;exact zots;rfl;rfl;skip)|((with_reducible apply AaM M.out.at10.cls M.out.at10.len);rfl;rfl;exact zrts;rfl;refine zCT ?_;skip)|((with_reducible apply AaP M.out.at11.cls M.out.at11.len);rfl;rfl;exact zrts;rfl;rfl;skip)|((with_reducible apply AaN M.out.at11.cls);rfl;rfl;exact zots;rfl;rfl;skip)|((with_reducible apply AaM M.out.at11.cls M.out.at11.len);rfl;rfl;exact zrts;rfl;refine zCT ?_;skip)|((with_reducible apply AaP M.out.at12.cls M.out.at12.len);rfl;rfl;exact zrts;rfl;rfl;skip)|((with_reducible apply AaN M.out.at12.cls);rfl;rfl;exact zots;rfl;rfl;skip)|((with_reducible apply AaM M.out.at12.cls M.out.at12.len);rfl;rfl;exact zrts;rfl;refine zCT ?_;skip)));exact hh')):A:=hs h
theorem zQHo{A B X:Prop}(x:X)(h:B)(hs:X->B->A:=by(intro HX hh';(((with_reducible refine AbX ?_);first|((with_reducible apply Aaz M.out.at0.cls HX.out);rfl;rfl;exact zots;rfl;rfl;skip)|((with_reducible apply Aaz M.out.at1.cls HX.out);rfl;rfl;exact zots;rfl;rfl;skip)|((with_reducible apply Aaz M.out.at2.cls HX.out);rfl;rfl;exact zots;rfl;rfl;skip)|((with_reducible apply Aaz M.out.at3.cls HX.out);rfl;rfl;exact zots;rfl;rfl;skip)|((with_reducible apply Aaz M.out.at4.cls HX.out);rfl;rfl;exact zots;rfl;rfl;skip)|((with_reducible apply Aaz M.out.at5.cls HX.out);rfl;rfl;exact zots;rfl;rfl;skip)|((with_reducible apply Aaz M.out.at6.cls HX.out);rfl;rfl;exact zots;rfl;rfl;skip)|((with_reducible apply Aaz M.out.at7.cls HX.out);rfl;rfl;exact zots;rfl;rfl;skip)|((with_reducible apply Aaz M.out.at8.cls HX.out);rfl;rfl;exact zots;rfl;rfl;skip)|((with_reducible apply Aaz M.out.at9.cls HX.out);rfl;rfl;exact zots;rfl;rfl;skip)|((with_reducible apply Aaz M.out.at10.cls HX.out);rfl;rfl;exact zots;rfl;rfl;skip)|((with_reducible apply Aaz M.out.at11.cls HX.out);rfl;rfl;exact zots;rfl;rfl;skip)|((with_reducible apply Aaz M.out.at12.cls HX.out);rfl;rfl;exact zots;rfl;rfl;skip)));exact hh')):A:=hs x h
theorem zQFo{A B X:Prop}(x:X)(h:B)(hs:X->B->A:=by(intro HX hh';(((with_reducible refine AbX ?_);first|((with_reducible apply AgG (HX.out.cls M.ok) HX.out.len);rfl;rfl;exact zrts;rfl;rfl;skip)|((with_reducible apply AgH (HX.out.cls M.ok));rfl;rfl;exact zots;rfl;rfl;skip)|((with_reducible apply quiet_rds (HX.out.cls M.ok) HX.out.len);rfl;rfl;exact zrts;rfl;refine zCT ?_;skip)|((with_reducible apply AfL (HX.out.cls M.ok) HX.out.len);rfl;rfl;exact zrts;rfl;rfl;skip)|((with_reducible apply AfM (HX.out.cls M.ok));rfl;rfl;exact zots;rfl;rfl;skip)|((with_reducible apply AfK (HX.out.cls M.ok) HX.out.len);rfl;rfl;exact zrts;rfl;refine zCT ?_;skip)));exact hh')):A:=hs x h
theorem zQAd{A B:Prop}(h:B)(hs:B->A:=by(intro hh';(((with_reducible refine AbX ?_);((with_reducible apply Acp);rfl;rfl);(first|(first|((with_reducible apply LdAt.c1 M.out.at0.all);exact zots;rfl;rfl)|((with_reducible apply LdAt.p1 M.out.at0.all);exact zrts;rfl;rfl)|((with_reducible apply LdAt.ps M.out.at0.all);exact zrts;rfl;refine zCT ?_))|(first|((with_reducible apply LdAt.c1 M.out.at1.all);exact zots;rfl;rfl)|((with_reducible apply LdAt.p1 M.out.at1.all);exact zrts;rfl;rfl)|((with_reducible apply LdAt.ps M.out.at1.all);exact zrts;rfl;refine zCT ?_))|(first|((with_reducible apply LdAt.c1 M.out.at2.all);exact zots;rfl;rfl)|((with_reducible apply LdAt.p1 M.out.at2.all);exact zrts;rfl;rfl)|((with_reducible apply LdAt.ps M.out.at2.all);exact zrts;rfl;refine zCT ?_))|(first|((with_reducible apply LdAt.c1 M.out.at3.all);exact zots;rfl;rfl)|((with_reducible apply LdAt.p1 M.out.at3.all);exact zrts;rfl;rfl)|((with_reducible apply LdAt.ps M.out.at3.all);exact zrts;rfl;refine zCT ?_))|(first|((with_reducible apply LdAt.c1 M.out.at4.all);exact zots;rfl;rfl)|((with_reducible apply LdAt.p1 M.out.at4.all);exact zrts;rfl;rfl)|((with_reducible apply LdAt.ps M.out.at4.all);exact zrts;rfl;refine zCT ?_))|(first|((with_reducible apply LdAt.c1 M.out.at5.all);exact zots;rfl;rfl)|((with_reducible apply LdAt.p1 M.out.at5.all);exact zrts;rfl;rfl)|((with_reducible apply LdAt.ps M.out.at5.all);exact zrts;rfl;refine zCT ?_))|(first|((with_reducible apply LdAt.c1 M.out.at6.all);exact zots;rfl;rfl)|((with_reducible apply LdAt.p1 M.out.at6.all);exact zrts;rfl;rfl)|((with_reducible apply LdAt.ps M.out.at6.all);exact zrts;rfl;refine zCT ?_))|(first|((with_reducible apply LdAt.c1 M.out.at7.all);exact zots;rfl;rfl)|((with_reducible apply LdAt.p1 M.out.at7.all);exact zrts;rfl;rfl)|((with_reducible apply LdAt.ps M.out.at7.all);exact zrts;rfl;refine zCT ?_))|(first|((with_reducible apply LdAt.c1 M.out.at8.all);exact zots;rfl;rfl)|((with_reducible apply LdAt.p1 M.out.at8.all);exact zrts;rfl;rfl)|((with_reducible apply LdAt.ps M.out.at8.all);exact zrts;rfl;refine zCT ?_))|(first|((with_reducible apply LdAt.c1 M.out.at9.all);exact zots;rfl;rfl)|((with_reducible apply LdAt.p1 M.out.at9.all);exact zrts;rfl;rfl)|((with_reducible apply LdAt.ps M.out.at9.all);exact zrts;rfl;refine zCT ?_))|(first|((with_reducible apply LdAt.c1 M.out.at10.all);exact zots;rfl;rfl)|((with_reducible apply LdAt.p1 M.out.at10.all);exact zrts;rfl;rfl)|((with_reducible apply LdAt.ps M.out.at10.all);exact zrts;rfl;refine zCT ?_)));skip));exact hh')):A:=hs h
theorem zQHd{A B X:Prop}(x:X)(h:B)(hs:X->B->A:=by(intro HX hh';(((with_reducible refine AbX ?_);((with_reducible apply Acp);rfl;rfl);(first|((with_reducible apply LdAt.c1e M.out.at0.all HX.out);exact zots;rfl;rfl)|((with_reducible apply LdAt.c1e M.out.at1.all HX.out);exact zots;rfl;rfl)|((with_reducible apply LdAt.c1e M.out.at2.all HX.out);exact zots;rfl;rfl)|((with_reducible apply LdAt.c1e M.out.at3.all HX.out);exact zots;rfl;rfl)|((with_reducible apply LdAt.c1e M.out.at4.all HX.out);exact zots;rfl;rfl)|((with_reducible apply LdAt.c1e M.out.at5.all HX.out);exact zots;rfl;rfl)|((with_reducible apply LdAt.c1e M.out.at6.all HX.out);exact zots;rfl;rfl));skip));exact hh')):A:=hs x h
theorem zQFd{A B X:Prop}(x:X)(h:B)(hs:X->B->A:=by(intro HX hh';(((with_reducible refine AbX ?_);((with_reducible apply Acp);rfl;rfl);(first|((with_reducible apply LdAt.rc1 (HX.out.all M.ok));exact zots;rfl;rfl)|((with_reducible apply LdAt.rp1 (HX.out.all M.ok));exact zrts;rfl;rfl)|((with_reducible apply LdAt.rps (HX.out.all M.ok));exact zrts;rfl;refine zCT ?_)|((with_reducible apply LdAt.rc0 (HX.out.all M.ok));exact zots;rfl;rfl)|((with_reducible apply LdAt.rp0 (HX.out.all M.ok));exact zrts;rfl;rfl)|((with_reducible apply LdAt.rs0 (HX.out.all M.ok));exact zrts;rfl;refine zCT ?_));skip));exact hh')):A:=hs x h
def cellR:ResultVar->Bool
 |.cell _ _=>true
 |_=>false
structure Stop(p:Prop)(x:PLift p->Unit):Prop where
 out:p
theorem zsm{p:Prop}{x:PLift p->Unit}(h:p):Stop p x:=⟨h⟩
theorem AlQ{P:Program}{fn:Func}{R:Ending->World->Prop}{a:Act}{w:World}(h:Stop (bodyPost P fn R .ret a w) (fun _=>()))(hc:fn.results.toList.any cellR=true:=by rfl):bodyPost P fn R .ret a w:=h.out
theorem zNM{A B:Prop}(h:B)(hs:B->A:=by(intro hh';(simp only[Act.put,List.setIfInBounds_toArray,List.set_cons_succ,List.set_cons_zero]);exact hh')):A:=hs h
theorem zLAo{A B:Prop}(h:B)(hs:B->A:=by(intro hh';(first|(((with_reducible refine Aib ?_);first|((with_reducible apply Aas M.out.at0);rfl;rfl;rfl;exact zrts;rfl;rfl)|((with_reducible apply Aat M.out.at0);rfl;rfl;rfl;exact zots;rfl;rfl)|((with_reducible apply Aay M.out.at0);rfl;rfl;rfl;exact zrts;rfl;refine zCT ?_)|((with_reducible apply Aas M.out.at1);rfl;rfl;rfl;exact zrts;rfl;rfl)|((with_reducible apply Aat M.out.at1);rfl;rfl;rfl;exact zots;rfl;rfl)|((with_reducible apply Aay M.out.at1);rfl;rfl;rfl;exact zrts;rfl;refine zCT ?_)|((with_reducible apply Aas M.out.at2);rfl;rfl;rfl;exact zrts;rfl;rfl)|((with_reducible apply Aat M.out.at2);rfl;rfl;rfl;exact zots;rfl;rfl)|((with_reducible apply Aay M.out.at2);rfl;rfl;rfl;exact zrts;rfl;refine zCT ?_)|((with_reducible apply Aas M.out.at3);rfl;rfl;rfl;exact zrts;rfl;rfl)|((with_reducible apply Aat M.out.at3);rfl;rfl;rfl;exact zots;rfl;rfl)|((with_reducible apply Aay M.out.at3);rfl;rfl;rfl;exact zrts;rfl;refine zCT ?_)|((with_reducible apply Aas M.out.at4);rfl;rfl;rfl;exact zrts;rfl;rfl)|((with_reducible apply Aat M.out.at4);rfl;rfl;rfl;exact zots;rfl;rfl)|((with_reducible apply Aay M.out.at4);rfl;rfl;rfl;exact zrts;rfl;refine zCT ?_)|((with_reducible apply Aas M.out.at5);rfl;rfl;rfl;exact zrts;rfl;rfl)|((with_reducible apply Aat M.out.at5);rfl;rfl;rfl;exact zots;rfl;rfl)|((with_reducible apply Aay M.out.at5);rfl;rfl;rfl;exact zrts;rfl;refine zCT ?_)|((with_reducible apply Aas M.out.at6);rfl;rfl;rfl;exact zrts;rfl;rfl)|((with_reducible apply Aat M.out.at6);rfl;rfl;rfl;exact zots;rfl;rfl)|((with_reducible apply Aay M.out.at6);rfl;rfl;rfl;exact zrts;rfl;refine zCT ?_)|((with_reducible apply Aas M.out.at7);rfl;rfl;rfl;exact zrts;rfl;rfl)|((with_reducible apply Aat M.out.at7);rfl;rfl;rfl;exact zots;rfl;rfl)|((with_reducible apply Aay M.out.at7);rfl;rfl;rfl;exact zrts;rfl;refine zCT ?_)|((with_reducible apply Aas M.out.at8);rfl;rfl;rfl;exact zrts;rfl;rfl)|((with_reducible apply Aat M.out.at8);rfl;rfl;rfl;exact zots;rfl;rfl)|((with_reducible apply Aay M.out.at8);rfl;rfl;rfl;exact zrts;rfl;refine zCT ?_)|((with_reducible apply Aas M.out.at9);rfl;rfl;rfl;exact zrts;rfl;rfl)|((with_reducible apply Aat M.out.at9);rfl;rfl;rfl;exact zots;rfl;rfl)|((with_reducible apply Aay M.out.at9);rfl;rfl;rfl;exact zrts;rfl;refine zCT ?_)|((with_reducible apply Aas M.out.at10);rfl;rfl;rfl;exact zrts;rfl;rfl)|((with_reducible apply Aat M.out.at10);rfl;rfl;rfl;exact zots;rfl;rfl)|((with_reducible apply Aay M.out.at10);rfl;rfl;rfl;exact zrts;rfl;refine zCT ?_)|((with_reducible apply Aas M.out.at11);rfl;rfl;rfl;exact zrts;rfl;rfl)|((with_reducible apply Aat M.out.at11);rfl;rfl;rfl;exact zots;rfl;rfl)|((with_reducible apply Aay M.out.at11);rfl;rfl;rfl;exact zrts;rfl;refine zCT ?_)|((with_reducible apply Aas M.out.at12);rfl;rfl;rfl;exact zrts;rfl;rfl)|((with_reducible apply Aat M.out.at12);rfl;rfl;rfl;exact zots;rfl;rfl)|((with_reducible apply Aay M.out.at12);rfl;rfl;rfl;exact zrts;rfl;refine zCT ?_)))|(refine AlQ ?_));exact hh')):A:=hs h
theorem zRD{w:World}{g b:Nat}{P:List (List Value)}{ls:List Nat}(H:CL w g b P ls){A B:Prop}(h:B)(hs:CL w g b P ls->B->A:=by(intro HX hh';(first|((with_reducible apply Ae5 HX);rfl;rfl;rfl;exact zrts;rfl;rfl)|((with_reducible apply Ae6 HX);rfl;rfl;rfl;exact zots;rfl;rfl)|((with_reducible apply wpList_rds HX);rfl;rfl;rfl;exact zrts;rfl;refine zCT ?_)|((with_reducible apply wpList_rdp0 HX);rfl;rfl;rfl;exact zrts;rfl;rfl)|((with_reducible apply AeN HX);rfl;rfl;rfl;exact zots;rfl;rfl)|((with_reducible apply AeM HX);rfl;rfl;rfl;exact zrts;rfl;refine zCT ?_));exact hh')):A:=hs H h
theorem zLE{w:World}{g:Nat}{P:List (List Value)}{ls:List Nat}(H:HL w g P ls){v v':Value}(e:v=v'){A B:Prop}(h:B)(hs:HL w g P ls->v=v'->B->A:=by(intro HX HY hh';(((with_reducible apply Aao HX HY);rfl;rfl;rfl;exact zots;rfl;rfl));exact hh')):A:=hs H e h
theorem zLHo{A B X:Prop}(x:X)(h:B)(hs:X->B->A:=by(intro HX hh';(((with_reducible refine Aib ?_);first|((with_reducible apply Aao M.out.at0 HX.out);rfl;rfl;rfl;exact zots;rfl;rfl)|((with_reducible apply Aao M.out.at1 HX.out);rfl;rfl;rfl;exact zots;rfl;rfl)|((with_reducible apply Aao M.out.at2 HX.out);rfl;rfl;rfl;exact zots;rfl;rfl)|((with_reducible apply Aao M.out.at3 HX.out);rfl;rfl;rfl;exact zots;rfl;rfl)|((with_reducible apply Aao M.out.at4 HX.out);rfl;rfl;rfl;exact zots;rfl;rfl)|((with_reducible apply Aao M.out.at5 HX.out);rfl;rfl;rfl;exact zots;rfl;rfl)|((with_reducible apply Aao M.out.at6 HX.out);rfl;rfl;rfl;exact zots;rfl;rfl)|((with_reducible apply Aao M.out.at7 HX.out);rfl;rfl;rfl;exact zots;rfl;rfl)|((with_reducible apply Aao M.out.at8 HX.out);rfl;rfl;rfl;exact zots;rfl;rfl)|((with_reducible apply Aao M.out.at9 HX.out);rfl;rfl;rfl;exact zots;rfl;rfl)|((with_reducible apply Aao M.out.at10 HX.out);rfl;rfl;rfl;exact zots;rfl;rfl)|((with_reducible apply Aao M.out.at11 HX.out);rfl;rfl;rfl;exact zots;rfl;rfl)|((with_reducible apply Aao M.out.at12 HX.out);rfl;rfl;rfl;exact zots;rfl;rfl)));exact hh')):A:=hs x h
theorem zRFo{A B X:Prop}(x:X)(h:B)(hs:X->B->A:=by(intro HX hh';(((with_reducible refine Aib ?_);first|((with_reducible apply Ae5 (HX.out.cl M.ok));rfl;rfl;rfl;exact zrts;rfl;rfl)|((with_reducible apply Ae6 (HX.out.cl M.ok));rfl;rfl;rfl;exact zots;rfl;rfl)|((with_reducible apply wpList_rds (HX.out.cl M.ok));rfl;rfl;rfl;exact zrts;rfl;refine zCT ?_)|((with_reducible apply wpList_rdp0 (HX.out.cl M.ok));rfl;rfl;rfl;exact zrts;rfl;rfl)|((with_reducible apply AeN (HX.out.cl M.ok));rfl;rfl;rfl;exact zots;rfl;rfl)|((with_reducible apply AeM (HX.out.cl M.ok));rfl;rfl;rfl;exact zrts;rfl;refine zCT ?_)));exact hh')):A:=hs x h
theorem zLDo{A B X:Prop}(x:X)(h:B)(hs:X->B->A:=by(intro HX hh';((first|((with_reducible apply Aas HX);rfl;rfl;rfl;exact zrts;rfl;rfl)|((with_reducible apply Aat HX);rfl;rfl;rfl;exact zots;rfl;rfl)|((with_reducible apply Aay HX);rfl;rfl;rfl;exact zrts;rfl;refine zCT ?_)));exact hh')):A:=hs x h
theorem zM0{A B:Prop}(h:B)(hs:B->A:=by(intro hh';(first|(with_reducible refine wpQuiet_nil ?_)|go_big_quiet_skip);exact hh')):A:=hs h
theorem zMRo{A B:Prop}(h:B)(hs:B->A:=by(intro hh';((repeat(first|(with_reducible refine wpQuiet_nil ?_)|(first|go_big_quiet_skip|(go_big_quiet_want;first|(first|fail|((with_reducible refine AbX ?_);first|((with_reducible apply AaP M.out.at0.cls M.out.at0.len);rfl;rfl;exact zrts;rfl;rfl;go_big_quiet_on;(simp only[Act.put,List.setIfInBounds_toArray,List.set_cons_succ,List.set_cons_zero]))|((with_reducible apply AaN M.out.at0.cls);rfl;rfl;exact zots;rfl;rfl;go_big_quiet_on;(simp only[Act.put,List.setIfInBounds_toArray,List.set_cons_succ,List.set_cons_zero]))|((with_reducible apply AaM M.out.at0.cls M.out.at0.len);rfl;rfl;exact zrts;rfl;refine zCT ?_;go_big_quiet_on;(simp only[Act.put,List.setIfInBounds_toArray,List.set_cons_succ,List.set_cons_zero]))|((with_reducible apply AaP M.out.at1.cls M.out.at1.len);rfl;rfl;exact zrts;rfl;rfl;go_big_quiet_on;(simp only[Act.put,List.setIfInBounds_toArray,List.set_cons_succ,List.set_cons_zero]))|((with_reducible apply AaN M.out.at1.cls);rfl;rfl;exact zots;rfl;rfl;go_big_quiet_on;(simp only[Act.put,List.setIfInBounds_toArray,List.set_cons_succ,List.set_cons_zero]))|((with_reducible apply AaM M.out.at1.cls M.out.at1.len);rfl;rfl;exact zrts;rfl;refine zCT ?_;go_big_quiet_on;(simp only[Act.put,List.setIfInBounds_toArray,List.set_cons_succ,List.set_cons_zero]))|((with_reducible apply AaP M.out.at2.cls M.out.at2.len);rfl;rfl;exact zrts;rfl;rfl;go_big_quiet_on;(simp only[Act.put,List.setIfInBounds_toArray,List.set_cons_succ,List.set_cons_zero]))|((with_reducible apply AaN M.out.at2.cls);rfl;rfl;exact zots;rfl;rfl;go_big_quiet_on;(simp only[Act.put,List.setIfInBounds_toArray,List.set_cons_succ,List.set_cons_zero]))|((with_reducible apply AaM M.out.at2.cls M.out.at2.len);rfl;rfl;exact zrts;rfl;refine zCT ?_;go_big_quiet_on;(simp only[Act.put,List.setIfInBounds_toArray,List.set_cons_succ,List.set_cons_zero]))|((with_reducible apply AaP M.out.at3.cls M.out.at3.len);rfl;rfl;exact zrts;rfl;rfl;go_big_quiet_on;(simp only[Act.put,List.setIfInBounds_toArray,List.set_cons_succ,List.set_cons_zero]))|((with_reducible apply AaN M.out.at3.cls);rfl;rfl;exact zots;rfl;rfl;go_big_quiet_on;(simp only[Act.put,List.setIfInBounds_toArray,List.set_cons_succ,List.set_cons_zero]))|((with_reducible apply AaM M.out.at3.cls M.out.at3.len);rfl;rfl;exact zrts;rfl;refine zCT ?_;go_big_quiet_on;(simp only[Act.put,List.setIfInBounds_toArray,List.set_cons_succ,List.set_cons_zero]))|((with_reducible apply AaP M.out.at4.cls M.out.at4.len);rfl;rfl;exact zrts;rfl;rfl;go_big_quiet_on;(simp only[Act.put,List.setIfInBounds_toArray,List.set_cons_succ,List.set_cons_zero]))|((with_reducible apply AaN M.out.at4.cls);rfl;rfl;exact zots;rfl;rfl;go_big_quiet_on;(simp only[Act.put,List.setIfInBounds_toArray,List.set_cons_succ,List.set_cons_zero]))|((with_reducible apply AaM M.out.at4.cls M.out.at4.len);rfl;rfl;exact zrts;rfl;refine zCT ?_;go_big_quiet_on;(simp only[Act.put,List.setIfInBounds_toArray,List.set_cons_succ,List.set_cons_zero]))|((with_reducible apply AaP M.out.at5.cls M.out.at5.len);rfl;rfl;exact zrts;rfl;rfl;go_big_quiet_on;(simp only[Act.put,List.setIfInBounds_toArray,List.set_cons_succ,List.set_cons_zero]))|((with_reducible apply AaN M.out.at5.cls);rfl;rfl;exact zots;rfl;rfl;go_big_quiet_on;(simp only[Act.put,List.setIfInBounds_toArray,List.set_cons_succ,List.set_cons_zero]))|((with_reducible apply AaM M.out.at5.cls M.out.at5.len);rfl;rfl;exact zrts;rfl;refine zCT ?_;go_big_quiet_on;(simp only[Act.put,List.setIfInBounds_toArray,List.set_cons_succ,List.set_cons_zero]))|((with_reducible apply AaP M.out.at6.cls M.out.at6.len);rfl;rfl;exact zrts;rfl;rfl;go_big_quiet_on;(simp only[Act.put,List.setIfInBounds_toArray,List.set_cons_succ,List.set_cons_zero]))|((with_reducible apply AaN M.out.at6.cls);rfl;rfl;exact zots;rfl;rfl;go_big_quiet_on;(simp only[Act.put,List.setIfInBounds_toArray,List.set_cons_succ,List.set_cons_zero]))|((with_reducible apply AaM M.out.at6.cls M.out.at6.len);rfl;rfl;exact zrts;rfl;refine zCT ?_;go_big_quiet_on;(simp only[Act.put,List.setIfInBounds_toArray,List.set_cons_succ,List.set_cons_zero]))|((with_reducible apply AaP M.out.at7.cls M.out.at7.len);rfl;rfl;exact zrts;rfl;rfl;go_big_quiet_on;(simp only[Act.put,List.setIfInBounds_toArray,List.set_cons_succ,List.set_cons_zero]))|((with_reducible apply AaN M.out.at7.cls);rfl;rfl;exact zots;rfl;rfl;go_big_quiet_on;(simp only[Act.put,List.setIfInBounds_toArray,List.set_cons_succ,List.set_cons_zero]))|((with_reducible apply AaM M.out.at7.cls M.out.at7.len);rfl;rfl;exact zrts;rfl;refine zCT ?_;go_big_quiet_on;(simp only[Act.put,List.setIfInBounds_toArray,List.set_cons_succ,List.set_cons_zero]))|((with_reducible apply AaP M.out.at8.cls M.out.at8.len);rfl;rfl;exact zrts;rfl;rfl;go_big_quiet_on;(simp only[Act.put,List.setIfInBounds_toArray,List.set_cons_succ,List.set_cons_zero]))|((with_reducible apply AaN M.out.at8.cls);rfl;rfl;exact zots;rfl;rfl;go_big_quiet_on;(simp only[Act.put,List.setIfInBounds_toArray,List.set_cons_succ,List.set_cons_zero]))|((with_reducible apply AaM M.out.at8.cls M.out.at8.len);rfl;rfl;exact zrts;rfl;refine zCT ?_;go_big_quiet_on;(simp only[Act.put,List.setIfInBounds_toArray,List.set_cons_succ,List.set_cons_zero]))|((with_reducible apply AaP M.out.at9.cls M.out.at9.len);rfl;rfl;exact zrts;rfl;rfl;go_big_quiet_on;(simp only[Act.put,List.setIfInBounds_toArray,List.set_cons_succ,List.set_cons_zero]))|((with_reducible apply AaN M.out.at9.cls);rfl;rfl;exact zots;rfl;rfl;go_big_quiet_on;(simp only[Act.put,List.setIfInBounds_toArray,List.set_cons_succ,List.set_cons_zero]))|((with_reducible apply AaM M.out.at9.cls M.out.at9.len);rfl;rfl;exact zrts;rfl;refine zCT ?_;go_big_quiet_on;(simp only[Act.put,List.setIfInBounds_toArray,List.set_cons_succ,List.set_cons_zero]))|((with_reducible apply AaP M.out.at10.cls M.out.at10.len);rfl;rfl;exact zrts;rfl;rfl;go_big_quiet_on;(simp only[Act.put,List.setIfInBounds_toArray,List.set_cons_succ,List.set_cons_zero]))|((with_reducible apply AaN M.out.at10.cls);rfl;rfl;exact zots;rfl;rfl;go_big_quiet_on;(simp only[Act.put,List.setIfInBounds_toArray,List.set_cons_succ,List.set_cons_zero]))|((with_reducible apply AaM M.out.at10.cls M.out.at10.len);rfl;rfl;exact zrts;rfl;refine zCT ?_;go_big_quiet_on;(simp only[Act.put,List.setIfInBounds_toArray,List.set_cons_succ,List.set_cons_zero]))|((with_reducible apply AaP M.out.at11.cls M.out.at11.len);rfl;rfl;exact zrts;rfl;rfl;go_big_quiet_on;(simp only[Act.put,List.setIfInBounds_toArray,List.set_cons_succ,List.set_cons_zero]))|((with_reducible apply AaN M.out.at11.cls);rfl;rfl;exact zots;rfl;rfl;go_big_quiet_on;(simp only[Act.put,List.setIfInBounds_toArray,List.set_cons_succ,List.set_cons_zero]))|((with_reducible apply AaM M.out.at11.cls M.out.at11.len);rfl;rfl;exact zrts;rfl;refine zCT ?_;go_big_quiet_on;(simp only[Act.put,List.setIfInBounds_toArray,List.set_cons_succ,List.set_cons_zero]))|((with_reducible apply AaP M.out.at12.cls M.out.at12.len);rfl;rfl;exact zrts;rfl;rfl;go_big_quiet_on;(simp only[Act.put,List.setIfInBounds_toArray,List.set_cons_succ,List.set_cons_zero]))|((with_reducible apply AaN M.out.at12.cls);rfl;rfl;exact zots;rfl;rfl;go_big_quiet_on;(simp only[Act.put,List.setIfInBounds_toArray,List.set_cons_succ,List.set_cons_zero]))|((with_reducible apply AaM M.out.at12.cls M.out.at12.len);rfl;rfl;exact zrts;rfl;refine zCT ?_;go_big_quiet_on;(simp only[Act.put,List.setIfInBounds_toArray,List.set_cons_succ,List.set_cons_zero]))))|(go_big_quiet_op;first|go_big_quiet_on|((with_reducible refine⟨_,fun _ _=>rfl,?_⟩);go_big_quiet_on)))))));exact hh')):A:=hs h
theorem zMR7{A B:Prop}(h:B)(hs:B->A:=by(intro hh';((repeat(first|(with_reducible refine wpQuiet_nil ?_)|(first|go_big_quiet_skip|(go_big_quiet_want;first|(first|fail)|(go_big_quiet_op;first|go_big_quiet_on|((with_reducible refine⟨_,fun _ _=>rfl,?_⟩);go_big_quiet_on)))))));exact hh')):A:=hs h
theorem zRG{A B:Prop}(h:B)(hs:B->A:=by(intro hh';(refine AdR M.out (by kernel_rfl) (by kernel_rfl) ?_;try simp only[Act.put,List.setIfInBounds_toArray,List.set_cons_succ,List.set_cons_zero]);exact hh')):A:=hs h
theorem zBXo{A:Prop}{T B:World->Nat->Prop}(h:∀w g,T w g->B w g)(hs:(∀w g,T w g->B w g)->A:=by(intro hh';(((with_reducible refine Am1 ?_);first|((with_reducible apply Ac2 M.out);rfl;rfl;rfl;exact AmX;intro w' g M' hb';(have M:=bx M';clear M');clear hb')|((with_reducible apply wpList_box1 M.out);rfl;rfl;rfl;rfl;intro w' g M' hb';(have M:=bx M';clear M');clear hb')));exact hh' w' g M)):A:=hs h
theorem zBYo{A X:Prop}{T B:World->Nat->Prop}(x:X)(h:∀w g,T w g->B w g)(hs:X->(∀w g,T w g->B w g)->A:=by(intro HX hh';(((with_reducible apply Ac2 M.out);rfl;rfl;rfl;exact HX;intro w' g M' hb';(have M:=bx M';clear M');clear hb'));exact hh' w' g M)):A:=hs x h
theorem zALo{A X:Prop}{T B:World->Nat->Prop}(x:X)(h:∀w g,T w g->B w g)(hs:X->(∀w g,T w g->B w g)->A:=by(intro HX hh';(((with_reducible apply Ae8 M.out);rfl;rfl;exact HX;intro w' g M' hb';(have M:=bx M';clear M');clear hb'));exact hh' w' g M)):A:=hs x h
theorem zQN{A:Prop}{T B:World->Prop}(h:∀w,T w->B w)(hs:(∀w,T w->B w)->A:=by(intro hh';(refine wpQuiet_nil ?_;intro w4 hw4;have M':=M.out.below hw4.out;(have M:=bx M';clear M');clear hw4);exact hh' w4 M)):A:=hs h
theorem zQXo{A:Prop}{T B:World->Prop}(h:∀w,T w->B w)(hs:(∀w,T w->B w)->A:=by(intro hh';((refine AdR M.out (by kernel_rfl) (by kernel_rfl) ?_;try simp only[Act.put,List.setIfInBounds_toArray,List.set_cons_succ,List.set_cons_zero]);(repeat(first|go_big_quiet_skip|(go_big_quiet_want;first|(first|fail|((with_reducible refine AbX ?_);first|((with_reducible apply AaP M.out.at0.cls M.out.at0.len);rfl;rfl;exact zrts;rfl;rfl;go_big_quiet_on;(simp only[Act.put,List.setIfInBounds_toArray,List.set_cons_succ,List.set_cons_zero]))|((with_reducible apply AaN M.out.at0.cls);rfl;rfl;exact zots;rfl;rfl;go_big_quiet_on;(simp only[Act.put,List.setIfInBounds_toArray,List.set_cons_succ,List.set_cons_zero]))|((with_reducible apply AaM M.out.at0.cls M.out.at0.len);rfl;rfl;exact zrts;rfl;refine zCT ?_;go_big_quiet_on;(simp only[Act.put,List.setIfInBounds_toArray,List.set_cons_succ,List.set_cons_zero]))|((with_reducible apply AaP M.out.at1.cls M.out.at1.len);rfl;rfl;exact zrts;rfl;rfl;go_big_quiet_on;(simp only[Act.put,List.setIfInBounds_toArray,List.set_cons_succ,List.set_cons_zero]))|((with_reducible apply AaN M.out.at1.cls);rfl;rfl;exact zots;rfl;rfl;go_big_quiet_on;(simp only[Act.put,List.setIfInBounds_toArray,List.set_cons_succ,List.set_cons_zero]))|((with_reducible apply AaM M.out.at1.cls M.out.at1.len);rfl;rfl;exact zrts;rfl;refine zCT ?_;go_big_quiet_on;(simp only[Act.put,List.setIfInBounds_toArray,List.set_cons_succ,List.set_cons_zero]))|((with_reducible apply AaP M.out.at2.cls M.out.at2.len);rfl;rfl;exact zrts;rfl;rfl;go_big_quiet_on;(simp only[Act.put,List.setIfInBounds_toArray,List.set_cons_succ,List.set_cons_zero]))|((with_reducible apply AaN M.out.at2.cls);rfl;rfl;exact zots;rfl;rfl;go_big_quiet_on;(simp only[Act.put,List.setIfInBounds_toArray,List.set_cons_succ,List.set_cons_zero]))|((with_reducible apply AaM M.out.at2.cls M.out.at2.len);rfl;rfl;exact zrts;rfl;refine zCT ?_;go_big_quiet_on;(simp only[Act.put,List.setIfInBounds_toArray,List.set_cons_succ,List.set_cons_zero]))|((with_reducible apply AaP M.out.at3.cls M.out.at3.len);rfl;rfl;exact zrts;rfl;rfl;go_big_quiet_on;(simp only[Act.put,List.setIfInBounds_toArray,List.set_cons_succ,List.set_cons_zero]))|((with_reducible apply AaN M.out.at3.cls);rfl;rfl;exact zots;rfl;rfl;go_big_quiet_on;(simp only[Act.put,List.setIfInBounds_toArray,List.set_cons_succ,List.set_cons_zero]))|((with_reducible apply AaM M.out.at3.cls M.out.at3.len);rfl;rfl;exact zrts;rfl;refine zCT ?_;go_big_quiet_on;(simp only[Act.put,List.setIfInBounds_toArray,List.set_cons_succ,List.set_cons_zero]))|((with_reducible apply AaP M.out.at4.cls M.out.at4.len);rfl;rfl;exact zrts;rfl;rfl;go_big_quiet_on;(simp only[Act.put,List.setIfInBounds_toArray,List.set_cons_succ,List.set_cons_zero]))|((with_reducible apply AaN M.out.at4.cls);rfl;rfl;exact zots;rfl;rfl;go_big_quiet_on;(simp only[Act.put,List.setIfInBounds_toArray,List.set_cons_succ,List.set_cons_zero]))|((with_reducible apply AaM M.out.at4.cls M.out.at4.len);rfl;rfl;exact zrts;rfl;refine zCT ?_;go_big_quiet_on;(simp only[Act.put,List.setIfInBounds_toArray,List.set_cons_succ,List.set_cons_zero]))|((with_reducible apply AaP M.out.at5.cls M.out.at5.len);rfl;rfl;exact zrts;rfl;rfl;go_big_quiet_on;(simp only[Act.put,List.setIfInBounds_toArray,List.set_cons_succ,List.set_cons_zero]))|((with_reducible apply AaN M.out.at5.cls);rfl;rfl;exact zots;rfl;rfl;go_big_quiet_on;(simp only[Act.put,List.setIfInBounds_toArray,List.set_cons_succ,List.set_cons_zero]))|((with_reducible apply AaM M.out.at5.cls M.out.at5.len);rfl;rfl;exact zrts;rfl;refine zCT ?_;go_big_quiet_on;(simp only[Act.put,List.setIfInBounds_toArray,List.set_cons_succ,List.set_cons_zero]))|((with_reducible apply AaP M.out.at6.cls M.out.at6.len);rfl;rfl;exact zrts;rfl;rfl;go_big_quiet_on;(simp only[Act.put,List.setIfInBounds_toArray,List.set_cons_succ,List.set_cons_zero]))|((with_reducible apply AaN M.out.at6.cls);rfl;rfl;exact zots;rfl;rfl;go_big_quiet_on;(simp only[Act.put,List.setIfInBounds_toArray,List.set_cons_succ,List.set_cons_zero]))|((with_reducible apply AaM M.out.at6.cls M.out.at6.len);rfl;rfl;exact zrts;rfl;refine zCT ?_;go_big_quiet_on;(simp only[Act.put,List.setIfInBounds_toArray,List.set_cons_succ,List.set_cons_zero]))|((with_reducible apply AaP M.out.at7.cls M.out.at7.len);rfl;rfl;exact zrts;rfl;rfl;go_big_quiet_on;(simp only[Act.put,List.setIfInBounds_toArray,List.set_cons_succ,List.set_cons_zero]))|((with_reducible apply AaN M.out.at7.cls);rfl;rfl;exact zots;rfl;rfl;go_big_quiet_on;(simp only[Act.put,List.setIfInBounds_toArray,List.set_cons_succ,List.set_cons_zero]))|((with_reducible apply AaM M.out.at7.cls M.out.at7.len);rfl;rfl;exact zrts;rfl;refine zCT ?_;go_big_quiet_on;(simp only[Act.put,List.setIfInBounds_toArray,List.set_cons_succ,List.set_cons_zero]))|((with_reducible apply AaP M.out.at8.cls M.out.at8.len);rfl;rfl;exact zrts;rfl;rfl;go_big_quiet_on;(simp only[Act.put,List.setIfInBounds_toArray,List.set_cons_succ,List.set_cons_zero]))|((with_reducible apply AaN M.out.at8.cls);rfl;rfl;exact zots;rfl;rfl;go_big_quiet_on;(simp only[Act.put,List.setIfInBounds_toArray,List.set_cons_succ,List.set_cons_zero]))|((with_reducible apply AaM M.out.at8.cls M.out.at8.len);rfl;rfl;exact zrts;rfl;refine zCT ?_;go_big_quiet_on;(simp only[Act.put,List.setIfInBounds_toArray,List.set_cons_succ,List.set_cons_zero]))|((with_reducible apply AaP M.out.at9.cls M.out.at9.len);rfl;rfl;exact zrts;rfl;rfl;go_big_quiet_on;(simp only[Act.put,List.setIfInBounds_toArray,List.set_cons_succ,List.set_cons_zero]))|((with_reducible apply AaN M.out.at9.cls);rfl;rfl;exact zots;rfl;rfl;go_big_quiet_on;(simp only[Act.put,List.setIfInBounds_toArray,List.set_cons_succ,List.set_cons_zero]))|((with_reducible apply AaM M.out.at9.cls M.out.at9.len);rfl;rfl;exact zrts;rfl;refine zCT ?_;go_big_quiet_on;(simp only[Act.put,List.setIfInBounds_toArray,List.set_cons_succ,List.set_cons_zero]))|((with_reducible apply AaP M.out.at10.cls M.out.at10.len);rfl;rfl;exact zrts;rfl;rfl;go_big_quiet_on;(simp only[Act.put,List.setIfInBounds_toArray,List.set_cons_succ,List.set_cons_zero]))|((with_reducible apply AaN M.out.at10.cls);rfl;rfl;exact zots;rfl;rfl;go_big_quiet_on;(simp only[Act.put,List.setIfInBounds_toArray,List.set_cons_succ,List.set_cons_zero]))|((with_reducible apply AaM M.out.at10.cls M.out.at10.len);rfl;rfl;exact zrts;rfl;refine zCT ?_;go_big_quiet_on;(simp only[Act.put,List.setIfInBounds_toArray,List.set_cons_succ,List.set_cons_zero]))|((with_reducible apply AaP M.out.at11.cls M.out.at11.len);rfl;rfl;exact zrts;rfl;rfl;go_big_quiet_on;(simp only[Act.put,List.setIfInBounds_toArray,List.set_cons_succ,List.set_cons_zero]))|((with_reducible apply AaN M.out.at11.cls);rfl;rfl;exact zots;rfl;rfl;go_big_quiet_on;(simp only[Act.put,List.setIfInBounds_toArray,List.set_cons_succ,List.set_cons_zero]))|((with_reducible apply AaM M.out.at11.cls M.out.at11.len);rfl;rfl;exact zrts;rfl;refine zCT ?_;go_big_quiet_on;(simp only[Act.put,List.setIfInBounds_toArray,List.set_cons_succ,List.set_cons_zero]))|((with_reducible apply AaP M.out.at12.cls M.out.at12.len);rfl;rfl;exact zrts;rfl;rfl;go_big_quiet_on;(simp only[Act.put,List.setIfInBounds_toArray,List.set_cons_succ,List.set_cons_zero]))|((with_reducible apply AaN M.out.at12.cls);rfl;rfl;exact zots;rfl;rfl;go_big_quiet_on;(simp only[Act.put,List.setIfInBounds_toArray,List.set_cons_succ,List.set_cons_zero]))|((with_reducible apply AaM M.out.at12.cls M.out.at12.len);rfl;rfl;exact zrts;rfl;refine zCT ?_;go_big_quiet_on;(simp only[Act.put,List.setIfInBounds_toArray,List.set_cons_succ,List.set_cons_zero]))))|(go_big_quiet_op;first|go_big_quiet_on|((with_reducible refine⟨_,fun _ _=>rfl,?_⟩);go_big_quiet_on)))));refine wpQuiet_nil ?_;intro w4 hw4;have M':=M.out.below hw4.out;(have M:=bx M';clear M');clear hw4);exact hh' w4 M)):A:=hs h
theorem zR{P:Program}{fn:Func}{R:Ending->World->Prop}{a:Act}{w:World}{x:PLift (bodyPost P fn R .ret a w)->Unit}{p:Tmp}{ty:TypeId}{g n:Nat}{Pp:List (List Value)}{ls:List Nat}(H:HL w g Pp ls)(h:R (.returned (.agg (fl Pp).toArray)) w)
  (h1:fn.results = #[.cell p ty]:=by rfl) (hp:a.tmps.getD p undef=.pointer (some ⟨g,0,none⟩):=by rfl) (rt:RowT P ty n:=by exact zrts) (hn:ls.sum=n:=by rfl) (hd:a.defers = []:=by rfl):Stop (bodyPost P fn R .ret a w) x:=⟨bodyPost_ret (AeS h1 _ H hp rt hn) hd h⟩
theorem zRb{P:Program}{fn:Func}{R:Ending->World->Prop}{a:Act}{w:World}{p:Tmp}{ty:TypeId}{g n:Nat}{Pp:List (List Value)}{ls:List Nat}(H:HL w g Pp ls)(h:R (.returned (.agg (fl Pp).toArray)) w)
  (h1:fn.results = #[.cell p ty]:=by rfl) (hp:a.tmps.getD p undef=.pointer (some ⟨g,0,none⟩):=by rfl) (rt:RowT P ty n:=by exact zrts) (hn:ls.sum=n:=by rfl) (hd:a.defers = []:=by rfl):bodyPost P fn R .ret a w:=bodyPost_ret (AeS h1 _ H hp rt hn) hd h
theorem zRt{P:Program}{fn:Func}{R:Ending->World->Prop}{a:Act}{w:World}{x:PLift (bodyPost P fn R .ret a w)->Unit}{p q:Tmp}{ty:TypeId}{g n:Nat}{Pp:List (List Value)}{ls:List Nat}{v:Value}(H:HL w g Pp ls)(h:R (.returned (.tuple #[.agg (fl Pp).toArray,v])) w)
  (h1:fn.results = #[.cell p ty,.tmp q]:=by rfl) (hv:a.tmps.getD q undef=v:=by rfl) (hp:a.tmps.getD p undef=.pointer (some ⟨g,0,none⟩):=by rfl) (rt:RowT P ty n:=by exact zrts) (hn:ls.sum=n:=by rfl) (hd:a.defers = []:=by rfl):Stop (bodyPost P fn R .ret a w) x:=⟨bodyPost_ret (AaR h1 _ H hp rt hn) hd (by rw[hv];exact h)⟩
section
variable {Γ0 Γ:Gam}{w0 w:World}{L L':List Ent}{R:List RowE}{Pg:Program}{ops:Array Oper}{rest:List Oper}{op:Oper}{a:Act}{Q:Exit->Act->World->Prop}
theorem zSSo{g:Nat}{P:List (List Value)}{ls lq:List Nat}(M:Bx (MM Γ0 w0 Γ w L R))(i:Nat)(Q' P':List (List Value))(hl:Q'.map List.length=lq)(h1:One (fl Q')){ty:TypeId}{x y:Operand}{o n k j:Nat}{B:World->Prop}(h:∀w',Bx (MM Γ0 w0 Γ w' L' R)->B w')
  (hi:L[i]? = some ⟨g,P,ls⟩:=by rfl) (ho:op.op=.store ty x y:=by rfl) (hgd:op.guard=none:=by rfl) (hx:a.eval x=.pointer (some ⟨g,o,none⟩):=by rfl) (hy:a.eval y=.agg (fl Q').toArray:=by rfl) (rt:RowT Pg ty n:=by exact zrts)
  (hf:findPart ls o n=some (k,j):=by rfl) (hQ:lq=(ls.drop k).take j:=by rfl) (hP:P.take k++Q'++P.drop (k+j)=P':=by rfl) (hL:L.set i ⟨g,P',ls⟩=L':=by(simp only[List.set_cons_zero,List.set_cons_succ];try rfl))
  (hB:∀w',B w'->wpList Pg ops Q rest (a.put op.dst undef) w':=by(intro w' hh';exact hh')):wpList Pg ops Q (op::rest) a w:=
 Ac0 M.out i Q' P' hi ho hgd hx hy rt hf (hl.trans hQ) h1 hP fun w' M' _=>hB w' (h w' ⟨hL▸M'⟩)
theorem zSSd{g:Nat}{P:List (List Value)}{ls lq:List Nat}(M:Bx (MM Γ0 w0 Γ w L R))(i:Nat)(Q' P':List (List Value))(hl:Q'.map List.length=lq)(h1:One (fl Q')){ty:TypeId}{x y:Operand}{o n k j:Nat}{B:World->Prop}(h:∀w',Bx (MM Γ0 w0 Γ w' L' R)->B w')
  (hi:L[i]? = some ⟨g,P,ls⟩:=by rfl) (ho:op.op=.store ty x y:=by rfl) (hgd:op.guard=none:=by rfl) (hx:a.eval x=.pointer (some ⟨g,o,none⟩):=by rfl) (hy:a.eval y=.agg (fl Q').toArray:=by rfl) (rt:RowT Pg ty n:=by exact zrts)
  (hf:findPart ls o n=some (k,j):=by rfl) (hQ:lq=(ls.drop k).take j:=by rfl) (hP:P.take k++Q'++P.drop (k+j)=P':=by rfl) (hL:L.set i ⟨g,P',ls⟩=L':=by(simp only[List.set_cons_zero,List.set_cons_succ];try rfl))
  (hB:∀w',B w'->wpList Pg ops Q rest (a.put op.dst undef) w':=by(intro w' hh';simp only[Act.put,List.setIfInBounds_toArray,List.set_cons_succ,List.set_cons_zero];exact hh')):wpList Pg ops Q (op::rest) a w:=
 Ac0 M.out i Q' P' hi ho hgd hx hy rt hf (hl.trans hQ) h1 hP fun w' M' _=>hB w' (h w' ⟨hL▸M'⟩)
theorem zS1o{g:Nat}{P:List (List Value)}{ls:List Nat}(M:Bx (MM Γ0 w0 Γ w L R))(i:Nat)(v:Value)(P':List (List Value)){ty:TypeId}{x y:Operand}{o k:Nat}{B:World->Prop}(h:∀w',Bx (MM Γ0 w0 Γ w' L' R)->B w')
  (hi:L[i]? = some ⟨g,P,ls⟩:=by rfl) (ho:op.op=.store ty x y:=by rfl) (hgd:op.guard=none:=by rfl) (hx:a.eval x=.pointer (some ⟨g,o,none⟩):=by rfl) (hy:a.eval y=v:=by rfl) (ot:OneT Pg ty:=by exact zots)
  (hf:findPart ls o 1=some (k,1):=by rfl) (hk:(ls.drop k).take 1 = [1]:=by rfl) (hv:v.oneCell'=true:=by rfl) (hc:v.cells = #[v]:=by rfl) (hP:P.take k ++ [[v]]++P.drop (k+1)=P':=by rfl) (hL:L.set i ⟨g,P',ls⟩=L':=by(simp only[List.set_cons_zero,List.set_cons_succ];try rfl))
  (hB:∀w',B w'->wpList Pg ops Q rest (a.put op.dst undef) w':=by(intro w' hh';exact hh')):wpList Pg ops Q (op::rest) a w:=
 Ae4 M.out i v P' hi ho hgd hx hy ot hf hk hv hc hP fun w' M' _=>hB w' (h w' ⟨hL▸M'⟩)
theorem zS1d{g:Nat}{P:List (List Value)}{ls:List Nat}(M:Bx (MM Γ0 w0 Γ w L R))(i:Nat)(v:Value)(P':List (List Value)){ty:TypeId}{x y:Operand}{o k:Nat}{B:World->Prop}(h:∀w',Bx (MM Γ0 w0 Γ w' L' R)->B w')
  (hi:L[i]? = some ⟨g,P,ls⟩:=by rfl) (ho:op.op=.store ty x y:=by rfl) (hgd:op.guard=none:=by rfl) (hx:a.eval x=.pointer (some ⟨g,o,none⟩):=by rfl) (hy:a.eval y=v:=by rfl) (ot:OneT Pg ty:=by exact zots)
  (hf:findPart ls o 1=some (k,1):=by rfl) (hk:(ls.drop k).take 1 = [1]:=by rfl) (hv:v.oneCell'=true:=by rfl) (hc:v.cells = #[v]:=by rfl) (hP:P.take k ++ [[v]]++P.drop (k+1)=P':=by rfl) (hL:L.set i ⟨g,P',ls⟩=L':=by(simp only[List.set_cons_zero,List.set_cons_succ];try rfl))
  (hB:∀w',B w'->wpList Pg ops Q rest (a.put op.dst undef) w':=by(intro w' hh';simp only[Act.put,List.setIfInBounds_toArray,List.set_cons_succ,List.set_cons_zero];exact hh')):wpList Pg ops Q (op::rest) a w:=
 Ae4 M.out i v P' hi ho hgd hx hy ot hf hk hv hc hP fun w' M' _=>hB w' (h w' ⟨hL▸M'⟩)
theorem zXS{g:Nat}{P:List (List Value)}{ls lq:List Nat}(M:Bx (MM Γ0 w0 Γ w L R))(i:Nat)(Q' P':List (List Value))(hl:Q'.map List.length=lq)(h1:One (fl Q')){opsA:Array Oper}{ts:Array Value}{K:Act->World->Prop}{E:Prop}{ty:TypeId}{x y:Operand}{o n k j:Nat}{B:World->Prop}(h:∀w',Bx (MM Γ0 w0 Γ w' L' R)->B w')
  (hi:L[i]? = some ⟨g,P,ls⟩:=by rfl) (ho:op.op=.store ty x y:=by rfl) (hx:a.eval x=.pointer (some ⟨g,o,none⟩):=by rfl) (hy:a.eval y=.agg (fl Q').toArray:=by rfl) (rt:RowT Pg ty n:=by exact zrts)
  (hf:findPart ls o n=some (k,j):=by rfl) (hQ:lq=(ls.drop k).take j:=by rfl) (hP:P.take k++Q'++P.drop (k+j)=P':=by rfl) (hw:Region.wanted op (yielded opsA ts)=true:=by rfl) (hL:L.set i ⟨g,P',ls⟩=L':=by(simp only[List.set_cons_zero,List.set_cons_succ];try rfl))
  (hB:∀w',B w'->K (a.put op.dst undef) w':=by(intro w' hh';simp only[Act.put,List.setIfInBounds_toArray,List.set_cons_succ,List.set_cons_zero];exact hh')):if Region.wanted op (yielded opsA ts)=true then op.wp Pg a w K Q else E:=
 AbE M.out i Q' P' hi ho hx hy rt hf (hl.trans hQ) h1 hP hw fun w' M'=>hB w' (h w' ⟨hL▸M'⟩)
theorem zX1{g:Nat}{P:List (List Value)}{ls:List Nat}(M:Bx (MM Γ0 w0 Γ w L R))(i:Nat)(v:Value)(P':List (List Value)){opsA:Array Oper}{ts:Array Value}{K:Act->World->Prop}{E:Prop}{ty:TypeId}{x y:Operand}{o k:Nat}{B:World->Prop}(h:∀w',Bx (MM Γ0 w0 Γ w' L' R)->B w')
  (hi:L[i]? = some ⟨g,P,ls⟩:=by rfl) (ho:op.op=.store ty x y:=by rfl) (hx:a.eval x=.pointer (some ⟨g,o,none⟩):=by rfl) (hy:a.eval y=v:=by rfl) (ot:OneT Pg ty:=by exact zots)
  (hf:findPart ls o 1=some (k,1):=by rfl) (hk:(ls.drop k).take 1 = [1]:=by rfl) (hv:v.oneCell'=true:=by rfl) (hc:v.cells = #[v]:=by rfl) (hP:P.take k ++ [[v]]++P.drop (k+1)=P':=by rfl) (hw:Region.wanted op (yielded opsA ts)=true:=by rfl) (hL:L.set i ⟨g,P',ls⟩=L':=by(simp only[List.set_cons_zero,List.set_cons_succ];try rfl))
  (hB:∀w',B w'->K (a.put op.dst undef) w':=by(intro w' hh';simp only[Act.put,List.setIfInBounds_toArray,List.set_cons_succ,List.set_cons_zero];exact hh')):if Region.wanted op (yielded opsA ts)=true then op.wp Pg a w K Q else E:=
 AbL M.out i v P' hi ho hx hy ot hf hk hv hc hP hw fun w' M'=>hB w' (h w' ⟨hL▸M'⟩)
theorem zBDo(t:TypeId)(ps:List (Nat × Value))(cells:List Value)(hb:Pg.built t ps=some cells.toArray){parts:Array (Nat × Operand)}{B:Prop}(h:B)(hgd:Region.wanted op (yielded ops a.tmps)=true:=by rfl)(ho:op.op=.build t parts:=by rfl)
  (hps:parts.toList.map (fun x=>(x.1,a.eval x.2))=ps:=by rfl) (hB:B->wpList Pg ops Q rest (a.put op.dst (.agg cells.toArray)) w:=by(intro hh';exact hh')):wpList Pg ops Q (op::rest) a w:=Ab9 hgd t parts ho ps cells hps hb (hB h)
theorem zBDd(t:TypeId)(ps:List (Nat × Value))(cells:List Value)(hb:Pg.built t ps=some cells.toArray){parts:Array (Nat × Operand)}{B:Prop}(h:B)(hgd:Region.wanted op (yielded ops a.tmps)=true:=by rfl)(ho:op.op=.build t parts:=by rfl)
  (hps:parts.toList.map (fun x=>(x.1,a.eval x.2))=ps:=by rfl) (hB:B->wpList Pg ops Q rest (a.put op.dst (.agg cells.toArray)) w:=by(intro hh';simp only[Act.put,List.setIfInBounds_toArray,List.set_cons_succ,List.set_cons_zero];exact hh')):wpList Pg ops Q (op::rest) a w:=Ab9 hgd t parts ho ps cells hps hb (hB h)
theorem zQC {C : World -> Prop} {K : Act -> Prop} {f : FuncId} {fn : Func} {args : Array Value} {v : Value} (hc : ∀ w', C w' -> Calls Pg f args w' fun e w'' => e = .returned v /\ C w'') (hf : Pg.funcs[f]? = some fn) {xs : Array Operand} {ts : Array TypeId} (h : K (a.put op.dst v)) (hn : (fn.name == "runtime.NumGoroutine") = false := by rfl) (hb : fn.body.isNone = false := by rfl)
  (ho:op.op=.call {callee:=.value (.func f),args:=xs,argTypes:=ts}:=by rfl) (hargs0:xs.toList.map a.eval=args.toList:=by rfl):op.quiet Pg a C K:=AiX hc hf hn hb ho hargs0 h
theorem zMC {ts : Array Value} {K : Act -> World -> Prop} {E : Prop} {f : FuncId} {fn : Func} {args : Array Value} {Post : Ending -> World -> Prop} (hc : Calls Pg f args w Post) (hf : Pg.funcs[f]? = some fn) {xs : Array Operand} {tt : Array TypeId} (hk : ∀ e w', Post e w' -> ∃ v, e = .returned v /\ K (a.put op.dst v) w') (hn : (fn.name == "runtime.NumGoroutine") = false := by rfl) (hb : fn.body.isNone = false := by rfl)
  (ho:op.op=.call {callee:=.value (.func f),args:=xs,argTypes:=tt}:=by rfl) (hargs0:xs.toList.map a.eval=args.toList:=by rfl) (hw:Region.wanted op (yielded ops ts)=true:=by rfl):if Region.wanted op (yielded ops ts)=true then op.wp Pg a w K Q else E:=AgR hc hf hn hb xs tt ho hargs0 hw hk
theorem zCA{f:FuncId}{args:Array Value}{v:Ending}{Q:Ending->World->Prop}(M:Bx (MM Γ0 w0 Γ w L R))(hc:Calls Pg f args w fun e w'=>e=v/\Ext Γ w Γ w')(h:∀w',Bx (MM Γ0 w0 Γ w' L R)->Q v w'):Calls Pg f args w Q:=
 hc.mono fun _ w' ⟨e,hx⟩=>e▸h w' ⟨M.out.call hx⟩
theorem zCB{f:FuncId}{args:Array Value}{v:Ending}{Q:Ending->World->Prop}(M:Bx (MM Γ0 w0 Γ w L R))(hc:Calls Pg f args w fun e w'=>e=v/\Below w.heap.size w w')(h:∀w',Bx (MM Γ0 w0 Γ w' L R)->Q v w'):Calls Pg f args w Q:=
 hc.mono fun _ w' ⟨e,hx⟩=>e▸h w' ⟨M.out.below hx⟩
theorem zH8{B:World->Prop}(M:Bx (MM Γ0 w0 Γ w L R))(h:∀w',Bx (MM Γ0 w0 Γ w' L R)->B w'):∀w',Cls w.heap.size w w'->B w':=fun w' h8=>h w' ⟨M.out.below h8.out⟩
end
open Go.RowKit
theorem zLAd{A B:Prop}(h:B)(hs:B->A:=by(intro hh';(first|((((with_reducible refine Aib ?_);((with_reducible apply Adm);rfl;rfl;rfl);first|(first|((with_reducible apply LdAt.c1 M.out.at0.one);exact zots;rfl;rfl)|((with_reducible apply LdAt.p1 M.out.at0.one);exact zrts;rfl;rfl)|((with_reducible apply LdAt.ps M.out.at0.one);exact zrts;rfl;refine zCT ?_))|(first|((with_reducible apply LdAt.c1 M.out.at1.one);exact zots;rfl;rfl)|((with_reducible apply LdAt.p1 M.out.at1.one);exact zrts;rfl;rfl)|((with_reducible apply LdAt.ps M.out.at1.one);exact zrts;rfl;refine zCT ?_))|(first|((with_reducible apply LdAt.c1 M.out.at2.one);exact zots;rfl;rfl)|((with_reducible apply LdAt.p1 M.out.at2.one);exact zrts;rfl;rfl)|((with_reducible apply LdAt.ps M.out.at2.one);exact zrts;rfl;refine zCT ?_))|(first|((with_reducible apply LdAt.c1 M.out.at3.one);exact zots;rfl;rfl)|((with_reducible apply LdAt.p1 M.out.at3.one);exact zrts;rfl;rfl)|((with_reducible apply LdAt.ps M.out.at3.one);exact zrts;rfl;refine zCT ?_))|(first|((with_reducible apply LdAt.c1 M.out.at4.one);exact zots;rfl;rfl)|((with_reducible apply LdAt.p1 M.out.at4.one);exact zrts;rfl;rfl)|((with_reducible apply LdAt.ps M.out.at4.one);exact zrts;rfl;refine zCT ?_))|(first|((with_reducible apply LdAt.c1 M.out.at5.one);exact zots;rfl;rfl)|((with_reducible apply LdAt.p1 M.out.at5.one);exact zrts;rfl;rfl)|((with_reducible apply LdAt.ps M.out.at5.one);exact zrts;rfl;refine zCT ?_))|(first|((with_reducible apply LdAt.c1 M.out.at6.one);exact zots;rfl;rfl)|((with_reducible apply LdAt.p1 M.out.at6.one);exact zrts;rfl;rfl)|((with_reducible apply LdAt.ps M.out.at6.one);exact zrts;rfl;refine zCT ?_))|(first|((with_reducible apply LdAt.c1 M.out.at7.one);exact zots;rfl;rfl)|((with_reducible apply LdAt.p1 M.out.at7.one);exact zrts;rfl;rfl)|((with_reducible apply LdAt.ps M.out.at7.one);exact zrts;rfl;refine zCT ?_))|(first|((with_reducible apply LdAt.c1 M.out.at8.one);exact zots;rfl;rfl)|((with_reducible apply LdAt.p1 M.out.at8.one);exact zrts;rfl;rfl)|((with_reducible apply LdAt.ps M.out.at8.one);exact zrts;rfl;refine zCT ?_))|(first|((with_reducible apply LdAt.c1 M.out.at9.one);exact zots;rfl;rfl)|((with_reducible apply LdAt.p1 M.out.at9.one);exact zrts;rfl;rfl)|((with_reducible apply LdAt.ps M.out.at9.one);exact zrts;rfl;refine zCT ?_))|(first|((with_reducible apply LdAt.c1 M.out.at10.one);exact zots;rfl;rfl)|((with_reducible apply LdAt.p1 M.out.at10.one);exact zrts;rfl;rfl)|((with_reducible apply LdAt.ps M.out.at10.one);exact zrts;rfl;refine zCT ?_))|(first|((with_reducible apply LdAt.c1 M.out.at11.one);exact zots;rfl;rfl)|((with_reducible apply LdAt.p1 M.out.at11.one);exact zrts;rfl;rfl)|((with_reducible apply LdAt.ps M.out.at11.one);exact zrts;rfl;refine zCT ?_))|(first|((with_reducible apply LdAt.c1 M.out.at12.one);exact zots;rfl;rfl)|((with_reducible apply LdAt.p1 M.out.at12.one);exact zrts;rfl;rfl)|((with_reducible apply LdAt.ps M.out.at12.one);exact zrts;rfl;refine zCT ?_)));simp only[Act.put,List.setIfInBounds_toArray,List.set_cons_succ,List.set_cons_zero]))|(refine AlQ ?_));exact hh')):A:=hs h
theorem zLHd{A B X:Prop}(x:X)(h:B)(hs:X->B->A:=by(intro HX hh';((((with_reducible refine Aib ?_);((with_reducible apply Adm);rfl;rfl;rfl);first|((with_reducible apply LdAt.c1e M.out.at0.one HX.out);exact zots;rfl;rfl)|((with_reducible apply LdAt.c1e M.out.at1.one HX.out);exact zots;rfl;rfl)|((with_reducible apply LdAt.c1e M.out.at2.one HX.out);exact zots;rfl;rfl)|((with_reducible apply LdAt.c1e M.out.at3.one HX.out);exact zots;rfl;rfl)|((with_reducible apply LdAt.c1e M.out.at4.one HX.out);exact zots;rfl;rfl)|((with_reducible apply LdAt.c1e M.out.at5.one HX.out);exact zots;rfl;rfl)|((with_reducible apply LdAt.c1e M.out.at6.one HX.out);exact zots;rfl;rfl)|((with_reducible apply LdAt.c1e M.out.at7.one HX.out);exact zots;rfl;rfl)|((with_reducible apply LdAt.c1e M.out.at8.one HX.out);exact zots;rfl;rfl));simp only[Act.put,List.setIfInBounds_toArray,List.set_cons_succ,List.set_cons_zero]));exact hh')):A:=hs x h
theorem zRFd{A B X:Prop}(x:X)(h:B)(hs:X->B->A:=by(intro HX hh';((((with_reducible refine Aib ?_);((with_reducible apply Adm);rfl;rfl;rfl);(first|((with_reducible apply LdAt.rc1 (HX.out.one M.ok));exact zots;rfl;rfl)|((with_reducible apply LdAt.rp1 (HX.out.one M.ok));exact zrts;rfl;rfl)|((with_reducible apply LdAt.rps (HX.out.one M.ok));exact zrts;rfl;refine zCT ?_)|((with_reducible apply LdAt.rc0 (HX.out.one M.ok));exact zots;rfl;rfl)|((with_reducible apply LdAt.rp0 (HX.out.one M.ok));exact zrts;rfl;rfl)|((with_reducible apply LdAt.rs0 (HX.out.one M.ok));exact zrts;rfl;refine zCT ?_)));simp only[Act.put,List.setIfInBounds_toArray,List.set_cons_succ,List.set_cons_zero]));exact hh')):A:=hs x h
theorem zMRd{A B:Prop}(h:B)(hs:B->A:=by(intro hh';((repeat(first|(with_reducible refine wpQuiet_nil ?_)|(first|go_big_quiet_skip|(go_big_quiet_want;first|(first|fail|((with_reducible refine AbX ?_);((with_reducible apply Acp);rfl;rfl);(first|(first|((with_reducible apply LdAt.c1 M.out.at0.all);exact zots;rfl;rfl)|((with_reducible apply LdAt.p1 M.out.at0.all);exact zrts;rfl;rfl)|((with_reducible apply LdAt.ps M.out.at0.all);exact zrts;rfl;refine zCT ?_))|(first|((with_reducible apply LdAt.c1 M.out.at1.all);exact zots;rfl;rfl)|((with_reducible apply LdAt.p1 M.out.at1.all);exact zrts;rfl;rfl)|((with_reducible apply LdAt.ps M.out.at1.all);exact zrts;rfl;refine zCT ?_))|(first|((with_reducible apply LdAt.c1 M.out.at2.all);exact zots;rfl;rfl)|((with_reducible apply LdAt.p1 M.out.at2.all);exact zrts;rfl;rfl)|((with_reducible apply LdAt.ps M.out.at2.all);exact zrts;rfl;refine zCT ?_))|(first|((with_reducible apply LdAt.c1 M.out.at3.all);exact zots;rfl;rfl)|((with_reducible apply LdAt.p1 M.out.at3.all);exact zrts;rfl;rfl)|((with_reducible apply LdAt.ps M.out.at3.all);exact zrts;rfl;refine zCT ?_))|(first|((with_reducible apply LdAt.c1 M.out.at4.all);exact zots;rfl;rfl)|((with_reducible apply LdAt.p1 M.out.at4.all);exact zrts;rfl;rfl)|((with_reducible apply LdAt.ps M.out.at4.all);exact zrts;rfl;refine zCT ?_))|(first|((with_reducible apply LdAt.c1 M.out.at5.all);exact zots;rfl;rfl)|((with_reducible apply LdAt.p1 M.out.at5.all);exact zrts;rfl;rfl)|((with_reducible apply LdAt.ps M.out.at5.all);exact zrts;rfl;refine zCT ?_))|(first|((with_reducible apply LdAt.c1 M.out.at6.all);exact zots;rfl;rfl)|((with_reducible apply LdAt.p1 M.out.at6.all);exact zrts;rfl;rfl)|((with_reducible apply LdAt.ps M.out.at6.all);exact zrts;rfl;refine zCT ?_))|(first|((with_reducible apply LdAt.c1 M.out.at7.all);exact zots;rfl;rfl)|((with_reducible apply LdAt.p1 M.out.at7.all);exact zrts;rfl;rfl)|((with_reducible apply LdAt.ps M.out.at7.all);exact zrts;rfl;refine zCT ?_))|(first|((with_reducible apply LdAt.c1 M.out.at8.all);exact zots;rfl;rfl)|((with_reducible apply LdAt.p1 M.out.at8.all);exact zrts;rfl;rfl)|((with_reducible apply LdAt.ps M.out.at8.all);exact zrts;rfl;refine zCT ?_))|(first|((with_reducible apply LdAt.c1 M.out.at9.all);exact zots;rfl;rfl)|((with_reducible apply LdAt.p1 M.out.at9.all);exact zrts;rfl;rfl)|((with_reducible apply LdAt.ps M.out.at9.all);exact zrts;rfl;refine zCT ?_))|(first|((with_reducible apply LdAt.c1 M.out.at10.all);exact zots;rfl;rfl)|((with_reducible apply LdAt.p1 M.out.at10.all);exact zrts;rfl;rfl)|((with_reducible apply LdAt.ps M.out.at10.all);exact zrts;rfl;refine zCT ?_)));go_big_quiet_on;(simp only[Act.put,List.setIfInBounds_toArray,List.set_cons_succ,List.set_cons_zero])))|(go_big_quiet_op;first|go_big_quiet_on|((with_reducible refine⟨_,fun _ _=>rfl,?_⟩);go_big_quiet_on)))))));exact hh')):A:=hs h
theorem zBXd{A:Prop}{T B:World->Nat->Prop}(h:∀w g,T w g->B w g)(hs:(∀w g,T w g->B w g)->A:=by(intro hh';(((with_reducible refine Am1 ?_);first|((with_reducible apply Ac2 M.out);rfl;rfl;rfl;exact AmX;intro w' g M' hb';(have M:=bx M';clear M');clear hb';simp only[Act.put,List.setIfInBounds_toArray,List.set_cons_succ,List.set_cons_zero])|((with_reducible apply wpList_box1 M.out);rfl;rfl;rfl;rfl;intro w' g M' hb';(have M:=bx M';clear M');clear hb';simp only[Act.put,List.setIfInBounds_toArray,List.set_cons_succ,List.set_cons_zero])));exact hh' w' g M)):A:=hs h
theorem zBYd{A X:Prop}{T B:World->Nat->Prop}(x:X)(h:∀w g,T w g->B w g)(hs:X->(∀w g,T w g->B w g)->A:=by(intro HX hh';(((with_reducible apply Ac2 M.out);rfl;rfl;rfl;exact HX;intro w' g M' hb';(have M:=bx M';clear M');clear hb';simp only[Act.put,List.setIfInBounds_toArray,List.set_cons_succ,List.set_cons_zero]));exact hh' w' g M)):A:=hs x h
theorem zALd{A X:Prop}{T B:World->Nat->Prop}(x:X)(h:∀w g,T w g->B w g)(hs:X->(∀w g,T w g->B w g)->A:=by(intro HX hh';(((with_reducible apply Ae8 M.out);rfl;rfl;exact HX;intro w' g M' hb';(have M:=bx M';clear M');clear hb';simp only[Act.put,List.setIfInBounds_toArray,List.set_cons_succ,List.set_cons_zero]));exact hh' w' g M)):A:=hs x h
theorem zQXd{A:Prop}{T B:World->Prop}(h:∀w,T w->B w)(hs:(∀w,T w->B w)->A:=by(intro hh';((refine AdR M.out (by kernel_rfl) (by kernel_rfl) ?_;try simp only[Act.put,List.setIfInBounds_toArray,List.set_cons_succ,List.set_cons_zero]);(repeat(first|go_big_quiet_skip|(go_big_quiet_want;first|(first|fail|((with_reducible refine AbX ?_);((with_reducible apply Acp);rfl;rfl);(first|(first|((with_reducible apply LdAt.c1 M.out.at0.all);exact zots;rfl;rfl)|((with_reducible apply LdAt.p1 M.out.at0.all);exact zrts;rfl;rfl)|((with_reducible apply LdAt.ps M.out.at0.all);exact zrts;rfl;refine zCT ?_))|(first|((with_reducible apply LdAt.c1 M.out.at1.all);exact zots;rfl;rfl)|((with_reducible apply LdAt.p1 M.out.at1.all);exact zrts;rfl;rfl)|((with_reducible apply LdAt.ps M.out.at1.all);exact zrts;rfl;refine zCT ?_))|(first|((with_reducible apply LdAt.c1 M.out.at2.all);exact zots;rfl;rfl)|((with_reducible apply LdAt.p1 M.out.at2.all);exact zrts;rfl;rfl)|((with_reducible apply LdAt.ps M.out.at2.all);exact zrts;rfl;refine zCT ?_))|(first|((with_reducible apply LdAt.c1 M.out.at3.all);exact zots;rfl;rfl)|((with_reducible apply LdAt.p1 M.out.at3.all);exact zrts;rfl;rfl)|((with_reducible apply LdAt.ps M.out.at3.all);exact zrts;rfl;refine zCT ?_))|(first|((with_reducible apply LdAt.c1 M.out.at4.all);exact zots;rfl;rfl)|((with_reducible apply LdAt.p1 M.out.at4.all);exact zrts;rfl;rfl)|((with_reducible apply LdAt.ps M.out.at4.all);exact zrts;rfl;refine zCT ?_))|(first|((with_reducible apply LdAt.c1 M.out.at5.all);exact zots;rfl;rfl)|((with_reducible apply LdAt.p1 M.out.at5.all);exact zrts;rfl;rfl)|((with_reducible apply LdAt.ps M.out.at5.all);exact zrts;rfl;refine zCT ?_))|(first|((with_reducible apply LdAt.c1 M.out.at6.all);exact zots;rfl;rfl)|((with_reducible apply LdAt.p1 M.out.at6.all);exact zrts;rfl;rfl)|((with_reducible apply LdAt.ps M.out.at6.all);exact zrts;rfl;refine zCT ?_))|(first|((with_reducible apply LdAt.c1 M.out.at7.all);exact zots;rfl;rfl)|((with_reducible apply LdAt.p1 M.out.at7.all);exact zrts;rfl;rfl)|((with_reducible apply LdAt.ps M.out.at7.all);exact zrts;rfl;refine zCT ?_))|(first|((with_reducible apply LdAt.c1 M.out.at8.all);exact zots;rfl;rfl)|((with_reducible apply LdAt.p1 M.out.at8.all);exact zrts;rfl;rfl)|((with_reducible apply LdAt.ps M.out.at8.all);exact zrts;rfl;refine zCT ?_))|(first|((with_reducible apply LdAt.c1 M.out.at9.all);exact zots;rfl;rfl)|((with_reducible apply LdAt.p1 M.out.at9.all);exact zrts;rfl;rfl)|((with_reducible apply LdAt.ps M.out.at9.all);exact zrts;rfl;refine zCT ?_))|(first|((with_reducible apply LdAt.c1 M.out.at10.all);exact zots;rfl;rfl)|((with_reducible apply LdAt.p1 M.out.at10.all);exact zrts;rfl;rfl)|((with_reducible apply LdAt.ps M.out.at10.all);exact zrts;rfl;refine zCT ?_)));go_big_quiet_on;(simp only[Act.put,List.setIfInBounds_toArray,List.set_cons_succ,List.set_cons_zero])))|(go_big_quiet_op;first|go_big_quiet_on|((with_reducible refine⟨_,fun _ _=>rfl,?_⟩);go_big_quiet_on)))));refine wpQuiet_nil ?_;intro w4 hw4;have M':=M.out.below hw4.out;(have M:=bx M';clear M');clear hw4);exact hh' w4 M)):A:=hs h
end Go.Proofs.YtmgeheaneohldaaGreat
namespace Go.Proofs.YtmgeheaneohldaaGreat
theorem AkM(x:Int):IntKind.u64.wrap x=x%18446744073709551616:=by simp[IntKind.wrap,IntKind.bits,IntKind.signed]
theorem AdI{x:Int}(h0:0<=x)(h1:x<18446744073709551616):IntKind.u64.wrap x=x:=by rw[AkM];omega
theorem Af4(x:Int)(h0:0<=x)(h1:x<18446744073709551616):(BitVec.ofInt 64 x).toNat=x.toNat:=by
 rw[BitVec.toNat_ofInt]
 have:((2 ^ 64:Nat):Int)=18446744073709551616:=rfl
 rw[this,Int.emod_eq_of_lt h0 h1]
theorem Alo(x:Int)(k:Nat)(hk:k<=64)(h0:0<=x)(h1:x<18446744073709551616):bits .and .u64 x ((2 ^ k-1:Nat):Int)=x%((2 ^ k:Nat):Int):=by
 have hp:2 ^ k<=18446744073709551616:=by have:=Nat.pow_le_pow_right (show 0<2 by decide) hk;simpa using this
 have hpos:=Nat.two_pow_pos k
 show IntKind.u64.wrap ((BitVec.ofInt 64 x &&& BitVec.ofInt 64 ((2 ^ k-1:Nat):Int)).toNat:Int)=_
 rw[BitVec.toNat_and,Af4 x h0 h1,Af4 _ (by omega) (by omega),Int.toNat_natCast,Nat.and_two_pow_sub_one_eq_mod]
 obtain⟨n,rfl⟩:∃n:Nat,x=(n:Int):=⟨x.toNat,by omega⟩
 rw[Int.toNat_natCast,<-Int.natCast_emod]
 have:=Nat.mod_lt n hpos
 exact AdI (by omega) (by omega)
open Go.Lib
end Go.Proofs.YtmgeheaneohldaaGreat
namespace Go.Proofs.YtmgeheaneohldaaGreat
open Go.RowKit
def epN(k p:U):U:=⟨k.n / p.n,Nat.lt_of_le_of_lt (Nat.div_le_self _ _) k.lt⟩
theorem Adu(k p:U):IntKind.u64.wrap ((k.n:Int) / (p.n:Int))=((epN k p).n:Int):=by
 rw[AdI (Int.ediv_nonneg (by omega) (by omega))]
 .rfl
 .have:=(epN k p).lt;unfold epN at this;simp only at this;rw[<-Int.natCast_ediv];omega
theorem Aar(Γ:Gam)(s:Sto)(v:Sls)(k:U)(hs:0<s.c.spe.n)(w:World)(ok:Ok Γ w) :
  Calls Tryz.prog 49 #[.agg (fl (stP s v)).toArray,.int .u64 (k.n:Int)] w fun e w'=>e=.returned (.int .u64 ((epN k s.c.spe).n:Int))/\Ext Γ w Γ w':=by
 have M:=bx (MM.start ok)
 have h1:=k.lt
 have h2:=s.c.spe.lt
 have hne:¬((s.c.spe.n:Int)=0):=by omega
 have hw:=Adu k s.c.spe
 clear ok
 go_enter Tryz.func49,Tryz.ntmps49
 go_wp2_with (first|(refine zBYo (AaD s v) ?_;clear M;intro w' g M)|refine zLDo (M.out.at0) ?_)
 go_ret
 exact⟨rfl,M.out.ext⟩
def isI(i:Int)(n:Nat):Bool:=decide (0<=i/\i<(n:Int))
theorem AcB{i:Int}{n:Nat}(h:0<=i)(h2:i<(n:Int)):isI i n=true:=decide_eq_true ⟨h,h2⟩
theorem Ah1{i:Int}{n:Nat}(h:¬(0<=i/\i<(n:Int))):isI i n=false:=decide_eq_false h
theorem Ab5{i:Int}{n:Nat}(h:isI i n=true):0<=i/\i<(n:Int):=of_decide_eq_true h
theorem Afp(Γ:Gam)(s:Sto)(v:Sls)(i:Int)(w:World)(ok:Ok Γ w) :
  Calls Tryz.prog 48 #[.agg (fl (stP s v)).toArray,.int .i64 i] w fun e w'=>e=.returned (.bool (isI i v.nodes.n))/\Ext Γ w Γ w':=by
 have M:=bx (MM.start ok)
 clear ok
 by_cases h:0<=i
 .by_cases h2:i<(v.nodes.n:Int)
  .have HD:=bx (AcB h h2)
   go_enter Tryz.func48,Tryz.ntmps48
   go_wp2_with (first|(refine zBYo (AaD s v) ?_;clear M;intro w' g M)|refine zLDo (M.out.at0) ?_)
   go_ret
   exact⟨by rw[HD.out];rfl,M.out.ext⟩
  .have HD:=bx (Ah1 (fun h=>h2 h.2))
   go_enter Tryz.func48,Tryz.ntmps48
   go_wp2_with (first|(refine zBYo (AaD s v) ?_;clear M;intro w' g M)|refine zLDo (M.out.at0) ?_)
   go_ret
   exact⟨by rw[HD.out];rfl,M.out.ext⟩
 .have HD:=bx (Ah1 (n:=v.nodes.n) (fun h'=>h h'.1))
  go_enter Tryz.func48,Tryz.ntmps48
  go_wp2_with (refine zBYo (AaD s v) ?_;clear M;intro w' g M)
  go_ret
  exact⟨by rw[HD.out];rfl,M.out.ext⟩
def Sto.nod(s:Sto)(i:Int):Option Nod:=if 0<=i then s.nodes[i.toNat]? else none
theorem AeZ{s:Sto}{k:Nat}(h:k<s.nodes.length):s.nod (k:Int)=some s.nodes[k]:=by simp[Sto.nod,List.getElem?_eq_getElem h]
theorem Amr{s:Sto}{i:Int}(h:isI i s.nodes.length=false):s.nod i=none:=by
 have:=of_decide_eq_false h
 unfold Sto.nod
 split
 .rw[List.getElem?_eq_none];omega
 .rfl
theorem Adc(s:Sto)(i:Int):(isI i s.nodes.length=false/\s.nod i=none)\/∃k:Nat,∃h:k<s.nodes.length,i=(k:Int)/\isI i s.nodes.length=true/\s.nod i=some s.nodes[k]:=by
 cases h:isI i s.nodes.length with
 |false=>exact .inl ⟨rfl,Amr h⟩
 |true=>
  have:=Ab5 h
  obtain⟨k,rfl⟩:∃k:Nat,i=(k:Int):=⟨i.toNat,by omega⟩
  have hk:k<s.nodes.length:=by omega
  exact .inr ⟨k,hk,rfl,rfl,AeZ hk⟩
def Sto.ep(s:Sto)(k:U):U:=epN k s.c.spe
def Sto.srcN(s:Sto)(n:Nod):Cp:=if(s.ep n.b.slot).n<(s.ep s.now).n then n.b.pj else n.b.just
def Sto.src(s:Sto)(i:Int):Cp:=match s.nod i with|none=>cp0|some n=>s.srcN n
def Sto.qualN(s:Sto)(n:Nod):Bool:=decide (n.st≠2)&&(let e:=(s.srcN n).e.n;decide (s.just.e.n=0)||decide (e=s.just.e.n)||decide ((s.ep s.now).n<=e)||decide ((s.ep s.now).n-e<=2))
def Sto.qual(s:Sto)(i:Int):Bool:=match s.nod i with|none=>false|some n=>s.qualN n
theorem Aan:ZeroT Tryz.prog 37 (cpP cp0) [1,32]:=⟨fun w=>by kernel_rfl,AaA _⟩
theorem AfG(Γ:Gam)(s:Sto)(v:Sls)(i:Int)(hs:0<s.c.spe.n)(w:World)(ok:Ok Γ w)(h:StG Γ v s) :
  Calls Tryz.prog 17 #[.agg (fl (stP s v)).toArray,.int .i64 i] w fun e w'=>e=.returned (.agg (fl (cpP (s.src i))).toArray)/\Ext Γ w Γ w':=by
 have M:=bx (MM.start ok)
 have hspe:=hs
 have LN:=bx h.nodes.n
 clear ok
 rcases Adc s i with⟨h1,h2⟩|⟨k,hk,rfl,h1,h2⟩
 .have HI:=bx h1
  have HR:Bx (s.src i=cp0):=⟨by unfold Sto.src;rw[h2]⟩
  clear h1 h2 h
  go_enter Tryz.func17,Tryz.ntmps17
  go_wp2_with (first|(refine zBYo (AaD s v) ?_;clear M;intro w' g M)|(refine zALo (Aan) ?_;clear M;intro w' g M)|refine zLDo (M.out.at1) ?_)
  refine zCA M (Afp _ s v i _ M.ok) ?_;clear M;intro w1 M
  rw[LN.out,HI.out]
  go_wp2_with (first|((with_reducible refine Ab9 rfl 37 _ rfl [] (fl (cpP cp0)) ?_ (by kernel_rfl) ?_);rfl)|(refine zSSo M 0 (cpP cp0) (cpP cp0) (AaA _) (AaF _) ?_;clear M;intro w' M))
  rw[HR.out]
  exact zRb M.out.at0 ⟨rfl,M.out.ext⟩
 .have HI:=bx h1
  have HS:Bx (s.src (k:Int)=s.srcN s.nodes[k]):=⟨by unfold Sto.src;rw[h2]⟩
  obtain⟨gn,hA,hc⟩:=h.nodes.at (fun x _=>AbW x) k hk
  have HC:=bx hc
  have HA:=bx (AeB hA)
  have hkn:k<v.nodes.n:=by rw[LN.out];exact hk
  have E1:=bx (fun(Γ:Gam) (x:U) w' (ok:Ok Γ w')=>Aar Γ s v x hspe w' ok)
  have HV:Bx (s.srcN s.nodes[k]=if(epN s.nodes[k].b.slot s.c.spe).n<(epN s.now s.c.spe).n then s.nodes[k].b.pj else s.nodes[k].b.just):=⟨rfl⟩
  clear h1 h2 h hc hs
  generalize s.nodes[k]=x at *
  have hki:(k:Int)<(v.nodes.n:Int):=by omega
  have hk0:0<=(k:Int):=by omega
  go_enter Tryz.func17,Tryz.ntmps17
  go_wp2_with (first|(refine zBYo (AaD s v) ?_;clear M;intro w' g M)|(refine zALo (Aan) ?_;clear M;intro w' g M)|refine zLDo (M.out.at1) ?_)
  refine zCA M (Afp _ s v (k:Int) _ M.ok) ?_;clear M;intro w1 M
  rw[LN.out,HI.out]
  go_wp2_with (first|refine zLE M.out.at1 (HA.out) ?_|refine zRD (CL.of HC.out (AaO _) M.ok) ?_|(refine zALo (ztNo) ?_;clear M;intro w' g M)|(refine zSSo M 0 (noP x) (noP x) (AaO _) (Abm _) ?_;clear M;intro w' M))
  have Q1:=bx M.out.at2.cls
  have Q0:=bx M.out.at0.cls
  have EC:=bx (fun y:U=>clsE M.out fun w' ok=>E1.out _ y w' ok)
  refine zRG ?_
  repeat((go_big_quiet_want;first|(first|(refine zQL Q0.out (AaO _) ?_;go_big_quiet_on;refine zNM ?_)|(refine zQL Q1.out (AaD _ _) ?_;go_big_quiet_on;refine zNM ?_)|(refine zQC (AaI (EC.out x.b.slot)) Tryz.func49 ?_;go_big_quiet_on;refine zNM ?_)|(refine zQC (AaI (EC.out s.now)) Tryz.func49 ?_;go_big_quiet_on;refine zNM ?_))|(refine zQO ?_;go_big_quiet_on)))
  (refine zQN ?_;clear M;intro w4 M)
  clear Q1 Q0 EC
  by_cases hlt:(epN x.b.slot s.c.spe).n<(epN s.now s.c.spe).n
  .have HV':=bx (HV.out.trans (if_pos hlt))
   have hlti:((epN x.b.slot s.c.spe).n:Int)<((epN s.now s.c.spe).n:Int):=by omega
   clear HV
   go_wp2_with (first|refine zLDo (M.out.at0) ?_|(refine zSSo M 1 (cpP x.b.pj) (cpP x.b.pj) (AaA _) (AaF _) ?_;clear M;intro w' M))
   rw[HS.out,HV'.out]
   exact zRb M.out.at1 ⟨rfl,M.out.ext⟩
  .have HV':=bx (HV.out.trans (if_neg hlt))
   have hlti:((epN s.now s.c.spe).n:Int)<=((epN x.b.slot s.c.spe).n:Int):=by omega
   clear HV
   go_wp2_with (first|refine zLDo (M.out.at0) ?_|(refine zSSo M 1 (cpP x.b.just) (cpP x.b.just) (AaA _) (AaF _) ?_;clear M;intro w' M))
   rw[HS.out,HV'.out]
   exact zRb M.out.at1 ⟨rfl,M.out.ext⟩
theorem AdZ{s:Sto}{n:Nod}(h:n.st=2):s.qualN n=false:=by unfold Sto.qualN;simp[h]
theorem AeW{s:Sto}{n:Nod}(h:n.st≠2):s.qualN n=(decide (s.just.e.n=0)||decide ((s.srcN n).e.n=s.just.e.n)||decide ((s.ep s.now).n<=(s.srcN n).e.n)||decide ((s.ep s.now).n-(s.srcN n).e.n<=2)):=by unfold Sto.qualN;simp[h]
theorem AdY(Γ:Gam)(s:Sto)(v:Sls)(i:Int)(hs:0<s.c.spe.n)(w:World)(ok:Ok Γ w)(h:StG Γ v s) :
  Calls Tryz.prog 19 #[.agg (fl (stP s v)).toArray,.int .i64 i] w fun e w'=>e=.returned (.bool (s.qual i))/\Ext Γ w Γ w':=by
 have M:=bx (MM.start ok)
 have IS:Bx (∀Γ w,Ok Γ w->Calls Tryz.prog 48 #[.agg (fl (stP s v)).toArray,.int .i64 i] w fun e w'=>e=.returned (.bool (isI i s.nodes.length))/\Ext Γ w Γ w'):=⟨fun Γ w ok=>by have:=Afp Γ s v i w ok;rwa [h.nodes.n]at this⟩
 have SO:=bx (fun w ok=>AfG Γ s v i hs w ok h)
 have EP:=bx (fun(Γ:Gam) (w:World) ok=>Aar Γ s v s.now hs w ok)
 clear ok
 rcases Adc s i with⟨h1,h2⟩|⟨k,hk,rfl,h1,h2⟩
 .have HA:Bx (v.nodes.v=v.nodes.v):=⟨rfl⟩
  rw[h1]at IS
  have HR:Bx (s.qual i=false):=⟨by unfold Sto.qual;rw[h2]⟩
  clear h1 h2 h SO EP
  go_enter Tryz.func19,Tryz.ntmps19
  go_wp2_with (first|(refine zBYo (AaD s v) ?_;clear M;intro w' g M)|refine zLDo (M.out.at0) ?_)
  refine zCA M (IS.out _ _ M.ok) ?_;clear M;intro w1 M
  go_wp2_with (go_skip)
  go_ret
  exact⟨by rw[HR.out];rfl,M.out.ext⟩
 .rw[h1]at IS
  have HS:Bx (s.src (k:Int)=s.srcN s.nodes[k]):=⟨by unfold Sto.src;rw[h2]⟩
  have HQ:Bx (s.qual (k:Int)=s.qualN s.nodes[k]):=⟨by unfold Sto.qual;rw[h2]⟩
  rw[HS.out]at SO
  obtain⟨gn,hA,hc⟩:=h.nodes.at (fun x _=>AbW x) k hk
  have HC:=bx hc
  have HA:=bx (AeB hA)
  have hki:(k:Int)<(v.nodes.n:Int):=by rw[h.nodes.n];omega
  have hk0:0<=(k:Int):=by omega
  clear h1 h2 h hc hs hA HS
  generalize s.nodes[k]=x at *
  by_cases hst:x.st=2
  .have HR:=bx (HQ.out.trans (AdZ hst))
   clear HQ SO EP
   (go_enter Tryz.func19,Tryz.ntmps19);(go_wp2_with (first|(refine zBYo (AaD s v) ?_;clear M;intro w' g M)|refine zLDo (M.out.at0) ?_));refine zCA M (IS.out _ _ M.ok) ?_;clear M;intro w1 M;(go_wp2_with (first|refine zLE M.out.at0 (HA.out) ?_|refine zRD (CL.of HC.out (AaO _) M.ok) ?_))
   go_ret
   exact⟨by rw[HR.out];rfl,M.out.ext⟩
  .have HR:=bx (HQ.out.trans (AeW hst))
   clear HQ
   generalize s.srcN x=c at *
   change Bx (∀(Γ:Gam) (w:World) (ok:Ok Γ w),Calls Tryz.prog 49 #[.agg (fl (stP s v)).toArray,.int .u64 (s.now.n:Int)] w fun e w'=>e=.returned (.int .u64 ((s.ep s.now).n:Int))/\Ext Γ w Γ w')at EP
   have hj:=s.just.e.lt
   have hn:=(s.ep s.now).lt
   have hc:=c.e.lt
   by_cases h0:s.just.e.n=0
   .have hi0:(s.just.e.n:Int)=0:=by omega
    have HR':Bx (s.qual (k:Int)=true):=⟨by rw[HR.out];simp[h0]⟩
    clear HR
    (go_enter Tryz.func19,Tryz.ntmps19);(go_wp2_with (first|(refine zBYo (AaD s v) ?_;clear M;intro w' g M)|refine zLDo (M.out.at0) ?_));refine zCA M (IS.out _ _ M.ok) ?_;clear M;intro w1 M;(go_wp2_with (first|refine zLE M.out.at0 (HA.out) ?_|refine zLDo (M.out.at0) ?_|refine zRD (CL.of HC.out (AaO _) M.ok) ?_));refine zCA M (SO.out _ M.ok) ?_;clear M;intro w1 M;(go_wp2_with (first|go_skip|refine zLDo (M.out.at0) ?_|((with_reducible apply Ac1 Adh);rfl;rfl;rfl;exact AaA _;exact zots;rfl;rfl)))
    go_ret
    exact⟨by rw[HR'.out];rfl,M.out.ext⟩
   .have hi0:((s.just.e.n:Int)==0)=false:=by simp;omega
    by_cases h1:c.e.n=s.just.e.n
    .have hi1:((c.e.n:Int)==(s.just.e.n:Int))=true:=by simp;omega
     have HR':Bx (s.qual (k:Int)=true):=⟨by rw[HR.out];simp[h1]⟩
     clear HR
     (go_enter Tryz.func19,Tryz.ntmps19);(go_wp2_with (first|(refine zBYo (AaD s v) ?_;clear M;intro w' g M)|refine zLDo (M.out.at0) ?_));refine zCA M (IS.out _ _ M.ok) ?_;clear M;intro w1 M;(go_wp2_with (first|refine zLE M.out.at0 (HA.out) ?_|refine zLDo (M.out.at0) ?_|refine zRD (CL.of HC.out (AaO _) M.ok) ?_));refine zCA M (SO.out _ M.ok) ?_;clear M;intro w1 M;(go_wp2_with (first|go_skip|refine zLDo (M.out.at0) ?_|((with_reducible apply Ac1 Adh);rfl;rfl;rfl;exact AaA _;exact zots;rfl;rfl)))
     go_ret
     exact⟨by rw[HR'.out];rfl,M.out.ext⟩
    .have hi1:((c.e.n:Int)==(s.just.e.n:Int))=false:=by simp;omega
     by_cases h2:(s.ep s.now).n<=c.e.n
     .have hi2:((s.ep s.now).n:Int)<=(c.e.n:Int):=by omega
      have HR':Bx (s.qual (k:Int)=true):=⟨by rw[HR.out];simp[h2]⟩
      clear HR
      (go_enter Tryz.func19,Tryz.ntmps19);(go_wp2_with (first|(refine zBYo (AaD s v) ?_;clear M;intro w' g M)|refine zLDo (M.out.at0) ?_));refine zCA M (IS.out _ _ M.ok) ?_;clear M;intro w1 M;(go_wp2_with (first|refine zLE M.out.at0 (HA.out) ?_|refine zLDo (M.out.at0) ?_|refine zRD (CL.of HC.out (AaO _) M.ok) ?_));refine zCA M (SO.out _ M.ok) ?_;clear M;intro w1 M;(go_wp2_with (first|refine zLDo (M.out.at0) ?_|((with_reducible apply Ac1 Adh);rfl;rfl;rfl;exact AaA _;exact zots;rfl;rfl)))
      refine zCA M (EP.out _ _ M.ok) ?_;clear M;intro w1 M
      go_wp2_with (go_skip)
      go_ret
      exact⟨by rw[HR'.out];rfl,M.out.ext⟩
     .have hi2:¬((s.ep s.now).n:Int)<=(c.e.n:Int):=by omega
      have hwr:IntKind.u64.wrap (((s.ep s.now).n:Int)-(c.e.n:Int))=(((s.ep s.now).n-c.e.n:Nat):Int):=by rw[AdI (by omega) (by omega)];omega
      have HR':Bx (s.qual (k:Int)=decide ((s.ep s.now).n-c.e.n<=2)):=⟨by rw[HR.out];simp[h0,h1,h2]⟩
      clear HR
      (go_enter Tryz.func19,Tryz.ntmps19);(go_wp2_with (first|(refine zBYo (AaD s v) ?_;clear M;intro w' g M)|refine zLDo (M.out.at0) ?_));refine zCA M (IS.out _ _ M.ok) ?_;clear M;intro w1 M;(go_wp2_with (first|refine zLE M.out.at0 (HA.out) ?_|refine zLDo (M.out.at0) ?_|refine zRD (CL.of HC.out (AaO _) M.ok) ?_));refine zCA M (SO.out _ M.ok) ?_;clear M;intro w1 M;(go_wp2_with (first|refine zLDo (M.out.at0) ?_|((with_reducible apply Ac1 Adh);rfl;rfl;rfl;exact AaA _;exact zots;rfl;rfl)))
      refine zCA M (EP.out _ _ M.ok) ?_;clear M;intro w1 M
      go_wp2_with (refine zLDo (M.out.at0) ?_)
      refine zCA M (EP.out _ _ M.ok) ?_;clear M;intro w1 M
      go_wp2_with (fail)
      go_ret
      exact⟨by rw[HR'.out];go_num,M.out.ext⟩
def idxI{α:Type}(p:α->Bool)(T:List α):Int:=match T.findIdx? p with|some i=>(i:Int)|none=>-1
theorem Aei{α:Type}{p:α->Bool}{T:List α}(h:∀j (hj:j<T.length),p T[j]=false):idxI p T = -1:=by
 have:T.findIdx? p=none:=List.findIdx?_eq_none_iff.2 fun x hx=>by
  obtain⟨j,hj,rfl⟩:=List.getElem_of_mem hx
  exact h j hj
 unfold idxI;rw[this]
theorem Aeh{α:Type}{p:α->Bool}{T:List α}{k:Nat}(hk:k<T.length)(h:∀j (hj:j<k),p (T[j]'(by omega))=false)(hp:p T[k]=true):idxI p T=(k:Int):=by
 have:T.findIdx? p=some k:=List.findIdx?_eq_some_iff_getElem.2 ⟨hk,hp,fun j hj=>by rw[h j hj];simp⟩
 unfold idxI;rw[this]
theorem Aa2{α:Type}(p:α->Bool)(T:List α):(idxI p T = -1/\∀x∈T,p x=false)\/∃k,∃hk:k<T.length,idxI p T=(k:Int)/\p T[k]=true/\∀j (hj:j<k),p (T[j]'(by omega))=false:=by
 unfold idxI
 cases h:T.findIdx? p with
 |none=>exact .inl ⟨rfl,fun x hx=>(List.findIdx?_eq_none_iff.1 h) x hx⟩
 |some k=>
  obtain⟨hk,h1,h2⟩:=List.findIdx?_eq_some_iff_getElem.1 h
  exact .inr ⟨k,hk,rfl,h1,fun j hj=>by simpa using h2 j hj⟩
theorem Aak(Γ:Gam)(A:Option Addr)(n c:Nat)(T:List Tbl)(x:Cp)(hn:n<=65535)(w:World)(ok:Ok Γ w)(h:TsG Γ A n T) :
  Calls Tryz.prog 64 #[.slice A n c,.agg (fl (cpP x)).toArray] w fun e w'=>e=.returned (.int .i64 (idxI (fun t=>decide (t.c=x)) T))/\Ext Γ w Γ w':=by
 have M:=bx (MM.start ok)
 have HT:=bx h
 have LN:=bx h.1
 clear h ok
 go_enter Tryz.func64,Tryz.ntmps64
 go_wp2_with (refine zBYo (AaA x) ?_;clear M;intro w' g M)
 go_loopw [5] (fun i wr=>∃k:Nat,k<=n/\i=.int .i64 k/\(∀j (hj:j<T.length),j<k->decide (T[j].c=x)=false)/\MM Γ w Γ wr [⟨g,cpP x,[1,32]⟩] []) (fun i _=>n-(intOf i).toNat)
 case atStart=>exact⟨0,Nat.zero_le _,rfl,fun j _ hj=>absurd hj (Nat.not_lt_zero _),M.out⟩
 case round=>
  obtain⟨k,hk,rfl,hno,hM⟩:=hrel
  clear M
  have M:=bx hM
  have HNO:=bx hno
  clear hM hno
  by_cases hkn:k<n
  .have hkl:k<T.length:=by rw[LN.out];exact hkn
   obtain⟨gt,s,rfl,hst,hc⟩:=HT.out.at k hkn
   have QM:=bx M.out.at0.cls
   have QC:=bx (CL.cls hc (Aaf _ _) M.ok)
   have HS:=bx (AdS T[k].c x)
   have FND:=bx (fun e=>Aeh (p:=fun t=>decide (t.c=x)) hkl (fun j hj=>HNO.out j (Nat.lt_trans hj hkl) hj) e)
   have NXT:=bx (fun(e:decide (T[k].c=x)=false) j (hj:j<T.length) (hjk:j<k+1)=>(Nat.lt_or_eq_of_le (Nat.le_of_lt_succ hjk)).elim (HNO.out j hj) (fun h=>by subst h;exact e))
   have hki:(k:Int)<(n:Int):=by omega
   have hk0:0<=(k:Int):=by omega
   generalize T[k].c=tc at *
   have hq:=HS.out
   cases he:decide (tc=x)with
   |true=>
    rw[he]at hq
    have HE:=bx he
    clear he
    go_wp2_with fail
    refine AbD wr.heap.size (by kernel_rfl) (by kernel_rfl) ?_
    repeat((go_big_quiet_want;first|(first|(refine zQL QM.out (AaA _) ?_;go_big_quiet_on;refine zNM ?_)|(refine zQR QC.out (Aaf _ _) ?_;go_big_quiet_on;refine zNM ?_))|(refine zQO ?_;go_big_quiet_on)))
    refine wpQuiet_nil ?_
    intro w4 hw4
    have M4:=bx (M.out.below hw4.out)
    clear hw4
    go_wp2_with fail
    go_ret
    exact⟨by rw[FND.out HE.out];rfl,M4.out.ext⟩
   |false=>
    rw[he]at hq
    have HE:=bx he
    clear he
    go_wp2_with fail
    refine AbD wr.heap.size (by kernel_rfl) (by kernel_rfl) ?_
    repeat((go_big_quiet_want;first|(first|(refine zQL QM.out (AaA _) ?_;go_big_quiet_on;refine zNM ?_)|(refine zQR QC.out (Aaf _ _) ?_;go_big_quiet_on;refine zNM ?_))|(refine zQO ?_;go_big_quiet_on)))
    refine wpQuiet_nil ?_
    intro w4 hw4
    have M4:=bx (M.out.below hw4.out)
    clear hw4
    go_wp2_with fail
    go_roundw
    case rel=>exact⟨k+1,by omega,by go_num,NXT.out HE.out,M4.out⟩
    case measure=>simp[intOf];omega
  .obtain rfl:k=n:=by omega
   have HR:=bx (Aei (p:=fun t=>decide (t.c=x)) (fun j hj=>HNO.out j hj (by rw[<-LN.out];exact hj)))
   go_wp2_with fail
   go_ret
   exact⟨by rw[HR.out];rfl,M.out.ext⟩
abbrev NG(Γ:Gam)(x:Sl)(N:List Nod):Prop:=SlR Γ x N.length (N.flatMap nox)
theorem SlR.max{Γ:Gam}{s:Sl}{n:Nat}{xs:List Value}(h:SlR Γ s n xs):s.n<=9223372036854775807:=by
 have h1:=h.cap.le
 have h2:=h.cap.mx
 unfold maxLen at h2
 omega
theorem Ac9(Γ:Gam)(x:Sl)(i:Int)(w:World)(ok:Ok Γ w) :
  Calls Tryz.prog 61 #[.agg [x.v].toArray,.int .i64 i] w fun e w'=>e=.returned (.bool (isI i x.n))/\Ext Γ w Γ w':=by
 have M:=bx (MM.start ok)
 clear ok
 have hl:([[x.v]]:List (List Value)).map List.length = [1]:=rfl
 change Calls Tryz.prog _ #[.agg (fl [[x.v]]).toArray,_] _ _
 by_cases h:0<=i
 .by_cases h2:i<(x.n:Int)
  .have HD:=bx (AcB h h2)
   go_enter Tryz.func61,Tryz.ntmps61
   go_wp2_with (first|(refine zBYo (hl) ?_;clear M;intro w' g M)|refine zLDo (M.out.at0) ?_)
   go_ret
   exact⟨by rw[HD.out];rfl,M.out.ext⟩
  .have HD:=bx (Ah1 (fun h=>h2 h.2))
   go_enter Tryz.func61,Tryz.ntmps61
   go_wp2_with (first|(refine zBYo (hl) ?_;clear M;intro w' g M)|refine zLDo (M.out.at0) ?_)
   go_ret
   exact⟨by rw[HD.out];rfl,M.out.ext⟩
 .have HD:=bx (Ah1 (n:=x.n) (fun h'=>h h'.1))
  go_enter Tryz.func61,Tryz.ntmps61
  go_wp2_with (refine zBYo (hl) ?_;clear M;intro w' g M)
  go_ret
  exact⟨by rw[HD.out];rfl,M.out.ext⟩
def fndI(N:List Nod)(r:Rt):Int:=idxI (fun n=>decide (n.b.root=r)) N
theorem AaT(Γ:Gam)(x:Sl)(N:List Nod)(r:Rt)(w:World)(ok:Ok Γ w)(h:NG Γ x N) :
  Calls Tryz.prog 33 #[.agg [x.v].toArray,.agg (rc r).toArray] w fun e w'=>e=.returned (.int .i64 (fndI N r))/\Ext Γ w Γ w':=by
 have M:=bx (MM.start ok)
 have HN:=bx h
 have LN:=bx h.n
 have hmx:=h.max
 have hl:([[x.v]]:List (List Value)).map List.length = [1]:=rfl
 have hr:([rc r]:List (List Value)).map List.length = [32]:=by simp[Aax]
 clear h ok
 change Calls Tryz.prog _ #[.agg (fl [[x.v]]).toArray,.agg (fl [rc r]).toArray] _ _
 go_enter Tryz.func33,Tryz.ntmps33
 go_wp2_with (first|(refine zBYo (hl) ?_;clear M;intro w' g M)|(refine zBYo (hr) ?_;clear M;intro w' g M))
 rename_i g1 _ _
 go_loopw [5] (fun i wr=>∃k:Nat,k<=x.n/\i=.int .i64 k/\(∀j (hj:j<N.length),j<k->decide (N[j].b.root=r)=false)/\MM Γ w Γ wr [⟨g,[rc r],[32]⟩,⟨g1,[[x.v]],[1]⟩] []) (fun i _=>x.n-(intOf i).toNat)
 case atStart=>exact⟨0,Nat.zero_le _,rfl,fun j _ hj=>absurd hj (Nat.not_lt_zero _),M.out⟩
 case round=>
  obtain⟨k,hk,rfl,hno,hM⟩:=hrel
  clear M
  have M:=bx hM
  have HNO:=bx hno
  clear hM hno
  by_cases hkn:k<x.n
  .have hkl:k<N.length:=by rw[<-LN.out];exact hkn
   obtain⟨gt,hA,hc⟩:=HN.out.at (fun x _=>AbW x) k hkl
   have HA:=bx (AeB hA)
   have QM:=bx M.out.at1.cls
   have Q0:=bx M.out.at0.cls
   have QC:=bx (CL.cls hc (AaO _) M.ok)
   have HS:=bx (AbC N[k].b.root r)
   have FND:=bx (fun e=>Aeh (p:=fun n:Nod=>decide (n.b.root=r)) hkl (fun j hj=>HNO.out j (Nat.lt_trans hj hkl) hj) e)
   have NXT:=bx (fun(e:decide (N[k].b.root=r)=false) j (hj:j<N.length) (hjk:j<k+1)=>(Nat.lt_or_eq_of_le (Nat.le_of_lt_succ hjk)).elim (HNO.out j hj) (fun h=>by subst h;exact e))
   have hki:(k:Int)<(x.n:Int):=by omega
   have hk0:0<=(k:Int):=by omega
   clear hA hc
   generalize N[k]=y at *
   have hq:=HS.out
   cases he:decide (y.b.root=r)with
   |true=>
    rw[he]at hq
    have HE:=bx he
    clear he
    go_wp2_with (refine zLDo (M.out.at1) ?_)
    refine zRG ?_
    repeat((go_big_quiet_want;first|(first|(refine zQE QM.out (HA.out) ?_;go_big_quiet_on;refine zNM ?_)|(refine zQL Q0.out hr ?_;go_big_quiet_on;refine zNM ?_)|(refine zQR QC.out (AaO _) ?_;go_big_quiet_on;refine zNM ?_))|(refine zQO ?_;go_big_quiet_on)))
    (refine zQN ?_;clear M;intro w4 M)
    clear QM Q0 QC
    go_wp2_with fail
    go_ret
    exact⟨by unfold fndI;rw[FND.out HE.out];rfl,M.out.ext⟩
   |false=>
    rw[he]at hq
    have HE:=bx he
    clear he
    go_wp2_with (refine zLDo (M.out.at1) ?_)
    refine zRG ?_
    repeat((go_big_quiet_want;first|(first|(refine zQE QM.out (HA.out) ?_;go_big_quiet_on;refine zNM ?_)|(refine zQL Q0.out hr ?_;go_big_quiet_on;refine zNM ?_)|(refine zQR QC.out (AaO _) ?_;go_big_quiet_on;refine zNM ?_))|(refine zQO ?_;go_big_quiet_on)))
    (refine zQN ?_;clear M;intro w4 M)
    clear QM Q0 QC
    go_wp2_with fail
    go_roundw
    case rel=>exact⟨k+1,by omega,by go_num,NXT.out HE.out,M.out⟩
    case measure=>simp[intOf];omega
  .obtain rfl:k=x.n:=by omega
   have HR:=bx (Aei (p:=fun n:Nod=>decide (n.b.root=r)) (fun j hj=>HNO.out j hj (by rw[LN.out];exact hj)))
   go_wp2_with (refine zLDo (M.out.at1) ?_)
   go_ret
   exact⟨by unfold fndI;rw[HR.out];rfl,M.out.ext⟩
abbrev nis(l:List Nat):List Value:=ints .i64 (l.map fun(k:Nat)=>(k:Int))
theorem Ake(l:List Nat)(k:Nat):nis (l ++ [k])=nis l ++ [.int .i64 k]:=by simp[nis,ints]
theorem Al6(l:List Nat):(nis l).length=l.length:=by simp[nis,ints]
def n0:Nod:=⟨b0,0,0⟩
theorem nget{N:List Nod}{k:Nat}(h:k<N.length):N.getD k n0=N[k]:=by simp[List.getD,List.getElem?_eq_getElem h]
def kidsTo(N:List Nod)(i:Int)(m:Nat):List Nat:=(List.range m).filter fun k=>decide ((N.getD k n0).up=i)
def kids(N:List Nod)(i:Int):List Nat:=if isI i N.length then kidsTo N i N.length else []
theorem Aia{N:List Nod}{i:Int}{k:Nat}(hk:k<N.length)(h:N[k].up=i):kidsTo N i (k+1)=kidsTo N i k ++ [k]:=by
 unfold kidsTo
 rw[List.range_succ,List.filter_append]
 simp[List.getD,List.getElem?_eq_getElem hk,h]
theorem AjU{N:List Nod}{i:Int}{k:Nat}(hk:k<N.length)(h:N[k].up≠i):kidsTo N i (k+1)=kidsTo N i k:=by
 unfold kidsTo
 rw[List.range_succ,List.filter_append]
 simp[List.getD,List.getElem?_eq_getElem hk,h]
def NisP(Γ:Gam)(w:World)(l:List Nat)(e:Ending)(w':World):Prop:=∃(A:Option Addr) (c:Nat) (Γ':Gam),e=.returned (.slice A l.length c)/\CapOk A l.length c/\SlG Γ' A l.length (nis l)/\Ext Γ w Γ' w'
theorem Ad5(Γ:Gam)(x:Sl)(N:List Nod)(i:Int)(w:World)(ok:Ok Γ w)(h:NG Γ x N)(hb:N.length<=65535):Calls Tryz.prog 35 #[.agg [x.v].toArray,.int .i64 i] w (NisP Γ w (kids N i)):=by
 have M:=bx (MM.start ok)
 have HN:=bx h
 have LN:=bx h.n
 have HB:=bx hb
 have hmx:=h.max
 have hl:([[x.v]]:List (List Value)).map List.length = [1]:=rfl
 have IS:Bx (∀Γ w,Ok Γ w->Calls Tryz.prog 61 #[.agg [x.v].toArray,.int .i64 i] w fun e w'=>e=.returned (.bool (isI i N.length))/\Ext Γ w Γ w'):=⟨fun Γ w ok=>by have:=Ac9 Γ x i w ok;rwa [h.n]at this⟩
 clear h ok hb
 change Calls Tryz.prog _ #[.agg (fl [[x.v]]).toArray,_] _ _
 go_enter Tryz.func35,Tryz.ntmps35
 go_wp2_with (refine zBYo (hl) ?_;clear M;intro w' g M)
 go_loopw [5,6] (fun l j wr=>∃(k:Nat) (A1:Option Addr) (c1:Nat),k<=x.n/\j=.int .i64 k/\(k=0\/isI i N.length=true)/\l=.slice A1 (kidsTo N i k).length c1/\(kidsTo N i k).length<=k/\MM Γ w Γ wr [⟨g,[[x.v]],[1]⟩] [⟨.slice A1 (kidsTo N i k).length c1,3,1,(kidsTo N i k).length,nis (kidsTo N i k)⟩]) (fun _ j _=>x.n-(intOf j).toNat)
 case atStart=>exact⟨0,none,0,Nat.zero_le _,rfl,.inl rfl,rfl,Nat.le_refl 0,M.out.row0 _ _⟩
 case round=>
  obtain⟨k,A1,c1,hk,rfl,hv,rfl,hlen,hM⟩:=hrel
  clear M
  have M:=bx hM
  have HV:=bx hv
  clear hM hv
  by_cases hkn:k<x.n
  .have hkl:k<N.length:=by rw[<-LN.out];exact hkn
   have hki:(k:Int)<(x.n:Int):=by omega
   have hk0:0<=(k:Int):=by omega
   cases hi:isI i N.length with
   |false=>
    rw[hi]at IS
    have hk0':k=0:=HV.out.elim id (fun h=>by rw[hi]at h;cases h)
    have HK:Bx (kids N i = []):=⟨by unfold kids;rw[hi];rfl⟩
    subst hk0'
    go_wp2_with (refine zLDo (M.out.at0) ?_)
    refine zCA M (IS.out _ _ M.ok) ?_;clear M;intro w1 M
    go_wp2_with (fail)
    go_ret
    obtain⟨Γ',h1,h2,h3,h4⟩:=M.out.frz
    unfold NisP
    rw[HK.out]
    exact⟨A1,c1,Γ',rfl,h1,h2,h4.ext⟩
   |true=>
    rw[hi]at IS
    have HI:=bx hi
    obtain⟨gt,hA,hc⟩:=HN.out.at (fun x _=>AbW x) k hkl
    have HA:=bx (AeB hA)
    have HC:=bx hc
    have YES:=bx (Aia (i:=i) hkl)
    have NO:=bx (AjU (i:=i) hkl)
    have HKN:=bx hkn
    have hx5:(kidsTo N i k).length+1<=65536:=by have:=HB.out;omega
    clear hA hc hi HV
    generalize N[k]=y at *
    generalize kidsTo N i k=K at *
    by_cases he:y.up=i
    .subst he
     have YES':=bx (YES.out rfl)
     clear YES NO
     go_wp2_with (refine zLDo (M.out.at0) ?_)
     refine zCA M (IS.out _ _ M.ok) ?_;clear M;intro w1 M
     go_wp2_with (first|refine zLE M.out.at0 (HA.out) ?_|refine zRD (CL.of HC.out (AaO _) M.ok) ?_|((with_reducible apply Aa6 M.out AbP);rfl;rfl;rfl;rfl;intro w' g M' hb';(replace M:=bx M';clear M');clear hb')|(at_builtin;(with_reducible apply AaW M.out AbP);rfl;exact Abj _ _;(unfold maxLen;omega);omega;rfl;rfl;rfl;rfl;intro A' c' w' M';(replace M:=bx M';clear M')))
     go_roundw
     case rel=>exact⟨k+1,A',c',by omega,by go_num,.inr (by trivial),by rw[YES'.out,List.length_append];rfl,by rw[YES'.out,List.length_append];simp;omega,by rw[YES'.out,Ake,List.length_append];exact M.out⟩
     case measure=>have:=HKN.out;simp[intOf];omega
    .have NO':=bx (NO.out he)
     have he':(y.up==i)=false:=by simpa using he
     clear YES NO
     go_wp2_with (refine zLDo (M.out.at0) ?_)
     refine zCA M (IS.out _ _ M.ok) ?_;clear M;intro w1 M
     go_wp2_with (first|refine zLE M.out.at0 (HA.out) ?_|refine zRD (CL.of HC.out (AaO _) M.ok) ?_)
     go_roundw
     case rel=>exact⟨k+1,A1,c1,by omega,by go_num,.inr (by trivial),by rw[NO'.out],by rw[NO'.out];omega,by rw[NO'.out];exact M.out⟩
     case measure=>have:=HKN.out;simp[intOf];omega
  .obtain rfl:k=x.n:=by omega
   have HK:Bx (kids N i=kidsTo N i x.n):=⟨by
    unfold kids
    rw[LN.out]at *
    rcases HV.out with h|h
    .split
     .rfl
     .rw[h];rfl
    .rw[h];rfl⟩
   go_wp2_with (refine zLDo (M.out.at0) ?_)
   go_ret
   obtain⟨Γ',h1,h2,h3,h4⟩:=M.out.frz
   unfold NisP
   rw[HK.out]
   exact⟨A1,c1,Γ',rfl,h1,h2,h4.ext⟩
theorem Akf(l:List Nat):nis l=l.flatMap fun k=>[.int .i64 (k:Int)]:=by
 induction l with
 |nil=>rfl
 |cons a t ih=>simp only[List.flatMap_cons,<-ih];rfl
theorem Acr{Γ:Gam}{A:Option Addr}{l:List Nat}(h:SlG Γ A l.length (nis l))(i:Nat)(hi:i<l.length):∃g,A=some ⟨g,0,none⟩/\Chk Γ g i (fl [[.int .i64 (l[i]:Int)]]):=by
 rw[Akf]at h
 obtain⟨g,h1,h2⟩:=h.at (k:=1) (fun x _=>rfl) rfl i hi
 exact⟨g,h1,by rw[Nat.mul_one]at h2;exact h2⟩
def Ahead(N:List Nod):Prop:=∀k (h:k<N.length),N[k].up<(k:Int)
def Sto.liveF(s:Sto):Nat->Int->Bool
 |0,_=>false
 |f+1,i=>s.qual i||(kids s.nodes i).any fun k=>s.liveF f (k:Int)
theorem Abt{N:List Nod}{i:Int}{k:Nat}(h:k∈kids N i):∃hk:k<N.length,N[k].up=i:=by
 unfold kids at h
 split at h
 .unfold kidsTo at h
  simp only[List.mem_filter,List.mem_range,decide_eq_true_eq]at h
  refine⟨h.1,Eq.trans ?_ h.2⟩
  simp[List.getD,List.getElem?_eq_getElem h.1]
 .cases h
theorem Ahz(N:List Nod)(i:Int):(kids N i).length<=N.length:=by
 unfold kids
 split
 .exact Nat.le_trans (List.length_filter_le _ _) (by simp)
 .simp
theorem AgW{s:Sto}{f:Nat}{i:Int}(h:s.qual i=true):s.liveF (f+1) i=true:=by simp[Sto.liveF,h]
theorem AjR{s:Sto}{f:Nat}{i:Int}{k:Nat}(hk:k<(kids s.nodes i).length)(h:s.liveF f ((kids s.nodes i)[k]:Int)=true):s.liveF (f+1) i=true:=by
 simp only[Sto.liveF,Bool.or_eq_true,List.any_eq_true]
 exact .inr ⟨_,List.getElem_mem hk,h⟩
theorem Akk{s:Sto}{f:Nat}{i:Int}(h0:s.qual i=false)(h:∀j (hj:j<(kids s.nodes i).length),s.liveF f ((kids s.nodes i)[j]:Int)=false):s.liveF (f+1) i=false:=by
 simp only[Sto.liveF,h0,Bool.false_or,List.any_eq_false]
 intro x hx
 obtain⟨j,hj,rfl⟩:=List.getElem_of_mem hx
 simp[h j hj]
theorem AgV(s:Sto)(v:Sls)(hs:0<s.c.spe.n)(hb:s.nodes.length<=65535)(f:Nat)(i:Int)(Γ:Gam)(w:World)(ok:Ok Γ w)(h:StG Γ v s)
  (rec:∀k∈kids s.nodes i,∀(Γ:Gam) (w:World),Ok Γ w->StG Γ v s->Calls Tryz.prog 46 #[.agg (fl (stP s v)).toArray,.int .i64 (k:Int)] w fun e w'=>e=.returned (.bool (s.liveF f (k:Int)))/\Ext Γ w Γ w') :
  Calls Tryz.prog 46 #[.agg (fl (stP s v)).toArray,.int .i64 i] w fun e w'=>e=.returned (.bool (s.liveF (f+1) i))/\Ext Γ w Γ w':=by
 have M:=bx (MM.start ok)
 have QU:=bx (fun w ok=>AdY Γ s v i hs w ok h)
 have CH:=bx (fun w ok=>Ad5 Γ v.nodes s.nodes i w ok h.nodes hb)
 have LV:=bx (fun h:s.qual i=true=>AgW (f:=f) h)
 have LY:=bx (fun k (hk:k<(kids s.nodes i).length)=>AjR (s:=s) (f:=f) (i:=i) hk)
 have LN:=bx (fun h:s.qual i=false=>Akk (s:=s) (f:=f) h)
 have KL:=bx (Ahz s.nodes i)
 have HB:=bx hb
 have HG:=bx h
 have RC:=bx rec
 have OK:=bx ok
 clear ok h hb hs rec
 generalize s.liveF (f+1) i=b at *
 generalize kids s.nodes i=K at *
 cases hq:s.qual i with
 |true=>
  rw[hq]at QU
  have LV':=bx (LV.out hq)
  clear LV LN LY hq
  go_enter Tryz.func46,Tryz.ntmps46
  go_wp2_with (first|(refine zBYo (AaD s v) ?_;clear M;intro w' g M)|refine zLDo (M.out.at0) ?_)
  refine zCA M (QU.out _ M.ok) ?_;clear M;intro w1 M
  go_wp2_with (fail)
  go_ret
  exact⟨by rw[LV'.out];rfl,M.out.ext⟩
 |false=>
  rw[hq]at QU
  have LN':=bx (LN.out hq)
  clear LV LN hq
  go_enter Tryz.func46,Tryz.ntmps46
  go_wp2_with (first|(refine zBYo (AaD s v) ?_;clear M;intro w' g M)|refine zLDo (M.out.at0) ?_)
  refine zCA M (QU.out _ M.ok) ?_;clear M;intro w1 M
  go_wp2_with (refine zLDo (M.out.at0) ?_)
  refine(CH.out _ M.ok).mono ?_
  rintro e1 w1 ⟨A,c,Γ',rfl,hcap,hsl,hx⟩
  replace M:=bx (M.out.call hx)
  have HG':=bx (HG.out.mono hx.le)
  have HS:=bx hsl
  have HX:=bx M.out.ext
  clear hcap hsl hx CH QU HG
  have hkl:K.length<=65535:=Nat.le_trans KL.out HB.out
  go_wp2_with fail
  go_loopw [6] (fun j wr=>∃k:Nat,k<=K.length/\j=.int .i64 k/\(∀m (hm:m<K.length),m<k->s.liveF f (K[m]:Int)=false)/\MM Γ w Γ' wr [⟨g,stP s v,stL⟩] []) (fun j _=>K.length-(intOf j).toNat)
  case atStart=>exact⟨0,Nat.zero_le _,rfl,fun j _ hj=>absurd hj (Nat.not_lt_zero _),M.out⟩
  case round=>
   obtain⟨k,hk,rfl,hno,hM⟩:=hrel
   clear M
   have M:=bx hM
   have HNO:=bx hno
   clear hM hno
   by_cases hkn:k<K.length
   .obtain⟨gk,rfl,hc⟩:=Acr HS.out k hkn
    have R1:=bx (fun w1 (o:Ok Γ' w1)=>RC.out _ (List.getElem_mem hkn) Γ' w1 o HG'.out)
    have Y1:=bx (LY.out k hkn)
    have NX:=bx (fun(e:s.liveF f (K[k]:Int)=false) m (hm:m<K.length) (hmk:m<k+1)=>(Nat.lt_or_eq_of_le (Nat.le_of_lt_succ hmk)).elim (HNO.out m hm) (fun h=>by subst h;exact e))
    have hki:(k:Int)<(K.length:Int):=by omega
    have hk0:0<=(k:Int):=by omega
    have HKN:=bx hkn
    have Q0:=bx M.out.at0.cls
    have QC:=bx (CL.cls (ls:=[1]) hc rfl M.ok)
    clear hc
    generalize K[k]=y at *
    have EC:=bx (clsE M.out R1.out)
    cases hlv:s.liveF f (y:Int)with
    |true=>
     rw[hlv]at EC
     have Y1':=bx (Y1.out hlv)
     clear Y1 NX hlv LN'
     go_wp2_with fail
     refine zRG ?_
     repeat((go_big_quiet_want;first|(first|(refine zQL Q0.out (AaD _ _) ?_;go_big_quiet_on;refine zNM ?_)|(refine zQR QC.out rfl ?_;go_big_quiet_on;refine zNM ?_)|(refine zQC (AaI EC.out) Tryz.func46 ?_;go_big_quiet_on;refine zNM ?_))|(refine zQO ?_;go_big_quiet_on)))
     (refine zQN ?_;clear M;intro w4 M)
     clear Q0 QC EC
     go_wp2_with fail
     go_ret
     exact⟨by rw[Y1'.out];rfl,Ext.below OK.out M.bel⟩
    |false=>
     rw[hlv]at EC
     have NX':=bx (NX.out hlv)
     clear Y1 NX hlv LN'
     go_wp2_with fail
     refine zRG ?_
     repeat((go_big_quiet_want;first|(first|(refine zQL Q0.out (AaD _ _) ?_;go_big_quiet_on;refine zNM ?_)|(refine zQR QC.out rfl ?_;go_big_quiet_on;refine zNM ?_)|(refine zQC (AaI EC.out) Tryz.func46 ?_;go_big_quiet_on;refine zNM ?_))|(refine zQO ?_;go_big_quiet_on)))
     (refine zQN ?_;clear M;intro w4 M)
     clear Q0 QC EC
     go_wp2_with fail
     go_roundw
     case rel=>exact⟨k+1,by omega,by go_num,NX'.out,M.out⟩
     case measure=>simp[intOf];omega
   .obtain rfl:k=K.length:=by omega
    have HR:=bx (LN'.out (fun j hj=>HNO.out j hj hj))
    go_wp2_with fail
    go_ret
    exact⟨by rw[HR.out];rfl,Ext.below OK.out M.bel⟩
theorem Ahy(s:Sto)(v:Sls)(hs:0<s.c.spe.n)(ha:Ahead s.nodes)(hb:s.nodes.length<=65535):∀(f:Nat) (i:Int) (Γ:Gam) (w:World),0<=i->(s.nodes.length:Int)<=i+f->Ok Γ w->StG Γ v s ->
  Calls Tryz.prog 46 #[.agg (fl (stP s v)).toArray,.int .i64 i] w fun e w'=>e=.returned (.bool (s.liveF (f+1) i))/\Ext Γ w Γ w'
 |0,i,Γ,w,hi,hf,ok,h=>AgV s v hs hb 0 i Γ w ok h fun k hk=>by
  obtain⟨h1,h2⟩:=Abt hk
  have:=ha k h1
  omega
 |f+1,i,Γ,w,hi,hf,ok,h=>AgV s v hs hb (f+1) i Γ w ok h fun k hk Γ' w' ok' h'=>by
  obtain⟨h1,h2⟩:=Abt hk
  have:=ha k h1
  exact Ahy s v hs ha hb f k Γ' w' (by omega) (by omega) ok' h'
def Sto.lives(s:Sto):List Bool:=(List.range s.nodes.length).map fun(k:Nat)=>s.liveF (s.nodes.length+1) (k:Int)
def bls(l:List Bool):List Value:=l.map Value.bool
theorem Alh:ElT Tryz.prog 56 4 1 1:=AcX Tryz.underlying56 (by kernel_rfl) (by decide) (by decide)
def BlsP(Γ:Gam)(w:World)(l:List Bool)(e:Ending)(w':World):Prop:=∃(A:Option Addr) (c:Nat) (Γ':Gam),e=.returned (.slice A l.length c)/\CapOk A l.length c/\SlG Γ' A l.length (bls l)/\Ext Γ w Γ' w'
theorem AgU(Γ:Gam)(s:Sto)(v:Sls)(hs:0<s.c.spe.n)(ha:Ahead s.nodes)(hb:s.nodes.length<=65535)(w:World)(ok:Ok Γ w)(h:StG Γ v s) :
  Calls Tryz.prog 15 #[.agg (fl (stP s v)).toArray] w (BlsP Γ w s.lives):=by
 have M:=bx (MM.start ok)
 have LN:=bx h.nodes.n
 have LV:=bx (fun(k:Nat) w1 (o:Ok Γ w1)=>Ahy s v hs ha hb s.nodes.length (k:Int) Γ w1 (by omega) (by omega) o h)
 have HL:Bx (s.lives.length=s.nodes.length):=⟨by simp[Sto.lives]⟩
 have HG:Bx (∀k (h:k<s.lives.length),s.lives[k]=s.liveF (s.nodes.length+1) (k:Int)):=⟨fun k h=>by simp[Sto.lives]⟩
 clear h hs ha ok
 generalize s.lives=LL at *
 go_enter Tryz.func15,Tryz.ntmps15
 go_wp2_with (refine zBYo (AaD s v) ?_;clear M;intro w' g M)
 go_loopw [3,4] (fun l j wr=>∃(k:Nat) (A1:Option Addr) (c1:Nat),k<=v.nodes.n/\j=.int .i64 k/\l=.slice A1 k c1/\MM Γ w Γ wr [⟨g,stP s v,stL⟩] [⟨.slice A1 k c1,4,1,k,bls (LL.take k)⟩]) (fun _ j _=>v.nodes.n-(intOf j).toNat)
 case atStart=>exact⟨0,none,0,Nat.zero_le _,rfl,rfl,M.out.row0 _ _⟩
 case round=>
  obtain⟨k,A1,c1,hk,rfl,rfl,hM⟩:=hrel
  clear M
  have M:=bx hM
  clear hM
  by_cases hkn:k<v.nodes.n
  .have hkl:k<LL.length:=by rw[HL.out,<-LN.out];exact hkn
   have hk5:k<65535:=by rw[LN.out]at hkn;omega
   have hki:(k:Int)<(v.nodes.n:Int):=by omega
   have hk0:0<=(k:Int):=by omega
   have HKN:=bx hkn
   have TK:Bx (bls (LL.take (k+1))=bls (LL.take k) ++ [.bool (s.liveF (s.nodes.length+1) (k:Int))]):=⟨by
    unfold bls
    rw[List.take_succ_eq_append_getElem hkl,List.map_append,HG.out k hkl];rfl⟩
   have L1:=bx (LV.out k)
   clear LV
   generalize s.liveF (s.nodes.length+1) (k:Int)=b at *
   go_wp2_with (refine zLDo (M.out.at0) ?_)
   refine zCA M (L1.out _ M.ok) ?_;clear M;intro w1 M
   go_wp2_with (first|((with_reducible apply Aa6 M.out Alh);rfl;rfl;rfl;rfl;intro w' g M' hb';(replace M:=bx M';clear M');clear hb')|(at_builtin;(with_reducible apply AaW M.out Alh);rfl;exact AhP _;(unfold maxLen;omega);omega;rfl;rfl;rfl;rfl;intro A' c' w' M';(replace M:=bx M';clear M')))
   go_roundw
   case rel=>exact⟨k+1,A',c',by omega,by go_num,by go_num,by rw[TK.out];exact M.out⟩
   case measure=>have:=HKN.out;simp[intOf];omega
  .obtain rfl:k=v.nodes.n:=by omega
   have HT:Bx (LL.take v.nodes.n=LL):=⟨List.take_of_length_le (by rw[HL.out,LN.out];exact Nat.le_refl _)⟩
   have HE:Bx (v.nodes.n=LL.length):=⟨by rw[HL.out,LN.out]⟩
   go_wp2_with (refine zLDo (M.out.at0) ?_)
   go_ret
   obtain⟨Γ',h1,h2,h3,h4⟩:=M.out.frz
   rw[HT.out]at h2
   unfold BlsP
   rw[<-HE.out]
   exact⟨A1,c1,Γ',rfl,h1,h2,h4.ext⟩
end Go.Proofs.YtmgeheaneohldaaGreat
namespace Go.Proofs.YtmgeheaneohldaaGreat
theorem AmU(n:Int)(m:Nat)(hm:m<9223372036854775808):bits .and .i64 n (m:Int)=(((BitVec.ofInt 64 n).toNat &&& m:Nat):Int):=by
 have h2:(BitVec.ofInt 64 (m:Int)).toNat=m:=by simp[BitVec.toNat_ofInt];omega
 have hle:((BitVec.ofInt 64 n).toNat &&& m)<=m:=Nat.and_le_right
 show IntKind.i64.wrap ((BitVec.ofInt 64 n &&& BitVec.ofInt 64 (m:Int)).toNat:Int)=_
 rw[BitVec.toNat_and,h2]
 generalize(BitVec.ofInt 64 n).toNat &&& m=x at *
 have h:(-9223372036854775808:Int)<=(x:Int)/\(x:Int)<9223372036854775808:=by omega
 simp[IntKind.wrap,IntKind.bits,IntKind.signed]<;>omega
theorem Afz(n:Int)(k:Nat)(hk:k<=63):bits .and .i64 n ((2 ^ k-1:Nat):Int)=n%(2 ^ k:Nat):=by
 have h1:2 ^ k<=9223372036854775808:=by have:=Nat.pow_le_pow_right (show 0<2 by decide) hk;simpa using this
 have hp:=Nat.two_pow_pos k
 rw[AmU n _ (by omega),Nat.and_two_pow_sub_one_eq_mod,BitVec.toNat_ofInt]
 have hd:((2 ^ k:Nat):Int) ∣ ((2 ^ 64:Nat):Int):=by exact_mod_cast Nat.pow_dvd_pow 2 (by omega)
 have h0:0<=n%((2 ^ 64:Nat):Int):=Int.emod_nonneg _ (by decide)
 rw[Int.natCast_emod,Int.toNat_of_nonneg h0,Int.emod_emod_of_dvd _ hd]
theorem Agy(n:Int):bits .and .i64 n 65535=n%65536:=Afz n 16 (by decide)
end Go.Proofs.YtmgeheaneohldaaGreat
namespace Go.Proofs.YtmgeheaneohldaaGreat.Old
open Go.RowKit
structure Bk where
 pre:List Value
 slot:Int
 root:List Int
 parent:List Int
 rest:List Value
def bc(b:Bk):List Value:=b.pre++(.int .u64 b.slot::(ints .u8 b.root++(ints .u8 b.parent++b.rest)))
structure BkOk(b:Bk):Prop where
 pre:b.pre.length=66
 root:b.root.length=32
 parent:b.parent.length=32
 rest:b.rest.length=107
 one1:∀u∈b.pre,u.oneCell'=true
 one2:∀u∈b.rest,u.oneCell'=true
theorem BkOk.len{b:Bk}(h:BkOk b):(bc b).length=238:=by simp[bc,ints,h.pre,h.root,h.parent,h.rest]
structure Nd where
 b:Bk
 up:Int
 st:Int
def nc(n:Nd):List Value:=bc n.b ++ [.int .i64 n.up,.int .i64 n.st]
def NOk(ns:List Nd):Prop:=∀x∈ns,BkOk x.b
theorem Ams{n:Nd}(h:BkOk n.b):(nc n).length=240:=by simp[nc,h.len]
theorem NOk.len{ns:List Nd}(h:NOk ns):∀x∈ns,(nc x).length=240:=fun x hx=>Ams (h x hx)
def NRow(w:World)(A:Option Addr)(n:Nat)(ns:List Nd):Prop:=ns.length=n/\NOk ns/\(0<n->∃g post,A=some ⟨g,0,none⟩/\Has w g (ns.flatMap nc++post))
theorem NRow.below{w w':World}{A:Option Addr}{n:Nat}{ns:List Nd}(h:NRow w A n ns)(hb:Below w.heap.size w w'):NRow w' A n ns:=
 ⟨h.1,h.2.1,fun hn=>by
  obtain⟨g,post,h1,h2⟩:=h.2.2 hn
  exact⟨g,post,h1,h2.below hb h2.lt⟩⟩
theorem AfJ{w:World}{g o:Nat}{cs ds:List Value}(k:Nat)(h:w.rangeAt g o cs)(hp:∀j u,ds[j]? = some u->cs[k+j]? = some u):w.rangeAt g (o+k) ds:=fun j u hu=>by
 rw[Nat.add_assoc]
 exact h _ _ (hp j u hu)
theorem _root_.Go.Proofs.YtmgeheaneohldaaGreat.Has.rangeAll{w:World}{g:Nat}{cs:List Value}(h:Has w g cs):w.rangeAt g 0 cs:=fun j u hu=>by rw[h.cell,Nat.zero_add];exact hu
theorem AmQ{b:Bk}(h:BkOk b):∀j u,(ints .u8 b.root)[j]? = some u->(bc b)[67+j]? = some u:=fun j u hu=>by
 have hj:j<(ints .u8 b.root).length:=(List.getElem?_eq_some_iff.1 hu).1
 unfold bc
 rw[List.getElem?_append_right (by rw[h.pre];omega),h.pre,show 67+j-66=j+1 by omega,List.getElem?_cons_succ,List.getElem?_append_left hj]
 exact hu
theorem Anf{n:Nd}(h:BkOk n.b){k:Nat}{u:Value}(hk:(bc n.b)[k]? = some u):(nc n)[k]? = some u:=by
 unfold nc
 rw[List.getElem?_append_left (List.getElem?_eq_some_iff.1 hk).1]
 exact hk
theorem Ane{n:Nd}(h:BkOk n.b):(nc n)[238]? = some (.int .i64 n.up):=by
 unfold nc
 rw[List.getElem?_append_right (by rw[h.len];omega),h.len];rfl
theorem Al7{n:Nd}(h:BkOk n.b):(nc n)[239]? = some (.int .i64 n.st):=by
 unfold nc
 rw[List.getElem?_append_right (by rw[h.len];omega),h.len];rfl
theorem _root_.Go.Proofs.YtmgeheaneohldaaGreat.Has.nodeRoot{w:World}{g:Nat}{ns:List Nd}{post:List Value}(h:Has w g (ns.flatMap nc++post))(hk:NOk ns)(i:Nat)(hi:i<ns.length):w.rangeAt g (i*240+67) (ints .u8 ns[i].b.root):=
 AfJ 67 (h.rangeP hk.len i hi) fun j u hu=>Anf (hk _ (List.getElem_mem hi)) (AmQ (hk _ (List.getElem_mem hi)) j u hu)
theorem _root_.Go.Proofs.YtmgeheaneohldaaGreat.Has.nodeCell{w:World}{g:Nat}{ns:List Nd}{post:List Value}(h:Has w g (ns.flatMap nc++post))(hk:NOk ns)(i:Nat)(hi:i<ns.length)(k:Nat)(u:Value)(hu:(nc ns[i])[k]? = some u):w.cell? ⟨g,i*240+k,none⟩=some u:=
 h.rangeP hk.len i hi k u hu
theorem Af0{P:Program}{ops:Array Oper}{rest:List Oper}{op:Oper}{a:Act}{w:World}{Q:Exit->Act->World->Prop}(ty:TypeId)(x:Operand)(ho:op.op=.load ty x)
  (hgd:Region.wanted op (yielded ops a.tmps)=true) (g o:Nat) (cs:List Value) (hr:w.rangeAt g o cs) (hx:a.eval x=.pointer (some ⟨g,o,none⟩)) {d:TypeDesc} (hu:P.underlying ty=some d) (hd:d.isRow=true) (hc:P.cellsOf ty=cs.length)
  (h:wpList P ops Q rest (a.put op.dst (.agg cs.toArray)) w):wpList P ops Q (op::rest) a w:=
 Ab8 hgd fun K hK=>wp_load_mid ty x ho g o hx cs d hr hu hd (AbZ hu hc) (hK _ _ h)
theorem Abl{P:Program}{C:World->Prop}{op:Oper}{a:Act}{K:Act->Prop}(ty:TypeId)(x:Operand)(ho:op.op=.load ty x)
  (g o:Nat) (cs:List Value) (hx:a.eval x=.pointer (some ⟨g,o,none⟩)) (hr:∀w,C w->w.rangeAt g o cs)
  {d:TypeDesc} (hu:P.underlying ty=some d) (hd:d.isRow=true) (hc:P.cellsOf ty=cs.length)
  (h:K (a.put op.dst (.agg cs.toArray))):op.quiet P a C K:=by
 refine⟨_,fun w hw=>?_,h⟩
 unfold Oper.quietAt execOp
 have:=run_loadVar_mid (P:=P) w g o ty cs d (hr w hw) hu hd (AbZ hu hc)
 simp only[ho,hx,Instr.loadAt,Instr.sureAddr,Sem.run_bind,Sem.run_pure,Result.andThen_ok,this]
 exact⟨rfl,rfl⟩
theorem quiet_cell{P:Program}{C:World->Prop}{o:Oper}{a:Act}{K:Act->Prop}(ty:TypeId)(x:Operand)(ho:o.op=.load ty x)(p:Addr)(v:Value)
  (hx:a.eval x=.pointer (some p)) (hr:∀w,C w->(Instr.loadAt ty (.pointer (some p))).run P w=.ok v w) (hk:K (a.put o.dst v)):o.quiet P a C K:=by
 refine⟨_,fun w hw=>?_,hk⟩
 unfold Oper.quietAt execOp
 simp only[ho,hx,hr w hw,Sem.run_bind,Sem.run_pure,Result.andThen_ok]
 exact⟨rfl,rfl⟩
theorem Ads{w:World}{p:Addr}{v:Value}(hc:w.cell? p=some v):(Instr.loadAt 44 (.pointer (some p))).run Tryz.prog w=.ok v w:=by
 simp[Instr.loadAt,Instr.sureAddr,loadVar,isAgg,run_underlying Tryz.underlying44,run_load,hc]
theorem Ahk{w:World}{p:Addr}{v:Value}(hc:w.cell? p=some v):(Instr.loadAt 3 (.pointer (some p))).run Tryz.prog w=.ok v w:=by
 simp[Instr.loadAt,Instr.sureAddr,loadVar,isAgg,run_underlying Tryz.underlying3,run_load,hc]
theorem cells_root{l:List Int}(h:l.length=32):Tryz.prog.cellsOf 29=(ints .u8 l).length:=by rw[ints,List.length_map,h];kernel_rfl
def FP(ns:List Nd)(r:List Int)(w:World)(e:Ending)(w':World):Prop:=
 (∃k:Int,e=.returned (.int .i64 k)/\((k = -1/\∀x∈ns,x.b.root≠r)\/∃(i:Nat) (hi:i<ns.length),k=i/\ns[i].b.root=r/\∀j (hj:j<i),(ns[j]'(Nat.lt_trans hj hi)).b.root≠r))/\Below w.heap.size w w'
theorem Akz(A:Option Addr)(n c:Nat)(ns:List Nd)(r:List Int)(hr:r.length=32)(w:World)(h:NRow w A n ns)(hn:n<=4096) :
  Calls Tryz.prog 33 #[.agg #[.slice A n c],.agg (ints .u8 r).toArray] w (FP ns r w):=by
 have HR:=bx hr
 have HROW:=bx h
 have HLEN:=bx h.1
 have X0:Bx (Has ((w.alloc (.cells #[.slice A n c] 46)).alloc (.cells (ints .u8 r).toArray 29)) w.heap.size [.slice A n c]):=⟨(Has.new w [.slice A n c] 46).alloc _⟩
 have X1:Bx (Has ((w.alloc (.cells #[.slice A n c] 46)).alloc (.cells (ints .u8 r).toArray 29)) (w.heap.size+1) (ints .u8 r)):=⟨by have:=Has.new (w.alloc (.cells #[.slice A n c] 46)) (ints .u8 r) 29;simpa using this⟩
 have B0:Bx (Below w.heap.size w ((w.alloc (.cells #[.slice A n c] 46)).alloc (.cells (ints .u8 r).toArray 29))):=⟨((Below.refl w.heap.size w).alloc (Nat.le_refl _) _).alloc (by simp) _⟩
 clear h hr
 go_enter Tryz.func33,Tryz.ntmps33
 go_wp2_with fail
 go_loopw [5] (fun i wr=>∃k:Nat,k<=n/\i=.int .i64 k/\(∀j (hj:j<ns.length),j<k->ns[j].b.root≠r)/\Has wr w.heap.size [.slice A n c]/\Has wr (w.heap.size+1) (ints .u8 r)/\Below w.heap.size w wr) (fun i _=>n-(intOf i).toNat)
 case atStart=>exact⟨0,Nat.zero_le _,rfl,fun j _ hj=>absurd hj (Nat.not_lt_zero _),X0.out,X1.out,B0.out⟩
 case round=>
  obtain⟨k,hk,rfl,hno,hx0,hx1,hbel⟩:=hrel
  have HNO:=bx hno
  have Y0:=bx hx0
  have Y1:=bx hx1
  have BY:=bx hbel
  clear hno hx0 hx1 hbel X0 X1 B0
  have CN:=bx (fun(w1:World) (h1:Cls wr.heap.size wr w1)=>Ads ((Y0.out.below h1.out Y0.out.lt).cell 0))
  have hc:wr.cell? ⟨w.heap.size,0,none⟩=some (.slice A n c):=Y0.out.cell 0
  by_cases hkn:k<n
  .have hkl:k<ns.length:=by rw[HLEN.out];exact hkn
   obtain⟨g1,p1,rfl,hg1⟩:=(HROW.out.below BY.out).2.2 (by omega)
   have CR:=bx (fun(w1:World) (h1:Cls wr.heap.size wr w1)=>(hg1.below h1.out hg1.lt).nodeRoot HROW.out.2.1 k hkl)
   have C1:=bx (fun(w1:World) (h1:Cls wr.heap.size wr w1)=>Y1.out.below h1.out Y1.out.lt)
   have HRK:=bx ((HROW.out.2.1 _ (List.getElem_mem hkl)).root)
   have hq:=AdW HRK.out HR.out
   have HFD:Bx (ns[k].b.root=r->∀w',Below w.heap.size w w'->FP ns r w (.returned (.int .i64 k)) w'):=⟨fun e w' h=>
    ⟨⟨k,rfl,.inr ⟨k,hkl,rfl,e,fun j hj=>HNO.out j (Nat.lt_trans hj hkl) hj⟩⟩,h⟩⟩
   have HNX:Bx (ns[k].b.root≠r->∀j (hj:j<ns.length),j<k+1->ns[j].b.root≠r):=⟨fun e j hj hjk=>by
    rcases Nat.lt_or_eq_of_le (Nat.le_of_lt_succ hjk)with h|h
    .exact HNO.out j hj h
    .subst h;exact e⟩
   have hki:(k:Int)<(n:Int):=by omega
   have hk0:0<=(k:Int):=by omega
   clear hg1
   generalize ns[k].b.root=rk at *
   by_cases he:rk=r
   .rw[decide_eq_true he]at hq
    have HE:=bx he
    clear he
    go_wp2_with fail
    refine AbD wr.heap.size (by kernel_rfl) (by kernel_rfl) ?_
    repeat(first|go_big_quiet_skip|(go_big_quiet_want;first|(first|((with_reducible refine quiet_cell 44 _ rfl _ _ ?_ CN.out ?_);rfl;go_big_quiet_on;(simp only[Act.put,List.setIfInBounds_toArray,List.set_cons_succ,List.set_cons_zero]))|((with_reducible refine Abl 29 _ rfl g1 (k*240+67) (ints .u8 rk) ?_ CR.out Tryz.underlying29 ?_ ?_ ?_);rfl;rfl;exact cells_root HRK.out;go_big_quiet_on;(simp only[Act.put,List.setIfInBounds_toArray,List.set_cons_succ,List.set_cons_zero]))|((with_reducible refine Abq 29 _ rfl _ (ints .u8 r) ?_ C1.out Tryz.underlying29 rfl ?_ ?_);rfl;exact cells_root HR.out;go_big_quiet_on;(simp only[Act.put,List.setIfInBounds_toArray,List.set_cons_succ,List.set_cons_zero])))|(go_big_quiet_op;first|go_big_quiet_on|((with_reducible refine⟨_,fun _ _=>rfl,?_⟩);go_big_quiet_on))))
    refine wpQuiet_nil ?_
    intro w4 hw4
    have B4:=bx (BY.out.trans (hw4.out.mono BY.out.size))
    clear hw4
    go_wp2_with fail
    go_ret
    exact HFD.out HE.out _ B4.out
   .rw[decide_eq_false he]at hq
    have HE:=bx he
    clear he
    go_wp2_with fail
    refine AbD wr.heap.size (by kernel_rfl) (by kernel_rfl) ?_
    repeat(first|go_big_quiet_skip|(go_big_quiet_want;first|(first|((with_reducible refine quiet_cell 44 _ rfl _ _ ?_ CN.out ?_);rfl;go_big_quiet_on;(simp only[Act.put,List.setIfInBounds_toArray,List.set_cons_succ,List.set_cons_zero]))|((with_reducible refine Abl 29 _ rfl g1 (k*240+67) (ints .u8 rk) ?_ CR.out Tryz.underlying29 ?_ ?_ ?_);rfl;rfl;exact cells_root HRK.out;go_big_quiet_on;(simp only[Act.put,List.setIfInBounds_toArray,List.set_cons_succ,List.set_cons_zero]))|((with_reducible refine Abq 29 _ rfl _ (ints .u8 r) ?_ C1.out Tryz.underlying29 rfl ?_ ?_);rfl;exact cells_root HR.out;go_big_quiet_on;(simp only[Act.put,List.setIfInBounds_toArray,List.set_cons_succ,List.set_cons_zero])))|(go_big_quiet_op;first|go_big_quiet_on|((with_reducible refine⟨_,fun _ _=>rfl,?_⟩);go_big_quiet_on))))
    refine wpQuiet_nil ?_
    intro w4 hw4
    have B4:=bx (BY.out.trans (hw4.out.mono BY.out.size))
    have Y4:=bx (Y0.out.below hw4.out Y0.out.lt)
    have Y5:=bx (Y1.out.below hw4.out Y1.out.lt)
    clear hw4
    go_wp2_with fail
    go_roundw
    case rel=>exact⟨k+1,by omega,by go_num,HNX.out HE.out,Y4.out,Y5.out,B4.out⟩
    case measure=>simp[intOf];omega
  .obtain rfl:k=n:=by omega
   go_wp2_with fail
   go_ret
   exact⟨⟨-1,rfl,.inl ⟨rfl,fun x hx=>by
    obtain⟨j,hj,rfl⟩:=List.getElem_of_mem hx
    exact HNO.out j hj (by rw[<-HLEN.out];exact hj)⟩⟩,BY.out⟩
end Go.Proofs.YtmgeheaneohldaaGreat.Old
namespace Go.Proofs.YtmgeheaneohldaaGreat.Old
open Go.RowKit
def zck:List Value:=.int .u64 0::ints .u8 zroot
def zpre:List Value:=zck++zck
def zrest(payload:List Int):List Value:=ints .u8 payload++(List.replicate 8 (.int .u64 0)++(zck++(zck ++ [.bool false])))
def mkB(slot:Int)(root parent payload:List Int):Bk:=⟨zpre,slot,root,parent,zrest payload⟩
def zBlk:Bk:=mkB 0 zroot zroot zroot
def zNode:Nd:=⟨zBlk,0,0⟩
theorem Adg(place:Nat->Option (Nat × Nat))(pre mid post l:List Value)(i:Nat)(v:Value)(rest:List (Nat × Value))(hp:place i=some (pre.length,l.length))(hv:v.cells=l.toArray)(hm:mid.length=l.length) :
  Instr.fill place (pre++mid++post).toArray ((i,v)::rest)=Instr.fill place (pre++l++post).toArray rest:=by
 have h1:v.cells.zipIdx.foldl (fun cs (x:Value × Nat)=>cs.setIfInBounds (pre.length+x.2) x.1) (pre++mid++post).toArray=(pre++l++post).toArray:=by
  have:=AeL pre.length l mid pre post 0 hm (by omega)
  rw[hv,<-Array.foldl_toList,Array.toList_zipIdx]
  exact this
 rw[Instr.fill]
 simp only[hp]
 rw[if_neg (by rw[hv];simp;omega)]
 exact congrArg (fun c=>Instr.fill place c rest) h1
theorem Aew(ps:List (Nat × Value)):Tryz.prog.built 67 ps=Instr.fill (fun i=>(#[(0,238),(238,1),(239,1)]:Array (Nat × Nat))[i]?) (nc zNode).toArray ps:=by kernel_rfl
theorem Aii{b:Bk}(h:BkOk b)(u s:Int):Tryz.prog.built 67 [(0,.agg (bc b).toArray),(1,.int .i64 u),(2,.int .i64 s)]=some (nc ⟨b,u,s⟩).toArray:=by
 rw[Aew]
 have e0:nc zNode = []++bc zBlk ++ [.int .i64 0,.int .i64 0]:=rfl
 rw[e0,Adg _ [] (bc zBlk) _ (bc b) 0 _ _ (by rw[h.len];rfl) rfl (by rw[h.len];rfl)]
 have e1:[]++bc b ++ [Value.int .i64 0,.int .i64 0]=bc b ++ [.int .i64 0] ++ [.int .i64 0]:=by simp
 rw[e1,Adg _ (bc b) [.int .i64 0] _ [.int .i64 u] 1 _ _ (by rw[h.len];rfl) rfl rfl]
 have e2:bc b ++ [Value.int .i64 u] ++ [.int .i64 0]=(bc b ++ [.int .i64 u]) ++ [.int .i64 0] ++ []:=by simp
 rw[e2,Adg _ (bc b ++ [Value.int .i64 u]) [Value.int .i64 0] _ [Value.int .i64 s] 2 _ _ (by simp[h.len]) rfl rfl]
 simp[Instr.fill,nc]
theorem AkI{P:Program}{ops:Array Oper}{rest:List Oper}{o:Oper}{a:Act}{w:World}{Q:Exit->Act->World->Prop}(hg:o.guard=none)(t:TypeId)(parts:Array (Nat × Operand))(ho:o.op=.build t parts)
  (ps:List (Nat × Value)) (cells:List Value) (hps:parts.toList.map (fun x=>(x.1,a.eval x.2))=ps) (hf:P.built t ps=some cells.toArray) (h:wpList P ops Q rest (a.put o.dst (.agg cells.toArray)) w):wpList P ops Q (o::rest) a w:=
 wpList_plain hg fun K hK=>by
  have e:(parts.map fun(i,x)=>(i,a.eval x))=ps.toArray:=Array.ext' (by rw[Array.toList_map];exact hps)
  have:=run_build (P:=P) w t ps.toArray cells.toArray hf
  unfold Oper.wp execOp
  simp only[ho,e,this,Sem.run_bind,Result.andThen_ok]
  exact hK _ _ h
theorem AaC{P:Program}{C:World->Prop}{o:Oper}{a:Act}{K:Act->Prop}(t:TypeId)(parts:Array (Nat × Operand))(ho:o.op=.build t parts)
  (ps:List (Nat × Value)) (cells:List Value) (hps:parts.toList.map (fun x=>(x.1,a.eval x.2))=ps) (hf:P.built t ps=some cells.toArray) (h:K (a.put o.dst (.agg cells.toArray))):o.quiet P a C K:=by
 refine⟨_,fun w _=>?_,h⟩
 have e:(parts.map fun(i,x)=>(i,a.eval x))=ps.toArray:=Array.ext' (by rw[Array.toList_map];exact hps)
 have:=run_build (P:=P) w t ps.toArray cells.toArray hf
 unfold Oper.quietAt execOp
 simp only[ho,e,this,Sem.run_bind,Result.andThen_ok]
 exact⟨rfl,rfl⟩
end Go.Proofs.YtmgeheaneohldaaGreat.Old
namespace Go.Proofs.YtmgeheaneohldaaGreat.Old
open Go.RowKit
theorem own_ext{w w':World}{base:Nat}{e:TypeId}{size:Nat}{v:Value}{n:Nat}{xs:List Value}(h:w.ownsRow base e size v n xs)(hb:Below w.heap.size w w'):w'.ownsRow base e size v n xs:=by
 refine⟨h.1,?_⟩
 rcases h.2 with h1|⟨g,cap,cur,h1,h2,h3,h4⟩
 .exact .inl h1
 .exact .inr ⟨g,cap,cur,h1,h2,by rw[hb.block g (Array.getElem?_eq_some_iff.1 h3).1];exact h3,h4⟩
theorem own_slice{w:World}{base:Nat}{e:TypeId}{size:Nat}{v:Value}{n:Nat}{xs:List Value}(h:w.ownsRow base e size v n xs):∃A c,v=.slice A n c:=by
 rcases h.2 with⟨h1,h2⟩|⟨g,cap,cur,h1,_⟩
 .subst h2;exact⟨none,0,h1⟩
 .exact⟨_,_,h1⟩
theorem own_block{w:World}{base:Nat}{e:TypeId}{size:Nat}{v:Value}{n:Nat}{xs:List Value}(h:w.ownsRow base e size v n xs)(hn:0<n) :
  ∃g c post,v=.slice (some ⟨g,0,none⟩) n c/\base<=g/\Has w g (xs++post):=by
 rcases h.2 with⟨h1,h2⟩|⟨g,cap,cur,h1,h2,h3,h4,h5,h6,h7⟩
 .omega
 .refine⟨g,cap,cur.toList.drop (n*size),h1,h2,⟨e,?_⟩⟩
  rw[<-h7,List.take_append_drop]
  simpa using h3
theorem mix_run{P:Program}{ops:Array Oper}{o:Oper}{a:Act}{w w':World}{K:Act->World->Prop}{Q:Exit->Act->World->Prop}{E:Prop}{v:Value}
  (hr:(execOp a.eval o).run P w=.ok (.value v) w') (hw:Region.wanted o (yielded ops a.tmps)=true) (hk:K (a.put o.dst v) w'):if Region.wanted o (yielded ops a.tmps)=true then o.wp P a w K Q else E:=by
 rw[if_pos hw]
 unfold Oper.wp
 rw[hr,Oper.upon_value]
 exact hk
theorem ext_alloc(w:World)(o:Obj):Below w.heap.size w (w.alloc o):=(Below.refl _ _).alloc (Nat.le_refl _) o
theorem alloc_size(w:World)(o:Obj):(w.alloc o).heap.size=w.heap.size+1:=by simp
theorem ne_som{a b:Nat}(h:a≠b):some a≠some b:=fun e=>h (by injection e)
theorem run_sliceTo{P:Program}(w:World)(t e:TypeId)(len:Nat)(parts:Array (Nat × Value))(cells:Array Value)(hu:P.underlying t=some (.slice e))(hf:P.builtSlice e len parts.toList=some cells) :
  (Instr.buildSlice t len parts).run P w=.ok (.slice (some ⟨w.heap.size,0,none⟩) len len) (w.alloc (.cells cells e)):=by
 unfold Program.builtSlice at hf
 cases hie:P.info? e with
 |none=>simp[hie]at hf
 |some ie=>
  simp only[hie]at hf
  cases hz:ie.zero with
  |none=>simp[hz]at hf
  |some z=>
   simp only[hz]at hf
   by_cases hc:len*ie.size>2 ^ 24\/len*ie.size=0
   .simp[hc]at hf
   .rw[if_neg hc]at hf
    exact run_buildSlice w t e len parts cells ie z hu hie hz (fun h'=>hc (Or.inl h')) (fun h'=>hc (Or.inr h')) hf
end Go.Proofs.YtmgeheaneohldaaGreat.Old
namespace Go.Proofs.YtmgeheaneohldaaGreat.Old
open Go.RowKit
theorem Ab7(v:Value):Tryz.prog.cellsOf 46 = [v].length:=by kernel_rfl
theorem Adx(A:Option Addr)(n c:Nat):Tryz.prog.built 46 [(0,.slice A n c)]=some (#[.slice A n c]:Array Value):=by kernel_rfl
theorem own_mono{w:World}{base base':Nat}{e:TypeId}{size:Nat}{v:Value}{n:Nat}{xs:List Value}(h:w.ownsRow base e size v n xs)(hb:base'<=base):w.ownsRow base' e size v n xs:=by
 refine⟨h.1,?_⟩
 rcases h.2 with h1|⟨g,cap,cur,h1,h2,h3⟩
 .exact .inl h1
 .exact .inr ⟨g,cap,cur,h1,Nat.le_trans hb h2,h3⟩
end Go.Proofs.YtmgeheaneohldaaGreat.Old
namespace Go.Proofs.YtmgeheaneohldaaGreat.Old
open Go.RowKit
theorem info_u64:(Tryz.prog.info? 23).map (fun i=>(i.zero,i.size,i.bytes))=some (some (.int .u64 0),1,8):=by kernel_rfl
theorem row_len{w:World}{B:Nat}{A:Option Addr}{n:Nat}{k:IntKind}{l:List Int}(h:Row w B 1 A n (ints k l)):l.length=n:=by have:=h.1;simpa [ints]using this
theorem getD_at{l:List Int}{i:Nat}(h:i<l.length):l.getD i 0=l[i]:=by simp[List.getD,List.getElem?_eq_getElem h]
theorem ints_at{k:IntKind}{l:List Int}{i:Nat}(h:i<l.length):(ints k l)[i]? = some (.int k (l.getD i 0)):=by
 unfold ints
 rw[List.getElem?_map,List.getElem?_eq_getElem h,getD_at h]
 rfl
theorem take_more{a b:List Int}{k:Nat}(ha:k<a.length)(hb:k<b.length)(h:a.take k=b.take k)(he:a.getD k 0=b.getD k 0):a.take (k+1)=b.take (k+1):=by
 rw[List.take_succ_eq_append_getElem ha,List.take_succ_eq_append_getElem hb,h,<-getD_at ha,<-getD_at hb,he]
theorem ints_push(k:IntKind)(l:List Int)(x:Int):ints k (l ++ [x])=ints k l ++ [.int k x]:=by simp[ints]
theorem ints_len(k:IntKind)(l:List Int):(ints k l).length=l.length:=by simp[ints]
end Go.Proofs.YtmgeheaneohldaaGreat.Old
namespace Go.Proofs.YtmgeheaneohldaaGreat.Old
open Go.RowKit
structure Dl where
 p:Int
 m:Int
deriving DecidableEq
def U64(l:List Int):Prop:=∀x∈l,0<=x/\x<18446744073709551616
def URow(w:World)(A:Option Addr)(n:Nat)(xs:List Int):Prop:=xs.length=n/\(0<n->∃g post,A=some ⟨g,0,none⟩/\Has w g (ints .u64 xs++post))
theorem URow.below{w w':World}{A:Option Addr}{n:Nat}{xs:List Int}(h:URow w A n xs)(hb:Below w.heap.size w w'):URow w' A n xs:=
 ⟨h.1,fun hn=>by obtain⟨g,post,e,hg⟩:=h.2 hn;exact⟨g,post,e,hg.below hb hg.lt⟩⟩
theorem URow.row{w:World}{A:Option Addr}{n:Nat}{xs:List Int}(h:URow w A n xs):Row w w.heap.size 1 A n (ints .u64 xs):=by
 refine⟨by rw[ints_len,h.1,Nat.mul_one],fun j u hu=>?_⟩
 have hj:j<xs.length:=by have:=(List.getElem?_eq_some_iff.1 hu).1;rwa [ints_len]at this
 obtain⟨g,post,e,hg⟩:=h.2 (by rw[<-h.1];omega)
 refine⟨_,e,hg.lt,?_⟩
 rw[Ad9,Nat.zero_add,hg.cell,List.getElem?_append_left (by rw[ints_len];exact hj)]
 exact hu
theorem URow.own{w:World}{base:Nat}{e:TypeId}{A:Option Addr}{n c:Nat}{xs:List Int}(hl:xs.length=n)(h:w.ownsRow base e 1 (.slice A n c) n (ints .u64 xs)):URow w A n xs:=
 ⟨hl,fun hn=>by
  obtain⟨g,c',post,hv,_,hg⟩:=own_block h hn
  exact⟨g,post,by injection hv,hg⟩⟩
theorem URow.cell{w:World}{g:Nat}{xs:List Int}{post:List Value}(h:Has w g (ints .u64 xs++post)){k:Nat}(hk:k<xs.length):w.cell? ⟨g,k,none⟩=some (.int .u64 (xs.getD k 0)):=by
 rw[h.cell,List.getElem?_append_left (by rw[ints_len];exact hk)]
 exact ints_at hk
theorem U64.at{l:List Int}(h:U64 l){k:Nat}(hk:k<l.length):0<=l.getD k 0/\l.getD k 0<18446744073709551616:=by
 rw[getD_at hk];exact h _ (List.getElem_mem hk)
end Go.Proofs.YtmgeheaneohldaaGreat.Old
namespace Go.Proofs.YtmgeheaneohldaaGreat.Old
open Go.RowKit
def addV(a b:Int):Int:=if a+b<18446744073709551616 then a+b else 0
def addE(a b:Int):Int:=if a+b<18446744073709551616 then 0 else 4
def D1(d:Dl):Prop:=(0<=d.p/\d.p<18446744073709551616)/\(0<=d.m/\d.m<18446744073709551616)
end Go.Proofs.YtmgeheaneohldaaGreat.Old
namespace Go.Proofs.YtmgeheaneohldaaGreat.Old
open Go.RowKit
theorem one_ints(k:IntKind)(l:List Int):∀u∈ints k l,u.oneCell'=true:=fun u hu=>by
 obtain⟨x,_,rfl⟩:=List.mem_map.1 hu
 rfl
def Bt(r:List Int):Prop:=∀x∈r,0<=x/\x<256
structure Wf(ns:List Nd):Prop where
 first:∀h:0<ns.length,ns[0].up = -1
 up:∀i (h:i<ns.length),0<i->∃(u:Nat) (hu:u<i),ns[i].up=u/\(ns[u]'(Nat.lt_trans hu h)).b.root=ns[i].b.parent/\(ns[u]'(Nat.lt_trans hu h)).b.slot<ns[i].b.slot
 diff:∀i j (hi:i<ns.length) (hj:j<ns.length),ns[i].b.root=ns[j].b.root->i=j
 st:∀x∈ns,0<=x.st/\x.st<=2
 nz:∀x∈ns,x.b.root≠zroot
 bt:∀x∈ns,Bt x.b.root
def TP(w:World)(e:Ending)(w':World):Prop:=
 (∃(A:Option Addr) (c:Nat) (ns:List Nd),0<ns.length/\ns.length<=9/\Wf ns/\e=.returned (.agg #[.slice A ns.length c])/\NRow w' A ns.length ns)/\Below w.heap.size w w'
end Go.Proofs.YtmgeheaneohldaaGreat.Old
namespace Go.Proofs.YtmgeheaneohldaaGreat.Old
open Go.RowKit
def ups(ns:List Nd):List Int:=ns.map (·.up)
theorem Amc{ns:List Nd}{i:Nat}(h:i<ns.length):(ups ns).getD i 0=ns[i].up:=by
 rw[getD_at (by simpa [Go.Proofs.YtmgeheaneohldaaGreat.Old.ups]using h)];simp[Go.Proofs.YtmgeheaneohldaaGreat.Old.ups]
theorem U64.set{l:List Int}(h:U64 l){v:Int}(hv:0<=v/\v<18446744073709551616)(i:Nat):U64 (l.set i v):=fun x hx=>by
 rcases List.mem_or_eq_of_mem_set hx with hx|hx
 .exact h x hx
 .subst hx;exact hv
end Go.Proofs.YtmgeheaneohldaaGreat.Old
namespace Go.Proofs.YtmgeheaneohldaaGreat
def Lk(us:List Int):Prop:=∀i,i<us.length->(i=0/\us.getD i 0 = -1)\/∃u:Nat,u<i/\us.getD i 0=u
def hat(us:List Int)(k:Nat):Nat->Nat->Nat
 |0,j=>j
 |f+1,j=>if j<k then j else hat us k f (us.getD j 0).toNat
def pathF(us:List Int):Nat->Nat->List Nat
 |0,_=>[0]
 |f+1,j=>if j=0 then [0]else pathF us f (us.getD j 0).toNat ++ [j]
theorem Lk.up{us:List Int}(h:Lk us){i:Nat}(hi:i<us.length)(h0:0<i):∃u:Nat,u<i/\us.getD i 0=u:=by
 rcases h i hi with⟨h1,_⟩|h1
 .omega
 .exact h1
theorem Aku{us:List Int}(h:Lk us){k:Nat}(hk:0<k):∀(f g j:Nat),j<us.length->j<=f->j<=g->hat us k f j=hat us k g j
 |0,g,j,_,hf,_=>by
  obtain rfl:j=0:=by omega
  cases g with
  |zero=>rfl
  |succ g=>simp[hat,hk]
 |f+1,0,j,_,_,hg=>by
  obtain rfl:j=0:=by omega
  simp[hat,hk]
 |f+1,g+1,j,hj,hf,hg=>by
  unfold hat
  by_cases hjk:j<k
  .rw[if_pos hjk,if_pos hjk]
  .rw[if_neg hjk,if_neg hjk]
   obtain⟨u,hu,e⟩:=h.up hj (by omega)
   rw[e,Int.toNat_natCast]
   exact Aku h hk f g u (by omega) (by omega) (by omega)
theorem Amz{us:List Int}(h:Lk us){k:Nat}(hk:0<k):∀(f j:Nat),j<us.length->j<=f->hat us k f j<k/\hat us k f j<=j
 |0,j,_,hf=>by
  obtain rfl:j=0:=by omega
  exact⟨hk,Nat.le_refl _⟩
 |f+1,j,hj,hf=>by
  unfold hat
  by_cases hjk:j<k
  .rw[if_pos hjk];exact⟨hjk,Nat.le_refl _⟩
  .rw[if_neg hjk]
   obtain⟨u,hu,e⟩:=h.up hj (by omega)
   rw[e,Int.toNat_natCast]
   have:=Amz h hk f u (by omega) (by omega)
   exact⟨this.1,by omega⟩
theorem AgN{us:List Int}(h:Lk us):∀(f g j:Nat),j<us.length->j<=f->j<=g->pathF us f j=pathF us g j
 |0,g,j,_,hf,_=>by
  obtain rfl:j=0:=by omega
  cases g<;>simp[pathF]
 |f+1,0,j,_,_,hg=>by
  obtain rfl:j=0:=by omega
  simp[pathF]
 |f+1,g+1,j,hj,hf,hg=>by
  unfold pathF
  by_cases h0:j=0
  .rw[if_pos h0,if_pos h0]
  .rw[if_neg h0,if_neg h0]
   obtain⟨u,hu,e⟩:=h.up hj (by omega)
   rw[e,Int.toNat_natCast,AgN h f g u (by omega) (by omega) (by omega)]
theorem AhL{us:List Int}(h:Lk us):∀(f j:Nat),j<us.length->j<=f->∀x∈pathF us f j,x<=j
 |0,j,_,_,x,hx=>by simp[pathF]at hx;omega
 |f+1,j,hj,hf,x,hx=>by
  unfold pathF at hx
  by_cases h0:j=0
  .rw[if_pos h0]at hx;simp at hx;omega
  .rw[if_neg h0]at hx
   obtain⟨u,hu,e⟩:=h.up hj (by omega)
   rw[e,Int.toNat_natCast]at hx
   rcases List.mem_append.1 hx with hx|hx
   .have:=AhL h f u (by omega) (by omega) x hx;omega
   .simp at hx;omega
theorem Ahr{us:List Int}(h:Lk us)(i:Nat):∀(f j:Nat),j<us.length->j<=f->(i∈pathF us f j↔hat us (i+1) f j=i)
 |0,j,_,hf=>by
  obtain rfl:j=0:=by omega
  simp[pathF,hat];omega
 |f+1,j,hj,hf=>by
  unfold pathF hat
  by_cases h0:j=0
  .subst h0
   rw[if_pos rfl,if_pos (by omega:0<i+1)]
   simp;omega
  .rw[if_neg h0]
   obtain⟨u,hu,e⟩:=h.up hj (by omega)
   rw[e,Int.toNat_natCast]
   by_cases hji:j<i+1
   .rw[if_pos hji]
    constructor
    .intro hx
     rcases List.mem_append.1 hx with hx|hx
     .have:=AhL h f u (by omega) (by omega) i hx;omega
     .simp at hx;omega
    .intro hx;subst hx;simp
   .rw[if_neg hji,<-Ahr h i f u (by omega) (by omega)]
    simp;omega
def anc(us:List Int)(i j:Nat):Bool:=decide (hat us (i+1) j j=i)
def own(us:List Int)(k:Nat)(d:Nat->Int)(i:Nat):Nat->Int
 |0=>0
 |n+1=>own us k d i n+if hat us k n n=i then d n else 0
def tot(us:List Int)(d:Nat->Int)(i n:Nat):Int:=own us (i+1) d i n
end Go.Proofs.YtmgeheaneohldaaGreat
namespace Go.Proofs.YtmgeheaneohldaaGreat.Old
open Go.RowKit
theorem Ah3:(Tryz.prog.info? 3).map (fun i=>(i.zero,i.size,i.bytes))=some (some (.int .i64 0),1,8):=by kernel_rfl
theorem AeO{ns:List Nd}:(Go.Proofs.YtmgeheaneohldaaGreat.Old.ups ns).length=ns.length:=by simp[Go.Proofs.YtmgeheaneohldaaGreat.Old.ups]
def nats(l:List Nat):List Int:=l.map (fun(n:Nat)=>(n:Int))
theorem Akg(l:List Nat):(nats l).length=l.length:=by simp[nats]
theorem Ahw{l:List Nat}{i:Nat}:((i:Int)∈nats l)↔i∈l:=by
 unfold nats
 constructor
 .intro h
  obtain⟨a,ha,e⟩:=List.mem_map.1 h
  have:a=i:=by omega
  subst this;exact ha
 .intro h;exact List.mem_map.2 ⟨i,h,rfl⟩
def inB(i:Int)(n:Nat):Bool:=decide (0<=i/\i<n)
theorem Alc(A:Option Addr)(n c:Nat)(i:Int)(w:World) :
  Calls Tryz.prog 61 #[.agg #[.slice A n c],.int .i64 i] w fun e w'=>e=.returned (.bool (inB i n))/\Below w.heap.size w w':=by
 have B:=bx (ext_alloc w (.cells #[.slice A n c] 46))
 by_cases h0:0<=i
 .have h0':i≥0:=h0
  by_cases h1:i<n
  .have HD:Bx (inB i n=true):=⟨decide_eq_true ⟨h0,h1⟩⟩
   go_enter Tryz.func61,Tryz.ntmps61
   go_wp2_with fail
   go_ret
   exact⟨by rw[HD.out];rfl,B.out⟩
  .have HD:Bx (inB i n=false):=⟨decide_eq_false (fun h=>h1 h.2)⟩
   go_enter Tryz.func61,Tryz.ntmps61
   go_wp2_with fail
   go_ret
   exact⟨by rw[HD.out];rfl,B.out⟩
 .have h0':decide (i≥0)=false:=decide_eq_false h0
  have HD:Bx (inB i n=false):=⟨decide_eq_false (fun h=>h0 h.1)⟩
  go_enter Tryz.func61,Tryz.ntmps61
  go_wp2_with fail
  go_ret
  exact⟨by rw[HD.out];rfl,B.out⟩
theorem AgO{l:List Int}{k:Nat}{x:Int}(hk:k<l.length)(h:x∉l.take k)(hne:l.getD k 0≠x):x∉l.take (k+1):=by
 rw[List.take_succ_eq_append_getElem hk]
 intro hm
 rcases List.mem_append.1 hm with hm|hm
 .exact h hm
 .rw[getD_at hk]at hne
  exact hne (show x=l[k]by simpa using hm).symm
theorem Afr(B:Nat)(A:Option Addr)(n c:Nat)(l:List Int)(x:Int)(w:World)(hr:Row w B 1 A n (ints .i64 l))(hn:n<=9223372036854775807) :
  Calls Tryz.prog 62 #[.slice A n c,.int .i64 x] w fun e w'=>e=.returned (.bool (decide (x∈l)))/\w=w':=by
 have LA:=bx (row_len hr)
 have HA:=bx hr
 clear hr
 go_enter Tryz.func62,Tryz.ntmps62
 go_wp2_with fail
 go_loop [5] (fun i=>∃k:Nat,k<=n/\i=.int .i64 k/\x∉l.take k) (fun i=>n-(intOf i).toNat)
 case atStart=>exact⟨0,Nat.zero_le _,rfl,by simp⟩
 case round=>
  obtain⟨k,hk,rfl,hno⟩:=hrel
  have HNO:=bx hno
  clear hno
  by_cases hkn:k<n
  .have hka:k<l.length:=by rw[LA.out];exact hkn
   obtain⟨ad,rfl,hb1,hc1⟩:=HA.out.at_ (ints_at hka)
   have hki:(k:Int)<(n:Int):=by omega
   have hk0:0<=(k:Int):=by omega
   have HTM:=bx (AgO hka HNO.out)
   have HIN:Bx (l.getD k 0∈l):=⟨by rw[getD_at hka];exact List.getElem_mem hka⟩
   generalize l.getD k 0=y at *
   by_cases hxy:y=x
   .subst hxy
    have HD:Bx (decide (y∈l)=true):=⟨decide_eq_true HIN.out⟩
    go_wp2_with fail
    go_ret
    exact⟨by rw[HD.out];rfl,rfl⟩
   .have hne:(y==x)=false:=by simpa using hxy
    have HX:=bx (HTM.out hxy)
    clear hxy
    go_wp2_with fail
    go_round
    case rel=>exact⟨k+1,by omega,by go_num,HX.out⟩
    case measure=>simp[intOf];omega
  .have hkk:k=n:=by omega
   subst hkk
   have HD:Bx (decide (x∈l)=false):=⟨decide_eq_false (by have:=HNO.out;rwa [List.take_of_length_le (by rw[LA.out];exact Nat.le_refl _)]at this)⟩
   go_wp2_with fail
   go_ret
   exact⟨by rw[HD.out];rfl,rfl⟩
end Go.Proofs.YtmgeheaneohldaaGreat.Old
namespace Go.Proofs.YtmgeheaneohldaaGreat.Old
open Go.RowKit
theorem bsI(i:Int):Tryz.prog.builtSlice 3 1 [(0,.int .i64 i)]=some #[.int .i64 i]:=by kernel_rfl
theorem Ai4{o:Oper}{a:Act}{w:World}{x:Operand}{i:Int}(ho:o.op=.buildSlice 22 1 #[(0,x)])(hx:a.eval x=.int .i64 i) :
  (execOp a.eval o).run Tryz.prog w=.ok (.value (.slice (some ⟨w.heap.size,0,none⟩) 1 1)) (w.alloc (.cells #[.int .i64 i] 3)):=by
 have e:(#[(0,x)].map fun(i,x)=>(i,a.eval x)) = #[(0,.int .i64 i)]:=by
  apply Array.ext'
  rw[Array.toList_map]
  show [(0,a.eval x)]=_
  rw[hx]
 have:=run_sliceTo (P:=Tryz.prog) w 22 3 1 #[(0,.int .i64 i)] _ Tryz.underlying22 (bsI i)
 unfold execOp
 simp only[ho,e,this,Sem.run_bind,Result.andThen_ok]
 rfl
theorem one_i64(i:Int):∀u ∈ [Value.int .i64 i],u.oneCell'=true:=fun u hu=>by simp at hu;subst hu;rfl
def NatsP(l:List Nat)(w:World)(e:Ending)(w':World):Prop:=
 ∃(A:Option Addr) (c:Nat),e=.returned (.slice A l.length c)/\w'.ownsRow w.heap.size 3 1 (.slice A l.length c) l.length (ints .i64 (nats l))/\Below w.heap.size w w'
theorem Al0{w:World}{base:Nat}{e:TypeId}{A:Option Addr}{n c:Nat}{k:IntKind}{l:List Int}(h:w.ownsRow base e 1 (.slice A n c) n (ints k l)):Row w w.heap.size 1 A n (ints k l):=Row.own h
def pathN(us:List Int)(j:Nat):List Nat:=pathF us j j
theorem AfN(us:List Int):pathN us 0 = [0]:=rfl
theorem AeY{us:List Int}(h:Lk us){j u:Nat}(hj:j<us.length)(h0:0<j)(hu:us.getD j 0=u)(huj:u<j):pathN us j=pathN us u ++ [j]:=by
 obtain⟨k,rfl⟩:∃k,j=k+1:=⟨j-1,by omega⟩
 unfold pathN
 rw[pathF,if_neg (by omega),hu,Int.toNat_natCast,AgN h k u u (by omega) (by omega) (Nat.le_refl _)]
theorem Ada{us:List Int}(h:Lk us):∀j,j<us.length->(pathN us j).length<=j+1
 |j,hj=>by
  rcases Nat.eq_zero_or_pos j with h0|h0
  .subst h0;simp[AfN]
  .obtain⟨u,hu,e⟩:=h.up hj h0
   rw[AeY h hj h0 e hu]
   have:=Ada h u (by omega)
   simp;omega
theorem Aeb(l:List Nat)(j:Nat):nats (l ++ [j])=nats l ++ [(j:Int)]:=by simp[nats]
theorem Al1(w:World)(cs:List Value)(t:TypeId)(n:Nat)(hl:cs.length=n)(hm:n<=maxLen):(w.alloc (.cells cs.toArray t)).ownsRow w.heap.size t 1 (.slice (some ⟨w.heap.size,0,none⟩) n n) n cs:=
 ⟨by rw[hl,Nat.mul_one],.inr ⟨w.heap.size,n,cs.toArray,rfl,Nat.le_refl _,heap_alloc_new w _,Nat.le_refl _,hm,by simp[hl],by rw[Nat.mul_one,<-hl];simp⟩⟩
theorem Ahs{ns:List Nd}(hk:Lk (Go.Proofs.YtmgeheaneohldaaGreat.Old.ups ns))(A:Option Addr)(n c:Nat)(hn:n<=4096):∀(i:Nat),i<n->∀(w:World),NRow w A n ns ->
  Calls Tryz.prog 31 #[.agg #[.slice A n c],.int .i64 i] w (NatsP (pathN (Go.Proofs.YtmgeheaneohldaaGreat.Old.ups ns) i) w):=by
 intro i
 induction i using Nat.strongRecOn with
 |_ i ih=>
  intro hi w h
  have HD:Bx (inB i n=true):=⟨decide_eq_true ⟨by omega,by omega⟩⟩
  obtain⟨i0,hi0,hz0,hz1,hz2⟩:=info_parts Ah3
  have HI:=bx (show Tryz.prog.info? 3=some i0 from hi0)
  have ONE:=bx (one_i64 i)
  have ONEL:Bx ([Value.int .i64 i].length=1*1):=⟨rfl⟩
  clear hi0
  have LN:=bx h.1
  have HROW:=bx h
  have X0:=bx (Has.new w [.slice A n c] 46)
  have B0:=bx (ext_alloc w (.cells #[.slice A n c] 46))
  clear h
  rcases Nat.eq_zero_or_pos i with h0|h0
  .subst h0
   clear ih
   have HD:Bx (inB 0 n=true):=⟨HD.out⟩
   rw[show((0:Nat):Int)=0 from rfl]
   go_enter Tryz.func31,Tryz.ntmps31
   go_wp2_with fail
   refine(Alc A n c _ _).mono ?_;rintro e w1 ⟨rfl,hb⟩
   rw[HD.out]
   have B1:=bx (B0.out.trans (hb.mono B0.out.size))
   clear hb
   go_wp2_with fail
   go_ret
   have O:=Al1 w1 (ints .i64 (nats [0])) 3 1 rfl (by unfold maxLen;omega)
   exact⟨_,_,rfl,own_mono O B1.out.size,B1.out.trans ((ext_alloc _ _).mono B1.out.size)⟩
  .obtain⟨u,hu,e⟩:=hk.up (by rw[AeO,LN.out];exact hi) h0
   have HP:=bx (AeY hk (by rw[AeO,LN.out];exact hi) h0 e hu)
   have IH:=bx (ih u hu (by omega))
   rw[Amc (by rw[LN.out];exact hi)]at e
   have hin:(i:Int)<(n:Int):=by omega
   have hi0:0<=(i:Int):=by omega
   have hne:((i:Int)==0)=false:=by rw[beq_eq_false_iff_ne];omega
   have HIL:Bx (i<ns.length):=⟨by rw[LN.out];exact hi⟩
   have HPL:=Ada hk u (by rw[AeO,LN.out];omega)
   have HM1:Bx ((pathN (Go.Proofs.YtmgeheaneohldaaGreat.Old.ups ns) u).length+1<=maxLen):=⟨by unfold maxLen;omega⟩
   have HM2:Bx (((pathN (Go.Proofs.YtmgeheaneohldaaGreat.Old.ups ns) u).length+1)*8<=140737488355328):=⟨by omega⟩
   clear ih hk HPL
   go_enter Tryz.func31,Tryz.ntmps31
   go_wp2_with ((with_reducible refine AbG 46 _ rfl _ [.slice A n c] ?_ ?_ X0.out Tryz.underlying46 rfl ?_ ?_);rfl;rfl;exact Ab7 _)
   refine(Alc A n c _ _).mono ?_;rintro e1 w1 ⟨rfl,hb⟩
   rw[HD.out]
   have B1:=bx (B0.out.trans (hb.mono B0.out.size))
   have X1:=bx (X0.out.below hb X0.out.lt)
   clear hb X0 B0
   go_wp2_with fail
   obtain⟨g0,p0,rfl,hg0⟩:=(HROW.out.below B1.out).2.2 (by omega)
   have G0:Bx (Has w1.drew g0 (ns.flatMap nc++p0)):=⟨hg0⟩
   clear hg0
   have X2:Bx (Has w1.drew w.heap.size [.slice (some ⟨g0,0,none⟩) n c]):=⟨X1.out⟩
   have B2:Bx (Below w.heap.size w w1.drew):=⟨B1.out.drew⟩
   have N2:Bx (NRow w1.drew (some ⟨g0,0,none⟩) n ns):=⟨HROW.out.below B2.out⟩
   have CU:=bx (fun w5 (h5:Cls w1.drew.heap.size w1.drew w5)=>Ahk ((G0.out.below h5.out G0.out.lt).nodeCell HROW.out.2.1 i HIL.out 238 _ (Ane (HROW.out.2.1 _ (List.getElem_mem HIL.out)))))
   have CN:=bx (fun w5 (h5:Cls w1.drew.heap.size w1.drew w5)=>Ads ((X2.out.below h5.out X2.out.lt).cell 0))
   have CT:=bx (Has.cls X2.out)
   rw[e]at CU
   clear e
   refine AdF 10 (.steps [(0,0),(0,1),(0,2),(0,3),(0,4),(0,5),(0,6),(0,8)] (.fork 7 (.steps [(2,9)] .leaf) 9 (.steps [(2,7)] .leaf))) (by kernel_rfl) (by kernel_rfl) ?_
   simp only[MixT,MT.steps,stepAt,List.getD_cons_zero,List.getD_cons_succ,List.drop_succ_cons,List.drop_zero]
   repeat(first|(with_reducible refine wpQuiet_nil ?_)|(first|go_big_quiet_skip|(go_big_quiet_want;first|(first|((with_reducible refine Abq 46 _ rfl _ [.slice (some ⟨g0,0,none⟩) n c] ?_ CT.out Tryz.underlying46 rfl ?_ ?_);rfl;exact Ab7 _;go_big_quiet_on;(simp only[Act.put,List.setIfInBounds_toArray,List.set_cons_succ,List.set_cons_zero]))|((with_reducible refine quiet_cell 3 _ rfl _ _ ?_ CU.out ?_);rfl;go_big_quiet_on;(simp only[Act.put,List.setIfInBounds_toArray,List.set_cons_succ,List.set_cons_zero]))|((with_reducible refine quiet_cell 44 _ rfl _ _ ?_ CN.out ?_);rfl;go_big_quiet_on;(simp only[Act.put,List.setIfInBounds_toArray,List.set_cons_succ,List.set_cons_zero])))|(go_big_quiet_op;first|go_big_quiet_on|((with_reducible refine⟨_,fun _ _=>rfl,?_⟩);go_big_quiet_on)))))
   refine⟨?_,?_⟩
   .refine Afl (IH.out _ N2.out) Tryz.func31 rfl rfl _ _ rfl rfl rfl ?_
    rintro e w5 ⟨A5,c5,rfl,ho,hb⟩
    refine⟨_,rfl,hb,?_⟩
    have O5:=bx ho
    have B5:=bx (B2.out.trans (hb.mono B2.out.size))
    clear hb ho X2 G0 CT CU CN X1 B1 N2
    refine mix_run (Ai4 (i:=(i:Int)) rfl rfl) rfl ?_
    refine⟨ext_alloc _ _,?_⟩
    have AP:Bx (Apd (w5.alloc (.cells #[.int .i64 i] 3)) w.heap.size 3 1 _ _ _):=⟨(Apd.alloc (.inl (own_mono O5.out B2.out.size)) _)⟩
    have NC:=bx (Add w5 [.int .i64 i] 3)
    have B6:=bx (B5.out.trans ((ext_alloc w5 (.cells #[.int .i64 i] 3)).mono B5.out.size))
    clear O5 B5
    simp only[Act.put,List.setIfInBounds_toArray,List.set_cons_succ,List.set_cons_zero]
    generalize(pathN (Go.Proofs.YtmgeheaneohldaaGreat.Old.ups ns) u)=L at *
    go_wp2_with (at_builtin;(with_reducible refine AcZ rfl (.tmp 19) (.tmp 21) 22 rfl i0 _ 8 Tryz.underlying22 HI.out hz0 hz1 hz2 ?_ ?_ ?_ AP.out ⟨w5.heap.size,0,none⟩ 1 1 [.int .i64 i] ?_ (by omega) ONEL.out NC.out ONE.out HM1.out HM2.out B6.out.size ?_);rfl;omega;rfl;rfl;intro v' w' hown' _ hbel' _;have HW:=bx hown';have HB1:=bx (B6.out.trans hbel');clear hown' hbel')
    refine NoPanic.normal ?_
    go_wp2_with fail
    go_ret
    have hw:=HW.out
    rw[HP.out]
    obtain⟨A6,c6,rfl⟩:=own_slice hw
    exact⟨A6,c6,by simp,by rw[Aeb,ints_push,List.length_append];exact hw,HB1.out⟩
   .refine mix_run (Ai4 (i:=(i:Int)) rfl rfl) rfl ?_
    refine⟨ext_alloc _ _,?_⟩
    have BX:=bx (ext_alloc w1.drew (.cells #[.int .i64 i] 3))
    have G9:=bx (Has.new w1.drew [.int .i64 i] 3)
    refine Afl (IH.out _ (N2.out.below BX.out)) Tryz.func31 rfl rfl _ _ rfl rfl rfl ?_
    rintro e w5 ⟨A5,c5,rfl,ho,hb⟩
    refine⟨_,rfl,hb,?_⟩
    have B5:=bx (B2.out.trans ((BX.out.trans (hb.mono BX.out.size)).mono B2.out.size))
    have AP:Bx (Apd w5 w.heap.size 3 1 _ _ _):=⟨.inl (own_mono ho (Nat.le_trans B2.out.size BX.out.size))⟩
    have NC:Bx (∀j u,[Value.int .i64 i][j]? = some u->w5.cell? ((⟨w1.drew.heap.size,0,none⟩:Addr).add j)=some u):=⟨fun j u hu=>by
     rw[Ad9,Nat.zero_add,(G9.out.below hb G9.out.lt).cell];exact hu⟩
    clear hb ho X2 G0 CT CU CN X1 B1 N2 BX G9
    generalize(pathN (Go.Proofs.YtmgeheaneohldaaGreat.Old.ups ns) u)=L at *
    simp only[Act.put,List.setIfInBounds_toArray,List.set_cons_succ,List.set_cons_zero]
    go_wp2_with (at_builtin;(with_reducible refine AcZ rfl (.tmp 19) (.tmp 21) 22 rfl i0 _ 8 Tryz.underlying22 HI.out hz0 hz1 hz2 ?_ ?_ ?_ AP.out ⟨w1.drew.heap.size,0,none⟩ 1 1 [.int .i64 i] ?_ (by omega) ONEL.out NC.out ONE.out HM1.out HM2.out B5.out.size ?_);rfl;omega;rfl;rfl;intro v' w' hown' _ hbel' _;have HW:=bx hown';have HB1:=bx (B5.out.trans hbel');clear hown' hbel')
    refine NoPanic.normal ?_
    go_wp2_with fail
    go_ret
    have hw:=HW.out
    rw[HP.out]
    obtain⟨A6,c6,rfl⟩:=own_slice hw
    exact⟨A6,c6,by simp,by rw[Aeb,ints_push,List.length_append];exact hw,HB1.out⟩
end Go.Proofs.YtmgeheaneohldaaGreat.Old
namespace Go.Proofs.YtmgeheaneohldaaGreat.Old
open Go.RowKit
def isAnc(us:List Int)(a:Int)(b:Nat):Bool:=decide (a∈nats (pathN us b))
theorem Akr{us:List Int}(h:Lk us){a b:Nat}(hb:b<us.length):isAnc us a b=anc us a b:=by
 unfold isAnc anc
 rw[Bool.eq_iff_iff,decide_eq_true_iff,decide_eq_true_iff,Ahw]
 exact Ahr h a b b hb (Nat.le_refl _)
theorem AjZ{ns:List Nd}(hk:Lk (Go.Proofs.YtmgeheaneohldaaGreat.Old.ups ns))(A:Option Addr)(n c:Nat)(hn:n<=4096)(a:Int)(b:Nat)(hb:b<n)(w:World)(h:NRow w A n ns) :
  Calls Tryz.prog 34 #[.agg #[.slice A n c],.int .i64 a,.int .i64 b] w fun e w'=>e=.returned (.bool (isAnc (Go.Proofs.YtmgeheaneohldaaGreat.Old.ups ns) a b))/\Below w.heap.size w w':=by
 have X0:=bx (Has.new w [.slice A n c] 46)
 have B0:=bx (ext_alloc w (.cells #[.slice A n c] 46))
 have PA:=bx (Ahs hk A n c hn b hb _ (h.below B0.out))
 have PL:Bx ((pathN (Go.Proofs.YtmgeheaneohldaaGreat.Old.ups ns) b).length<=9223372036854775807):=⟨by have:=Ada hk b (by rw[AeO,h.1];exact hb);omega⟩
 clear h hk
 unfold isAnc
 generalize pathN (Go.Proofs.YtmgeheaneohldaaGreat.Old.ups ns) b=L at *
 go_enter Tryz.func34,Tryz.ntmps34
 go_wp2_with ((with_reducible refine AbG 46 _ rfl _ [.slice A n c] ?_ ?_ X0.out Tryz.underlying46 rfl ?_ ?_);rfl;rfl;exact Ab7 _)
 refine PA.out.mono ?_;rintro e w1 ⟨A1,c1,rfl,ho,hb1⟩
 have HB:=bx (Afr _ A1 L.length c1 (nats L) a w1 (Al0 ho) PL.out)
 have B1:=bx (B0.out.trans (hb1.mono B0.out.size))
 clear ho hb1
 go_wp2_with fail
 refine HB.out.mono ?_;rintro e w2 ⟨rfl,rfl⟩
 go_wp2_with fail
 go_ret
 exact⟨rfl,B1.out⟩
def descN(us:List Int)(i k:Nat):List Nat:=(List.range k).filter fun j=>isAnc us i j
theorem Agn{us:List Int}{i k:Nat}(h:isAnc us i k=true):descN us i (k+1)=descN us i k ++ [k]:=by
 simp[descN,List.range_succ,List.filter_append,h]
theorem AiC{us:List Int}{i k:Nat}(h:isAnc us i k=false):descN us i (k+1)=descN us i k:=by
 simp[descN,List.range_succ,List.filter_append,h]
theorem Ago(us:List Int)(i k:Nat):(descN us i k).length<=k:=by
 have:=List.length_filter_le (fun j=>isAnc us i j) (List.range k)
 simpa [descN]using this
theorem AiB{ns:List Nd}(hk:Lk (Go.Proofs.YtmgeheaneohldaaGreat.Old.ups ns))(A:Option Addr)(n c:Nat)(hn:n<=4096)(i:Nat)(w:World)(h:NRow w A n ns) :
  Calls Tryz.prog 21 #[.agg #[.slice A n c],.int .i64 i] w (NatsP (descN (Go.Proofs.YtmgeheaneohldaaGreat.Old.ups ns) i n) w):=by
 obtain⟨i0,hi0,hz0,hz1,hz2⟩:=info_parts Ah3
 have HI:=bx (show Tryz.prog.info? 3=some i0 from hi0)
 have X0:=bx (Has.new w [.slice A n c] 46)
 have B0:=bx (ext_alloc w (.cells #[.slice A n c] 46))
 have HA:=bx (fun b (hb:b<n) w1 (hw:Below w.heap.size w w1)=>AjZ hk A n c hn i b hb w1 (h.below hw))
 clear hi0 h hk
 generalize Go.Proofs.YtmgeheaneohldaaGreat.Old.ups ns=us at *
 go_enter Tryz.func21,Tryz.ntmps21
 go_wp2_with fail
 go_loopw [5,6] (fun s j wr=>∃k:Nat,k<=n/\j=.int .i64 k/\wr.ownsRow (w.heap.size+1) 3 1 s (descN us i k).length (ints .i64 (nats (descN us i k)))/\Has wr w.heap.size [.slice A n c]/\Below w.heap.size w wr) (fun _ j _=>n-(intOf j).toNat)
 case atStart=>exact⟨0,Nat.zero_le _,rfl,World.ownsRow_nil _ _ _ _,X0.out,B0.out⟩
 case round=>
  obtain⟨k,hk,rfl,hown,hx,hbel⟩:=hrel
  have HOWN:=bx hown
  have XR:=bx hx
  have BR:=bx hbel
  have HDL:=Ago us i k
  clear hown hx hbel X0 B0
  obtain⟨A5,c5,hv⟩:=own_slice HOWN.out
  subst hv
  have hcb:wr.cell? ⟨w.heap.size,0,none⟩=some (.slice A n c):=XR.out.cell 0
  by_cases hkn:k<n
  .have hki:(k:Int)<(n:Int):=by omega
   have HM1:Bx ((descN us i k).length+1<=maxLen):=⟨by unfold maxLen;omega⟩
   have HM2:Bx (((descN us i k).length+1)*8<=140737488355328):=⟨by omega⟩
   have ONE:=bx (one_i64 k)
   have HKN:=bx hkn
   have DY:=bx (fun h=>Agn (us:=us) (i:=i) (k:=k) h)
   have DN:=bx (fun h=>AiC (us:=us) (i:=i) (k:=k) h)
   clear HDL
   go_wp2_with ((with_reducible refine AbG 46 _ rfl _ [.slice A n c] ?_ ?_ XR.out Tryz.underlying46 rfl ?_ ?_);rfl;rfl;exact Ab7 _)
   refine(HA.out k HKN.out _ BR.out).mono ?_;rintro e w1 ⟨rfl,hb⟩
   have X5:=bx (XR.out.below hb XR.out.lt)
   have O5:=bx (own_ext HOWN.out hb)
   have B5:=bx (BR.out.trans (hb.mono BR.out.size))
   have SZ5:Bx (w.heap.size+1<=w1.heap.size):=⟨X5.out.lt⟩
   clear hb XR HOWN BR hcb
   cases hanc:isAnc us i k with
   |true=>
    have DY':=bx (DY.out hanc)
    clear DY DN hanc
    generalize descN us i k=L at *
    go_wp2_with (at_builtin;(with_reducible refine Aca rfl (.tmp 18) (.tmp 20) 22 rfl (w.heap.size+1) 3 i0 _ 1 8 Tryz.underlying22 HI.out hz0 hz1 hz2 ?_ (by omega) _ _ _ ?_ O5.out [.int .i64 k] ?_ ?_ ONE.out HM1.out HM2.out SZ5.out ?_);rfl;rfl;rfl;rfl;intro v' w' hown' hg' hbel' _;have HOWN3:=bx hown';have HB3:=bx (B5.out.trans (hbel'.mono (Nat.le_succ _)));have X3:=bx (X5.out.below hbel' (Nat.lt_succ_self _));clear hown' hg' hbel')
    go_roundw
    case rel=>exact⟨k+1,HKN.out,by go_num,by rw[DY'.out,Aeb,ints_push,List.length_append];exact HOWN3.out,X3.out,HB3.out⟩
    case measure=>simp[intOf];omega
   |false=>
    have DN':=bx (DN.out hanc)
    clear DY DN hanc
    generalize descN us i k=L at *
    go_wp2_with fail
    go_roundw
    case rel=>exact⟨k+1,HKN.out,by go_num,by rw[DN'.out];exact O5.out,X5.out,B5.out⟩
    case measure=>simp[intOf];omega
  .have hkk:k=n:=by omega
   subst hkk
   go_wp2_with fail
   go_ret
   exact⟨_,_,rfl,own_mono HOWN.out (Nat.le_succ _),BR.out⟩
end Go.Proofs.YtmgeheaneohldaaGreat.Old
namespace Go.Proofs.YtmgeheaneohldaaGreat
open Go.RowKit Go.Proofs.YtmgeheaneohldaaGreat.Old
def toBk(b:Blk):Bk:=⟨[.int .u64 (b.pj.e.n:Int)]++rc b.pj.r ++ [.int .u64 (b.pf.e.n:Int)]++rc b.pf.r,(b.slot.n:Int),b.root.l,b.parent.l,
 rc b.payload++wc b.diff++wc b.pdiff ++ [.int .u64 (b.just.e.n:Int)]++rc b.just.r ++ [.int .u64 (b.fin.e.n:Int)]++rc b.fin.r ++ [.bool b.timely]⟩
theorem Afy(b:Blk):bc (toBk b)=blx b:=by simp[bc,toBk,blx,blP,fl,rc]
theorem AfW(b:Blk):BkOk (toBk b):=by
 refine⟨by simp[toBk,Aax],b.root.len,b.parent.len,by simp[toBk,Aax,Ach],fun u hu=>?_,fun u hu=>?_⟩
 .refine AcY b u ?_
  show u∈blx b
  rw[<-Afy];unfold bc
  exact List.mem_append_left _ hu
 .refine AcY b u ?_
  show u∈blx b
  rw[<-Afy];unfold bc
  refine List.mem_append_right _ (List.mem_cons_of_mem _ ?_)
  exact List.mem_append_right _ (List.mem_append_right _ hu)
def toNd(n:Nod):Nd:=⟨toBk n.b,n.up,n.st⟩
theorem Aea(n:Nod):nc (toNd n)=nox n:=by
 unfold nc toNd
 rw[Afy]
 simp[blx,nox,blP,noP,fl]
theorem Aje(N:List Nod):(N.map toNd).flatMap nc=N.flatMap nox:=by
 rw[List.flatMap_map]
 congr 1
 funext n;exact Aea n
theorem NG.nrow{Γ:Gam}{x:Sl}{N:List Nod}(h:NG Γ x N){w:World}(ok:Ok Γ w):NRow w x.A x.n (N.map toNd):=by
 refine⟨by rw[List.length_map,h.n],fun y hy=>?_,fun hn=>?_⟩
 .obtain⟨n,_,rfl⟩:=List.mem_map.1 hy
  exact AfW n.b
 .obtain⟨g,post,e,hg⟩:=h.sl hn
  obtain⟨p2,hh⟩:=ok _ _ hg
  exact⟨g,post++p2,e,by rw[Aje,<-List.append_assoc];exact hh⟩
def upsN(N:List Nod):List Int:=N.map (·.up)
theorem Ac3(N:List Nod):Go.Proofs.YtmgeheaneohldaaGreat.Old.ups (N.map toNd)=upsN N:=by
 unfold Go.Proofs.YtmgeheaneohldaaGreat.Old.ups upsN
 rw[List.map_map];rfl
theorem Acd(N:List Nod):(upsN N).length=N.length:=by simp[upsN]
theorem Ac4{N:List Nod}{k:Nat}(h:k<N.length):(upsN N).getD k 0=N[k].up:=by simp[upsN,List.getD,List.getElem?_map,List.getElem?_eq_getElem h]
theorem Lk.ahead{N:List Nod}(h:Lk (upsN N)):Ahead N:=fun k hk=>by
 rcases h k (by rw[Acd];exact hk)with⟨h1,h2⟩|⟨u,h1,h2⟩
 .rw[Ac4 hk]at h2;omega
 .rw[Ac4 hk]at h2;omega
theorem AgQ{Γ:Gam}{w w':World}{l:List Nat}{e:Ending}(ok:Ok Γ w)(h:NatsP l w e w'):NisP Γ w l e w':=by
 obtain⟨A,c,he,ho,hb⟩:=h
 have M:=(MM.start ok).rowNew hb ho
 obtain⟨Γ',h1,h2,h3,h4⟩:=M.frz
 exact⟨A,c,Γ',he,h1,h2,h4.ext⟩
def pathI(N:List Nod)(i:Int):List Nat:=if isI i N.length then pathN (upsN N) i.toNat else []
theorem Acu(Γ:Gam)(x:Sl)(N:List Nod)(i:Int)(w:World)(ok:Ok Γ w)(h:NG Γ x N)(hk:Lk (upsN N))(hb:N.length<=4096):Calls Tryz.prog 31 #[.agg [x.v].toArray,.int .i64 i] w (NisP Γ w (pathI N i)):=by
 cases hi:isI i N.length with
 |true=>
  have h1:=Ab5 hi
  obtain⟨k,rfl⟩:∃k:Nat,i=(k:Int):=⟨i.toNat,by omega⟩
  have:=Ahs (ns:=N.map toNd) (by rw[Ac3];exact hk) x.A x.n x.c (by rw[h.n];exact hb) k (by rw[h.n];omega) w (h.nrow ok)
  rw[Ac3]at this
  refine this.mono fun e w' hp=>?_
  have hq:=AgQ ok hp
  unfold pathI
  rw[if_pos hi]
  exact hq
 |false=>
  have M:=bx (MM.start ok)
  have IS:Bx (∀Γ w,Ok Γ w->Calls Tryz.prog 61 #[.agg [x.v].toArray,.int .i64 i] w fun e w'=>e=.returned (.bool false)/\Ext Γ w Γ w'):=⟨fun Γ w ok=>by have:=Ac9 Γ x i w ok;rwa [h.n,hi]at this⟩
  have HP:Bx (pathI N i = []):=⟨by unfold pathI;rw[hi];rfl⟩
  have hl:([[x.v]]:List (List Value)).map List.length = [1]:=rfl
  clear ok h hk hb hi
  change Calls Tryz.prog _ #[.agg (fl [[x.v]]).toArray,_] _ _
  go_enter Tryz.func31,Tryz.ntmps31
  go_wp2_with (first|(refine zBYo (hl) ?_;clear M;intro w' g M)|refine zLDo (M.out.at0) ?_)
  refine zCA M (IS.out _ _ M.ok) ?_;clear M;intro w1 M
  go_wp2_with fail
  go_ret
  unfold NisP
  rw[HP.out]
  exact⟨none,0,Γ,rfl,⟨Nat.le_refl _,Nat.zero_le _,fun _=>rfl⟩,fun h=>absurd h (Nat.lt_irrefl _),M.out.ext⟩
def ancI(N:List Nod)(a b:Int):Bool:=decide (a∈(pathI N b).map fun(k:Nat)=>(k:Int))
theorem Ace{N:List Nod}(h:Lk (upsN N)){i:Int}{k:Nat}(hk:k∈pathI N i):k<N.length/\(k:Int)<=i:=by
 unfold pathI at hk
 split at hk
 .rename_i hi
  have h1:=Ab5 hi
  have:=AhL h i.toNat i.toNat (by rw[Acd];omega) (Nat.le_refl _) k hk
  omega
 .cases hk
theorem Adb{N:List Nod}(h:Lk (upsN N))(i:Int):(pathI N i).length<=N.length:=by
 unfold pathI
 split
 .rename_i hi
  have h1:=Ab5 hi
  have:=Ada h i.toNat (by rw[Acd];omega)
  omega
 .simp
theorem Aks(Γ:Gam)(A:Option Addr)(c:Nat)(l:List Nat)(x:Int)(w:World)(ok:Ok Γ w)(h:SlG Γ A l.length (nis l))(hb:l.length<=65535) :
  Calls Tryz.prog 62 #[.slice A l.length c,.int .i64 x] w fun e w'=>e=.returned (.bool (decide (x∈l.map fun(k:Nat)=>(k:Int))))/\Ext Γ w Γ w':=by
 have hr:=h.row (size:=1) (by rw[Al6,Nat.mul_one]) ok
 refine(Afr w.heap.size A l.length c (l.map fun(k:Nat)=>(k:Int)) x w hr (by omega)).mono ?_
 rintro e w' ⟨he,rfl⟩
 exact⟨he,Ext.refl ok⟩
theorem AbU(Γ:Gam)(x:Sl)(N:List Nod)(a b:Int)(w:World)(ok:Ok Γ w)(h:NG Γ x N)(hk:Lk (upsN N))(hb:N.length<=4096) :
  Calls Tryz.prog 34 #[.agg [x.v].toArray,.int .i64 a,.int .i64 b] w fun e w'=>e=.returned (.bool (ancI N a b))/\Ext Γ w Γ w':=by
 have M:=bx (MM.start ok)
 have OK:=bx ok
 have PA:=bx (fun w ok=>Acu Γ x N b w ok h hk hb)
 have HA:=bx (fun(Γ:Gam) (A:Option Addr) (c:Nat) w ok h=>Aks Γ A c (pathI N b) a w ok h (Nat.le_trans (Adb hk b) (by omega)))
 have hl:([[x.v]]:List (List Value)).map List.length = [1]:=rfl
 clear ok h hk hb
 change Bx (∀Γ A c w ok h,Calls Tryz.prog _ _ w fun e w'=>e=.returned (.bool (ancI N a b))/\Ext Γ w Γ w')at HA
 change Calls Tryz.prog _ #[.agg (fl [[x.v]]).toArray,_,_] _ _
 go_enter Tryz.func34,Tryz.ntmps34
 go_wp2_with (first|(refine zBYo (hl) ?_;clear M;intro w' g M)|refine zLDo (M.out.at0) ?_)
 refine(PA.out _ M.ok).mono ?_
 rintro e1 w1 ⟨A,c,Γ',rfl,hcap,hsl,hx⟩
 replace M:=bx (M.out.call hx)
 have HS:=bx hsl
 clear hcap hsl hx
 go_wp2_with fail
 refine zCA M (HA.out Γ' A c _ M.ok HS.out) ?_;clear M;intro w1 M
 go_wp2_with fail
 go_ret
 exact⟨rfl,Ext.below OK.out M.bel⟩
def atS(N:List Nod)(l:List Nat)(slot:U):Int:=l.foldl (fun a k=>if(N.getD k n0).b.slot.n<=slot.n then(k:Int)else a) (-1)
def atI(N:List Nod)(i:Int)(slot:U):Int:=atS N (pathI N i) slot
theorem AmS{N:List Nod}{l:List Nat}{slot:U}{j:Nat}(hj:j<l.length)(h:(N.getD l[j] n0).b.slot.n<=slot.n):atS N (l.take (j+1)) slot=(l[j]:Int):=by
 unfold atS
 rw[List.take_succ_eq_append_getElem hj,List.foldl_append]
 simp only[List.foldl_cons,List.foldl_nil]
 rw[if_pos h]
theorem AnT{N:List Nod}{l:List Nat}{slot:U}{j:Nat}(hj:j<l.length)(h:¬(N.getD l[j] n0).b.slot.n<=slot.n):atS N (l.take (j+1)) slot=atS N (l.take j) slot:=by
 unfold atS
 rw[List.take_succ_eq_append_getElem hj,List.foldl_append]
 simp only[List.foldl_cons,List.foldl_nil]
 rw[if_neg h]
theorem AhS(Γ:Gam)(x:Sl)(N:List Nod)(i:Int)(slot:U)(w:World)(ok:Ok Γ w)(h:NG Γ x N)(hk:Lk (upsN N))(hb:N.length<=4096) :
  Calls Tryz.prog 128 #[.agg [x.v].toArray,.int .i64 i,.int .u64 (slot.n:Int)] w fun e w'=>e=.returned (.int .i64 (atI N i slot))/\Ext Γ w Γ w':=by
 have M:=bx (MM.start ok)
 have OK:=bx ok
 have LN:=bx h.n
 have HG:=bx h
 have PA:=bx (fun w ok=>Acu Γ x N i w ok h hk hb)
 have PL:=bx (fun k (hm:k∈pathI N i)=>(Ace hk hm).1)
 have PN:=bx (Nat.le_trans (Adb hk i) hb)
 have hl:([[x.v]]:List (List Value)).map List.length = [1]:=rfl
 have AT:Bx (atI N i slot=atS N (pathI N i) slot):=⟨rfl⟩
 clear ok h hk hb
 generalize pathI N i=K at *
 change Calls Tryz.prog _ #[.agg (fl [[x.v]]).toArray,_,_] _ _
 go_enter Tryz.func128,Tryz.ntmps128
 go_wp2_with (first|(refine zBYo (hl) ?_;clear M;intro w' g M)|refine zLDo (M.out.at0) ?_)
 refine(PA.out _ M.ok).mono ?_
 rintro e1 w1 ⟨A,c,Γ',rfl,hcap,hsl,hx⟩
 replace M:=bx (M.out.call hx)
 have HG':Bx (NG Γ' x N):=⟨HG.out.mono hx.le⟩
 have HS:=bx hsl
 clear hcap hsl hx PA HG
 have hkl:K.length<=4096:=PN.out
 go_wp2_with fail
 go_loopw [7,9] (fun a j wr=>∃k:Nat,k<=K.length/\j=.int .i64 k/\a=.int .i64 (atS N (K.take k) slot)/\MM Γ w Γ' wr [⟨g,[[x.v]],[1]⟩] []) (fun _ j _=>K.length-(intOf j).toNat)
 case atStart=>exact⟨0,Nat.zero_le _,rfl,rfl,M.out⟩
 case round=>
  obtain⟨k,hk,rfl,rfl,hM⟩:=hrel
  clear M
  have M:=bx hM
  clear hM
  by_cases hkn:k<K.length
  .obtain⟨gk,rfl,hc⟩:=Acr HS.out k hkn
   have hyN:=PL.out _ (List.getElem_mem hkn)
   have YES:=bx (AmS (N:=N) (slot:=slot) hkn)
   have NO:=bx (AnT (N:=N) (slot:=slot) hkn)
   generalize K[k]=y at *
   obtain⟨gn,hA,hcn⟩:=HG'.out.at (fun x _=>AbW x) y hyN
   have HA:=bx (AeB hA)
   rw[nget hyN]at YES NO
   have hki:(k:Int)<(K.length:Int):=by omega
   have hk0:0<=(k:Int):=by omega
   have hyi:(y:Int)<(x.n:Int):=by rw[LN.out];omega
   have hy0:0<=(y:Int):=by omega
   have HKN:=bx hkn
   have Q0:=bx M.out.at0.cls
   have QC:=bx (CL.cls (ls:=[1]) hc rfl M.ok)
   have QN:=bx (CL.cls hcn (AaO _) M.ok)
   have HC:=bx hc
   clear hc hcn hA
   generalize N[y]=z at *
   by_cases hs:z.b.slot.n<=slot.n
   .have hsi:(z.b.slot.n:Int)<=(slot.n:Int):=by omega
    have YES':=bx (YES.out hs)
    clear YES NO
    go_wp2_with fail
    refine zRG ?_
    repeat((go_big_quiet_want;first|(first|(refine zQE Q0.out (HA.out) ?_;go_big_quiet_on;refine zNM ?_)|(refine zQR QC.out rfl ?_;go_big_quiet_on;refine zNM ?_)|(refine zQR QN.out (AaO _) ?_;go_big_quiet_on;refine zNM ?_))|(refine zQO ?_;go_big_quiet_on)))
    (refine zQN ?_;clear M;intro w4 M)
    clear Q0 QC QN
    go_wp2_with (refine zRD (CL.of (ls:=[1]) HC.out rfl M.ok) ?_)
    go_roundw
    case rel=>exact⟨k+1,by omega,by go_num,by rw[YES'.out],M.out⟩
    case measure=>have:=HKN.out;simp[intOf];omega
   .have hsi:(slot.n:Int)<(z.b.slot.n:Int):=by omega
    have NO':=bx (NO.out hs)
    clear YES NO
    go_wp2_with fail
    refine zRG ?_
    repeat((go_big_quiet_want;first|(first|(refine zQE Q0.out (HA.out) ?_;go_big_quiet_on;refine zNM ?_)|(refine zQR QC.out rfl ?_;go_big_quiet_on;refine zNM ?_)|(refine zQR QN.out (AaO _) ?_;go_big_quiet_on;refine zNM ?_))|(refine zQO ?_;go_big_quiet_on)))
    (refine zQN ?_;clear M;intro w4 M)
    clear Q0 QC QN
    go_wp2_with fail
    go_roundw
    case rel=>exact⟨k+1,by omega,by go_num,by rw[NO'.out],M.out⟩
    case measure=>have:=HKN.out;simp[intOf];omega
  .obtain rfl:k=K.length:=by omega
   have HT:Bx (K.take K.length=K):=⟨List.take_of_length_le (Nat.le_refl _)⟩
   go_wp2_with fail
   go_ret
   exact⟨by rw[AT.out,HT.out];rfl,Ext.below OK.out M.bel⟩
def statOf(b:Blk):Int:=if b.payload=r0 then 1 else 0
theorem Af7(Γ:Gam)(b:Blk)(w:World)(ok:Ok Γ w):Calls Tryz.prog 175 #[.agg (blx b).toArray] w fun e w'=>e=.returned (.int .i64 (statOf b))/\Ext Γ w Γ w':=by
 have M:=bx (MM.start ok)
 have hq:=AbC b.payload r0
 clear ok
 by_cases h:b.payload=r0
 .rw[decide_eq_true h]at hq
  have HR:Bx (statOf b=1):=⟨if_pos h⟩
  clear h
  go_enter Tryz.func175,Tryz.ntmps175
  go_wp2_with (first|(refine zBYo (AaY b) ?_;clear M;intro w' g M)|refine zLDo (M.out.at0) ?_|refine zBDo 29 [] (rc r0) (by kernel_rfl) ?_)
  go_ret
  exact⟨by rw[HR.out];rfl,M.out.ext⟩
 .rw[decide_eq_false h]at hq
  have HR:Bx (statOf b=0):=⟨if_neg h⟩
  go_enter Tryz.func175,Tryz.ntmps175
  go_wp2_with (first|(refine zBYo (AaY b) ?_;clear M;intro w' g M)|refine zLDo (M.out.at0) ?_|refine zBDo 29 [] (rc r0) (by kernel_rfl) ?_)
  go_ret
  exact⟨by rw[HR.out];rfl,M.out.ext⟩
def isTr(p b:Blk):Bool:=decide (b.payload≠r0)&&decide (p.payload=r0)
theorem Akq(Γ:Gam)(p b:Blk)(w:World)(ok:Ok Γ w):Calls Tryz.prog 187 #[.agg (blx p).toArray,.agg (blx b).toArray] w fun e w'=>e=.returned (.bool (isTr p b))/\Ext Γ w Γ w':=by
 have M:=bx (MM.start ok)
 have hq:=AbC b.payload r0
 have hp:=AbC p.payload r0
 clear ok
 by_cases h:b.payload=r0
 .rw[decide_eq_true h]at hq
  have HR:Bx (isTr p b=false):=⟨by simp[isTr,h]⟩
  clear h
  go_enter Tryz.func187,Tryz.ntmps187
  go_wp2_with (first|go_skip|(refine zBYo (AaY _) ?_;clear M;intro w' g M)|refine zLDo (M.out.at0) ?_|refine zBDo 29 [] (rc r0) (by kernel_rfl) ?_)
  go_ret
  exact⟨by rw[HR.out];rfl,M.out.ext⟩
 .rw[decide_eq_false h]at hq
  by_cases h2:p.payload=r0
  .rw[decide_eq_true h2]at hp
   have HR:Bx (isTr p b=true):=⟨by simp[isTr,h,h2]⟩
   clear h h2
   go_enter Tryz.func187,Tryz.ntmps187
   go_wp2_with (first|(refine zBYo (AaY _) ?_;clear M;intro w' g M)|refine zLDo (M.out.at0) ?_|refine zLDo (M.out.at1) ?_|refine zBDo 29 [] (rc r0) (by kernel_rfl) ?_)
   go_ret
   exact⟨by rw[HR.out];rfl,M.out.ext⟩
  .rw[decide_eq_false h2]at hp
   have HR:Bx (isTr p b=false):=⟨by simp[isTr,h2]⟩
   clear h h2
   go_enter Tryz.func187,Tryz.ntmps187
   go_wp2_with (first|(refine zBYo (AaY _) ?_;clear M;intro w' g M)|refine zLDo (M.out.at0) ?_|refine zLDo (M.out.at1) ?_|refine zBDo 29 [] (rc r0) (by kernel_rfl) ?_)
   go_ret
   exact⟨by rw[HR.out];rfl,M.out.ext⟩
def cmpTo(a b:List Int):Nat->Int
 |0=>0
 |k+1=>if a.getD k 0<b.getD k 0 then -1 else if b.getD k 0<a.getD k 0 then 1 else cmpTo a b k
def cmpWd(a b:Wd):Int:=cmpTo a.l b.l 4
theorem AmY(a:Wd){k:Nat}(h:k<4):(wc a)[k]? = some (.int .u64 (a.l.getD k 0)):=by
 unfold wc ints
 rw[List.getElem?_map,List.getElem?_eq_getElem (by rw[a.len];exact h),getD_at (by rw[a.len];exact h)]
 rfl
theorem Agq(Γ:Gam)(a b:Wd)(w:World)(ok:Ok Γ w):Calls Tryz.prog 188 #[.agg (wc a).toArray,.agg (wc b).toArray] w fun e w'=>e=.returned (.int .i64 (cmpWd a b))/\Ext Γ w Γ w':=by
 have M:=bx (MM.start ok)
 have ha:([wc a]:List (List Value)).map List.length = [4]:=by simp[Ach]
 have hb:([wc b]:List (List Value)).map List.length = [4]:=by simp[Ach]
 have HC:Bx (cmpWd a b=cmpTo a.l b.l 4):=⟨rfl⟩
 clear ok
 generalize cmpWd a b=r at *
 change Calls Tryz.prog _ #[.agg (fl [wc a]).toArray,.agg (fl [wc b]).toArray] _ _
 go_enter Tryz.func188,Tryz.ntmps188
 go_wp2_with (first|(refine zBYo (ha) ?_;clear M;intro w' g M)|(refine zBYo (hb) ?_;clear M;intro w' g M))
 rename_i g1 _ _
 go_loopw [5] (fun i wr=>∃k:Nat,k<=4/\i=.int .i64 ((k:Int)-1)/\r=cmpTo a.l b.l k/\MM Γ w Γ wr [⟨g,[wc b],[4]⟩,⟨g1,[wc a],[4]⟩] []) (fun i _=>(intOf i+1).toNat)
 case atStart=>exact⟨4,Nat.le_refl _,rfl,HC.out,M.out⟩
 case round=>
  obtain⟨m,hm,rfl,hr,hM⟩:=hrel
  clear M HC
  have M:=bx hM
  have HR:=bx hr
  clear hM hr
  rcases Nat.eq_zero_or_pos m with h0|h0
  .subst h0
   go_wp2_with fail
   go_ret
   exact⟨by rw[HR.out];rfl,M.out.ext⟩
  .obtain⟨k,rfl⟩:∃k,m=k+1:=⟨m-1,by omega⟩
   have hkk:((k+1:Nat):Int)-1=(k:Int):=by omega
   rw[hkk]
   have hk4:k<4:=by omega
   have HA:=bx (AmY a hk4)
   have HB:=bx (AmY b hk4)
   have QA:=bx M.out.at1.cls
   have QB:=bx M.out.at0.cls
   have hki:(k:Int)<4:=by omega
   have hk0:0<=(k:Int):=by omega
   have hwk:IntKind.i64.wrap ((k:Int)-1)=(k:Int)-1:=IntWalk.i64_in _ (by omega)
   unfold cmpTo at HR
   generalize a.l.getD k 0=x at *
   generalize b.l.getD k 0=y at *
   clear hm h0 hkk
   by_cases h1:x<y
   .rw[if_pos h1]at HR
    go_wp2_with fail
    refine zRG ?_
    repeat((go_big_quiet_want;first|(first|((with_reducible apply Aby QA.out HA.out);rfl;rfl;exact zots;go_big_quiet_on;refine zNM ?_)|((with_reducible apply Aby QB.out HB.out);rfl;rfl;exact zots;go_big_quiet_on;refine zNM ?_))|(refine zQO ?_;go_big_quiet_on)))
    (refine zQN ?_;clear M;intro w4 M)
    clear QA QB
    go_wp2_with fail
    go_ret
    exact⟨by rw[HR.out];rfl,M.out.ext⟩
   .rw[if_neg h1]at HR
    go_wp2_with fail
    refine zRG ?_
    repeat((go_big_quiet_want;first|(first|((with_reducible apply Aby QA.out HA.out);rfl;rfl;exact zots;go_big_quiet_on;refine zNM ?_)|((with_reducible apply Aby QB.out HB.out);rfl;rfl;exact zots;go_big_quiet_on;refine zNM ?_))|(refine zQO ?_;go_big_quiet_on)))
    (refine zQN ?_;clear M;intro w4 M)
    clear QA QB
    have QA:=bx M.out.at1.cls
    have QB:=bx M.out.at0.cls
    by_cases h2:y<x
    .rw[if_pos h2]at HR
     go_wp2_with fail
     refine zRG ?_
     repeat((go_big_quiet_want;first|(first|((with_reducible apply Aby QA.out HA.out);rfl;rfl;exact zots;go_big_quiet_on;refine zNM ?_)|((with_reducible apply Aby QB.out HB.out);rfl;rfl;exact zots;go_big_quiet_on;refine zNM ?_))|(refine zQO ?_;go_big_quiet_on)))
     (refine zQN ?_;clear M;intro w4 M)
     clear QA QB
     go_wp2_with fail
     go_ret
     exact⟨by rw[HR.out];rfl,M.out.ext⟩
    .rw[if_neg h2]at HR
     go_wp2_with fail
     refine zRG ?_
     repeat((go_big_quiet_want;first|(first|((with_reducible apply Aby QA.out HA.out);rfl;rfl;exact zots;go_big_quiet_on;refine zNM ?_)|((with_reducible apply Aby QB.out HB.out);rfl;rfl;exact zots;go_big_quiet_on;refine zNM ?_))|(refine zQO ?_;go_big_quiet_on)))
     (refine zQN ?_;clear M;intro w4 M)
     clear QA QB
     go_wp2_with fail
     go_roundw
     case rel=>exact⟨k,by omega,by go_num,HR.out,M.out⟩
     case measure=>simp[intOf]
def fits11(ttd:Wd)(p b:Blk):Bool:=if b.payload=r0 then decide (p.payload=r0)else if isTr p b=true then decide (cmpWd b.pdiff ttd<0)&&decide (0<=cmpWd b.diff ttd)else true
theorem Aid(Γ:Gam)(ttd:Wd)(p b:Blk)(w:World)(ok:Ok Γ w):Calls Tryz.prog 173 #[.agg (wc ttd).toArray,.agg (blx p).toArray,.agg (blx b).toArray] w fun e w'=>e=.returned (.bool (fits11 ttd p b))/\Ext Γ w Γ w':=by
 have M:=bx (MM.start ok)
 have ht:([wc ttd]:List (List Value)).map List.length = [4]:=by simp[Ach]
 have hq:=AbC b.payload r0
 have hp:=AbC p.payload r0
 have IT:=bx (fun w ok=>Akq Γ p b w ok)
 have C1:=bx (fun w ok=>Agq Γ b.pdiff ttd w ok)
 have C2:=bx (fun w ok=>Agq Γ b.diff ttd w ok)
 clear ok
 change Calls Tryz.prog _ #[.agg (fl [wc ttd]).toArray,_,_] _ _
 by_cases h:b.payload=r0
 .have HR:Bx (fits11 ttd p b=decide (p.payload=r0)):=⟨if_pos h⟩
  rw[decide_eq_true h]at hq
  clear h
  cases h2:decide (p.payload=r0)with
  |true=>
   rw[h2]at hp HR
   clear h2
   (go_enter Tryz.func173,Tryz.ntmps173);(go_wp2_with (first|(refine zBYo (ht) ?_;clear M;intro w' g M)|(refine zBYo (AaY _) ?_;clear M;intro w' g M)|refine zLDo (M.out.at0) ?_|refine zLDo (M.out.at1) ?_|refine zBDo 29 [] (rc r0) (by kernel_rfl) ?_))
   go_ret
   exact⟨by rw[HR.out];rfl,M.out.ext⟩
  |false=>
   rw[h2]at hp HR
   clear h2
   (go_enter Tryz.func173,Tryz.ntmps173);(go_wp2_with (first|(refine zBYo (ht) ?_;clear M;intro w' g M)|(refine zBYo (AaY _) ?_;clear M;intro w' g M)|refine zLDo (M.out.at0) ?_|refine zLDo (M.out.at1) ?_|refine zBDo 29 [] (rc r0) (by kernel_rfl) ?_))
   go_ret
   exact⟨by rw[HR.out];rfl,M.out.ext⟩
 .have HR:Bx (fits11 ttd p b=if isTr p b=true then decide (cmpWd b.pdiff ttd<0)&&decide (0<=cmpWd b.diff ttd)else true):=⟨if_neg h⟩
  rw[decide_eq_false h]at hq
  clear h hp
  generalize isTr p b=t at *
  cases t with
  |false=>
   have HR':Bx (fits11 ttd p b=true):=⟨by rw[HR.out];rfl⟩
   clear HR
   (go_enter Tryz.func173,Tryz.ntmps173);(go_wp2_with (first|(refine zBYo (ht) ?_;clear M;intro w' g M)|(refine zBYo (AaY _) ?_;clear M;intro w' g M)|refine zLDo (M.out.at0) ?_|refine zLDo (M.out.at1) ?_|refine zBDo 29 [] (rc r0) (by kernel_rfl) ?_))
   refine zCA M (IT.out _ M.ok) ?_;clear M;intro w1 M
   go_wp2_with (fail)
   go_ret
   exact⟨by rw[HR'.out];rfl,M.out.ext⟩
  |true=>
   have HR':Bx (fits11 ttd p b=(decide (cmpWd b.pdiff ttd<0)&&decide (0<=cmpWd b.diff ttd))):=⟨by rw[HR.out];rfl⟩
   clear HR
   generalize cmpWd b.pdiff ttd=x at *
   generalize cmpWd b.diff ttd=y at *
   by_cases hx:x<0
   .have HR2:Bx (fits11 ttd p b=decide (0<=y)):=⟨by rw[HR'.out];simp[hx]⟩
    clear HR'
    (go_enter Tryz.func173,Tryz.ntmps173);(go_wp2_with (first|(refine zBYo (ht) ?_;clear M;intro w' g M)|(refine zBYo (AaY _) ?_;clear M;intro w' g M)|refine zLDo (M.out.at0) ?_|refine zLDo (M.out.at1) ?_|refine zBDo 29 [] (rc r0) (by kernel_rfl) ?_))
    refine zCA M (IT.out _ M.ok) ?_;clear M;intro w1 M
    go_wp2_with (first|refine zLDo (M.out.at0) ?_|refine zLDo (M.out.at2) ?_)
    refine zCA M (C1.out _ M.ok) ?_;clear M;intro w1 M
    go_wp2_with (first|refine zLDo (M.out.at0) ?_|refine zLDo (M.out.at2) ?_)
    refine zCA M (C2.out _ M.ok) ?_;clear M;intro w1 M
    go_wp2_with (fail)
    go_ret
    exact⟨by rw[HR2.out];rfl,M.out.ext⟩
   .have HR2:Bx (fits11 ttd p b=false):=⟨by rw[HR'.out];simp[hx]⟩
    have hx':decide (x<0)=false:=decide_eq_false hx
    clear HR'
    (go_enter Tryz.func173,Tryz.ntmps173);(go_wp2_with (first|(refine zBYo (ht) ?_;clear M;intro w' g M)|(refine zBYo (AaY _) ?_;clear M;intro w' g M)|refine zLDo (M.out.at0) ?_|refine zLDo (M.out.at1) ?_|refine zBDo 29 [] (rc r0) (by kernel_rfl) ?_))
    refine zCA M (IT.out _ M.ok) ?_;clear M;intro w1 M
    go_wp2_with (first|refine zLDo (M.out.at0) ?_|refine zLDo (M.out.at2) ?_)
    refine zCA M (C1.out _ M.ok) ?_;clear M;intro w1 M
    go_wp2_with (go_skip)
    go_ret
    exact⟨by rw[HR2.out];rfl,M.out.ext⟩
theorem elNo:ElT Tryz.prog 44 67 240 352:=AcX Tryz.underlying44 (by kernel_rfl) (by decide) (by decide)
theorem Ab4{α:Type}{f:α->List Value}{X:List α}(h:∀x∈X,One (f x)):One (X.flatMap f):=fun u hu=>by
 obtain⟨x,hx,hu⟩:=List.mem_flatMap.1 hu
 exact h x hx u hu
def isStat(st:Int):Bool:=decide (0<=st/\st<=2)
theorem AcV(st:Int)(w:World):Calls Tryz.prog 189 #[.int .i64 st] w fun e w'=>e=.returned (.bool (isStat st))/\Below w.heap.size w w':=by
 by_cases h:0<=st
 .by_cases h2:st<=2
  .have HR:Bx (isStat st=true):=⟨decide_eq_true ⟨h,h2⟩⟩
   go_enter Tryz.func189,Tryz.ntmps189
   go_wp2_with go_skip
   go_ret
   exact⟨by rw[HR.out];rfl,Below.refl _ _⟩
  .have HR:Bx (isStat st=false):=⟨decide_eq_false fun h=>h2 h.2⟩
   go_enter Tryz.func189,Tryz.ntmps189
   go_wp2_with go_skip
   go_ret
   exact⟨by rw[HR.out];rfl,Below.refl _ _⟩
 .have HR:Bx (isStat st=false):=⟨decide_eq_false fun h'=>h h'.1⟩
  go_enter Tryz.func189,Tryz.ntmps189
  go_wp2_with go_skip
  go_ret
  exact⟨by rw[HR.out];rfl,Below.refl _ _⟩
def insN(N:List Nod)(b:Blk)(st:Int):Int × List Nod:=
 if isStat st=false then(2,[])else if 0<=fndI N b.root then(9,[])else if fndI N b.parent<0 then(10,[])
 else if b.slot.n<=(N.getD (fndI N b.parent).toNat n0).b.slot.n then(14,[])else if 4096<=N.length then(11,[])else(0,N ++ [⟨b,fndI N b.parent,st⟩])
def TrE(Γ:Gam)(w:World)(r:Int × List Nod)(e:Ending)(w':World):Prop:=∃(x:Sl) (Γ':Gam),e=.returned (.tuple #[.agg [x.v].toArray,.int .i64 r.1])/\NG Γ' x r.2/\Ext Γ w Γ' w'
theorem TrE.err{Γ Γ':Gam}{w w':World}{r:Int × List Nod}{er:Int}(hr:r=(er,[]))(h:Ext Γ w Γ' w'):TrE Γ w r (.returned (.tuple #[.agg (fl [[.slice none 0 0]]).toArray,.int .i64 er])) w':=by
 subst hr
 exact⟨sl0,Γ',rfl,slR0 _,h⟩
theorem AiJ(b:Blk)(u st:Int):Tryz.prog.built 67 [(0,.agg (blx b).toArray),(1,.int .i64 u),(2,.int .i64 st)]=some (nox ⟨b,u,st⟩).toArray:=by
 have:=Aii (AfW b) u st
 rw[Afy]at this
 rw[this]
 congr 2
 exact Aea ⟨b,u,st⟩
theorem Ald{Γ Γ':Gam}{w w':World}{r:Int × List Nod}{N:List Nod}{y:Nod}{n c:Nat}{A:Option Addr}(hr:r=(0,N ++ [y]))(hn:n=N.length)(h1:CapOk A (n+1) c)(h2:SlG Γ' A (n+1) (N.flatMap nox++fl (noP y)))(h:Ext Γ w Γ' w'):TrE Γ w r (.returned (.tuple #[.agg (fl [[.slice A (n+1) c]]).toArray,.int .i64 0])) w':=by
 subst hr
 exact⟨⟨A,n+1,c⟩,Γ',rfl,⟨by simp[hn],h1,by simpa using h2⟩,h⟩
theorem Acf{N:List Nod}{r:Rt}(h:0<=fndI N r):∃k:Nat,∃hk:k<N.length,fndI N r=(k:Int)/\N[k].b.root=r:=by
 rcases Aa2 (fun n:Nod=>decide (n.b.root=r)) N with⟨h1,_⟩|⟨k,hk,h1,h2,_⟩
 .unfold fndI at h;omega
 .exact⟨k,hk,h1,of_decide_eq_true h2⟩
theorem AhR(Γ:Gam)(x:Sl)(N:List Nod)(b:Blk)(st:Int)(w:World)(ok:Ok Γ w)(h:NG Γ x N)(hb:N.length<=65535) :
  Calls Tryz.prog 174 #[.agg [x.v].toArray,.agg (blx b).toArray,.int .i64 st] w (TrE Γ w (insN N b st)):=by
 have M:=bx (MM.start ok)
 have LN:=bx h.n
 have HG:=bx h
 have HB:=bx hb
 have hl:([[x.v]]:List (List Value)).map List.length = [1]:=rfl
 have FR:=bx (fun w ok=>AaT Γ x N b.root w ok h)
 have FP:=bx (fun w ok=>AaT Γ x N b.parent w ok h)
 have HI:Bx (insN N b st=insN N b st):=⟨rfl⟩
 have BN:=bx (AiJ b)
 clear ok h hb
 change Calls Tryz.prog _ #[.agg (fl [[x.v]]).toArray,_,_] _ _
 cases hs:isStat st with
 |false=>
  have HR:Bx (insN N b st=(2,[])):=⟨if_pos hs⟩
  (go_enter Tryz.func174,Tryz.ntmps174);(go_wp2_with (first|(refine zBYo (hl) ?_;clear M;intro w' g M)|(refine zBYo (AaY b) ?_;clear M;intro w' g M)|(refine zALo (Aaj) ?_;clear M;intro w' g M)));refine zCB M (AcV st _) ?_;clear M;intro w1 M
  rw[hs]
  go_wp2_with (first|refine zBDo 46 [] [.slice none 0 0] (by kernel_rfl) ?_|(refine zSSo M 0 [[.slice none 0 0]] [[.slice none 0 0]] (by rfl) (Aal _ _ _) ?_;clear M;intro w' M))
  (try refine zsm ?_);refine bodyPost_ret (AaR (by rfl) _ M.out.at0 (by rfl) Aav rfl) rfl ?_;exact TrE.err HR.out M.out.ext
 |true=>
  by_cases h9:0<=fndI N b.root
  .have HR:Bx (insN N b st=(9,[])):=⟨by unfold insN;rw[if_neg (by rw[hs];simp),if_pos h9]⟩
   (go_enter Tryz.func174,Tryz.ntmps174);(go_wp2_with (first|(refine zBYo (hl) ?_;clear M;intro w' g M)|(refine zBYo (AaY b) ?_;clear M;intro w' g M)|(refine zALo (Aaj) ?_;clear M;intro w' g M)));refine zCB M (AcV st _) ?_;clear M;intro w1 M
   rw[hs]
   go_wp2_with (first|refine zLDo (M.out.at1) ?_|refine zLDo (M.out.at2) ?_)
   refine zCA M (FR.out _ M.ok) ?_;clear M;intro w1 M
   go_wp2_with (first|refine zBDo 46 [] [.slice none 0 0] (by kernel_rfl) ?_|(refine zSSo M 0 [[.slice none 0 0]] [[.slice none 0 0]] (by rfl) (Aal _ _ _) ?_;clear M;intro w' M))
   (try refine zsm ?_);refine bodyPost_ret (AaR (by rfl) _ M.out.at0 (by rfl) Aav rfl) rfl ?_;exact TrE.err HR.out M.out.ext
  .by_cases h10:fndI N b.parent<0
   .have HR:Bx (insN N b st=(10,[])):=⟨by unfold insN;rw[if_neg (by rw[hs];simp),if_neg h9,if_pos h10]⟩
    (go_enter Tryz.func174,Tryz.ntmps174);(go_wp2_with (first|(refine zBYo (hl) ?_;clear M;intro w' g M)|(refine zBYo (AaY b) ?_;clear M;intro w' g M)|(refine zALo (Aaj) ?_;clear M;intro w' g M)));refine zCB M (AcV st _) ?_;clear M;intro w1 M
    rw[hs]
    go_wp2_with (first|refine zLDo (M.out.at1) ?_|refine zLDo (M.out.at2) ?_)
    refine zCA M (FR.out _ M.ok) ?_;clear M;intro w1 M
    go_wp2_with (first|refine zLDo (M.out.at1) ?_|refine zLDo (M.out.at2) ?_)
    refine zCA M (FP.out _ M.ok) ?_;clear M;intro w1 M
    go_wp2_with (first|refine zBDo 46 [] [.slice none 0 0] (by kernel_rfl) ?_|(refine zSSo M 0 [[.slice none 0 0]] [[.slice none 0 0]] (by rfl) (Aal _ _ _) ?_;clear M;intro w' M))
    (try refine zsm ?_);refine bodyPost_ret (AaR (by rfl) _ M.out.at0 (by rfl) Aav rfl) rfl ?_;exact TrE.err HR.out M.out.ext
   .obtain⟨k,hk,hku,hkr⟩:=Acf (show 0<=fndI N b.parent by omega)
    obtain⟨gn,hA,hc⟩:=HG.out.at (fun x _=>AbW x) k hk
    have HA:=bx (AeB hA)
    have HC:=bx hc
    have I0:Bx (insN N b st=if b.slot.n<=N[k].b.slot.n then(14,[])else if 4096<=N.length then(11,[])else(0,N ++ [⟨b,(k:Int),st⟩])):=⟨by
     unfold insN
     rw[if_neg (by rw[hs];simp),if_neg h9,if_neg h10,hku,Int.toNat_natCast,nget hk]⟩
    have hki:(k:Int)<(x.n:Int):=by rw[LN.out];omega
    have hk0:0<=(k:Int):=by omega
    have h9':decide (0<=fndI N b.root)=false:=decide_eq_false h9
    have hkd:decide ((k:Int)<0)=false:=by simp
    rw[hku]at FP
    have ROW:Bx (∀Γ' w',Le Γ Γ'->Ok Γ' w'->Row w' w'.heap.size 240 (some ⟨gn,0,none⟩) x.n (N.flatMap nox)):=⟨fun Γ' w' hl o=>hA▸(HG.out.sl.mono hl).row (size:=240) (by rw[Aap N (fun x _=>AbW x),LN.out]) o⟩
    have OneN:Bx (One (N.flatMap nox)):=⟨Ab4 fun x _=>Abm x⟩
    clear hc hA hku hkr h10 HI
    generalize insN N b st=r at *
    generalize fndI N b.root=fr at *
    generalize hz:N[k]=z at *
    clear hz
    by_cases h14:b.slot.n<=z.b.slot.n
    .have HR:=bx (I0.out.trans (if_pos h14))
     have hsi:(b.slot.n:Int)<=(z.b.slot.n:Int):=by omega
     clear I0
     (go_enter Tryz.func174,Tryz.ntmps174);(go_wp2_with (first|(refine zBYo (hl) ?_;clear M;intro w' g M)|(refine zBYo (AaY b) ?_;clear M;intro w' g M)|(refine zALo (Aaj) ?_;clear M;intro w' g M)));refine zCB M (AcV st _) ?_;clear M;intro w1 M
     rw[hs]
     go_wp2_with (first|refine zLDo (M.out.at1) ?_|refine zLDo (M.out.at2) ?_)
     refine zCA M (FR.out _ M.ok) ?_;clear M;intro w1 M
     go_wp2_with (first|refine zLDo (M.out.at1) ?_|refine zLDo (M.out.at2) ?_)
     refine zCA M (FP.out _ M.ok) ?_;clear M;intro w1 M
     go_wp2_with (fail)
     have Q1:=bx M.out.at1.cls;have Q2:=bx M.out.at2.cls;have QC:=bx (CL.cls HC.out (AaO _) M.ok);(refine zRG ?_);(repeat((go_big_quiet_want;first|(first|(refine zQE Q2.out (HA.out) ?_;go_big_quiet_on;refine zNM ?_)|(refine zQL Q1.out (AaY _) ?_;go_big_quiet_on;refine zNM ?_)|(refine zQR QC.out (AaO _) ?_;go_big_quiet_on;refine zNM ?_))|(refine zQO ?_;go_big_quiet_on))));(refine zQN ?_;clear M;intro w4 M);clear Q1 Q2 QC
     go_wp2_with (first|refine zBDo 46 [] [.slice none 0 0] (by kernel_rfl) ?_|(refine zSSo M 0 [[.slice none 0 0]] [[.slice none 0 0]] (by rfl) (Aal _ _ _) ?_;clear M;intro w' M))
     (try refine zsm ?_);refine bodyPost_ret (AaR (by rfl) _ M.out.at0 (by rfl) Aav rfl) rfl ?_;exact TrE.err HR.out M.out.ext
    .have I1:=bx (I0.out.trans (if_neg h14))
     have hsi:(z.b.slot.n:Int)<(b.slot.n:Int):=by omega
     clear I0 h14
     by_cases h11:4096<=N.length
     .have HR:=bx (I1.out.trans (if_pos h11))
      have hni:(4096:Int)<=(x.n:Int):=by rw[LN.out];omega
      clear I1
      (go_enter Tryz.func174,Tryz.ntmps174);(go_wp2_with (first|(refine zBYo (hl) ?_;clear M;intro w' g M)|(refine zBYo (AaY b) ?_;clear M;intro w' g M)|(refine zALo (Aaj) ?_;clear M;intro w' g M)));refine zCB M (AcV st _) ?_;clear M;intro w1 M
      rw[hs]
      go_wp2_with (first|refine zLDo (M.out.at1) ?_|refine zLDo (M.out.at2) ?_)
      refine zCA M (FR.out _ M.ok) ?_;clear M;intro w1 M
      go_wp2_with (first|refine zLDo (M.out.at1) ?_|refine zLDo (M.out.at2) ?_)
      refine zCA M (FP.out _ M.ok) ?_;clear M;intro w1 M
      go_wp2_with (fail)
      have Q1:=bx M.out.at1.cls;have Q2:=bx M.out.at2.cls;have QC:=bx (CL.cls HC.out (AaO _) M.ok);(refine zRG ?_);(repeat((go_big_quiet_want;first|(first|(refine zQE Q2.out (HA.out) ?_;go_big_quiet_on;refine zNM ?_)|(refine zQL Q1.out (AaY _) ?_;go_big_quiet_on;refine zNM ?_)|(refine zQR QC.out (AaO _) ?_;go_big_quiet_on;refine zNM ?_))|(refine zQO ?_;go_big_quiet_on))));(refine zQN ?_;clear M;intro w4 M);clear Q1 Q2 QC
      go_wp2_with (first|refine zLE M.out.at2 (HA.out) ?_|refine zBDo 46 [] [.slice none 0 0] (by kernel_rfl) ?_|(refine zSSo M 0 [[.slice none 0 0]] [[.slice none 0 0]] (by rfl) (Aal _ _ _) ?_;clear M;intro w' M))
      (try refine zsm ?_);refine bodyPost_ret (AaR (by rfl) _ M.out.at0 (by rfl) Aav rfl) rfl ?_;exact TrE.err HR.out M.out.ext
     .have HR:=bx (I1.out.trans (if_neg h11))
      have hni:(x.n:Int)<4096:=by rw[LN.out];omega
      clear I1
      (go_enter Tryz.func174,Tryz.ntmps174);(go_wp2_with (first|(refine zBYo (hl) ?_;clear M;intro w' g M)|(refine zBYo (AaY b) ?_;clear M;intro w' g M)|(refine zALo (Aaj) ?_;clear M;intro w' g M)));refine zCB M (AcV st _) ?_;clear M;intro w1 M
      rw[hs]
      go_wp2_with (first|refine zLDo (M.out.at1) ?_|refine zLDo (M.out.at2) ?_)
      refine zCA M (FR.out _ M.ok) ?_;clear M;intro w1 M
      go_wp2_with (first|refine zLDo (M.out.at1) ?_|refine zLDo (M.out.at2) ?_)
      refine zCA M (FP.out _ M.ok) ?_;clear M;intro w1 M
      go_wp2_with (fail)
      have Q1:=bx M.out.at1.cls;have Q2:=bx M.out.at2.cls;have QC:=bx (CL.cls HC.out (AaO _) M.ok);(refine zRG ?_);(repeat((go_big_quiet_want;first|(first|(refine zQE Q2.out (HA.out) ?_;go_big_quiet_on;refine zNM ?_)|(refine zQL Q1.out (AaY _) ?_;go_big_quiet_on;refine zNM ?_)|(refine zQR QC.out (AaO _) ?_;go_big_quiet_on;refine zNM ?_))|(refine zQO ?_;go_big_quiet_on))));(refine zQN ?_;clear M;intro w4 M);clear Q1 Q2 QC
      go_wp2_with (refine zLE M.out.at2 (HA.out) ?_)
      refine AaE [8,10] (.steps [(1,0),(0,1),(0,3),(1,4),(1,5),(1,6)] (.fork 2 (.steps [(2,7),(3,8),(1,9),(3,10),(1,11)] .leaf) 7 (.steps [(2,2),(3,8),(1,9),(3,10),(1,11)] .leaf))) (by kernel_rfl) (by kernel_rfl) ?_
      simp only[MixT6,MT.steps,stepAt,List.getD_cons_zero,List.getD_cons_succ]
      replace M:=bx (M.out.drew)
      have Q1:=bx M.out.at1.cls
      have Q2:=bx M.out.at2.cls
      (repeat(first|(with_reducible refine wpQuiet_nil ?_)|((go_big_quiet_want;first|(first|(refine zQE Q2.out (HA.out) ?_;go_big_quiet_on;refine zNM ?_)|(refine zQL Q1.out (AaY _) ?_;go_big_quiet_on;refine zNM ?_)|((with_reducible refine AaC 67 _ rfl [(0,.agg (blx b).toArray),(1,.int .i64 (k:Int)),(2,.int .i64 st)] (nox ⟨b,(k:Int),st⟩) ?_ (BN.out _ _) ?_);rfl;go_big_quiet_on;refine zNM ?_))|(refine zQO ?_;go_big_quiet_on)))))
      clear Q1 Q2
      refine⟨?_,?_⟩
      .obtain⟨A1,c1,w1,hr,hM,hb⟩:=Aam elNo M.out 44 (some ⟨gn,0,none⟩) x.n x.c _ (ROW.out _ _ M.out.ext.le M.ok) (fun h=>by cases h) OneN.out (by unfold maxLen;omega) (by omega);refine AaB (AaG rfl rfl rfl hr) rfl ?_;refine⟨hb,?_⟩;clear M;have M:=bx hM;clear hM hr hb;refine zNM ?_
       refine AaB (Aa3 elNo rfl rfl (v:=.agg (nox ⟨b,(k:Int),st⟩).toArray) (cs:=nox ⟨b,(k:Int),st⟩) rfl (AbW _)) rfl ?_;refine⟨ext_alloc _ _,?_⟩;replace M:=bx (M.out.alloc (AaO ⟨b,(k:Int),st⟩) rfl 67);refine zNM ?_
       obtain⟨v5,w5,hr,hM⟩:=AaU elNo M.out 44 _ 1 1 _ (Aae M.out.at0 (m:=1) (size:=240) rfl) (fun h=>by cases h) (Abm _) (by unfold maxLen;omega) (by omega);obtain⟨A6,c6,e6⟩:=own_slice (hM.rows _ (List.mem_cons_self ..));simp only at e6;subst e6;refine AaB (AaG rfl rfl rfl hr) rfl ?_;replace M:=bx (hM.tail);clear hr hM;refine zNM ?_
       (repeat(first|(with_reducible refine wpQuiet_nil ?_)|((go_big_quiet_want;((with_reducible refine AaC 46 _ rfl [(0,.slice A6 (x.n+1) c6)] [.slice A6 (x.n+1) c6] ?_ (Adx _ _ _) ?_);rfl;go_big_quiet_on;refine zNM ?_)))));refine AbE M.out 0 [[.slice A6 (x.n+1) c6]] [[.slice A6 (x.n+1) c6]] rfl rfl rfl rfl Aav rfl rfl (Aal _ _ _) rfl rfl ?_;intro w7 M';(simp only[List.set_cons_zero]at M');(replace M:=bx M';clear M');refine zNM ?_;(repeat(first|(with_reducible refine wpQuiet_nil ?_)|((go_big_quiet_want;(refine zQO ?_;go_big_quiet_on)))));refine NoPanic.normal ?_;(go_wp2_with fail);obtain⟨Γ',h1,h2,h3,h4⟩:=M.out.frz;(try refine zsm ?_);refine bodyPost_ret (AaR (by rfl) _ h4.at0 (by rfl) Aav rfl) rfl ?_;exact Ald HR.out LN.out h1 h2 h4.ext
      .refine AaB (Aa3 elNo rfl rfl (v:=.agg (nox ⟨b,(k:Int),st⟩).toArray) (cs:=nox ⟨b,(k:Int),st⟩) rfl (AbW _)) rfl ?_;refine⟨ext_alloc _ _,?_⟩;replace M:=bx (M.out.alloc (AaO ⟨b,(k:Int),st⟩) rfl 67);refine zNM ?_
       obtain⟨A1,c1,w1,hr,hM,hb⟩:=Aam elNo M.out 44 (some ⟨gn,0,none⟩) x.n x.c _ (ROW.out _ _ M.out.ext.le M.ok) (fun h=>by cases h) OneN.out (by unfold maxLen;omega) (by omega);refine AaB (AaG rfl rfl rfl hr) rfl ?_;refine⟨hb,?_⟩;clear M;have M:=bx hM;clear hM hr hb;refine zNM ?_
       obtain⟨v5,w5,hr,hM⟩:=AaU elNo M.out 44 _ 1 1 _ (Aae M.out.at0 (m:=1) (size:=240) rfl) (fun h=>by cases h) (Abm _) (by unfold maxLen;omega) (by omega);obtain⟨A6,c6,e6⟩:=own_slice (hM.rows _ (List.mem_cons_self ..));simp only at e6;subst e6;refine AaB (AaG rfl rfl rfl hr) rfl ?_;replace M:=bx (hM.tail);clear hr hM;refine zNM ?_
       (repeat(first|(with_reducible refine wpQuiet_nil ?_)|((go_big_quiet_want;((with_reducible refine AaC 46 _ rfl [(0,.slice A6 (x.n+1) c6)] [.slice A6 (x.n+1) c6] ?_ (Adx _ _ _) ?_);rfl;go_big_quiet_on;refine zNM ?_)))));refine AbE M.out 0 [[.slice A6 (x.n+1) c6]] [[.slice A6 (x.n+1) c6]] rfl rfl rfl rfl Aav rfl rfl (Aal _ _ _) rfl rfl ?_;intro w7 M';(simp only[List.set_cons_zero]at M');(replace M:=bx M';clear M');refine zNM ?_;(repeat(first|(with_reducible refine wpQuiet_nil ?_)|((go_big_quiet_want;(refine zQO ?_;go_big_quiet_on)))));refine NoPanic.normal ?_;(go_wp2_with fail);obtain⟨Γ',h1,h2,h3,h4⟩:=M.out.frz;(try refine zsm ?_);refine bodyPost_ret (AaR (by rfl) _ h4.at0 (by rfl) Aav rfl) rfl ?_;exact Ald HR.out LN.out h1 h2 h4.ext
def NodP(Γ:Gam)(w:World)(N:List Nod)(e:Ending)(w':World):Prop:=∃(x:Sl) (Γ':Gam),e=.returned (.agg [x.v].toArray)/\NG Γ' x N/\Ext Γ w Γ' w'
theorem Ah4(Γ:Gam)(b:Blk)(st:Int)(w:World)(ok:Ok Γ w):Calls Tryz.prog 75 #[.agg (blx b).toArray,.int .i64 st] w (NodP Γ w [⟨b,-1,st⟩]):=by
 have M:=bx (MM.start ok)
 have BN:=bx (AiJ b)
 clear ok
 go_enter Tryz.func75,Tryz.ntmps75
 go_wp2_with (first|(refine zBYo (AaY b) ?_;clear M;intro w' g M)|(refine zALo (Aaj) ?_;clear M;intro w' g M)|refine zLDo (M.out.at1) ?_|refine zBDo 67 [(0,.agg (blx b).toArray),(1,.int .i64 (-1)),(2,.int .i64 st)] (nox ⟨b,-1,st⟩) (BN.out _ _) ?_|((with_reducible apply Abk M.out elNo);rfl;rfl;rfl;rfl;exact AaO ⟨b,-1,st⟩;rfl;intro w' g M' hb';(replace M:=bx M';clear M');clear hb')|refine zBDo 46 [(0,.slice (some ⟨g,0,none⟩) 1 1)] [.slice (some ⟨g,0,none⟩) 1 1] (Adx _ _ _) ?_|(refine zSSo M 1 [[.slice (some ⟨g,0,none⟩) 1 1]] [[.slice (some ⟨g,0,none⟩) 1 1]] (by rfl) (Aal _ _ _) ?_;clear M;intro w' M))
 obtain⟨Γ',h1,h2,h3⟩:=M.out.frzL
 refine zRb h3.at0 ?_
 exact⟨⟨some ⟨g,0,none⟩,1,1⟩,Γ',rfl,⟨rfl,⟨Nat.le_refl _,by show 1<=maxLen;unfold maxLen;omega,fun h=>by cases h⟩,fun _=>⟨g,[],rfl,by rw[h1];simp⟩⟩,h3.ext⟩
def descI(N:List Nod)(i:Nat):List Nat:=descN (upsN N) i N.length
theorem Agd(Γ:Gam)(x:Sl)(N:List Nod)(i:Nat)(w:World)(ok:Ok Γ w)(h:NG Γ x N)(hk:Lk (upsN N))(hb:N.length<=4096) :
  Calls Tryz.prog 21 #[.agg [x.v].toArray,.int .i64 (i:Int)] w (NisP Γ w (descI N i)):=by
 have:=AiB (ns:=N.map toNd) (by rw[Ac3];exact hk) x.A x.n x.c (by rw[h.n];exact hb) i w (h.nrow ok)
 rw[Ac3]at this
 refine this.mono fun e w' hp=>?_
 have hq:=AgQ ok hp
 unfold descI
 rw[<-h.n]
 exact hq
theorem AiD{N:List Nod}{i k:Nat}(h:k∈descI N i):k<N.length:=by
 unfold descI descN at h
 exact List.mem_range.1 (List.mem_filter.1 h).1
theorem Agp(N:List Nod)(i:Nat):(descI N i).length<=N.length:=by
 unfold descI descN
 exact Nat.le_trans (List.length_filter_le _ _) (by simp)
def setF(st fb:Int):List Nod->List Nat->Option (List Nod)
 |N,[]=>some N
 |N,k::l=>if(N.getD k n0).st=fb then none else setF st fb (N.set k {N.getD k n0 with st:=st}) l
theorem AgA(st fb:Int):∀(N:List Nod) (l:List Nat) (k:Nat),setF st fb N (l ++ [k])=(setF st fb N l).bind fun M=>if(M.getD k n0).st=fb then none else some (M.set k {M.getD k n0 with st:=st})
 |N,[],k=>rfl
 |N,j::l,k=>by
  simp only[List.cons_append,setF]
  split
  .rfl
  .exact AgA st fb _ l k
theorem Afe{st fb:Int}:∀{N M:List Nod} {l:List Nat},setF st fb N l=some M->M.length=N.length
 |N,M,[],h=>by simp only[setF,Option.some.injEq]at h;rw[h]
 |N,M,k::l,h=>by
  simp only[setF]at h
  split at h
  .cases h
  .rw[Afe h,List.length_set]
theorem AgB{st fb:Int}:∀{N:List Nod} {l l':List Nat},setF st fb N l=none->setF st fb N (l++l')=none
 |N,[],l',h=>by cases h
 |N,k::l,l',h=>by
  simp only[List.cons_append,setF]at h |-
  split
  .rfl
  .rw[if_neg (by assumption)]at h;exact AgB h
theorem Ai3{st fb:Int}{N M:List Nod}{l:List Nat}{j:Nat}(hj:j<l.length)(h:setF st fb N (l.take j)=some M) :
  setF st fb N (l.take (j+1))=if(M.getD l[j] n0).st=fb then none else some (M.set l[j] {M.getD l[j] n0 with st:=st}):=by
 rw[List.take_succ_eq_append_getElem hj,AgA,h];rfl
theorem Al4(y:Nod)(st:Int):(nox y).set 239 (.int .i64 st)=nox {y with st:=st}:=by
 have h1:nox y=nc (toNd y):=(Aea y).symm
 have h2:nox {y with st:=st}=nc (toNd {y with st:=st}):=(Aea _).symm
 rw[h1,h2]
 unfold nc
 have hl:(bc (toNd y).b).length=238:=(AfW y.b).len
 rw[List.set_append_right _ _ (by omega),hl]
 rfl
theorem AmD{N:List Nod}{k:Nat}(hk:k<N.length)(st:Int):(N.flatMap nox).set (k*240+239) (.int .i64 st)=(N.set k {N[k]with st:=st}).flatMap nox:=by
 have e:=Abr (f:=nox) N k hk
 have hp:((N.take k).flatMap nox).length=k*240:=Acg N k hk (fun x _=>AbW x)
 rw[Aft N k _ hk,e,List.append_assoc,List.set_append_right _ _ (by omega),hp,Nat.add_sub_cancel_left,List.set_append_left _ _ (by rw[AbW];omega),Al4,List.append_assoc]
def SetP(Γ:Gam)(w:World)(r:Option (List Nod))(e:Ending)(w':World):Prop:=∃(x:Sl) (Γ':Gam),e=.returned (.tuple #[.agg [x.v].toArray,.bool r.isSome])/\NG Γ' x (r.getD [])/\Ext Γ w Γ' w'
theorem AnZ{N:List Nod}{k:Nat}(hk:k<N.length)(rest:List Value):(fl [N.flatMap nox,rest])[k*240+239]? = some (.int .i64 N[k].st):=by
 have hl:=Aap (f:=nox) N (fun x _=>AbW x)
 have hb:(k+1)*240<=N.length*240:=Nat.mul_le_mul_right _ hk
 show(N.flatMap nox++rest)[k*240+239]? = _
 rw[List.getElem?_append_left (by omega),Afu (f:=nox) N (fun x _=>AbW x) k 239 hk (by omega),<-Aea]
 exact Al7 (AfW _)
theorem Amg{N:List Nod}{k:Nat}(hk:k<N.length)(rest:List Value)(st:Int):fl [(N.set k {N[k]with st:=st}).flatMap nox,rest]=(fl [N.flatMap nox,rest]).set (k*240+239) (.int .i64 st):=by
 have hl:=Aap (f:=nox) N (fun x _=>AbW x)
 have hb:(k+1)*240<=N.length*240:=Nat.mul_le_mul_right _ hk
 show _++rest=(N.flatMap nox++rest).set _ _
 rw[List.set_append_left _ _ (by omega),AmD hk]
theorem Ah0(Γ:Gam)(x:Sl)(N:List Nod)(A:Option Addr)(c:Nat)(l:List Nat)(st fb:Int)(w:World)(ok:Ok Γ w)(h:NG Γ x N)(h1:0<N.length)(hb:N.length<=4096)(hl:SlG Γ A l.length (nis l))(hlt:∀k∈l,k<N.length)(hlb:l.length<=65535) :
  Calls Tryz.prog 191 #[.agg [x.v].toArray,.slice A l.length c,.int .i64 st,.int .i64 fb] w (SetP Γ w (setF st fb N l)):=by
 have M:=bx (MM.start ok)
 have LN:=bx h.n
 have HG:=bx h
 have HB:=bx hb
 have HLB:=bx hlb
 have HLT:=bx hlt
 have HS:=bx hl
 have H1:=bx h1
 have ht:([[x.v]]:List (List Value)).map List.length = [1]:=rfl
 have hxb:x.n<=4096:=by rw[h.n];exact hb
 have ROW:Bx (∀w',Ok Γ w'->Row w' w'.heap.size 240 x.A x.n (N.flatMap nox)):=⟨fun w' o=>h.sl.row (size:=240) (by rw[Aap N (fun x _=>AbW x),h.n]) o⟩
 have OneN:Bx (One (N.flatMap nox)):=⟨Ab4 fun x _=>Abm x⟩
 have CAP:=bx h.cap.nil
 clear ok h hb hl hlt hlb h1
 change Calls Tryz.prog _ #[.agg (fl [[x.v]]).toArray,_,_,_] _ _
 go_enter Tryz.func191,Tryz.ntmps191
 go_wp2_with (first|(refine zBYo (ht) ?_;clear M;intro w' g M)|(refine zALo (Aaj) ?_;clear M;intro w' g M)|refine zLDo (M.out.at1) ?_|(at_builtin;(with_reducible apply Aa8 (M.out.row0 67 240) elNo (ROW.out _ M.ok) CAP.out);exact OneN.out;(unfold maxLen;omega);omega;rfl;rfl;rfl;rfl;intro A' c' w' M';(simp only[Nat.zero_add,List.nil_append]at M');(replace M:=bx M';clear M'))|(refine zSSo M 0 [[.slice A' x.n c']] [[.slice A' x.n c']] (by rfl) (Aal _ _ _) ?_;clear M;intro w' M))
 have hx1:0<x.n:=by rw[LN.out];exact H1.out
 rename_i gt _ gres _ _ _ _
 obtain⟨gr,rest,rfl,hcap,M'⟩:=M.out.rowL hx1
 (replace M:=bx M';clear M')
 have HCAP:=bx hcap
 clear hcap ROW OneN CAP
 have hkl:l.length<=65535:=HLB.out
 go_wp2_with fail
 go_loopw [11] (fun j wr=>∃(k:Nat) (Nk:List Nod),k<=l.length/\j=.int .i64 k/\setF st fb N (l.take k)=some Nk/\MM Γ w Γ wr [⟨gr,[Nk.flatMap nox,rest],[(N.flatMap nox).length,rest.length]⟩,⟨g,[[.slice (some ⟨gr,0,none⟩) x.n c']],[1]⟩,⟨gres,[[.slice none 0 0]],[1]⟩,⟨gt,[[x.v]],[1]⟩] []) (fun j _=>l.length-(intOf j).toNat)
 case atStart=>exact⟨0,N,Nat.zero_le _,rfl,rfl,M.out⟩
 case round=>
  obtain⟨k,Nk,hk,rfl,hset,hM⟩:=hrel
  clear M
  have M:=bx hM
  have HSET:=bx hset
  have NL:Bx (Nk.length=N.length):=⟨Afe hset⟩
  clear hM hset
  by_cases hkn:k<l.length
  .obtain⟨gk,rfl,hc⟩:=Acr HS.out k hkn
   have hyN:=HLT.out _ (List.getElem_mem hkn)
   have ST:=bx (Ai3 hkn HSET.out)
   have LD:Bx (l=l.take (k+1)++l.drop (k+1)):=⟨(List.take_append_drop _ _).symm⟩
   generalize l[k]=y at *
   have hyK:y<Nk.length:=by rw[NL.out];exact hyN
   rw[nget hyK]at ST
   have HZ:Bx ((fl [Nk.flatMap nox,rest])[y*240+239]? = some (.int .i64 Nk[y].st)):=⟨AnZ hyK rest⟩
   have FS:Bx (fl [(Nk.set y {Nk[y]with st:=st}).flatMap nox,rest]=(fl [Nk.flatMap nox,rest]).set (y*240+239) (.int .i64 st)):=⟨Amg hyK rest st⟩
   have hlt2:y*240+239<(fl [Nk.flatMap nox,rest]).length:=(List.getElem?_eq_some_iff.1 HZ.out).1
   have FL:Bx (([(Nk.set y {Nk[y]with st:=st}).flatMap nox,rest]:List (List Value)).map List.length = [(N.flatMap nox).length,rest.length]):=⟨by
    have h1:=Aap (f:=nox) (Nk.set y {Nk[y]with st:=st}) (fun x _=>AbW x)
    have h2:=Aap (f:=nox) N (fun x _=>AbW x)
    simp only[List.map_cons,List.map_nil,h1,h2,List.length_set,NL.out]⟩
   generalize hz:Nk[y]=z at *
   clear hz
   have hki:(k:Int)<(l.length:Int):=by omega
   have hk0:0<=(k:Int):=by omega
   have hyi:(y:Int)<(x.n:Int):=by rw[LN.out];omega
   have hy0:0<=(y:Int):=by omega
   have HKN:=bx hkn
   have QC:=bx (CL.cls (ls:=[1]) hc rfl M.ok)
   have HC:=bx hc
   have Q0:=bx M.out.at0.has.cls
   have Q1:=bx M.out.at1.cls
   clear hc
   by_cases hs:z.st=fb
   .have hsb:(z.st==fb)=true:=by simpa using hs
    have HN:Bx (setF st fb N l=none):=⟨by rw[LD.out];exact AgB (ST.out.trans (if_pos hs))⟩
    clear hs ST
    go_wp2_with fail
    refine zRG ?_
    repeat((go_big_quiet_want;first|(first|((with_reducible apply AgJ Q0.out HZ.out);rfl;rfl;exact zots;go_big_quiet_on;refine zNM ?_)|(refine zQL Q1.out rfl ?_;go_big_quiet_on;refine zNM ?_)|(refine zQR QC.out rfl ?_;go_big_quiet_on;refine zNM ?_))|(refine zQO ?_;go_big_quiet_on)))
    (refine zQN ?_;clear M;intro w4 M)
    clear Q0 Q1 QC
    go_wp2_with (first|refine zBDo 46 [] [.slice none 0 0] (by kernel_rfl) ?_|(refine zSSo M 2 [[.slice none 0 0]] [[.slice none 0 0]] (by rfl) (Aal _ _ _) ?_;clear M;intro w' M))
    (try refine zsm ?_);refine bodyPost_ret (AaR (by rfl) _ M.out.at2 (by rfl) Aav rfl) rfl ?_
    unfold SetP
    rw[HN.out]
    exact⟨sl0,Γ,rfl,slR0 _,M.out.ext⟩
   .have hsb:(z.st==fb)=false:=by simpa using hs
    have ST':=bx (ST.out.trans (if_neg hs))
    clear hs ST
    go_wp2_with fail
    refine zRG ?_
    repeat((go_big_quiet_want;first|(first|((with_reducible apply AgJ Q0.out HZ.out);rfl;rfl;exact zots;go_big_quiet_on;refine zNM ?_)|(refine zQL Q1.out rfl ?_;go_big_quiet_on;refine zNM ?_)|(refine zQR QC.out rfl ?_;go_big_quiet_on;refine zNM ?_))|(refine zQO ?_;go_big_quiet_on)))
    (refine zQN ?_;clear M;intro w4 M)
    clear Q0 Q1 QC
    go_wp2_with fail
    refine AaE [9] (.steps [(1,0),(0,1),(1,2),(1,3),(1,4),(0,5),(1,6),(1,7),(1,8),(3,9)] .leaf) (by kernel_rfl) (by kernel_rfl) ?_
    simp only[MixT6,MT.steps,stepAt,List.getD_cons_zero,List.getD_cons_succ]
    replace M:=bx (M.out.drew)
    have Q1:=bx M.out.at1.cls
    have QC:=bx (CL.cls (ls:=[1]) HC.out rfl M.ok)
    (repeat(first|(with_reducible refine wpQuiet_nil ?_)|((go_big_quiet_want;first|(first|(refine zQL Q1.out rfl ?_;go_big_quiet_on;refine zNM ?_)|(refine zQR QC.out rfl ?_;go_big_quiet_on;refine zNM ?_))|(refine zQO ?_;go_big_quiet_on)))))
    clear Q1 QC
    refine Al8 M.out 0 (.int .i64 st) (P':=[(Nk.set y {z with st:=st}).flatMap nox,rest]) rfl hlt2 FS.out FL.out rfl rfl rfl AhM rfl rfl rfl ?_
    intro w7 M'
    simp only[List.set_cons_zero]at M'
    (replace M:=bx M';clear M')
    refine zNM ?_
    refine NoPanic.normal ?_
    go_wp2_with fail
    go_roundw
    case rel=>exact⟨k+1,_,by omega,by go_num,ST'.out,M.out⟩
    case measure=>have:=HKN.out;simp[intOf];omega
  .obtain rfl:k=l.length:=by omega
   have HT:Bx (setF st fb N l=some Nk):=⟨by have:=HSET.out;rwa [List.take_of_length_le (Nat.le_refl _)]at this⟩
   go_wp2_with (first|refine zLDo (M.out.at1) ?_|(refine zSSo M 2 [[.slice (some ⟨gr,0,none⟩) x.n c']] [[.slice (some ⟨gr,0,none⟩) x.n c']] (by rfl) (Aal _ _ _) ?_;clear M;intro w' M))
   obtain⟨Γ',h1,h2,h3⟩:=M.out.frzL
   (try refine zsm ?_);refine bodyPost_ret (AaR (by rfl) _ h3.at1 (by rfl) Aav rfl) rfl ?_
   unfold SetP
   rw[HT.out]
   exact⟨⟨some ⟨gr,0,none⟩,x.n,c'⟩,Γ',rfl,⟨by show x.n=Nk.length;rw[NL.out,LN.out],HCAP.out,fun _=>⟨gr,rest,rfl,h1⟩⟩,h3.ext⟩
def stR(r:Option (List Nod)):Int × List Nod:=match r with|none=>(21,[])|some M=>(0,M)
def raiseN(N:List Nod)(i:Int):Int × List Nod:=if isI i N.length=true then stR (setF 1 2 N (pathI N i))else(10,[])
theorem Ai8(Γ:Gam)(x:Sl)(N:List Nod)(i:Int)(w:World)(ok:Ok Γ w)(h:NG Γ x N)(hk:Lk (upsN N))(h1:0<N.length)(hb:N.length<=4096) :
  Calls Tryz.prog 180 #[.agg [x.v].toArray,.int .i64 i] w (TrE Γ w (raiseN N i)):=by
 have M:=bx (MM.start ok)
 have ht:([[x.v]]:List (List Value)).map List.length = [1]:=rfl
 have IS:Bx (∀Γ w,Ok Γ w->Calls Tryz.prog 61 #[.agg [x.v].toArray,.int .i64 i] w fun e w'=>e=.returned (.bool (isI i N.length))/\Ext Γ w Γ w'):=⟨fun Γ w ok=>by have:=Ac9 Γ x i w ok;rwa [h.n]at this⟩
 have PA:=bx (fun w ok=>Acu Γ x N i w ok h hk hb)
 have HG:=bx h
 clear ok
 change Calls Tryz.prog _ #[.agg (fl [[x.v]]).toArray,_] _ _
 cases hi:isI i N.length with
 |false=>
  have HR:Bx (raiseN N i=(10,[])):=⟨by unfold raiseN;rw[hi];rfl⟩
  rw[hi]at IS
  clear h hk h1 hb hi
  go_enter Tryz.func180,Tryz.ntmps180
  go_wp2_with (first|(refine zBYo (ht) ?_;clear M;intro w' g M)|(refine zALo (Aaj) ?_;clear M;intro w' g M)|refine zLDo (M.out.at1) ?_)
  refine zCA M (IS.out _ _ M.ok) ?_;clear M;intro w1 M
  go_wp2_with (first|refine zBDo 46 [] [.slice none 0 0] (by kernel_rfl) ?_|(refine zSSo M 0 [[.slice none 0 0]] [[.slice none 0 0]] (by rfl) (Aal _ _ _) ?_;clear M;intro w' M))
  (try refine zsm ?_);refine bodyPost_ret (AaR (by rfl) _ M.out.at0 (by rfl) Aav rfl) rfl ?_
  exact TrE.err HR.out M.out.ext
 |true=>
  have HR:Bx (raiseN N i=stR (setF 1 2 N (pathI N i))):=⟨by unfold raiseN;rw[if_pos hi]⟩
  rw[hi]at IS
  have SE:=bx (fun Γ' A c w ok h hl=>Ah0 Γ' x N A c (pathI N i) 1 2 w ok h h1 hb hl (fun k hm=>(Ace hk hm).1) (Nat.le_trans (Adb hk i) (by omega)))
  clear h hk h1 hb hi
  generalize setF 1 2 N (pathI N i)=r at *
  generalize pathI N i=K at *
  go_enter Tryz.func180,Tryz.ntmps180
  go_wp2_with (first|(refine zBYo (ht) ?_;clear M;intro w' g M)|(refine zALo (Aaj) ?_;clear M;intro w' g M)|refine zLDo (M.out.at1) ?_)
  refine zCA M (IS.out _ _ M.ok) ?_;clear M;intro w1 M
  go_wp2_with (fail)
  refine AaE [9] (.steps [(0,0),(0,1),(1,2)] (.fork 3 (.fork 4 (.steps [(1,5),(1,6),(1,7),(2,8),(3,9),(1,10)] .leaf) 8 (.steps [(2,4),(1,5),(1,6),(1,7),(3,9),(1,10)] .leaf)) 8 (.steps [(2,3),(2,4),(1,5),(1,6),(1,7),(3,9),(1,10)] .leaf))) (by kernel_rfl) (by kernel_rfl) ?_
  simp only[MixT6,MT.steps,stepAt,List.getD_cons_zero,List.getD_cons_succ]
  replace M:=bx (M.out.drew)
  have Q1:=bx M.out.at1.cls
  (repeat(first|(with_reducible refine wpQuiet_nil ?_)|((go_big_quiet_want;first|(refine zQL Q1.out ht ?_;go_big_quiet_on;refine zNM ?_)|(refine zQO ?_;go_big_quiet_on)))))
  clear Q1
  refine⟨?_,?_⟩
  .refine zMC (PA.out _ M.ok) Tryz.func31 ?_;rintro e2 w2 ⟨A2,c2,Γ2,rfl,hcap2,hsl2,hx2⟩;refine⟨_,rfl,hx2.bel,?_⟩;replace M:=bx (M.out.call hx2);have HS2:=bx hsl2;clear hcap2 hsl2 hx2;refine zNM ?_
   refine⟨?_,?_⟩
   .refine zMC (SE.out _ A2 c2 _ M.ok (HG.out.mono M.out.ext.le) HS2.out) Tryz.func191 ?_;rintro e3 w3 ⟨x3,Γ3,rfl,hn3,hx3⟩;refine⟨_,rfl,hx3.bel,?_⟩;replace M:=bx (M.out.call hx3);have HN3:=bx hn3;clear hn3 hx3;refine zNM ?_
    (repeat(first|(with_reducible refine wpQuiet_nil ?_)|((go_big_quiet_want;(refine zQO ?_;go_big_quiet_on)))))
    refine AaB (AaK rfl Aaj) rfl ?_;refine⟨ext_alloc _ _,?_⟩;replace M:=bx (M.out.alloc (P:=[[.slice none 0 0]]) (ls:=[1]) rfl rfl 46);refine zNM ?_
    refine AbE M.out 0 [[x3.v]] [[x3.v]] rfl rfl rfl rfl Aav rfl rfl (Aal _ _ _) rfl rfl ?_;intro w7 M';(simp only[List.set_cons_zero]at M');(replace M:=bx M';clear M');refine zNM ?_;(repeat(first|(with_reducible refine wpQuiet_nil ?_)|((go_big_quiet_want;(refine zQO ?_;go_big_quiet_on)))));refine NoPanic.normal ?_;cases r with|none=>((go_wp2_with (first|refine zBDo 46 [] [.slice none 0 0] (by kernel_rfl) ?_|(refine zSSo M 1 [[.slice none 0 0]] [[.slice none 0 0]] (by rfl) (Aal _ _ _) ?_;clear M;intro w' M)));(try refine zsm ?_);refine bodyPost_ret (AaR (by rfl) _ M.out.at1 (by rfl) Aav rfl) rfl ?_;exact TrE.err HR.out M.out.ext)|some N'=>((go_wp2_with (first|refine zLDo (M.out.at0) ?_|(refine zSSo M 1 [[x3.v]] [[x3.v]] (by rfl) (Aal _ _ _) ?_;clear M;intro w' M)));(try refine zsm ?_);refine bodyPost_ret (AaR (by rfl) _ M.out.at1 (by rfl) Aav rfl) rfl ?_;rw[HR.out];exact⟨x3,_,rfl,HN3.out,M.out.ext⟩)
   .refine AaB (AaK rfl Aaj) rfl ?_;refine⟨ext_alloc _ _,?_⟩;replace M:=bx (M.out.alloc (P:=[[.slice none 0 0]]) (ls:=[1]) rfl rfl 46);refine zNM ?_
    refine zMC (SE.out _ A2 c2 _ M.ok (HG.out.mono M.out.ext.le) HS2.out) Tryz.func191 ?_;rintro e3 w3 ⟨x3,Γ3,rfl,hn3,hx3⟩;refine⟨_,rfl,hx3.bel,?_⟩;replace M:=bx (M.out.call hx3);have HN3:=bx hn3;clear hn3 hx3;refine zNM ?_
    (repeat(first|(with_reducible refine wpQuiet_nil ?_)|((go_big_quiet_want;(refine zQO ?_;go_big_quiet_on)))))
    refine AbE M.out 0 [[x3.v]] [[x3.v]] rfl rfl rfl rfl Aav rfl rfl (Aal _ _ _) rfl rfl ?_;intro w7 M';(simp only[List.set_cons_zero]at M');(replace M:=bx M';clear M');refine zNM ?_;(repeat(first|(with_reducible refine wpQuiet_nil ?_)|((go_big_quiet_want;(refine zQO ?_;go_big_quiet_on)))));refine NoPanic.normal ?_;cases r with|none=>((go_wp2_with (first|refine zBDo 46 [] [.slice none 0 0] (by kernel_rfl) ?_|(refine zSSo M 1 [[.slice none 0 0]] [[.slice none 0 0]] (by rfl) (Aal _ _ _) ?_;clear M;intro w' M)));(try refine zsm ?_);refine bodyPost_ret (AaR (by rfl) _ M.out.at1 (by rfl) Aav rfl) rfl ?_;exact TrE.err HR.out M.out.ext)|some N'=>((go_wp2_with (first|refine zLDo (M.out.at0) ?_|(refine zSSo M 1 [[x3.v]] [[x3.v]] (by rfl) (Aal _ _ _) ?_;clear M;intro w' M)));(try refine zsm ?_);refine bodyPost_ret (AaR (by rfl) _ M.out.at1 (by rfl) Aav rfl) rfl ?_;rw[HR.out];exact⟨x3,_,rfl,HN3.out,M.out.ext⟩)
  .refine AaB (AaK rfl Aaj) rfl ?_;refine⟨ext_alloc _ _,?_⟩;replace M:=bx (M.out.alloc (P:=[[.slice none 0 0]]) (ls:=[1]) rfl rfl 46);refine zNM ?_
   refine zMC (PA.out _ M.ok) Tryz.func31 ?_;rintro e2 w2 ⟨A2,c2,Γ2,rfl,hcap2,hsl2,hx2⟩;refine⟨_,rfl,hx2.bel,?_⟩;replace M:=bx (M.out.call hx2);have HS2:=bx hsl2;clear hcap2 hsl2 hx2;refine zNM ?_
   refine zMC (SE.out _ A2 c2 _ M.ok (HG.out.mono M.out.ext.le) HS2.out) Tryz.func191 ?_;rintro e3 w3 ⟨x3,Γ3,rfl,hn3,hx3⟩;refine⟨_,rfl,hx3.bel,?_⟩;replace M:=bx (M.out.call hx3);have HN3:=bx hn3;clear hn3 hx3;refine zNM ?_
   (repeat(first|(with_reducible refine wpQuiet_nil ?_)|((go_big_quiet_want;(refine zQO ?_;go_big_quiet_on)))))
   refine AbE M.out 0 [[x3.v]] [[x3.v]] rfl rfl rfl rfl Aav rfl rfl (Aal _ _ _) rfl rfl ?_;intro w7 M';(simp only[List.set_cons_zero]at M');(replace M:=bx M';clear M');refine zNM ?_;(repeat(first|(with_reducible refine wpQuiet_nil ?_)|((go_big_quiet_want;(refine zQO ?_;go_big_quiet_on)))));refine NoPanic.normal ?_;cases r with|none=>((go_wp2_with (first|refine zBDo 46 [] [.slice none 0 0] (by kernel_rfl) ?_|(refine zSSo M 1 [[.slice none 0 0]] [[.slice none 0 0]] (by rfl) (Aal _ _ _) ?_;clear M;intro w' M)));(try refine zsm ?_);refine bodyPost_ret (AaR (by rfl) _ M.out.at1 (by rfl) Aav rfl) rfl ?_;exact TrE.err HR.out M.out.ext)|some N'=>((go_wp2_with (first|refine zLDo (M.out.at0) ?_|(refine zSSo M 1 [[x3.v]] [[x3.v]] (by rfl) (Aal _ _ _) ?_;clear M;intro w' M)));(try refine zsm ?_);refine bodyPost_ret (AaR (by rfl) _ M.out.at1 (by rfl) Aav rfl) rfl ?_;rw[HR.out];exact⟨x3,_,rfl,HN3.out,M.out.ext⟩)
end Go.Proofs.YtmgeheaneohldaaGreat
