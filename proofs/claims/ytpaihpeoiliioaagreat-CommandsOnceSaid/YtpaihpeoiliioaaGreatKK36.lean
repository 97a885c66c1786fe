/- Texts joined: what the walks of this claim stand on (part 36). -/
import Derived.Test.YtpaihpeoiliioaaGreatKK10
set_option linter.all false
set_option maxRecDepth 20000
set_option maxHeartbeats 40000000
namespace Go.Proofs.YtpaihpeoiliioaaGreat
open Go.RowKit Old
def LatP(Γ:Gam)(w:World)(z:Zst)(r:Rq)(e:Ending)(w':World):Prop:=∃(z':Zst) (x':Zls) (Γ':Gam),e=.returned (.agg (fl (zsP z' x')).toArray)/\ZsG Γ' x' z'/\z'.s=z.s/\z'.reqs=z.reqs/\z'.rets.length<=z.rets.length+1/\(∀q∈z'.rets,q∈z.rets\/q.tries=r.tries+1)/\Ext Γ w Γ' w'
theorem LatP.same{Γ:Gam}{w w':World}{z:Zst}{r:Rq}{x:Zls}(h:ZsG Γ x z)(hx:Ext Γ w Γ w')(b:Bool):LatP Γ w z r (.returned (.agg (fl (zsP {z with over:=b} x)).toArray)) w':=
 ⟨{z with over:=b},x,Γ,rfl,⟨h.s,h.reqs,h.rets⟩,rfl,rfl,Nat.le_succ _,fun q hq=>.inl hq,hx⟩
theorem ApL{L:List Rq}{q:Nat}(h1:q+1<L.length){P:Rq->Prop}(h:∀y∈L,P y):∀y∈(L.set (q+1) (L[q]'(by omega))).set q (L[q+1]'h1),P y:=fun y hy=>by
 rcases List.mem_or_eq_of_mem_set hy with hy|rfl
 .rcases List.mem_or_eq_of_mem_set hy with hy|rfl
  .exact h y hy
  .exact h _ (List.getElem_mem _)
 .exact h _ (List.getElem_mem _)
theorem Ak7{Γ0 Γ:Gam}{w0 w:World}{L:List Ent}{R:List RowE}{g c n:Nat}{X:List Rq}(M:MM Γ0 w0 Γ w L (⟨.slice (some ⟨g,0,none⟩) n c,151,35,n,X.flatMap rqx⟩::R))(i:Nat)(hi:i<X.length):∀w',Cls w.heap.size w w'->CL w' g (i*35) (rqP X[i]) [1,32,1,1]:=fun w' h=>
 ⟨(M.below h.o).rowGet (f:=rqx) (fun x _=>AbC x) i hi,AaY _⟩
theorem AmK(Γ:Gam)(z:Zst)(x:Zls)(r:Rq)(hr0:0<=r.tries)(hr1:r.tries<=1000000)(hn1:z.s.now.n<=1000000)(hb1:z.s.c.bo.n<=1048576)(w:World)(ok:Ok Γ w)(h:ZsG Γ x z)(hb:z.rets.length<=30000) :
  Calls Tryz.prog 172 #[.agg (fl (zsP z x)).toArray,.agg (fl (rqP r)).toArray] w (LatP Γ w z r):=by
 have M:=bx (MM.start ok)
 have HG:=bx h
 have LN:=bx h.rets.n
 have hrn:x.rets.n<=30000:=by rw[h.rets.n];exact hb
 have ROW:Bx (∀{Γ':Gam} w',Ok Γ' w'->Le Γ Γ'->Row w' w'.heap.size 35 x.rets.A x.rets.n (z.rets.flatMap rqx)):=⟨fun w' o hle=>(h.rets.sl.mono hle).row (size:=35) (by rw[Aah z.rets (fun x _=>AbC x),h.rets.n]) o⟩
 have CAP:=bx h.rets.cap.nil
 have OneX:Bx (One (z.rets.flatMap rqx)):=⟨AbM fun x _=>AbF x⟩
 have OP:=bx (fun w' (o:Ok Γ w')=>Aby Γ z x r.block w' o h)
 clear ok h hb
 generalize hst:statR z.s.nodes r.block 0=st at *
 clear hst
 cases st with
 |false=>
  go_enter Tryz.func172,Tryz.ntmps172
  (go_wp2_with (first|((first|refine zBXo ?_|refine zALo (ztZs) ?_);clear M;intro w' g M)|refine zLAo ?_))
  refine zCA M (OP.o _ M.ok) ?_;clear M;intro w1 M
  (go_wp2_with (first|(refine zSSo M 0 (zsP z x) (zsP z x) (AaH _ _) (AaP _ _) ?_;clear M;intro w' M)|refine zLAo ?_))
  exact zR M.o.at0 (LatP.same (b:=z.over) HG.o M.o.ext)
 |true=>
  by_cases hfull:z.s.c.rl<=(x.rets.n:Int)
  .go_enter Tryz.func172,Tryz.ntmps172
   (go_wp2_with (first|((first|refine zBXo ?_|refine zALo (ztZs) ?_);clear M;intro w' g M)|refine zLAo ?_))
   refine zCA M (OP.o _ M.ok) ?_;clear M;intro w1 M
   (go_wp2_with (first|((first|refine zS1o M 2 (.bool true) (zsP {z with over:=true} x) ?_|refine zSSo M 0 (zsP {z with over:=true} x) (zsP {z with over:=true} x) (AaH _ _) (AaP _ _) ?_);clear M;intro w' M)|refine zLAo ?_))
   exact zR M.o.at0 (LatP.same (b:=true) HG.o M.o.ext)
  .go_enter Tryz.func172,Tryz.ntmps172
   go_upto_region 1 with(first|((refine zBYo (AaH _ _) ?_;clear M;intro w' g M);(obtain⟨g2,hg2⟩:∃y,y=g:=⟨_,rfl⟩);subst hg2)|((refine zBYo (AaY _) ?_;clear M;intro w' g M);(obtain⟨g3,hg3⟩:∃y,y=g:=⟨_,rfl⟩);subst hg3)|((refine zALo (ztZs) ?_;clear M;intro w' g M);(obtain⟨g4,hg4⟩:∃y,y=g:=⟨_,rfl⟩);subst hg4))
   (go_wp2_with (refine zLAo ?_))
   refine zCA M (OP.o _ M.ok) ?_;clear M;intro w1 M
   (go_wp2_with (first|(refine zS1o M 1 (.int .i64 (r.tries+1)) (rqP {r with tries:=r.tries+1}) ?_;clear M;intro w' M)|refine zLAo ?_))
   refine AaB [13] (.steps [(1,0),(1,1),(0,2),(1,3),(0,4),(1,5),(1,6),(1,7),(1,8),(0,9),(2,10),(1,11),(1,12),(3,13)] .leaf) (by kernel_rfl) (by kernel_rfl) ?_;(simp only[MixT6,MT.steps,stepAt,List.getD_cons_zero,List.getD_cons_succ]);replace M:=bx (M.o.drew)
   refine zNM ?_
   refine zMRo ?_
   refine zMC (Amq Γ (r.tries+1) z.s.c.bo _ M.ok (by omega)) Tryz.func199 ?_
   rintro e w3 ⟨d,rfl,hd,hx⟩
   refine⟨_,rfl,hx.bel,?_⟩
   replace M:=bx (M.o.call hx)
   clear hx
   refine zNM ?_
   have hd1:(d.n:Int)<=1048576:=by omega
   have hd0:(0:Int)<=(d.n:Int):=by omega
   have hnw:(z.s.now.n:Int)<=1000000:=by omega
   have hnw0:(0:Int)<=(z.s.now.n:Int):=by omega
   obtain⟨due,hdue⟩:∃due:U,(z.s.now.n:Int)+(d.n:Int)=(due.n:Int):=⟨⟨z.s.now.n+d.n,by omega⟩,by simp⟩
   have hwr:IntKind.u64.wrap ((z.s.now.n:Int)+(d.n:Int))=(due.n:Int):=by rw[<-hdue];simp[IntKind.wrap,IntKind.bits,IntKind.signed]<;>omega
   refine zMRo ?_
   obtain⟨rq,hrq⟩:∃rq:Rq,rq = {r with tries:=r.tries+1,due:=due}:=⟨_,rfl⟩
   refine Aa6 M.o 1 (.int .u64 (due.n:Int)) (rqP rq) rfl rfl rfl rfl Aqc rfl rfl rfl rfl (by rw[hrq];rfl) rfl ?_
   intro w5 M'
   simp only[List.set_cons_zero,List.set_cons_succ]at M'
   (replace M:=bx M';clear M')
   refine zNM ?_
   refine NoPanic.normal ?_
   have HTR:Bx (rq.tries=r.tries+1):=⟨by rw[hrq]⟩
   clear hrq hwr hdue hd hd0 hd1 hnw hnw0 OP
   (go_wp2_with (fail))
   refine AaB [5] (.steps [(1,0),(0,1),(0,3)] (.fork 2 (.steps [(2,4),(3,5),(1,6)] .leaf) 4 (.steps [(2,2),(3,5),(1,6)] .leaf))) (by kernel_rfl) (by kernel_rfl) ?_;(simp only[MixT6,MT.steps,stepAt,List.getD_cons_zero,List.getD_cons_succ]);replace M:=bx (M.o.drew)
   refine zNM ?_
   refine zMRo ?_
   refine⟨?_,?_⟩
   all_goals (first|((obtain⟨A1,c1,w1,hr,hM,hb⟩:=Aal elRq M.o 50 x.rets.A x.rets.n x.rets.c _ (ROW.o _ M.ok M.o.ext.le) CAP.o OneX.o (by unfold maxLen;omega) (by omega));refine AaA (AaE rfl rfl rfl hr) rfl ?_;refine⟨hb,?_⟩;clear M;have M:=bx hM;clear hM hr hb;refine zNM ?_;refine AaA (Aau elRq rfl rfl (v:=.agg (fl (rqP rq)).toArray) (cs:=fl (rqP rq)) rfl (AbC _)) rfl ?_;refine⟨ext_alloc _ _,?_⟩;replace M:=bx (M.o.alloc (P:=(rqP rq)) (AaY _) rfl 151);refine zNM ?_;(obtain⟨v5,w5,hr,hM⟩:=AaW elRq M.o 50 _ 1 1 _ (Aaf M.o.at0 (m:=1) rfl) (fun h=>by cases h) (AbF _) (by unfold maxLen;omega) (by omega));refine AaA (AaE rfl rfl rfl hr) rfl ?_;replace M:=bx (hM.tail);clear hr hM;refine zNM ?_;refine zMRo ?_;(obtain⟨A6,c6,e6⟩:=own_slice (M.o.rows _ (List.mem_cons_self ..));simp only at e6;subst e6);refine NoPanic.normal ?_)|(refine AaA (Aau elRq rfl rfl (v:=.agg (fl (rqP rq)).toArray) (cs:=fl (rqP rq)) rfl (AbC _)) rfl ?_;refine⟨ext_alloc _ _,?_⟩;replace M:=bx (M.o.alloc (P:=(rqP rq)) (AaY _) rfl 151);refine zNM ?_;(obtain⟨A1,c1,w1,hr,hM,hb⟩:=Aal elRq M.o 50 x.rets.A x.rets.n x.rets.c _ (ROW.o _ M.ok M.o.ext.le) CAP.o OneX.o (by unfold maxLen;omega) (by omega));refine AaA (AaE rfl rfl rfl hr) rfl ?_;refine⟨hb,?_⟩;clear M;have M:=bx hM;clear hM hr hb;refine zNM ?_;(obtain⟨v5,w5,hr,hM⟩:=AaW elRq M.o 50 _ 1 1 _ (Aaf M.o.at0 (m:=1) rfl) (fun h=>by cases h) (AbF _) (by unfold maxLen;omega) (by omega));refine AaA (AaE rfl rfl rfl hr) rfl ?_;replace M:=bx (hM.tail);clear hr hM;refine zNM ?_;refine zMRo ?_;(obtain⟨A6,c6,e6⟩:=own_slice (M.o.rows _ (List.mem_cons_self ..));simp only at e6;subst e6);refine NoPanic.normal ?_))
   all_goals
    have M0:=M.o
    rw[show z.rets.flatMap rqx++fl (rqP rq)=(z.rets ++ [rq]).flatMap rqx by rw[List.flatMap_append];simp[rqx]]at M0
    clear M ROW CAP OneX
    have M:=bx M0
    clear M0
    obtain⟨gr,rfl,hcr,_⟩:=M.o.rowHd (Nat.succ_pos _)
    have HL0:Bx ((z.rets ++ [rq]).length=x.rets.n+1/\∀q∈z.rets ++ [rq],q∈z.rets\/q.tries=r.tries+1):=⟨by rw[List.length_append,LN.o];rfl,fun q hq=>by
     rcases List.mem_append.1 hq with h|h
     .exact .inl h
     .have:q=rq:=by simpa using h
      rw[this];exact .inr HTR.o⟩
    generalize hLL:z.rets ++ [rq]=L0 at *
    clear hLL HTR
    (go_wp2_with (fail))
    go_loopw [6] (fun s6 wr=>∃(q:Nat) (L:List Rq),q<x.rets.n+1/\s6=.int .i64 (q:Int)/\L.length=x.rets.n+1/\(∀y∈L,y∈z.rets\/y.tries=r.tries+1)/\MM Γ w Γ wr [⟨g4,zsP zs0 zx0,zsL⟩,⟨g3,rqP rq,[1,32,1,1]⟩,⟨g2,zsP z x,zsL⟩] [⟨.slice (some ⟨gr,0,none⟩) (x.rets.n+1) c6,151,35,x.rets.n+1,L.flatMap rqx⟩]) (fun s6 _=>(intOf s6).toNat)
    case atStart=>exact⟨x.rets.n,L0,by omega,by go_num,HL0.o.1,HL0.o.2,M.o⟩
    case round=>
     obtain⟨q,L,hq,rfl,hL,hmem,hM⟩:=hrel
     clear M
     have M:=bx hM
     have HMEM:=bx hmem
     have HLN:=bx hL
     clear hM hmem hL
     rcases Nat.eq_zero_or_pos q with hq0|hq0
     .subst hq0
      (go_wp2_with (fail))
      (refine zQXo ?_;clear M;intro w4 M)
      (go_wp2_with (first|((first|refine zS1o M 2 (.slice (some ⟨gr,0,none⟩) (x.rets.n+1) c6) (zsP {z with rets:=L} {x with rets:=⟨some ⟨gr,0,none⟩,x.rets.n+1,c6⟩}) ?_|refine zSSo M 0 (zsP {z with rets:=L} {x with rets:=⟨some ⟨gr,0,none⟩,x.rets.n+1,c6⟩}) (zsP {z with rets:=L} {x with rets:=⟨some ⟨gr,0,none⟩,x.rets.n+1,c6⟩}) (AaH _ _) (AaP _ _) ?_);clear M;intro w' M)|refine zLAo ?_))
      obtain⟨Γ',h1,h2,h3,h4⟩:=M.o.frz
      exact zR h4.at0 ⟨{z with rets:=L},{x with rets:=⟨some ⟨gr,0,none⟩,x.rets.n+1,c6⟩},Γ',rfl,⟨HG.o.s.mono h3,HG.o.reqs.mono h3,⟨HLN.o.symm,h1,h2⟩⟩,rfl,rfl,by show L.length<=_;rw[HLN.o,LN.o];exact Nat.le_refl _,HMEM.o,h4.ext⟩
     .obtain⟨p,rfl⟩:∃p,q=p+1:=⟨q-1,by omega⟩
      have l1:p+1<L.length:=by rw[HLN.o];exact hq
      have l0:p<L.length:=by omega
      have R1:=bx (Ak7 M.o (p+1) l1)
      have R0:=bx (Ak7 M.o p l0)
      have MEM2:=bx (ApL l1 HMEM.o)
      have LA:=bx (show ∃h:p+1<L.length,L[p+1]=L[p+1]from⟨l1,rfl⟩)
      have hp0:(0:Int)<=(p:Int):=by omega
      have hp1:(0:Int)<(p:Int)+1:=by omega
      have hp2:(p:Int)<=30000:=by omega
      have ecast:((p+1:Nat):Int)=(p:Int)+1:=by omega
      rw[ecast]
      generalize ha:L[p+1]=a at *
      generalize hb:L[p]=b at *
      have HA:=bx ha
      have HB:=bx hb
      clear ha hb LA
      by_cases c1:a.due.n<b.due.n
      .have d1:decide ((a.due.n:Int)<(b.due.n:Int))=true:=decide_eq_true (by omega)
       (go_wp2_with (fail))
       refine zRG ?_;(repeat(first|go_big_quiet_skip|(go_big_quiet_want;first|((with_reducible refine AbY ?_);(refine zQR R1.o (AaY _) ?_;go_big_quiet_on;refine zNM ?_))|((with_reducible refine AbY ?_);(refine zQR R0.o (AaY _) ?_;go_big_quiet_on;refine zNM ?_))|(refine zQO ?_;go_big_quiet_on))));(refine zQN ?_;clear M;intro w4 M)
       clear R1 R0
       (go_wp2_with (fail))
       refine AaB [15,17] (.steps [(1,0),(1,1),(1,2),(1,3),(1,4),(1,5),(1,6),(1,7),(1,8),(0,9),(1,10),(1,11),(1,12),(0,13),(1,14),(3,15),(1,16),(3,17)] .leaf) (by kernel_rfl) (by kernel_rfl) ?_;(simp only[MixT6,MT.steps,stepAt,List.getD_cons_zero,List.getD_cons_succ]);replace M:=bx (M.o.drew);refine zNM ?_;have R1:=bx (Ak7 M.o (p+1) l1);have R0:=bx (Ak7 M.o p l0);rw[HA.o]at R1;rw[HB.o]at R0;(repeat(first|refine zM0 ?_|(go_big_quiet_want;first|((with_reducible refine AbY ?_);(refine zQR R1.o (AaY _) ?_;go_big_quiet_on;refine zNM ?_))|((with_reducible refine AbY ?_);(refine zQR R0.o (AaY _) ?_;go_big_quiet_on;refine zNM ?_))|(refine zQO ?_;go_big_quiet_on))));clear R1 R0;refine AhG (f:=rqx) (X:=L) M.o (fun x _=>AbC x) (p+1) l1 b (AbC b) (AbF b) rfl rfl rfl rtRq rfl ?_;intro w7 M';(replace M:=bx M';clear M');refine zNM ?_;refine zMRo ?_;refine AhG (f:=rqx) (X:=L.set (p+1) b) M.o (fun x _=>AbC x) p (by rw[List.length_set];exact l0) a (AbC a) (AbF a) rfl rfl rfl rtRq rfl ?_;intro w8 M';(replace M:=bx M';clear M');refine zNM ?_;refine NoPanic.normal ?_
       (go_wp2_with (fail))
       go_roundw
       case rel=>exact⟨p,_,by omega,by go_num,by rw[List.length_set,List.length_set];exact HLN.o,MEM2.o,M.o⟩
       case measure=>simp[intOf]
      .have d1:decide ((a.due.n:Int)<(b.due.n:Int))=false:=decide_eq_false (by omega)
       by_cases c2:a.due.n=b.due.n
       .have d2:((a.due.n:Int)==(b.due.n:Int))=true:=by rw[c2];exact beq_self_eq_true _
        by_cases c3:a.tag.n<b.tag.n
        .have d3:decide ((a.tag.n:Int)<(b.tag.n:Int))=true:=decide_eq_true (by omega)
         (go_wp2_with (fail))
         refine zRG ?_;(repeat((go_big_quiet_want;first|((with_reducible refine AbY ?_);(refine zQR R1.o (AaY _) ?_;go_big_quiet_on;refine zNM ?_))|((with_reducible refine AbY ?_);(refine zQR R0.o (AaY _) ?_;go_big_quiet_on;refine zNM ?_))|(refine zQO ?_;go_big_quiet_on))));(refine zQN ?_;clear M;intro w4 M)
         clear R1 R0
         (go_wp2_with (fail))
         refine AaB [15,17] (.steps [(1,0),(1,1),(1,2),(1,3),(1,4),(1,5),(1,6),(1,7),(1,8),(0,9),(1,10),(1,11),(1,12),(0,13),(1,14),(3,15),(1,16),(3,17)] .leaf) (by kernel_rfl) (by kernel_rfl) ?_;(simp only[MixT6,MT.steps,stepAt,List.getD_cons_zero,List.getD_cons_succ]);replace M:=bx (M.o.drew);refine zNM ?_;have R1:=bx (Ak7 M.o (p+1) l1);have R0:=bx (Ak7 M.o p l0);rw[HA.o]at R1;rw[HB.o]at R0;(repeat(first|refine zM0 ?_|(go_big_quiet_want;first|((with_reducible refine AbY ?_);(refine zQR R1.o (AaY _) ?_;go_big_quiet_on;refine zNM ?_))|((with_reducible refine AbY ?_);(refine zQR R0.o (AaY _) ?_;go_big_quiet_on;refine zNM ?_))|(refine zQO ?_;go_big_quiet_on))));clear R1 R0;refine AhG (f:=rqx) (X:=L) M.o (fun x _=>AbC x) (p+1) l1 b (AbC b) (AbF b) rfl rfl rfl rtRq rfl ?_;intro w7 M';(replace M:=bx M';clear M');refine zNM ?_;refine zMRo ?_;refine AhG (f:=rqx) (X:=L.set (p+1) b) M.o (fun x _=>AbC x) p (by rw[List.length_set];exact l0) a (AbC a) (AbF a) rfl rfl rfl rtRq rfl ?_;intro w8 M';(replace M:=bx M';clear M');refine zNM ?_;refine NoPanic.normal ?_
         (go_wp2_with (fail))
         go_roundw
         case rel=>exact⟨p,_,by omega,by go_num,by rw[List.length_set,List.length_set];exact HLN.o,MEM2.o,M.o⟩
         case measure=>simp[intOf]
        .have d3:decide ((a.tag.n:Int)<(b.tag.n:Int))=false:=decide_eq_false (by omega)
         (go_wp2_with (fail))
         refine zRG ?_;(repeat((go_big_quiet_want;first|((with_reducible refine AbY ?_);(refine zQR R1.o (AaY _) ?_;go_big_quiet_on;refine zNM ?_))|((with_reducible refine AbY ?_);(refine zQR R0.o (AaY _) ?_;go_big_quiet_on;refine zNM ?_))|(refine zQO ?_;go_big_quiet_on))));(refine zQN ?_;clear M;intro w4 M)
         clear R1 R0
         (go_wp2_with (first|((first|refine zS1o M 2 (.slice (some ⟨gr,0,none⟩) (x.rets.n+1) c6) (zsP {z with rets:=L} {x with rets:=⟨some ⟨gr,0,none⟩,x.rets.n+1,c6⟩}) ?_|refine zSSo M 0 (zsP {z with rets:=L} {x with rets:=⟨some ⟨gr,0,none⟩,x.rets.n+1,c6⟩}) (zsP {z with rets:=L} {x with rets:=⟨some ⟨gr,0,none⟩,x.rets.n+1,c6⟩}) (AaH _ _) (AaP _ _) ?_);clear M;intro w' M)|refine zLAo ?_))
         obtain⟨Γ',h1,h2,h3,h4⟩:=M.o.frz
         exact zR h4.at0 ⟨{z with rets:=L},{x with rets:=⟨some ⟨gr,0,none⟩,x.rets.n+1,c6⟩},Γ',rfl,⟨HG.o.s.mono h3,HG.o.reqs.mono h3,⟨HLN.o.symm,h1,h2⟩⟩,rfl,rfl,by show L.length<=_;rw[HLN.o,LN.o];exact Nat.le_refl _,HMEM.o,h4.ext⟩
       .have d2:((a.due.n:Int)==(b.due.n:Int))=false:=by rw[beq_eq_false_iff_ne];omega
        (go_wp2_with (fail))
        refine zRG ?_;(repeat(first|go_big_quiet_skip|(go_big_quiet_want;first|((with_reducible refine AbY ?_);(refine zQR R1.o (AaY _) ?_;go_big_quiet_on;refine zNM ?_))|((with_reducible refine AbY ?_);(refine zQR R0.o (AaY _) ?_;go_big_quiet_on;refine zNM ?_))|(refine zQO ?_;go_big_quiet_on))));(refine zQN ?_;clear M;intro w4 M)
        clear R1 R0
        (go_wp2_with (first|((first|refine zS1o M 2 (.slice (some ⟨gr,0,none⟩) (x.rets.n+1) c6) (zsP {z with rets:=L} {x with rets:=⟨some ⟨gr,0,none⟩,x.rets.n+1,c6⟩}) ?_|refine zSSo M 0 (zsP {z with rets:=L} {x with rets:=⟨some ⟨gr,0,none⟩,x.rets.n+1,c6⟩}) (zsP {z with rets:=L} {x with rets:=⟨some ⟨gr,0,none⟩,x.rets.n+1,c6⟩}) (AaH _ _) (AaP _ _) ?_);clear M;intro w' M)|refine zLAo ?_))
        obtain⟨Γ',h1,h2,h3,h4⟩:=M.o.frz
        exact zR h4.at0 ⟨{z with rets:=L},{x with rets:=⟨some ⟨gr,0,none⟩,x.rets.n+1,c6⟩},Γ',rfl,⟨HG.o.s.mono h3,HG.o.reqs.mono h3,⟨HLN.o.symm,h1,h2⟩⟩,rfl,rfl,by show L.length<=_;rw[HLN.o,LN.o];exact Nat.le_refl _,HMEM.o,h4.ext⟩
end Go.Proofs.YtpaihpeoiliioaaGreat
