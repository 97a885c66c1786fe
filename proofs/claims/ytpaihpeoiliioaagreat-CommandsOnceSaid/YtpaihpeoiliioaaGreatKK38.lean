/- Texts joined: what the walks of this claim stand on (part 38). -/
import Derived.Test.YtpaihpeoiliioaaGreatKK15
import Derived.Test.YtpaihpeoiliioaaGreatKK17
set_option linter.all false
set_option maxRecDepth 20000
set_option maxHeartbeats 40000000
namespace Go.Proofs.YtpaihpeoiliioaaGreat
open Go.RowKit Old
theorem Acn(n lo hi:Int)(h1:lo<=n)(h2:n<=hi)(w:World) :
  Calls Tryz.prog 63 #[.int .i64 n,.int .i64 lo,.int .i64 hi] w fun e w'=>e=.returned (.bool true)/\Below w.heap.size w w':=by
 have M:=bx (MM.start (AiD w))
 have d1:decide (lo<=n)=true:=decide_eq_true h1
 have d2:decide (n<=hi)=true:=decide_eq_true h2
 go_enter Tryz.func63,Tryz.ntmps63
 go_wp2_with go_skip
 go_ret
 exact⟨by rfl,Below.refl _ _⟩
def genB(c:Cf):Blk:={b0 with root:=c.gen,just:=⟨u0,c.gen⟩,fin:=⟨u0,c.gen⟩,pj:=⟨u0,c.gen⟩,pf:=⟨u0,c.gen⟩}
def newS(c:Cf)(bal:List U):Sto:={st0 with c:=c,bal:=bal,lat:=List.replicate bal.length vo0,just:=⟨u0,c.gen⟩,fin:=⟨u0,c.gen⟩,nodes:=[⟨genB c,-1,1⟩],tabs:=[⟨⟨u0,c.gen⟩,bal⟩]}
theorem AqT:StrT Tryz.prog 76 [(0,33),(33,33)] [[.int .u64 0],rc r0,[.int .u64 0],rc r0] [1,32,1,32]:=Aa9 Tryz.underlying76 (by kernel_rfl) (by kernel_rfl) (by simp[Aav])
theorem stFi:StrT Tryz.prog 39 [(0,33),(33,33)] [[.int .u64 0],rc r0,[.int .u64 0],rc r0] [1,32,1,32]:=Aa9 Tryz.underlying39 (by kernel_rfl) (by kernel_rfl) (by simp[Aav])
theorem stCp:StrT Tryz.prog 37 [(0,1),(1,32)] (cpP cp0) [1,32]:=Aa9 Tryz.underlying37 (by kernel_rfl) (by kernel_rfl) (AaC _)
theorem stTb:StrT Tryz.prog 119 [(0,33),(33,1)] (tbP cp0 (.slice none 0 0)) [1,32,1]:=Aa9 Tryz.underlying119 (by kernel_rfl) (by kernel_rfl) (AaS _ _)
theorem stBl:StrT Tryz.prog 78 [(0,66),(66,1),(67,32),(99,32),(131,32),(163,4),(167,4),(171,33),(204,33),(237,1)] (blP b0) blL:=Aa9 Tryz.underlying78 (by kernel_rfl) (by kernel_rfl) (AaZ _)
theorem stSt:StrT Tryz.prog 49 [(0,45),(45,2),(47,66),(113,2),(115,1),(116,1),(117,32),(149,1)] (stP st0 x0) stL:=Aa9 Tryz.underlying49 (by kernel_rfl) (by kernel_rfl) (AaD _ _)
theorem ApC:ZeroT Tryz.prog 119 (tbP cp0 (.slice none 0 0)) [1,32,1]:=⟨fun w=>by kernel_rfl,AaS _ _⟩
theorem AnI(r:Rt):Tryz.prog.built 37 [(1,.agg (rc r).toArray)]=some (fl (cpP ⟨u0,r⟩)).toArray:=by
 rw[stCp.eq]
 refine AaG (Q:=[rc r]) stCp.len rfl rfl rfl (lenR r) rfl fun hl=>?_
 rfl
theorem AoZ(c:Cp)(A:Option Addr)(n k:Nat):Tryz.prog.built 119 [(0,.agg (fl (cpP c)).toArray),(1,.slice A n k)]=some (fl (tbP c (.slice A n k))).toArray:=by
 rw[stTb.eq]
 refine AaG (Q:=cpP c) stTb.len rfl rfl rfl (AaC c) rfl fun hl=>?_
 refine AaG (Q:=[[.slice A n k]]) hl rfl rfl rfl rfl rfl fun hl=>?_
 rfl
theorem Aoc(a b:Cp):Tryz.prog.built 76 [(0,.agg (fl (cpP a)).toArray),(1,.agg (fl (cpP b)).toArray)]=some (fl (cpP a++cpP b)).toArray:=by
 rw[AqT.eq]
 refine AaG (Q:=cpP a) AqT.len rfl rfl rfl (AaC a) rfl fun hl=>?_
 refine AaG (Q:=cpP b) hl rfl rfl rfl (AaC b) rfl fun hl=>?_
 rfl
theorem Aoe(a b:Cp):Tryz.prog.built 39 [(0,.agg (fl (cpP a)).toArray),(1,.agg (fl (cpP b)).toArray)]=some (fl (cpP a++cpP b)).toArray:=by
 rw[stFi.eq]
 refine AaG (Q:=cpP a) stFi.len rfl rfl rfl (AaC a) rfl fun hl=>?_
 refine AaG (Q:=cpP b) hl rfl rfl rfl (AaC b) rfl fun hl=>?_
 rfl
theorem AnG(r:Rt)(p:Cp):Tryz.prog.built 78 [(2,.agg (rc r).toArray),(7,.agg (fl (cpP p)).toArray),(8,.agg (fl (cpP p)).toArray),(0,.agg (fl (cpP p++cpP p)).toArray)]=some (fl (blP {b0 with root:=r,just:=p,fin:=p,pj:=p,pf:=p})).toArray:=by
 rw[stBl.eq]
 refine AaG (Q:=[rc r]) stBl.len rfl rfl rfl (lenR r) rfl fun hl=>?_
 refine AaG (Q:=cpP p) hl rfl rfl rfl (AaC p) rfl fun hl=>?_
 refine AaG (Q:=cpP p) hl rfl rfl rfl (AaC p) rfl fun hl=>?_
 refine AaG (Q:=cpP p++cpP p) hl rfl rfl rfl (by simp[cpP,Aav]) rfl fun hl=>?_
 rfl
theorem Aoa(c:Cf)(sb:Sl)(p:Cp)(xn xt:Sl):Tryz.prog.built 49 [(0,.agg (fl (cfP c sb)).toArray),(2,.agg (fl (cpP p++cpP p)).toArray),(4,.agg #[xn.v]),(7,xt.v)]=some (fl (stP {st0 with c:=c,just:=p,fin:=p} {x0 with bal:=sb,nodes:=xn,tabs:=xt})).toArray:=by
 rw[stSt.eq]
 refine AaG (Q:=cfP c sb) stSt.len rfl rfl rfl (AbA c sb) rfl fun hl=>?_
 refine AaG (Q:=cpP p++cpP p) hl rfl rfl rfl (by simp[cpP,Aav]) rfl fun hl=>?_
 refine AaG (Q:=[[xn.v]]) hl rfl rfl rfl rfl rfl fun hl=>?_
 refine AaG (Q:=[[xt.v]]) hl rfl rfl rfl rfl rfl fun hl=>?_
 rfl
theorem mkVo:MkT Tryz.prog 33 172 34 48 (vox vo0):=Al9 Tryz.underlying33 (by kernel_rfl) (AcX _) (by decide)
theorem Ag2{Γ:Gam}{c:Cf}{bal:List U}{x:Sls}{p:Cp}{gb:Blk}(hp:p=⟨u0,c.gen⟩)(hg:gb=genB c)(h1:SlR Γ x.bal bal.length (us bal))(h2:SlR Γ x.lat bal.length ((List.replicate bal.length vo0).flatMap vox))(h3:NG Γ x.nodes [⟨gb,-1,1⟩])(h4:TabsG Γ x.tabs [⟨p,bal⟩])
  (e1:x.eqv=sl0) (e2:x.early=sl0) (e3:x.orph=sl0):StG Γ x (newS c bal):=by
 subst hp hg
 have h0:=stG0 Γ
 refine⟨h1,?_,?_,?_,?_,h3,h4⟩
 .rw[show(newS c bal).lat=List.replicate bal.length vo0 from rfl,List.length_replicate];exact h2
 .rw[e1];exact h0.eqv
 .rw[e2];exact h0.early
 .rw[e3];exact h0.orph
theorem AeM{C:World->Prop}{K:Act->Prop}{o:Oper}{a:Act}{c:Cf}{sb:Sl}{p:Cp}{xn:Sl}{g:Nat}{parts:Array (Nat × Operand)}(ho:o.op=.build 49 parts)
  (hps:parts.toList.map (fun x=>(x.1,a.eval x.2)) = [(0,.agg (fl (cfP c sb)).toArray),(2,.agg (fl (cpP p++cpP p)).toArray),(4,.agg #[xn.v]),(7,.slice (some ⟨g,0,none⟩) 1 1)])
  (h:K (a.put o.dst (.agg (fl (stP {st0 with c:=c,just:=p,fin:=p} {x0 with bal:=sb,nodes:=xn,tabs:=⟨some ⟨g,0,none⟩,1,1⟩})).toArray))):o.quiet Tryz.prog a C K:=
 AaT 49 parts ho _ _ hps (Aoa c sb p xn ⟨some ⟨g,0,none⟩,1,1⟩) h
theorem AgN{Γ0 Γ:Gam}{w0 w:World}{g:Nat}{P:List (List Value)}{ls:List Nat}{L:List Ent}{R:List RowE}(_:MM Γ0 w0 Γ w (⟨g,P,ls⟩::L) R):∃y,y=g:=⟨g,rfl⟩
theorem Ae3{Γ Γ':Gam}{p:Cp}{bal:List U}{A:Option Addr}{k g:Nat}(hc:CapOk A bal.length k)(hs:SlG Γ A bal.length (us bal))(h1:Γ' g=some (fl (tbP p (.slice A bal.length k))))(hl:Le Γ Γ'):TabsG Γ' ⟨some ⟨g,0,none⟩,1,1⟩ [⟨p,bal⟩]:=
 ⟨⟨Nat.le_refl _,by show 1<=maxLen;unfold maxLen;omega,fun h=>by cases h⟩,rfl,[(p,.slice A bal.length k)],All2.one ⟨rfl,A,k,rfl,hc,hs.mono hl⟩,fun _=>⟨g,[],rfl,by rw[h1];simp⟩⟩
theorem new_any(Γ:Gam)(c:Cf)(sb:Sl)(bal:List U)(hc:CfOk c bal)(w:World)(ok:Ok Γ w)(h:SlR Γ sb bal.length (us bal)) :
  Calls Tryz.prog 30 #[.agg (fl (cfP c sb)).toArray] w (StE Γ w 0 (newS c bal)):=by
 have M:=bx (MM.start ok)
 have HG:=bx h
 have LB:=bx h.n
 obtain⟨⟨s1,s2⟩,p1,n1,⟨l1,l2⟩,⟨l3,l4⟩,⟨l5,l6⟩,⟨l7,l8⟩,⟨l9,l10⟩,⟨l11,l12⟩,hg,hsum⟩:=hc
 have W1:=bx (fun w=>Acn c.nl 1 4096 l1 l2 w)
 have W2:=bx (fun w=>Acn c.ol 0 64 l3 l4 w)
 have W3:=bx (fun w=>Acn c.el 0 256 l5 l6 w)
 have W4:=bx (fun w=>Acn c.tl 1 64 l7 l8 w)
 have W5:=bx (fun w=>Acn c.rl 0 256 l9 l10 w)
 have a1:decide ((c.spe.n:Int)<1)=false:=decide_eq_false (by omega)
 have a2:decide ((64:Int)<(c.spe.n:Int))=false:=decide_eq_false (by omega)
 have a3:decide ((100:Int)<(c.bp.n:Int))=false:=decide_eq_false (by omega)
 have a4:decide ((1024:Int)<(bal.length:Int))=false:=decide_eq_false (by omega)
 have a5:decide ((c.bo.n:Int)<1)=false:=decide_eq_false (by omega)
 have a6:decide ((1048576:Int)<(c.bo.n:Int))=false:=decide_eq_false (by omega)
 have e1:¬(c.spe.n:Int)<1:=by omega
 have e2:¬(64:Int)<(c.spe.n:Int):=by omega
 have e3:¬(100:Int)<(c.bp.n:Int):=by omega
 have e4:¬(1024:Int)<(bal.length:Int):=by omega
 have e5:¬(c.bo.n:Int)<1:=by omega
 have e6:¬(1048576:Int)<(c.bo.n:Int):=by omega
 have HV:Bx (sb.v=.slice sb.A bal.length sb.c):=⟨by rw[<-h.n]⟩
 have hsl:SlG Γ sb.A bal.length (us bal):=by have:=h.sl;rwa [h.n]at this
 obtain⟨p,hp⟩:∃p:Cp,p=⟨u0,c.gen⟩:=⟨_,rfl⟩
 obtain⟨gb,hgb⟩:∃b:Blk,b=genB c:=⟨_,rfl⟩
 have VT:Bx (∀w,Ok Γ w->Calls Tryz.prog 64 #[.agg (fl (tbP p (.slice sb.A bal.length sb.c))).toArray,.int .i64 (bal.length:Int)] w fun e w'=>e=.returned (.int .i64 0)/\Below w.heap.size w w'):=⟨fun w ok=>by
  have:=AdZ p bal (by omega) sb.A sb.c (bal.length:Int) w (hsl.row (size:=1) (by rw[AcY,Nat.mul_one]) ok)
  rwa [hsum]at this⟩
 have BC:Bx (Tryz.prog.built 37 [(1,.agg (rc c.gen).toArray)]=some (fl (cpP p)).toArray):=⟨by rw[hp];exact AnI _⟩
 have BT:=bx (fun A n k=>AoZ p A n k)
 have BP:=bx (Aoc p p)
 have BF:=bx (Aoe p p)
 have BG:Bx (Tryz.prog.built 78 [(2,.agg (rc c.gen).toArray),(7,.agg (fl (cpP p)).toArray),(8,.agg (fl (cpP p)).toArray),(0,.agg (fl (cpP p++cpP p)).toArray)]=some (fl (blP gb)).toArray):=⟨by rw[AnG,hgb,hp];rfl⟩
 have HPG:=bx (And.intro hp hgb)
 clear hp hgb
 have ROW:=bx (fun w (ok:Ok Γ w)=>hsl.row (size:=1) (by rw[AcY,Nat.mul_one]) ok)
 have ROW2:Bx (∀{Γ':Gam},Le Γ Γ'->∀w,Ok Γ' w->Row w w.heap.size 1 sb.A bal.length (us bal)):=⟨fun hl w ok=>(hsl.mono hl).row (size:=1) (by rw[AcY,Nat.mul_one]) ok⟩
 have CAP:Bx (sb.A=none->sb.c=0):=⟨h.cap.nil⟩
 have ONE:Bx (One (us bal)):=⟨by rw[AdV];exact One.ints _ _⟩
 have hbl:bal.length<=1024:=n1
 have hq:=Aa5 c.gen r0
 rw[decide_eq_false hg]at hq
 clear ok h hsl s1 s2 p1 n1 l1 l2 l3 l4 l5 l6 l7 l8 l9 l10 l11 l12 hg
 go_enter Tryz.func30,Tryz.ntmps30
 go_upto_region 1 with(first|((first|refine zBXd ?_|refine zALd (ztSt) ?_);clear M;intro w' g M))
 simp only[List.append_eq,List.cons_append,List.nil_append]
 (go_wp2_with (first|refine zLHd HV ?_|refine zLAd ?_))
 refine zCB M (W1.o _) ?_;clear M;intro w1 M
 (go_wp2_with (refine zLAd ?_))
 refine zCB M (W2.o _) ?_;clear M;intro w1 M
 (go_wp2_with (refine zLAd ?_))
 refine zCB M (W3.o _) ?_;clear M;intro w1 M
 (go_wp2_with (refine zLAd ?_))
 refine zCB M (W4.o _) ?_;clear M;intro w1 M
 (go_wp2_with (refine zLAd ?_))
 refine zCB M (W5.o _) ?_;clear M;intro w1 M
 go_upto_region 3 with(refine zLAd ?_)
 clear W1 W2 W3 W4 W5 a1 a2 a3 a4 a5 a6 e1 e2 e3 e4 e5 e6
 go_upto_region 5 with(first|refine zBDd 29 [] (rc r0) (by kernel_rfl) ?_|refine zLAd ?_)
 clear hq
 go_upto_region 6 with(first|(refine zALd (Agw) ?_;clear M;intro w' g M)|refine zBDd 37 [(1,.agg (rc c.gen).toArray)] (fl (cpP p)) BC.o ?_|(refine zSSd M 0 (cpP p) (cpP p) (AaC _) (AaO _) ?_;clear M;intro w' M)|refine zLAd ?_)
 go_upto_region 7 with(first|refine zLHd HV ?_|(refine zALd (ApC) ?_;clear M;intro w' g M)|refine zBDd 119 [(0,.agg (fl (cpP p)).toArray),(1,.slice sb.A bal.length sb.c)] (fl (tbP p (.slice sb.A bal.length sb.c))) (BT.o _ _ _) ?_|(refine zSSd M 0 (tbP p (.slice sb.A bal.length sb.c)) (tbP p (.slice sb.A bal.length sb.c)) (AaS _ _) (Aeo _ _ _ _) ?_;clear M;intro w' M)|refine zLAd ?_)
 (go_wp2_with (first|refine zLHd HV ?_|refine zLAd ?_))
 refine zCB M (VT.o _ M.ok) ?_;clear M;intro w1 M
 clear VT
 go_upto_region 10 with(fail)
 go_upto_region 11 with(first|refine zLHd HV ?_|(at_builtin;(with_reducible apply Aae (M.o.row0 23 1) Aia (ROW.o _ M.ok) CAP.o);exact ONE.o;(unfold maxLen;omega);omega;rfl;rfl;rfl;rfl;intro A' c' w' M';(simp only[Nat.zero_add,List.nil_append]at M');(replace M:=bx M';clear M'))|(refine zS1d M 3 (.slice A' bal.length c') (cfP c ⟨A',bal.length,c'⟩) ?_;clear M;intro w' M))
 obtain⟨Γ1,f1,f2,f3,f4⟩:=M.o.frz
 clear M
 have M:=bx f4
 have HB1:=bx (show SlR Γ1 ⟨A',bal.length,c'⟩ bal.length (us bal)from⟨rfl,f1,f2⟩)
 have L1:=bx f3
 clear f1 f2 f3 f4 HV LB ROW BC
 go_upto_region 12 with(first|(refine zALd (ztBl) ?_;clear M;intro w' g M)|refine zBDd 76 [(0,.agg (fl (cpP p)).toArray),(1,.agg (fl (cpP p)).toArray)] (fl (cpP p++cpP p)) BP.o ?_|refine zBDd 78 [(2,.agg (rc c.gen).toArray),(7,.agg (fl (cpP p)).toArray),(8,.agg (fl (cpP p)).toArray),(0,.agg (fl (cpP p++cpP p)).toArray)] (fl (blP gb)) BG.o ?_|(refine zSSd M 0 (blP gb) (blP gb) (AaZ _) (Acf _) ?_;clear M;intro w' M)|refine zLAd ?_)
 clear BP BG BT
 refine AaB [11] (.steps [(0,0),(0,1),(0,2),(1,3),(0,4),(0,6)] (.fork 5 (.fork 7 (.fork 8 (.steps [(1,9),(2,10),(3,11)] .leaf) 10 (.steps [(2,8),(1,9),(3,11)] .leaf)) 10 (.steps [(2,7),(2,8),(1,9),(3,11)] .leaf)) 10 (.steps [(2,5),(2,7),(2,8),(1,9),(3,11)] .leaf))) (by kernel_rfl) (by kernel_rfl) ?_;(simp only[MixT6,MT.steps,stepAt,List.getD_cons_zero,List.getD_cons_succ]);replace M:=bx (M.o.drew)
 refine zNM ?_
 (repeat(first|refine zM0 ?_|(go_big_quiet_want;first|((first|((with_reducible refine AaT 39 _ rfl [(0,.agg (fl (cpP p)).toArray),(1,.agg (fl (cpP p)).toArray)] (fl (cpP p++cpP p)) ?_ BF.o ?_);rfl)|refine zQAd ?_);go_big_quiet_on;refine zNM ?_))))
 refine⟨?_,?_⟩
 ·(refine zMC (AkC _ gb 1 _ M.ok) Tryz.func65 ?_;rintro e1 w1 ⟨xn,Γn,rfl,hN,hx⟩;refine⟨_,rfl,hx.bel,?_⟩;replace M:=bx (M.o.call hx);have HN:=bx hN;have LX:=bx hx.le;clear hx hN;refine zNM ?_;(repeat(fail)))
  refine⟨?_,?_⟩
  ·(refine zMC (AcN _ p bal (by omega) sb.A sb.c _ M.ok (ROW2.o M.o.ext.le _ M.ok) CAP.o) Tryz.func66 ?_;rintro e1 w1 ⟨sv,Γt,rfl,hT,hx⟩;refine⟨_,rfl,hx.bel,?_⟩;replace M:=bx (M.o.call hx);have HT:=bx hT;have LT:=bx hx.le;clear hx hT;refine zNM ?_;(repeat(fail)))
   refine⟨?_,?_⟩
   focus
    (obtain⟨TA,TK,tE,tC,tS⟩:=HT.o.s;simp only at tE;subst tE;refine AaA (Aau elTb rfl rfl (v:=.agg (fl (tbP p (.slice TA bal.length TK))).toArray) (cs:=fl (tbP p (.slice TA bal.length TK))) rfl (Ad0 _ _)) rfl ?_;refine⟨ext_alloc _ _,?_⟩;replace M:=bx (M.o.alloc (P:=tbP p (.slice TA bal.length TK)) (AaS _ _) rfl 119);refine zNM ?_;(repeat(first|refine zM0 ?_|(go_big_quiet_want;((with_reducible apply AeM (c:=c) (sb:=⟨A',bal.length,c'⟩) (p:=p) (xn:=xn));rfl;rfl;go_big_quiet_on;refine zNM ?_)))))
    (refine AaA (AaR rfl ztSt) rfl ?_;refine⟨ext_alloc _ _,?_⟩;replace M:=bx (M.o.alloc (P:=stP st0 x0) (ls:=stL) (AaD _ _) rfl 49);refine zNM ?_;(repeat(fail)))
   rotate_left
   focus
    (refine AaA (AaR rfl ztSt) rfl ?_;refine⟨ext_alloc _ _,?_⟩;replace M:=bx (M.o.alloc (P:=stP st0 x0) (ls:=stL) (AaD _ _) rfl 49);refine zNM ?_;(repeat(fail)))
    (obtain⟨TA,TK,tE,tC,tS⟩:=HT.o.s;simp only at tE;subst tE;refine AaA (Aau elTb rfl rfl (v:=.agg (fl (tbP p (.slice TA bal.length TK))).toArray) (cs:=fl (tbP p (.slice TA bal.length TK))) rfl (Ad0 _ _)) rfl ?_;refine⟨ext_alloc _ _,?_⟩;replace M:=bx (M.o.alloc (P:=tbP p (.slice TA bal.length TK)) (AaS _ _) rfl 119);refine zNM ?_;(repeat(first|refine zM0 ?_|(go_big_quiet_want;((with_reducible apply AeM (c:=c) (sb:=⟨A',bal.length,c'⟩) (p:=p) (xn:=xn));rfl;rfl;go_big_quiet_on;refine zNM ?_)))))
    replace M:=bx (M.o.swap)
   all_goals
    refine Aam M.o 0 (stP {st0 with c:=c,just:=p,fin:=p} {x0 with bal:=⟨A',bal.length,c'⟩,nodes:=xn,tabs:=⟨some ⟨_,0,none⟩,1,1⟩}) (stP {st0 with c:=c,just:=p,fin:=p} {x0 with bal:=⟨A',bal.length,c'⟩,nodes:=xn,tabs:=⟨some ⟨_,0,none⟩,1,1⟩}) rfl rfl rfl rfl rtSt rfl (AaD _ _) (Aaa _ _) rfl rfl ?_;intro w7 M';(simp only[List.set_cons_zero,List.set_cons_succ]at M');(replace M:=bx M';clear M');refine zNM ?_;refine NoPanic.normal ?_
    (obtain⟨g8,hg8⟩:=AgN M.o);rw[<-hg8]at M |-;clear hg8;replace M:=bx (M.o.swap);(obtain⟨gt,hgt⟩:=AgN M.o);rw[<-hgt]at M |-;clear hgt;(obtain⟨Γz,f1,f2,f3⟩:=M.o.frzL);clear M;have M:=bx f3;(have HTB:Bx (TabsG Γz ⟨some ⟨gt,0,none⟩,1,1⟩ [⟨p,bal⟩]):=⟨Ae3 tC tS f1 f2⟩);have LZ:=bx f2;clear f1 f2 f3 tC tS HT;(go_wp2_with (first|((with_reducible apply AdU M.o mkVo bal.length (by omega) (by omega));rfl;rfl;rfl;rfl;intro w' g M' hb';(replace M:=bx M';clear M');clear hb')|((first|refine zS1d M 1 (.slice (some ⟨g,0,none⟩) bal.length bal.length) (stP {st0 with c:=c,just:=p,fin:=p} {x0 with bal:=⟨A',bal.length,c'⟩,nodes:=xn,tabs:=⟨some ⟨gt,0,none⟩,1,1⟩,lat:=⟨some ⟨g,0,none⟩,bal.length,bal.length⟩}) ?_|refine zSSd M 5 (stP {st0 with c:=c,just:=p,fin:=p} {x0 with bal:=⟨A',bal.length,c'⟩,nodes:=xn,tabs:=⟨some ⟨gt,0,none⟩,1,1⟩,lat:=⟨some ⟨g,0,none⟩,bal.length,bal.length⟩}) (stP {st0 with c:=c,just:=p,fin:=p} {x0 with bal:=⟨A',bal.length,c'⟩,nodes:=xn,tabs:=⟨some ⟨gt,0,none⟩,1,1⟩,lat:=⟨some ⟨g,0,none⟩,bal.length,bal.length⟩}) (AaD _ _) (Aaa _ _) ?_);clear M;intro w' M)|refine zLAd ?_));(obtain⟨Γw,f1,f2,f3⟩:=M.o.frzS bal.length);(refine zRt f3.at4 ?_);(obtain⟨hp9,hg9⟩:=HPG.o);subst hp9 hg9;exact StE.mk {x0 with bal:=⟨A',bal.length,c'⟩,nodes:=xn,tabs:=⟨some ⟨gt,0,none⟩,1,1⟩,lat:=⟨some ⟨g,0,none⟩,bal.length,bal.length⟩} (Ag2 rfl rfl (HB1.o.mono (((LX.o.trans LT.o).trans LZ.o).trans f2)) ⟨rfl,⟨Nat.le_refl _,(show bal.length<=maxLen from by unfold maxLen;omega),fun h=>(by cases h)⟩,(AeJ vox vo0 bal.length)▸f1⟩ (HN.o.mono ((LT.o.trans LZ.o).trans f2)) (HTB.o.mono f2) rfl rfl rfl) f3.ext
  ·(refine AaA (AaR rfl ztSt) rfl ?_;refine⟨ext_alloc _ _,?_⟩;replace M:=bx (M.o.alloc (P:=stP st0 x0) (ls:=stL) (AaD _ _) rfl 49);refine zNM ?_;(repeat(fail)))
   (refine zMC (AcN _ p bal (by omega) sb.A sb.c _ M.ok (ROW2.o M.o.ext.le _ M.ok) CAP.o) Tryz.func66 ?_;rintro e1 w1 ⟨sv,Γt,rfl,hT,hx⟩;refine⟨_,rfl,hx.bel,?_⟩;replace M:=bx (M.o.call hx);have HT:=bx hT;have LT:=bx hx.le;clear hx hT;refine zNM ?_;(repeat(fail)))
   (obtain⟨TA,TK,tE,tC,tS⟩:=HT.o.s;simp only at tE;subst tE;refine AaA (Aau elTb rfl rfl (v:=.agg (fl (tbP p (.slice TA bal.length TK))).toArray) (cs:=fl (tbP p (.slice TA bal.length TK))) rfl (Ad0 _ _)) rfl ?_;refine⟨ext_alloc _ _,?_⟩;replace M:=bx (M.o.alloc (P:=tbP p (.slice TA bal.length TK)) (AaS _ _) rfl 119);refine zNM ?_;(repeat(first|refine zM0 ?_|(go_big_quiet_want;((with_reducible apply AeM (c:=c) (sb:=⟨A',bal.length,c'⟩) (p:=p) (xn:=xn));rfl;rfl;go_big_quiet_on;refine zNM ?_)))))
   replace M:=bx (M.o.swap)
   refine Aam M.o 0 (stP {st0 with c:=c,just:=p,fin:=p} {x0 with bal:=⟨A',bal.length,c'⟩,nodes:=xn,tabs:=⟨some ⟨_,0,none⟩,1,1⟩}) (stP {st0 with c:=c,just:=p,fin:=p} {x0 with bal:=⟨A',bal.length,c'⟩,nodes:=xn,tabs:=⟨some ⟨_,0,none⟩,1,1⟩}) rfl rfl rfl rfl rtSt rfl (AaD _ _) (Aaa _ _) rfl rfl ?_;intro w7 M';(simp only[List.set_cons_zero,List.set_cons_succ]at M');(replace M:=bx M';clear M');refine zNM ?_;refine NoPanic.normal ?_
   (obtain⟨g8,hg8⟩:=AgN M.o);rw[<-hg8]at M |-;clear hg8;replace M:=bx (M.o.swap);(obtain⟨gt,hgt⟩:=AgN M.o);rw[<-hgt]at M |-;clear hgt;(obtain⟨Γz,f1,f2,f3⟩:=M.o.frzL);clear M;have M:=bx f3;(have HTB:Bx (TabsG Γz ⟨some ⟨gt,0,none⟩,1,1⟩ [⟨p,bal⟩]):=⟨Ae3 tC tS f1 f2⟩);have LZ:=bx f2;clear f1 f2 f3 tC tS HT;(go_wp2_with (first|((with_reducible apply AdU M.o mkVo bal.length (by omega) (by omega));rfl;rfl;rfl;rfl;intro w' g M' hb';(replace M:=bx M';clear M');clear hb')|((first|refine zS1d M 1 (.slice (some ⟨g,0,none⟩) bal.length bal.length) (stP {st0 with c:=c,just:=p,fin:=p} {x0 with bal:=⟨A',bal.length,c'⟩,nodes:=xn,tabs:=⟨some ⟨gt,0,none⟩,1,1⟩,lat:=⟨some ⟨g,0,none⟩,bal.length,bal.length⟩}) ?_|refine zSSd M 5 (stP {st0 with c:=c,just:=p,fin:=p} {x0 with bal:=⟨A',bal.length,c'⟩,nodes:=xn,tabs:=⟨some ⟨gt,0,none⟩,1,1⟩,lat:=⟨some ⟨g,0,none⟩,bal.length,bal.length⟩}) (stP {st0 with c:=c,just:=p,fin:=p} {x0 with bal:=⟨A',bal.length,c'⟩,nodes:=xn,tabs:=⟨some ⟨gt,0,none⟩,1,1⟩,lat:=⟨some ⟨g,0,none⟩,bal.length,bal.length⟩}) (AaD _ _) (Aaa _ _) ?_);clear M;intro w' M)|refine zLAd ?_));(obtain⟨Γw,f1,f2,f3⟩:=M.o.frzS bal.length);(refine zRt f3.at4 ?_);(obtain⟨hp9,hg9⟩:=HPG.o);subst hp9 hg9;exact StE.mk {x0 with bal:=⟨A',bal.length,c'⟩,nodes:=xn,tabs:=⟨some ⟨gt,0,none⟩,1,1⟩,lat:=⟨some ⟨g,0,none⟩,bal.length,bal.length⟩} (Ag2 rfl rfl (HB1.o.mono (((LX.o.trans LT.o).trans LZ.o).trans f2)) ⟨rfl,⟨Nat.le_refl _,(show bal.length<=maxLen from by unfold maxLen;omega),fun h=>(by cases h)⟩,(AeJ vox vo0 bal.length)▸f1⟩ (HN.o.mono ((LT.o.trans LZ.o).trans f2)) (HTB.o.mono f2) rfl rfl rfl) f3.ext
 ·(refine AaA (AaR rfl ztSt) rfl ?_;refine⟨ext_alloc _ _,?_⟩;replace M:=bx (M.o.alloc (P:=stP st0 x0) (ls:=stL) (AaD _ _) rfl 49);refine zNM ?_;(repeat(fail)))
  (refine zMC (AkC _ gb 1 _ M.ok) Tryz.func65 ?_;rintro e1 w1 ⟨xn,Γn,rfl,hN,hx⟩;refine⟨_,rfl,hx.bel,?_⟩;replace M:=bx (M.o.call hx);have HN:=bx hN;have LX:=bx hx.le;clear hx hN;refine zNM ?_;(repeat(fail)))
  (refine zMC (AcN _ p bal (by omega) sb.A sb.c _ M.ok (ROW2.o M.o.ext.le _ M.ok) CAP.o) Tryz.func66 ?_;rintro e1 w1 ⟨sv,Γt,rfl,hT,hx⟩;refine⟨_,rfl,hx.bel,?_⟩;replace M:=bx (M.o.call hx);have HT:=bx hT;have LT:=bx hx.le;clear hx hT;refine zNM ?_;(repeat(fail)))
  (obtain⟨TA,TK,tE,tC,tS⟩:=HT.o.s;simp only at tE;subst tE;refine AaA (Aau elTb rfl rfl (v:=.agg (fl (tbP p (.slice TA bal.length TK))).toArray) (cs:=fl (tbP p (.slice TA bal.length TK))) rfl (Ad0 _ _)) rfl ?_;refine⟨ext_alloc _ _,?_⟩;replace M:=bx (M.o.alloc (P:=tbP p (.slice TA bal.length TK)) (AaS _ _) rfl 119);refine zNM ?_;(repeat(first|refine zM0 ?_|(go_big_quiet_want;((with_reducible apply AeM (c:=c) (sb:=⟨A',bal.length,c'⟩) (p:=p) (xn:=xn));rfl;rfl;go_big_quiet_on;refine zNM ?_)))))
  replace M:=bx (M.o.swap)
  refine Aam M.o 0 (stP {st0 with c:=c,just:=p,fin:=p} {x0 with bal:=⟨A',bal.length,c'⟩,nodes:=xn,tabs:=⟨some ⟨_,0,none⟩,1,1⟩}) (stP {st0 with c:=c,just:=p,fin:=p} {x0 with bal:=⟨A',bal.length,c'⟩,nodes:=xn,tabs:=⟨some ⟨_,0,none⟩,1,1⟩}) rfl rfl rfl rfl rtSt rfl (AaD _ _) (Aaa _ _) rfl rfl ?_;intro w7 M';(simp only[List.set_cons_zero,List.set_cons_succ]at M');(replace M:=bx M';clear M');refine zNM ?_;refine NoPanic.normal ?_
  (obtain⟨g8,hg8⟩:=AgN M.o);rw[<-hg8]at M |-;clear hg8;replace M:=bx (M.o.swap);(obtain⟨gt,hgt⟩:=AgN M.o);rw[<-hgt]at M |-;clear hgt;(obtain⟨Γz,f1,f2,f3⟩:=M.o.frzL);clear M;have M:=bx f3;(have HTB:Bx (TabsG Γz ⟨some ⟨gt,0,none⟩,1,1⟩ [⟨p,bal⟩]):=⟨Ae3 tC tS f1 f2⟩);have LZ:=bx f2;clear f1 f2 f3 tC tS HT;(go_wp2_with (first|((with_reducible apply AdU M.o mkVo bal.length (by omega) (by omega));rfl;rfl;rfl;rfl;intro w' g M' hb';(replace M:=bx M';clear M');clear hb')|((first|refine zS1d M 1 (.slice (some ⟨g,0,none⟩) bal.length bal.length) (stP {st0 with c:=c,just:=p,fin:=p} {x0 with bal:=⟨A',bal.length,c'⟩,nodes:=xn,tabs:=⟨some ⟨gt,0,none⟩,1,1⟩,lat:=⟨some ⟨g,0,none⟩,bal.length,bal.length⟩}) ?_|refine zSSd M 5 (stP {st0 with c:=c,just:=p,fin:=p} {x0 with bal:=⟨A',bal.length,c'⟩,nodes:=xn,tabs:=⟨some ⟨gt,0,none⟩,1,1⟩,lat:=⟨some ⟨g,0,none⟩,bal.length,bal.length⟩}) (stP {st0 with c:=c,just:=p,fin:=p} {x0 with bal:=⟨A',bal.length,c'⟩,nodes:=xn,tabs:=⟨some ⟨gt,0,none⟩,1,1⟩,lat:=⟨some ⟨g,0,none⟩,bal.length,bal.length⟩}) (AaD _ _) (Aaa _ _) ?_);clear M;intro w' M)|refine zLAd ?_));(obtain⟨Γw,f1,f2,f3⟩:=M.o.frzS bal.length);(refine zRt f3.at4 ?_);(obtain⟨hp9,hg9⟩:=HPG.o);subst hp9 hg9;exact StE.mk {x0 with bal:=⟨A',bal.length,c'⟩,nodes:=xn,tabs:=⟨some ⟨gt,0,none⟩,1,1⟩,lat:=⟨some ⟨g,0,none⟩,bal.length,bal.length⟩} (Ag2 rfl rfl (HB1.o.mono (((LX.o.trans LT.o).trans LZ.o).trans f2)) ⟨rfl,⟨Nat.le_refl _,(show bal.length<=maxLen from by unfold maxLen;omega),fun h=>(by cases h)⟩,(AeJ vox vo0 bal.length)▸f1⟩ (HN.o.mono ((LT.o.trans LZ.o).trans f2)) (HTB.o.mono f2) rfl rfl rfl) f3.ext
end Go.Proofs.YtpaihpeoiliioaaGreat
