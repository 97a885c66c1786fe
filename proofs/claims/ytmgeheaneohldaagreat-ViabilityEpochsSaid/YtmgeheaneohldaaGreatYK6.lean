/- Texts joined: what the walks of this claim stand on (part 6 of 43). -/
import Derived.Test.YtmgeheaneohldaaGreatYK4
import Derived.Test.YtmgeheaneohldaaGreatYK5
set_option linter.all false
set_option maxRecDepth 20000
set_option maxHeartbeats 40000000
namespace Go.Proofs.YtmgeheaneohldaaGreat
open Go.RowKit Go.Proofs.YtmgeheaneohldaaGreat.Old
theorem ztCp:ZeroT Tryz.prog 37 (cpP cp0) [1,32]:=⟨fun w=>by kernel_rfl,AaA _⟩
def laterC(a j:Cp):Cp:=if a.e.n<j.e.n then j else a
def canU(s:Sto)(a b:Cp):Bool:=
 decide (0<=fndI s.nodes a.r)&&(decide (0<=fndI s.nodes b.r)&&(decide ((s.nodes.getD (fndI s.nodes a.r).toNat n0).st≠2)&&(decide ((s.nodes.getD (fndI s.nodes b.r).toNat n0).st≠2)&&(earB s (fndI s.nodes a.r).toNat a.e&&(earB s (fndI s.nodes b.r).toNat b.e &&
  (ancI s.nodes (fndI s.nodes b.r) (fndI s.nodes a.r)&&(decide (b.e.n<=a.e.n)&&(decide (a.e.n<=(epN s.now s.c.spe).n)&&decide (0<=idxI (fun t=>decide (t.c=a)) s.tabs)))))))))
def canR(s:Sto)(a b:Cp):Value:=if canU s a b=true then .tuple #[.agg (fl (cpP a)).toArray,.agg (fl (cpP b)).toArray,.bool true]else .tuple #[.agg (fl (cpP cp0)).toArray,.agg (fl (cpP cp0)).toArray,.bool false]
theorem elBl:ElT Tryz.prog 41 65 238 336:=AcX Tryz.underlying41 (by kernel_rfl) (by decide) (by decide)
def later(at_:U)(l:List Blk):List Blk:=l.filter fun o=>decide (at_.n<o.slot.n)
theorem AjS{a:U}{l:List Blk}{k:Nat}(hk:k<l.length)(h:a.n<l[k].slot.n):later a (l.take (k+1))=later a (l.take k) ++ [l[k]]:=by
 unfold later;rw[List.take_add_one,List.getElem?_eq_getElem hk,List.filter_append];simp[h]
theorem Akl{a:U}{l:List Blk}{k:Nat}(hk:k<l.length)(h:¬a.n<l[k].slot.n):later a (l.take (k+1))=later a (l.take k):=by
 unfold later;rw[List.take_add_one,List.getElem?_eq_getElem hk,List.filter_append];simp;omega
theorem AgZ(a:U)(l:List Blk):(later a l).length<=l.length:=List.length_filter_le _ _
def pruS(s:Sto)(k:Nat)(at_:U):Sto:={s with nodes:=pruneN s.nodes k,boost:=if fndI (pruneN s.nodes k) s.boost<0 then r0 else s.boost,orph:=later at_ s.orph}
def updS(s:Sto)(a b:Cp):Sto:=if b=s.fin then {s with tabs:=dropT s.tabs a.e.n,just:=a,fin:=b}else pruS {s with tabs:=dropT s.tabs a.e.n,just:=a,fin:=b} (fndI s.nodes b.r).toNat (stU b.e s.c.spe)
def updR(s:Sto)(j f:Cp):Sto:=if canU s (laterC s.just j) (laterC s.fin f)=true then updS s (laterC s.just j) (laterC s.fin f)else s
theorem Ak7{s:Sto}{a b:Cp}(hc:canU s a b=true):∃k:Nat,k<s.nodes.length/\fndI s.nodes b.r=(k:Int):=by
 unfold canU at hc
 simp only[Bool.and_eq_true,decide_eq_true_eq]at hc
 obtain⟨k,hk,e,_⟩:=Acf hc.2.1
 exact⟨k,hk,e⟩
abbrev cps4(a b c d:Cp):List (List Value):=cpP a++cpP b++cpP c++cpP d
abbrev cps4L:List Nat:=[1,32,1,32,1,32,1,32]
theorem AiE(a b c d:Cp):(cps4 a b c d).map List.length=cps4L:=by simp[cps4,cpP,Aax]
theorem AmI(a b c d:Cp):fl (cps4 a b c d) = [a,b,c,d].flatMap fun c=>fl (cpP c):=by simp[AcW]
theorem AmJ(ps:List (Nat × Value)):Tryz.prog.builtSlice 37 4 ps=Instr.fill (fun i=>some (i*33,33)) (fl (cps4 cp0 cp0 cp0 cp0)).toArray ps:=by kernel_rfl
theorem Aj6(a b c d:Cp):Tryz.prog.builtSlice 37 4 [(0,.agg (fl (cpP a)).toArray),(1,.agg (fl (cpP b)).toArray),(2,.agg (fl (cpP c)).toArray),(3,.agg (fl (cpP d)).toArray)]=some (fl (cps4 a b c d)).toArray:=by
 rw[AmJ]
 refine AaJ (Q:=cpP a) (AiE _ _ _ _) rfl rfl rfl (AaA a) rfl fun hl=>?_
 refine AaJ (Q:=cpP b) hl rfl rfl rfl (AaA b) rfl fun hl=>?_
 refine AaJ (Q:=cpP c) hl rfl rfl rfl (AaA c) rfl fun hl=>?_
 refine AaJ (Q:=cpP d) hl rfl rfl rfl (AaA d) rfl fun hl=>?_
 rfl
theorem Agx{N:List Nod}(h:Lk (upsN N))(i:Int)(slot:U):atI N i slot = -1\/∃k:Nat,k<N.length/\atI N i slot=(k:Int):=by
 have key:∀(l:List Nat) (a:Int),(a = -1\/∃k:Nat,k<N.length/\a=(k:Int))->(∀k∈l,k<N.length) ->
   (l.foldl (fun a k=>if(N.getD k n0).b.slot.n<=slot.n then(k:Int)else a) a = -1\/∃k:Nat,k<N.length/\l.foldl (fun a k=>if(N.getD k n0).b.slot.n<=slot.n then(k:Int)else a) a=(k:Int)):=by
  intro l
  induction l with
  |nil=>intro a ha _;exact ha
  |cons x t ih=>
   intro a ha hl
   refine ih _ ?_ (fun k hk=>hl k (by simp[hk]))
   simp only
   by_cases hx:(N.getD x n0).b.slot.n<=slot.n
   .rw[if_pos hx];exact .inr ⟨x,hl x (by simp),rfl⟩
   .rw[if_neg hx];exact ha
 exact key _ _ (.inl rfl) fun k hk=>(Ace h hk).1
def FitP(Γ:Gam)(w:World)(s:Sto)(b:Blk)(e:Ending)(w':World):Prop:=∃r:Bool,e=.returned (.bool r)/\(r=true->ordrd s b=true)/\Ext Γ w Γ w'
theorem Aic(Γ:Gam)(s:Sto)(v:Sls)(b:Blk)(hs:SpeOk s)(hk:Lk (upsN s.nodes))(hb:s.nodes.length<=4096)(w:World)(ok:Ok Γ w)(h:StG Γ v s) :
  Calls Tryz.prog 172 #[.agg (fl (stP s v)).toArray,.agg (blx b).toArray] w (FitP Γ w s b):=by
 have M:=bx (MM.start ok)
 have HG:=bx h
 have OK0:=bx ok
 have LN:=bx h.nodes.n
 have FI:=bx (fun w ok=>AaT Γ v.nodes s.nodes b.parent w ok h.nodes)
 have OR:=bx (fun w ok=>AhN Γ s v b hs.1 w ok)
 have ST:=bx (fun(Γ':Gam) e w ok=>Ack Γ' s v e hs w ok)
 have AT:=bx (fun(Γ':Gam) (hl:Le Γ Γ') (i:Int) slot w ok=>AhS Γ' v.nodes s.nodes i slot w ok (h.nodes.mono hl) hk hb)
 have ATC:=bx (fun i slot=>Agx hk i slot)
 clear ok h hs hk hb
 rcases Aek s.nodes b.parent with n1|⟨p,n1⟩
 .rw[n1]at FI
  clear n1
  go_enter Tryz.func172,Tryz.ntmps172
  (go_wp2_with (first|go_skip|(refine zBXo ?_;clear M;intro w' g M)|(refine zALo (ztRt) ?_;clear M;intro w' g M)|refine zLAo ?_|fail))
  refine zCA M (FI.out _ M.ok) ?_;clear M;intro w1 M
  (go_wp2_with (first|go_skip|(refine zBXo ?_;clear M;intro w' g M)|(refine zALo (ztRt) ?_;clear M;intro w' g M)|refine zLAo ?_|fail))
  go_ret;exact⟨false,rfl,fun e=>(by cases e),Ext.below OK0.out M.bel⟩
 .rw[n1]at FI
  have p0:¬(p:Int)<0:=by omega
  clear n1
  cases ho:ordrd s b with
  |false=>
   rw[ho]at OR
   go_enter Tryz.func172,Tryz.ntmps172
   (go_wp2_with (first|go_skip|(refine zBXo ?_;clear M;intro w' g M)|(refine zALo (ztRt) ?_;clear M;intro w' g M)|refine zLAo ?_|fail))
   refine zCA M (FI.out _ M.ok) ?_;clear M;intro w1 M
   (go_wp2_with (first|go_skip|(refine zBXo ?_;clear M;intro w' g M)|(refine zALo (ztRt) ?_;clear M;intro w' g M)|refine zLAo ?_|fail))
   refine zCA M (OR.out _ M.ok) ?_;clear M;intro w1 M
   (go_wp2_with (first|go_skip|(refine zBXo ?_;clear M;intro w' g M)|(refine zALo (ztRt) ?_;clear M;intro w' g M)|refine zLAo ?_|fail))
   go_ret;exact⟨false,rfl,fun e=>(by cases e),Ext.below OK0.out M.bel⟩
  |true=>
   rw[ho]at OR
   have HO:=bx ho
   clear ho
   go_enter Tryz.func172,Tryz.ntmps172
   (go_wp2_with (first|go_skip|(refine zBXo ?_;clear M;intro w' g M)|(refine zALo (ztRt) ?_;clear M;intro w' g M)|refine zLAo ?_|fail))
   refine zCA M (FI.out _ M.ok) ?_;clear M;intro w1 M
   (go_wp2_with (first|go_skip|(refine zBXo ?_;clear M;intro w' g M)|(refine zALo (ztRt) ?_;clear M;intro w' g M)|refine zLAo ?_|fail))
   refine zCA M (OR.out _ M.ok) ?_;clear M;intro w1 M
   (go_wp2_with (first|go_skip|(refine zBXo ?_;clear M;intro w' g M)|(refine zALo (ztRt) ?_;clear M;intro w' g M)|refine zLAo ?_|((with_reducible refine Abp M.out Tryz.underlying255 [(0,.agg (fl (cpP b.just)).toArray),(1,.agg (fl (cpP b.fin)).toArray),(2,.agg (fl (cpP b.pj)).toArray),(3,.agg (fl (cpP b.pf)).toArray)] (cps4 b.just b.fin b.pj b.pf) rfl rfl ?_ (Aj6 _ _ _ _) (AiE _ _ _ _) ?_);rfl;intro w' g M' hb';(replace M:=bx M';clear M');clear hb')))
   obtain⟨Γ1,e1,l1,M1⟩:=M.out.frzL
   rename_i gs _ gb _ _ _ _
   have HC:Bx (SlG Γ1 (some ⟨g,0,none⟩) 4 ([b.just,b.fin,b.pj,b.pf].flatMap fun c=>fl (cpP c))):=⟨fun _=>⟨g,[],rfl,by rw[e1,AmI,List.append_nil]⟩⟩
   have L1:=bx l1
   have hcl:([b.just,b.fin,b.pj,b.pf]:List Cp).length=4:=rfl
   clear M e1 l1 FI OR
   have M:=bx M1
   clear M1
   generalize [b.just,b.fin,b.pj,b.pf]=cs at *
   have HCL:=bx hcl
   clear hcl
   go_loopw [7] (fun jj wr=>∃k:Nat,k<=4/\jj=.int .i64 k/\MM Γ w Γ1 wr [⟨gb,blP b,blL⟩,⟨gs,stP s v,stL⟩] []) (fun jj _=>4-(intOf jj).toNat)
   case atStart=>exact⟨0,Nat.zero_le _,rfl,M.out⟩
   case round=>
    obtain⟨k,hk,rfl,hM⟩:=hrel
    clear M
    have M:=bx hM
    clear hM
    by_cases hkn:k<4
    .obtain⟨gk,e0,hf⟩:=HC.out.at (f:=fun c=>fl (cpP c)) (fun x _=>Ajs x) HCL.out k hkn
     obtain rfl:gk=g:=by injection e0 with e0;injection e0 with e0;exact e0.symm
     have hkc:k<cs.length:=by have:=HCL.out;omega
     have F1:Bx (Fz Γ1 gk (k*33) (cpP cs[k]) [1,32]):=⟨hf,AaA _⟩
     have hki:(k:Int)<4:=by omega
     have hk0:0<=(k:Int):=by omega
     clear e0 hf
     generalize cs[k]=c at *
     rcases two2 s.fin.e.n c.e.n with⟨j1,j2⟩|⟨j1,j2⟩
     .have j3:¬(c.e.n:Int)<=(s.fin.e.n:Int):=by omega
      (go_wp2_with (first|go_skip|(refine zBXo ?_;clear M;intro w' g M)|(refine zALo (ztRt) ?_;clear M;intro w' g M)|refine zLAo ?_|fail))
      refine zRG ?_;(repeat(first|go_big_quiet_skip|(go_big_quiet_want;first|(refine zQFo F1 ?_;go_big_quiet_on;refine zNM ?_)|(refine zQAo ?_;go_big_quiet_on;refine zNM ?_)|(refine zQO ?_;go_big_quiet_on))));(refine zQN ?_;clear M;intro w4 M)
      (go_wp2_with (first|go_skip|(refine zBXo ?_;clear M;intro w' g M)|(refine zALo (ztRt) ?_;clear M;intro w' g M)|refine zLAo ?_|fail))
      have EC:=bx (clsE M.out (fun w ok=>ST.out Γ1 c.e w ok))
      refine zRG ?_;(repeat(first|go_big_quiet_skip|(go_big_quiet_want;first|(refine zQFo F1 ?_;go_big_quiet_on;refine zNM ?_)|((with_reducible refine Aaw ?_);first|(refine zQC (AaI EC.out) Tryz.func169 ?_;go_big_quiet_on;refine zNM ?_))|(refine zQAo ?_;go_big_quiet_on;refine zNM ?_)|(refine zQO ?_;go_big_quiet_on))));(refine zQN ?_;clear M;intro w4 M)
      clear EC
      generalize stU c.e s.c.spe=at_ at *
      generalize stB c.e s.c.spe=ab at *
      rcases two2 at_.n b.slot.n with⟨k1,k2⟩|⟨k1,k2⟩
      .rcases ATC.out (p:Int) at_ with z|⟨K,hK,z⟩
       .have AT':=bx (fun w ok=>AT.out Γ1 L1.out (p:Int) at_ w ok)
        rw[z]at AT'
        clear z
        (go_wp2_with (first|go_skip|(refine zBXo ?_;clear M;intro w' g M)|(refine zALo (ztRt) ?_;clear M;intro w' g M)|refine zLAo ?_|(refine zSSo M 0 [rc b.root] [rc b.root] (lenR _) (Aah _) ?_;clear M;intro w' M)))
        refine zCA M (AT'.out _ M.ok) ?_;clear M;intro w1 M
        (go_wp2_with (first|go_skip|(refine zBXo ?_;clear M;intro w' g M)|(refine zALo (ztRt) ?_;clear M;intro w' g M)|refine zLAo ?_|fail))
        go_ret;exact⟨false,rfl,fun e=>(by cases e),Ext.below OK0.out M.bel⟩
       .have AT':=bx (fun w ok=>AT.out Γ1 L1.out (p:Int) at_ w ok)
        rw[z]at AT'
        obtain⟨gn,hA,hf2⟩:=(HG.out.mono L1.out).nodeAt K hK
        have HA:=bx hA
        have F2:=bx hf2
        have hKi:(K:Int)<(v.nodes.n:Int):=by rw[LN.out];omega
        have hK0:0<=(K:Int):=by omega
        have hK1:¬(K:Int)<0:=by omega
        clear z hA hf2
        generalize s.nodes[K]=y at *
        (go_wp2_with (first|go_skip|(refine zBXo ?_;clear M;intro w' g M)|(refine zALo (ztRt) ?_;clear M;intro w' g M)|refine zLAo ?_|(refine zSSo M 0 [rc b.root] [rc b.root] (lenR _) (Aah _) ?_;clear M;intro w' M)))
        refine zCA M (AT'.out _ M.ok) ?_;clear M;intro w1 M
        (go_wp2_with (first|go_skip|refine zLHo HA ?_|refine zRFo F2 ?_|(refine zSSo M 0 [rc y.b.root] [rc y.b.root] (lenR _) (Aah _) ?_;clear M;intro w' M)|(refine zBXo ?_;clear M;intro w' g M)|refine zLAo ?_))
        have hq:=AbC y.b.root c.r
        by_cases hr:y.b.root=c.r
        .rw[decide_eq_true hr]at hq
         clear hr
         refine zRG ?_;(repeat(first|go_big_quiet_skip|(go_big_quiet_want;first|(refine zQFo F1 ?_;go_big_quiet_on;refine zNM ?_)|(refine zQAo ?_;go_big_quiet_on;refine zNM ?_)|(refine zQO ?_;go_big_quiet_on))));(refine zQN ?_;clear M;intro w4 M)
         (go_wp2_with (first|go_skip|(refine zBXo ?_;clear M;intro w' g M)|(refine zALo (ztRt) ?_;clear M;intro w' g M)|refine zLAo ?_|fail))
         go_roundw
         case rel=>exact⟨k+1,by omega,by go_num,M.out.tail⟩
         case measure=>simp[intOf]<;>omega
        .rw[decide_eq_false hr]at hq
         clear hr
         refine zRG ?_;(repeat(first|go_big_quiet_skip|(go_big_quiet_want;first|(refine zQFo F1 ?_;go_big_quiet_on;refine zNM ?_)|(refine zQAo ?_;go_big_quiet_on;refine zNM ?_)|(refine zQO ?_;go_big_quiet_on))));(refine zQN ?_;clear M;intro w4 M)
         (go_wp2_with (first|go_skip|(refine zBXo ?_;clear M;intro w' g M)|(refine zALo (ztRt) ?_;clear M;intro w' g M)|refine zLAo ?_|fail))
         go_ret;exact⟨false,rfl,fun e=>(by cases e),Ext.below OK0.out M.bel⟩
      ·(go_wp2_with (first|go_skip|(refine zBXo ?_;clear M;intro w' g M)|(refine zALo (ztRt) ?_;clear M;intro w' g M)|refine zLAo ?_|(refine zSSo M 0 [rc b.root] [rc b.root] (lenR _) (Aah _) ?_;clear M;intro w' M)))
       have hq:=AbC b.root c.r
       by_cases hr:b.root=c.r
       .rw[decide_eq_true hr]at hq
        clear hr
        refine zRG ?_;(repeat(first|go_big_quiet_skip|(go_big_quiet_want;first|(refine zQFo F1 ?_;go_big_quiet_on;refine zNM ?_)|(refine zQAo ?_;go_big_quiet_on;refine zNM ?_)|(refine zQO ?_;go_big_quiet_on))));(refine zQN ?_;clear M;intro w4 M)
        (go_wp2_with (first|go_skip|(refine zBXo ?_;clear M;intro w' g M)|(refine zALo (ztRt) ?_;clear M;intro w' g M)|refine zLAo ?_|fail))
        go_roundw
        case rel=>exact⟨k+1,by omega,by go_num,M.out.tail⟩
        case measure=>simp[intOf]<;>omega
       .rw[decide_eq_false hr]at hq
        clear hr
        refine zRG ?_;(repeat(first|go_big_quiet_skip|(go_big_quiet_want;first|(refine zQFo F1 ?_;go_big_quiet_on;refine zNM ?_)|(refine zQAo ?_;go_big_quiet_on;refine zNM ?_)|(refine zQO ?_;go_big_quiet_on))));(refine zQN ?_;clear M;intro w4 M)
        (go_wp2_with (first|go_skip|(refine zBXo ?_;clear M;intro w' g M)|(refine zALo (ztRt) ?_;clear M;intro w' g M)|refine zLAo ?_|fail))
        go_ret;exact⟨false,rfl,fun e=>(by cases e),Ext.below OK0.out M.bel⟩
     .have j3:(c.e.n:Int)<=(s.fin.e.n:Int):=by omega
      (go_wp2_with (first|go_skip|(refine zBXo ?_;clear M;intro w' g M)|(refine zALo (ztRt) ?_;clear M;intro w' g M)|refine zLAo ?_|fail))
      refine zRG ?_;(repeat(first|go_big_quiet_skip|(go_big_quiet_want;first|(refine zQFo F1 ?_;go_big_quiet_on;refine zNM ?_)|(refine zQAo ?_;go_big_quiet_on;refine zNM ?_)|(refine zQO ?_;go_big_quiet_on))));(refine zQN ?_;clear M;intro w4 M)
      (go_wp2_with (first|go_skip|(refine zBXo ?_;clear M;intro w' g M)|(refine zALo (ztRt) ?_;clear M;intro w' g M)|refine zLAo ?_|fail))
      go_roundw
      case rel=>exact⟨k+1,by omega,by go_num,M.out⟩
      case measure=>simp[intOf]<;>omega
    .obtain rfl:k=4:=by omega
     (go_wp2_with (first|go_skip|(refine zBXo ?_;clear M;intro w' g M)|(refine zALo (ztRt) ?_;clear M;intro w' g M)|refine zLAo ?_|fail))
     go_ret
     exact⟨true,rfl,fun _=>HO.out,Ext.below OK0.out M.bel⟩
structure ChkOk(s:Sto)(b:Blk):Prop where
 nz:b.root≠r0
 new:s.known b.root=false
 now:b.slot.n<=s.now.n
 par:∃p,∃hp:p<s.nodes.length,fndI s.nodes b.parent=(p:Int)/\s.nodes[p].b.slot.n<b.slot.n/\s.nodes[p].st≠2/\fits11 s.c.ttd s.nodes[p].b b=true
 ord:ordrd s b=true
 room:(s.nodes.length:Int)<s.c.nl
def ChbP(Γ:Gam)(w:World)(s:Sto)(b:Blk)(e:Ending)(w':World):Prop:=∃er:Int,e=.returned (.int .i64 er)/\((er=0->ChkOk s b)/\er≠21)/\Ext Γ w Γ w'
theorem Ae2(Γ:Gam)(s:Sto)(v:Sls)(b:Blk)(hs:SpeOk s)(hk:Lk (upsN s.nodes))(hb:s.nodes.length<=4096)(hob:s.orph.length<=65535)(w:World)(ok:Ok Γ w)(h:StG Γ v s) :
  Calls Tryz.prog 145 #[.agg (fl (stP s v)).toArray,.agg (blx b).toArray] w (ChbP Γ w s b):=by
 have M:=bx (MM.start ok)
 have HG:=bx h
 have LN:=bx h.nodes.n
 have FI:=bx (fun w ok=>AaT Γ v.nodes s.nodes b.parent w ok h.nodes)
 have KN:=bx (fun w ok=>AhQ Γ s v b.root w ok h hob)
 have ST:=bx (fun w ok=>Ack Γ s v s.fin.e hs w ok)
 have FT:=bx (fun w ok=>Aic Γ s v b hs hk hb w ok h)
 have F11:=bx (fun p w ok=>Aid Γ s.c.ttd p b w ok)
 clear ok h hs hk hb hob
 go_enter Tryz.func145,Tryz.ntmps145
 (go_wp2_with (first|go_skip|(refine zBXd ?_;clear M;intro w' g M)|refine zLAd ?_|refine zBDd 29 [] (rc r0) (by kernel_rfl) ?_|fail))
 refine zCA M (ST.out _ M.ok) ?_;clear M;intro w1 M
 clear ST
 generalize stU s.fin.e s.c.spe=old at *
 generalize stB s.fin.e s.c.spe=ob at *
 have hq:=AbC b.root r0
 by_cases hz:b.root=r0
 .rw[decide_eq_true hz]at hq
  clear hz KN FT F11 FI
  (go_wp2_with (first|go_skip|(refine zBXd ?_;clear M;intro w' g M)|refine zLAd ?_|refine zBDd 29 [] (rc r0) (by kernel_rfl) ?_|fail))
  go_ret;exact⟨_,rfl,⟨fun e=>(by cases e),by decide⟩,M.out.ext⟩
 .rw[decide_eq_false hz]at hq
  have HZ:=bx hz
  clear hz
  (go_wp2_with (first|go_skip|(refine zBXd ?_;clear M;intro w' g M)|refine zLAd ?_|refine zBDd 29 [] (rc r0) (by kernel_rfl) ?_|fail))
  cases hkb:s.known b.root with
  |true=>
   rw[hkb]at KN
   clear hkb FT F11 FI
   refine zCA M (KN.out _ M.ok) ?_;clear M;intro w1 M
   (go_wp2_with (first|go_skip|(refine zBXd ?_;clear M;intro w' g M)|refine zLAd ?_|refine zBDd 29 [] (rc r0) (by kernel_rfl) ?_|fail))
   go_ret;exact⟨_,rfl,⟨fun e=>(by cases e),by decide⟩,M.out.ext⟩
  |false=>
   rw[hkb]at KN
   have HKB:=bx hkb
   clear hkb
   refine zCA M (KN.out _ M.ok) ?_;clear M;intro w1 M
   clear KN hq
   rcases two2 s.now.n b.slot.n with⟨j1,j2⟩|⟨j1,j2⟩
   .clear FT F11 FI
    (go_wp2_with (first|go_skip|(refine zBXd ?_;clear M;intro w' g M)|refine zLAd ?_|refine zBDd 29 [] (rc r0) (by kernel_rfl) ?_|fail))
    go_ret;exact⟨_,rfl,⟨fun e=>(by cases e),by decide⟩,M.out.ext⟩
   .rcases two2 old.n b.slot.n with⟨k1,k2⟩|⟨k1,k2⟩
    .have k3:¬(b.slot.n:Int)<=(old.n:Int):=by omega
     have J1:=bx j1
     rcases AcD s.nodes b.parent with n1|⟨p,hp,n1⟩
     .rw[n1]at FI
      clear n1 FT F11
      (go_wp2_with (first|go_skip|(refine zBXd ?_;clear M;intro w' g M)|refine zLAd ?_|refine zBDd 29 [] (rc r0) (by kernel_rfl) ?_|fail))
      refine zCA M (FI.out _ M.ok) ?_;clear M;intro w1 M
      (go_wp2_with (first|go_skip|(refine zBXd ?_;clear M;intro w' g M)|refine zLAd ?_|refine zBDd 29 [] (rc r0) (by kernel_rfl) ?_|fail))
      go_ret;exact⟨_,rfl,⟨fun e=>(by cases e),by decide⟩,M.out.ext⟩
     .rw[n1]at FI
      obtain⟨gn,hA,hf⟩:=HG.out.nodeAt p hp
      have HA:=bx hA
      have F1:=bx hf
      have hp0:¬(p:Int)<0:=by omega
      have hp00:0<=(p:Int):=by omega
      have hpi:(p:Int)<(v.nodes.n:Int):=by rw[LN.out];omega
      have HPAR:=bx (fun h1 h2 h3=>(show ∃p,∃hp:p<s.nodes.length,fndI s.nodes b.parent=(p:Int)/\s.nodes[p].b.slot.n<b.slot.n/\s.nodes[p].st≠2/\fits11 s.c.ttd s.nodes[p].b b=true from⟨p,hp,n1,h1,h2,h3⟩))
      have F11':=bx (F11.out s.nodes[p].b)
      clear n1 hA hf F11
      (go_wp2_with (first|go_skip|(refine zBXd ?_;clear M;intro w' g M)|refine zLAd ?_|refine zBDd 29 [] (rc r0) (by kernel_rfl) ?_|fail))
      refine zCA M (FI.out _ M.ok) ?_;clear M;intro w1 M
      clear FI
      generalize s.nodes[p]=y at *
      rcases two2 y.b.slot.n b.slot.n with⟨q1,q2⟩|⟨q1,q2⟩
      .have q3:¬(b.slot.n:Int)<=(y.b.slot.n:Int):=by omega
       have Q1:=bx q1
       by_cases hst:y.st=2
       .have b1:(y.st==2)=true:=by rw[hst];rfl
        clear hst HPAR FT F11'
        (go_wp2_with (first|go_skip|(refine zBXd ?_;clear M;intro w' g M)|refine zLAd ?_|refine zBDd 29 [] (rc r0) (by kernel_rfl) ?_|fail))
        refine zRG ?_;(repeat(first|go_big_quiet_skip|(go_big_quiet_want;first|(refine zQHd HA ?_;go_big_quiet_on;refine zNM ?_)|(refine zQFd F1 ?_;go_big_quiet_on;refine zNM ?_)|(refine zQAd ?_;go_big_quiet_on;refine zNM ?_)|(refine zQO ?_;go_big_quiet_on))));(refine zQN ?_;clear M;intro w4 M)
        (go_wp2_with (first|go_skip|refine zLHd HA ?_|refine zRFd F1 ?_|(refine zBXd ?_;clear M;intro w' g M)|refine zLAd ?_))
        go_ret;exact⟨_,rfl,⟨fun e=>(by cases e),by decide⟩,M.out.ext⟩
       .have b1:(y.st==2)=false:=beq_eq_false_iff_ne.2 hst
        have HST:=bx hst
        clear hst
        (go_wp2_with (first|go_skip|(refine zBXd ?_;clear M;intro w' g M)|refine zLAd ?_|refine zBDd 29 [] (rc r0) (by kernel_rfl) ?_|fail))
        refine zRG ?_;(repeat(first|go_big_quiet_skip|(go_big_quiet_want;first|(refine zQHd HA ?_;go_big_quiet_on;refine zNM ?_)|(refine zQFd F1 ?_;go_big_quiet_on;refine zNM ?_)|(refine zQAd ?_;go_big_quiet_on;refine zNM ?_)|(refine zQO ?_;go_big_quiet_on))));(refine zQN ?_;clear M;intro w4 M)
        (go_wp2_with (first|go_skip|refine zLHd HA ?_|refine zRFd F1 ?_|(refine zBXd ?_;clear M;intro w' g M)|refine zLAd ?_))
        refine(FT.out _ M.ok).mono ?_
        rintro e5 w5 ⟨rf,rfl,hrf,hx5⟩
        replace M:=bx (M.out.call hx5)
        have HRF:=bx hrf
        clear FT hrf hx5
        cases rf with
        |false=>
         clear F11' HPAR
         (go_wp2_with (first|go_skip|(refine zBXd ?_;clear M;intro w' g M)|refine zLAd ?_|refine zBDd 29 [] (rc r0) (by kernel_rfl) ?_|fail))
         go_ret;exact⟨_,rfl,⟨fun e=>(by cases e),by decide⟩,M.out.ext⟩
        |true=>
         (go_wp2_with (first|go_skip|(refine zBXd ?_;clear M;intro w' g M)|refine zLAd ?_|refine zBDd 29 [] (rc r0) (by kernel_rfl) ?_|fail))
         cases h11:fits11 s.c.ttd y.b b with
         |false=>
          rw[h11]at F11'
          have EC:=bx (clsE M.out F11'.out)
          clear HPAR F11' h11
          refine zRG ?_;(repeat(first|go_big_quiet_skip|(go_big_quiet_want;first|(refine zQHd HA ?_;go_big_quiet_on;refine zNM ?_)|(refine zQFd F1 ?_;go_big_quiet_on;refine zNM ?_)|((with_reducible refine Aaw ?_);first|(refine zQC (AaI EC.out) Tryz.func173 ?_;go_big_quiet_on;refine zNM ?_))|(refine zQAd ?_;go_big_quiet_on;refine zNM ?_)|(refine zQO ?_;go_big_quiet_on))));(refine zQN ?_;clear M;intro w4 M)
          clear EC
          (go_wp2_with (first|go_skip|(refine zBXd ?_;clear M;intro w' g M)|refine zLAd ?_|refine zBDd 29 [] (rc r0) (by kernel_rfl) ?_|fail))
          go_ret;exact⟨_,rfl,⟨fun e=>(by cases e),by decide⟩,M.out.ext⟩
         |true=>
          rw[h11]at F11'
          have EC:=bx (clsE M.out F11'.out)
          have HP2:=bx (HPAR.out Q1.out HST.out h11)
          clear HPAR F11' h11
          refine zRG ?_;(repeat(first|go_big_quiet_skip|(go_big_quiet_want;first|(refine zQHd HA ?_;go_big_quiet_on;refine zNM ?_)|(refine zQFd F1 ?_;go_big_quiet_on;refine zNM ?_)|((with_reducible refine Aaw ?_);first|(refine zQC (AaI EC.out) Tryz.func173 ?_;go_big_quiet_on;refine zNM ?_))|(refine zQAd ?_;go_big_quiet_on;refine zNM ?_)|(refine zQO ?_;go_big_quiet_on))));(refine zQN ?_;clear M;intro w4 M)
          clear EC
          by_cases hr:s.c.nl<=(v.nodes.n:Int)
          .clear HP2
           (go_wp2_with (first|go_skip|(refine zBXd ?_;clear M;intro w' g M)|refine zLAd ?_|refine zBDd 29 [] (rc r0) (by kernel_rfl) ?_|fail))
           go_ret;exact⟨_,rfl,⟨fun e=>(by cases e),by decide⟩,M.out.ext⟩
          .have HRM:Bx ((s.nodes.length:Int)<s.c.nl):=⟨by rw[<-LN.out];omega⟩
           (go_wp2_with (first|go_skip|(refine zBXd ?_;clear M;intro w' g M)|refine zLAd ?_|refine zBDd 29 [] (rc r0) (by kernel_rfl) ?_|fail))
           go_ret
           exact⟨0,rfl,⟨fun _=>⟨HZ.out,HKB.out,by have:=J1.out;omega,HP2.out,HRF.out (by simp),HRM.out⟩,by decide⟩,M.out.ext⟩
      .have q3:(b.slot.n:Int)<=(y.b.slot.n:Int):=by omega
       clear HPAR FT F11'
       (go_wp2_with (first|go_skip|(refine zBXd ?_;clear M;intro w' g M)|refine zLAd ?_|refine zBDd 29 [] (rc r0) (by kernel_rfl) ?_|fail))
       refine zRG ?_;(repeat(first|go_big_quiet_skip|(go_big_quiet_want;first|(refine zQHd HA ?_;go_big_quiet_on;refine zNM ?_)|(refine zQFd F1 ?_;go_big_quiet_on;refine zNM ?_)|(refine zQAd ?_;go_big_quiet_on;refine zNM ?_)|(refine zQO ?_;go_big_quiet_on))));(refine zQN ?_;clear M;intro w4 M)
       (go_wp2_with (first|go_skip|(refine zBXd ?_;clear M;intro w' g M)|refine zLAd ?_|refine zBDd 29 [] (rc r0) (by kernel_rfl) ?_|fail))
       go_ret;exact⟨_,rfl,⟨fun e=>(by cases e),by decide⟩,M.out.ext⟩
    .have k3:(b.slot.n:Int)<=(old.n:Int):=by omega
     clear FT F11 FI
     (go_wp2_with (first|go_skip|(refine zBXd ?_;clear M;intro w' g M)|refine zLAd ?_|refine zBDd 29 [] (rc r0) (by kernel_rfl) ?_|fail))
     go_ret;exact⟨_,rfl,⟨fun e=>(by cases e),by decide⟩,M.out.ext⟩
theorem elAt:ElT Tryz.prog 40 120 67 104:=AcX Tryz.underlying40 (by kernel_rfl) (by decide) (by decide)
def AttP(Γ:Gam)(w:World)(s:Sto)(a:Att)(e:Ending)(w':World):Prop:=
 (∃er:Int,er≠0/\er≠21/\StE Γ w er st0 e w')\/(VList a.l (s.bal.length:Int)/\(StE Γ w 0 {s with lat:=(castV s.lat a.t.e a.r a.l).1} e w'\/((s.early.length:Int)<s.c.el/\StE Γ w 0 {s with early:=s.early ++ [a]} e w')))
theorem VList.mem{l:List Int}{n:Int}(h:VList l n):∀y∈l,0<=y/\y<n:=fun y hy=>by
 obtain⟨j,hj,rfl⟩:=List.getElem_of_mem hy
 exact(h.2 j hj hj).1
theorem VList.pos{l:List Int}{n:Int}(h:VList l n):0<n:=by
 obtain⟨y,t,e⟩:=List.exists_cons_of_ne_nil h.1
 have:=h.mem y (by rw[e];simp)
 omega
theorem AiM{Γ:Gam}{X:List (Att × Sl)}{T:List Att}{a:Att}{y:Sl}{A:Option Addr}{n c:Nat}(hX:X.map Prod.fst=T)(hA:∀x∈X,AtG Γ x.1 x.2)(hn:n=T.length)(h1:CapOk A (n+1) c)(h2:SlG Γ A (n+1) (X.flatMap atx++fl (atP a y)))(ha:AtG Γ a y):AtsG Γ ⟨A,n+1,c⟩ (T ++ [a]):=by
 refine⟨X ++ [(a,y)],by rw[List.map_append,hX];rfl,fun x hx=>?_,by simp[hn],h1,?_⟩
 .rcases List.mem_append.1 hx with hx|hx
  .exact hA x hx
  .have:x=(a,y):=by simpa using hx
   subst this;exact ha
 .have e:(X ++ [(a,y)]).flatMap atx=X.flatMap atx++fl (atP a y):=by simp
  rw[e];exact h2
theorem Aio(Γ:Gam)(s:Sto)(v:Sls)(a:Att)(x:Sl)(hs:SpeOk s)(hk:Lk (upsN s.nodes))(hb:s.nodes.length<=4096)(hlb:a.l.length<=30000)(hl:s.lat.length=s.bal.length)(hl2:s.lat.length<=30000)(hel:s.early.length<=30000)(w:World)(ok:Ok Γ w)(h:StG Γ v s)(ha:AtG Γ a x) :
  Calls Tryz.prog 121 #[.agg (fl (stP s v)).toArray,.agg (fl (atP a x)).toArray] w (AttP Γ w s a):=by
 have M:=bx (MM.start ok)
 have HG:=bx h
 have CK:=bx (fun w ok=>Ad6 Γ s v a x hs hk hb (by omega) w ok h ha)
 have CI:=bx (fun(hv:VList a.l (s.bal.length:Int)) w ok=>Aih Γ s v a x w ok h ha (by have:=hv.pos;omega) (by omega) (by omega) (by rw[hl];exact hv.mem))
 obtain⟨X,hX,hXA,hXS⟩:=h.early
 have XE:=bx hX
 have XA:=bx hXA
 have LN:=bx hXS.n
 have hXl:X.length=s.early.length:=by rw[<-hX,List.length_map]
 have ROW:Bx (∀{Γ':Gam} w',Ok Γ' w'->Le Γ Γ'->Row w' w'.heap.size 67 v.early.A v.early.n (X.flatMap atx)):=⟨fun w' o hle=>(hXS.sl.mono hle).row (size:=67) (by rw[Aap X (fun x _=>Agw _ _),hXl,hXS.n]) o⟩
 have CAP:=bx hXS.cap.nil
 have OneX:Bx (One (X.flatMap atx)):=⟨Ab4 fun x _=>Ad8 _ _⟩
 have ROWa:Bx (∀w',Ok Γ w'->Row w' w'.heap.size 1 x.A a.l.length (ints .i64 a.l)):=⟨fun w' o=>by
  have hs:=ha.sl
  rw[ha.n]at hs
  exact hs.row (size:=1) (by rw[ints_len,Nat.mul_one]) o⟩
 have CAPa:=bx ha.cap.nil
 have xv:x.v=.slice x.A a.l.length x.c:=by rw[<-ha.n]
 have XV:=bx xv
 have hen:v.early.n<=30000:=by rw[hXS.n];exact hel
 clear ok h ha hk hb hl hl2 hs hX hXA hXS hXl hel xv
 go_enter Tryz.func121,Tryz.ntmps121
 (go_wp2_with (first|go_skip|(refine zBXd ?_;clear M;intro w' g M)|(refine zALd (ztSt) ?_;clear M;intro w' g M)|refine zLAd ?_|refine zBDd 49 [] (fl (stP st0 x0)) (by kernel_rfl) ?_|fail))
 refine(CK.out _ M.ok).mono ?_
 rintro e1 w1 ⟨ea,er,rfl,hv,hx1⟩
 replace M:=bx (M.out.call hx1)
 have HV:=bx hv
 clear hv hx1
 by_cases h0:er=0
 .subst h0
  have CI':=bx (CI.out (HV.out.1 (by simp)))
  clear CI
  cases ea
  ·(go_wp2_with (first|go_skip|(refine zBXd ?_;clear M;intro w' g M)|(refine zALd (ztSt) ?_;clear M;intro w' g M)|refine zLAd ?_|refine zBDd 49 [] (fl (stP st0 x0)) (by kernel_rfl) ?_|fail))
   refine(CI'.out _ M.ok).mono ?_
   rintro e2 w2 ⟨v2,Γ2,rfl,hg2,hx2⟩
   replace M:=bx (M.out.call hx2)
   have HG2:=bx hg2
   clear hg2 hx2
   (go_wp2_with (first|go_skip|(refine zBXd ?_;clear M;intro w' g M)|(refine zALd (ztSt) ?_;clear M;intro w' g M)|refine zLAd ?_|refine zBDd 49 [] (fl (stP st0 x0)) (by kernel_rfl) ?_|(refine zSSd M 0 (stP {s with lat:=(castV s.lat a.t.e a.r a.l).1} v2) (stP {s with lat:=(castV s.lat a.t.e a.r a.l).1} v2) (AaD _ _) (Aac _ _) ?_;clear M;intro w' M)))
   refine zRt M.out.at0 ?_
   exact .inr ⟨HV.out.1 (by simp),.inl (StE.mk _ HG2.out M.out.ext)⟩
  .by_cases hli:s.c.el<=(v.early.n:Int)
   ·(go_wp2_with (first|go_skip|(refine zBXd ?_;clear M;intro w' g M)|(refine zALd (ztSt) ?_;clear M;intro w' g M)|refine zLAd ?_|refine zBDd 49 [] (fl (stP st0 x0)) (by kernel_rfl) ?_|(refine zSSd M 0 (stP st0 x0) (stP st0 x0) (AaD _ _) (Aac _ _) ?_;clear M;intro w' M)))
    refine zRt M.out.at0 ?_
    exact .inl ⟨_,by decide,by decide,StE.err M.out.ext⟩
   .have EL:Bx ((s.early.length:Int)<s.c.el):=⟨by have:=LN.out;omega⟩
    go_upto_region 8 with(first|refine zLAd ?_)
    go_wp2_with (first|refine zLHd XV ?_|(at_builtin;(with_reducible apply Aa8 (M.out.row0 3 1) AbP (ROWa.out _ M.ok) CAPa.out);exact One.ints _ _;(unfold maxLen;omega);omega;rfl;rfl;rfl;rfl;intro A' c' w' M';(simp only[Nat.zero_add,List.nil_append]at M');(replace M:=bx M';clear M'))|(refine zS1d M 1 (.slice A' a.l.length c') (atP a ⟨A',a.l.length,c'⟩) ?_;clear M;intro w' M))
    refine AaE [6,9] (.steps [(1,0),(1,1),(0,2),(0,4)] (.fork 3 (.steps [(2,5),(3,6),(1,7),(1,8),(3,9)] .leaf) 5 (.steps [(2,3),(3,6),(1,7),(1,8),(3,9)] .leaf))) (by kernel_rfl) (by kernel_rfl) ?_;(simp only[MixT6,MT.steps,stepAt,List.getD_cons_zero,List.getD_cons_succ]);replace M:=bx (M.out.drew)
    refine zNM ?_
    refine zMRd ?_
    refine⟨?_,?_⟩
    ·(obtain⟨A1,c1,w1,hr,hM,hb⟩:=Aam elAt M.out 40 v.early.A v.early.n v.early.c _ (ROW.out _ M.ok M.out.ext.le) CAP.out OneX.out (by unfold maxLen;omega) (by omega));refine AaB (AaG rfl rfl rfl hr) rfl ?_;refine⟨hb,?_⟩;clear M;have M:=bx hM;clear hM hr hb;refine zNM ?_
     refine AaB (Aa3 elAt rfl rfl (v:=.agg (fl (atP a ⟨A',a.l.length,c'⟩)).toArray) (cs:=fl (atP a ⟨A',a.l.length,c'⟩)) rfl (Agw _ _)) rfl ?_;refine⟨ext_alloc _ _,?_⟩;replace M:=bx (M.out.alloc (P:=(atP a ⟨A',a.l.length,c'⟩)) (AbY _ _) rfl 120);refine zNM ?_
     (obtain⟨v5,w5,hr,hM⟩:=AaU elAt M.out 40 _ 1 1 _ (Aae M.out.at0 (m:=1) rfl) (fun h=>by cases h) (Ad8 _ _) (by unfold maxLen;omega) (by omega));refine AaB (AaG rfl rfl rfl hr) rfl ?_;replace M:=bx (hM.tail);clear hr hM;refine zNM ?_;refine zMRd ?_;(obtain⟨A6,c6,e6⟩:=own_slice (M.out.rows _ (List.mem_cons_self ..));simp only at e6;subst e6);refine AbL M.out 2 (.slice A6 (v.early.n+1) c6) (stP {s with early:=s.early ++ [a]} {v with early:=⟨A6,v.early.n+1,c6⟩}) rfl rfl rfl rfl Akc rfl rfl rfl rfl rfl rfl ?_;intro w7 M';(simp only[List.set_cons_zero,List.set_cons_succ]at M');(replace M:=bx M';clear M');refine zNM ?_;refine zMRd ?_;refine NoPanic.normal ?_;(go_wp2_with (first|go_skip|(refine zBXd ?_;clear M;intro w' g M)|(refine zALd (ztSt) ?_;clear M;intro w' g M)|refine zLAd ?_|refine zBDd 49 [] (fl (stP st0 x0)) (by kernel_rfl) ?_|(refine zSSd M 0 (stP {s with early:=s.early ++ [a]} {v with early:=⟨A6,v.early.n+1,c6⟩}) (stP {s with early:=s.early ++ [a]} {v with early:=⟨A6,v.early.n+1,c6⟩}) (AaD _ _) (Aac _ _) ?_;clear M;intro w' M)));obtain⟨Γ',h1,h2,h3,h4⟩:=M.out.frz;obtain⟨Γ2,g1,g2,g3,g4⟩:=h4.frz;refine zRt g4.at0 ?_;exact .inr ⟨HV.out.1 (by simp),.inr ⟨EL.out,StE.mk _ {HG.out.mono g4.ext.le with early:=AiM XE.out (fun x hx=>(XA.out x hx).mono g4.ext.le) LN.out h1 (h2.mono g3) ⟨rfl,g1,g2⟩} g4.ext⟩⟩
    .refine AaB (Aa3 elAt rfl rfl (v:=.agg (fl (atP a ⟨A',a.l.length,c'⟩)).toArray) (cs:=fl (atP a ⟨A',a.l.length,c'⟩)) rfl (Agw _ _)) rfl ?_;refine⟨ext_alloc _ _,?_⟩;replace M:=bx (M.out.alloc (P:=(atP a ⟨A',a.l.length,c'⟩)) (AbY _ _) rfl 120);refine zNM ?_
     (obtain⟨A1,c1,w1,hr,hM,hb⟩:=Aam elAt M.out 40 v.early.A v.early.n v.early.c _ (ROW.out _ M.ok M.out.ext.le) CAP.out OneX.out (by unfold maxLen;omega) (by omega));refine AaB (AaG rfl rfl rfl hr) rfl ?_;refine⟨hb,?_⟩;clear M;have M:=bx hM;clear hM hr hb;refine zNM ?_
     (obtain⟨v5,w5,hr,hM⟩:=AaU elAt M.out 40 _ 1 1 _ (Aae M.out.at0 (m:=1) rfl) (fun h=>by cases h) (Ad8 _ _) (by unfold maxLen;omega) (by omega));refine AaB (AaG rfl rfl rfl hr) rfl ?_;replace M:=bx (hM.tail);clear hr hM;refine zNM ?_;refine zMRd ?_;(obtain⟨A6,c6,e6⟩:=own_slice (M.out.rows _ (List.mem_cons_self ..));simp only at e6;subst e6);refine AbL M.out 2 (.slice A6 (v.early.n+1) c6) (stP {s with early:=s.early ++ [a]} {v with early:=⟨A6,v.early.n+1,c6⟩}) rfl rfl rfl rfl Akc rfl rfl rfl rfl rfl rfl ?_;intro w7 M';(simp only[List.set_cons_zero,List.set_cons_succ]at M');(replace M:=bx M';clear M');refine zNM ?_;refine zMRd ?_;refine NoPanic.normal ?_;(go_wp2_with (first|go_skip|(refine zBXd ?_;clear M;intro w' g M)|(refine zALd (ztSt) ?_;clear M;intro w' g M)|refine zLAd ?_|refine zBDd 49 [] (fl (stP st0 x0)) (by kernel_rfl) ?_|(refine zSSd M 0 (stP {s with early:=s.early ++ [a]} {v with early:=⟨A6,v.early.n+1,c6⟩}) (stP {s with early:=s.early ++ [a]} {v with early:=⟨A6,v.early.n+1,c6⟩}) (AaD _ _) (Aac _ _) ?_;clear M;intro w' M)));obtain⟨Γ',h1,h2,h3,h4⟩:=M.out.frz;obtain⟨Γ2,g1,g2,g3,g4⟩:=h4.frz;refine zRt g4.at0 ?_;exact .inr ⟨HV.out.1 (by simp),.inr ⟨EL.out,StE.mk _ {HG.out.mono g4.ext.le with early:=AiM XE.out (fun x hx=>(XA.out x hx).mono g4.ext.le) LN.out h1 (h2.mono g3) ⟨rfl,g1,g2⟩} g4.ext⟩⟩
 .have h0b:(er==0)=false:=beq_eq_false_iff_ne.2 h0
  have H0:=bx h0
  clear h0
  (go_wp2_with (first|go_skip|(refine zBXd ?_;clear M;intro w' g M)|(refine zALd (ztSt) ?_;clear M;intro w' g M)|refine zLAd ?_|refine zBDd 49 [] (fl (stP st0 x0)) (by kernel_rfl) ?_|(refine zSSd M 0 (stP st0 x0) (stP st0 x0) (AaD _ _) (Aac _ _) ?_;clear M;intro w' M)))
  refine zRt M.out.at0 ?_
  exact .inl ⟨_,H0.out,HV.out.2,StE.err M.out.ext⟩
def CasP(Γ:Gam)(w:World)(s:Sto)(v:Sls)(l:List Vo)(e:Ending)(w':World):Prop:=∃(x1:Sl) (Γ':Gam),e=.returned (.agg (fl (stP {s with lat:=l} {v with lat:=x1})).toArray)/\SlR Γ' x1 l.length (l.flatMap vox)/\Ext Γ w Γ' w'
theorem Ahb(Γ:Gam)(s:Sto)(v:Sls)(a:Att)(x:Sl)(w:World)(ok:Ok Γ w)(h:StG Γ v s)(ha:AtG Γ a x)(h1:0<s.lat.length)(hb:s.lat.length<=65535)(hb2:a.l.length<=65535)(hm:∀y∈a.l,0<=y/\y<(s.lat.length:Int)) :
  Calls Tryz.prog 141 #[.agg (fl (stP s v)).toArray,.agg (fl (atP a x)).toArray] w (CasP Γ w s v (castV s.lat a.t.e a.r a.l).1):=by
 have M:=bx (MM.start ok)
 have HG:=bx h
 have CV:Bx (∀w,Ok Γ w->Calls Tryz.prog 170 #[v.lat.v,.int .u64 (a.t.e.n:Int),.agg (rc a.r).toArray,x.v] w (CastP Γ w (castV s.lat a.t.e a.r a.l))):=⟨fun w ok=>by
  have hs:=ha.sl
  rw[ha.n]at hs
  have:=Age Γ v.lat s.lat a.t.e a.r x.A x.c a.l w ok h.lat h1 hb hs hb2 hm
  rwa [<-ha.n]at this⟩
 clear ok h ha h1 hb hb2 hm
 generalize castV s.lat a.t.e a.r a.l=r at *
 obtain⟨r1,r2⟩:=r
 go_enter Tryz.func141,Tryz.ntmps141
 (go_wp2_with (first|go_skip|(refine zBXo ?_;clear M;intro w' g M)|refine zLAo ?_|(refine zALo (ztSt) ?_;clear M;intro w' g M)))
 refine(CV.out _ M.ok).mono ?_
 rintro e1 w1 ⟨x1,Γ1,rfl,hl1,hx1⟩
 replace M:=bx (M.out.call hx1)
 have HG':=bx (HG.out.mono hx1.le)
 have HL:=bx hl1
 clear hl1 hx1
 (go_wp2_with (first|go_skip|(refine zBXo ?_;clear M;intro w' g M)|refine zLAo ?_|(refine zS1o M 2 (x1.v) (stP {s with lat:=r1} {v with lat:=x1}) ?_;clear M;intro w' M)|(refine zSSo M 0 (stP {s with lat:=r1} {v with lat:=x1}) (stP {s with lat:=r1} {v with lat:=x1}) (AaD _ _) (Aac _ _) ?_;clear M;intro w' M)))
 refine zR M.out.at0 ?_
 exact⟨x1,Γ1,rfl,HL.out,M.out.ext⟩
theorem MM.frzD{Γ0 Γ:Gam}{w0 w:World}{L:List Ent}{R:List RowE}{A:Option Addr}{c:Nat}{e:TypeId}{size n:Nat}{xs:List Value}(M:MM Γ0 w0 Γ w L (⟨.slice A n c,e,size,n,xs⟩::R)) :
  ∃Γ1,CapOk A n c/\SlG Γ1 A n xs/\Le Γ Γ1/\(∀w',Below w.heap.size w w'->Ok Γ1 w')/\∀g,Γ1 g=Γ g\/Γ1 g=some xs:=by
 have hr:=M.rows _ (List.mem_cons_self ..)
 have ho:=M.roff _ (List.mem_cons_self ..)
 rcases hr.2 with⟨h1,h2⟩|⟨g,cap,cur,h1,h2,h3,h4,h5,h6,h7⟩
 .simp only at h1 h2
  injection h1 with e1 e2 e3
  subst e1 e2 e3
  exact⟨Γ,⟨Nat.le_refl _,Nat.zero_le _,fun _=>rfl⟩,fun h=>absurd h (Nat.lt_irrefl _),Le.refl _,fun w' hb=>M.ext.ok.below hb,fun _=>.inl rfl⟩
 .simp only at h1 h3 h6 h7
  injection h1 with e1 e2 e3
  subst e1 e3
  obtain⟨hn,_⟩:=ho g rfl
  have hh:Has w g (xs++cur.toList.drop (n*size)):=⟨e,by rw[<-h7,List.take_append_drop];simpa using h3⟩
  have hok:Ok (Γ.add g xs) w:=fun k cs ek=>by
   by_cases hkg:k=g
   .subst hkg
    simp only[Gam.add,if_true,Option.some.injEq]at ek
    subst ek
    exact⟨_,hh⟩
   .simp only[Gam.add,if_neg hkg]at ek;exact M.ext.ok k cs ek
  refine⟨Γ.add g xs,⟨h4,h5,(fun h=>by cases h)⟩,fun _=>⟨g,[],rfl,by simp[Gam.add]⟩,AgY hn,fun w' hb=>hok.below hb,fun k=>?_⟩
  by_cases hkg:k=g
  .right;simp[Gam.add,hkg]
  .left;simp[Gam.add,hkg]
theorem SlG.cutD{Γ Γ1 Γ2:Gam}{w w':World}{A:Option Addr}{n:Nat}{xs row:List Value}(h:SlG Γ2 A n xs)(hx:Ext Γ1 w Γ2 w')(hd:∀g,Γ1 g=Γ g\/Γ1 g=some row)(hne:∀post,row≠xs++post):SlG (cutG Γ Γ2 w) A n xs:=fun hn=>by
 obtain⟨g,post,e,hg⟩:=h hn
 refine⟨g,post,e,?_⟩
 unfold cutG
 by_cases hlt:g<w.heap.size
 .rw[if_pos hlt]
  cases h1:Γ1 g with
  |none=>rw[hx.new g h1 hlt]at hg;cases hg
  |some cs=>
   have h2:=hx.le g cs h1
   rw[hg]at h2
   injection h2 with h2
   rcases hd g with h3|h3
   .rw[<-h3,h1,h2]
   .rw[h1]at h3
    injection h3 with h3
    exact absurd (h3.symm.trans h2.symm) (hne post)
 .rw[if_neg hlt];exact hg
theorem AkK{l:List Vo}{Y:List (Att × Sl)}(hl:0<l.length):∀post,Y.flatMap atx≠l.flatMap vox++post:=fun post e=>by
 cases l with
 |nil=>simp at hl
 |cons a t=>
  cases Y with
  |nil=>simp[vox,voP,fl]at e
  |cons y u=>simp[vox,voP,fl,atx,atP]at e
end Go.Proofs.YtmgeheaneohldaaGreat
