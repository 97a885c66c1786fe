/- Texts joined: what the walks of this claim stand on (part 17). -/
import Derived.Test.YtpaihpeoiliioaaGreatKK9
import Derived.Test.YtpaihpeoiliioaaGreatKK10
import Derived.Test.YtpaihpeoiliioaaGreatKK16
set_option linter.all false
set_option maxRecDepth 20000
set_option maxHeartbeats 40000000
namespace Go.Proofs.YtpaihpeoiliioaaGreat
open Go.RowKit Old
theorem elBl:ElT Tryz.prog 41 78 238 336:=Abr Tryz.underlying41 (by kernel_rfl) (by decide) (by decide)
def later(at_:U)(l:List Blk):List Blk:=l.filter fun o=>decide (at_.n<o.slot.n)
theorem AmJ{a:U}{l:List Blk}{k:Nat}(hk:k<l.length)(h:a.n<l[k].slot.n):later a (l.take (k+1))=later a (l.take k) ++ [l[k]]:=by
 unfold later;rw[List.take_add_one,List.getElem?_eq_getElem hk,List.filter_append];simp[h]
theorem An7{a:U}{l:List Blk}{k:Nat}(hk:k<l.length)(h:¬a.n<l[k].slot.n):later a (l.take (k+1))=later a (l.take k):=by
 unfold later;rw[List.take_add_one,List.getElem?_eq_getElem hk,List.filter_append];simp;omega
theorem AiN(a:U)(l:List Blk):(later a l).length<=l.length:=List.length_filter_le _ _
def pruS(s:Sto)(k:Nat)(at_:U):Sto:={s with nodes:=pruneN s.nodes k,boost:=if fndI (pruneN s.nodes k) s.boost<0 then r0 else s.boost,orph:=later at_ s.orph}
def updS(s:Sto)(a b:Cp):Sto:=if b=s.fin then {s with tabs:=dropT s.tabs a.e.n,just:=a,fin:=b}else pruS {s with tabs:=dropT s.tabs a.e.n,just:=a,fin:=b} (fndI s.nodes b.r).toNat (stU b.e s.c.spe)
def updR(s:Sto)(j f:Cp):Sto:=if canU s (laterC s.just j) (laterC s.fin f)=true then updS s (laterC s.just j) (laterC s.fin f)else s
theorem AoU{s:Sto}{a b:Cp}(hc:canU s a b=true):∃k:Nat,k<s.nodes.length/\fndI s.nodes b.r=(k:Int):=by
 unfold canU at hc
 simp only[Bool.and_eq_true,decide_eq_true_eq]at hc
 obtain⟨k,hk,e,_⟩:=Aci hc.2.1
 exact⟨k,hk,e⟩
abbrev cps4(a b c d:Cp):List (List Value):=cpP a++cpP b++cpP c++cpP d
abbrev cps4L:List Nat:=[1,32,1,32,1,32,1,32]
theorem Aka(a b c d:Cp):(cps4 a b c d).map List.length=cps4L:=by simp[cps4,cpP,Aav]
theorem Apw(a b c d:Cp):fl (cps4 a b c d) = [a,b,c,d].flatMap fun c=>fl (cpP c):=by simp[Acz]
theorem Apx(ps:List (Nat × Value)):Tryz.prog.builtSlice 37 4 ps=Instr.fill (fun i=>some (i*33,33)) (fl (cps4 cp0 cp0 cp0 cp0)).toArray ps:=by kernel_rfl
theorem AnH(a b c d:Cp):Tryz.prog.builtSlice 37 4 [(0,.agg (fl (cpP a)).toArray),(1,.agg (fl (cpP b)).toArray),(2,.agg (fl (cpP c)).toArray),(3,.agg (fl (cpP d)).toArray)]=some (fl (cps4 a b c d)).toArray:=by
 rw[Apx]
 refine AaG (Q:=cpP a) (Aka _ _ _ _) rfl rfl rfl (AaC a) rfl fun hl=>?_
 refine AaG (Q:=cpP b) hl rfl rfl rfl (AaC b) rfl fun hl=>?_
 refine AaG (Q:=cpP c) hl rfl rfl rfl (AaC c) rfl fun hl=>?_
 refine AaG (Q:=cpP d) hl rfl rfl rfl (AaC d) rfl fun hl=>?_
 rfl
theorem Aip{N:List Nod}(h:Lk (upsN N))(i:Int)(slot:U):atI N i slot = -1\/∃k:Nat,k<N.length/\atI N i slot=(k:Int):=by
 have key:∀(l:List Nat) (a:Int),(a = -1\/∃k:Nat,k<N.length/\a=(k:Int))->(∀k∈l,k<N.length) ->
   (l.foldl (fun a k=>if(N.getD k n0).b.slot.n<=slot.n then(k:Int)else a) a = -1\/∃k:Nat,k<N.length/\l.foldl (fun a k=>if(N.getD k n0).b.slot.n<=slot.n then(k:Int)else a) a=(k:Int)):=by
  intro l
  induction l with
  |nil=>intro a ha _;exact ha
  |cons x t ih=>
   intro a ha hl
   refine ih _ ?_ (fun k hk=>hl k (by simp[hk]))
   simp only
   by_cases hx:(N.getD x n0).b.slot.n<=slot.n
   .rw[if_pos hx];exact .inr ⟨x,hl x (by simp),rfl⟩
   .rw[if_neg hx];exact ha
 exact key _ _ (.inl rfl) fun k hk=>(Ac4 h hk).1
def FitP(Γ:Gam)(w:World)(s:Sto)(b:Blk)(e:Ending)(w':World):Prop:=∃r:Bool,e=.returned (.bool r)/\(r=true->ordrd s b=true)/\Ext Γ w Γ w'
theorem AlI(Γ:Gam)(s:Sto)(v:Sls)(b:Blk)(hs:SpeOk s)(hk:Lk (upsN s.nodes))(hb:s.nodes.length<=4096)(w:World)(ok:Ok Γ w)(h:StG Γ v s) :
  Calls Tryz.prog 192 #[.agg (fl (stP s v)).toArray,.agg (blx b).toArray] w (FitP Γ w s b):=by
 have M:=bx (MM.start ok)
 have HG:=bx h
 have OK0:=bx ok
 have LN:=bx h.nodes.n
 have FI:=bx (fun w ok=>Aag Γ v.nodes s.nodes b.parent w ok h.nodes)
 have OR:=bx (fun w ok=>AjH Γ s v b hs.1 w ok)
 have ST:=bx (fun(Γ':Gam) e w ok=>AdW Γ' s v e hs w ok)
 have AT:=bx (fun(Γ':Gam) (hl:Le Γ Γ') (i:Int) slot w ok=>AjN Γ' v.nodes s.nodes i slot w ok (h.nodes.mono hl) hk hb)
 have ATC:=bx (fun i slot=>Aip hk i slot)
 clear ok h hs hk hb
 rcases Afp s.nodes b.parent with n1|⟨p,n1⟩
 .rw[n1]at FI
  clear n1
  go_enter Tryz.func192,Tryz.ntmps192
  (go_wp2_with (first|(refine zBXo ?_;clear M;intro w' g M)|refine zLAo ?_))
  refine zCA M (FI.o _ M.ok) ?_;clear M;intro w1 M
  (go_wp2_with (fail))
  go_ret;exact⟨false,rfl,fun e=>(by cases e),Ext.below OK0.o M.bel⟩
 .rw[n1]at FI
  have p0:¬(p:Int)<0:=by omega
  clear n1
  cases ho:ordrd s b with
  |false=>
   rw[ho]at OR
   go_enter Tryz.func192,Tryz.ntmps192
   (go_wp2_with (first|(refine zBXo ?_;clear M;intro w' g M)|refine zLAo ?_))
   refine zCA M (FI.o _ M.ok) ?_;clear M;intro w1 M
   (go_wp2_with (refine zLAo ?_))
   refine zCA M (OR.o _ M.ok) ?_;clear M;intro w1 M
   (go_wp2_with (fail))
   go_ret;exact⟨false,rfl,fun e=>(by cases e),Ext.below OK0.o M.bel⟩
  |true=>
   rw[ho]at OR
   have HO:=bx ho
   clear ho
   go_enter Tryz.func192,Tryz.ntmps192
   (go_wp2_with (first|(refine zBXo ?_;clear M;intro w' g M)|refine zLAo ?_))
   refine zCA M (FI.o _ M.ok) ?_;clear M;intro w1 M
   (go_wp2_with (refine zLAo ?_))
   refine zCA M (OR.o _ M.ok) ?_;clear M;intro w1 M
   (go_wp2_with (first|refine zLAo ?_|((with_reducible refine Abt M.o Tryz.underlying281 [(0,.agg (fl (cpP b.just)).toArray),(1,.agg (fl (cpP b.fin)).toArray),(2,.agg (fl (cpP b.pj)).toArray),(3,.agg (fl (cpP b.pf)).toArray)] (cps4 b.just b.fin b.pj b.pf) rfl rfl ?_ (AnH _ _ _ _) (Aka _ _ _ _) ?_);rfl;intro w' g M' hb';(replace M:=bx M';clear M');clear hb')))
   obtain⟨Γ1,e1,l1,M1⟩:=M.o.frzL
   rename_i gs _ gb _ _ _ _
   have HC:Bx (SlG Γ1 (some ⟨g,0,none⟩) 4 ([b.just,b.fin,b.pj,b.pf].flatMap fun c=>fl (cpP c))):=⟨fun _=>⟨g,[],rfl,by rw[e1,Apw,List.append_nil]⟩⟩
   have L1:=bx l1
   have hcl:([b.just,b.fin,b.pj,b.pf]:List Cp).length=4:=rfl
   clear M e1 l1 FI OR
   have M:=bx M1
   clear M1
   generalize [b.just,b.fin,b.pj,b.pf]=cs at *
   have HCL:=bx hcl
   clear hcl
   go_loopw [7] (fun jj wr=>∃k:Nat,k<=4/\jj=.int .i64 k/\MM Γ w Γ1 wr [⟨gb,blP b,blL⟩,⟨gs,stP s v,stL⟩] []) (fun jj _=>4-(intOf jj).toNat)
   case atStart=>exact⟨0,Nat.zero_le _,rfl,M.o⟩
   case round=>
    obtain⟨k,hk,rfl,hM⟩:=hrel
    clear M
    have M:=bx hM
    clear hM
    by_cases hkn:k<4
    .obtain⟨gk,e0,hf⟩:=HC.o.at (f:=fun c=>fl (cpP c)) (fun x _=>Amx x) HCL.o k hkn
     obtain rfl:gk=g:=by injection e0 with e0;injection e0 with e0;exact e0.symm
     have hkc:k<cs.length:=by have:=HCL.o;omega
     have F1:Bx (Fz Γ1 gk (k*33) (cpP cs[k]) [1,32]):=⟨hf,AaC _⟩
     have hki:(k:Int)<4:=by omega
     have hk0:0<=(k:Int):=by omega
     clear e0 hf
     generalize cs[k]=c at *
     rcases two2 s.fin.e.n c.e.n with⟨j1,j2⟩|⟨j1,j2⟩
     .have j3:¬(c.e.n:Int)<=(s.fin.e.n:Int):=by omega
      (go_wp2_with (fail))
      refine zRG ?_;(repeat((go_big_quiet_want;first|((first|refine zQFo F1 ?_|refine zQAo ?_);go_big_quiet_on;refine zNM ?_)|(refine zQO ?_;go_big_quiet_on))));(refine zQN ?_;clear M;intro w4 M)
      (go_wp2_with (fail))
      have EC:=bx (clsE M.o (fun w ok=>ST.o Γ1 c.e w ok))
      refine zRG ?_;(repeat((go_big_quiet_want;first|(refine zQFo F1 ?_;go_big_quiet_on;refine zNM ?_)|((with_reducible refine AbD ?_);(refine zQC (AaJ EC.o) Tryz.func189 ?_;go_big_quiet_on;refine zNM ?_))|(refine zQAo ?_;go_big_quiet_on;refine zNM ?_)|(refine zQO ?_;go_big_quiet_on))));(refine zQN ?_;clear M;intro w4 M)
      clear EC
      generalize stU c.e s.c.spe=at_ at *
      generalize stB c.e s.c.spe=ab at *
      rcases two2 at_.n b.slot.n with⟨k1,k2⟩|⟨k1,k2⟩
      .rcases ATC.o (p:Int) at_ with z|⟨K,hK,z⟩
       .have AT':=bx (fun w ok=>AT.o Γ1 L1.o (p:Int) at_ w ok)
        rw[z]at AT'
        clear z
        (go_wp2_with (first|(refine zALo (ztRt) ?_;clear M;intro w' g M)|refine zLAo ?_|(refine zSSo M 0 [rc b.root] [rc b.root] (lenR _) (Aac _) ?_;clear M;intro w' M)))
        refine zCA M (AT'.o _ M.ok) ?_;clear M;intro w1 M
        (go_wp2_with (fail))
        go_ret;exact⟨false,rfl,fun e=>(by cases e),Ext.below OK0.o M.bel⟩
       .have AT':=bx (fun w ok=>AT.o Γ1 L1.o (p:Int) at_ w ok)
        rw[z]at AT'
        obtain⟨gn,hA,hf2⟩:=(HG.o.mono L1.o).nodeAt K hK
        have HA:=bx hA
        have F2:=bx hf2
        have hKi:(K:Int)<(v.nodes.n:Int):=by rw[LN.o];omega
        have hK0:0<=(K:Int):=by omega
        have hK1:¬(K:Int)<0:=by omega
        clear z hA hf2
        generalize s.nodes[K]=y at *
        (go_wp2_with (first|(refine zALo (ztRt) ?_;clear M;intro w' g M)|refine zLAo ?_|(refine zSSo M 0 [rc b.root] [rc b.root] (lenR _) (Aac _) ?_;clear M;intro w' M)))
        refine zCA M (AT'.o _ M.ok) ?_;clear M;intro w1 M
        (go_wp2_with (first|refine zLHo HA ?_|refine zRFo F2 ?_|(refine zSSo M 0 [rc y.b.root] [rc y.b.root] (lenR _) (Aac _) ?_;clear M;intro w' M)))
        have hq:=Aa5 y.b.root c.r
        by_cases hr:y.b.root=c.r
        .rw[decide_eq_true hr]at hq
         clear hr
         refine zRG ?_;(repeat((go_big_quiet_want;first|((first|refine zQFo F1 ?_|refine zQAo ?_);go_big_quiet_on;refine zNM ?_)|(refine zQO ?_;go_big_quiet_on))));(refine zQN ?_;clear M;intro w4 M)
         (go_wp2_with (fail))
         go_roundw
         case rel=>exact⟨k+1,by omega,by go_num,M.o.tail⟩
         case measure=>simp[intOf]<;>omega
        .rw[decide_eq_false hr]at hq
         clear hr
         refine zRG ?_;(repeat((go_big_quiet_want;first|((first|refine zQFo F1 ?_|refine zQAo ?_);go_big_quiet_on;refine zNM ?_)|(refine zQO ?_;go_big_quiet_on))));(refine zQN ?_;clear M;intro w4 M)
         (go_wp2_with (fail))
         go_ret;exact⟨false,rfl,fun e=>(by cases e),Ext.below OK0.o M.bel⟩
      ·(go_wp2_with (first|(refine zALo (ztRt) ?_;clear M;intro w' g M)|refine zLAo ?_|(refine zSSo M 0 [rc b.root] [rc b.root] (lenR _) (Aac _) ?_;clear M;intro w' M)))
       have hq:=Aa5 b.root c.r
       by_cases hr:b.root=c.r
       .rw[decide_eq_true hr]at hq
        clear hr
        refine zRG ?_;(repeat((go_big_quiet_want;first|((first|refine zQFo F1 ?_|refine zQAo ?_);go_big_quiet_on;refine zNM ?_)|(refine zQO ?_;go_big_quiet_on))));(refine zQN ?_;clear M;intro w4 M)
        (go_wp2_with (fail))
        go_roundw
        case rel=>exact⟨k+1,by omega,by go_num,M.o.tail⟩
        case measure=>simp[intOf]<;>omega
       .rw[decide_eq_false hr]at hq
        clear hr
        refine zRG ?_;(repeat((go_big_quiet_want;first|((first|refine zQFo F1 ?_|refine zQAo ?_);go_big_quiet_on;refine zNM ?_)|(refine zQO ?_;go_big_quiet_on))));(refine zQN ?_;clear M;intro w4 M)
        (go_wp2_with (fail))
        go_ret;exact⟨false,rfl,fun e=>(by cases e),Ext.below OK0.o M.bel⟩
     .have j3:(c.e.n:Int)<=(s.fin.e.n:Int):=by omega
      (go_wp2_with (fail))
      refine zRG ?_;(repeat((go_big_quiet_want;first|((first|refine zQFo F1 ?_|refine zQAo ?_);go_big_quiet_on;refine zNM ?_)|(refine zQO ?_;go_big_quiet_on))));(refine zQN ?_;clear M;intro w4 M)
      (go_wp2_with (fail))
      go_roundw
      case rel=>exact⟨k+1,by omega,by go_num,M.o⟩
      case measure=>simp[intOf]<;>omega
    .obtain rfl:k=4:=by omega
     (go_wp2_with (fail))
     go_ret
     exact⟨true,rfl,fun _=>HO.o,Ext.below OK0.o M.bel⟩
structure ChkOk(s:Sto)(b:Blk):Prop where
 nz:b.root≠r0
 new:s.known b.root=false
 now:b.slot.n<=s.now.n
 par:∃p,∃hp:p<s.nodes.length,fndI s.nodes b.parent=(p:Int)/\s.nodes[p].b.slot.n<b.slot.n/\s.nodes[p].st≠2/\fits11 s.c.ttd s.nodes[p].b b=true
 ord:ordrd s b=true
 room:(s.nodes.length:Int)<s.c.nl
def ChbP(Γ:Gam)(w:World)(s:Sto)(b:Blk)(e:Ending)(w':World):Prop:=∃er:Int,e=.returned (.int .i64 er)/\((er=0->ChkOk s b)/\er≠21)/\Ext Γ w Γ w'
theorem AgP(Γ:Gam)(s:Sto)(v:Sls)(b:Blk)(hs:SpeOk s)(hk:Lk (upsN s.nodes))(hb:s.nodes.length<=4096)(hob:s.orph.length<=65535)(w:World)(ok:Ok Γ w)(h:StG Γ v s) :
  Calls Tryz.prog 163 #[.agg (fl (stP s v)).toArray,.agg (blx b).toArray] w (ChbP Γ w s b):=by
 have M:=bx (MM.start ok)
 have HG:=bx h
 have LN:=bx h.nodes.n
 have FI:=bx (fun w ok=>Aag Γ v.nodes s.nodes b.parent w ok h.nodes)
 have KN:=bx (fun w ok=>AjK Γ s v b.root w ok h hob)
 have ST:=bx (fun w ok=>AdW Γ s v s.fin.e hs w ok)
 have FT:=bx (fun w ok=>AlI Γ s v b hs hk hb w ok h)
 have F11:=bx (fun p w ok=>AlJ Γ s.c.ttd p b w ok)
 clear ok h hs hk hb hob
 go_enter Tryz.func163,Tryz.ntmps163
 (go_wp2_with (first|(refine zBXd ?_;clear M;intro w' g M)|refine zLAd ?_))
 refine zCA M (ST.o _ M.ok) ?_;clear M;intro w1 M
 clear ST
 generalize stU s.fin.e s.c.spe=old at *
 generalize stB s.fin.e s.c.spe=ob at *
 have hq:=Aa5 b.root r0
 by_cases hz:b.root=r0
 .rw[decide_eq_true hz]at hq
  clear hz KN FT F11 FI
  (go_wp2_with (first|refine zLAd ?_|refine zBDd 29 [] (rc r0) (by kernel_rfl) ?_))
  go_ret;exact⟨_,rfl,⟨fun e=>(by cases e),by decide⟩,M.o.ext⟩
 .rw[decide_eq_false hz]at hq
  have HZ:=bx hz
  clear hz
  (go_wp2_with (first|refine zLAd ?_|refine zBDd 29 [] (rc r0) (by kernel_rfl) ?_))
  cases hkb:s.known b.root with
  |true=>
   rw[hkb]at KN
   clear hkb FT F11 FI
   refine zCA M (KN.o _ M.ok) ?_;clear M;intro w1 M
   (go_wp2_with (fail))
   go_ret;exact⟨_,rfl,⟨fun e=>(by cases e),by decide⟩,M.o.ext⟩
  |false=>
   rw[hkb]at KN
   have HKB:=bx hkb
   clear hkb
   refine zCA M (KN.o _ M.ok) ?_;clear M;intro w1 M
   clear KN hq
   rcases two2 s.now.n b.slot.n with⟨j1,j2⟩|⟨j1,j2⟩
   .clear FT F11 FI
    (go_wp2_with (refine zLAd ?_))
    go_ret;exact⟨_,rfl,⟨fun e=>(by cases e),by decide⟩,M.o.ext⟩
   .rcases two2 old.n b.slot.n with⟨k1,k2⟩|⟨k1,k2⟩
    .have k3:¬(b.slot.n:Int)<=(old.n:Int):=by omega
     have J1:=bx j1
     rcases Ab8 s.nodes b.parent with n1|⟨p,hp,n1⟩
     .rw[n1]at FI
      clear n1 FT F11
      (go_wp2_with (refine zLAd ?_))
      refine zCA M (FI.o _ M.ok) ?_;clear M;intro w1 M
      (go_wp2_with (fail))
      go_ret;exact⟨_,rfl,⟨fun e=>(by cases e),by decide⟩,M.o.ext⟩
     .rw[n1]at FI
      obtain⟨gn,hA,hf⟩:=HG.o.nodeAt p hp
      have HA:=bx hA
      have F1:=bx hf
      have hp0:¬(p:Int)<0:=by omega
      have hp00:0<=(p:Int):=by omega
      have hpi:(p:Int)<(v.nodes.n:Int):=by rw[LN.o];omega
      have HPAR:=bx (fun h1 h2 h3=>(show ∃p,∃hp:p<s.nodes.length,fndI s.nodes b.parent=(p:Int)/\s.nodes[p].b.slot.n<b.slot.n/\s.nodes[p].st≠2/\fits11 s.c.ttd s.nodes[p].b b=true from⟨p,hp,n1,h1,h2,h3⟩))
      have F11':=bx (F11.o s.nodes[p].b)
      clear n1 hA hf F11
      (go_wp2_with (refine zLAd ?_))
      refine zCA M (FI.o _ M.ok) ?_;clear M;intro w1 M
      clear FI
      generalize s.nodes[p]=y at *
      rcases two2 y.b.slot.n b.slot.n with⟨q1,q2⟩|⟨q1,q2⟩
      .have q3:¬(b.slot.n:Int)<=(y.b.slot.n:Int):=by omega
       have Q1:=bx q1
       by_cases hst:y.st=2
       .have b1:(y.st==2)=true:=by rw[hst];rfl
        clear hst HPAR FT F11'
        (go_wp2_with (fail))
        refine zRG ?_;(repeat((go_big_quiet_want;first|((first|refine zQHd HA ?_|refine zQFd F1 ?_|refine zQAd ?_);go_big_quiet_on;refine zNM ?_)|(refine zQO ?_;go_big_quiet_on))));(refine zQN ?_;clear M;intro w4 M)
        (go_wp2_with (first|refine zLHd HA ?_|refine zRFd F1 ?_))
        go_ret;exact⟨_,rfl,⟨fun e=>(by cases e),by decide⟩,M.o.ext⟩
       .have b1:(y.st==2)=false:=beq_eq_false_iff_ne.2 hst
        have HST:=bx hst
        clear hst
        (go_wp2_with (fail))
        refine zRG ?_;(repeat((go_big_quiet_want;first|((first|refine zQHd HA ?_|refine zQFd F1 ?_|refine zQAd ?_);go_big_quiet_on;refine zNM ?_)|(refine zQO ?_;go_big_quiet_on))));(refine zQN ?_;clear M;intro w4 M)
        (go_wp2_with (first|refine zLHd HA ?_|refine zRFd F1 ?_|refine zLAd ?_))
        refine(FT.o _ M.ok).mono ?_
        rintro e5 w5 ⟨rf,rfl,hrf,hx5⟩
        replace M:=bx (M.o.call hx5)
        have HRF:=bx hrf
        clear FT hrf hx5
        cases rf with
        |false=>
         clear F11' HPAR
         (go_wp2_with (fail))
         go_ret;exact⟨_,rfl,⟨fun e=>(by cases e),by decide⟩,M.o.ext⟩
        |true=>
         (go_wp2_with (fail))
         cases h11:fits11 s.c.ttd y.b b with
         |false=>
          rw[h11]at F11'
          have EC:=bx (clsE M.o F11'.o)
          clear HPAR F11' h11
          refine zRG ?_;(repeat((go_big_quiet_want;first|((first|refine zQHd HA ?_|refine zQFd F1 ?_);go_big_quiet_on;refine zNM ?_)|((with_reducible refine AbD ?_);(refine zQC (AaJ EC.o) Tryz.func193 ?_;go_big_quiet_on;refine zNM ?_))|(refine zQAd ?_;go_big_quiet_on;refine zNM ?_)|(refine zQO ?_;go_big_quiet_on))));(refine zQN ?_;clear M;intro w4 M)
          clear EC
          (go_wp2_with (fail))
          go_ret;exact⟨_,rfl,⟨fun e=>(by cases e),by decide⟩,M.o.ext⟩
         |true=>
          rw[h11]at F11'
          have EC:=bx (clsE M.o F11'.o)
          have HP2:=bx (HPAR.o Q1.o HST.o h11)
          clear HPAR F11' h11
          refine zRG ?_;(repeat((go_big_quiet_want;first|((first|refine zQHd HA ?_|refine zQFd F1 ?_);go_big_quiet_on;refine zNM ?_)|((with_reducible refine AbD ?_);(refine zQC (AaJ EC.o) Tryz.func193 ?_;go_big_quiet_on;refine zNM ?_))|(refine zQAd ?_;go_big_quiet_on;refine zNM ?_)|(refine zQO ?_;go_big_quiet_on))));(refine zQN ?_;clear M;intro w4 M)
          clear EC
          by_cases hr:s.c.nl<=(v.nodes.n:Int)
          .clear HP2
           (go_wp2_with (refine zLAd ?_))
           go_ret;exact⟨_,rfl,⟨fun e=>(by cases e),by decide⟩,M.o.ext⟩
          .have HRM:Bx ((s.nodes.length:Int)<s.c.nl):=⟨by rw[<-LN.o];omega⟩
           (go_wp2_with (refine zLAd ?_))
           go_ret
           exact⟨0,rfl,⟨fun _=>⟨HZ.o,HKB.o,by have:=J1.o;omega,HP2.o,HRF.o (by simp),HRM.o⟩,by decide⟩,M.o.ext⟩
      .have q3:(b.slot.n:Int)<=(y.b.slot.n:Int):=by omega
       clear HPAR FT F11'
       (go_wp2_with (fail))
       refine zRG ?_;(repeat((go_big_quiet_want;first|((first|refine zQHd HA ?_|refine zQFd F1 ?_|refine zQAd ?_);go_big_quiet_on;refine zNM ?_)|(refine zQO ?_;go_big_quiet_on))));(refine zQN ?_;clear M;intro w4 M)
       (go_wp2_with (fail))
       go_ret;exact⟨_,rfl,⟨fun e=>(by cases e),by decide⟩,M.o.ext⟩
    .have k3:(b.slot.n:Int)<=(old.n:Int):=by omega
     clear FT F11 FI
     (go_wp2_with (refine zLAd ?_))
     go_ret;exact⟨_,rfl,⟨fun e=>(by cases e),by decide⟩,M.o.ext⟩
theorem Aha(Γ:Gam)(s:Sto)(v:Sls)(j f:Cp)(hs:SpeOk s)(hk:Lk (upsN s.nodes))(hb:s.nodes.length<=4096)(ht:s.tabs.length<=65535)(w:World)(ok:Ok Γ w)(h:StG Γ v s) :
  Calls Tryz.prog 186 #[.agg (fl (stP s v)).toArray,.agg (fl (cpP j)).toArray,.agg (fl (cpP f)).toArray] w fun e w'=>e=.returned (canR s (laterC s.just j) (laterC s.fin f))/\Ext Γ w Γ w':=by
 obtain⟨ca,hca⟩:∃ca,laterC s.just j=ca:=⟨_,rfl⟩
 obtain⟨cb,hcb⟩:∃cb,laterC s.fin f=cb:=⟨_,rfl⟩
 have HD:canU s ca cb=(decide (0<=fndI s.nodes ca.r)&&(decide (0<=fndI s.nodes cb.r)&&(decide ((s.nodes.getD (fndI s.nodes ca.r).toNat n0).st≠2)&&(decide ((s.nodes.getD (fndI s.nodes cb.r).toNat n0).st≠2)&&(earB s (fndI s.nodes ca.r).toNat ca.e&&(earB s (fndI s.nodes cb.r).toNat cb.e &&
  (ancI s.nodes (fndI s.nodes cb.r) (fndI s.nodes ca.r)&&(decide (cb.e.n<=ca.e.n)&&(decide (ca.e.n<=(epN s.now s.c.spe).n)&&decide (0<=idxI (fun t=>decide (t.c=ca)) s.tabs)))))))))):=rfl
 rw[hca,hcb]
 rcases Ab8 s.nodes ca.r with n1|⟨i,hi,n1⟩
 .rw[Ahb (by rw[HD,n1];rfl)]
  exact Aq2 Γ s v j f hs hk hb ht w ok h ca cb hca hcb n1
 rcases Ab8 s.nodes cb.r with n2|⟨k,hk2,n2⟩
 .rw[Ahb (by rw[HD,n2];simp)]
  exact Aq1 Γ s v j f hs hk hb ht w ok h ca cb hca hcb i n1 n2
 exact Aq0 Γ s v j f hs hk hb ht w ok h ca cb hca hcb i k hi hk2 n1 n2
structure CanOk(s:Sto)(a b:Cp):Prop where
 ex:∃i k,∃hi:i<s.nodes.length,∃hk:k<s.nodes.length,fndI s.nodes a.r=(i:Int)/\fndI s.nodes b.r=(k:Int)/\s.nodes[i].st≠2/\s.nodes[k].st≠2/\ancI s.nodes (k:Int) (i:Int)=true/\s.nodes[i].b.root=a.r/\s.nodes[k].b.root=b.r
 le:b.e.n<=a.e.n
 now:a.e.n<=(epN s.now s.c.spe).n
 tab:∃t∈s.tabs,t.c=a
theorem Am9{s:Sto}{a b:Cp}(h:canU s a b=true):CanOk s a b:=by
 unfold canU at h
 simp only[Bool.and_eq_true,decide_eq_true_eq]at h
 obtain⟨h1,h2,h3,h4,h5,h6,h7,h8,h9,h10⟩:=h
 obtain⟨i,hi,e1,r1⟩:=Aci h1
 obtain⟨k,hk,e2,r2⟩:=Aci h2
 rw[e1,Int.toNat_natCast,nget hi]at h3
 rw[e2,Int.toNat_natCast,nget hk]at h4
 rw[e1,e2]at h7
 refine⟨⟨i,k,hi,hk,e1,e2,h3,h4,h7,r1,r2⟩,h8,h9,?_⟩
 rcases Aay (fun t=>decide (t.c=a)) s.tabs with⟨h1,_⟩|⟨j,hj,_,h2,_⟩
 .omega
 .exact⟨_,List.getElem_mem hj,of_decide_eq_true h2⟩
structure CfOk(c:Cf)(bal:List U):Prop where
 spe:1<=c.spe.n/\c.spe.n<=64
 bp:c.bp.n<=100
 nb:bal.length<=1024
 nl:1<=c.nl/\c.nl<=4096
 ol:0<=c.ol/\c.ol<=64
 el:0<=c.el/\c.el<=256
 tl:1<=c.tl/\c.tl<=64
 rl:0<=c.rl/\c.rl<=256
 bo:1<=c.bo.n/\c.bo.n<=1048576
 gen:c.gen≠r0
 sum:tbE bal (bal.length:Int)=0
def RtOk(r:Rt):Prop:=r.l.getD 1 0≠11
structure SI(k:Nat)(s:Sto):Prop where
 t:TI s.nodes
 spe:SpeOk s
 nl:(s.nodes.length:Int)<=s.c.nl/\s.c.nl<=14
 ol:(s.orph.length:Int)<=s.c.ol/\s.c.ol<=8
 el:(s.early.length:Int)<=s.c.el/\s.c.el<=8
 tl:(s.tabs.length:Int)<=s.c.tl/\s.c.tl<=8
 bp:s.c.bp.n<=100
 bal:1<=s.bal.length/\s.bal.length<=6
 lat:s.lat.length=s.bal.length
 just:∃j,∃hj:j<s.nodes.length,s.nodes[j].b.root=s.just.r/\s.nodes[j].st≠2
 fin:∃h:0<s.nodes.length,s.nodes[0].b.root=s.fin.r
 ord:∀n∈s.nodes,ordrd s n.b=true/\n.b.slot.n<=s.now.n
 tab:∃t∈s.tabs,t.c=s.just
 tbs:∀t∈s.tabs,tbE t.b (s.bal.length:Int)=0
 att:∀a∈s.early,a.l.length<=100
 eqv:s.eqv.length<=100*k
 now:s.now.n<=k
 cf:CfOk s.c s.bal
 lv:∀v∈s.lat,v.has=false->v=vo0
 eqr:∀x∈s.eqv,0<=x/\x<(s.bal.length:Int)
 eqa:s.eqv.Pairwise (· < ·)
 asc:AscQ s.tabs
 rtn:∀n∈s.nodes,RtOk n.b.root
 rto:∀b∈s.orph,RtOk b.root
theorem SI.more{k k':Nat}{s:Sto}(h:SI k s)(hk:k<=k'):SI k' s:={h with eqv:=by have:=h.eqv;omega,now:=by have:=h.now;omega}
theorem Afg{T:List Tbl}{e:Nat}{t:Tbl}:t∈dropT T e↔t∈T/\e<=t.c.e.n:=by unfold dropT;simp
theorem Aic{T:List Tbl}(h:AscQ T)(e:Nat):AscQ (dropT T e):=List.Pairwise.sublist List.filter_sublist h
theorem AkR(T:List Tbl)(e:Nat):(dropT T e).length<=T.length:=List.length_filter_le _ _
structure UpdK(s s':Sto):Prop where
 c:s'.c=s.c
 bal:s'.bal=s.bal
 lat:s'.lat=s.lat
 eqv:s'.eqv=s.eqv
 early:s'.early=s.early
 now:s'.now=s.now
 nodes:s'.nodes.length<=s.nodes.length
 tabs:s'.tabs.length<=s.tabs.length
 orph:s'.orph.length<=s.orph.length
theorem UpdK.refl(s:Sto):UpdK s s:=⟨rfl,rfl,rfl,rfl,rfl,rfl,Nat.le_refl _,Nat.le_refl _,Nat.le_refl _⟩
theorem UpdK.trans{s s' s'':Sto}(h:UpdK s s')(h':UpdK s' s''):UpdK s s'':=
 ⟨h'.c.trans h.c,h'.bal.trans h.bal,h'.lat.trans h.lat,h'.eqv.trans h.eqv,h'.early.trans h.early,h'.now.trans h.now,Nat.le_trans h'.nodes h.nodes,Nat.le_trans h'.tabs h.tabs,Nat.le_trans h'.orph h.orph⟩
theorem Ae1{s:Sto}(t:TI s.nodes)(j f:Cp):UpdK s (updR s j f)/\TI (updR s j f).nodes:=by
 unfold updR
 split
 .rename_i hc
  have hok:=Am9 hc
  obtain⟨i,k,hi,hk,e1,e2,h3,h4,h5,r1,r2⟩:=hok.ex
  unfold updS
  split
  .exact⟨⟨rfl,rfl,rfl,rfl,rfl,rfl,Nat.le_refl _,AkR _ _,Nat.le_refl _⟩,t⟩
  .unfold pruS
   rw[e2,Int.toNat_natCast]
   have hp:=Ajv t hk
   exact⟨⟨rfl,rfl,rfl,rfl,rfl,rfl,hp.len,AkR _ _,AiN _ _⟩,hp.t⟩
 .exact⟨UpdK.refl s,t⟩
theorem Alk{k:Nat}{s:Sto}(h:SI k s)(j f:Cp):SI k (updR s j f):=by
 obtain⟨K,T⟩:=Ae1 h.t j f
 have base:(∃i,∃hi:i<(updR s j f).nodes.length,(updR s j f).nodes[i].b.root=(updR s j f).just.r/\(updR s j f).nodes[i].st≠2)/\(∃h:0<(updR s j f).nodes.length,(updR s j f).nodes[0].b.root=(updR s j f).fin.r) /\
   (∀n∈(updR s j f).nodes,∃m∈s.nodes,n.b=m.b)/\(∃t∈(updR s j f).tabs,t.c=(updR s j f).just)/\(∀t∈(updR s j f).tabs,t∈s.tabs)/\AscQ (updR s j f).tabs/\(∀b∈(updR s j f).orph,b∈s.orph):=by
  unfold updR
  split
  .rename_i hc
   have hok:=Am9 hc
   obtain⟨i,q,hi,hq,e1,e2,h3,h4,h5,r1,r2⟩:=hok.ex
   obtain⟨t,ht,et⟩:=hok.tab
   have htab:∃x∈dropT s.tabs (laterC s.just j).e.n,x.c=laterC s.just j:=⟨t,Afg.2 ⟨ht,by rw[et];exact Nat.le_refl _⟩,et⟩
   unfold updS
   split
   .rename_i he
    refine⟨⟨i,hi,r1,h3⟩,⟨h.t.pos,?_⟩,fun n hn=>⟨n,hn,rfl⟩,htab,fun x hx=>(Afg.1 hx).1,Aic h.asc _,fun _ hb=>hb⟩
    obtain⟨_,e0⟩:=h.fin
    rw[e0];simp only;rw[he]
   .unfold pruS
    rw[e2,Int.toNat_natCast]
    have hp:=Ajv h.t hq
    obtain⟨p,hp1,hp2,hp3⟩:=hp.has i hi h5
    refine⟨⟨p,hp1,by rw[hp2];exact r1,by rw[hp3];exact h3⟩,⟨hp.t.pos,?_⟩,fun n hn=>?_,htab,fun x hx=>(Afg.1 hx).1,Aic h.asc _,fun _ hb=>(List.mem_filter.1 hb).1⟩
    .have:=hp.first hq hp.t.pos
     simp only
     rw[this]
     exact r2
    .obtain⟨m,hm,hb,_⟩:=hp.src n hn
     exact⟨m,hm,hb⟩
  .obtain⟨i,hi,r1,h3⟩:=h.just
   exact⟨⟨i,hi,r1,h3⟩,h.fin,fun n hn=>⟨n,hn,rfl⟩,h.tab,fun _ hx=>hx,h.asc,fun _ hb=>hb⟩
 obtain⟨b1,b2,b3,b4,b5,b6,b7⟩:=base
 have n1:=h.nl;have n2:=h.ol;have n3:=h.el;have n4:=h.tl
 have k1:=K.nodes;have k2:=K.orph;have k3:=K.tabs
 exact {t:=T,spe:=⟨by rw[K.c];exact h.spe.1,by rw[K.c];exact h.spe.2⟩,nl:=by rw[K.c];omega,ol:=by rw[K.c];omega,el:=by rw[K.c,K.early];exact n3,tl:=by rw[K.c];omega,bp:=by rw[K.c];exact h.bp,bal:=by rw[K.bal];exact h.bal,lat:=by rw[K.lat,K.bal];exact h.lat,just:=b1,fin:=b2,tab:=b4,tbs:=fun t ht=>by rw[K.bal];exact h.tbs t (b5 t ht),att:=by rw[K.early];exact h.att,eqv:=by rw[K.eqv];exact h.eqv,now:=by rw[K.now];exact h.now,cf:=by rw[K.c,K.bal];exact h.cf,lv:=by rw[K.lat];exact h.lv,eqr:=by rw[K.eqv,K.bal];exact h.eqr,eqa:=by rw[K.eqv];exact h.eqa,asc:=b6,rto:=fun b hb=>h.rto b (b7 b hb),rtn:=fun n hn=>by
         obtain⟨m,hm,hb⟩:=b3 n hn
         rw[hb];exact h.rtn m hm,ord:=fun n hn=>by
         obtain⟨m,hm,hb⟩:=b3 n hn
         obtain⟨o1,o2⟩:=h.ord m hm
         rw[hb,K.now]
         refine⟨?_,o2⟩
         unfold ordrd at o1 |-
         rw[K.c];exact o1}
theorem Aja{s:Sto}{b:Blk}(t:TI s.nodes)(h:ChkOk s b)(hn:s.nodes.length<4096):∃u:Nat,∃_:u<s.nodes.length,insN s.nodes b (statOf b)=(0,s.nodes ++ [⟨b,(u:Int),statOf b⟩])/\TI (s.nodes ++ [⟨b,(u:Int),statOf b⟩]):=by
 obtain⟨p,hp,e,h1,h2,h3⟩:=h.par
 have hk:=h.new
 unfold Sto.known at hk
 rw[Bool.or_eq_false_iff]at hk
 have hk2:fndI s.nodes b.root<0:=by have:=of_decide_eq_false hk.2;omega
 have hst:isStat (statOf b)=true:=by unfold statOf isStat;split<;>rfl
 have hroot:s.nodes[p].b.root=b.parent:=by
  obtain⟨k,hk,e',r⟩:=Aci (N:=s.nodes) (r:=b.parent) (by omega)
  obtain rfl:k=p:=by omega
  exact r
 refine⟨p,hp,?_,t.push hp h.nz (AoI hk2) hroot h1 h2 (fun hpay=>?_)⟩
 .unfold insN
  rw[if_neg (by rw[hst];exact fun e=>(by cases e)),if_neg (by omega),e,if_neg (by omega),Int.toNat_natCast,nget hp,if_neg (by omega),if_neg (by omega)]
 .unfold fits11 at h3
  rw[if_pos hpay]at h3
  exact of_decide_eq_true h3
def insS(s:Sto)(b:Blk):Sto:=
 let s2:=updR {s with nodes:=(insN s.nodes b (statOf b)).2} b.just b.fin
 if(epN b.slot s2.c.spe).n<(epN s2.now s2.c.spe).n then updR s2 b.pj b.pf else s2
theorem Ao2{k:Nat}{s:Sto}{b:Blk}(h:SI k s)(hc:ChkOk s b)(hr:RtOk b.root):SI k (insS s b):=by
 obtain⟨u,hu,e,t1⟩:=Aja h.t hc (by have:=h.nl;omega)
 have h1:SI k {s with nodes:=s.nodes ++ [⟨b,(u:Int),statOf b⟩]}:=by
  obtain⟨j,hj,r1,r2⟩:=h.just
  obtain⟨h0,r0'⟩:=h.fin
  have hl:(s.nodes ++ [(⟨b,(u:Int),statOf b⟩:Nod)]).length=s.nodes.length+1:=by simp
  exact {h with
   t:=t1
   spe:=⟨h.spe.1,h.spe.2⟩
   nl:=by have:=hc.room;have:=h.nl;simp only[hl];omega
   just:=⟨j,by simp only[hl];omega,by simp only;rw[List.getElem_append_left hj];exact r1,by simp only;rw[List.getElem_append_left hj];exact r2⟩
   fin:=⟨by simp only[hl];omega,by simp only;rw[List.getElem_append_left h0];exact r0'⟩
   ord:=fun n hn=>by
    rcases List.mem_append.1 hn with hn|hn
    .exact h.ord n hn
    .have:n=⟨b,(u:Int),statOf b⟩:=by simpa using hn
     subst this
     exact⟨hc.ord,hc.now⟩
   rtn:=fun n hn=>by
    rcases List.mem_append.1 hn with hn|hn
    .exact h.rtn n hn
    .have:n=⟨b,(u:Int),statOf b⟩:=by simpa using hn
     subst this
     exact hr}
 unfold insS
 rw[e]
 simp only
 have h2:=Alk h1 b.just b.fin
 split
 .exact Alk h2 _ _
 .exact h2
theorem AmU{s:Sto}{b:Blk}(t:TI s.nodes)(hc:ChkOk s b)(hn:s.nodes.length<4096):(insS s b).now=s.now/\(insS s b).orph.length<=s.orph.length/\(insS s b).c=s.c:=by
 obtain⟨u,hu,e,t1⟩:=Aja t hc hn
 unfold insS
 rw[e]
 simp only
 obtain⟨k1,t2⟩:=Ae1 (s:={s with nodes:=s.nodes ++ [⟨b,(u:Int),statOf b⟩]}) t1 b.just b.fin
 split
 .obtain⟨k2,_⟩:=Ae1 t2 b.pj b.pf
  exact⟨k2.now.trans k1.now,Nat.le_trans k2.orph k1.orph,k2.c.trans k1.c⟩
 .exact⟨k1.now,k1.orph,k1.c⟩
end Go.Proofs.YtpaihpeoiliioaaGreat
