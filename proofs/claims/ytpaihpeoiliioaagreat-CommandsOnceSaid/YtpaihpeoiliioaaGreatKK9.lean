/- Texts joined: what the walks of this claim stand on (part 9). -/
import Derived.Test.YtpaihpeoiliioaaGreatKK8
set_option linter.all false
set_option maxRecDepth 20000
set_option maxHeartbeats 40000000
namespace Go.Proofs.YtpaihpeoiliioaaGreat
open Go.RowKit Old
theorem Ahb{s:Sto}{a b:Cp}(h:canU s a b=false):canR s a b=.tuple #[.agg (fl (cpP cp0)).toArray,.agg (fl (cpP cp0)).toArray,.bool false]:=by unfold canR;rw[h];rfl
theorem Akd{s:Sto}{a b:Cp}(h:canU s a b=true):canR s a b=.tuple #[.agg (fl (cpP a)).toArray,.agg (fl (cpP b)).toArray,.bool true]:=by unfold canR;rw[h];rfl
theorem Aq0(Γ:Gam)(s:Sto)(v:Sls)(j f:Cp)(hs:SpeOk s)(hk:Lk (upsN s.nodes))(hb:s.nodes.length<=4096)(ht:s.tabs.length<=65535)(w:World)(ok:Ok Γ w)(h:StG Γ v s)(ca cb:Cp)(hca:laterC s.just j=ca)(hcb:laterC s.fin f=cb)(i k:Nat)(hi:i<s.nodes.length)(hk2:k<s.nodes.length)(n1:fndI s.nodes ca.r=(i:Int))(n2:fndI s.nodes cb.r=(k:Int)) :
  Calls Tryz.prog 186 #[.agg (fl (stP s v)).toArray,.agg (fl (cpP j)).toArray,.agg (fl (cpP f)).toArray] w fun e w'=>e=.returned (canR s ca cb)/\Ext Γ w Γ w':=by
 have HC:Bx (canU s ca cb=(decide (s.nodes[i].st≠2)&&(decide (s.nodes[k].st≠2)&&(earB s i ca.e&&(earB s k cb.e&&(ancI s.nodes (k:Int) (i:Int)&&(decide (cb.e.n<=ca.e.n)&&(decide (ca.e.n<=(epN s.now s.c.spe).n)&&decide (0<=idxI (fun t=>decide (t.c=ca)) s.tabs))))))))):=⟨by
  have HD:canU s ca cb=(decide (0<=fndI s.nodes ca.r)&&(decide (0<=fndI s.nodes cb.r)&&(decide ((s.nodes.getD (fndI s.nodes ca.r).toNat n0).st≠2)&&(decide ((s.nodes.getD (fndI s.nodes cb.r).toNat n0).st≠2)&&(earB s (fndI s.nodes ca.r).toNat ca.e&&(earB s (fndI s.nodes cb.r).toNat cb.e &&
   (ancI s.nodes (fndI s.nodes cb.r) (fndI s.nodes ca.r)&&(decide (cb.e.n<=ca.e.n)&&(decide (ca.e.n<=(epN s.now s.c.spe).n)&&decide (0<=idxI (fun t=>decide (t.c=ca)) s.tabs)))))))))):=rfl
  have hi0:decide (0<=(i:Int))=true:=decide_eq_true (by omega)
  have hk0:decide (0<=(k:Int))=true:=decide_eq_true (by omega)
  rw[n1,n2,hi0,hk0,Int.toNat_natCast,Int.toNat_natCast,nget hi,nget hk2,Bool.true_and,Bool.true_and]at HD
  exact HD⟩
 have CY:=bx (Akd (s:=s) (a:=ca) (b:=cb))
 have CN:=bx (Ahb (s:=s) (a:=ca) (b:=cb))
 generalize canU s ca cb=cu at *
 generalize canR s ca cb=R at *
 have M:=bx (MM.start ok)
 have HG:=bx h
 have LN:=bx h.nodes.n
 have hsp:0<s.c.spe.n:=hs.1
 have FI:=bx (fun r w ok=>Aag Γ v.nodes s.nodes r w ok h.nodes)
 have EA:=bx (fun k e (hk:k<s.nodes.length) w ok=>Afs Γ s v k e hs hk w ok h)
 have AN:=bx (fun a b w ok=>AeT Γ v.nodes s.nodes a b w ok h.nodes hk hb)
 have EP:=bx (fun w ok=>AbZ Γ s v s.now hsp w ok)
 have FT:Bx (∀a w,Ok Γ w->Calls Tryz.prog 106 #[v.tabs.v,.agg (fl (cpP a)).toArray] w fun e w'=>e=.returned (.int .i64 (idxI (fun t=>decide (t.c=a)) s.tabs))/\Ext Γ w Γ w'):=⟨fun a w ok=>Abq Γ v.tabs.A v.tabs.n v.tabs.c s.tabs a (by rw[<-h.tabs.2.1];exact ht) w ok h.tabs.2⟩
 have A1:Bx (s.just.e.n<j.e.n->ca=j):=⟨fun h=>by rw[<-hca];exact if_pos h⟩
 have A2:Bx (¬s.just.e.n<j.e.n->ca=s.just):=⟨fun h=>by rw[<-hca];exact if_neg h⟩
 have B1:Bx (s.fin.e.n<f.e.n->cb=f):=⟨fun h=>by rw[<-hcb];exact if_pos h⟩
 have B2:Bx (¬s.fin.e.n<f.e.n->cb=s.fin):=⟨fun h=>by rw[<-hcb];exact if_neg h⟩
 clear ok h hk hb ht hs hsp hca hcb
 go_enter Tryz.func186,Tryz.ntmps186
 go_upto_region 1 with(first|((first|refine zBXo ?_|refine zALo (ztCp) ?_);clear M;intro w' g M))
 rename_i gs _ gj _ gf _ g6 _ _
 go_cut [9,10]from 13 (fun s9 s10 wx=>∃ga gb,s9=.pointer (some ⟨ga,0,none⟩)/\s10=.pointer (some ⟨gb,0,none⟩)/\MM Γ w Γ wx [⟨gb,cpP s.fin,[1,32]⟩,⟨ga,cpP s.just,[1,32]⟩,⟨g,cpP cp0,[1,32]⟩,⟨g6,cpP cp0,[1,32]⟩,⟨gf,cpP f,[1,32]⟩,⟨gj,cpP j,[1,32]⟩,⟨gs,stP s v,stL⟩] [])
 case first=>
  go_wp2_with fail
  refine AaF (fun w'=>HL w' gs (stP s v) stL) (.steps [(1,0),(1,1),(0,2),(1,3),(1,4),(0,5)] (.fork 6 (.steps [(2,7),(3,8),(3,9)] .leaf) 7 (.steps [(2,6),(3,8),(3,9)] .leaf))) (by kernel_rfl) (by kernel_rfl) M.o.drew.at4 ?_;(simp only[MixT7,MT.steps,stepI,List.getD_cons_zero,List.getD_cons_succ]);replace M:=bx (M.o.drew)
  (repeat(first|refine zM0 ?_|(go_big_quiet_want;first|(refine zQL (fun _ h=>h) (AaD s v) ?_;go_big_quiet_on;refine zNM ?_)|(refine zQO ?_;go_big_quiet_on))))
  refine⟨?_,?_⟩
  .refine AaA (AaR rfl ztCp) rfl ?_;replace M:=bx (M.o.alloc (P:=(cpP cp0)) (ls:=[1,32]) (AaC _) rfl 37);refine zNM ?_
   refine⟨M.o.at5,?_⟩
   refine AaA (AaR rfl ztCp) rfl ?_;replace M:=bx (M.o.alloc (P:=(cpP cp0)) (ls:=[1,32]) (AaC _) rfl 37);refine zNM ?_
   refine⟨M.o.at6,?_⟩
   refine zXS M 1 (cpP s.just) (cpP s.just) (AaC _) (AaO _) ?_;clear M;intro w7 M
   refine⟨M.o.at6,?_⟩
   refine zXS M 0 (cpP s.fin) (cpP s.fin) (AaC _) (AaO _) ?_;clear M;intro w7 M
   refine⟨M.o.at6,?_⟩
   refine zMR7 ?_
   refine NoPanic.normal ?_
   go_wp2_with fail
   go_meet
   case rel=>exact⟨_,_,rfl,rfl,M.o⟩
  .refine AaA (AaR rfl ztCp) rfl ?_;replace M:=bx (M.o.alloc (P:=(cpP cp0)) (ls:=[1,32]) (AaC _) rfl 37);refine zNM ?_
   refine⟨M.o.at5,?_⟩
   refine AaA (AaR rfl ztCp) rfl ?_;replace M:=bx (M.o.alloc (P:=(cpP cp0)) (ls:=[1,32]) (AaC _) rfl 37);refine zNM ?_
   refine⟨M.o.at6,?_⟩
   refine zXS M 0 (cpP s.just) (cpP s.just) (AaC _) (AaO _) ?_;clear M;intro w7 M
   refine⟨M.o.at6,?_⟩
   refine zXS M 1 (cpP s.fin) (cpP s.fin) (AaC _) (AaO _) ?_;clear M;intro w7 M
   refine⟨M.o.at6,?_⟩
   refine zMR7 ?_
   refine NoPanic.normal ?_
   go_wp2_with fail
   go_meet
   case rel=>exact⟨_,_,rfl,rfl,M.o.lswap⟩
 case rest=>
  obtain⟨ga,gb,rfl,rfl,hM⟩:=hcut
  clear M
  have M:=bx hM
  clear hM
  go_upto_if 23 with(first|refine zLAo ?_)
  go_cut []from 13 (fun wx=>MM Γ w Γ wx [⟨gb,cpP s.fin,[1,32]⟩,⟨ga,cpP ca,[1,32]⟩,⟨g,cpP cp0,[1,32]⟩,⟨g6,cpP cp0,[1,32]⟩,⟨gf,cpP f,[1,32]⟩,⟨gj,cpP j,[1,32]⟩,⟨gs,stP s v,stL⟩] [])
  case first=>
   by_cases hj:s.just.e.n<j.e.n
   focus
    have hj':(s.just.e.n:Int)<(j.e.n:Int):=by omega
    have E:=A1.o hj
   rotate_left
   focus
    have hj':¬(s.just.e.n:Int)<(j.e.n:Int):=by omega
    have E:=A2.o hj
   all_goals
    clear A1 A2
    (go_wp2_with (first|go_skip|((first|refine zBXo ?_|refine zALo (ztCp) ?_);clear M;intro w' g M)|refine zLAo ?_|refine zBDo 37 [] (fl (cpP cp0)) (by kernel_rfl) ?_|(refine zSSo M 1 (cpP j) (cpP j) (AaC _) (AaO _) ?_;clear M;intro w' M)))
    go_meet
    case rel=>rw[E];exact M.o
  case rest=>
   clear M A1 A2
   have M:=bx hcut
   clear hcut
   go_upto_if 29 with(first|refine zLAo ?_)
   go_cut []from 13 (fun wx=>MM Γ w Γ wx [⟨gb,cpP cb,[1,32]⟩,⟨ga,cpP ca,[1,32]⟩,⟨g,cpP cp0,[1,32]⟩,⟨g6,cpP cp0,[1,32]⟩,⟨gf,cpP f,[1,32]⟩,⟨gj,cpP j,[1,32]⟩,⟨gs,stP s v,stL⟩] [])
   case first=>
    by_cases hj:s.fin.e.n<f.e.n
    focus
     have hj':(s.fin.e.n:Int)<(f.e.n:Int):=by omega
     have E:=B1.o hj
    rotate_left
    focus
     have hj':¬(s.fin.e.n:Int)<(f.e.n:Int):=by omega
     have E:=B2.o hj
    all_goals
     clear B1 B2
     (go_wp2_with (first|go_skip|((first|refine zBXo ?_|refine zALo (ztCp) ?_);clear M;intro w' g M)|refine zLAo ?_|refine zBDo 37 [] (fl (cpP cp0)) (by kernel_rfl) ?_|(refine zSSo M 0 (cpP f) (cpP f) (AaC _) (AaO _) ?_;clear M;intro w' M)))
     go_meet
     case rel=>rw[E];exact M.o
   case rest=>
    clear M B1 B2
    have M:=bx hcut
    clear hcut
    go_wp2_with fail
    obtain⟨gn,hA,hf⟩:=HG.o.nodeAt i hi
    have HI:=bx hA
    have F1:=bx hf
    obtain⟨gn',hA',hf'⟩:=HG.o.nodeAt k hk2
    rw[hA']at hA
    injection hA with hA
    injection hA with hA
    injection hA with hA
    subst hA
    have F2:=bx hf'
    have EF1:=bx (FI.o ca.r)
    have EF2:=bx (FI.o cb.r)
    rw[n1]at EF1
    rw[n2]at EF2
    replace EF1:=bx (clsE M.o EF1.o)
    replace EF2:=bx (clsE M.o EF2.o)
    have EE1:=bx (EA.o i ca.e hi)
    have EE2:=bx (EA.o k cb.e hk2)
    have EAN:=bx (AN.o (k:Int) (i:Int))
    have EEP:=bx EP.o
    have EFT:=bx (FT.o ca)
    have i0:0<=(i:Int):=by omega
    have k0:0<=(k:Int):=by omega
    have i0':decide ((i:Int)<0)=false:=decide_eq_false (by omega)
    have k0':decide ((k:Int)<0)=false:=decide_eq_false (by omega)
    have ii:(i:Int)<(v.nodes.n:Int):=by rw[LN.o];omega
    have kk:(k:Int)<(v.nodes.n:Int):=by rw[LN.o];omega
    clear FI FT EA AN EP n1 n2 hA' hf hf'
    generalize s.nodes[i]=y1 at *
    generalize s.nodes[k]=y2 at *
    generalize earB s i ca.e=q1 at *
    generalize earB s k cb.e=q2 at *
    generalize ancI s.nodes (k:Int) (i:Int)=q3 at *
    generalize epN s.now s.c.spe=en at *
    generalize idxI (fun t=>decide (t.c=ca)) s.tabs=ti at *
    refine zRG ?_;(repeat(first|go_big_quiet_skip|(go_big_quiet_want;first|((with_reducible refine AbD ?_);first|((first|refine zQC (AaJ EF1.o) Tryz.func24 ?_|refine zQC (AaJ EF2.o) Tryz.func24 ?_);go_big_quiet_on;refine zNM ?_))|(refine zQAo ?_;go_big_quiet_on;refine zNM ?_)|(refine zQO ?_;go_big_quiet_on))));(refine zQN ?_;clear M;intro w4 M)
    clear EF1 EF2
    go_wp2_with fail
    have hcu:=HC.o
    clear HC
    by_cases x1:y1.st=2
    .as_aux_lemma=>
      have c1:(y1.st==2)=true:=by simp[x1]
      have RN:=CN.o (by rw[hcu];simp[x1])
      clear hcu CY CN x1
      refine zRG ?_;(try simp only[List.append_eq,List.cons_append,List.nil_append]);((repeat(first|go_big_quiet_skip|(go_big_quiet_want;first|(first|((first|refine zQHo HI ?_|refine zQFo F1 ?_|refine zQFo F2 ?_);go_big_quiet_on;refine zNM ?_)|((with_reducible refine AbD ?_);first|((first|refine zQC (AaJ (clsE M.o EE1.o)) Tryz.func206 ?_|refine zQC (AaJ (clsE M.o EE2.o)) Tryz.func206 ?_|refine zQC (AaJ (clsE M.o EAN.o)) Tryz.func25 ?_|refine zQC (AaJ (clsE M.o EEP.o)) Tryz.func143 ?_|refine zQC (AaJ (clsE M.o EFT.o)) Tryz.func106 ?_);go_big_quiet_on;refine zNM ?_))|(refine zQAo ?_;go_big_quiet_on;refine zNM ?_))|(refine zQO ?_;go_big_quiet_on)))));(refine zQN ?_;clear M;intro w4 M)
      (go_wp2_with (first|go_skip|((first|refine zBXo ?_|refine zALo (ztCp) ?_);clear M;intro w' g M)|refine zLAo ?_|refine zBDo 37 [] (fl (cpP cp0)) (by kernel_rfl) ?_|((first|refine zSSo M 3 (cpP cp0) (cpP cp0) (AaC _) (AaO _) ?_|refine zSSo M 2 (cpP cp0) (cpP cp0) (AaC _) (AaO _) ?_);clear M;intro w' M)));(try refine zsm ?_);refine bodyPost_ret (Aas (by rfl) _ M.o.at3 M.o.at2 (by rfl) (by rfl) rtCk rtCk rfl rfl) rfl ?_;exact⟨by rw[RN];rfl,M.o.ext⟩
    have c1:(y1.st==2)=false:=beq_eq_false_iff_ne.2 x1
    by_cases x2:y2.st=2
    .as_aux_lemma=>
      have c2:(y2.st==2)=true:=by simp[x2]
      have RN:=CN.o (by rw[hcu];simp[x2])
      clear hcu CY CN x1 x2
      refine zRG ?_;(try simp only[List.append_eq,List.cons_append,List.nil_append]);((repeat(first|go_big_quiet_skip|(go_big_quiet_want;first|(first|((first|refine zQHo HI ?_|refine zQFo F1 ?_|refine zQFo F2 ?_);go_big_quiet_on;refine zNM ?_)|((with_reducible refine AbD ?_);first|((first|refine zQC (AaJ (clsE M.o EE1.o)) Tryz.func206 ?_|refine zQC (AaJ (clsE M.o EE2.o)) Tryz.func206 ?_|refine zQC (AaJ (clsE M.o EAN.o)) Tryz.func25 ?_|refine zQC (AaJ (clsE M.o EEP.o)) Tryz.func143 ?_|refine zQC (AaJ (clsE M.o EFT.o)) Tryz.func106 ?_);go_big_quiet_on;refine zNM ?_))|(refine zQAo ?_;go_big_quiet_on;refine zNM ?_))|(refine zQO ?_;go_big_quiet_on)))));(refine zQN ?_;clear M;intro w4 M)
      (go_wp2_with (first|go_skip|((first|refine zBXo ?_|refine zALo (ztCp) ?_);clear M;intro w' g M)|refine zLAo ?_|refine zBDo 37 [] (fl (cpP cp0)) (by kernel_rfl) ?_|((first|refine zSSo M 3 (cpP cp0) (cpP cp0) (AaC _) (AaO _) ?_|refine zSSo M 2 (cpP cp0) (cpP cp0) (AaC _) (AaO _) ?_);clear M;intro w' M)));(try refine zsm ?_);refine bodyPost_ret (Aas (by rfl) _ M.o.at3 M.o.at2 (by rfl) (by rfl) rtCk rtCk rfl rfl) rfl ?_;exact⟨by rw[RN];rfl,M.o.ext⟩
    have c2:(y2.st==2)=false:=beq_eq_false_iff_ne.2 x2
    rw[decide_eq_true x1,decide_eq_true x2]at hcu
    clear x1 x2
    cases q1 with
    |false=>
     as_aux_lemma=>
      have RN:=CN.o (by rw[hcu];simp)
      clear hcu CY CN
      refine zRG ?_;(try simp only[List.append_eq,List.cons_append,List.nil_append]);((repeat(first|go_big_quiet_skip|(go_big_quiet_want;first|(first|((first|refine zQHo HI ?_|refine zQFo F1 ?_|refine zQFo F2 ?_);go_big_quiet_on;refine zNM ?_)|((with_reducible refine AbD ?_);first|((first|refine zQC (AaJ (clsE M.o EE1.o)) Tryz.func206 ?_|refine zQC (AaJ (clsE M.o EE2.o)) Tryz.func206 ?_|refine zQC (AaJ (clsE M.o EAN.o)) Tryz.func25 ?_|refine zQC (AaJ (clsE M.o EEP.o)) Tryz.func143 ?_|refine zQC (AaJ (clsE M.o EFT.o)) Tryz.func106 ?_);go_big_quiet_on;refine zNM ?_))|(refine zQAo ?_;go_big_quiet_on;refine zNM ?_))|(refine zQO ?_;go_big_quiet_on)))));(refine zQN ?_;clear M;intro w4 M)
      (go_wp2_with (first|go_skip|((first|refine zBXo ?_|refine zALo (ztCp) ?_);clear M;intro w' g M)|refine zLAo ?_|refine zBDo 37 [] (fl (cpP cp0)) (by kernel_rfl) ?_|((first|refine zSSo M 3 (cpP cp0) (cpP cp0) (AaC _) (AaO _) ?_|refine zSSo M 2 (cpP cp0) (cpP cp0) (AaC _) (AaO _) ?_);clear M;intro w' M)));(try refine zsm ?_);refine bodyPost_ret (Aas (by rfl) _ M.o.at3 M.o.at2 (by rfl) (by rfl) rtCk rtCk rfl rfl) rfl ?_;exact⟨by rw[RN];rfl,M.o.ext⟩
    |true=>
     cases q2 with
     |false=>
      as_aux_lemma=>
       have RN:=CN.o (by rw[hcu];simp)
       clear hcu CY CN
       refine zRG ?_;(try simp only[List.append_eq,List.cons_append,List.nil_append]);((repeat(first|go_big_quiet_skip|(go_big_quiet_want;first|(first|((first|refine zQHo HI ?_|refine zQFo F1 ?_|refine zQFo F2 ?_);go_big_quiet_on;refine zNM ?_)|((with_reducible refine AbD ?_);first|((first|refine zQC (AaJ (clsE M.o EE1.o)) Tryz.func206 ?_|refine zQC (AaJ (clsE M.o EE2.o)) Tryz.func206 ?_|refine zQC (AaJ (clsE M.o EAN.o)) Tryz.func25 ?_|refine zQC (AaJ (clsE M.o EEP.o)) Tryz.func143 ?_|refine zQC (AaJ (clsE M.o EFT.o)) Tryz.func106 ?_);go_big_quiet_on;refine zNM ?_))|(refine zQAo ?_;go_big_quiet_on;refine zNM ?_))|(refine zQO ?_;go_big_quiet_on)))));(refine zQN ?_;clear M;intro w4 M)
       (go_wp2_with (first|go_skip|((first|refine zBXo ?_|refine zALo (ztCp) ?_);clear M;intro w' g M)|refine zLAo ?_|refine zBDo 37 [] (fl (cpP cp0)) (by kernel_rfl) ?_|((first|refine zSSo M 3 (cpP cp0) (cpP cp0) (AaC _) (AaO _) ?_|refine zSSo M 2 (cpP cp0) (cpP cp0) (AaC _) (AaO _) ?_);clear M;intro w' M)));(try refine zsm ?_);refine bodyPost_ret (Aas (by rfl) _ M.o.at3 M.o.at2 (by rfl) (by rfl) rtCk rtCk rfl rfl) rfl ?_;exact⟨by rw[RN];rfl,M.o.ext⟩
     |true=>
      cases q3 with
      |false=>
       as_aux_lemma=>
        have RN:=CN.o (by rw[hcu];simp)
        clear hcu CY CN
        refine zRG ?_;(try simp only[List.append_eq,List.cons_append,List.nil_append]);((repeat(first|go_big_quiet_skip|(go_big_quiet_want;first|(first|((first|refine zQHo HI ?_|refine zQFo F1 ?_|refine zQFo F2 ?_);go_big_quiet_on;refine zNM ?_)|((with_reducible refine AbD ?_);first|((first|refine zQC (AaJ (clsE M.o EE1.o)) Tryz.func206 ?_|refine zQC (AaJ (clsE M.o EE2.o)) Tryz.func206 ?_|refine zQC (AaJ (clsE M.o EAN.o)) Tryz.func25 ?_|refine zQC (AaJ (clsE M.o EEP.o)) Tryz.func143 ?_|refine zQC (AaJ (clsE M.o EFT.o)) Tryz.func106 ?_);go_big_quiet_on;refine zNM ?_))|(refine zQAo ?_;go_big_quiet_on;refine zNM ?_))|(refine zQO ?_;go_big_quiet_on)))));(refine zQN ?_;clear M;intro w4 M)
        (go_wp2_with (first|go_skip|((first|refine zBXo ?_|refine zALo (ztCp) ?_);clear M;intro w' g M)|refine zLAo ?_|refine zBDo 37 [] (fl (cpP cp0)) (by kernel_rfl) ?_|((first|refine zSSo M 3 (cpP cp0) (cpP cp0) (AaC _) (AaO _) ?_|refine zSSo M 2 (cpP cp0) (cpP cp0) (AaC _) (AaO _) ?_);clear M;intro w' M)));(try refine zsm ?_);refine bodyPost_ret (Aas (by rfl) _ M.o.at3 M.o.at2 (by rfl) (by rfl) rtCk rtCk rfl rfl) rfl ?_;exact⟨by rw[RN];rfl,M.o.ext⟩
      |true=>
       by_cases x6:cb.e.n<=ca.e.n
       .have d6:¬(ca.e.n:Int)<(cb.e.n:Int):=by omega
        have d6':decide ((ca.e.n:Int)<(cb.e.n:Int))=false:=decide_eq_false d6
        have d6n:¬ca.e.n<cb.e.n:=by omega
        by_cases x7:ca.e.n<=en.n
        .have d7:¬(en.n:Int)<(ca.e.n:Int):=by omega
         have d7':decide ((en.n:Int)<(ca.e.n:Int))=false:=decide_eq_false d7
         have d7n:¬en.n<ca.e.n:=by omega
         by_cases x8:0<=ti
         .as_aux_lemma=>
           have d8:¬ti<0:=by omega
           have d8':decide (ti<0)=false:=decide_eq_false d8
           have RN:=CY.o (by rw[hcu];simp[x6,x7,x8])
           clear hcu CY CN x6 x7 x8
           refine zRG ?_;(try simp only[List.append_eq,List.cons_append,List.nil_append]);((repeat(first|go_big_quiet_skip|(go_big_quiet_want;first|(first|((first|refine zQHo HI ?_|refine zQFo F1 ?_|refine zQFo F2 ?_);go_big_quiet_on;refine zNM ?_)|((with_reducible refine AbD ?_);first|((first|refine zQC (AaJ (clsE M.o EE1.o)) Tryz.func206 ?_|refine zQC (AaJ (clsE M.o EE2.o)) Tryz.func206 ?_|refine zQC (AaJ (clsE M.o EAN.o)) Tryz.func25 ?_|refine zQC (AaJ (clsE M.o EEP.o)) Tryz.func143 ?_|refine zQC (AaJ (clsE M.o EFT.o)) Tryz.func106 ?_);go_big_quiet_on;refine zNM ?_))|(refine zQAo ?_;go_big_quiet_on;refine zNM ?_))|(refine zQO ?_;go_big_quiet_on)))));(refine zQN ?_;clear M;intro w4 M)
           go_wp2_with fail
           refine AaF (fun w'=>HL w' ga (cpP ca) [1,32]/\HL w' gb (cpP cb) [1,32]) (.steps [(0,0),(0,1),(3,2),(3,3),(1,4)] .leaf) (by kernel_rfl) (by kernel_rfl) ⟨M.o.drew.at1,M.o.drew.at0⟩ ?_;(simp only[MixT7,MT.steps,stepI,List.getD_cons_zero,List.getD_cons_succ]);replace M:=bx (M.o.drew)
           refine zNM ?_
           (repeat(first|refine zM0 ?_|(go_big_quiet_want;first|((first|((with_reducible apply AaM (fun _ h=>h.1) (AaC ca));rfl;rfl;exact zrts;rfl;rfl)|((with_reducible apply AaL (fun _ h=>h.1));rfl;rfl;exact zots;rfl;rfl)|((with_reducible apply AaI (fun _ h=>h.1) (AaC ca));rfl;rfl;exact zrts;rfl;refine zCT ?_)|((with_reducible apply AaM (fun _ h=>h.2) (AaC cb));rfl;rfl;exact zrts;rfl;rfl)|((with_reducible apply AaL (fun _ h=>h.2));rfl;rfl;exact zots;rfl;rfl)|((with_reducible apply AaI (fun _ h=>h.2) (AaC cb));rfl;rfl;exact zrts;rfl;refine zCT ?_));go_big_quiet_on;refine zNM ?_)|(refine zQO ?_;go_big_quiet_on))))
           refine zXS M 3 (cpP ca) (cpP ca) (AaC _) (AaO _) ?_;clear M;intro w7 M
           refine⟨⟨M.o.at1,M.o.at0⟩,?_⟩
           refine zXS M 2 (cpP cb) (cpP cb) (AaC _) (AaO _) ?_;clear M;intro w7 M
           refine⟨⟨M.o.at1,M.o.at0⟩,?_⟩
           refine zMR7 ?_
           refine NoPanic.normal ?_
           go_wp2_with fail
           (try refine zsm ?_);refine bodyPost_ret (Aas (by rfl) _ M.o.at3 M.o.at2 (by rfl) (by rfl) rtCk rtCk rfl rfl) rfl ?_
           exact⟨by rw[RN];rfl,M.o.ext⟩
         .as_aux_lemma=>
           have d8:ti<0:=by omega
           have d8':decide (ti<0)=true:=decide_eq_true d8
           have RN:=CN.o (by rw[hcu];simp[x8])
           clear hcu CY CN x6 x7 x8
           refine zRG ?_;(try simp only[List.append_eq,List.cons_append,List.nil_append]);((repeat(first|go_big_quiet_skip|(go_big_quiet_want;first|(first|((first|refine zQHo HI ?_|refine zQFo F1 ?_|refine zQFo F2 ?_);go_big_quiet_on;refine zNM ?_)|((with_reducible refine AbD ?_);first|((first|refine zQC (AaJ (clsE M.o EE1.o)) Tryz.func206 ?_|refine zQC (AaJ (clsE M.o EE2.o)) Tryz.func206 ?_|refine zQC (AaJ (clsE M.o EAN.o)) Tryz.func25 ?_|refine zQC (AaJ (clsE M.o EEP.o)) Tryz.func143 ?_|refine zQC (AaJ (clsE M.o EFT.o)) Tryz.func106 ?_);go_big_quiet_on;refine zNM ?_))|(refine zQAo ?_;go_big_quiet_on;refine zNM ?_))|(refine zQO ?_;go_big_quiet_on)))));(refine zQN ?_;clear M;intro w4 M)
           (go_wp2_with (first|go_skip|((first|refine zBXo ?_|refine zALo (ztCp) ?_);clear M;intro w' g M)|refine zLAo ?_|refine zBDo 37 [] (fl (cpP cp0)) (by kernel_rfl) ?_|((first|refine zSSo M 3 (cpP cp0) (cpP cp0) (AaC _) (AaO _) ?_|refine zSSo M 2 (cpP cp0) (cpP cp0) (AaC _) (AaO _) ?_);clear M;intro w' M)));(try refine zsm ?_);refine bodyPost_ret (Aas (by rfl) _ M.o.at3 M.o.at2 (by rfl) (by rfl) rtCk rtCk rfl rfl) rfl ?_;exact⟨by rw[RN];rfl,M.o.ext⟩
        .as_aux_lemma=>
          have d7:(en.n:Int)<(ca.e.n:Int):=by omega
          have d7':decide ((en.n:Int)<(ca.e.n:Int))=true:=decide_eq_true d7
          have d7n:en.n<ca.e.n:=by omega
          have RN:=CN.o (by rw[hcu];simp[x7])
          clear hcu CY CN x6 x7
          refine zRG ?_;(try simp only[List.append_eq,List.cons_append,List.nil_append]);((repeat(first|go_big_quiet_skip|(go_big_quiet_want;first|(first|((first|refine zQHo HI ?_|refine zQFo F1 ?_|refine zQFo F2 ?_);go_big_quiet_on;refine zNM ?_)|((with_reducible refine AbD ?_);first|((first|refine zQC (AaJ (clsE M.o EE1.o)) Tryz.func206 ?_|refine zQC (AaJ (clsE M.o EE2.o)) Tryz.func206 ?_|refine zQC (AaJ (clsE M.o EAN.o)) Tryz.func25 ?_|refine zQC (AaJ (clsE M.o EEP.o)) Tryz.func143 ?_|refine zQC (AaJ (clsE M.o EFT.o)) Tryz.func106 ?_);go_big_quiet_on;refine zNM ?_))|(refine zQAo ?_;go_big_quiet_on;refine zNM ?_))|(refine zQO ?_;go_big_quiet_on)))));(refine zQN ?_;clear M;intro w4 M)
          (go_wp2_with (first|go_skip|((first|refine zBXo ?_|refine zALo (ztCp) ?_);clear M;intro w' g M)|refine zLAo ?_|refine zBDo 37 [] (fl (cpP cp0)) (by kernel_rfl) ?_|((first|refine zSSo M 3 (cpP cp0) (cpP cp0) (AaC _) (AaO _) ?_|refine zSSo M 2 (cpP cp0) (cpP cp0) (AaC _) (AaO _) ?_);clear M;intro w' M)));(try refine zsm ?_);refine bodyPost_ret (Aas (by rfl) _ M.o.at3 M.o.at2 (by rfl) (by rfl) rtCk rtCk rfl rfl) rfl ?_;exact⟨by rw[RN];rfl,M.o.ext⟩
       .as_aux_lemma=>
         have d6:(ca.e.n:Int)<(cb.e.n:Int):=by omega
         have d6':decide ((ca.e.n:Int)<(cb.e.n:Int))=true:=decide_eq_true d6
         have d6n:ca.e.n<cb.e.n:=by omega
         have RN:=CN.o (by rw[hcu];simp[x6])
         clear hcu CY CN x6
         refine zRG ?_;(try simp only[List.append_eq,List.cons_append,List.nil_append]);((repeat(first|go_big_quiet_skip|(go_big_quiet_want;first|(first|((first|refine zQHo HI ?_|refine zQFo F1 ?_|refine zQFo F2 ?_);go_big_quiet_on;refine zNM ?_)|((with_reducible refine AbD ?_);first|((first|refine zQC (AaJ (clsE M.o EE1.o)) Tryz.func206 ?_|refine zQC (AaJ (clsE M.o EE2.o)) Tryz.func206 ?_|refine zQC (AaJ (clsE M.o EAN.o)) Tryz.func25 ?_|refine zQC (AaJ (clsE M.o EEP.o)) Tryz.func143 ?_|refine zQC (AaJ (clsE M.o EFT.o)) Tryz.func106 ?_);go_big_quiet_on;refine zNM ?_))|(refine zQAo ?_;go_big_quiet_on;refine zNM ?_))|(refine zQO ?_;go_big_quiet_on)))));(refine zQN ?_;clear M;intro w4 M)
         (go_wp2_with (first|go_skip|((first|refine zBXo ?_|refine zALo (ztCp) ?_);clear M;intro w' g M)|refine zLAo ?_|refine zBDo 37 [] (fl (cpP cp0)) (by kernel_rfl) ?_|((first|refine zSSo M 3 (cpP cp0) (cpP cp0) (AaC _) (AaO _) ?_|refine zSSo M 2 (cpP cp0) (cpP cp0) (AaC _) (AaO _) ?_);clear M;intro w' M)));(try refine zsm ?_);refine bodyPost_ret (Aas (by rfl) _ M.o.at3 M.o.at2 (by rfl) (by rfl) rtCk rtCk rfl rfl) rfl ?_;exact⟨by rw[RN];rfl,M.o.ext⟩
end Go.Proofs.YtpaihpeoiliioaaGreat
