/- Texts joined: what the walks of this claim stand on (part 21). -/
import Derived.Test.YtpaihpeoiliioaaGreatKK20
set_option linter.all false
set_option maxRecDepth 20000
set_option maxHeartbeats 40000000
namespace Go.Proofs.YtpaihpeoiliioaaGreat
open Go.RowKit Old
section
variable {Γ0 Γ:Gam}{w0 w:World}{L:List Ent}{R:List RowE}{Pg:Program}{ops:Array Oper}{rest:List Oper}{op:Oper}{a:Act}{Q:Exit->Act->World->Prop}
theorem AgW{t e:TypeId}{size bytes:Nat}(M:MM Γ0 w0 Γ w L R)(el:ElT Pg t e size bytes){P:List (List Value)}{ls:List Nat}{x:Operand}{v:Value}(ho:op.op=.buildSlice t 1 #[(0,x)])(hgd:op.guard=none)(hx:a.eval x=v)(hv:v.cells=(fl P).toArray)(hl:P.map List.length=ls)(hs:ls.sum=size)
  (h:∀w' A c,MM Γ0 w0 Γ w' L (⟨.slice A 1 c,e,size,1,fl P⟩::R)->wpList Pg ops Q rest (a.put op.dst (.slice A 1 c)) w'):wpList Pg ops Q (op::rest) a w:=
 wpList_plain hgd fun K hK=>by
  have hlen:(fl P).length=size:=by rw[AbE hl,hs]
  unfold Oper.wp
  rw[Aau el ho hx hv hlen,Oper.upon_value]
  exact hK _ _ (h _ _ _ (M.rowNew (ext_alloc _ _) ⟨by rw[hlen,Nat.one_mul],.inr ⟨w.heap.size,1,(fl P).toArray,rfl,Nat.le_refl _,heap_alloc_new w _,Nat.le_refl _,by unfold maxLen;omega,by simp[hlen],by rw[Nat.one_mul];show(fl P).take size=fl P;rw[<-hlen];exact List.take_length⟩⟩))
end
theorem elRt:ElT Tryz.prog 189 29 32 32:=Abr Tryz.underlying189 (by kernel_rfl) (by decide) (by decide)
def BlkE(Γ:Gam)(w:World)(er:Int)(s':Sto)(l:List Rt)(e:Ending)(w':World):Prop:=∃(v':Sls) (A:Option Addr) (c:Nat) (Γ':Gam),e=.returned (.tuple #[.agg (fl (stP s' v')).toArray,.slice A l.length c,.int .i64 er])/\StG Γ' v' s'/\CapOk A l.length c/\SlG Γ' A l.length (l.flatMap rc)/\Ext Γ w Γ' w'
def BlkP(Γ:Gam)(w:World)(k:Nat)(s:Sto)(e:Ending)(w':World):Prop:=∃(er:Int) (s':Sto) (l:List Rt),BlkE Γ w er s' l e w'/\(er=0->SI k s'/\l.length<=9/\s'.now=s.now)/\er≠21
theorem BlkP.err{Γ Γ':Gam}{w w':World}{k:Nat}{s:Sto}{er:Int}(he:er≠0/\er≠21)(hx:Ext Γ w Γ' w'):BlkP Γ w k s (.returned (.tuple #[.agg (fl (stP st0 x0)).toArray,.slice none 0 0,.int .i64 er])) w':=
 ⟨er,st0,[],⟨x0,none,0,Γ',rfl,stG0 _,⟨Nat.le_refl _,Nat.zero_le _,fun _=>rfl⟩,fun h=>absurd h (Nat.lt_irrefl _),hx⟩,fun h=>absurd h he.1,he.2⟩
theorem SI.boost{k:Nat}{s:Sto}(h:SI k s)(r:Rt):SI k {s with boost:=r}:={h with spe:=⟨h.spe.1,h.spe.2⟩}
theorem SI.orphs{k:Nat}{s:Sto}(h:SI k s){l:List Blk}(hl:(l.length:Int)<=s.c.ol)(hr:∀b∈l,RtOk b.root):SI k {s with orph:=l}:={h with spe:=⟨h.spe.1,h.spe.2⟩,ol:=⟨hl,h.ol.2⟩,rto:=hr}
theorem Aq6{Γ:Gam}{T:List Blk}{k n c:Nat}{A:Option Addr}(hn:n=T.length)(hk:k<T.length)(h1:CapOk A (k+(n-(k+1))) c)(h2:SlG Γ A (k+(n-(k+1))) ((T.flatMap blx).take (k*238)++(T.flatMap blx).drop ((k+1)*238))) :
  SlR Γ ⟨A,k+(n-(k+1)),c⟩ (T.take k++T.drop (k+1)).length ((T.take k++T.drop (k+1)).flatMap blx):=by
 refine⟨by simp[hn];omega,h1,?_⟩
 rw[AeU T (fun x _=>Aea x),Afq T (fun x _=>Aea x)]at h2
 rw[List.flatMap_append];exact h2
theorem AnO{Γ:Gam}{T:List Blk}{q:Blk}{A:Option Addr}{n c:Nat}(hn:n=T.length)(h1:CapOk A (n+1) c)(h2:SlG Γ A (n+1) (T.flatMap blx++fl (blP q))):SlR Γ ⟨A,n+1,c⟩ (T ++ [q]).length ((T ++ [q]).flatMap blx):=by
 refine⟨by simp[hn],h1,?_⟩
 have e:(T ++ [q]).flatMap blx=T.flatMap blx++fl (blP q):=by simp
 rw[e];exact h2
theorem Akp(s:Sto):s.wait = -1\/∃i:Nat,i<s.orph.length/\s.wait=(i:Int):=by
 rcases Aay (fun b:Blk=>decide (0<=fndI s.nodes b.parent)) s.orph with⟨h,_⟩|⟨i,hi,h,_⟩
 .exact .inl h
 .exact .inr ⟨i,hi,h⟩
theorem AiQ{k:Nat}(Γ:Gam)(s:Sto)(v:Sls)(b:Blk)(hs:SI k s)(hc:ChkOk s b)(w:World)(ok:Ok Γ w)(h:StG Γ v s) :
  Calls Tryz.prog 164 #[.agg (fl (stP s v)).toArray,.agg (blx b).toArray] w (StP Γ w (insS s b)):=by
 have h1:=hs.nl;have h2:=hs.ol;have h3:=hs.tl
 obtain⟨u,hu,e,t1⟩:=Aja hs.t hc (by omega)
 exact insert_any Γ s v b _ hs.spe e t1 (by omega) (by simp;omega) (by omega) (by omega) w ok h
theorem Aik{k:Nat}(Γ:Gam)(s:Sto)(v:Sls)(b:Blk)(hs:SI k s)(w:World)(ok:Ok Γ w)(h:StG Γ v s) :
  Calls Tryz.prog 163 #[.agg (fl (stP s v)).toArray,.agg (blx b).toArray] w (ChbP Γ w s b):=by
 have h1:=hs.nl;have h2:=hs.ol
 exact AgP Γ s v b hs.spe hs.t.lk (by omega) (by omega) w ok h
def orphN(w:World)(g:Nat):Nat:=match w.cell? ⟨g,114,none⟩with|some (.slice _ n _)=>n|_=>0
theorem AhF{w:World}{g:Nat}{s:Sto}{v:Sls}(h:HL w g (stP s v) stL):orphN w g=v.orph.n:=by
 have:=h.cell1 (o:=114) (k:=18) (v:=v.orph.v) rfl rfl
 unfold orphN
 rw[this]
theorem AnN{k:Nat}(Γ:Gam)(s:Sto)(v:Sls)(b:Blk)(hs:SI k s)(hbr:RtOk b.root)(w:World)(ok:Ok Γ w)(h:StG Γ v s) :
  Calls Tryz.prog 128 #[.agg (fl (stP s v)).toArray,.agg (blx b).toArray] w (BlkP Γ w k s):=by
 have M:=bx (MM.start ok)
 have HG:=bx h
 have HSI:=bx hs
 have HBR:=bx hbr
 have LN:=bx h.orph.n
 have hol:=hs.ol
 have hvn:v.orph.n<=30000:=by have:=h.orph.n;omega
 have ROW:Bx (∀{Γ':Gam} w',Ok Γ' w'->Le Γ Γ'->Row w' w'.heap.size 238 v.orph.A v.orph.n (s.orph.flatMap blx)):=⟨fun w' o hle=>(h.orph.sl.mono hle).row (size:=238) (by rw[Aah s.orph (fun x _=>Aea x),h.orph.n]) o⟩
 have CAP:=bx h.orph.cap.nil
 have OneX:Bx (One (s.orph.flatMap blx)):=⟨AbM fun x _=>Acf x⟩
 have CB:=bx (fun w ok=>Aik Γ s v b hs w ok h)
 have HOL:=bx hol
 clear ok h hs hol
 go_enter Tryz.func128,Tryz.ntmps128
 (go_wp2_with (first|((first|refine zBXd ?_|refine zALd (ztSt) ?_);clear M;intro w' g M)|refine zLAd ?_))
 refine(CB.o _ M.ok).mono ?_
 rintro e1 w1 ⟨er,rfl,hok,hx1⟩
 replace M:=bx (M.o.call hx1)
 have HC:=bx hok
 clear hok hx1 CB
 by_cases h10:er=10
 .have b1:(er==10)=true:=by rw[h10];rfl
  by_cases hf:s.c.ol<=(v.orph.n:Int)
  .have HE:Bx ((11:Int)≠0/\(11:Int)≠21):=⟨by decide⟩
   clear h10 HC
   (go_wp2_with (first|(refine zSSd M 0 (stP st0 x0) (stP st0 x0) (AaD _ _) (Aaa _ _) ?_;clear M;intro w' M)|refine zLAd ?_|refine zBDd 49 [] (fl (stP st0 x0)) (by kernel_rfl) ?_))
   ((try refine zsm ?_);exact bodyPost_ret (Aaz (by rfl) _ M.o.at0 (by rfl) rtSt rfl) rfl (BlkP.err HE.o M.o.ext))
  .have HS1:Bx (SI k {s with orph:=s.orph ++ [{b with timely:=false}]}):=⟨HSI.o.orphs (by have:=HOL.o;have:=LN.o;simp;omega) (fun q hq=>(List.mem_append.1 hq).elim (HSI.o.rto q) fun hq=>by rw[List.mem_singleton.1 hq];exact HBR.o)⟩
   clear h10 HC
   (go_wp2_with (first|(refine zS1d M 1 (.bool false) (blP {b with timely:=false}) ?_;clear M;intro w' M)|refine zLAd ?_))
   refine AaB [6,9] (.steps [(1,0),(1,1),(0,2),(0,4)] (.fork 3 (.steps [(2,5),(3,6),(1,7),(1,8),(3,9)] .leaf) 5 (.steps [(2,3),(3,6),(1,7),(1,8),(3,9)] .leaf))) (by kernel_rfl) (by kernel_rfl) ?_;(simp only[MixT6,MT.steps,stepAt,List.getD_cons_zero,List.getD_cons_succ]);replace M:=bx (M.o.drew)
   refine zNM ?_
   refine zMRd ?_
   refine⟨?_,?_⟩
   focus
    (obtain⟨A1,c1,w1,hr,hM,hb⟩:=Aal elBl M.o 41 v.orph.A v.orph.n v.orph.c _ (ROW.o _ M.ok M.o.ext.le) CAP.o OneX.o (by unfold maxLen;omega) (by omega));refine AaA (AaE rfl rfl rfl hr) rfl ?_;refine⟨hb,?_⟩;clear M;have M:=bx hM;clear hM hr hb;refine zNM ?_
    refine AaA (Aau elBl rfl rfl (v:=.agg (fl (blP {b with timely:=false})).toArray) (cs:=fl (blP {b with timely:=false})) rfl (Aea _)) rfl ?_;refine⟨ext_alloc _ _,?_⟩;replace M:=bx (M.o.alloc (P:=(blP {b with timely:=false})) (AaZ _) rfl 78);refine zNM ?_
   rotate_left
   focus
    refine AaA (Aau elBl rfl rfl (v:=.agg (fl (blP {b with timely:=false})).toArray) (cs:=fl (blP {b with timely:=false})) rfl (Aea _)) rfl ?_;refine⟨ext_alloc _ _,?_⟩;replace M:=bx (M.o.alloc (P:=(blP {b with timely:=false})) (AaZ _) rfl 78);refine zNM ?_
    (obtain⟨A1,c1,w1,hr,hM,hb⟩:=Aal elBl M.o 41 v.orph.A v.orph.n v.orph.c _ (ROW.o _ M.ok M.o.ext.le) CAP.o OneX.o (by unfold maxLen;omega) (by omega));refine AaA (AaE rfl rfl rfl hr) rfl ?_;refine⟨hb,?_⟩;clear M;have M:=bx hM;clear hM hr hb;refine zNM ?_
   all_goals
    (obtain⟨v5,w5,hr,hM⟩:=AaW elBl M.o 41 _ 1 1 _ (Aaf M.o.at0 (m:=1) rfl) (fun h=>by cases h) (Acf _) (by unfold maxLen;omega) (by omega));refine AaA (AaE rfl rfl rfl hr) rfl ?_;replace M:=bx (hM.tail);clear hr hM;refine zNM ?_;refine zMRd ?_;(obtain⟨A6,c6,e6⟩:=own_slice (M.o.rows _ (List.mem_cons_self ..));simp only at e6;subst e6);refine Aa6 M.o 2 (.slice A6 (v.orph.n+1) c6) (stP {s with orph:=s.orph ++ [{b with timely:=false}]} {v with orph:=⟨A6,v.orph.n+1,c6⟩}) rfl rfl rfl rfl Anw rfl rfl rfl rfl rfl rfl ?_;intro w7 M';(simp only[List.set_cons_zero,List.set_cons_succ]at M');(replace M:=bx M';clear M');refine zNM ?_;refine zMRd ?_;refine NoPanic.normal ?_;(go_wp2_with (first|(refine zSSd M 0 (stP {s with orph:=s.orph ++ [{b with timely:=false}]} {v with orph:=⟨A6,v.orph.n+1,c6⟩}) (stP {s with orph:=s.orph ++ [{b with timely:=false}]} {v with orph:=⟨A6,v.orph.n+1,c6⟩}) (AaD _ _) (Aaa _ _) ?_;clear M;intro w' M)|refine zLAd ?_));obtain⟨Γ',h1,h2,h3,h4⟩:=M.o.frz;(try refine zsm ?_);refine bodyPost_ret (Aaz (by rfl) _ h4.at0 (by rfl) rtSt rfl) rfl ?_;exact⟨0,_,[],⟨_,none,0,Γ',rfl,{HG.o.mono h4.ext.le with orph:=AnO LN.o h1 h2},⟨Nat.le_refl _,Nat.zero_le _,fun _=>rfl⟩,fun h=>absurd h (Nat.lt_irrefl _),h4.ext⟩,fun _=>⟨HS1.o,Nat.zero_le _,rfl⟩,by decide⟩
 .have b1:(er==10)=false:=beq_eq_false_iff_ne.2 h10
  by_cases h0:er=0
  .subst h0
   have HC':=bx (HC.o.1 rfl)
   clear HC h10
   have HS2:=bx (Ao2 HSI.o HC'.o HBR.o)
   have HN2:=bx (AmU HSI.o.t HC'.o (by have:=HSI.o.nl;omega))
   have IN:=bx (fun w ok=>AiQ Γ s v b HSI.o HC'.o w ok HG.o)
   clear HC' ROW CAP OneX LN
   generalize insS s b=s2 at *
   rename_i gs _ gb _ _ _ _
   go_upto_region 10 with fail
   go_cut [8]from 12 (fun s8 wx=>∃bb:Bool,s8=.bool bb/\MM Γ w Γ wx [⟨g,stP st0 x0,stL⟩,⟨gb,blP b,blL⟩,⟨gs,stP s v,stL⟩] [])
   case first=>
    cases ht:b.timely with
    |false=>
     have HT:Bx (Value.bool b.timely=.bool false):=⟨by rw[ht]⟩
     clear ht
     (go_wp2_with (first|go_skip|refine zLHd HT ?_))
     go_meet
     case rel=>exact⟨_,rfl,M.o⟩
    |true=>
     have HT:Bx (Value.bool b.timely=.bool true):=⟨by rw[ht]⟩
     clear ht
     by_cases hn:b.slot.n=s.now.n
     .have b3:((b.slot.n:Int)==(s.now.n:Int))=true:=by simp[hn]
      have hq:=Aa5 s.boost r0
      by_cases hz:s.boost=r0
      .rw[decide_eq_true hz]at hq
       clear hn hz
       (go_wp2_with (first|refine zLHd HT ?_|refine zLAd ?_|refine zBDd 29 [] (rc r0) (by kernel_rfl) ?_))
       go_meet
       case rel=>exact⟨_,rfl,M.o⟩
      .rw[decide_eq_false hz]at hq
       clear hn hz
       (go_wp2_with (first|refine zLHd HT ?_|refine zLAd ?_|refine zBDd 29 [] (rc r0) (by kernel_rfl) ?_))
       go_meet
       case rel=>exact⟨_,rfl,M.o⟩
     .have b3:((b.slot.n:Int)==(s.now.n:Int))=false:=beq_eq_false_iff_ne.2 (by omega)
      clear hn
      (go_wp2_with (first|go_skip|refine zLHd HT ?_|refine zLAd ?_))
      go_meet
      case rel=>exact⟨_,rfl,M.o⟩
   case rest=>
    obtain⟨bb,rfl,hM⟩:=hcut
    clear M
    have M:=bx hM
    clear hM
    (go_wp2_with (refine zLAd ?_))
    refine(IN.o _ M.ok).mono ?_
    rintro e2 w2 ⟨v2,Γ2,rfl,hg2,hx2⟩
    replace M:=bx (M.o.call hx2)
    have HG2:=bx hg2
    clear hg2 hx2 IN
    go_upto_if 60 with(refine zSSd M 2 (stP s2 v2) (stP s2 v2) (AaD _ _) (Aaa _ _) ?_;clear M;intro w' M)
    go_cut []from 12 (fun wx=>∃s3,(SI k s3/\s3.now=s.now/\s3.orph.length<=8/\StG Γ2 v2 s3)/\MM Γ w Γ2 wx [⟨g,stP st0 x0,stL⟩,⟨gb,blP b,blL⟩,⟨gs,stP s3 v2,stL⟩] [])
    case first=>
     have K2:=bx (fun r=>(show SI k {s2 with boost:=r}/\s2.now=s.now/\s2.orph.length<=8/\StG Γ2 v2 {s2 with boost:=r}from⟨HS2.o.boost r,HN2.o.1,by have:=HN2.o.2.1;have:=HOL.o;omega,⟨HG2.o.bal,HG2.o.lat,HG2.o.eqv,HG2.o.early,HG2.o.orph,HG2.o.nodes,HG2.o.tabs⟩⟩))
     cases bb with
     |true=>
      (go_wp2_with (first|(refine zSSd M 2 [rc b.root] (stP {s2 with boost:=b.root} v2) (lenR _) (Aac _) ?_;clear M;intro w' M)|refine zLAd ?_))
      go_meet
      case rel=>exact⟨{s2 with boost:=b.root},K2.o _,M.o⟩
     |false=>
      (go_wp2_with (fail))
      go_meet
      case rel=>exact⟨s2,K2.o s2.boost,M.o⟩
    case rest=>
     clear M HS2 HN2 HG2
     obtain⟨s3,⟨k1,k2,k3,k4⟩,hM⟩:=hcut
     have M:=bx hM
     have K1:=bx k1
     have K2:=bx k2
     have K3:=bx k3
     have K4:=bx k4
     clear hM k1 k2 k3 k4
     (go_wp2_with (first|((with_reducible apply AgW M.o elRt (P:=[rc b.root]) (ls:=[32]));rfl;rfl;rfl;rfl;exact lenR _;rfl;intro w' A c M';(replace M:=bx M';clear M'))|refine zLAd ?_))
     refine zCA M (Ad6 Γ2 s3 v2 _ M.ok K4.o (Nat.le_trans K3.o (by omega))) ?_;clear M;intro w1 M
     (go_wp2_with (fail))
     go_loopw [9,10] (fun s9 s10 wr=>∃(sk:Sto) (vk:Sls) (Γk:Gam) (l:List Rt) (A:Option Addr) (c:Nat),(SI k sk/\sk.now=s.now/\l.length+sk.orph.length<=9/\StG Γk vk sk)/\s9=.slice A l.length c/\s10=.int .i64 sk.wait /\
      MM Γ w Γk wr [⟨g,stP st0 x0,stL⟩,⟨gb,blP b,blL⟩,⟨gs,stP sk vk,stL⟩] [⟨.slice A l.length c,29,32,l.length,l.flatMap rc⟩]) (fun _ _ wr=>orphN wr gs)
     case atStart=>exact⟨s3,v2,Γ2,[b.root],A,c,⟨K1.o,K2.o,by have:=K3.o;simp;omega,K4.o⟩,rfl,rfl,by simpa [fl]using M.o⟩
     case round=>
      obtain⟨sk,vk,Γk,l,A,c,⟨k1,k2,k3,k4⟩,e9,e10,hM⟩:=hrel
      clear M K1 K2 K3 K4
      have M:=bx hM
      have K1:=bx k1
      have K2:=bx k2
      have K3:=bx k3
      have K4:=bx k4
      have HMU:=bx (AhF hM.at2)
      clear hM k1 k2 k3 k4
      rcases Akp sk with hw|⟨i,hi,hw⟩
      .rw[hw]at e10
       subst e9 e10
       clear hw
       (go_wp2_with (first|(refine zSSd M 0 (stP sk vk) (stP sk vk) (AaD _ _) (Aaa _ _) ?_;clear M;intro w' M)|refine zLAd ?_))
       obtain⟨Γ',h1,h2,h3,h4⟩:=M.o.frz
       (try refine zsm ?_);refine bodyPost_ret (Aaz (by rfl) _ h4.at0 (by rfl) rtSt rfl) rfl ?_
       exact⟨0,sk,l,⟨vk,A,c,Γ',rfl,K4.o.mono h3,h1,h2,h4.ext⟩,fun _=>⟨K1.o,by have:=K3.o;omega,K2.o⟩,by decide⟩
      .rw[hw]at e10
       subst e9 e10
       clear hw
       obtain⟨gn,hA,hf⟩:=K4.o.orphAt i hi
       have HA:=bx hA
       have F1:=bx hf
       have LN:=bx K4.o.orph.n
       have HI:=bx hi
       have HYR:=bx (K1.o.rto _ (List.getElem_mem hi))
       have ROW2:Bx (∀{Γ':Gam} w',Ok Γ' w'->Le Γk Γ'->Row w' w'.heap.size 238 (some ⟨gn,0,none⟩) vk.orph.n (sk.orph.flatMap blx)):=⟨fun w' o hle=>by
        have e:vk.orph.A=some ⟨gn,0,none⟩:=by injection hA
        rw[<-e]
        exact(K4.o.orph.sl.mono hle).row (size:=238) (by rw[Aah sk.orph (fun x _=>Aea x),K4.o.orph.n]) o⟩
       have HCAP2:Bx (CapOk (some ⟨gn,0,none⟩) vk.orph.n vk.orph.c):=⟨by
        have e:vk.orph.A=some ⟨gn,0,none⟩:=by injection hA
        rw[<-e]
        exact K4.o.orph.cap⟩
       have HO:Bx (∀k,One ((sk.orph.flatMap blx).take (k*238))):=⟨fun k u hu=>AbM (fun x _=>Acf x) u (List.mem_of_mem_take hu)⟩
       have HO2:Bx (∀k,One ((sk.orph.flatMap blx).drop (k*238))):=⟨fun k u hu=>AbM (fun x _=>Acf x) u (List.mem_of_mem_drop hu)⟩
       have hki:(i:Int)<(vk.orph.n:Int):=by rw[LN.o];omega
       have hk0:0<=(i:Int):=by omega
       have hkl:i+1<=vk.orph.n:=by rw[LN.o];omega
       have hcl:=HCAP2.o.le
       have hrn:vk.orph.n<=30000:=by have:=K3.o;rw[LN.o];omega
       clear hA hf
       generalize sk.orph[i]=y at *
       (go_wp2_with (first|(refine zALd (ztBl) ?_;clear M;intro w' g M)|refine zLHd HA ?_|refine zRFd F1 ?_|(refine zSSd M 0 (blP y) (blP y) (AaZ _) (Acf _) ?_;clear M;intro w' M)))
       refine AaB [12,15] (.steps [(1,0),(1,1),(0,2),(1,3),(1,4),(1,6),(1,7),(0,8),(1,9),(1,10),(1,11),(2,5),(3,12),(1,13),(1,14),(3,15)] .leaf) (by kernel_rfl) (by kernel_rfl) ?_;(simp only[MixT6,MT.steps,stepAt,List.getD_cons_zero,List.getD_cons_succ]);replace M:=bx (M.o.drew)
       refine zNM ?_
       (repeat(first|refine zM0 ?_|(go_big_quiet_want;first|((first|refine zQHd HA ?_|((refine Acu elBl rfl rfl rfl ?_ ?_);omega)|((refine Acs elBl (k:=i+1) rfl rfl rfl ?_ ?_);omega));go_big_quiet_on;refine zNM ?_)|(refine zQO ?_;go_big_quiet_on))))
       (obtain⟨A1,c1,w1,hr,hM,hb⟩:=Aal elBl M.o 41 (some ⟨gn,0,none⟩) i vk.orph.c _ ((ROW2.o _ M.ok (Le.refl _)).take (size:=238) (show i<=vk.orph.n by omega)) HCAP2.o.nil (HO.o _) (by unfold maxLen;omega) (by omega));refine AaA (AaE rfl rfl rfl hr) rfl ?_;refine⟨hb,?_⟩;clear M;have M:=bx hM;clear hM hr hb;refine zNM ?_
       (obtain⟨v6,w6,hr,hM⟩:=AaW elBl M.o 41 (cutA (some ⟨gn,0,none⟩) vk.orph.c (i+1) 238) (vk.orph.n-(i+1)) (vk.orph.c-(i+1)) _ ((ROW2.o _ M.ok (Le.refl _)).cut (size:=238) hkl HCAP2.o.le) (AcA HCAP2.o) (HO2.o _) (by unfold maxLen;omega) (by omega));refine AaA (AaE rfl rfl rfl hr) rfl ?_;replace M:=bx (hM);clear hr hM;refine zNM ?_
       refine zMRd ?_
       (obtain⟨A6,c6,e6⟩:=own_slice (M.o.rows _ (List.mem_cons_self ..));simp only at e6;subst e6)
       refine Aa6 M.o 3 (.slice A6 (i+(vk.orph.n-(i+1))) c6) (stP {sk with orph:=sk.orph.take i++sk.orph.drop (i+1)} {vk with orph:=⟨A6,i+(vk.orph.n-(i+1)),c6⟩}) rfl rfl rfl rfl Anw rfl rfl rfl rfl rfl rfl ?_
       intro w7 M'
       simp only[List.set_cons_zero,List.set_cons_succ]at M'
       (replace M:=bx M';clear M')
       refine zNM ?_
       refine zMRd ?_
       refine NoPanic.normal ?_
       obtain⟨Γd,h1,h2,h3,h4⟩:=M.o.frz
       obtain⟨sd,vd,d1,d2,d3,d4,d5,hM5⟩:∃sd vd,SI k sd/\sd.now=s.now/\l.length+1+sd.orph.length<=9/\sd.orph.length<sk.orph.length/\StG Γd vd sd/\MM Γ w Γd _ [⟨_,blP y,blL⟩,⟨_,stP st0 x0,stL⟩,⟨_,blP b,blL⟩,⟨gs,stP sd vd,stL⟩] [⟨.slice A l.length c,29,32,l.length,l.flatMap rc⟩]:=
        ⟨{sk with orph:=sk.orph.take i++sk.orph.drop (i+1)},{vk with orph:=⟨A6,i+(vk.orph.n-(i+1)),c6⟩},K1.o.orphs (by have:=K1.o.ol;have:=HI.o;simp;omega) (fun q hq=>K1.o.rto q ((List.mem_append.1 hq).elim List.mem_of_mem_take List.mem_of_mem_drop)),K2.o,by have:=K3.o;have:=HI.o;simp;omega,by have:=HI.o;simp;omega,{K4.o.mono h3 with orph:=Aq6 LN.o HI.o h1 h2},h4⟩
       have D1:=bx d1
       have D2:=bx d2
       have D3:=bx d3
       have D4:=bx d4
       have D5:=bx d5
       clear M
       have M:=bx hM5
       clear h1 h2 h3 h4 d1 d2 d3 d4 d5 hM5 HO HO2 ROW2 HCAP2 F1 HA HI K1 K2 K3
       (go_wp2_with (refine zLAd ?_))
       refine(Aik Γd sd vd y D1.o _ M.ok D5.o).mono ?_
       rintro e5 w5 ⟨er,rfl,hok,hx5⟩
       replace M:=bx (M.o.call hx5)
       have HC5:=bx hok
       clear hok hx5
       by_cases h5:er=0
       .have b5:(er==0)=true:=by rw[h5];rfl
        have HC6:=bx (HC5.o.1 h5)
        have IS:=bx (Ao2 D1.o HC6.o HYR.o)
        have IN:=bx (AmU D1.o.t HC6.o (by have:=D1.o.nl;omega))
        have IC:=bx (fun w ok=>AiQ Γd sd vd y D1.o HC6.o w ok D5.o)
        clear HC5 HC6 h5
        generalize insS sd y=s6 at *
        (go_wp2_with (refine zLAd ?_))
        refine(IC.o _ M.ok).mono ?_
        rintro e6 w6 ⟨v6,Γ6,rfl,hg6,hx6⟩
        replace M:=bx (M.o.call hx6)
        have HG6:=bx hg6
        clear hg6 hx6 IC
        have hl9:l.length<=9:=by have:=D3.o;omega
        (go_wp2_with (first|(refine zSSd M 3 (stP s6 v6) (stP s6 v6) (AaD _ _) (Aaa _ _) ?_;clear M;intro w' M)|((with_reducible apply AbP M.o elRt (P:=[rc y.root]) (ls:=[32]));rfl;rfl;rfl;rfl;exact lenR _;rfl;intro w' g M' hb';(replace M:=bx M';clear M');clear hb')|(at_builtin;(with_reducible apply AaU M.o elRt);rfl;exact Aac _;(unfold maxLen;omega);omega;rfl;rfl;rfl;rfl;intro A' c' w' M';(replace M:=bx M';clear M'))|refine zLAd ?_))
        refine zCA M (Ad6 Γ6 s6 v6 _ M.ok HG6.o (by have:=IN.o.2.1;have:=D3.o;omega)) ?_;clear M;intro w1 M
        (go_wp2_with (fail))
        go_roundw
        case rel=>exact⟨s6,v6,Γ6,l ++ [y.root],A',c',⟨IS.o,IN.o.1.trans D2.o,by have:=IN.o.2.1;have:=D3.o;simp;omega,HG6.o⟩,by simp,rfl,by
         have:=M.o.tail
         simpa [fl]using this⟩
        case measure=>
         rw[HMU.o,AhF M.o.at3,HG6.o.orph.n,LN.o]
         have:=IN.o.2.1;have:=D4.o;omega
       .have b5:(er==0)=false:=beq_eq_false_iff_ne.2 h5
        clear HC5 h5
        (go_wp2_with (refine zLAd ?_))
        refine zCA M (Ad6 Γd sd vd _ M.ok D5.o (by have:=D3.o;omega)) ?_;clear M;intro w1 M
        (go_wp2_with (fail))
        go_roundw
        case rel=>exact⟨sd,vd,Γd,l,A,c,⟨D1.o,D2.o,by have:=D3.o;omega,D5.o⟩,rfl,rfl,M.o.tail⟩
        case measure=>
         rw[HMU.o,AhF M.o.at3,D5.o.orph.n,LN.o]
         exact D4.o
  .have b2:(er != 0)=true:=by simp[h0]
   have HE:=bx (And.intro h0 HC.o.2)
   clear HC h0 h10
   (go_wp2_with (first|(refine zSSd M 0 (stP st0 x0) (stP st0 x0) (AaD _ _) (Aaa _ _) ?_;clear M;intro w' M)|refine zLAd ?_|refine zBDd 49 [] (fl (stP st0 x0)) (by kernel_rfl) ?_))
   ((try refine zsm ?_);exact bodyPost_ret (Aaz (by rfl) _ M.o.at0 (by rfl) rtSt rfl) rfl (BlkP.err HE.o M.o.ext))
end Go.Proofs.YtpaihpeoiliioaaGreat
