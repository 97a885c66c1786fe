/- Texts joined: what the walks of this claim stand on (part 13). -/
import Derived.Test.YtpaihpeoiliioaaGreatKK7
import Derived.Test.YtpaihpeoiliioaaGreatKK12
set_option linter.all false
set_option maxRecDepth 20000
set_option maxHeartbeats 40000000
namespace Go.Proofs.YtpaihpeoiliioaaGreat
open Go.RowKit Old
theorem ApI(l:List U):us l=l.flatMap fun u=>[.int .u64 (u.n:Int)]:=by
 induction l with
 |nil=>rfl
 |cons a t ih=>rw[List.flatMap_cons,<-ih];rfl
theorem Aoj(l:List Bool):bls l=l.flatMap fun u=>[.bool u]:=by
 induction l with
 |nil=>rfl
 |cons a t ih=>rw[List.flatMap_cons,<-ih];rfl
theorem Agd{Γ:Gam}{A:Option Addr}{l:List U}(h:SlG Γ A l.length (us l))(i:Nat)(hi:i<l.length):∃g,A=some ⟨g,0,none⟩/\Chk Γ g i (fl [[.int .u64 (l[i].n:Int)]]):=by
 rw[ApI]at h
 obtain⟨g,h1,h2⟩:=h.at (k:=1) (fun x _=>rfl) rfl i hi
 exact⟨g,h1,by rw[Nat.mul_one]at h2;exact h2⟩
theorem AnM{Γ:Gam}{A:Option Addr}{l:List Bool}(h:SlG Γ A l.length (bls l))(i:Nat)(hi:i<l.length):∃g,A=some ⟨g,0,none⟩/\Chk Γ g i (fl [[.bool l[i]]]):=by
 rw[Aoj]at h
 obtain⟨g,h1,h2⟩:=h.at (k:=1) (fun x _=>rfl) rfl i hi
 exact⟨g,h1,by rw[Nat.mul_one]at h2;exact h2⟩
def betB(N:List Nod)(W:List U)(L:List Bool)(b:Int)(c:Nat):Int:=
 if L.getD c false=true/\(b<0\/(W.getD b.toNat u0).n<(W.getD c u0).n\/((W.getD c u0).n=(W.getD b.toNat u0).n/\0<cmpRt (N.getD c n0).b.root (N.getD b.toNat n0).b.root))then(c:Int)else b
def bestK(N:List Nod)(W:List U)(L:List Bool)(l:List Nat):Int:=l.foldl (betB N W L) (-1)
def bestI(N:List Nod)(W:List U)(L:List Bool)(i:Int):Int:=bestK N W L (kids N i)
theorem AgD(N:List Nod)(W:List U)(L:List Bool)(l:List Nat):bestK N W L l = -1\/∃k∈l,bestK N W L l=(k:Int):=by
 have key:∀(l:List Nat) (b:Int),l.foldl (betB N W L) b=b\/∃k∈l,l.foldl (betB N W L) b=(k:Int):=by
  intro l
  induction l with
  |nil=>intro b;exact .inl rfl
  |cons a t ih=>
   intro b
   rcases ih (betB N W L b a)with h|⟨k,hk,h⟩
   .by_cases hc:betB N W L b a=b
    .left;simp only[List.foldl_cons];rw[h,hc]
    .right
     refine⟨a,by simp,?_⟩
     simp only[List.foldl_cons];rw[h]
     unfold betB at hc |-
     split
     .rfl
     .rename_i hn;rw[if_neg hn]at hc;exact absurd rfl hc
   .exact .inr ⟨k,by simp[hk],h⟩
 exact key l (-1)
theorem Agu(Γ:Gam)(x:Sl)(N:List Nod)(A2 A3:Option Addr)(c2 c3:Nat)(W:List U)(L:List Bool)(i:Int)(hb:N.length<=65535)(hW:W.length=N.length)(hL:L.length=N.length)(w:World)(ok:Ok Γ w)(h:NG Γ x N)(h2:SlG Γ A2 N.length (us W))(h3:SlG Γ A3 N.length (bls L)) :
  Calls Tryz.prog 75 #[.agg [x.v].toArray,.slice A2 N.length c2,.slice A3 N.length c3,.int .i64 i] w fun e w'=>e=.returned (.int .i64 (bestI N W L i))/\Ext Γ w Γ w':=by
 have M:=bx (MM.start ok)
 have OK0:=bx ok
 have HG:=bx h
 have LN:=bx h.n
 have H2:Bx (SlG Γ A2 W.length (us W)):=⟨by rw[hW];exact h2⟩
 have H3:Bx (SlG Γ A3 L.length (bls L)):=⟨by rw[hL];exact h3⟩
 have CH:=bx (fun w ok=>Aew Γ x N i w ok h hb)
 have KM:Bx (∀k∈kids N i,k<N.length):=⟨fun k hk=>(Abz hk).1⟩
 have PT:Bx (∀q (hq:q<(kids N i).length),bestK N W L ((kids N i).take (q+1))=betB N W L (bestK N W L ((kids N i).take q)) (kids N i)[q]):=⟨fun q hq=>Abi (betB N W L) (-1) hq⟩
 have BC:Bx (∀q,bestK N W L ((kids N i).take q) = -1\/∃k:Nat,k<N.length/\bestK N W L ((kids N i).take q)=(k:Int)):=⟨fun q=>by
  rcases AgD N W L ((kids N i).take q)with h|⟨k,hk,h⟩
  .exact .inl h
  .exact .inr ⟨k,(Abz (List.mem_of_mem_take hk)).1,h⟩⟩
 have HR:Bx (bestI N W L i=bestK N W L ((kids N i).take (kids N i).length)):=⟨by unfold bestI;rw[List.take_of_length_le (Nat.le_refl _)]⟩
 have HW:=bx hW
 have HLL:=bx hL
 have hkl:(kids N i).length<=65535:=Nat.le_trans (Aj7 N i) hb
 have HKL:=bx hkl
 clear ok h h2 h3 hb hW hL hkl
 rw[HR.o]
 generalize kids N i=K at *
 change Calls Tryz.prog _ #[.agg (fl [[x.v]]).toArray,_,_,_] _ _
 go_enter Tryz.func75,Tryz.ntmps75
 (go_wp2_with (first|(refine zBXo ?_;clear M;intro w' g M)|refine zLAo ?_))
 refine(CH.o _ M.ok).mono ?_
 rintro e1 w1 ⟨A1,c1,Γ1,rfl,hcap,hsl,hx⟩
 replace M:=bx (M.o.call hx)
 have HS:=bx hsl
 have L1:=bx hx.le
 clear hcap hsl hx CH HR
 (go_wp2_with (fail))
 go_loopw [9,11] (fun s9 jj wr=>∃q:Nat,q<=K.length/\jj=.int .i64 q/\s9=.int .i64 (bestK N W L (K.take q))/\MM Γ w Γ1 wr [⟨g,[[x.v]],[1]⟩] []) (fun _ jj _=>K.length-(intOf jj).toNat)
 case atStart=>exact⟨0,Nat.zero_le _,rfl,rfl,M.o⟩
 case round=>
  obtain⟨q,hq,rfl,e9,hM⟩:=hrel
  clear M
  have M:=bx hM
  clear hM
  have hkl:=HKL.o
  by_cases hqn:q<K.length
  .obtain⟨gk,rfl,hc⟩:=Aet HS.o q hqn
   have F0:Bx (Fz Γ1 gk q [[.int .i64 (K[q]:Int)]] [1]):=⟨hc,rfl⟩
   have hcl:K[q]<N.length:=KM.o _ (List.getElem_mem hqn)
   have PT':=bx (PT.o q hqn)
   have hki:(q:Int)<(K.length:Int):=by omega
   have hk0:0<=(q:Int):=by omega
   have BC':=BC.o q
   clear hc PT BC
   generalize hk1:bestK N W L (K.take (q+1))=b1 at *
   generalize bestK N W L (K.take q)=b at *
   generalize K[q]=c at *
   subst e9
   have hcW:c<W.length:=by rw[HW.o];exact hcl
   have hcL:c<L.length:=by rw[HLL.o];exact hcl
   obtain⟨g2,rfl,hf2⟩:=Agd (H2.o.mono L1.o) c hcW
   obtain⟨g3,rfl,hf3⟩:=AnM (H3.o.mono L1.o) c hcL
   obtain⟨gn,hA,hfn⟩:=(HG.o.mono L1.o).fz (f:=noP) AaK rfl c hcl
   have HA:=bx hA
   have F1:Bx (Fz Γ1 g2 c [[.int .u64 (W[c].n:Int)]] [1]):=⟨hf2,rfl⟩
   have F2:Bx (Fz Γ1 g3 c [[.bool L[c]]] [1]):=⟨hf3,rfl⟩
   have F3:=bx hfn
   have hcn:(c:Int)<(N.length:Int):=by omega
   have hcx:(c:Int)<(x.n:Int):=by rw[LN.o];omega
   have hc0:0<=(c:Int):=by omega
   have gL:L.getD c false=L[c]:=by simp[List.getD,List.getElem?_eq_getElem hcL]
   have gW:W.getD c u0=W[c]:=by simp[List.getD,List.getElem?_eq_getElem hcW]
   have gN:=nget hcl
   unfold betB at PT'
   rw[gL,gW,gN]at PT'
   clear hf2 hf3 hA hfn gL gW gN
   cases hl:L[c]with
   |false=>
    rw[hl]at F2 PT'
    have E:=bx (PT'.o.trans (if_neg (fun h=>by cases h.1)))
    clear PT' hl
    generalize W[c]=wc at *
    generalize N[c]=yc at *
    have CR:=bx (fun w (_:Ok Γ1 w)=>Aca yc.b.root yc.b.root w)
    have F4:=F1
    have F5:=F3
    (go_wp2_with (refine zRFo F0 ?_))
    (refine zRG ?_);(try simp only[List.append_eq,List.cons_append,List.nil_append]);(repeat(first|go_big_quiet_skip|(go_big_quiet_want;first|(refine zQFo F2 ?_;go_big_quiet_on;refine zNM ?_)|(refine zQO ?_;go_big_quiet_on))));(refine zQN ?_;clear M;intro w4 M)
    (go_wp2_with (fail))
    go_roundw
    case rel=>exact⟨q+1,by omega,by go_num,by rw[hk1,E.o],M.o⟩
    case measure=>simp[intOf]<;>omega
   |true=>
    rw[hl]at F2 PT'
    clear hl
    rcases BC' with hb|⟨k,hk,hb⟩
    .subst hb
     have E:=bx (PT'.o.trans (if_pos ⟨rfl,.inl (by decide)⟩))
     clear PT'
     generalize W[c]=wc at *
     generalize N[c]=yc at *
     have CR:=bx (fun w (_:Ok Γ1 w)=>Aca yc.b.root yc.b.root w)
     have F4:=F1
     have F5:=F3
     (go_wp2_with (refine zRFo F0 ?_))
     (refine zRG ?_);(try simp only[List.append_eq,List.cons_append,List.nil_append]);(repeat(first|go_big_quiet_skip|(go_big_quiet_want;first|(refine zQFo F2 ?_;go_big_quiet_on;refine zNM ?_)|(refine zQO ?_;go_big_quiet_on))));(refine zQN ?_;clear M;intro w4 M)
     (go_wp2_with (fail))
     go_roundw
     case rel=>exact⟨q+1,by omega,by go_num,by rw[hk1,E.o],M.o⟩
     case measure=>simp[intOf]<;>omega
    .subst hb
     have hkW:k<W.length:=by rw[HW.o];exact hk
     obtain⟨g2',e2,hf4⟩:=Agd (H2.o.mono L1.o) k hkW
     obtain rfl:g2'=g2:=by injection e2 with e2;injection e2 with e2;exact e2.symm
     obtain⟨gn',hA',hf5⟩:=(HG.o.mono L1.o).fz (f:=noP) AaK rfl k hk
     have hge:gn'=gn:=by
      have:=HA.o
      rw[hA']at this
      injection this with this
      injection this with this
      injection this with this
     subst hge
     have F4:Bx (Fz Γ1 g2' k [[.int .u64 (W[k].n:Int)]] [1]):=⟨hf4,rfl⟩
     have F5:=bx hf5
     have hkn:(k:Int)<(N.length:Int):=by omega
     have hkx:(k:Int)<(x.n:Int):=by rw[LN.o];omega
     have hkk0:0<=(k:Int):=by omega
     have hkk1:¬(k:Int)<0:=by omega
     have hkk2:decide ((k:Int)<0)=false:=decide_eq_false hkk1
     have gW:W.getD k u0=W[k]:=by simp[List.getD,List.getElem?_eq_getElem hkW]
     rw[Int.toNat_natCast,gW,nget hk]at PT'
     clear e2 hf4 hA' hf5 gW
     generalize W[c]=wc at *
     generalize N[c]=yc at *
     generalize W[k]=wk at *
     generalize N[k]=yk at *
     have CR:=bx (fun w (_:Ok Γ1 w)=>Aca yc.b.root yk.b.root w)
     generalize hcr:cmpRt yc.b.root yk.b.root=cr at *
     clear hcr
     rcases tri4 wk.n wc.n with t|t|t
     .have E:=bx (PT'.o.trans (if_pos ⟨rfl,.inr (.inl t.n1)⟩))
      obtain⟨t1,t2,t3,t4,t5,t6,t7,t8,t9,t10,t11,t12⟩:=t
      have t13:decide ((wk.n:Int)<(wc.n:Int))=true:=decide_eq_true t1
      clear PT'
      (go_wp2_with (refine zRFo F0 ?_))
      (refine zRG ?_);(try simp only[List.append_eq,List.cons_append,List.nil_append]);(repeat(first|go_big_quiet_skip|(go_big_quiet_want;first|(first|((first|refine zQFo F1 ?_|refine zQFo F2 ?_|refine zQFo F4 ?_);go_big_quiet_on;refine zNM ?_))|(refine zQO ?_;go_big_quiet_on))));(refine zQN ?_;clear M;intro w4 M)
      (go_wp2_with (fail))
      go_roundw
      case rel=>exact⟨q+1,by omega,by go_num,by rw[hk1,E.o],M.o⟩
      case measure=>simp[intOf]<;>omega
     .by_cases hz:0<cr
      focus
       have E:=bx (PT'.o.trans (if_pos ⟨rfl,.inr (.inr ⟨Nat.le_antisymm t.n2 t.n1,hz⟩)⟩))
       obtain⟨t1,t2,t3,t4,t5,t6,t7,t8,t9,t10,t11,t12⟩:=t
       have z1:decide (0<cr)=true:=decide_eq_true hz
      rotate_left
      focus
       have E:=bx (PT'.o.trans (if_neg (fun h=>h.2.elim (fun h=>by omega) fun h=>h.elim (fun h=>t.m1 h) fun h=>hz h.2)))
       obtain⟨t1,t2,t3,t4,t5,t6,t7,t8,t9,t10,t11,t12⟩:=t
       have z1:decide (0<cr)=false:=decide_eq_false hz
      all_goals
       clear PT'
       (go_wp2_with (refine zRFo F0 ?_))
       (refine zRG ?_);(try simp only[List.append_eq,List.cons_append,List.nil_append]);(repeat((go_big_quiet_want;first|(first|((first|refine zQFo F1 ?_|refine zQFo F2 ?_|refine zQFo F3 ?_|refine zQFo F4 ?_|refine zQFo F5 ?_|refine zQHo HA ?_);go_big_quiet_on;refine zNM ?_)|((with_reducible refine AbD ?_);(refine zQC (AfY (clsE M.o CR.o)) Tryz.func111 ?_;go_big_quiet_on;refine zNM ?_)))|(refine zQO ?_;go_big_quiet_on))));(refine zQN ?_;clear M;intro w4 M)
       (go_wp2_with (fail))
       go_roundw
       case rel=>exact⟨q+1,by omega,by go_num,by rw[hk1,E.o],M.o⟩
       case measure=>simp[intOf]<;>omega
     .have E:=bx (PT'.o.trans (if_neg (fun h=>h.2.elim (fun h=>by omega) fun h=>h.elim (fun h=>t.m1 h) fun h=>by have:=t.n1;omega)))
      obtain⟨t1,t2,t3,t4,t5,t6,t7,t8,t9,t10,t11,t12⟩:=t
      have t13:decide ((wk.n:Int)<(wc.n:Int))=false:=decide_eq_false t11
      clear PT'
      (go_wp2_with (refine zRFo F0 ?_))
      (refine zRG ?_);(try simp only[List.append_eq,List.cons_append,List.nil_append]);(repeat(first|go_big_quiet_skip|(go_big_quiet_want;first|(first|((first|refine zQFo F1 ?_|refine zQFo F2 ?_|refine zQFo F4 ?_);go_big_quiet_on;refine zNM ?_))|(refine zQO ?_;go_big_quiet_on))));(refine zQN ?_;clear M;intro w4 M)
      (go_wp2_with (fail))
      go_roundw
      case rel=>exact⟨q+1,by omega,by go_num,by rw[hk1,E.o],M.o⟩
      case measure=>simp[intOf]<;>omega
  .have hki:(K.length:Int)<=(q:Int):=by omega
   obtain rfl:q=K.length:=by omega
   subst e9
   (go_wp2_with (fail))
   go_ret
   exact⟨rfl,Ext.below OK0.o M.bel⟩
end Go.Proofs.YtpaihpeoiliioaaGreat
