/- Texts joined: what the walks of this claim stand on (part 29). -/
import Derived.Test.YtpaihpeoiliioaaGreatKK27
import Derived.Test.YtpaihpeoiliioaaGreatKK28
set_option linter.all false
set_option maxRecDepth 20000
set_option maxHeartbeats 40000000
namespace Go.Proofs.YtpaihpeoiliioaaGreat
open Go.RowKit Old
theorem Aks(a b:Rt)(w:World):Calls Tryz.prog 135 #[.agg (rc a).toArray,.agg (rc b).toArray] w fun e w'=>e=.returned (.int .i64 (cmpRt a b))/\Below w.heap.size w w':=
 (Aih (Ajo a) (Ajo b) a.len b.len w).mono fun e w' h=>⟨h.1,h.2.below⟩
def betC(N:List Nod)(W:List U)(a b:Nat):Bool:=decide ((W.getD b u0).n<(W.getD a u0).n\/((W.getD a u0).n=(W.getD b u0).n/\0<cmpRt (N.getD a n0).b.root (N.getD b n0).b.root))
theorem AnP{N:List Nod}{W:List U}{L:List Bool}{c k:Nat}(hl:L.getD c false=true):betB N W L (k:Int) c=if betC N W c k=true then(c:Int)else(k:Int):=by
 by_cases h:(W.getD k u0).n<(W.getD c u0).n\/((W.getD c u0).n=(W.getD k u0).n/\0<cmpRt (N.getD c n0).b.root (N.getD k n0).b.root)
 .rw[show betC N W c k=true from decide_eq_true h,if_pos rfl]
  unfold betB
  rw[Int.toNat_natCast,if_pos ⟨hl,.inr h⟩]
 .rw[show betC N W c k=false from decide_eq_false h,if_neg (by simp)]
  unfold betB
  rw[Int.toNat_natCast,if_neg]
  rintro⟨_,h'|h'⟩
  .omega
  .exact h h'
theorem Aix(Γ:Gam)(x:Sl)(N:List Nod)(A2:Option Addr)(c2:Nat)(W:List U)(a b:Nat)(hW:W.length=N.length)(ha:a<N.length)(hb:b<N.length)(w:World)(ok:Ok Γ w)(h:NG Γ x N)(h2:SlG Γ A2 N.length (us W)) :
  Calls Tryz.prog 101 #[.agg [x.v].toArray,.slice A2 N.length c2,.int .i64 (a:Int),.int .i64 (b:Int)] w fun e w'=>e=.returned (.bool (betC N W a b))/\Ext Γ w Γ w':=by
 have M:=bx (MM.start ok)
 have LN:=bx h.n
 rw[<-hW]at h2
 have haW:a<W.length:=by rw[hW];exact ha
 have hbW:b<W.length:=by rw[hW];exact hb
 obtain⟨g2,rfl,hf2⟩:=Agd h2 a haW
 obtain⟨g2',e2,hf4⟩:=Agd h2 b hbW
 obtain rfl:g2'=g2:=by injection e2 with e2;injection e2 with e2;exact e2.symm
 obtain⟨gn,hA,hfn⟩:=h.fz (f:=noP) (k:=240) AaK rfl a ha
 have HA:=bx hA
 obtain⟨gn',hA',hf5⟩:=h.fz (f:=noP) (k:=240) AaK rfl b hb
 have hge:gn'=gn:=by
  rw[hA']at hA
  injection hA with this
  injection this with this
  injection this with this
 subst hge
 have F1:Bx (Fz Γ g2' a [[.int .u64 (W[a].n:Int)]] [1]):=⟨hf2,rfl⟩
 have F3:=bx hfn
 have F4:Bx (Fz Γ g2' b [[.int .u64 (W[b].n:Int)]] [1]):=⟨hf4,rfl⟩
 have F5:=bx hf5
 have han:(a:Int)<(N.length:Int):=by omega
 have hax:(a:Int)<(x.n:Int):=by rw[LN.o];omega
 have ha0:0<=(a:Int):=by omega
 have hbn:(b:Int)<(N.length:Int):=by omega
 have hbx:(b:Int)<(x.n:Int):=by rw[LN.o];omega
 have hb0:0<=(b:Int):=by omega
 have gW:W.getD a u0=W[a]:=by simp[List.getD,List.getElem?_eq_getElem haW]
 have gW2:W.getD b u0=W[b]:=by simp[List.getD,List.getElem?_eq_getElem hbW]
 have PT:Bx (betC N W a b=decide (W[b].n<W[a].n\/(W[a].n=W[b].n/\0<cmpRt N[a].b.root N[b].b.root))):=⟨by unfold betC;rw[gW,gW2,nget ha,nget hb]⟩
 clear ok h h2 hW e2 hf2 hf4 hA hA' hfn hf5 gW gW2
 generalize betC N W a b=r at *
 generalize W[a]=wc at *
 generalize W[b]=wk at *
 generalize N[a]=yc at *
 generalize N[b]=yk at *
 have CR:=bx (fun w (_:Ok Γ w)=>Aks yc.b.root yk.b.root w)
 generalize hcr:cmpRt yc.b.root yk.b.root=cr at *
 clear hcr
 change Calls Tryz.prog _ #[.agg (fl [[x.v]]).toArray,_,_,_] _ _
 rcases tri4 wk.n wc.n with t|t|t
 .have E:=bx (PT.o.trans (decide_eq_true (.inl t.n1)))
  rw[E.o]
  obtain⟨t1,t2,t3,t4,t5,t6,t7,t8,t9,t10,t11,t12⟩:=t
  have t13:decide ((wk.n:Int)<(wc.n:Int))=true:=decide_eq_true t1
  clear PT E
  go_enter Tryz.func101,Tryz.ntmps101
  (go_wp2_with (refine zBXd ?_;clear M;intro w' g M))
  (refine zRG ?_);(try simp only[List.append_eq,List.cons_append,List.nil_append]);(repeat(first|go_big_quiet_skip|(go_big_quiet_want;first|(first|((first|refine zQFd F1 ?_|refine zQFd F4 ?_);go_big_quiet_on;refine zNM ?_))|(refine zQO ?_;go_big_quiet_on))));(refine zQN ?_;clear M;intro w4 M)
  (go_wp2_with (fail))
  go_ret
  exact⟨rfl,M.o.ext⟩
 .by_cases hz:0<cr
  focus
   have E:=bx (PT.o.trans (decide_eq_true (.inr ⟨Nat.le_antisymm t.n2 t.n1,hz⟩)))
   rw[E.o]
   obtain⟨t1,t2,t3,t4,t5,t6,t7,t8,t9,t10,t11,t12⟩:=t
   have z1:decide (0<cr)=true:=decide_eq_true hz
  rotate_left
  focus
   have E:=bx (PT.o.trans (decide_eq_false (fun h=>h.elim (fun h=>t.m1 h) fun h=>hz h.2)))
   rw[E.o]
   obtain⟨t1,t2,t3,t4,t5,t6,t7,t8,t9,t10,t11,t12⟩:=t
   have z1:decide (0<cr)=false:=decide_eq_false hz
  all_goals
   clear PT E
   go_enter Tryz.func101,Tryz.ntmps101
   (go_wp2_with (refine zBXd ?_;clear M;intro w' g M))
   (refine zRG ?_);(try simp only[List.append_eq,List.cons_append,List.nil_append]);(repeat((go_big_quiet_want;first|(first|((first|refine zQFd F1 ?_|refine zQFd F3 ?_|refine zQFd F4 ?_|refine zQFd F5 ?_|refine zQHd HA ?_);go_big_quiet_on;refine zNM ?_)|((with_reducible refine AbD ?_);(refine zQC (AfY (clsE M.o CR.o)) Tryz.func135 ?_;go_big_quiet_on;refine zNM ?_)))|(refine zQO ?_;go_big_quiet_on))));(refine zQN ?_;clear M;intro w4 M)
   (go_wp2_with (fail))
   go_ret
   exact⟨rfl,M.o.ext⟩
 .have E:=bx (PT.o.trans (decide_eq_false (fun h=>h.elim (fun h=>t.m1 h) fun h=>by have:=t.n1;omega)))
  rw[E.o]
  obtain⟨t1,t2,t3,t4,t5,t6,t7,t8,t9,t10,t11,t12⟩:=t
  have t13:decide ((wk.n:Int)<(wc.n:Int))=false:=decide_eq_false t11
  clear PT E
  go_enter Tryz.func101,Tryz.ntmps101
  (go_wp2_with (refine zBXd ?_;clear M;intro w' g M))
  (refine zRG ?_);(try simp only[List.append_eq,List.cons_append,List.nil_append]);(repeat(first|go_big_quiet_skip|(go_big_quiet_want;first|(first|((first|refine zQFd F1 ?_|refine zQFd F4 ?_);go_big_quiet_on;refine zNM ?_))|(refine zQO ?_;go_big_quiet_on))));(refine zQN ?_;clear M;intro w4 M)
  (go_wp2_with (fail))
  go_ret
  exact⟨rfl,M.o.ext⟩
structure HOk(Γ:Gam)(s:Sto)(v:Sls)(k:Nat):Prop where
 si:SI k s
 k:k<=40
 g:StG Γ v s
theorem HOk.mono{Γ Γ':Gam}{s:Sto}{v:Sls}{k:Nat}(h:HOk Γ s v k)(hl:Le Γ Γ'):HOk Γ' s v k:=⟨h.si,h.k,h.g.mono hl⟩
theorem HOk.nb{Γ:Gam}{s:Sto}{v:Sls}{k:Nat}(h:HOk Γ s v k):s.nodes.length<=4096:=(h.si.wok h.k).nb
theorem HOk.live{Γ:Gam}{s:Sto}{v:Sls}{k:Nat}(h:HOk Γ s v k)(w:World)(ok:Ok Γ w):Calls Tryz.prog 62 #[.agg (fl (stP s v)).toArray] w (BlsP Γ w s.lives):=
 Akr Γ s v h.si.spe (AcJ h.si.t.lk) (ArL h.si.t.lk) h.si.t.pos (by have:=h.nb;omega) w ok h.g
end Go.Proofs.YtpaihpeoiliioaaGreat
