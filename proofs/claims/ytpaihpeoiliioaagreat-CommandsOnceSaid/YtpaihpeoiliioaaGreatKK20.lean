/- Texts joined: what the walks of this claim stand on (part 20). -/
import Derived.Test.YtpaihpeoiliioaaGreatKK18
import Derived.Test.YtpaihpeoiliioaaGreatKK19
set_option linter.all false
set_option maxRecDepth 20000
set_option maxHeartbeats 40000000
namespace Go.Proofs.YtpaihpeoiliioaaGreat
open Go.RowKit Old
theorem Aeh(Γ:Gam)(s:Sto)(v:Sls)(j f:Cp)(hs:SpeOk s)(hk:Lk (upsN s.nodes))(hb:s.nodes.length<=4096)(ht:s.tabs.length<=65535)(hob:s.orph.length<=30000)(w:World)(ok:Ok Γ w)(h:StG Γ v s) :
  Calls Tryz.prog 157 #[.agg (fl (stP s v)).toArray,.agg (fl (cpP j)).toArray,.agg (fl (cpP f)).toArray] w (StP Γ w (updR s j f)):=by
 have cu:=fun w ok=>Aha Γ s v j f hs hk hb ht w ok h
 unfold updR
 generalize laterC s.just j=ca at *
 generalize laterC s.fin f=cb at *
 cases hc:canU s ca cb with
 |false=>
  rw[if_neg Bool.false_ne_true]
  rw[Ahb hc]at cu
  exact Alh Γ s v j f w ok h cu
 |true=>
  rw[if_pos rfl]
  rw[Akd hc]at cu
  obtain⟨k,hkl,hfk⟩:=AoU hc
  unfold updS
  by_cases he:cb=s.fin
  .rw[if_pos he]
   exact Alj Γ s v j f ca cb hs hk hb ht hob w ok h cu he
  .rw[if_neg he,hfk,Int.toNat_natCast]
   exact Ali Γ s v j f ca cb hs hk hb ht hob w ok h cu he k hkl hfk
theorem insert_any(Γ:Gam)(s:Sto)(v:Sls)(b:Blk)(N1:List Nod)(hs:SpeOk s)(hI:insN s.nodes b (statOf b)=(0,N1))(t1:TI N1)(hb0:s.nodes.length<=4096)(hb:N1.length<=4096)(ht:s.tabs.length<=65535)(hob:s.orph.length<=30000)(w:World)(ok:Ok Γ w)(h:StG Γ v s) :
  Calls Tryz.prog 164 #[.agg (fl (stP s v)).toArray,.agg (blx b).toArray] w (StP Γ w (insS s b)):=by
 have M:=bx (MM.start ok)
 have HG:=bx h
 have SO:=bx (fun w ok=>Aht Γ b w ok)
 have IN:Bx (∀w,Ok Γ w->Calls Tryz.prog 194 #[.agg [v.nodes.v].toArray,.agg (blx b).toArray,.int .i64 (statOf b)] w (TrE Γ w (0,N1))):=⟨fun w ok=>by
  have:=AjM Γ v.nodes s.nodes b (statOf b) w ok h.nodes (by omega)
  rwa [hI]at this⟩
 have K1:=Ae1 (s:={s with nodes:=N1}) t1 b.just b.fin
 have UP:=bx (fun(Γ':Gam) (v':Sls) w ok h=>Aeh Γ' {s with nodes:=N1} v' b.just b.fin ⟨hs.1,hs.2⟩ t1.lk hb ht hob w ok h)
 have hins:insS s b=if(epN b.slot (updR {s with nodes:=N1} b.just b.fin).c.spe).n<(epN (updR {s with nodes:=N1} b.just b.fin).now (updR {s with nodes:=N1} b.just b.fin).c.spe).n then updR (updR {s with nodes:=N1} b.just b.fin) b.pj b.pf else updR {s with nodes:=N1} b.just b.fin:=by
  unfold insS;rw[hI]
 rw[hins]
 clear hins
 generalize updR {s with nodes:=N1} b.just b.fin=s2 at *
 obtain⟨K,T2⟩:=K1
 have hs2:SpeOk s2:=⟨by rw[K.c];exact hs.1,by rw[K.c];exact hs.2⟩
 have UP2:=bx (fun(Γ':Gam) (v':Sls) j f w ok h=>Aeh Γ' s2 v' j f hs2 T2.lk (Nat.le_trans K.nodes hb) (Nat.le_trans K.tabs ht) (Nat.le_trans K.orph hob) w ok h)
 have EP1:=bx (fun(Γ':Gam) (v':Sls) w ok=>AbZ Γ' s2 v' b.slot hs2.1 w ok)
 have EP2:=bx (fun(Γ':Gam) (v':Sls) w ok=>AbZ Γ' s2 v' s2.now hs2.1 w ok)
 clear ok h hI t1 hb0 hb ht hob K T2 hs hs2
 generalize epN b.slot s2.c.spe=ea at *
 generalize epN s2.now s2.c.spe=eb at *
 by_cases hlt:ea.n<eb.n
 .rw[if_pos hlt]
  have hlt':(ea.n:Int)<(eb.n:Int):=by omega
  clear hlt
  go_enter Tryz.func164,Tryz.ntmps164
  (go_wp2_with (first|((first|refine zBXd ?_|refine zALd (ztSt) ?_);clear M;intro w' g M)))
  refine AaB [10] (.steps [(1,0),(0,1),(0,2),(0,3),(2,4),(2,5),(1,6),(1,7),(1,8),(1,9),(3,10)] .leaf) (by kernel_rfl) (by kernel_rfl) ?_;(simp only[MixT6,MT.steps,stepAt,List.getD_cons_zero,List.getD_cons_succ]);replace M:=bx (M.o.drew)
  refine zNM ?_
  refine zMRd ?_
  refine zMC (SO.o _ M.ok) Tryz.func195 ?_
  rintro e2 w2 ⟨rfl,hx2⟩
  refine⟨_,rfl,hx2.bel,?_⟩
  replace M:=bx (M.o.call hx2)
  clear hx2
  refine zNM ?_
  refine zMRd ?_
  refine zMC (IN.o _ M.ok) Tryz.func194 ?_
  rintro e3 w3 ⟨x3,Γ3,rfl,hn3,hx3⟩
  refine⟨_,rfl,hx3.bel,?_⟩
  replace M:=bx (M.o.call hx3)
  have HN3:=bx hn3
  clear hx3 hn3 SO IN
  refine zNM ?_
  refine zMRd ?_
  refine Aam M.o 2 [[x3.v]] (stP {s with nodes:=N1} {v with nodes:=x3}) rfl rfl rfl rfl Aap rfl rfl (Aak _ _ _) rfl rfl ?_
  intro w7 M'
  simp only[List.set_cons_zero,List.set_cons_succ]at M'
  (replace M:=bx M';clear M')
  refine zNM ?_
  refine zMRd ?_
  refine NoPanic.normal ?_
  have HG1:Bx (StG Γ3 {v with nodes:=x3} {s with nodes:=N1}):=⟨{HG.o.mono M.o.ext.le with nodes:=HN3.o}⟩
  (go_wp2_with (refine zLAd ?_))
  refine(UP.o Γ3 {v with nodes:=x3} _ M.ok HG1.o).mono ?_
  rintro e4 w4 ⟨v4,Γ4,rfl,hg4,hx4⟩
  replace M:=bx (M.o.call hx4)
  have HG4:=bx hg4
  clear hg4 hx4 UP HG1 HN3
  have UP2':=bx (fun w ok=>UP2.o Γ4 v4 b.pj b.pf w ok HG4.o)
  clear UP2
  go_wp2_with (refine zSSd M 2 (stP s2 v4) (stP s2 v4) (AaD _ _) (Aaa _ _) ?_;clear M;intro w' M)
  have EP1':=bx (clsE M.o (fun w ok=>EP1.o Γ4 v4 w ok))
  have EP2':=bx (clsE M.o (fun w ok=>EP2.o Γ4 v4 w ok))
  clear EP1 EP2
  refine zRG ?_;(repeat((go_big_quiet_want;first|((with_reducible refine AbD ?_);first|((first|refine zQC (AaJ EP1'.o) Tryz.func143 ?_|refine zQC (AaJ EP2'.o) Tryz.func143 ?_);go_big_quiet_on;refine zNM ?_))|(refine zQAd ?_;go_big_quiet_on;refine zNM ?_)|(refine zQO ?_;go_big_quiet_on))));(refine zQN ?_;clear M;intro w4 M)
  clear EP1' EP2'
  (go_wp2_with (refine zLAd ?_))
  refine(UP2'.o _ M.ok).mono ?_
  rintro e5 w5 ⟨v5,Γ5,rfl,hg5,hx5⟩
  replace M:=bx (M.o.call hx5)
  have HG5:=bx hg5
  clear hg5 hx5 UP2'
  generalize updR s2 b.pj b.pf=s3 at *
  (go_wp2_with (first|refine zLAd ?_|((first|refine zSSd M 2 (stP s3 v5) (stP s3 v5) (AaD _ _) (Aaa _ _) ?_|refine zSSd M 0 (stP s3 v5) (stP s3 v5) (AaD _ _) (Aaa _ _) ?_);clear M;intro w' M)))
  refine zR M.o.at0 ?_
  exact StP.mk _ HG5.o M.o.ext
 .rw[if_neg hlt]
  have hlt':¬(ea.n:Int)<(eb.n:Int):=by omega
  clear hlt
  go_enter Tryz.func164,Tryz.ntmps164
  (go_wp2_with (first|((first|refine zBXd ?_|refine zALd (ztSt) ?_);clear M;intro w' g M)))
  refine AaB [10] (.steps [(1,0),(0,1),(0,2),(0,3),(2,4),(2,5),(1,6),(1,7),(1,8),(1,9),(3,10)] .leaf) (by kernel_rfl) (by kernel_rfl) ?_;(simp only[MixT6,MT.steps,stepAt,List.getD_cons_zero,List.getD_cons_succ]);replace M:=bx (M.o.drew)
  refine zNM ?_
  refine zMRd ?_
  refine zMC (SO.o _ M.ok) Tryz.func195 ?_
  rintro e2 w2 ⟨rfl,hx2⟩
  refine⟨_,rfl,hx2.bel,?_⟩
  replace M:=bx (M.o.call hx2)
  clear hx2
  refine zNM ?_
  refine zMRd ?_
  refine zMC (IN.o _ M.ok) Tryz.func194 ?_
  rintro e3 w3 ⟨x3,Γ3,rfl,hn3,hx3⟩
  refine⟨_,rfl,hx3.bel,?_⟩
  replace M:=bx (M.o.call hx3)
  have HN3:=bx hn3
  clear hx3 hn3 SO IN
  refine zNM ?_
  refine zMRd ?_
  refine Aam M.o 2 [[x3.v]] (stP {s with nodes:=N1} {v with nodes:=x3}) rfl rfl rfl rfl Aap rfl rfl (Aak _ _ _) rfl rfl ?_
  intro w7 M'
  simp only[List.set_cons_zero,List.set_cons_succ]at M'
  (replace M:=bx M';clear M')
  refine zNM ?_
  refine zMRd ?_
  refine NoPanic.normal ?_
  have HG1:Bx (StG Γ3 {v with nodes:=x3} {s with nodes:=N1}):=⟨{HG.o.mono M.o.ext.le with nodes:=HN3.o}⟩
  (go_wp2_with (refine zLAd ?_))
  refine(UP.o Γ3 {v with nodes:=x3} _ M.ok HG1.o).mono ?_
  rintro e4 w4 ⟨v4,Γ4,rfl,hg4,hx4⟩
  replace M:=bx (M.o.call hx4)
  have HG4:=bx hg4
  clear hg4 hx4 UP HG1 HN3
  have UP2':=bx (fun w ok=>UP2.o Γ4 v4 b.pj b.pf w ok HG4.o)
  clear UP2
  go_wp2_with (refine zSSd M 2 (stP s2 v4) (stP s2 v4) (AaD _ _) (Aaa _ _) ?_;clear M;intro w' M)
  have EP1':=bx (clsE M.o (fun w ok=>EP1.o Γ4 v4 w ok))
  have EP2':=bx (clsE M.o (fun w ok=>EP2.o Γ4 v4 w ok))
  clear EP1 EP2
  refine zRG ?_;(repeat((go_big_quiet_want;first|((with_reducible refine AbD ?_);first|((first|refine zQC (AaJ EP1'.o) Tryz.func143 ?_|refine zQC (AaJ EP2'.o) Tryz.func143 ?_);go_big_quiet_on;refine zNM ?_))|(refine zQAd ?_;go_big_quiet_on;refine zNM ?_)|(refine zQO ?_;go_big_quiet_on))));(refine zQN ?_;clear M;intro w4 M)
  clear EP1' EP2'
  (go_wp2_with (first|refine zLAd ?_|(refine zSSd M 0 (stP s2 v4) (stP s2 v4) (AaD _ _) (Aaa _ _) ?_;clear M;intro w' M)))
  refine zR M.o.at0 ?_
  exact StP.mk _ HG4.o M.o.ext
end Go.Proofs.YtpaihpeoiliioaaGreat
