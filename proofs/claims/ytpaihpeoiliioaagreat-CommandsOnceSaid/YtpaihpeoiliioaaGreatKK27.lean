/- Texts joined: what the walks of this claim stand on (part 27). -/
import Derived.Test.YtpaihpeoiliioaaGreatKK22
set_option linter.all false
set_option maxRecDepth 20000
set_option maxHeartbeats 40000000
namespace Go.Proofs.YtpaihpeoiliioaaGreat
open Go.RowKit Old
theorem MM.newRow{Γ0 Γ:Gam}{w0 w w':World}{L:List Ent}{R:List RowE}(M:MM Γ0 w0 Γ w L R)(hb:Below w.heap.size w w'){g:Nat}(hg:w.heap.size<=g){P:List (List Value)}{ls:List Nat}(h:Has w' g (fl P))(hl:P.map List.length=ls) :
  MM Γ0 w0 Γ w' (⟨g,P,ls⟩::L) R:=by
 have M':=M.below hb
 refine⟨M'.ext,fun p hp=>?_,fun p hp=>?_,fun p hp=>?_,fun p hp=>?_,List.pairwise_cons.2 ⟨fun q hq e=>?_,M.nd⟩,M'.rows,fun r hr k hk=>?_,M.rnd⟩
 .rcases List.mem_cons.1 hp with rfl|hp
  .exact h
  .exact M'.has p hp
 .rcases List.mem_cons.1 hp with rfl|hp
  .exact hl
  .exact M.len p hp
 .rcases List.mem_cons.1 hp with rfl|hp
  .cases hq:Γ g with
   |none=>rfl
   |some cs=>
    obtain⟨_,hh⟩:=M.ext.ok g cs hq
    have:=hh.lt
    omega
  .exact M.off p hp
 .rcases List.mem_cons.1 hp with rfl|hp
  .exact Nat.le_trans M.ext.bel.size hg
  .exact M.lo p hp
 .have h2:=(M.has q hq).lt
  have e':g=q.g:=e
  omega
 .have h1:=((M.rows r hr).lt k hk).2
  obtain⟨h2,h3⟩:=M.roff r hr k hk
  refine⟨h2,fun p hp=>?_⟩
  rcases List.mem_cons.1 hp with rfl|hp
  .exact fun e=>by
    have e':g=k:=e
    omega
  .exact h3 p hp
theorem AlH(Γ:Gam)(s:Sto)(v:Sls)(gs:Nat)(t:Cp)(sv:Value)(w:World)(ok:Ok Γ w)(hb:HL w gs (stP s v) stL) :
  Calls Tryz.prog 54 #[.agg (fl (tbP t sv)).toArray,.pointer (some ⟨gs,0,none⟩)] w fun e w'=>e=.returned (.bool (decide (t=s.just)))/\Ext Γ w Γ w':=by
 have M:=bx (MM.start ok)
 have HB:=bx hb
 have hq:=Adg t s.just
 clear ok hb
 go_enter Tryz.func54,Tryz.ntmps54
 go_wp2_with (first|(refine zBXd ?_;clear M;intro w' g M)|refine zLDo ((HB.o.below M.bel)) ?_|refine zLAd ?_)
 go_ret
 exact⟨rfl,M.o.ext⟩
theorem Aky(Γ:Gam)(s:Sto)(v:Sls)(gs:Nat)(A:Option Addr)(n c:Nat)(hn:n<=65535)(w:World)(ok:Ok Γ w)(hb:HL w gs (stP s v) stL)(h:TsG Γ A n s.tabs) :
  Calls Tryz.prog 53 #[.slice A n c,.func (Fn.func 54) #[] #[.pointer (some ⟨gs,0,none⟩)]] w fun e w'=>e=.returned (.int .i64 (idxI (fun t=>decide (t.c=s.just)) s.tabs))/\Ext Γ w Γ w':=by
 have M:=bx (MM.start ok)
 have HB:=bx hb
 have HT:=bx h
 have LN:=bx h.1
 clear h ok hb
 go_enter Tryz.func53,Tryz.ntmps53
 go_wp2_with (fail)
 go_loopw [8] (fun i wr=>∃k:Nat,k<=n/\i=.int .i64 k/\(∀j (hj:j<s.tabs.length),j<k->decide (s.tabs[j].c=s.just)=false)/\MM Γ w Γ wr [] []) (fun i _=>n-(intOf i).toNat)
 case atStart=>exact⟨0,Nat.zero_le _,rfl,fun j _ hj=>absurd hj (Nat.not_lt_zero _),M.o⟩
 case round=>
  obtain⟨k,hk,rfl,hno,hM⟩:=hrel
  clear M
  have M:=bx hM
  have HNO:=bx hno
  clear hM hno
  by_cases hkn:k<n
  .have hkl:k<s.tabs.length:=by rw[LN.o];exact hkn
   obtain⟨gt,sv,rfl,hst,hc⟩:=HT.o.at k hkn
   have F1:Bx (Fz Γ gt (k*34) (tbP s.tabs[k].c sv) [1,32,1]):=⟨hc,AaS _ _⟩
   have FND:=bx (fun e=>AeR (p:=fun t=>decide (t.c=s.just)) hkl (fun j hj=>HNO.o j (Nat.lt_trans hj hkl) hj) e)
   have NXT:=bx (fun(e:decide (s.tabs[k].c=s.just)=false) j (hj:j<s.tabs.length) (hjk:j<k+1)=>(Nat.lt_or_eq_of_le (Nat.le_of_lt_succ hjk)).elim (HNO.o j hj) (fun h=>by subst h;exact e))
   have CL:=bx (fun t w ok hb=>AlH Γ s v gs t sv w ok hb)
   have hki:(k:Int)<(n:Int):=by omega
   have hk0:0<=(k:Int):=by omega
   clear hst hc
   generalize s.tabs[k].c=tc at *
   go_wp2_with (refine zRFd F1 ?_)
   refine(CL.o tc _ M.ok (HB.o.below M.bel)).mono ?_
   rintro e1 w1 ⟨rfl,hx⟩
   replace M:=bx (M.o.call hx)
   clear hx CL
   cases he:decide (tc=s.just)with
   |true=>
    have HE:=bx he
    clear he
    go_wp2_with (fail)
    go_ret
    exact⟨by rw[FND.o HE.o];rfl,M.o.ext⟩
   |false=>
    have HE:=bx he
    clear he
    go_wp2_with (fail)
    go_roundw
    case rel=>exact⟨k+1,by omega,by go_num,NXT.o HE.o,M.o⟩
    case measure=>simp[intOf];omega
  .obtain rfl:k=n:=by omega
   have HR:=bx (AeS (p:=fun t=>decide (t.c=s.just)) (fun j hj=>HNO.o j hj (by rw[<-LN.o];exact hj)))
   go_wp2_with (fail)
   go_ret
   exact⟨by rw[HR.o];rfl,M.o.ext⟩
theorem Aqt{k:Nat}{s:Sto}(h:SI k s):GOk s.eqv:=fun x hx=>by
 have:=h.eqr x hx
 have:=h.bal
 omega
theorem ApK{k:Nat}{s:Sto}(h:SI k s):∃i,∃hi:i<s.tabs.length,idxI (fun t=>decide (t.c=s.just)) s.tabs=(i:Int)/\s.balj=s.tabs[i].b:=by
 rcases Aay (fun t:Tbl=>decide (t.c=s.just)) s.tabs with⟨_,h2⟩|⟨i,hi,h1,_⟩
 .obtain⟨t,ht,e⟩:=h.tab
  have:=h2 t ht
  simp[e]at this
 .exact⟨i,hi,h1,Ahe hi h1⟩
theorem AfQ(Γ:Gam)(s:Sto)(v:Sls)(k:Nat)(hs:SI k s)(hk:k<=40)(w:World)(ok:Ok Γ w)(h:StG Γ v s) :
  Calls Tryz.prog 27 #[.agg (fl (stP s v)).toArray] w (Old.UP s.nodes.length s.db w):=by
 have M:=bx (MM.start ok)
 have hw:=hs.wok hk
 have hmf:∀(fn:Fn) (first cap:Array Value) (w:World),(Instr.makeFunc fn first cap).run Tryz.prog w=.ok (.func fn first cap) w:=fun _ _ _ _=>rfl
 have nx:=h.nodes.n
 have lx:=h.lat.n
 have ex:=h.eqv.n
 have hlv:v.lat.n=s.balj.length:=lx.trans hw.lat
 have LV:Bx (v.lat.v=.slice v.lat.A s.balj.length v.lat.c):=⟨by rw[<-hlv]⟩
 have NV:Bx (v.nodes.v=.slice v.nodes.A s.nodes.length v.nodes.c):=⟨by rw[<-nx]⟩
 have EV:Bx (v.eqv.v=.slice v.eqv.A s.eqv.length v.eqv.c):=⟨by rw[<-ex]⟩
 have IX:Bx (∀(gs:Nat) w,Ok Γ w->HL w gs (stP s v) stL->Calls Tryz.prog 53 #[v.tabs.v,.func (Fn.func 54) #[] #[.pointer (some ⟨gs,0,none⟩)]] w fun e w'=>e=.returned (.int .i64 (idxI (fun t=>decide (t.c=s.just)) s.tabs))/\Ext Γ w Γ w'):=
  ⟨fun gs w ok hb=>Aky Γ s v gs v.tabs.A v.tabs.n v.tabs.c (by rw[<-h.tabs.2.1];exact hw.tb) w ok hb h.tabs.2⟩
 have DI:Bx (∀(A:Option Addr) (c:Nat) w,Ok Γ w->SlG Γ A s.balj.length (us s.balj)->Calls Tryz.prog 55 #[.agg #[v.nodes.v],.agg #[v.lat.v,v.eqv.v],.slice A s.balj.length c] w (Old.UP s.nodes.length s.dl w)):=⟨fun A c w ok hA=>by
  have a1:=NG.nrow (x:=v.nodes) h.nodes ok
  have a2:=Aj6 h.lat ok
  have a3:=AkO h.eqv ok
  rw[nx]at a1
  rw[hlv]at a2
  rw[ex]at a3
  rw[NV.o,LV.o,EV.o]
  exact AjS v.nodes.A v.lat.A v.eqv.A A s.nodes.length v.nodes.c v.lat.c s.eqv.length v.eqv.c s.balj.length c (s.nodes.map toNd) (s.lat.map toVt) s.eqv (ub s.balj) hs.t.wf (Aqt hs) hw.eb hw.sm hw.b7 hw.pos hw.nb w a1 a2 a3 (Aef hA ok)⟩
 have TO:Bx (∀(A:Option Addr) (c:Nat) w,Ok Γ w->SlG Γ A s.balj.length (us s.balj)->Calls Tryz.prog 57 #[.agg #[.slice none 0 0,.slice none 0 0],.slice A s.balj.length c] w fun e w'=>e=.returned (.int .u64 (ub s.balj).sum)/\Below w.heap.size w w'):=⟨fun A c w ok hA=>by
  have:=Akv none none A 0 0 0 0 s.balj.length c [] (ub s.balj) (fun _ h=>by cases h) (Nat.zero_le _) hw.sm (by have:=hw.b7;omega) w ⟨rfl,fun h=>absurd h (Nat.lt_irrefl _)⟩ (Aef hA ok)
  rwa [Ajk _ (by rw[Aji];exact Nat.le_refl _),List.take_of_length_le (by rw[Aji];exact Nat.le_refl _)]at this⟩
 have hsum:=Ac3 hw.sm.1
 have hsumb:=hw.sm.2
 have AM:Bx (∀w,Calls Tryz.prog 56 #[.agg (fl (cfP s.c v.bal)).toArray,.int .u64 (ub s.balj).sum] w fun e w'=>e=.returned (.tuple #[.int .u64 (amt (s.c.spe.n:Int) (s.c.bp.n:Int) (ub s.balj).sum),.int .i64 (amtE (s.c.spe.n:Int) (s.c.bp.n:Int) (ub s.balj).sum)])/\Below w.heap.size w w'):=⟨fun w=>
  AlX (fl (cfP s.c v.bal)) (s.c.spe.n:Int) (s.c.bp.n:Int) (ub s.balj).sum w rfl rfl (by omega) (by have:=s.c.spe.lt;omega) (by omega) (by have:=s.c.bp.lt;omega) hsum (by omega)⟩
 have SA:Bx (amt (s.c.spe.n:Int) (s.c.bp.n:Int) (ub s.balj).sum=s.am):=⟨by unfold Sto.am;rw[Aov hw.sm]⟩
 have AP:=bx (ArD hw.sm).1
 have BO:Bx (∀(A:Option Addr) (c:Nat) (ds:List Int) (a:Int) w,Ok Γ w->Old.U64 ds->0<=a->Old.URow w A s.nodes.length ds->Calls Tryz.prog 58 #[.agg #[v.nodes.v],.slice A s.nodes.length c,.agg (rc s.boost).toArray,.int .u64 a] w (Old.BoP (s.nodes.map toNd) ds s.boost.l a s.nodes.length w)):=⟨fun A c ds a w ok hd ha hr=>by
  have a1:=NG.nrow (x:=v.nodes) h.nodes ok
  rw[nx]at a1
  rw[NV.o]
  exact AgC v.nodes.A A s.nodes.length v.nodes.c c (s.nodes.map toNd) ds hd hw.nb hw.pos s.boost.l s.boost.len a ha w a1 hr⟩
 have DB:Bx (∀q,Old.FK (s.nodes.map toNd) s.boost.l q->boostV (s.nodes.map toNd) s.dl s.boost.l s.am q=s.db):=⟨fun q hq=>by
  rw[Amb hq (Amc s.nodes s.boost)];rfl⟩
 obtain⟨i,hi,hix,hbal⟩:=ApK hs
 rw[hix]at IX
 obtain⟨gt,sv,hA,ht,hc⟩:=h.tabs.2.at i (by rw[<-h.tabs.2.1];exact hi)
 obtain⟨A2,c2,e2,hc2,hs2⟩:=ht.s
 simp only at e2
 subst e2
 rw[<-hbal]at hs2 hc
 have HA:Bx (v.tabs.v=.slice (some ⟨gt,0,none⟩) v.tabs.n v.tabs.c):=⟨by rw[<-hA]⟩
 have F1:Bx (Fz Γ gt (i*34) (tbP s.tabs[i].c (.slice A2 s.balj.length c2)) [1,32,1]):=⟨hc,AaS _ _⟩
 have hki:(i:Int)<(v.tabs.n:Int):=by rw[<-h.tabs.2.1];omega
 have hk0:0<=(i:Int):=by omega
 have HS2:=bx hs2
 rw[SA.o]at AM
 clear ok h hs hw hk nx lx ex hlv LV NV EV hix hbal hA ht hc hc2 hs2 hsum hsumb SA
 generalize s.tabs[i].c=tc at *
 generalize s.db=db at *
 generalize s.dl=dl at *
 generalize s.am=am at *
 generalize(ub s.balj).sum=sm at *
 go_enter Tryz.func27,Tryz.ntmps27
 (go_wp2_with (first|(refine zBXd ?_;clear M;intro w' g M)|refine zLAd ?_))
 refine(IX.o _ _ M.ok M.o.at0).mono ?_
 rintro e1 w1 ⟨rfl,hx1⟩
 replace M:=bx (M.o.call hx1)
 clear hx1 IX
 (go_wp2_with (first|refine zLHd HA ?_|refine zRFd F1 ?_|refine zLAd ?_))
 refine(DI.o A2 c2 _ M.ok HS2.o).mono ?_
 rintro e4 w4 ⟨A4,c4,rfl,hu4,hr4,hx4⟩
 replace M:=bx (M.o.below hx4)
 have HU4:=bx hu4
 have HR4:=bx hr4
 clear hu4 hr4 hx4 DI
 (go_wp2_with (fail))
 refine AaB [] (.steps [(1,0),(0,1),(1,2),(1,3),(2,4),(2,5),(1,6),(1,7),(1,8),(1,9),(1,10)] .leaf) (by kernel_rfl) (by kernel_rfl) ?_;(simp only[MixT6,MT.steps,stepAt,List.getD_cons_zero,List.getD_cons_succ]);replace M:=bx (M.o.drew)
 have HR4':=bx (HR4.o.below (Below.refl _ _).drew)
 clear HR4
 refine zNM ?_
 (repeat(first|refine zM0 ?_|(go_big_quiet_want;first|((first|((with_reducible refine AaT 35 _ rfl [] [.slice none 0 0,.slice none 0 0] ?_ (by kernel_rfl) ?_);rfl)|refine zQAd ?_);go_big_quiet_on;refine zNM ?_)|(refine zQO ?_;go_big_quiet_on))))
 refine zMC (TO.o A2 c2 _ M.ok HS2.o) Tryz.func57 ?_
 rintro e5 w5 ⟨rfl,hx5⟩
 refine⟨_,rfl,hx5,?_⟩
 replace M:=bx (M.o.below hx5)
 have HR5:=bx (HR4'.o.below hx5)
 clear hx5 HR4' TO
 refine zNM ?_
 refine zMRd ?_
 refine zMC (AM.o _) Tryz.func56 ?_
 rintro e6 w6 ⟨rfl,hx6⟩
 refine⟨_,rfl,hx6,?_⟩
 replace M:=bx (M.o.below hx6)
 have HR6:=bx (HR5.o.below hx6)
 clear hx6 HR5 AM
 refine zNM ?_
 refine zMRd ?_
 refine NoPanic.normal ?_
 (go_wp2_with (refine zLAd ?_))
 refine(BO.o A4 c4 dl am _ M.ok HU4.o AP.o HR6.o).mono ?_
 rintro e7 w7 ⟨q,hq,A7,c7,rfl,hu7,hr7,hx7⟩
 replace M:=bx (M.o.below hx7)
 rw[DB.o q hq]at hu7 hr7
 have HU7:=bx hu7
 have HR7:=bx hr7
 clear hu7 hr7 hx7 hq BO DB
 (go_wp2_with (fail))
 go_ret
 exact⟨A7,c7,rfl,HU7.o,HR7.o,M.bel⟩
def WtvP(Γ:Gam)(w:World)(s:Sto)(e:Ending)(w':World):Prop:=∃(A:Option Addr) (c:Nat) (Γ':Gam),e=.returned (.slice A s.nodes.length c)/\CapOk A s.nodes.length c/\SlG Γ' A s.nodes.length (us s.wts)/\Ext Γ w Γ' w'
end Go.Proofs.YtpaihpeoiliioaaGreat
