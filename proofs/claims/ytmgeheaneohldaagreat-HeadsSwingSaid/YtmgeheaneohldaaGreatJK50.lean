/- Texts joined: what the walks of this claim stand on (part 50). -/
import Derived.Test.YtmgeheaneohldaaGreatJK48
set_option linter.all false
set_option maxRecDepth 20000
set_option maxHeartbeats 40000000
namespace Go.Proofs.YtmgeheaneohldaaGreat
open Go.RowKit Old
theorem Alm{s s':Sto}(hn:s'.nodes=s.nodes)(hq:∀i,s'.qual i=s.qual i):s'.lives=s.lives:=by
 have key:∀f i,s'.liveF f i=s.liveF f i:=by
  intro f
  induction f with
  |zero=>intro i;rfl
  |succ f ih=>
   intro i
   show(s'.qual i||(kids s'.nodes i).any fun k=>s'.liveF f (k:Int))=(s.qual i||(kids s.nodes i).any fun k=>s.liveF f (k:Int))
   rw[hn,hq]
   congr 1
   congr 1
   funext k
   exact ih _
 unfold Sto.lives
 rw[hn]
 congr 1
 funext k
 exact key _ _
theorem SI.swing{k:Nat}{s:Sto}(h:SI k s)(L:List Vo)(hl:L.length=s.lat.length)(hv:∀v∈L,v.has=false->v=vo0):SI k {s with lat:=L,boost:=r0} where
 t:=h.t
 spe:=⟨h.spe.lo,h.spe.hi⟩
 nl:=h.nl
 ol:=h.ol
 el:=h.el
 tl:=h.tl
 bp:=h.bp
 bal:=h.bal
 lat:=hl.trans h.lat
 just:=h.just
 fin:=h.fin
 ord:=h.ord
 tab:=h.tab
 tbs:=h.tbs
 att:=h.att
 eqv:=h.eqv
 now:=h.now
 cf:=h.cf
 lv:=hv
 eqr:=h.eqr
 eqa:=h.eqa
 asc:=h.asc
theorem headsSwing_walk(a0:Option Addr)(n0 c0:Nat)(l0:List Int)(a1:Int)(w:World)(_:Fit .i64 l0)(_:l0.length=n0)(hr0:Row w w.heap.size 1 a0 n0 (ints .i64 l0))(hnc0:n0<=c0)(hcm0:c0<=maxLen)(_:(Lit.int .i64 a1).wf=true) :
  Calls Tryz.prog 10 #[.slice a0 n0 c0,.int .i64 a1] w fun e w'=>e=.returned (.bool true)/\Below w.heap.size w w':=by
 have M:=bx (MM.start (Acy w))
 have ST:=bx (Ab9 g0 a0 n0 c0 l0 w (Acy w) hr0 (Nat.le_trans hnc0 hcm0))
 clear hr0 hnc0 hcm0
 have hat:=AjW a1
 obtain⟨m,hm,hm0⟩:∃m:Nat,a1%65536=(m:Int)/\m<65536:=⟨(a1%65536).toNat,by omega,by omega⟩
 rw[hm]at hat
 clear hm
 go_enter Tryz.func10,Tryz.ntmps10
 (go_wp2_with (fail))
 refine ST.o.mono ?_
 rintro e1 w1 ⟨x,z,Γ1,rfl,hz,hg,hx⟩
 replace M:=bx (M.o.call hx)
 have H0:=bx (HOk.mk hz.s (by decide) hg.s)
 clear hx hz hg ST
 obtain⟨s,hs⟩:∃s:Sto,s = {z.s with boost:=r0}:=⟨_,rfl⟩
 have HP:Bx (stP {z.s with boost:=r0} x.s=stP s x.s):=⟨by rw[hs]⟩
 have H:Bx (HOk Γ1 s x.s 24):=⟨by
  rw[hs]
  have h:=H0.o.si.swing z.s.lat rfl H0.o.si.lv
  exact⟨h,by decide,⟨H0.o.g.bal,H0.o.g.lat,H0.o.g.eqv,H0.o.g.early,H0.o.g.orph,H0.o.g.nodes,H0.o.g.tabs⟩⟩⟩
 have HB0:Bx (s.boost=r0):=⟨by rw[hs]⟩
 clear H0 hs
 go_upto_region 3 with(first|((with_reducible apply Ab7 Aj7);rfl;rfl;rfl;exact AaJ _ _;exact zrts;rfl;refine zCT ?_)|((refine zALd (ztSt) ?_;clear M;intro w' g M);(obtain⟨g5,hg0⟩:∃y,y=g:=⟨_,rfl⟩);subst hg0)|refine zBDd 29 [] (rc r0) (by kernel_rfl) ?_|(refine zSSd M 0 (stP z.s x.s) (stP z.s x.s) (AaD _ _) (AaX _ _) ?_;clear M;intro w' M)|(refine zSSd M 0 [rc r0] (stP {z.s with boost:=r0} x.s) (lenR _) (Aaf _) ?_;clear M;intro w' M))
 rw[HP.o]at M
 generalize x.s=v at *
 clear HP
 obtain⟨h,hh,eh⟩:=Ah2 (H.o.si.wok H.o.k)
 have VH:=bx (fun w ok=>AcZ Γ1 s v _ H.o w ok)
 rw[eh]at VH
 (go_wp2_with (refine zLAd ?_))
 refine(VH.o _ M.ok).mono ?_
 rintro e1 w1 ⟨rfl,hx⟩
 replace M:=bx (M.o.call hx)
 clear hx VH
 have HNN:v.nodes.n=s.nodes.length:=H.o.g.nodes.n
 have HLN:v.lat.n=s.lat.length:=H.o.g.lat.n
 have hlen:s.lat.length=s.bal.length:=H.o.si.lat
 have hbal:=H.o.si.bal
 have hn1:0<v.lat.n:=by omega
 have hn6:v.lat.n<=6:=by omega
 obtain⟨gn,hA,hf⟩:=H.o.g.nodeAt h hh
 have HA:=bx hA
 have F3:=bx hf
 have hhi:(h:Int)<(v.nodes.n:Int):=by omega
 have hh0:(0:Int)<=(h:Int):=by omega
 have nz:((v.lat.n:Int)==0)=false:=by rw[beq_eq_false_iff_ne];omega
 obtain⟨i,hi0,hi1⟩:∃i:Nat,(m:Int)%(v.lat.n:Int)=(i:Int)/\i<v.lat.n:=⟨m%v.lat.n,by omega,Nat.mod_lt _ hn1⟩
 have hii:(i:Int)<(v.lat.n:Int):=by omega
 have hi2:(0:Int)<=(i:Int):=by omega
 have hm2:(0:Int)<=(m:Int):=by omega
 have hil:i<s.lat.length:=by omega
 have ROW:Bx (∀w',Ok Γ1 w'->Row w' w'.heap.size 34 v.lat.A v.lat.n (s.lat.flatMap vox)):=⟨fun w' o=>H.o.g.lat.sl.row (size:=34) (by rw[Aaj s.lat (fun x _=>AcI x),HLN]) o⟩
 have OneN:Bx (One (s.lat.flatMap vox)):=⟨Ab4 fun x _=>AfJ x⟩
 have CAP:=bx H.o.g.lat.cap.nil
 have HLNB:=bx HLN
 clear hA hf hlen hbal HNN HLN
 go_wp2_with (first|refine zLHd HA ?_|(at_builtin;(with_reducible apply Aat (M.o.row0 85 34) elVo (ROW.o _ M.ok) CAP.o);exact OneN.o;(unfold maxLen;omega);omega;rfl;rfl;rfl;rfl;intro A' c' w' M';(simp only[Nat.zero_add,List.nil_append]at M');(replace M:=bx M';clear M'))|(refine zS1d M 0 (.slice A' v.lat.n c') (stP s {v with lat:=⟨A',v.lat.n,c'⟩}) ?_;clear M;intro w' M)|refine zLAd ?_)
 obtain⟨gr,rest,hAg,hcap,M'⟩:=M.o.rowL hn1
 subst hAg
 (replace M:=bx M';clear M')
 have HCAP:=bx hcap
 clear hcap ROW OneN CAP
 obtain⟨q1,q2⟩:=Akw (f:=vox) AcI hil rest
 obtain⟨y,hy⟩:∃y,s.nodes[h]=y:=⟨_,rfl⟩
 rw[hy]at F3
 obtain⟨zv,hzv⟩:∃zv,s.lat[i]=zv:=⟨_,rfl⟩
 have Q1:Bx (fl [s.lat.flatMap vox,rest]=(s.lat.take i).flatMap vox++vox zv++((s.lat.drop (i+1)).flatMap vox++rest)):=⟨by rw[<-hzv];exact q1⟩
 have Q2:Bx (fl [(s.lat.set i ⟨true,zv.e,y.b.root⟩).flatMap vox,rest]=(s.lat.take i).flatMap vox++vox ⟨true,zv.e,y.b.root⟩++((s.lat.drop (i+1)).flatMap vox++rest)):=⟨AfQ hil _ rest⟩
 have Q3:=bx q2
 have FL:Bx (([(s.lat.set i ⟨true,zv.e,y.b.root⟩).flatMap vox,rest]:List (List Value)).map List.length = [(s.lat.flatMap vox).length,rest.length]):=⟨by
  simp only[List.map_cons,List.map_nil,Aaj (f:=vox) _ (fun x _=>AcI x),List.length_set]⟩
 have BV:=bx (AlG zv.e y.b.root)
 have SW:Bx (∀Γ2,Le Γ1 Γ2->Γ2 gr=some (fl [(s.lat.set i ⟨true,zv.e,y.b.root⟩).flatMap vox,rest])->HOk Γ2 {s with lat:=s.lat.set i ⟨true,zv.e,y.b.root⟩,boost:=r0} {v with lat:=⟨some ⟨gr,0,none⟩,v.lat.n,c'⟩} 24):=⟨fun Γ2 hle h1=>by
  have g:=H.o.g.mono hle
  refine⟨H.o.si.swing _ (by rw[List.length_set]) (fun x hx=>?_),by decide,⟨g.bal,⟨by rw[List.length_set];exact HLNB.o,HCAP.o,fun _=>⟨gr,rest,rfl,h1⟩⟩,g.eqv,g.early,g.orph,g.nodes,g.tabs⟩⟩
  rcases List.mem_or_eq_of_mem_set hx with hx|rfl
  .exact H.o.si.lv x hx
  .intro e;cases e⟩
 have SP:Bx (stP s {v with lat:=⟨some ⟨gr,0,none⟩,v.lat.n,c'⟩}=stP {s with lat:=s.lat.set i ⟨true,zv.e,y.b.root⟩,boost:=r0} {v with lat:=⟨some ⟨gr,0,none⟩,v.lat.n,c'⟩}):=⟨by have:=HB0.o;show _=_;unfold stP;rw[this]⟩
 have HW:Bx (∀Γ2,HOk Γ2 {s with lat:=s.lat.set i ⟨true,zv.e,y.b.root⟩,boost:=r0} {v with lat:=⟨some ⟨gr,0,none⟩,v.lat.n,c'⟩} 24->({s with lat:=s.lat.set i ⟨true,zv.e,y.b.root⟩,boost:=r0}:Sto).head=(h:Int)):=⟨fun Γ2 h2=>by
  refine AlZ (s:=s) (v:=i) (h:=h) (hh:=hh) ⟨rfl,Alm rfl (fun _=>rfl),rfl,rfl,rfl,HB0.o,rfl,hil,⟨zv.e,by rw[hy]⟩⟩ H.o.si h2.si (by decide) eh⟩
 clear q1 q2 hy hzv H HB0 HLNB eh
 refine AaB [21] (.steps [(1,0),(1,1),(0,2),(1,3),(1,4),(1,5),(0,6),(1,7),(1,8),(1,9),(0,10),(1,11),(1,12),(0,13),(1,14),(1,15),(1,16),(1,17),(0,18),(1,19),(1,20),(3,21)] .leaf) (by kernel_rfl) (by kernel_rfl) ?_;(simp only[MixT6,MT.steps,stepAt,List.getD_cons_zero,List.getD_cons_succ]);replace M:=bx (M.o.drew)
 have RG:=bx (fun w' hc=>(show CL w' gr (i*34) (voP zv) [1,1,32]from⟨by
  have:=(M.o.at0.cls w' hc).has
  rw[Q1.o]at this
  have:=Ail this
  rw[Q3.o]at this
  exact this,AdN _⟩))
 have HLV:Bx ((⟨some ⟨gr,0,none⟩,v.lat.n,c'⟩:Sl).v=.slice (some ⟨gr,0,none⟩) v.lat.n c'):=⟨rfl⟩
 refine zNM ?_
 (repeat(first|refine zM0 ?_|(go_big_quiet_want;first|(refine zQHd HLV ?_;go_big_quiet_on;refine zNM ?_)|(refine zQHd HA ?_;go_big_quiet_on;refine zNM ?_)|(refine zQFd F3 ?_;go_big_quiet_on;refine zNM ?_)|(refine zQR RG.o (AdN _) ?_;go_big_quiet_on;refine zNM ?_)|((with_reducible refine AaL 85 _ rfl [(0,.bool true),(1,.int .u64 (zv.e.n:Int)),(2,.agg (rc y.b.root).toArray)] (vox ⟨true,zv.e,y.b.root⟩) ?_ BV.o ?_);rfl;go_big_quiet_on;refine zNM ?_)|(refine zQO ?_;go_big_quiet_on))))
 clear RG
 refine Aj1 M.o 0 (vox ⟨true,zv.e,y.b.root⟩) [(s.lat.set i ⟨true,zv.e,y.b.root⟩).flatMap vox,rest] Q1.o Q3.o (by rw[AcI,AcI]) Q2.o FL.o (AcI _) (AfJ _) rfl rfl rfl rfl rtVo rfl ?_
 intro w7 M'
 simp only[List.set_cons_zero,List.set_cons_succ]at M'
 (replace M:=bx M';clear M')
 refine zNM ?_
 refine NoPanic.normal ?_
 obtain⟨Γ2,h1,hle,hM⟩:=M.o.frzL
 clear M
 have M:=bx hM
 have H2:=bx (SW.o Γ2 hle h1)
 have E2:=bx (HW.o Γ2 H2.o)
 clear h1 hle hM SW HW Q1 Q2 Q3 FL BV F3 HA
 rw[SP.o]at M
 clear SP
 generalize({s with lat:=s.lat.set i ⟨true,zv.e,y.b.root⟩,boost:=r0}:Sto)=s2 at *
 generalize({v with lat:=⟨some ⟨gr,0,none⟩,v.lat.n,c'⟩}:Sls)=v2 at *
 have VH:=bx (fun w ok=>AcZ Γ2 s2 v2 _ H2.o w ok)
 rw[E2.o]at VH
 (go_wp2_with (refine zLAd ?_))
 refine(VH.o _ M.ok).mono ?_
 rintro e1 w1 ⟨rfl,hx⟩
 replace M:=bx (M.o.call hx)
 clear hx VH
 (go_wp2_with (fail))
 refine zCB M (Acj _) ?_;clear M;intro w1 M
 (go_wp2_with (fail))
 go_ret
 exact⟨rfl,M.bel⟩
end Go.Proofs.YtmgeheaneohldaaGreat
