/- Texts joined: what the walks of this claim stand on (part 40). -/
import Derived.Test.YtpaihpeoiliioaaGreatKK39
set_option linter.all false
set_option maxRecDepth 20000
set_option maxHeartbeats 40000000
namespace Go.Proofs.YtpaihpeoiliioaaGreat
open Go.RowKit Old
theorem stLm:StrT Tryz.prog 25 [(0,1),(1,1),(2,1),(3,1),(4,1),(5,1)] [[.int .i64 0],[.int .i64 0],[.int .i64 0],[.int .i64 0],[.int .i64 0],[.int .u64 0]] [1,1,1,1,1,1]:=Aa9 Tryz.underlying25 (by kernel_rfl) (by kernel_rfl) rfl
theorem stCf:StrT Tryz.prog 32 [(0,6),(6,1),(7,1),(8,4),(12,32),(44,1)] (cfP cf0 sl0) cfL:=Aa9 Tryz.underlying32 (by kernel_rfl) (by kernel_rfl) (AbA _ _)
theorem ztCf:ZeroT Tryz.prog 32 (cfP cf0 sl0) cfL:=⟨fun w=>by kernel_rfl,AbA _ _⟩
theorem Aod(a b c d e:Int)(f:U):Tryz.prog.built 25 [(0,.int .i64 a),(1,.int .i64 b),(2,.int .i64 c),(3,.int .i64 d),(4,.int .i64 e),(5,.int .u64 (f.n:Int))]=some (fl [[.int .i64 a],[.int .i64 b],[.int .i64 c],[.int .i64 d],[.int .i64 e],[.int .u64 (f.n:Int)]]).toArray:=by
 rw[stLm.eq]
 refine AaG (Q:=[[.int .i64 a]]) stLm.len rfl rfl rfl rfl rfl fun hl=>?_
 refine AaG (Q:=[[.int .i64 b]]) hl rfl rfl rfl rfl rfl fun hl=>?_
 refine AaG (Q:=[[.int .i64 c]]) hl rfl rfl rfl rfl rfl fun hl=>?_
 refine AaG (Q:=[[.int .i64 d]]) hl rfl rfl rfl rfl rfl fun hl=>?_
 refine AaG (Q:=[[.int .i64 e]]) hl rfl rfl rfl rfl rfl fun hl=>?_
 refine AaG (Q:=[[.int .u64 (f.n:Int)]]) hl rfl rfl rfl rfl rfl fun hl=>?_
 rfl
theorem Aof(a b c d e:Int)(f g h:U)(t:Wd)(r:Rt):Tryz.prog.built 32 [(0,.agg (fl [[.int .i64 a],[.int .i64 b],[.int .i64 c],[.int .i64 d],[.int .i64 e],[.int .u64 (f.n:Int)]]).toArray),(1,.int .u64 (g.n:Int)),(2,.int .u64 (h.n:Int)),(3,.agg (wc t).toArray),(4,.agg (rc r).toArray)]=some (fl (cfP ⟨a,b,c,d,e,f,g,h,t,r⟩ sl0)).toArray:=by
 rw[stCf.eq]
 refine AaG (Q:=[[.int .i64 a],[.int .i64 b],[.int .i64 c],[.int .i64 d],[.int .i64 e],[.int .u64 (f.n:Int)]]) stCf.len rfl rfl rfl rfl rfl fun hl=>?_
 refine AaG (Q:=[[.int .u64 (g.n:Int)]]) hl rfl rfl rfl rfl rfl fun hl=>?_
 refine AaG (Q:=[[.int .u64 (h.n:Int)]]) hl rfl rfl rfl rfl rfl fun hl=>?_
 refine AaG (Q:=[wc t]) hl rfl rfl rfl (lenW t) rfl fun hl=>?_
 refine AaG (Q:=[rc r]) hl rfl rfl rfl (lenR r) rfl fun hl=>?_
 rfl
theorem AoW(a b c:Int):Tryz.prog.built 27 [(0,.int .u64 a),(1,.int .u64 b),(2,.int .u64 c)]=some (ints .u64 [a,b,c,0]).toArray:=by kernel_rfl
def ttdW(x:Int)(h:0<=x/\x<2):Wd:=⟨[100,0,x,0],rfl,fun y hy=>by simp at hy;omega⟩
theorem Agr:Tryz.prog.builtSlice 3 3 [(0,.int .i64 0),(1,.int .i64 40),(2,.int .i64 100)]=some (fl [[.int .i64 0],[.int .i64 40],[.int .i64 100]]).toArray:=by kernel_rfl
theorem AnR{A:Option Addr}{n c:Nat}{l:List Int}{w:World}(hr:Row w w.heap.size 1 A n (ints .i64 l))(hn:n<=maxLen)(i:Nat)(hi:i<=65535)(j:Int)(hj:j=(i:Int)):∃a:Nat,a<=16777215+i/\∀w',Below w.heap.size w w' ->
  Calls Tryz.prog 50 #[.slice A n c,.int .i64 j] w' fun e w''=>e=.returned (.int .i64 (a:Int))/\Below w'.heap.size w' w'':=
 ⟨atV l i,Aq9 l i,fun w' hb=>hj▸AqB w.heap.size A n c l i hi w' (hr.below hb) hn hb.size⟩
theorem AbL(a m:Nat)(hm:0<m)(j:Int)(hj:j=(m:Int)):∃r:Nat,(a:Int)%j=(r:Int)/\r<m:=⟨a%m,by subst hj;omega,Nat.mod_lt _ hm⟩
theorem Aou:∀(l:List U),(∀x∈l,x.n<40)->(l.map fun x=>(x.n:Int)).sum<=40*(l.length:Int)
 |[],_=>by simp
 |a::t,h=>by
  have h1:=Aou t (fun x hx=>h x (by simp[hx]))
  have h2:=h a (by simp)
  simp only[List.map_cons,List.sum_cons,List.length_cons]
  omega
theorem Aqp:rtB 1≠r0:=fun h=>by
 have:=congrArg (fun r:Rt=>r.l.head?) h
 exact absurd this (by decide +kernel)
theorem Adw{r0 r1 r2 r3 r4 b:Nat}{cb cs:U}{t:Wd}(h0:r0<8)(h1:r1<4)(h2:r2<4)(h3:r3<4)(h4:r4<4)(hcb:1<=cb.n/\cb.n<=5)(hcs:1<=cs.n/\cs.n<=4)(hb:b<=100){bal:List U}(hl:2<=bal.length/\bal.length<=6)(hx:∀x∈bal,x.n<40) :
  CfB ⟨6+(r0:Int),r1,r2,1+(r3:Int),r4,cb,cs,⟨b%18446744073709551616,Nat.mod_lt _ (by decide)⟩,t,rtB 1⟩ bal where
 ok:={spe:=⟨hcs.1,by show cs.n<=64;omega⟩,bp:=by show b%18446744073709551616<=100;omega,nb:=by omega,nl:=by simp only;omega,ol:=by simp only;omega,el:=by simp only;omega,tl:=by simp only;omega,rl:=by simp only;omega,bo:=⟨hcb.1,by show cb.n<=1048576;omega⟩,gen:=Aqp,sum:=by
       have:=Aou bal hx
       unfold tbE valE
       rw[if_pos rfl,if_pos (by omega)]}
 nl:=by simp only;omega
 ol:=by simp only;omega
 el:=by simp only;omega
 tl:=by simp only;omega
 bal:=by omega
 gr:=Ard (by decide)
theorem AgQ{A:Option Addr}{n c:Nat}{l:List Int}{w:World}(hr:Row w w.heap.size 1 A n (ints .i64 l))(hn:n<=maxLen)(i:Nat)(hi:i<=65535)(j:Int)(hj:j=(i:Int))(m:Nat)(hm:0<m)(d:Int)(hd:d=(m:Int)):∃a r:Nat,Bx (∀w',Below w.heap.size w w' ->
  Calls Tryz.prog 50 #[.slice A n c,.int .i64 j] w' fun e w''=>e=.returned (.int .i64 (a:Int))/\Below w'.heap.size w' w'')/\(a:Int)%d=(r:Int)/\r<m/\(0:Int)<=(a:Int)/\(0:Int)<=(r:Int)/\(r:Int)<d:=by
 obtain⟨a,_,ht⟩:=AnR (c:=c) hr hn i hi j hj
 obtain⟨r,h1,h2⟩:=AbL a m hm d hd
 exact⟨a,r,⟨ht⟩,h1,h2,by omega,by omega,by omega⟩
def CfgP(Γ:Gam)(w:World)(e:Ending)(w':World):Prop:=∃(cf:Cf) (sb:Sl) (bal:List U) (Γ':Gam),e=.returned (.agg (fl (cfP cf sb)).toArray)/\CfB cf bal/\SlR Γ' sb bal.length (us bal)/\Ext Γ w Γ' w'
theorem Af4(Γ:Gam)(A:Option Addr)(n c:Nat)(l:List Int)(w:World)(ok:Ok Γ w)(hr:Row w w.heap.size 1 A n (ints .i64 l))(hn:n<=maxLen) :
  Calls Tryz.prog 31 #[.slice A n c] w (CfgP Γ w):=by
 have M:=bx (MM.start ok)
 obtain⟨a0,r0,T0,q0,p0,s0,u0,v0⟩:=AgQ (c:=c) hr hn 0 (by decide) 0 rfl 8 (by decide) 8 rfl
 obtain⟨a1,r1,T1,q1,p1,s1,u1,v1⟩:=AgQ (c:=c) hr hn 1 (by decide) 1 rfl 4 (by decide) 4 rfl
 obtain⟨a2,r2,T2,q2,p2,s2,u2,v2⟩:=AgQ (c:=c) hr hn 2 (by decide) 2 rfl 4 (by decide) 4 rfl
 obtain⟨a3,r3,T3,q3,p3,s3,u3,v3⟩:=AgQ (c:=c) hr hn 3 (by decide) 3 rfl 4 (by decide) 4 rfl
 obtain⟨a4,r4,T4,q4,p4,s4,u4,v4⟩:=AgQ (c:=c) hr hn 4 (by decide) 4 rfl 4 (by decide) 4 rfl
 obtain⟨a5,r5,T5,q5,p5,s5,u5,v5⟩:=AgQ (c:=c) hr hn 5 (by decide) 5 rfl 5 (by decide) 5 rfl
 obtain⟨a6,r6,T6,q6,p6,s6,u6,v6⟩:=AgQ (c:=c) hr hn 6 (by decide) 6 rfl 4 (by decide) 4 rfl
 obtain⟨a7,r7,T7,q7,p7,s7,u7,v7⟩:=AgQ (c:=c) hr hn 7 (by decide) 7 rfl 3 (by decide) 3 rfl
 obtain⟨a8,r8,T8,q8,p8,s8,u8,v8⟩:=AgQ (c:=c) hr hn 8 (by decide) 8 rfl 2 (by decide) 2 rfl
 obtain⟨a9,r9,T9,q9,p9,s9,u9,v9⟩:=AgQ (c:=c) hr hn 9 (by decide) 9 rfl 5 (by decide) 5 rfl
 obtain⟨n9,x9⟩:∃m:Nat,2+(r9:Int)=(m:Int):=⟨2+r9,by omega⟩
 have hn9:2<=n9/\n9<=6:=by omega
 obtain⟨hn9a,hn9b⟩:=hn9
 obtain⟨j7,hj7⟩:∃j:Int,(r7:Int)=j:=⟨_,rfl⟩
 rw[hj7]at q7 u7 v7
 clear hj7 p7
 have ATX:=bx (fun i hi j hj=>AnR (c:=c) hr hn i hi j hj)
 have RF:=bx (fun w=>AbQ 1 w)
 clear ok hr hn
 obtain⟨cb,hcb⟩:∃u:U,u=⟨1+r5,by omega⟩:=⟨_,rfl⟩
 obtain⟨cs,hcs⟩:∃u:U,u=⟨1+r6,by omega⟩:=⟨_,rfl⟩
 have x5:1+(r5:Int)=(cb.n:Int):=by rw[hcb];simp
 have x6:1+(r6:Int)=(cs.n:Int):=by rw[hcs];simp
 have HCB:=bx hcb
 have HCS:=bx hcs
 clear hcb hcs
 have BL:=bx (Aod (6+(r0:Int)) r1 r2 (1+(r3:Int)) r4 cb)
 obtain⟨cfx,hcfx⟩:∃f:(b:Nat)->Cf,f=fun b=>⟨6+(r0:Int),r1,r2,1+(r3:Int),r4,cb,cs,⟨b%18446744073709551616,Nat.mod_lt _ (by decide)⟩,ttdW r8 ⟨u8,v8⟩,rtB 1⟩:=⟨_,rfl⟩
 have HCFX:=bx hcfx
 have BC:Bx (∀b:Nat,b<=100->Tryz.prog.built 32 [(0,.agg (fl [[.int .i64 (6+(r0:Int))],[.int .i64 r1],[.int .i64 r2],[.int .i64 (1+(r3:Int))],[.int .i64 r4],[.int .u64 (cb.n:Int)]]).toArray),(1,.int .u64 (cs.n:Int)),(2,.int .u64 (b:Int)),(3,.agg (ints .u64 [100,0,(r8:Int),0]).toArray),(4,.agg (rc (rtB 1)).toArray)]=some (fl (cfP (cfx b) sl0)).toArray):=⟨fun b hb=>by
  rw[hcfx]
  have e:b%18446744073709551616=b:=Nat.mod_eq_of_lt (by omega)
  have:=Aof (6+(r0:Int)) r1 r2 (1+(r3:Int)) r4 cb cs ⟨b,by omega⟩ (ttdW r8 ⟨u8,v8⟩) (rtB 1)
  simp only[e]
  exact this⟩
 clear hcfx
 go_enter Tryz.func31,Tryz.ntmps31
 go_upto_region 1 with(refine zALd (ztCf) ?_;clear M;intro w' g M)
 go_cut [3]from 5 (fun s3 wx=>∃(g3:Nat) (cf:Cf),s3=.pointer (some ⟨g3,0,none⟩)/\(∀bal:List U,(2<=bal.length/\bal.length<=6)->(∀x∈bal,x.n<40)->CfB cf bal)/\MM Γ w Γ wx [⟨g3,cfP cf sl0,cfL⟩,⟨g,cfP cf0 sl0,cfL⟩] [])
 case first=>
  refine Aad [43] (.steps [(1,0),(1,4),(1,7),(1,10),(1,14),(1,17),(1,23),(1,29),(1,35),(4,1),(1,2),(1,3),(4,5),(1,6),(4,8),(1,9),(4,11),(1,12),(1,13),(4,15),(1,16),(4,18),(1,19),(1,20),(1,21),(1,22),(4,24),(1,25),(1,26),(1,27),(4,30),(1,31),(4,36),(1,37),(1,38),(1,39),(4,40)] (.fork 28 (.steps [(1,32),(0,33),(1,34),(1,41),(2,42),(3,43)] .leaf) 42 (.steps [(2,28),(1,32),(0,33),(1,34),(1,41),(3,43)] .leaf))) (by kernel_rfl) (by kernel_rfl) ?_;(simp only[MixT8,MT.steps,stepAt,List.getD_cons_zero,List.getD_cons_succ]);replace M:=bx (M.o.drew)
  refine zNM ?_
  refine zMRd ?_
  (refine Aa4 (fun w' hw'=>(T0.o _ (M.bel.trans (hw'.o.mono M.bel.size)))) Tryz.func50 rfl rfl rfl ?_ ?_ ?_);rfl;rfl;refine zNM ?_;(repeat(first|refine zM0 ?_|(go_big_quiet_want;(refine zQO ?_;go_big_quiet_on))))
  (refine Aa4 (fun w' hw'=>(T1.o _ (M.bel.trans (hw'.o.mono M.bel.size)))) Tryz.func50 rfl rfl rfl ?_ ?_ ?_);rfl;rfl;refine zNM ?_;(repeat(first|refine zM0 ?_|(go_big_quiet_want;(refine zQO ?_;go_big_quiet_on))))
  (refine Aa4 (fun w' hw'=>(T2.o _ (M.bel.trans (hw'.o.mono M.bel.size)))) Tryz.func50 rfl rfl rfl ?_ ?_ ?_);rfl;rfl;refine zNM ?_;(repeat(first|refine zM0 ?_|(go_big_quiet_want;(refine zQO ?_;go_big_quiet_on))))
  (refine Aa4 (fun w' hw'=>(T3.o _ (M.bel.trans (hw'.o.mono M.bel.size)))) Tryz.func50 rfl rfl rfl ?_ ?_ ?_);rfl;rfl;refine zNM ?_;(repeat(first|refine zM0 ?_|(go_big_quiet_want;(refine zQO ?_;go_big_quiet_on))))
  (refine Aa4 (fun w' hw'=>(T4.o _ (M.bel.trans (hw'.o.mono M.bel.size)))) Tryz.func50 rfl rfl rfl ?_ ?_ ?_);rfl;rfl;refine zNM ?_;(repeat(first|refine zM0 ?_|(go_big_quiet_want;(refine zQO ?_;go_big_quiet_on))))
  (refine Aa4 (fun w' hw'=>(T5.o _ (M.bel.trans (hw'.o.mono M.bel.size)))) Tryz.func50 rfl rfl rfl ?_ ?_ ?_);rfl;rfl;refine zNM ?_;(repeat(first|refine zM0 ?_|(go_big_quiet_want;(refine zQO ?_;go_big_quiet_on))))
  (refine Aa4 (fun w' hw'=>(T6.o _ (M.bel.trans (hw'.o.mono M.bel.size)))) Tryz.func50 rfl rfl rfl ?_ ?_ ?_);rfl;rfl;refine zNM ?_;(repeat(first|refine zM0 ?_|(go_big_quiet_want;(refine zQO ?_;go_big_quiet_on))))
  (refine Aa4 (fun w' hw'=>(T7.o _ (M.bel.trans (hw'.o.mono M.bel.size)))) Tryz.func50 rfl rfl rfl ?_ ?_ ?_);rfl;rfl;refine zNM ?_;(repeat(first|refine zM0 ?_|(go_big_quiet_want;(refine zQO ?_;go_big_quiet_on))))
  (refine Aa4 (fun w' hw'=>(T8.o _ (M.bel.trans (hw'.o.mono M.bel.size)))) Tryz.func50 rfl rfl rfl ?_ ?_ ?_);rfl;rfl;refine zNM ?_;(repeat(first|refine zM0 ?_|(go_big_quiet_want;first|((with_reducible refine AaT 27 _ rfl [(0,.int .u64 100),(1,.int .u64 0),(2,.int .u64 (r8:Int))] _ ?_ (AoW 100 0 (r8:Int)) ?_);rfl;go_big_quiet_on;refine zNM ?_)|(refine zQO ?_;go_big_quiet_on))))
  (refine Aa4 (fun w' hw'=>((RF.o _))) Tryz.func14 rfl rfl rfl ?_ ?_ ?_);rfl;rfl;refine zNM ?_
  refine zH8 M ?_;clear M;intro w8 M
  rcases(by omega:j7=0\/j7=1\/j7=2)with rfl|rfl|rfl
  .refine⟨?_,?_⟩
   .refine AaA (Ad7 Tryz.underlying22 [(0,.int .i64 0),(1,.int .i64 40),(2,.int .i64 100)] (fl [[.int .i64 0],[.int .i64 40],[.int .i64 100]]) rfl rfl Agr) rfl ?_;refine⟨ext_alloc _ _,?_⟩;replace M:=bx (M.o.alloc (P:=[[.int .i64 0],[.int .i64 40],[.int .i64 100]]) (ls:=[1,1,1]) rfl rfl 3);refine zNM ?_
    (repeat(first|refine zM0 ?_|(go_big_quiet_want;first|((first|((with_reducible refine AaT 32 _ rfl [(0,.agg (fl [[.int .i64 (6+(r0:Int))],[.int .i64 r1],[.int .i64 r2],[.int .i64 (1+(r3:Int))],[.int .i64 r4],[.int .u64 (cb.n:Int)]]).toArray),(1,.int .u64 (cs.n:Int)),(2,.int .u64 ((0:Nat):Int)),(3,.agg (ints .u64 [100,0,(r8:Int),0]).toArray),(4,.agg (rc (rtB 1)).toArray)] _ ?_ (BC.o 0 (by decide)) ?_);rfl)|refine zQAd ?_);go_big_quiet_on;refine zNM ?_)|(refine zQO ?_;go_big_quiet_on))))
    refine zH8 M ?_;clear M;intro w8 M
    refine AaA (AaR rfl ztCf) rfl ?_;refine⟨ext_alloc _ _,?_⟩;replace M:=bx (M.o.alloc (P:=(cfP cf0 sl0)) (ls:=cfL) (AbA _ _) rfl 32);refine zNM ?_
    (repeat(fail))
    refine zH8 M ?_;clear M;intro w8 M
    refine zXS M 0 (cfP (cfx 0) sl0) (cfP (cfx 0) sl0) (AbA _ _) (Ad4 _ _) ?_;clear M;intro w7 M
    refine zH8 M ?_;clear M;intro w9 M;refine NoPanic.normal ?_
    (go_wp2_with (fail))
    go_meet
    case rel=>exact⟨_,cfx 0,rfl,fun bal h1 h2=>(show CfB (cfx 0) bal by rw[HCFX.o];exact Adw p0 (by omega) (by omega) (by omega) (by omega) (by rw[HCB.o];constructor<;>simp<;>omega) (by rw[HCS.o];constructor<;>simp<;>omega) (by decide) h1 h2),M.o.drop2⟩
   .refine AaA (AaR rfl ztCf) rfl ?_;refine⟨ext_alloc _ _,?_⟩;replace M:=bx (M.o.alloc (P:=(cfP cf0 sl0)) (ls:=cfL) (AbA _ _) rfl 32);refine zNM ?_
    (repeat(fail))
    refine zH8 M ?_;clear M;intro w8 M
    refine AaA (Ad7 Tryz.underlying22 [(0,.int .i64 0),(1,.int .i64 40),(2,.int .i64 100)] (fl [[.int .i64 0],[.int .i64 40],[.int .i64 100]]) rfl rfl Agr) rfl ?_;refine⟨ext_alloc _ _,?_⟩;replace M:=bx (M.o.alloc (P:=[[.int .i64 0],[.int .i64 40],[.int .i64 100]]) (ls:=[1,1,1]) rfl rfl 3);refine zNM ?_
    (repeat(first|refine zM0 ?_|(go_big_quiet_want;first|((first|((with_reducible refine AaT 32 _ rfl [(0,.agg (fl [[.int .i64 (6+(r0:Int))],[.int .i64 r1],[.int .i64 r2],[.int .i64 (1+(r3:Int))],[.int .i64 r4],[.int .u64 (cb.n:Int)]]).toArray),(1,.int .u64 (cs.n:Int)),(2,.int .u64 ((0:Nat):Int)),(3,.agg (ints .u64 [100,0,(r8:Int),0]).toArray),(4,.agg (rc (rtB 1)).toArray)] _ ?_ (BC.o 0 (by decide)) ?_);rfl)|refine zQAd ?_);go_big_quiet_on;refine zNM ?_)|(refine zQO ?_;go_big_quiet_on))))
    refine zH8 M ?_;clear M;intro w8 M
    refine zXS M 1 (cfP (cfx 0) sl0) (cfP (cfx 0) sl0) (AbA _ _) (Ad4 _ _) ?_;clear M;intro w7 M
    refine zH8 M ?_;clear M;intro w9 M;refine NoPanic.normal ?_
    (go_wp2_with (fail))
    go_meet
    case rel=>exact⟨_,cfx 0,rfl,fun bal h1 h2=>(show CfB (cfx 0) bal by rw[HCFX.o];exact Adw p0 (by omega) (by omega) (by omega) (by omega) (by rw[HCB.o];constructor<;>simp<;>omega) (by rw[HCS.o];constructor<;>simp<;>omega) (by decide) h1 h2),M.o.swap.drop2⟩
  .refine⟨?_,?_⟩
   .refine AaA (Ad7 Tryz.underlying22 [(0,.int .i64 0),(1,.int .i64 40),(2,.int .i64 100)] (fl [[.int .i64 0],[.int .i64 40],[.int .i64 100]]) rfl rfl Agr) rfl ?_;refine⟨ext_alloc _ _,?_⟩;replace M:=bx (M.o.alloc (P:=[[.int .i64 0],[.int .i64 40],[.int .i64 100]]) (ls:=[1,1,1]) rfl rfl 3);refine zNM ?_
    (repeat(first|refine zM0 ?_|(go_big_quiet_want;first|((first|((with_reducible refine AaT 32 _ rfl [(0,.agg (fl [[.int .i64 (6+(r0:Int))],[.int .i64 r1],[.int .i64 r2],[.int .i64 (1+(r3:Int))],[.int .i64 r4],[.int .u64 (cb.n:Int)]]).toArray),(1,.int .u64 (cs.n:Int)),(2,.int .u64 ((40:Nat):Int)),(3,.agg (ints .u64 [100,0,(r8:Int),0]).toArray),(4,.agg (rc (rtB 1)).toArray)] _ ?_ (BC.o 40 (by decide)) ?_);rfl)|refine zQAd ?_);go_big_quiet_on;refine zNM ?_)|(refine zQO ?_;go_big_quiet_on))))
    refine zH8 M ?_;clear M;intro w8 M
    refine AaA (AaR rfl ztCf) rfl ?_;refine⟨ext_alloc _ _,?_⟩;replace M:=bx (M.o.alloc (P:=(cfP cf0 sl0)) (ls:=cfL) (AbA _ _) rfl 32);refine zNM ?_
    (repeat(fail))
    refine zH8 M ?_;clear M;intro w8 M
    refine zXS M 0 (cfP (cfx 40) sl0) (cfP (cfx 40) sl0) (AbA _ _) (Ad4 _ _) ?_;clear M;intro w7 M
    refine zH8 M ?_;clear M;intro w9 M;refine NoPanic.normal ?_
    (go_wp2_with (fail))
    go_meet
    case rel=>exact⟨_,cfx 40,rfl,fun bal h1 h2=>(show CfB (cfx 40) bal by rw[HCFX.o];exact Adw p0 (by omega) (by omega) (by omega) (by omega) (by rw[HCB.o];constructor<;>simp<;>omega) (by rw[HCS.o];constructor<;>simp<;>omega) (by decide) h1 h2),M.o.drop2⟩
   .refine AaA (AaR rfl ztCf) rfl ?_;refine⟨ext_alloc _ _,?_⟩;replace M:=bx (M.o.alloc (P:=(cfP cf0 sl0)) (ls:=cfL) (AbA _ _) rfl 32);refine zNM ?_
    (repeat(fail))
    refine zH8 M ?_;clear M;intro w8 M
    refine AaA (Ad7 Tryz.underlying22 [(0,.int .i64 0),(1,.int .i64 40),(2,.int .i64 100)] (fl [[.int .i64 0],[.int .i64 40],[.int .i64 100]]) rfl rfl Agr) rfl ?_;refine⟨ext_alloc _ _,?_⟩;replace M:=bx (M.o.alloc (P:=[[.int .i64 0],[.int .i64 40],[.int .i64 100]]) (ls:=[1,1,1]) rfl rfl 3);refine zNM ?_
    (repeat(first|refine zM0 ?_|(go_big_quiet_want;first|((first|((with_reducible refine AaT 32 _ rfl [(0,.agg (fl [[.int .i64 (6+(r0:Int))],[.int .i64 r1],[.int .i64 r2],[.int .i64 (1+(r3:Int))],[.int .i64 r4],[.int .u64 (cb.n:Int)]]).toArray),(1,.int .u64 (cs.n:Int)),(2,.int .u64 ((40:Nat):Int)),(3,.agg (ints .u64 [100,0,(r8:Int),0]).toArray),(4,.agg (rc (rtB 1)).toArray)] _ ?_ (BC.o 40 (by decide)) ?_);rfl)|refine zQAd ?_);go_big_quiet_on;refine zNM ?_)|(refine zQO ?_;go_big_quiet_on))))
    refine zH8 M ?_;clear M;intro w8 M
    refine zXS M 1 (cfP (cfx 40) sl0) (cfP (cfx 40) sl0) (AbA _ _) (Ad4 _ _) ?_;clear M;intro w7 M
    refine zH8 M ?_;clear M;intro w9 M;refine NoPanic.normal ?_
    (go_wp2_with (fail))
    go_meet
    case rel=>exact⟨_,cfx 40,rfl,fun bal h1 h2=>(show CfB (cfx 40) bal by rw[HCFX.o];exact Adw p0 (by omega) (by omega) (by omega) (by omega) (by rw[HCB.o];constructor<;>simp<;>omega) (by rw[HCS.o];constructor<;>simp<;>omega) (by decide) h1 h2),M.o.swap.drop2⟩
  .refine⟨?_,?_⟩
   .refine AaA (Ad7 Tryz.underlying22 [(0,.int .i64 0),(1,.int .i64 40),(2,.int .i64 100)] (fl [[.int .i64 0],[.int .i64 40],[.int .i64 100]]) rfl rfl Agr) rfl ?_;refine⟨ext_alloc _ _,?_⟩;replace M:=bx (M.o.alloc (P:=[[.int .i64 0],[.int .i64 40],[.int .i64 100]]) (ls:=[1,1,1]) rfl rfl 3);refine zNM ?_
    (repeat(first|refine zM0 ?_|(go_big_quiet_want;first|((first|((with_reducible refine AaT 32 _ rfl [(0,.agg (fl [[.int .i64 (6+(r0:Int))],[.int .i64 r1],[.int .i64 r2],[.int .i64 (1+(r3:Int))],[.int .i64 r4],[.int .u64 (cb.n:Int)]]).toArray),(1,.int .u64 (cs.n:Int)),(2,.int .u64 ((100:Nat):Int)),(3,.agg (ints .u64 [100,0,(r8:Int),0]).toArray),(4,.agg (rc (rtB 1)).toArray)] _ ?_ (BC.o 100 (by decide)) ?_);rfl)|refine zQAd ?_);go_big_quiet_on;refine zNM ?_)|(refine zQO ?_;go_big_quiet_on))))
    refine zH8 M ?_;clear M;intro w8 M
    refine AaA (AaR rfl ztCf) rfl ?_;refine⟨ext_alloc _ _,?_⟩;replace M:=bx (M.o.alloc (P:=(cfP cf0 sl0)) (ls:=cfL) (AbA _ _) rfl 32);refine zNM ?_
    (repeat(fail))
    refine zH8 M ?_;clear M;intro w8 M
    refine zXS M 0 (cfP (cfx 100) sl0) (cfP (cfx 100) sl0) (AbA _ _) (Ad4 _ _) ?_;clear M;intro w7 M
    refine zH8 M ?_;clear M;intro w9 M;refine NoPanic.normal ?_
    (go_wp2_with (fail))
    go_meet
    case rel=>exact⟨_,cfx 100,rfl,fun bal h1 h2=>(show CfB (cfx 100) bal by rw[HCFX.o];exact Adw p0 (by omega) (by omega) (by omega) (by omega) (by rw[HCB.o];constructor<;>simp<;>omega) (by rw[HCS.o];constructor<;>simp<;>omega) (by decide) h1 h2),M.o.drop2⟩
   .refine AaA (AaR rfl ztCf) rfl ?_;refine⟨ext_alloc _ _,?_⟩;replace M:=bx (M.o.alloc (P:=(cfP cf0 sl0)) (ls:=cfL) (AbA _ _) rfl 32);refine zNM ?_
    (repeat(fail))
    refine zH8 M ?_;clear M;intro w8 M
    refine AaA (Ad7 Tryz.underlying22 [(0,.int .i64 0),(1,.int .i64 40),(2,.int .i64 100)] (fl [[.int .i64 0],[.int .i64 40],[.int .i64 100]]) rfl rfl Agr) rfl ?_;refine⟨ext_alloc _ _,?_⟩;replace M:=bx (M.o.alloc (P:=[[.int .i64 0],[.int .i64 40],[.int .i64 100]]) (ls:=[1,1,1]) rfl rfl 3);refine zNM ?_
    (repeat(first|refine zM0 ?_|(go_big_quiet_want;first|((first|((with_reducible refine AaT 32 _ rfl [(0,.agg (fl [[.int .i64 (6+(r0:Int))],[.int .i64 r1],[.int .i64 r2],[.int .i64 (1+(r3:Int))],[.int .i64 r4],[.int .u64 (cb.n:Int)]]).toArray),(1,.int .u64 (cs.n:Int)),(2,.int .u64 ((100:Nat):Int)),(3,.agg (ints .u64 [100,0,(r8:Int),0]).toArray),(4,.agg (rc (rtB 1)).toArray)] _ ?_ (BC.o 100 (by decide)) ?_);rfl)|refine zQAd ?_);go_big_quiet_on;refine zNM ?_)|(refine zQO ?_;go_big_quiet_on))))
    refine zH8 M ?_;clear M;intro w8 M
    refine zXS M 1 (cfP (cfx 100) sl0) (cfP (cfx 100) sl0) (AbA _ _) (Ad4 _ _) ?_;clear M;intro w7 M
    refine zH8 M ?_;clear M;intro w9 M;refine NoPanic.normal ?_
    (go_wp2_with (fail))
    go_meet
    case rel=>exact⟨_,cfx 100,rfl,fun bal h1 h2=>(show CfB (cfx 100) bal by rw[HCFX.o];exact Adw p0 (by omega) (by omega) (by omega) (by omega) (by rw[HCB.o];constructor<;>simp<;>omega) (by rw[HCS.o];constructor<;>simp<;>omega) (by decide) h1 h2),M.o.swap.drop2⟩
 clear M q0 q1 q2 q3 q4 q5 q6 q7 q8 x5 x6 HCB HCS HCFX BL BC T0 T1 T2 T3 T4 T5 T6 T7 T8
 obtain⟨g3,cf,rfl,hc9,hM⟩:=hcut
 have M:=bx hM
 have HCB9:=bx hc9
 clear hM hc9
 (go_wp2_with (fail))
 replace M:=bx (M.o.row0 23 1)
 go_loopw [4] (fun i wr=>∃(k:Nat) (bal:List U) (A':Option Addr) (c':Nat),k<=n9/\i=.int .i64 k/\bal.length=k/\(∀x∈bal,x.n<40)/\MM Γ w Γ wr [⟨g3,cfP cf ⟨A',k,c'⟩,cfL⟩,⟨g,cfP cf0 sl0,cfL⟩] [⟨.slice A' k c',23,1,k,us bal⟩]) (fun i _=>n9-(intOf i).toNat)
 case atStart=>exact⟨0,[],none,0,Nat.zero_le _,rfl,rfl,fun x hx=>(by cases hx),M.o⟩
 case round=>
  obtain⟨k,bal,A',c',hk,rfl,hbl,hbx,hM⟩:=hrel
  clear M
  have M:=bx hM
  have HBX:=bx (And.intro hbl hbx)
  clear hM hbl hbx
  (go_wp2_with (fail))
  (refine(T9.o _ M.bel).mono ?_);rintro e1 w1 ⟨rfl,hx1⟩;replace M:=bx (M.o.below hx1);clear hx1
  by_cases hkn:k<n9
  .have hki:(k:Int)<(n9:Int):=by omega
   obtain⟨ak,lk,tk⟩:=ATX.o (10+k) (by omega) (10+(k:Int)) (by omega)
   have TK:=bx tk
   obtain⟨rk,qk,pk⟩:=AbL ak 40 (by decide) 40 rfl
   clear tk lk
   have sk:(0:Int)<=(ak:Int):=by omega
   have uk:(0:Int)<=(rk:Int):=by omega
   have vk:(rk:Int)<40:=by omega
   obtain⟨bu,hbu⟩:∃u:U,u.n=rk:=⟨⟨rk,by omega⟩,rfl⟩
   have HBU:=bx hbu
   clear hbu
   (go_wp2_with (fail))
   refine Aad [9,11] (.steps [(1,0),(0,1),(1,2),(1,3),(1,4),(4,5),(1,6),(1,7),(2,8),(3,9),(1,10),(3,11)] .leaf) (by kernel_rfl) (by kernel_rfl) ?_;(simp only[MixT8,MT.steps,stepAt,List.getD_cons_zero,List.getD_cons_succ]);replace M:=bx (M.o.drew)
   refine zNM ?_
   refine zMRd ?_
   (refine Aa4 (fun w' hw'=>(TK.o _ (M.bel.trans (hw'.o.mono M.bel.size)))) Tryz.func50 rfl rfl rfl ?_ ?_ ?_);rfl;rfl;refine zNM ?_;(repeat(first|refine zM0 ?_|(go_big_quiet_want;(refine zQO ?_;go_big_quiet_on))))
   refine zH8 M ?_;clear M;intro w8 M
   refine AaA (Aau Aia rfl rfl (v:=(.int .u64 (rk:Int))) (cs:=[(.int .u64 (rk:Int))]) rfl rfl) rfl ?_;refine⟨ext_alloc _ _,?_⟩;replace M:=bx (M.o.alloc (P:=[[(.int .u64 (rk:Int))]]) (ls:=[1]) rfl rfl 23);refine zNM ?_
   refine zH8 M ?_;clear M;intro w8 M
   (obtain⟨v5,w5,hr,hM⟩:=AaW Aia M.o 30 _ 1 1 _ (Aaf M.o.at0 (m:=1) rfl) (fun h=>by cases h) (Abk _ _) (by unfold maxLen;omega) (by omega));refine AaA (AaE rfl rfl rfl hr) rfl ?_;replace M:=bx (hM.tail);clear hr hM;refine zNM ?_
   (obtain⟨A6,c6,e6⟩:=own_slice (M.o.rows _ (List.mem_cons_self ..));simp only at e6;subst e6)
   refine zMRd ?_
   refine zH8 M ?_;clear M;intro w8 M
   refine zX1 M 0 (.slice A6 (k+1) c6) (cfP cf ⟨A6,k+1,c6⟩) ?_;clear M;intro w7 M
   refine zH8 M ?_;clear M;intro w9 M;refine NoPanic.normal ?_
   (go_wp2_with (fail))
   go_roundw
   case rel=>
    have hM:=M.o
    rw[show us bal++fl [[Value.int .u64 (rk:Int)]]=us (bal ++ [bu])by rw[<-HBU.o];simp[us,fl,U.v]]at hM
    exact⟨k+1,bal ++ [bu],A6,c6,by omega,by go_num,by simp[HBX.o.1],fun y hy=>by
     rcases List.mem_append.1 hy with hy|hy
     .exact HBX.o.2 y hy
     .have:y=bu:=by simpa using hy
      rw[this,HBU.o];exact pk,hM⟩
   case measure=>simp[intOf];omega
  .obtain rfl:k=n9:=by omega
   (go_wp2_with (first|(refine zSSd M 1 (cfP cf ⟨A',k,c'⟩) (cfP cf ⟨A',k,c'⟩) (AbA _ _) (Ad4 _ _) ?_;clear M;intro w' M)|refine zLAd ?_))
   obtain⟨Γ',h1,h2,h3,h4⟩:=M.o.frz
   refine zR h4.at1 ?_
   exact⟨cf,⟨A',k,c'⟩,bal,Γ',rfl,HCB9.o bal (by rw[HBX.o.1];omega) HBX.o.2,by rw[HBX.o.1];exact⟨rfl,h1,h2⟩,h4.ext⟩
end Go.Proofs.YtpaihpeoiliioaaGreat
