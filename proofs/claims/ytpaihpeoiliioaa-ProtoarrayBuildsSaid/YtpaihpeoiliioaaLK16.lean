/- Texts joined: what the walks of this claim stand on (part 16). -/
import Derived.Test.YtpaihpeoiliioaaLK12
import Derived.Test.YtpaihpeoiliioaaLK15
set_option linter.all false
set_option maxRecDepth 20000
set_option maxHeartbeats 40000000
namespace Go.Proofs.Ytpaihpeoiliioaa
open Go.RowKit Old
theorem Aku(n:Int):bits .and .i64 n 16777215=n%16777216:=Aez n 24 (by decide)
def atV(l:List Int)(i:Nat):Nat:=if l.length=0 then i else(l.getD (i%l.length) 0%16777216).toNat+i / l.length
theorem Al2(l:List Int)(i:Nat):atV l i<=16777215+i:=by
 unfold atV
 split
 .omega
 .have h1:i / l.length<=i:=Nat.div_le_self _ _
  have h2:l.getD (i%l.length) 0%16777216<16777216:=Int.emod_lt_of_pos _ (by decide)
  omega
theorem Akr(B:Nat)(A:Option Addr)(n c:Nat)(l:List Int)(i:Nat)(hi:i<=65535)(w:World)(hr:Row w B 1 A n (ints .i64 l))(hn:n<=maxLen)(hB:B<=w.heap.size) :
  Calls Try.prog 12 #[.slice A n c,.int .i64 i] w fun e w'=>e=.returned (.int .i64 (atV l i:Nat))/\Below w.heap.size w w':=by
 have hnm:n<=9223372036854775807:=hn
 have HL:l.length=n:=by have:=hr.1;simpa [ints]using this
 rcases Nat.eq_zero_or_pos n with h0|h0
 .subst h0
  have BB:=bx (Below.refl w.heap.size w)
  have ha:=Aic (i:Int)
  have hm:(i:Int)%65536=i:=by omega
  rw[hm]at ha
  have hz:((0:Int)==0)=true:=rfl
  have HA:Bx (atV l i=i):=⟨by unfold atV;rw[if_pos HL]⟩
  clear hr HL hm
  rw[HA.o]
  clear HA
  go_enter Try.func12,Try.ntmps12
  go_wp2_with fail
  go_ret
  exact⟨rfl,BB.o⟩
 .have him:i%n<n:=Nat.mod_lt _ h0
  have hgx:(ints .i64 l)[i%n]? = some (.int .i64 (l.getD (i%n) 0)):=by
   have:i%n<l.length:=by rw[HL];exact him
   rw[ints,List.getElem?_map,List.getElem?_eq_getElem this]
   simp[List.getD,List.getElem?_eq_getElem this]
  have HA:Bx (atV l i=(l.getD (i%n) 0%16777216).toNat+i / n):=⟨by unfold atV;rw[if_neg (by omega),HL]⟩
  rw[HA.o]
  generalize l.getD (i%n) 0=x at *
  obtain⟨ad,rfl,hab,hc⟩:=hr.2 _ _ hgx
  have hcell:∀w1:World,Cls w.heap.size w w1->w1.cell? (ad.add (i%n))=some (.int .i64 x):=fun w1 h1=>by
   rw[h1.o.cell (by unfold Addr.add;split<;>(show ad.block<_;omega))];exact hc
  have CX:=bx (fun w1 h1=>AgK (hcell w1 h1))
  have ha:=Aku x
  have hx0:0<=x%16777216:=Int.emod_nonneg _ (by decide)
  have hx1:x%16777216<16777216:=Int.emod_lt_of_pos _ (by decide)
  obtain⟨y,hy⟩:∃y:Nat,x%16777216=(y:Int):=⟨(x%16777216).toNat,by omega⟩
  rw[hy]at ha
  rw[hy,Int.toNat_natCast]
  have hq:i / n<=i:=Nat.div_le_self _ _
  have hm1:((i:Int)%(n:Int))=((i%n:Nat):Int):=by omega
  have hq1:((i:Int) / (n:Int))=((i / n:Nat):Int):=by omega
  have hnn:((n:Int)==0)=false:=by rw[beq_eq_false_iff_ne];omega
  have h1:((i%n:Nat):Int)<(n:Int):=by omega
  have h2:(0:Int)<=((i%n:Nat):Int):=by omega
  clear hr HL hc hgx hcell hab HA
  rw[hy]at hx0 hx1
  clear hy
  generalize i%n=r at *
  generalize hqq:i / n=q at *
  go_enter Try.func12,Try.ntmps12
  go_wp2_with fail
  refine AcK w.heap.size (by kernel_rfl) (by kernel_rfl) ?_
  repeat((go_big_quiet_want;first|((with_reducible refine quiet_cell 3 _ rfl _ _ ?_ CX.o ?_);rfl;go_big_quiet_on;(simp only[Act.put,List.setIfInBounds_toArray,List.set_cons_succ,List.set_cons_zero]))|(go_big_quiet_op;first|go_big_quiet_on|((with_reducible refine⟨_,fun _ _=>rfl,?_⟩);go_big_quiet_on))))
  refine wpQuiet_nil ?_
  intro w4 hw4
  have B4:=bx hw4.o
  clear hw4
  go_wp2_with fail
  go_ret
  exact⟨by simp,B4.o⟩
def rtNum(n:Int):List Int:=((List.replicate 32 0).set 0 (n%256)).set 1 (n / 256%256) |>.set 31 (wrap64 (n*7)%256)
def rtB(n:Int):Rt:=⟨rtNum n,by simp[rtNum],fun x hx=>by
 unfold rtNum at hx
 rcases List.mem_or_eq_of_mem_set hx with hx|rfl
 .rcases List.mem_or_eq_of_mem_set hx with hx|rfl
  .rcases List.mem_or_eq_of_mem_set hx with hx|rfl
   .have:=List.eq_of_mem_replicate hx
    omega
   .omega
  .omega
 .omega⟩
theorem AiV(a b c:Int):Try.prog.built 40 [(0,.int .u8 a),(1,.int .u8 b),(31,.int .u8 c)]=some ((((ints .u8 (List.replicate 32 0)).set 0 (.int .u8 a)).set 1 (.int .u8 b)).set 31 (.int .u8 c)).toArray:=by kernel_rfl
theorem AiU(n:Int):Try.prog.built 40 [(0,.int .u8 (n%256)),(1,.int .u8 (n / 256%256)),(31,.int .u8 (wrap64 (n*7)%256))]=some (rc (rtB n)).toArray:=by
 have e:rc (rtB n)=(((ints .u8 (List.replicate 32 0)).set 0 (.int .u8 (n%256))).set 1 (.int .u8 (n / 256%256))).set 31 (.int .u8 (wrap64 (n*7)%256)):=by
  show ints .u8 (rtNum n)=_
  rw[rtNum,ints,ints,List.map_set,List.map_set,List.map_set]
 rw[e]
 exact AiV _ _ _
theorem Ahd(n:Int)(w:World):Calls Try.prog 11 #[.int .i64 n] w fun e w'=>e=.returned (.agg (rc (rtB n)).toArray)/\Below w.heap.size w w':=by
 have M:=bx (MM.start (AkK w))
 have BR:=bx (AiU n)
 have L:=bx (lenR (rtB n))
 have O:=bx (Aaj (rtB n))
 generalize rtB n=r at *
 go_enter Try.func11,Try.ntmps11
 go_wp2_with (first|(refine zALo (ztRt) ?_;clear M;intro w' g M)|refine zBDo 40 [(0,.int .u8 (n%256)),(1,.int .u8 (n / 256%256)),(31,.int .u8 (wrap64 (n*7)%256))] (rc r) BR.o ?_|(refine zSSo M 0 [rc r] [rc r] (L.o) (O.o) ?_;clear M;intro w' M))
 exact zRb M.o.at0 ⟨rfl,M.bel⟩
def SomP(n:Nat)(w:World)(e:Ending)(w':World):Prop:=∃(A:Option Addr) (c:Nat) (l:List Int),e=.returned (.slice A l.length c)/\l.length<=n+1/\w'.ownsRow w.heap.size 3 1 (.slice A l.length c) l.length (ints .i64 l)/\Below w.heap.size w w'
theorem AjU{s:Sto}(h:∃t∈s.tabs,t.c=s.just):∃t∈s.tabs,s.balj=t.b:=by
 rcases AaV (fun t:Tbl=>decide (t.c=s.just)) s.tabs with⟨_,h2⟩|⟨k,hk,h1,_⟩
 .obtain⟨t,ht,e⟩:=h
  have:=h2 t ht
  simp[e]at this
 .exact⟨s.tabs[k],List.getElem_mem hk,Agu hk h1⟩
theorem SI.wok{k:Nat}{s:Sto}(h:SI k s)(hk:k<=40):WOk s:=by
 have h7:s.bal.length<=7:=by have:=h.bal;omega
 obtain⟨t,ht,e⟩:=AjU h.tab
 have hv:=h.tbs t ht
 unfold tbE valE at hv
 have hl:t.b.length=s.bal.length:=by
  by_cases hc:(t.b.length:Int)=(s.bal.length:Int)
  .omega
  .rw[if_neg hc]at hv;omega
 rw[if_pos (by omega)]at hv
 have hs:(t.b.map fun x=>(x.n:Int)).sum<=4611686018427387904:=by
  by_cases hc:(t.b.map fun x=>(x.n:Int)).sum<=4611686018427387904
  .exact hc
  .rw[if_neg hc]at hv;omega
 obtain⟨j,hj,r1,_⟩:=h.just
 have hn:=h.nl
 exact {sp:=h.spe.1,lk:=h.t.lk,pos:=h.t.pos,nb:=by omega,tb:=by have:=h.tl;omega,eb:=by have:=h.eqv;omega,lat:=by rw[h.lat,e,hl],b7:=by rw[e,hl];exact h7,sm:=by
         rw[e]
         refine⟨fun x hx=>?_,hs⟩
         obtain⟨u,_,rfl⟩:=List.mem_map.1 hx
         omega
        just:=by
         have:=Agh h.t.diff hj
         rw[r1]at this
         omega}
theorem Adw(a b:Rt):cmpRt b a = - cmpRt a b:=Ac3 _ _
theorem Af5(a:Rt):cmpRt a a=0:=AeV _
theorem Af4{a b:Rt}(h:cmpRt a b=0):a=b:=Rt.ext' ((AcO _ _ (by rw[a.len,b.len])).1 h)
theorem AiK{a b c:Rt}(h1:cmpRt a b<=0)(h2:cmpRt b c<=0):cmpRt a c<=0:=AcW _ _ _ (by rw[a.len,b.len]) (by rw[b.len,c.len]) h1 h2
section
variable {N:List Nod}{W:List U}{L:List Bool}
def NoB(N:List Nod)(W:List U)(a b:Nat):Prop:=(W.getD a u0).n<(W.getD b u0).n\/((W.getD a u0).n=(W.getD b u0).n/\cmpRt (N.getD a n0).b.root (N.getD b n0).b.root<=0)
theorem NoB.self(a:Nat):NoB N W a a:=.inr ⟨rfl,by rw[Af5];exact Int.le_refl _⟩
theorem NoB.trans{a b c:Nat}(h1:NoB N W a b)(h2:NoB N W b c):NoB N W a c:=by
 rcases h1 with h1|⟨h1,h1'⟩
 .rcases h2 with h2|⟨h2,_⟩
  .exact .inl (Nat.lt_trans h1 h2)
  .exact .inl (by rw[<-h2];exact h1)
 .rcases h2 with h2|⟨h2,h2'⟩
  .exact .inl (by rw[h1];exact h2)
  .exact .inr ⟨h1.trans h2,AiK h1' h2'⟩
def BstOf(N:List Nod)(W:List U)(L:List Bool)(l:List Nat)(b:Int):Prop:=
 (b = -1/\∀x∈l,L.getD x false=false)\/∃k:Nat,b=(k:Int)/\k∈l/\L.getD k false=true/\∀x∈l,L.getD x false=true->NoB N W x k
theorem Agr{l:List Nat}{b:Int}{c:Nat}(h:BstOf N W L l b):BstOf N W L (l ++ [c]) (betB N W L b c):=by
 cases hl:L.getD c false with
 |false=>
  have e:betB N W L b c=b:=by unfold betB;rw[if_neg (fun h=>by rw[hl]at h;cases h.1)]
  rw[e]
  rcases h with⟨h1,h2⟩|⟨k,h1,h2,h3,h4⟩
  .refine .inl ⟨h1,fun x hx=>?_⟩
   rcases List.mem_append.1 hx with hx|hx
   .exact h2 x hx
   .obtain rfl:=List.mem_singleton.1 hx;exact hl
  .refine .inr ⟨k,h1,List.mem_append_left _ h2,h3,fun x hx hlx=>?_⟩
   rcases List.mem_append.1 hx with hx|hx
   .exact h4 x hx hlx
   .obtain rfl:=List.mem_singleton.1 hx;rw[hl]at hlx;cases hlx
 |true=>
  rcases h with⟨h1,h2⟩|⟨k,h1,h2,h3,h4⟩
  .have e:betB N W L b c=(c:Int):=by unfold betB;rw[if_pos ⟨hl,.inl (by omega)⟩]
   rw[e]
   refine .inr ⟨c,rfl,by simp,hl,fun x hx hlx=>?_⟩
   rcases List.mem_append.1 hx with hx|hx
   .rw[h2 x hx]at hlx;cases hlx
   .obtain rfl:=List.mem_singleton.1 hx;exact NoB.self _
  .subst h1
   by_cases hc:(W.getD k u0).n<(W.getD c u0).n\/((W.getD c u0).n=(W.getD k u0).n/\0<cmpRt (N.getD c n0).b.root (N.getD k n0).b.root)
   .have e:betB N W L (k:Int) c=(c:Int):=by unfold betB;rw[Int.toNat_natCast,if_pos ⟨hl,.inr hc⟩]
    rw[e]
    have hkc:NoB N W k c:=by
     rcases hc with hc|⟨hc,hd⟩
     .exact .inl hc
     .exact .inr ⟨hc.symm,by rw[Adw];omega⟩
    refine .inr ⟨c,rfl,by simp,hl,fun x hx hlx=>?_⟩
    rcases List.mem_append.1 hx with hx|hx
    .exact(h4 x hx hlx).trans hkc
    .obtain rfl:=List.mem_singleton.1 hx;exact NoB.self _
   .have e:betB N W L (k:Int) c=(k:Int):=by
     unfold betB;rw[Int.toNat_natCast,if_neg]
     rintro⟨_,h|h⟩
     .omega
     .exact hc h
    rw[e]
    refine .inr ⟨k,rfl,List.mem_append_left _ h2,h3,fun x hx hlx=>?_⟩
    rcases List.mem_append.1 hx with hx|hx
    .exact h4 x hx hlx
    .obtain rfl:=List.mem_singleton.1 hx
     rcases Nat.lt_trichotomy (W.getD x u0).n (W.getD k u0).n with h|h|h
     .exact .inl h
     .exact .inr ⟨h,by
       rcases Int.lt_or_le 0 (cmpRt (N.getD x n0).b.root (N.getD k n0).b.root)with h5|h5
       .exact absurd (.inr ⟨h,h5⟩) hc
       .exact h5⟩
     .exact absurd (.inl h) hc
theorem AiY:∀(l p:List Nat) (b:Int),BstOf N W L p b->BstOf N W L (p++l) (l.foldl (betB N W L) b)
 |[],p,b,h=>by simpa using h
 |c::l,p,b,h=>by
  have:=AiY l (p ++ [c]) _ (Agr (c:=c) h)
  simpa using this
theorem Acx(i:Int):BstOf N W L (kids N i) (bestI N W L i):=by
 have:=AiY (kids N i) [] (-1) (.inl ⟨rfl,fun x hx=>by cases hx⟩) (N:=N) (W:=W) (L:=L)
 rw[List.nil_append]at this
 exact this
theorem Acw{i:Int}{k:Nat}(h:bestI N W L i=(k:Int)):k∈kids N i/\L.getD k false=true/\∀x∈kids N i,L.getD x false=true->NoB N W x k:=by
 rcases Acx (N:=N) (W:=W) (L:=L) i with⟨h1,_⟩|⟨k',h1,h2⟩
 .omega
 .obtain rfl:k'=k:=by omega
  exact h2
theorem Aew{i:Int}:bestI N W L i<0\/∃k:Nat,bestI N W L i=(k:Int):=by
 rcases Acx (N:=N) (W:=W) (L:=L) i with⟨h1,_⟩|⟨k',h1,_⟩
 .exact .inl (by omega)
 .exact .inr ⟨k',h1⟩
theorem Abc:∀(f:Nat) (i:Int),headF N W L (f+1) i=if bestI N W L (headF N W L f i)<0 then headF N W L f i else bestI N W L (headF N W L f i)
 |0,i=>rfl
 |f+1,i=>by
  have e1:headF N W L (f+1+1) i=if bestI N W L i<0 then i else headF N W L (f+1) (bestI N W L i):=rfl
  have e2:headF N W L (f+1) i=if bestI N W L i<0 then i else headF N W L f (bestI N W L i):=rfl
  rw[e1,e2]
  by_cases h:bestI N W L i<0
  .simp only[if_pos h]
  .simp only[if_neg h]
   exact Abc f _
def Stp(N:List Nod)(W:List U)(L:List Bool)(j i:Int):Prop:=∃f,headF N W L f j=i
theorem AcS{u k:Nat}(h:k∈kids N (u:Int)):∃hk:k<N.length,N[k].up=(u:Int):=Abh h
theorem AgF(hk:Lk (upsN N)){j:Nat}(hj:j<N.length){i:Int}(h:Stp N W L (j:Int) i):∃m:Nat,m<N.length/\i=(m:Int)/\ancI N (j:Int) (m:Int)=true:=by
 obtain⟨f,h⟩:=h
 induction f generalizing i with
 |zero=>exact⟨j,hj,h.symm,AdT hk hj⟩
 |succ f ih=>
  rw[Abc]at h
  obtain⟨u,hu,e,ha⟩:=ih rfl
  split at h
  .exact ih h
  .rename_i hn
   rw[e]at h
   rcases Aew (N:=N) (W:=W) (L:=L) (i:=(u:Int))with h1|⟨k,h1⟩
   .rw[e]at hn;omega
   .obtain⟨h2,_⟩:=Acw h1
    obtain⟨hk1,hk2⟩:=AcS h2
    exact⟨k,hk1,by omega,(Ab2 hk hk1 hk2).2 (.inr ha)⟩
theorem Agc(hk:Lk (upsN N)){j:Nat}(hj:j<N.length):∀f:Nat,0<=bestI N W L (headF N W L f (j:Int))->(j:Int)+f<=headF N W L f (j:Int)
 |0,_=>by simp[headF]
 |f+1,h=>by
  rw[Abc]at h |-
  obtain⟨u,hu,e,ha⟩:=AgF (W:=W) (L:=L) hk hj ⟨f,rfl⟩
  split at h
  .omega
  .rename_i hn
   rw[if_neg hn]
   have ih:=Agc hk hj f (by omega)
   rcases Aew (N:=N) (W:=W) (L:=L) (i:=(u:Int))with h1|⟨k,h1⟩
   .rw[e]at hn;omega
   .obtain⟨h2,_⟩:=Acw h1
    obtain⟨hk1,hk2⟩:=AcS h2
    have:=Acz hk k hk1
    rw[e]at ih |-
    rw[h1]
    omega
theorem Aga(hk:Lk (upsN N)){j:Nat}(hj:j<N.length):bestI N W L (headF N W L N.length (j:Int))<0:=by
 rcases Int.lt_or_le (bestI N W L (headF N W L N.length (j:Int))) 0 with h|h
 .exact h
 .have h1:=Agc hk hj N.length h
  obtain⟨m,hm,e,_⟩:=AgF (W:=W) (L:=L) hk hj ⟨N.length,rfl⟩
  omega
theorem Ah1(hk:Lk (upsN N)){j:Nat}(hj:j<N.length){f:Nat}(hf:bestI N W L (headF N W L f (j:Int))<0):headF N W L N.length (j:Int)=headF N W L f (j:Int):=by
 have up:∀(g f:Nat),bestI N W L (headF N W L f (j:Int))<0->headF N W L (f+g) (j:Int)=headF N W L f (j:Int):=by
  intro g
  induction g with
  |zero=>intro f _;rfl
  |succ g ih=>
   intro f h
   rw[<-Nat.add_assoc,Abc,ih f h,if_pos h]
 rcases Nat.le_total f N.length with h|h
 .obtain⟨g,e⟩:=Nat.exists_eq_add_of_le h
  rw[e];exact up g f hf
 .obtain⟨g,e⟩:=Nat.exists_eq_add_of_le h
  rw[e];exact(up g N.length (Aga hk hj)).symm
end
open Go.RowKit Old
theorem TI.wf{N:List Nod}(t:TI N):Wf (N.map toNd) where
 first:=fun h=>by
  have h0:0<N.length:=by simpa using h
  rcases Acl t.lk h0 with⟨_,e⟩|⟨u,hu,_⟩
  .simpa [toNd]using e
  .omega
 up:=fun i h h0=>by
  have hi:i<N.length:=by simpa using h
  rcases Acl t.lk hi with⟨e,_⟩|⟨u,hu,e⟩
  .omega
  .obtain⟨h1,h2⟩:=t.par i u hi (by omega) e
   refine⟨u,hu,by simpa [toNd]using e,?_,?_⟩
   .simpa [toNd,toBk]using congrArg Rt.l h1
   .simp[toNd,toBk];exact h2
 diff:=fun i j hi hj e=>by
  have hi':i<N.length:=by simpa using hi
  have hj':j<N.length:=by simpa using hj
  exact t.diff i j hi' hj' (Rt.ext' (by simpa [toNd,toBk]using e))
 st:=fun x hx=>by
  obtain⟨n,hn,rfl⟩:=List.mem_map.1 hx
  have:=t.st n hn
  simp only[toNd]
  omega
 nz:=fun x hx=>by
  obtain⟨n,hn,rfl⟩:=List.mem_map.1 hx
  intro e
  exact t.nz n hn (Rt.ext' e)
 bt:=fun x hx=>by
  obtain⟨n,hn,rfl⟩:=List.mem_map.1 hx
  exact n.b.root.bt
def Sto.dl(s:Sto):List Int:=dirL (s.nodes.map toNd) (s.lat.map toVt) s.eqv (ub s.balj) s.balj.length
def Sto.am(s:Sto):Int:=amt (s.c.spe.n:Int) (s.c.bp.n:Int) (Old.sumV (ub s.balj))
def Sto.db(s:Sto):List Int:=boostV (s.nodes.map toNd) s.dl s.boost.l s.am (fndI s.nodes s.boost)
theorem AjY(s:Sto):s.wts=(subL (upsN s.nodes) s.nodes.length s.db).map toU:=rfl
theorem Ajn(s:Sto):s.dl.length=s.nodes.length:=by unfold Sto.dl;rw[AbU,List.length_map]
theorem Ajc{bs:List Int}(h:SmT bs):Old.sumV bs=bs.sum:=by
 unfold Old.sumV
 rw[if_pos (by have:=h.2;omega)]
theorem Al4{s p t:Int}(ht:0<=t)(hp:0<=p):0<=amt s p t/\amt s p t<=t:=by
 unfold amt
 split
 .rename_i h
  obtain⟨h1,h2,h3,h4⟩:=h
  have a1:0<=t / s:=Int.ediv_nonneg ht (by omega)
  have a2:t / s<=t:=Int.ediv_le_self _ ht
  have a3:0<=t / s*p:=Int.mul_nonneg a1 hp
  have a4:t / s*p<=t / s*100:=Int.mul_le_mul_of_nonneg_left h3 a1
  omega
 .omega
theorem Al5{s:Sto}(h:SmT (ub s.balj)):0<=s.am/\s.am<=(ub s.balj).sum:=by
 have h0:=Abg h.1
 have:=Al4 (s:=(s.c.spe.n:Int)) (p:=(s.c.bp.n:Int)) (t:=(ub s.balj).sum) h0 (by omega)
 unfold Sto.am
 rw[Ajc h]
 exact this
theorem AnB{s:Sto}(h:SmT (ub s.balj)):∀x∈s.dl,0<=x/\x<=4611686018427387904:=Aet h (by rw[AgB];exact Nat.le_refl _)
theorem AkQ{l:List Int}{b:Int}(hb:0<=b)(h:∀x∈l,0<=x/\x<=b)(j:Nat):0<=nat0 l j/\nat0 l j<=b:=by
 unfold nat0
 by_cases hj:j<l.length
 .rw[getD_at hj];exact h _ (List.getElem_mem hj)
 .rw[List.getD,List.getElem?_eq_none (by omega)];exact⟨Int.le_refl _,hb⟩
theorem AjE{s:Sto}(h:SmT (ub s.balj)):s.db=s.dl\/∃(i:Nat) (hi:i<s.nodes.length),s.nodes[i].st≠2/\s.db=s.dl.set i (s.dl.getD i 0+s.am):=by
 unfold Sto.db boostV
 split
 .exact .inl rfl
 .split
  .rename_i h1 h2
   obtain⟨k,hk,e,_⟩:=AcV h2.1
   right
   rw[e]at h2
   rw[e,Int.toNat_natCast]
   have hkl:k<(s.nodes.map toNd).length:=by simpa using hk
   have h3:=h2.2
   rw[Int.toNat_natCast,AhZ hkl]at h3
   have a1:=Al5 h
   have a2:=AkQ (by decide) (AnB h) k
   have a3:=h.2
   unfold nat0 at a2
   refine⟨k,hk,by simpa [toNd]using h3,?_⟩
   have e2:(s.dl.getD k 0+s.am)%18446744073709551616=s.dl.getD k 0+s.am:=by omega
   rw[e2]
  .exact .inl rfl
theorem Als{s:Sto}(h:SmT (ub s.balj)):s.db.length=s.nodes.length:=by
 rcases AjE h with e|⟨i,_,_,e⟩
 .rw[e,Ajn]
 .rw[e,List.length_set,Ajn]
theorem AhQ(s:Sto):s.wts.length=s.nodes.length:=by rw[AjY,List.length_map,Aeg]
open Go.RowKit Old
section
variable {N:List Nod}{W:List U}{L:List Bool}
def dsc(N:List Nod)(W:List U)(L:List Bool)(i:Int):Int:=if bestI N W L i<0 then -1 else headF N W L N.length i
theorem Adk(hk:Lk (upsN N)){u:Nat}(hu:u<N.length){c:Int}(hb:bestI N W L (u:Int)=c)(h0:0<=c):headF N W L N.length (u:Int)=headF N W L N.length c:=by
 have e1:headF N W L (N.length+1) (u:Int)=if bestI N W L (u:Int)<0 then(u:Int)else headF N W L N.length (bestI N W L (u:Int)):=rfl
 rw[hb,if_neg (by omega)]at e1
 rw[<-e1,Abc,if_pos (Aga hk hu)]
theorem Afc(hk:Lk (upsN N)){u:Nat}(hu:u<N.length)(hb:bestI N W L (u:Int)<0):headF N W L N.length (u:Int)=(u:Int):=Ah1 hk hu (f:=0) hb
theorem Afz(hk:Lk (upsN N)){u:Nat}(hu:u<N.length):dsc N W L (u:Int)<0↔bestI N W L (u:Int)<0:=by
 unfold dsc
 by_cases h:bestI N W L (u:Int)<0
 .rw[if_pos h];exact⟨fun _=>h,fun _=>by decide⟩
 .rw[if_neg h]
  obtain⟨m,_,e,_⟩:=AgF (W:=W) (L:=L) hk hu ⟨N.length,rfl⟩
  rw[e]
  exact⟨fun h'=>by omega,fun h'=>absurd h' h⟩
theorem AjA(hk:Lk (upsN N)){u c:Nat}(hu:u<N.length)(hb:bestI N W L (u:Int)=(c:Int)):dsc N W L (u:Int)=if 0<=dsc N W L (c:Int)then dsc N W L (c:Int)else(c:Int):=by
 obtain⟨hc,_⟩:=AcS (Acw hb).1
 have e:dsc N W L (u:Int)=headF N W L N.length (c:Int):=by
  unfold dsc;rw[if_neg (by omega),Adk hk hu hb (by omega)]
 rw[e]
 by_cases h:bestI N W L (c:Int)<0
 .have:=(Afz (W:=W) (L:=L) hk hc).2 h
  rw[if_neg (by omega),Afc hk hc h]
 .have h2:¬dsc N W L (c:Int)<0:=fun h'=>h ((Afz (W:=W) (L:=L) hk hc).1 h')
  rw[if_pos (by omega)]
  unfold dsc;rw[if_neg h]
theorem Akl(hd:∀i j (hi:i<N.length) (hj:j<N.length),N[i].b.root=N[j].b.root->i=j){l l':List Nat}(hl:∀x∈l,x<N.length)(hm:∀x,x∈l↔x∈l'){b b':Int}(h:BstOf N W L l b)(h':BstOf N W L l' b'):b=b':=by
 rcases h with⟨h1,h2⟩|⟨k,h1,h2,h3,h4⟩
 .rcases h' with⟨h1',_⟩|⟨k',h1',h2',h3',_⟩
  .rw[h1,h1']
  .rw[h2 k' ((hm k').2 h2')]at h3';cases h3'
 .rcases h' with⟨_,h2'⟩|⟨k',h1',h2',h3',h4'⟩
  .rw[h2' k ((hm k).1 h2)]at h3;cases h3
  .have a:=h4 k' ((hm k').2 h2') h3'
   have b:=h4' k ((hm k).1 h2) h3
   have p:=hl k h2
   have q:=hl k' ((hm k').2 h2')
   have e:k=k':=by
    rcases a with a|⟨a,a2⟩
    .rcases b with b|⟨b,_⟩<;>omega
    .rcases b with b|⟨b,b2⟩
     .omega
     .rw[Adw]at b2
      have:=Af4 (show cmpRt (N.getD k' n0).b.root (N.getD k n0).b.root=0 by omega)
      rw[nget p,nget q]at this
      exact(hd k' k q p this).symm
   rw[h1,h1',e]
def lst(n:Nat)(f:Nat->Int):List Int:=(List.range n).map f
theorem AaQ(n:Nat)(f:Nat->Int):(lst n f).length=n:=by simp[lst]
theorem Aa0{n:Nat}{f:Nat->Int}{i:Nat}(v:Int):(lst n f).set i v=lst n fun k=>if k=i then v else f k:=by
 apply List.ext_getElem
 .simp[lst]
 .intro k h1 h2
  rw[List.getElem_set]
  simp only[lst,List.getElem_map,List.getElem_range]
  by_cases h:i=k
  .rw[if_pos h,if_pos h.symm]
  .rw[if_neg h,if_neg (fun h'=>h h'.symm)]
theorem AaZ{n:Nat}{f g:Nat->Int}(h:∀k,k<n->f k=g k):lst n f=lst n g:=by
 unfold lst
 exact List.map_congr_left fun k hk=>h k (List.mem_range.1 hk)
theorem AkR(n:Nat)(v:Int):List.replicate n v=lst n fun _=>v:=by apply List.ext_getElem<;>simp[lst]
def bstL(N:List Nod)(W:List U)(L:List Bool):List Int:=lst N.length fun k=>bestI N W L (k:Int)
def dscL(N:List Nod)(W:List U)(L:List Bool):List Int:=lst N.length fun k=>dsc N W L (k:Int)
def rbF(N:List Nod)(W:List U)(L:List Bool)(m k:Nat):Int:=if m<=k then bestI N W L (k:Int)else 0
def rdF(N:List Nod)(W:List U)(L:List Bool)(m k:Nat):Int:=if m<=k then dsc N W L (k:Int)else 0
theorem AkE(m:Nat):(lst N.length (rbF N W L (m+1))).set m (bestI N W L (m:Int))=lst N.length (rbF N W L m):=by
 rw[Aa0]
 refine AaZ fun k _=>?_
 unfold rbF
 by_cases h:k=m
 .subst h;rw[if_pos rfl,if_pos (Nat.le_refl _)]
 .rw[if_neg h]
  by_cases h2:m+1<=k
  .rw[if_pos h2,if_pos (by omega)]
  .rw[if_neg h2,if_neg (by omega)]
theorem AkD(m:Nat):(lst N.length (rdF N W L (m+1))).set m (dsc N W L (m:Int))=lst N.length (rdF N W L m):=by
 rw[Aa0]
 refine AaZ fun k _=>?_
 unfold rdF
 by_cases h:k=m
 .subst h;rw[if_pos rfl,if_pos (Nat.le_refl _)]
 .rw[if_neg h]
  by_cases h2:m+1<=k
  .rw[if_pos h2,if_pos (by omega)]
  .rw[if_neg h2,if_neg (by omega)]
structure PbI(N:List Nod)(W:List U)(L:List Bool)(i:Nat)(C D:Nat->Int):Prop where
 c:∀u,u<N.length->BstOf N W L ((kids N (u:Int)).filter fun k=>decide (i<k)) (C u)
 d:∀u,u<N.length->D u=if C u<0 then -1 else headF N W L N.length (C u)
theorem PbI.start(hk:Lk (upsN N)):PbI N W L (N.length-1) (fun _=>-1) (fun _=>-1):=by
 refine⟨fun u hu=>.inl ⟨rfl,fun x hx=>?_⟩,fun u _=>by rw[if_pos (by decide)]⟩
 obtain⟨h1,h2⟩:=List.mem_filter.1 hx
 obtain⟨h3,_⟩:=AcS h1
 have:=of_decide_eq_true h2
 omega
theorem PbI.full(hk:Lk (upsN N))(hd:∀i j (hi:i<N.length) (hj:j<N.length),N[i].b.root=N[j].b.root->i=j){i:Nat}{C D:Nat->Int}(h:PbI N W L i C D){u:Nat}(hu:u<N.length)(hi:i<=u):C u=bestI N W L (u:Int):=by
 refine Akl hd (l':=kids N (u:Int)) (fun x hx=>(AcS (List.mem_filter.1 hx).1).1) (fun x=>?_) (h.c u hu) (Acx _)
 rw[List.mem_filter]
 refine⟨fun h=>h.1,fun h=>⟨h,decide_eq_true ?_⟩⟩
 obtain⟨h1,h2⟩:=AcS h
 have:=Acz hk x h1
 omega
theorem PbI.step(hk:Lk (upsN N))(hd:∀i j (hi:i<N.length) (hj:j<N.length),N[i].b.root=N[j].b.root->i=j){i u:Nat}{C D:Nat->Int}(h:PbI N W L i C D)(hi:i<N.length)(h0:0<i)(hu:N[i].up=(u:Int)) :
  PbI N W L (i-1) (fun k=>if k=u then betB N W L (C u) i else C k) (fun k=>if k=u then(if betB N W L (C u) i=C u then D u else if 0<=D i then D i else(i:Int))else D k):=by
 have hui:u<i:=by have:=Acz hk i hi;omega
 have hun:u<N.length:=by omega
 have mem:∀v:Nat,v<N.length->∀x,x∈(kids N (v:Int)).filter (fun k=>decide (i-1<k))↔x∈(kids N (v:Int)).filter (fun k=>decide (i<k))++(if v=u then [i]else []):=by
  intro v hv x
  rw[List.mem_append,List.mem_filter,List.mem_filter,decide_eq_true_iff,decide_eq_true_iff]
  constructor
  .rintro⟨h1,h2⟩
   by_cases hx:i<x
   .exact .inl ⟨h1,hx⟩
   .have hxi:x=i:=by omega
    subst hxi
    obtain⟨_,h4⟩:=AcS h1
    have:v=u:=by omega
    rw[if_pos this];exact .inr (by simp)
  .rintro(⟨h1,h2⟩|h1)
   .exact⟨h1,by omega⟩
   .by_cases hvu:v=u
    .rw[if_pos hvu]at h1
     obtain rfl:=List.mem_singleton.1 h1
     subst hvu
     exact⟨Aiu hun hi hu,by omega⟩
    .rw[if_neg hvu]at h1;cases h1
 have tr:∀(l l':List Nat) (b:Int),(∀x,x∈l↔x∈l')->BstOf N W L l b->BstOf N W L l' b:=by
  intro l l' b hm hb
  rcases hb with⟨a1,a2⟩|⟨k,a1,a2,a3,a4⟩
  .exact .inl ⟨a1,fun x hx=>a2 x ((hm x).2 hx)⟩
  .exact .inr ⟨k,a1,(hm k).1 a2,a3,fun x hx=>a4 x ((hm x).2 hx)⟩
 constructor
 .intro v hv
  have hm:=mem v hv
  by_cases hvu:v=u
  .subst hvu
   simp only[if_true]at hm |-
   exact tr _ _ _ (fun x=>(hm x).symm) (Agr (h.c v hv))
  .simp only[if_neg hvu,List.append_nil]at hm |-
   exact tr _ _ _ (fun x=>(hm x).symm) (h.c v hv)
 .intro v hv
  by_cases hvu:v=u
  .subst hvu
   simp only[if_true]
   by_cases hb:betB N W L (C v) i=C v
   .rw[if_pos hb,hb];exact h.d v hv
   .have e:betB N W L (C v) i=(i:Int):=by
     unfold betB at hb |-
     split
     .rfl
     .rename_i hn;rw[if_neg hn]at hb;exact absurd rfl hb
    rw[if_neg hb,e,if_neg (show ¬(i:Int)<0 by omega)]
    have hc:=h.full hk hd hi (Nat.le_refl _)
    rw[h.d i hi,hc]
    by_cases hbi:bestI N W L (i:Int)<0
    .rw[if_pos hbi,if_neg (by decide),Afc hk hi hbi]
    .rw[if_neg hbi]
     rcases Aew (N:=N) (W:=W) (L:=L) (i:=(i:Int))with h1|⟨c,h1⟩
     .exact absurd h1 hbi
     .obtain⟨hcn,_⟩:=AcS (Acw h1).1
      obtain⟨m,_,em,_⟩:=AgF (W:=W) (L:=L) hk hcn ⟨N.length,rfl⟩
      rw[Adk hk hi h1 (by omega),h1,em,if_pos (by omega)]
  .simp only[if_neg hvu]
   exact h.d v hv
theorem PbI.done(hk:Lk (upsN N))(hd:∀i j (hi:i<N.length) (hj:j<N.length),N[i].b.root=N[j].b.root->i=j){C D:Nat->Int}(h:PbI N W L 0 C D){u:Nat}(hu:u<N.length):C u=bestI N W L (u:Int)/\D u=dsc N W L (u:Int):=by
 have hc:=h.full hk hd hu (Nat.zero_le _)
 refine⟨hc,?_⟩
 rw[h.d u hu,hc]
 unfold dsc
 by_cases hb:bestI N W L (u:Int)<0
 .rw[if_pos hb,if_pos hb]
 .rw[if_neg hb,if_neg hb]
  exact(Adk hk hu rfl (by omega)).symm
end
open Go.RowKit Old
section
variable {s:Sto}
theorem AkS{k:Nat}(h:SI k s):∃j,∃hj:j<s.nodes.length,fndI s.nodes s.just.r=(j:Int)/\s.nodes[j].st≠2:=by
 obtain⟨j,hj,e,h2⟩:=h.just
 exact⟨j,hj,by rw[<-e];exact Agh h.t.diff hj,h2⟩
end
open Go.RowKit Old
theorem ztWd:ZeroT Try.prog 48 [wc w0] [4]:=⟨fun w=>by kernel_rfl,lenW _⟩
def wd4(a b c d:Int)(h:∀x ∈ [a,b,c,d],0<=x/\x<18446744073709551616):Wd:=⟨[a,b,c,d],rfl,h⟩
theorem AmX a:Try.prog.built 48 [(0,.int .u64 a)]=some [Value.int .u64 a,.int .u64 0,.int .u64 0,.int .u64 0].toArray:=by kernel_rfl
theorem AmW(a b:Int):Try.prog.built 48 [(0,.int .u64 a),(1,.int .u64 b)]=some [Value.int .u64 a,.int .u64 b,.int .u64 0,.int .u64 0].toArray:=by kernel_rfl
theorem one4(a b c d:Int):One [Value.int .u64 a,.int .u64 b,.int .u64 c,.int .u64 d]:=fun u hu=>by
 simp only[List.mem_cons,List.mem_nil_iff,or_false]at hu
 rcases hu with rfl|rfl|rfl|rfl<;>rfl
def WidP(w:World)(e:Ending)(w':World):Prop:=∃a:Wd,e=.returned (.agg (wc a).toArray)/\Below w.heap.size w w'
theorem Ant(n:Int)(k:Nat)(hk:k<=63){m:Int}(hm:m=((2 ^ k-1:Nat):Int)):∃r:Int,bits .and .i64 n m=r/\0<=r/\r<=m:=by
 subst hm
 rw[Aez n k hk]
 have h0:=Nat.two_pow_pos k
 have h1:(0:Int)<=n%((2 ^ k:Nat):Int):=Int.emod_nonneg _ (by omega)
 have h2:n%((2 ^ k:Nat):Int)<((2 ^ k:Nat):Int):=Int.emod_lt_of_pos _ (by omega)
 exact⟨_,rfl,h1,by omega⟩
end Go.Proofs.Ytpaihpeoiliioaa
