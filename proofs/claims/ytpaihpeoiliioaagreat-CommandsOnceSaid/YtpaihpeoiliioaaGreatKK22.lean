/- Texts joined: what the walks of this claim stand on (part 22). -/
import Derived.Test.YtpaihpeoiliioaaGreatKK14
import Derived.Test.YtpaihpeoiliioaaGreatKK21
set_option linter.all false
set_option maxRecDepth 20000
set_option maxHeartbeats 40000000
namespace Go.Proofs.YtpaihpeoiliioaaGreat
open Go.RowKit Old
theorem AqE(n:Int):bits .and .i64 n 16777215=n%16777216:=Ahf n 24 (by decide)
def atV(l:List Int)(i:Nat):Nat:=if l.length=0 then i else(l.getD (i%l.length) 0%16777216).toNat+i / l.length
theorem Aq9(l:List Int)(i:Nat):atV l i<=16777215+i:=by
 unfold atV
 split
 .omega
 .have h1:i / l.length<=i:=Nat.div_le_self _ _
  have h2:l.getD (i%l.length) 0%16777216<16777216:=Int.emod_lt_of_pos _ (by decide)
  omega
theorem AqB(B:Nat)(A:Option Addr)(n c:Nat)(l:List Int)(i:Nat)(hi:i<=65535)(w:World)(hr:Row w B 1 A n (ints .i64 l))(hn:n<=maxLen)(hB:B<=w.heap.size) :
  Calls Tryz.prog 50 #[.slice A n c,.int .i64 i] w fun e w'=>e=.returned (.int .i64 (atV l i:Nat))/\Below w.heap.size w w':=by
 have hnm:n<=9223372036854775807:=hn
 have HL:l.length=n:=by have:=hr.1;simpa [ints]using this
 rcases Nat.eq_zero_or_pos n with h0|h0
 .subst h0
  have BB:=bx (Below.refl w.heap.size w)
  have ha:=AnT (i:Int)
  have hm:(i:Int)%65536=i:=by omega
  rw[hm]at ha
  have hz:((0:Int)==0)=true:=rfl
  have HA:Bx (atV l i=i):=⟨by unfold atV;rw[if_pos HL]⟩
  clear hr HL hm
  rw[HA.o]
  clear HA
  go_enter Tryz.func50,Tryz.ntmps50
  go_wp2_with fail
  go_ret
  exact⟨rfl,BB.o⟩
 .have him:i%n<n:=Nat.mod_lt _ h0
  have hgx:(ints .i64 l)[i%n]? = some (.int .i64 (l.getD (i%n) 0)):=by
   have:i%n<l.length:=by rw[HL];exact him
   rw[ints,List.getElem?_map,List.getElem?_eq_getElem this]
   simp[List.getD,List.getElem?_eq_getElem this]
  have HA:Bx (atV l i=(l.getD (i%n) 0%16777216).toNat+i / n):=⟨by unfold atV;rw[if_neg (by omega),HL]⟩
  rw[HA.o]
  generalize l.getD (i%n) 0=x at *
  obtain⟨ad,rfl,hab,hc⟩:=hr.2 _ _ hgx
  have hcell:∀w1:World,Cls w.heap.size w w1->w1.cell? (ad.add (i%n))=some (.int .i64 x):=fun w1 h1=>by
   rw[h1.o.cell (by unfold Addr.add;split<;>(show ad.block<_;omega))];exact hc
  have CX:=bx (fun w1 h1=>Ag8 (hcell w1 h1))
  have ha:=AqE x
  have hx0:0<=x%16777216:=Int.emod_nonneg _ (by decide)
  have hx1:x%16777216<16777216:=Int.emod_lt_of_pos _ (by decide)
  obtain⟨y,hy⟩:∃y:Nat,x%16777216=(y:Int):=⟨(x%16777216).toNat,by omega⟩
  rw[hy]at ha
  rw[hy,Int.toNat_natCast]
  have hq:i / n<=i:=Nat.div_le_self _ _
  have hm1:((i:Int)%(n:Int))=((i%n:Nat):Int):=by omega
  have hq1:((i:Int) / (n:Int))=((i / n:Nat):Int):=by omega
  have hnn:((n:Int)==0)=false:=by rw[beq_eq_false_iff_ne];omega
  have h1:((i%n:Nat):Int)<(n:Int):=by omega
  have h2:(0:Int)<=((i%n:Nat):Int):=by omega
  clear hr HL hc hgx hcell hab HA
  rw[hy]at hx0 hx1
  clear hy
  generalize i%n=r at *
  generalize hqq:i / n=q at *
  go_enter Tryz.func50,Tryz.ntmps50
  go_wp2_with fail
  refine Aa3 w.heap.size (by kernel_rfl) (by kernel_rfl) ?_
  repeat((go_big_quiet_want;first|((with_reducible refine quiet_cell 3 _ rfl _ _ ?_ CX.o ?_);rfl;go_big_quiet_on;(simp only[Act.put,List.setIfInBounds_toArray,List.set_cons_succ,List.set_cons_zero]))|(go_big_quiet_op;first|go_big_quiet_on|((with_reducible refine⟨_,fun _ _=>rfl,?_⟩);go_big_quiet_on))))
  refine wpQuiet_nil ?_
  intro w4 hw4
  have B4:=bx hw4.o
  clear hw4
  go_wp2_with fail
  go_ret
  exact⟨by simp,B4.o⟩
def rtNum(n:Int):List Int:=((List.replicate 32 0).set 0 (n%256)).set 1 (n / 256%256) |>.set 31 (wrap64 (n*7)%256)
def rtB(n:Int):Rt:=⟨rtNum n,by simp[rtNum],fun x hx=>by
 unfold rtNum at hx
 rcases List.mem_or_eq_of_mem_set hx with hx|rfl
 .rcases List.mem_or_eq_of_mem_set hx with hx|rfl
  .rcases List.mem_or_eq_of_mem_set hx with hx|rfl
   .have:=List.eq_of_mem_replicate hx
    omega
   .omega
  .omega
 .omega⟩
theorem Ard{n:Int}(h:n / 256%256≠11):RtOk (rtB n):=by
 show(rtNum n).getD 1 0≠11
 have e:(rtNum n).getD 1 0=n / 256%256:=by simp[rtNum,List.getD]
 rw[e];exact h
theorem AnD(a b c:Int):Tryz.prog.built 29 [(0,.int .u8 a),(1,.int .u8 b),(31,.int .u8 c)]=some ((((ints .u8 (List.replicate 32 0)).set 0 (.int .u8 a)).set 1 (.int .u8 b)).set 31 (.int .u8 c)).toArray:=by kernel_rfl
theorem AnC(n:Int):Tryz.prog.built 29 [(0,.int .u8 (n%256)),(1,.int .u8 (n / 256%256)),(31,.int .u8 (wrap64 (n*7)%256))]=some (rc (rtB n)).toArray:=by
 have e:rc (rtB n)=(((ints .u8 (List.replicate 32 0)).set 0 (.int .u8 (n%256))).set 1 (.int .u8 (n / 256%256))).set 31 (.int .u8 (wrap64 (n*7)%256)):=by
  show ints .u8 (rtNum n)=_
  rw[rtNum,ints,ints,List.map_set,List.map_set,List.map_set]
 rw[e]
 exact AnD _ _ _
theorem AbQ(n:Int)(w:World):Calls Tryz.prog 14 #[.int .i64 n] w fun e w'=>e=.returned (.agg (rc (rtB n)).toArray)/\Below w.heap.size w w':=by
 have M:=bx (MM.start (AiD w))
 have BR:=bx (AnC n)
 have L:=bx (lenR (rtB n))
 have O:=bx (Aac (rtB n))
 generalize rtB n=r at *
 go_enter Tryz.func14,Tryz.ntmps14
 go_wp2_with (first|(refine zALo (ztRt) ?_;clear M;intro w' g M)|refine zBDo 29 [(0,.int .u8 (n%256)),(1,.int .u8 (n / 256%256)),(31,.int .u8 (wrap64 (n*7)%256))] (rc r) BR.o ?_|(refine zSSo M 0 [rc r] [rc r] (L.o) (O.o) ?_;clear M;intro w' M))
 exact zRb M.o.at0 ⟨rfl,M.bel⟩
def SomP(n:Nat)(w:World)(e:Ending)(w':World):Prop:=∃(A:Option Addr) (c:Nat) (l:List Int),e=.returned (.slice A l.length c)/\l.length<=n+1/\w'.ownsRow w.heap.size 3 1 (.slice A l.length c) l.length (ints .i64 l)/\Below w.heap.size w w'
theorem AfS(n:Nat)(hn:n<=64)(b:Int)(w:World):Calls Tryz.prog 122 #[.int .i64 n,.int .i64 b] w (SomP n w):=by
 have M:=bx (MM.start (AiD w))
 go_enter Tryz.func122,Tryz.ntmps122
 go_wp2_with fail
 replace M:=bx (M.o.row0 3 1)
 go_loopw [5,6] (fun s i wr=>∃(k:Nat) (l:List Int) (A:Option Addr) (c:Nat),k<=n/\i=.int .i64 k/\l.length<=k/\s=.slice A l.length c/\MM g0 w g0 wr [] [⟨.slice A l.length c,3,1,l.length,ints .i64 l⟩]) (fun _ i _=>n-(intOf i).toNat)
 case atStart=>exact⟨0,[],none,0,Nat.zero_le _,rfl,Nat.le_refl _,rfl,M.o⟩
 case round=>
  obtain⟨k,l,A,c,hk,rfl,hl,rfl,hM⟩:=hrel
  clear M
  have M:=bx hM
  clear hM
  by_cases hkn:k<n
  .have hki:(k:Int)<(n:Int):=by omega
   cases hb1:(bits .and .i64 (b / 2 ^ k) 1==1)with
   |true=>
    go_wp2_with (first|((with_reducible apply Aa7 M.o AbO);rfl;rfl;rfl;rfl;intro w' g M' hb';(replace M:=bx M';clear M');clear hb')|(at_builtin;(with_reducible apply AaU M.o AbO);rfl;exact One.v rfl;(unfold maxLen;omega);omega;rfl;rfl;rfl;rfl;intro A' c' w' M';(replace M:=bx M';clear M')))
    go_roundw
    case rel=>
     have e1:ints .i64 (l ++ [(k:Int)])=ints .i64 l ++ [.int .i64 (k:Int)]:=by simp[ints]
     refine⟨k+1,l ++ [(k:Int)],A',c',by omega,by go_num,by simp;omega,by simp,?_⟩
     rw[List.length_append,e1]
     exact M.o
    case measure=>simp[intOf];omega
   |false=>
    go_wp2_with fail
    go_roundw
    case rel=>exact⟨k+1,l,A,c,by omega,by go_num,by omega,rfl,M.o⟩
    case measure=>simp[intOf];omega
  .obtain rfl:k=n:=by omega
   by_cases he:l.length=0
   .have hnil:l = []:=List.eq_nil_of_length_eq_zero he
    subst hnil
    by_cases hk0:k=0
    .subst hk0
     go_wp2_with fail
     go_ret
     exact⟨A,c,[],rfl,by simp,M.o.rows _ (List.mem_cons_self ..),M.bel⟩
    .have hkp:(0:Int)<(k:Int):=by omega
     go_wp2_with ((with_reducible apply AgW M.o AbO (P:=[[.int .i64 0]]) (ls:=[1]));rfl;rfl;rfl;rfl;rfl;rfl;intro w' A1 c1 M';(replace M:=bx M';clear M'))
     go_ret
     exact⟨A1,c1,[0],rfl,by simp,M.o.rows _ (List.mem_cons_self ..),M.bel⟩
   .have hne:((l.length:Int)==0)=false:=by rw[beq_eq_false_iff_ne];omega
    go_wp2_with fail
    go_ret
    exact⟨A,c,l,rfl,by omega,M.o.rows _ (List.mem_cons_self ..),M.bel⟩
theorem Aom{s:Sto}(h:∃t∈s.tabs,t.c=s.just):∃t∈s.tabs,s.balj=t.b:=by
 rcases Aay (fun t:Tbl=>decide (t.c=s.just)) s.tabs with⟨_,h2⟩|⟨k,hk,h1,_⟩
 .obtain⟨t,ht,e⟩:=h
  have:=h2 t ht
  simp[e]at this
 .exact⟨s.tabs[k],List.getElem_mem hk,Ahe hk h1⟩
theorem SI.wok{k:Nat}{s:Sto}(h:SI k s)(hk:k<=40):WOk s:=by
 have h7:s.bal.length<=7:=by have:=h.bal;omega
 obtain⟨t,ht,e⟩:=Aom h.tab
 have hv:=h.tbs t ht
 unfold tbE valE at hv
 have hl:t.b.length=s.bal.length:=by
  by_cases hc:(t.b.length:Int)=(s.bal.length:Int)
  .omega
  .rw[if_neg hc]at hv;omega
 rw[if_pos (by omega)]at hv
 have hs:(t.b.map fun x=>(x.n:Int)).sum<=4611686018427387904:=by
  by_cases hc:(t.b.map fun x=>(x.n:Int)).sum<=4611686018427387904
  .exact hc
  .rw[if_neg hc]at hv;omega
 obtain⟨j,hj,r1,_⟩:=h.just
 have hn:=h.nl
 exact {sp:=h.spe.1,lk:=h.t.lk,pos:=h.t.pos,nb:=by omega,tb:=by have:=h.tl;omega,eb:=by have:=h.eqv;omega,lat:=by rw[h.lat,e,hl],b7:=by rw[e,hl];exact h7,sm:=by
         rw[e]
         refine⟨fun x hx=>?_,hs⟩
         obtain⟨u,_,rfl⟩:=List.mem_map.1 hx
         omega
        just:=by
         have:=Agm h.t.diff hj
         rw[r1]at this
         omega}
theorem Af5(a b:Rt):cmpRt b a = - cmpRt a b:=Aek _ _
theorem AjY(a:Rt):cmpRt a a=0:=Ago _
theorem AjX{a b:Rt}(h:cmpRt a b=0):a=b:=Rt.ext' ((Adv _ _ (by rw[a.len,b.len])).1 h)
theorem Am0{a b c:Rt}(h1:cmpRt a b<=0)(h2:cmpRt b c<=0):cmpRt a c<=0:=Ad8 _ _ _ (by rw[a.len,b.len]) (by rw[b.len,c.len]) h1 h2
section
variable {N:List Nod}{W:List U}{L:List Bool}
def NoB(N:List Nod)(W:List U)(a b:Nat):Prop:=(W.getD a u0).n<(W.getD b u0).n\/((W.getD a u0).n=(W.getD b u0).n/\cmpRt (N.getD a n0).b.root (N.getD b n0).b.root<=0)
theorem NoB.self(a:Nat):NoB N W a a:=.inr ⟨rfl,by rw[AjY];exact Int.le_refl _⟩
theorem NoB.trans{a b c:Nat}(h1:NoB N W a b)(h2:NoB N W b c):NoB N W a c:=by
 rcases h1 with h1|⟨h1,h1'⟩
 .rcases h2 with h2|⟨h2,_⟩
  .exact .inl (Nat.lt_trans h1 h2)
  .exact .inl (by rw[<-h2];exact h1)
 .rcases h2 with h2|⟨h2,h2'⟩
  .exact .inl (by rw[h1];exact h2)
  .exact .inr ⟨h1.trans h2,Am0 h1' h2'⟩
def BstOf(N:List Nod)(W:List U)(L:List Bool)(l:List Nat)(b:Int):Prop:=
 (b = -1/\∀x∈l,L.getD x false=false)\/∃k:Nat,b=(k:Int)/\k∈l/\L.getD k false=true/\∀x∈l,L.getD x false=true->NoB N W x k
theorem Akj{l:List Nat}{b:Int}{c:Nat}(h:BstOf N W L l b):BstOf N W L (l ++ [c]) (betB N W L b c):=by
 cases hl:L.getD c false with
 |false=>
  have e:betB N W L b c=b:=by unfold betB;rw[if_neg (fun h=>by rw[hl]at h;cases h.1)]
  rw[e]
  rcases h with⟨h1,h2⟩|⟨k,h1,h2,h3,h4⟩
  .refine .inl ⟨h1,fun x hx=>?_⟩
   rcases List.mem_append.1 hx with hx|hx
   .exact h2 x hx
   .obtain rfl:=List.mem_singleton.1 hx;exact hl
  .refine .inr ⟨k,h1,List.mem_append_left _ h2,h3,fun x hx hlx=>?_⟩
   rcases List.mem_append.1 hx with hx|hx
   .exact h4 x hx hlx
   .obtain rfl:=List.mem_singleton.1 hx;rw[hl]at hlx;cases hlx
 |true=>
  rcases h with⟨h1,h2⟩|⟨k,h1,h2,h3,h4⟩
  .have e:betB N W L b c=(c:Int):=by unfold betB;rw[if_pos ⟨hl,.inl (by omega)⟩]
   rw[e]
   refine .inr ⟨c,rfl,by simp,hl,fun x hx hlx=>?_⟩
   rcases List.mem_append.1 hx with hx|hx
   .rw[h2 x hx]at hlx;cases hlx
   .obtain rfl:=List.mem_singleton.1 hx;exact NoB.self _
  .subst h1
   by_cases hc:(W.getD k u0).n<(W.getD c u0).n\/((W.getD c u0).n=(W.getD k u0).n/\0<cmpRt (N.getD c n0).b.root (N.getD k n0).b.root)
   .have e:betB N W L (k:Int) c=(c:Int):=by unfold betB;rw[Int.toNat_natCast,if_pos ⟨hl,.inr hc⟩]
    rw[e]
    have hkc:NoB N W k c:=by
     rcases hc with hc|⟨hc,hd⟩
     .exact .inl hc
     .exact .inr ⟨hc.symm,by rw[Af5];omega⟩
    refine .inr ⟨c,rfl,by simp,hl,fun x hx hlx=>?_⟩
    rcases List.mem_append.1 hx with hx|hx
    .exact(h4 x hx hlx).trans hkc
    .obtain rfl:=List.mem_singleton.1 hx;exact NoB.self _
   .have e:betB N W L (k:Int) c=(k:Int):=by
     unfold betB;rw[Int.toNat_natCast,if_neg]
     rintro⟨_,h|h⟩
     .omega
     .exact hc h
    rw[e]
    refine .inr ⟨k,rfl,List.mem_append_left _ h2,h3,fun x hx hlx=>?_⟩
    rcases List.mem_append.1 hx with hx|hx
    .exact h4 x hx hlx
    .obtain rfl:=List.mem_singleton.1 hx
     rcases Nat.lt_trichotomy (W.getD x u0).n (W.getD k u0).n with h|h|h
     .exact .inl h
     .exact .inr ⟨h,by
       rcases Int.lt_or_le 0 (cmpRt (N.getD x n0).b.root (N.getD k n0).b.root)with h5|h5
       .exact absurd (.inr ⟨h,h5⟩) hc
       .exact h5⟩
     .exact absurd (.inl h) hc
theorem AnK:∀(l p:List Nat) (b:Int),BstOf N W L p b->BstOf N W L (p++l) (l.foldl (betB N W L) b)
 |[],p,b,h=>by simpa using h
 |c::l,p,b,h=>by
  have:=AnK l (p ++ [c]) _ (Akj (c:=c) h)
  simpa using this
theorem Aec(i:Int):BstOf N W L (kids N i) (bestI N W L i):=by
 have:=AnK (kids N i) [] (-1) (.inl ⟨rfl,fun x hx=>by cases hx⟩) (N:=N) (W:=W) (L:=L)
 rw[List.nil_append]at this
 exact this
theorem AdO{i:Int}{k:Nat}(h:bestI N W L i=(k:Int)):k∈kids N i/\L.getD k false=true/\∀x∈kids N i,L.getD x false=true->NoB N W x k:=by
 rcases Aec (N:=N) (W:=W) (L:=L) i with⟨h1,_⟩|⟨k',h1,h2⟩
 .omega
 .obtain rfl:k'=k:=by omega
  exact h2
theorem AfJ{i:Int}:bestI N W L i<0\/∃k:Nat,bestI N W L i=(k:Int):=by
 rcases Aec (N:=N) (W:=W) (L:=L) i with⟨h1,_⟩|⟨k',h1,_⟩
 .exact .inl (by omega)
 .exact .inr ⟨k',h1⟩
theorem AcL:∀(f:Nat) (i:Int),headF N W L (f+1) i=if bestI N W L (headF N W L f i)<0 then headF N W L f i else bestI N W L (headF N W L f i)
 |0,i=>rfl
 |f+1,i=>by
  have e1:headF N W L (f+1+1) i=if bestI N W L i<0 then i else headF N W L (f+1) (bestI N W L i):=rfl
  have e2:headF N W L (f+1) i=if bestI N W L i<0 then i else headF N W L f (bestI N W L i):=rfl
  rw[e1,e2]
  by_cases h:bestI N W L i<0
  .simp only[if_pos h]
  .simp only[if_neg h]
   exact AcL f _
def Stp(N:List Nod)(W:List U)(L:List Bool)(j i:Int):Prop:=∃f,headF N W L f j=i
theorem Adb{u k:Nat}(h:k∈kids N (u:Int)):∃hk:k<N.length,N[k].up=(u:Int):=Abz h
theorem Ahs(hk:Lk (upsN N)){j:Nat}(hj:j<N.length){i:Int}(h:Stp N W L (j:Int) i):∃m:Nat,m<N.length/\i=(m:Int)/\ancI N (j:Int) (m:Int)=true:=by
 obtain⟨f,h⟩:=h
 induction f generalizing i with
 |zero=>exact⟨j,hj,h.symm,Aed hk hj⟩
 |succ f ih=>
  rw[AcL]at h
  obtain⟨u,hu,e,ha⟩:=ih rfl
  split at h
  .exact ih h
  .rename_i hn
   rw[e]at h
   rcases AfJ (N:=N) (W:=W) (L:=L) (i:=(u:Int))with h1|⟨k,h1⟩
   .rw[e]at hn;omega
   .obtain⟨h2,_⟩:=AdO h1
    obtain⟨hk1,hk2⟩:=Adb h2
    exact⟨k,hk1,by omega,(Ack hk hk1 hk2).2 (.inr ha)⟩
theorem AkG(hk:Lk (upsN N)){j:Nat}(hj:j<N.length):∀f:Nat,0<=bestI N W L (headF N W L f (j:Int))->(j:Int)+f<=headF N W L f (j:Int)
 |0,_=>by simp[headF]
 |f+1,h=>by
  rw[AcL]at h |-
  obtain⟨u,hu,e,ha⟩:=Ahs (W:=W) (L:=L) hk hj ⟨f,rfl⟩
  split at h
  .omega
  .rename_i hn
   rw[if_neg hn]
   have ih:=AkG hk hj f (by omega)
   rcases AfJ (N:=N) (W:=W) (L:=L) (i:=(u:Int))with h1|⟨k,h1⟩
   .rw[e]at hn;omega
   .obtain⟨h2,_⟩:=AdO h1
    obtain⟨hk1,hk2⟩:=Adb h2
    have:=AcJ hk k hk1
    rw[e]at ih |-
    rw[h1]
    omega
theorem AkE(hk:Lk (upsN N)){j:Nat}(hj:j<N.length):bestI N W L (headF N W L N.length (j:Int))<0:=by
 rcases Int.lt_or_le (bestI N W L (headF N W L N.length (j:Int))) 0 with h|h
 .exact h
 .have h1:=AkG hk hj N.length h
  obtain⟨m,hm,e,_⟩:=Ahs (W:=W) (L:=L) hk hj ⟨N.length,rfl⟩
  omega
theorem AiT(hk:Lk (upsN N)){j:Nat}(hj:j<N.length){f:Nat}(hf:bestI N W L (headF N W L f (j:Int))<0):headF N W L N.length (j:Int)=headF N W L f (j:Int):=by
 have up:∀(g f:Nat),bestI N W L (headF N W L f (j:Int))<0->headF N W L (f+g) (j:Int)=headF N W L f (j:Int):=by
  intro g
  induction g with
  |zero=>intro f _;rfl
  |succ g ih=>
   intro f h
   rw[<-Nat.add_assoc,AcL,ih f h,if_pos h]
 rcases Nat.le_total f N.length with h|h
 .obtain⟨g,e⟩:=Nat.exists_eq_add_of_le h
  rw[e];exact up g f hf
 .obtain⟨g,e⟩:=Nat.exists_eq_add_of_le h
  rw[e];exact(up g N.length (AkE hk hj)).symm
end
open Go.RowKit Old
theorem TI.wf{N:List Nod}(t:TI N):Wf (N.map toNd) where
 first:=fun h=>by
  have h0:0<N.length:=by simpa using h
  rcases Ady t.lk h0 with⟨_,e⟩|⟨u,hu,_⟩
  .simpa [toNd]using e
  .omega
 up:=fun i h h0=>by
  have hi:i<N.length:=by simpa using h
  rcases Ady t.lk hi with⟨e,_⟩|⟨u,hu,e⟩
  .omega
  .obtain⟨h1,h2⟩:=t.par i u hi (by omega) e
   refine⟨u,hu,by simpa [toNd]using e,?_,?_⟩
   .simpa [toNd,toBk]using congrArg Rt.l h1
   .simp[toNd,toBk];exact h2
 diff:=fun i j hi hj e=>by
  have hi':i<N.length:=by simpa using hi
  have hj':j<N.length:=by simpa using hj
  exact t.diff i j hi' hj' (Rt.ext' (by simpa [toNd,toBk]using e))
 st:=fun x hx=>by
  obtain⟨n,hn,rfl⟩:=List.mem_map.1 hx
  have:=t.st n hn
  simp only[toNd]
  omega
 nz:=fun x hx=>by
  obtain⟨n,hn,rfl⟩:=List.mem_map.1 hx
  intro e
  exact t.nz n hn (Rt.ext' e)
 bt:=fun x hx=>by
  obtain⟨n,hn,rfl⟩:=List.mem_map.1 hx
  exact n.b.root.bt
def Sto.dl(s:Sto):List Int:=dirL (s.nodes.map toNd) (s.lat.map toVt) s.eqv (ub s.balj) s.balj.length
def Sto.am(s:Sto):Int:=amt (s.c.spe.n:Int) (s.c.bp.n:Int) (Old.sumV (ub s.balj))
def Sto.db(s:Sto):List Int:=boostV (s.nodes.map toNd) s.dl s.boost.l s.am (fndI s.nodes s.boost)
theorem Alb(s:Sto):s.wts=(subL (upsN s.nodes) s.nodes.length s.db).map toU:=rfl
theorem Ao7(s:Sto):s.dl.length=s.nodes.length:=by unfold Sto.dl;rw[AcG,List.length_map]
theorem Aov{bs:List Int}(h:SmT bs):Old.sumV bs=bs.sum:=by
 unfold Old.sumV
 rw[if_pos (by have:=h.2;omega)]
theorem ArC{s p t:Int}(ht:0<=t)(hp:0<=p):0<=amt s p t/\amt s p t<=t:=by
 unfold amt
 split
 .rename_i h
  obtain⟨h1,h2,h3,h4⟩:=h
  have a1:0<=t / s:=Int.ediv_nonneg ht (by omega)
  have a2:t / s<=t:=Int.ediv_le_self _ ht
  have a3:0<=t / s*p:=Int.mul_nonneg a1 hp
  have a4:t / s*p<=t / s*100:=Int.mul_le_mul_of_nonneg_left h3 a1
  omega
 .omega
theorem ArD{s:Sto}(h:SmT (ub s.balj)):0<=s.am/\s.am<=(ub s.balj).sum:=by
 have h0:=Ac3 h.1
 have:=ArC (s:=(s.c.spe.n:Int)) (p:=(s.c.bp.n:Int)) (t:=(ub s.balj).sum) h0 (by omega)
 unfold Sto.am
 rw[Aov h]
 exact this
theorem ArX{s:Sto}(h:SmT (ub s.balj)):∀x∈s.dl,0<=x/\x<=4611686018427387904:=AfB h (by rw[Aji];exact Nat.le_refl _)
theorem Apj{l:List Int}{b:Int}(hb:0<=b)(h:∀x∈l,0<=x/\x<=b)(j:Nat):0<=nat0 l j/\nat0 l j<=b:=by
 unfold nat0
 by_cases hj:j<l.length
 .rw[getD_at hj];exact h _ (List.getElem_mem hj)
 .rw[List.getD,List.getElem?_eq_none (by omega)];exact⟨Int.le_refl _,hb⟩
theorem AoS{s:Sto}(h:SmT (ub s.balj)):s.db=s.dl\/∃(i:Nat) (hi:i<s.nodes.length),s.nodes[i].st≠2/\s.db=s.dl.set i (s.dl.getD i 0+s.am):=by
 unfold Sto.db boostV
 split
 .exact .inl rfl
 .split
  .rename_i h1 h2
   obtain⟨k,hk,e,_⟩:=Aci h2.1
   right
   rw[e]at h2
   rw[e,Int.toNat_natCast]
   have hkl:k<(s.nodes.map toNd).length:=by simpa using hk
   have h3:=h2.2
   rw[Int.toNat_natCast,Ai1 hkl]at h3
   have a1:=ArD h
   have a2:=Apj (by decide) (ArX h) k
   have a3:=h.2
   unfold nat0 at a2
   refine⟨k,hk,by simpa [toNd]using h3,?_⟩
   have e2:(s.dl.getD k 0+s.am)%18446744073709551616=s.dl.getD k 0+s.am:=by omega
   rw[e2]
  .exact .inl rfl
theorem Ao9{s:Sto}(h:SmT (ub s.balj)):s.db.length=s.nodes.length:=by
 rcases AoS h with e|⟨i,_,_,e⟩
 .rw[e,Ao7]
 .rw[e,List.length_set,Ao7]
theorem Ait(s:Sto):s.wts.length=s.nodes.length:=by rw[Alb,List.length_map,Ae4]
open Go.RowKit Old
section
variable {s:Sto}
theorem AhL{k:Nat}(h:SI k s):∃j,∃hj:j<s.nodes.length,fndI s.nodes s.just.r=(j:Int)/\s.nodes[j].st≠2:=by
 obtain⟨j,hj,e,h2⟩:=h.just
 exact⟨j,hj,by rw[<-e];exact Agm h.t.diff hj,h2⟩
end
open Go.RowKit Old
theorem ztWd:ZeroT Tryz.prog 27 [wc w0] [4]:=⟨fun w=>by kernel_rfl,lenW _⟩
def wd4(a b c d:Int)(h:∀x ∈ [a,b,c,d],0<=x/\x<18446744073709551616):Wd:=⟨[a,b,c,d],rfl,h⟩
theorem Acd a:Tryz.prog.built 27 [(0,.int .u64 a)]=some [Value.int .u64 a,.int .u64 0,.int .u64 0,.int .u64 0].toArray:=by kernel_rfl
theorem AoX(a b:Int):Tryz.prog.built 27 [(0,.int .u64 a),(1,.int .u64 b)]=some [Value.int .u64 a,.int .u64 b,.int .u64 0,.int .u64 0].toArray:=by kernel_rfl
theorem one4(a b c d:Int):One [Value.int .u64 a,.int .u64 b,.int .u64 c,.int .u64 d]:=fun u hu=>by
 simp only[List.mem_cons,List.mem_nil_iff,or_false]at hu
 rcases hu with rfl|rfl|rfl|rfl<;>rfl
def WidP(w:World)(e:Ending)(w':World):Prop:=∃a:Wd,e=.returned (.agg (wc a).toArray)/\Below w.heap.size w w'
theorem Agv(n:Int)(k:Nat)(hk:k<=63){m:Int}(hm:m=((2 ^ k-1:Nat):Int)):∃r:Int,bits .and .i64 n m=r/\0<=r/\r<=m:=by
 subst hm
 rw[Ahf n k hk]
 have h0:=Nat.two_pow_pos k
 have h1:(0:Int)<=n%((2 ^ k:Nat):Int):=Int.emod_nonneg _ (by omega)
 have h2:n%((2 ^ k:Nat):Int)<((2 ^ k:Nat):Int):=Int.emod_lt_of_pos _ (by omega)
 exact⟨_,rfl,h1,by omega⟩
theorem Ahh(n:Int)(w:World):Calls Tryz.prog 121 #[.int .i64 n] w (WidP w):=by
 have M:=bx (MM.start (AiD w))
 obtain⟨a,ha,a0,a1⟩:=Agv n 7 (by decide) (m:=127) rfl
 obtain⟨b,hb,b0,b1⟩:=Agv (n / 128) 2 (by decide) (m:=3) rfl
 obtain⟨c,hc,c0,c1⟩:=Agv (n / 512) 2 (by decide) (m:=3) rfl
 obtain⟨d,hd,d0,d1⟩:=Agv (n / 2048) 2 (by decide) (m:=3) rfl
 obtain⟨e,he,e0,e1⟩:=Agv (n / 512) 6 (by decide) (m:=63) rfl
 obtain⟨f,hf,f0,f1⟩:=Agv (n / 512) 1 (by decide) (m:=1) rfl
 rcases(by omega:b=0\/b=1\/b=2\/b=3)with rfl|rfl|rfl|rfl
 .go_enter Tryz.func121,Tryz.ntmps121
  (go_wp2_with (first|(refine zALd (ztWd) ?_;clear M;intro w' g M)|refine zBDd 27 [(0,.int .u64 a)] [Value.int .u64 a,.int .u64 0,.int .u64 0,.int .u64 0] (Acd _) ?_|((first|refine zSSd M 0 [[Value.int .u64 a,.int .u64 0,.int .u64 0,.int .u64 0]] [[Value.int .u64 a,.int .u64 0,.int .u64 0,.int .u64 0]] (rfl) (one4 _ _ _ _) ?_|refine zSSd M 1 [[Value.int .u64 a,.int .u64 0,.int .u64 0,.int .u64 0]] [[Value.int .u64 a,.int .u64 0,.int .u64 0,.int .u64 0]] (rfl) (one4 _ _ _ _) ?_);clear M;intro w' M)|refine zLAd ?_))
  exact zR M.o.at1 ⟨wd4 a 0 0 0 (by intro y hy;simp only[List.mem_cons,List.mem_nil_iff,or_false]at hy;rcases hy with rfl|rfl|rfl|rfl<;>omega),rfl,M.bel⟩
 .rcases(by omega:c=0\/c=1\/c=2\/c=3)with rfl|rfl|rfl|rfl
  .go_enter Tryz.func121,Tryz.ntmps121
   (go_wp2_with (first|(refine zALd (ztWd) ?_;clear M;intro w' g M)|refine zBDd 27 [(0,.int .u64 a)] [Value.int .u64 a,.int .u64 0,.int .u64 0,.int .u64 0] (Acd _) ?_|(refine zSSd M 0 [[Value.int .u64 a,.int .u64 0,.int .u64 0,.int .u64 0]] [[Value.int .u64 a,.int .u64 0,.int .u64 0,.int .u64 0]] (rfl) (one4 _ _ _ _) ?_;clear M;intro w' M)|((with_reducible apply AaX (k:=0) M.o 0 (.int .u64 d));rfl;(simp);rfl;rfl;rfl;rfl;exact zots;rfl;rfl;intro w' M';(simp only[List.set_cons_zero,List.set_cons_succ]at M');(replace M:=bx M';clear M');refine zNM ?_)|(refine zSSd M 1 [[Value.int .u64 d,.int .u64 0,.int .u64 0,.int .u64 0]] [[Value.int .u64 d,.int .u64 0,.int .u64 0,.int .u64 0]] (rfl) (one4 _ _ _ _) ?_;clear M;intro w' M)|refine zLAd ?_))
   exact zR M.o.at1 ⟨wd4 d 0 0 0 (by intro y hy;simp only[List.mem_cons,List.mem_nil_iff,or_false]at hy;rcases hy with rfl|rfl|rfl|rfl<;>omega),rfl,M.bel⟩
  .go_enter Tryz.func121,Tryz.ntmps121
   (go_wp2_with (first|(refine zALd (ztWd) ?_;clear M;intro w' g M)|refine zBDd 27 [(0,.int .u64 a)] [Value.int .u64 a,.int .u64 0,.int .u64 0,.int .u64 0] (Acd _) ?_|(refine zSSd M 0 [[Value.int .u64 a,.int .u64 0,.int .u64 0,.int .u64 0]] [[Value.int .u64 a,.int .u64 0,.int .u64 0,.int .u64 0]] (rfl) (one4 _ _ _ _) ?_;clear M;intro w' M)|((with_reducible apply AaX (k:=1) M.o 0 (.int .u64 d));rfl;(simp);rfl;rfl;rfl;rfl;exact zots;rfl;rfl;intro w' M';(simp only[List.set_cons_zero,List.set_cons_succ]at M');(replace M:=bx M';clear M');refine zNM ?_)|(refine zSSd M 1 [[Value.int .u64 a,.int .u64 d,.int .u64 0,.int .u64 0]] [[Value.int .u64 a,.int .u64 d,.int .u64 0,.int .u64 0]] (rfl) (one4 _ _ _ _) ?_;clear M;intro w' M)|refine zLAd ?_))
   exact zR M.o.at1 ⟨wd4 a d 0 0 (by intro y hy;simp only[List.mem_cons,List.mem_nil_iff,or_false]at hy;rcases hy with rfl|rfl|rfl|rfl<;>omega),rfl,M.bel⟩
  .go_enter Tryz.func121,Tryz.ntmps121
   (go_wp2_with (first|(refine zALd (ztWd) ?_;clear M;intro w' g M)|refine zBDd 27 [(0,.int .u64 a)] [Value.int .u64 a,.int .u64 0,.int .u64 0,.int .u64 0] (Acd _) ?_|(refine zSSd M 0 [[Value.int .u64 a,.int .u64 0,.int .u64 0,.int .u64 0]] [[Value.int .u64 a,.int .u64 0,.int .u64 0,.int .u64 0]] (rfl) (one4 _ _ _ _) ?_;clear M;intro w' M)|((with_reducible apply AaX (k:=2) M.o 0 (.int .u64 d));rfl;(simp);rfl;rfl;rfl;rfl;exact zots;rfl;rfl;intro w' M';(simp only[List.set_cons_zero,List.set_cons_succ]at M');(replace M:=bx M';clear M');refine zNM ?_)|(refine zSSd M 1 [[Value.int .u64 a,.int .u64 0,.int .u64 d,.int .u64 0]] [[Value.int .u64 a,.int .u64 0,.int .u64 d,.int .u64 0]] (rfl) (one4 _ _ _ _) ?_;clear M;intro w' M)|refine zLAd ?_))
   exact zR M.o.at1 ⟨wd4 a 0 d 0 (by intro y hy;simp only[List.mem_cons,List.mem_nil_iff,or_false]at hy;rcases hy with rfl|rfl|rfl|rfl<;>omega),rfl,M.bel⟩
  .go_enter Tryz.func121,Tryz.ntmps121
   (go_wp2_with (first|(refine zALd (ztWd) ?_;clear M;intro w' g M)|refine zBDd 27 [(0,.int .u64 a)] [Value.int .u64 a,.int .u64 0,.int .u64 0,.int .u64 0] (Acd _) ?_|(refine zSSd M 0 [[Value.int .u64 a,.int .u64 0,.int .u64 0,.int .u64 0]] [[Value.int .u64 a,.int .u64 0,.int .u64 0,.int .u64 0]] (rfl) (one4 _ _ _ _) ?_;clear M;intro w' M)|((with_reducible apply AaX (k:=3) M.o 0 (.int .u64 d));rfl;(simp);rfl;rfl;rfl;rfl;exact zots;rfl;rfl;intro w' M';(simp only[List.set_cons_zero,List.set_cons_succ]at M');(replace M:=bx M';clear M');refine zNM ?_)|(refine zSSd M 1 [[Value.int .u64 a,.int .u64 0,.int .u64 0,.int .u64 d]] [[Value.int .u64 a,.int .u64 0,.int .u64 0,.int .u64 d]] (rfl) (one4 _ _ _ _) ?_;clear M;intro w' M)|refine zLAd ?_))
   exact zR M.o.at1 ⟨wd4 a 0 0 d (by intro y hy;simp only[List.mem_cons,List.mem_nil_iff,or_false]at hy;rcases hy with rfl|rfl|rfl|rfl<;>omega),rfl,M.bel⟩
 .obtain⟨X,hX⟩:∃X:Int,(18446744073709551615:Int) / 2 ^ e.toNat=X:=⟨_,rfl⟩
  have hX0:0<=X:=by rw[<-hX];exact Int.ediv_nonneg (by decide) (Int.le_of_lt (Int.pow_pos (by decide)))
  have hX1:X<=18446744073709551615:=by rw[<-hX];exact Int.ediv_le_self _ (by decide)
  go_enter Tryz.func121,Tryz.ntmps121
  (go_wp2_with (first|(refine zALd (ztWd) ?_;clear M;intro w' g M)|refine zBDd 27 [(0,.int .u64 a)] [Value.int .u64 a,.int .u64 0,.int .u64 0,.int .u64 0] (Acd _) ?_|(refine zSSd M 0 [[Value.int .u64 a,.int .u64 0,.int .u64 0,.int .u64 0]] [[Value.int .u64 a,.int .u64 0,.int .u64 0,.int .u64 0]] (rfl) (one4 _ _ _ _) ?_;clear M;intro w' M)|refine zBDd 27 [(0,.int .u64 18446744073709551615),(1,.int .u64 X)] [Value.int .u64 18446744073709551615,.int .u64 X,.int .u64 0,.int .u64 0] (AoX _ _) ?_|((first|refine zSSd M 0 [[Value.int .u64 18446744073709551615,.int .u64 X,.int .u64 0,.int .u64 0]] [[Value.int .u64 18446744073709551615,.int .u64 X,.int .u64 0,.int .u64 0]] (rfl) (one4 _ _ _ _) ?_|refine zSSd M 1 [[Value.int .u64 18446744073709551615,.int .u64 X,.int .u64 0,.int .u64 0]] [[Value.int .u64 18446744073709551615,.int .u64 X,.int .u64 0,.int .u64 0]] (rfl) (one4 _ _ _ _) ?_);clear M;intro w' M)|refine zLAd ?_))
  exact zR M.o.at1 ⟨wd4 18446744073709551615 X 0 0 (by intro y hy;simp only[List.mem_cons,List.mem_nil_iff,or_false]at hy;rcases hy with rfl|rfl|rfl|rfl<;>omega),rfl,M.bel⟩
 .have h3:IntKind.u64.wrap (18446744073709551615-f)=18446744073709551615-f:=by simp[IntKind.wrap,IntKind.bits,IntKind.signed]<;>omega
  go_enter Tryz.func121,Tryz.ntmps121
  (go_wp2_with (first|(refine zALd (ztWd) ?_;clear M;intro w' g M)|refine zBDd 27 [(0,.int .u64 a)] [Value.int .u64 a,.int .u64 0,.int .u64 0,.int .u64 0] (Acd _) ?_|(refine zSSd M 0 [[Value.int .u64 a,.int .u64 0,.int .u64 0,.int .u64 0]] [[Value.int .u64 a,.int .u64 0,.int .u64 0,.int .u64 0]] (rfl) (one4 _ _ _ _) ?_;clear M;intro w' M)|((with_reducible apply AaX (k:=3) M.o 0 (.int .u64 (18446744073709551615-f)));rfl;(simp);rfl;rfl;rfl;rfl;exact zots;rfl;rfl;intro w' M';(simp only[List.set_cons_zero,List.set_cons_succ]at M');(replace M:=bx M';clear M');refine zNM ?_)|(refine zSSd M 1 [[Value.int .u64 a,.int .u64 0,.int .u64 0,.int .u64 (18446744073709551615-f)]] [[Value.int .u64 a,.int .u64 0,.int .u64 0,.int .u64 (18446744073709551615-f)]] (rfl) (one4 _ _ _ _) ?_;clear M;intro w' M)|refine zLAd ?_))
  exact zR M.o.at1 ⟨wd4 a 0 0 (18446744073709551615-f) (by intro y hy;simp only[List.mem_cons,List.mem_nil_iff,or_false]at hy;rcases hy with rfl|rfl|rfl|rfl<;>omega),rfl,M.bel⟩
end Go.Proofs.YtpaihpeoiliioaaGreat
