/- Texts joined: what the walks of this claim stand on (part 25 of 43). -/
import Derived.Test.YtmgeheaneohldaaGreatYK21
import Derived.Test.YtmgeheaneohldaaGreatYK24
set_option linter.all false
set_option maxRecDepth 20000
set_option maxHeartbeats 40000000
namespace Go.Proofs.YtmgeheaneohldaaGreat
open Go.RowKit Go.Proofs.YtmgeheaneohldaaGreat.Old
theorem AmV(n:Int):bits .and .i64 n 16777215=n%16777216:=Afz n 24 (by decide)
def atV(l:List Int)(i:Nat):Nat:=if l.length=0 then i else(l.getD (i%l.length) 0%16777216).toNat+i / l.length
theorem AnS(l:List Int)(i:Nat):atV l i<=16777215+i:=by
 unfold atV
 split
 .omega
 .have h1:i / l.length<=i:=Nat.div_le_self _ _
  have h2:l.getD (i%l.length) 0%16777216<16777216:=Int.emod_lt_of_pos _ (by decide)
  omega
theorem AmT(B:Nat)(A:Option Addr)(n c:Nat)(l:List Int)(i:Nat)(hi:i<=65535)(w:World)(hr:Row w B 1 A n (ints .i64 l))(hn:n<=maxLen)(hB:B<=w.heap.size) :
  Calls Tryz.prog 69 #[.slice A n c,.int .i64 i] w fun e w'=>e=.returned (.int .i64 (atV l i:Nat))/\Below w.heap.size w w':=by
 have hnm:n<=9223372036854775807:=hn
 have HL:l.length=n:=by have:=hr.1;simpa [ints]using this
 rcases Nat.eq_zero_or_pos n with h0|h0
 .subst h0
  have BB:=bx (Below.refl w.heap.size w)
  have ha:=Agy (i:Int)
  have hm:(i:Int)%65536=i:=by omega
  rw[hm]at ha
  have hz:((0:Int)==0)=true:=rfl
  have HA:Bx (atV l i=i):=⟨by unfold atV;rw[if_pos HL]⟩
  clear hr HL hm
  rw[HA.out]
  clear HA
  go_enter Tryz.func69,Tryz.ntmps69
  go_wp2_with fail
  go_ret
  exact⟨rfl,BB.out⟩
 .have him:i%n<n:=Nat.mod_lt _ h0
  have hgx:(ints .i64 l)[i%n]? = some (.int .i64 (l.getD (i%n) 0)):=by
   have:i%n<l.length:=by rw[HL];exact him
   rw[ints,List.getElem?_map,List.getElem?_eq_getElem this]
   simp[List.getD,List.getElem?_eq_getElem this]
  have HA:Bx (atV l i=(l.getD (i%n) 0%16777216).toNat+i / n):=⟨by unfold atV;rw[if_neg (by omega),HL]⟩
  rw[HA.out]
  generalize l.getD (i%n) 0=x at *
  obtain⟨ad,rfl,hab,hc⟩:=hr.2 _ _ hgx
  have hcell:∀w1:World,Cls w.heap.size w w1->w1.cell? (ad.add (i%n))=some (.int .i64 x):=fun w1 h1=>by
   rw[h1.out.cell (by unfold Addr.add;split<;>(show ad.block<_;omega))];exact hc
  have CX:=bx (fun w1 h1=>Ahk (hcell w1 h1))
  have ha:=AmV x
  have hx0:0<=x%16777216:=Int.emod_nonneg _ (by decide)
  have hx1:x%16777216<16777216:=Int.emod_lt_of_pos _ (by decide)
  obtain⟨y,hy⟩:∃y:Nat,x%16777216=(y:Int):=⟨(x%16777216).toNat,by omega⟩
  rw[hy]at ha
  rw[hy,Int.toNat_natCast]
  have hq:i / n<=i:=Nat.div_le_self _ _
  have hm1:((i:Int)%(n:Int))=((i%n:Nat):Int):=by omega
  have hq1:((i:Int) / (n:Int))=((i / n:Nat):Int):=by omega
  have hnn:((n:Int)==0)=false:=by rw[beq_eq_false_iff_ne];omega
  have h1:((i%n:Nat):Int)<(n:Int):=by omega
  have h2:(0:Int)<=((i%n:Nat):Int):=by omega
  clear hr HL hc hgx hcell hab HA
  rw[hy]at hx0 hx1
  clear hy
  generalize i%n=r at *
  generalize hqq:i / n=q at *
  go_enter Tryz.func69,Tryz.ntmps69
  go_wp2_with fail
  refine AbD w.heap.size (by kernel_rfl) (by kernel_rfl) ?_
  repeat(first|go_big_quiet_skip|(go_big_quiet_want;first|((with_reducible refine quiet_cell 3 _ rfl _ _ ?_ CX.out ?_);rfl;go_big_quiet_on;(simp only[Act.put,List.setIfInBounds_toArray,List.set_cons_succ,List.set_cons_zero]))|(go_big_quiet_op;first|go_big_quiet_on|((with_reducible refine⟨_,fun _ _=>rfl,?_⟩);go_big_quiet_on))))
  refine wpQuiet_nil ?_
  intro w4 hw4
  have B4:=bx hw4.out
  clear hw4
  go_wp2_with fail
  go_ret
  exact⟨by simp,B4.out⟩
def rtNum(n:Int):List Int:=((List.replicate 32 0).set 0 (n%256)).set 1 (n / 256%256) |>.set 31 (wrap64 (n*7)%256)
def rtB(n:Int):Rt:=⟨rtNum n,by simp[rtNum],fun x hx=>by
 unfold rtNum at hx
 rcases List.mem_or_eq_of_mem_set hx with hx|rfl
 .rcases List.mem_or_eq_of_mem_set hx with hx|rfl
  .rcases List.mem_or_eq_of_mem_set hx with hx|rfl
   .have:=List.eq_of_mem_replicate hx
    omega
   .omega
  .omega
 .omega⟩
theorem Aj2(a b c:Int):Tryz.prog.built 29 [(0,.int .u8 a),(1,.int .u8 b),(31,.int .u8 c)]=some ((((ints .u8 (List.replicate 32 0)).set 0 (.int .u8 a)).set 1 (.int .u8 b)).set 31 (.int .u8 c)).toArray:=by kernel_rfl
theorem Aj1(n:Int):Tryz.prog.built 29 [(0,.int .u8 (n%256)),(1,.int .u8 (n / 256%256)),(31,.int .u8 (wrap64 (n*7)%256))]=some (rc (rtB n)).toArray:=by
 have e:rc (rtB n)=(((ints .u8 (List.replicate 32 0)).set 0 (.int .u8 (n%256))).set 1 (.int .u8 (n / 256%256))).set 31 (.int .u8 (wrap64 (n*7)%256)):=by
  show ints .u8 (rtNum n)=_
  rw[rtNum,ints,ints,List.map_set,List.map_set,List.map_set]
 rw[e]
 exact Aj2 _ _ _
theorem AbN(n:Int)(w:World):Calls Tryz.prog 77 #[.int .i64 n] w fun e w'=>e=.returned (.agg (rc (rtB n)).toArray)/\Below w.heap.size w w':=by
 have M:=bx (MM.start (AeE w))
 have BR:=bx (Aj1 n)
 have L:=bx (lenR (rtB n))
 have O:=bx (Aah (rtB n))
 generalize rtB n=r at *
 go_enter Tryz.func77,Tryz.ntmps77
 go_wp2_with (first|(refine zALo (ztRt) ?_;clear M;intro w' g M)|refine zBDo 29 [(0,.int .u8 (n%256)),(1,.int .u8 (n / 256%256)),(31,.int .u8 (wrap64 (n*7)%256))] (rc r) BR.out ?_|(refine zSSo M 0 [rc r] [rc r] (L.out) (O.out) ?_;clear M;intro w' M))
 exact zRb M.out.at0 ⟨rfl,M.bel⟩
def SomP(n:Nat)(w:World)(e:Ending)(w':World):Prop:=∃(A:Option Addr) (c:Nat) (l:List Int),e=.returned (.slice A l.length c)/\l.length<=n+1/\w'.ownsRow w.heap.size 3 1 (.slice A l.length c) l.length (ints .i64 l)/\Below w.heap.size w w'
theorem AeQ(n:Nat)(hn:n<=64)(b:Int)(w:World):Calls Tryz.prog 113 #[.int .i64 n,.int .i64 b] w (SomP n w):=by
 have M:=bx (MM.start (AeE w))
 go_enter Tryz.func113,Tryz.ntmps113
 go_wp2_with fail
 replace M:=bx (M.out.row0 3 1)
 go_loopw [5,6] (fun s i wr=>∃(k:Nat) (l:List Int) (A:Option Addr) (c:Nat),k<=n/\i=.int .i64 k/\l.length<=k/\s=.slice A l.length c/\MM g0 w g0 wr [] [⟨.slice A l.length c,3,1,l.length,ints .i64 l⟩]) (fun _ i _=>n-(intOf i).toNat)
 case atStart=>exact⟨0,[],none,0,Nat.zero_le _,rfl,Nat.le_refl _,rfl,M.out⟩
 case round=>
  obtain⟨k,l,A,c,hk,rfl,hl,rfl,hM⟩:=hrel
  clear M
  have M:=bx hM
  clear hM
  by_cases hkn:k<n
  .have hki:(k:Int)<(n:Int):=by omega
   cases hb1:(bits .and .i64 (b / 2 ^ k) 1==1)with
   |true=>
    go_wp2_with (first|((with_reducible apply Aa6 M.out AbP);rfl;rfl;rfl;rfl;intro w' g M' hb';(replace M:=bx M';clear M');clear hb')|(at_builtin;(with_reducible apply AaW M.out AbP);rfl;exact One.v rfl;(unfold maxLen;omega);omega;rfl;rfl;rfl;rfl;intro A' c' w' M';(replace M:=bx M';clear M')))
    go_roundw
    case rel=>
     have e1:ints .i64 (l ++ [(k:Int)])=ints .i64 l ++ [.int .i64 (k:Int)]:=by simp[ints]
     refine⟨k+1,l ++ [(k:Int)],A',c',by omega,by go_num,by simp;omega,by simp,?_⟩
     rw[List.length_append,e1]
     exact M.out
    case measure=>simp[intOf];omega
   |false=>
    go_wp2_with fail
    go_roundw
    case rel=>exact⟨k+1,l,A,c,by omega,by go_num,by omega,rfl,M.out⟩
    case measure=>simp[intOf];omega
  .obtain rfl:k=n:=by omega
   by_cases he:l.length=0
   .have hnil:l = []:=List.eq_nil_of_length_eq_zero he
    subst hnil
    by_cases hk0:k=0
    .subst hk0
     go_wp2_with fail
     go_ret
     exact⟨A,c,[],rfl,by simp,M.out.rows _ (List.mem_cons_self ..),M.bel⟩
    .have hkp:(0:Int)<(k:Int):=by omega
     go_wp2_with ((with_reducible apply Ae7 M.out AbP (P:=[[.int .i64 0]]) (ls:=[1]));rfl;rfl;rfl;rfl;rfl;rfl;intro w' A1 c1 M';(replace M:=bx M';clear M'))
     go_ret
     exact⟨A1,c1,[0],rfl,by simp,M.out.rows _ (List.mem_cons_self ..),M.bel⟩
   .have hne:((l.length:Int)==0)=false:=by rw[beq_eq_false_iff_ne];omega
    go_wp2_with fail
    go_ret
    exact⟨A,c,l,rfl,by omega,M.out.rows _ (List.mem_cons_self ..),M.bel⟩
theorem ztWd:ZeroT Tryz.prog 27 [wc w0] [4]:=⟨fun w=>by kernel_rfl,lenW _⟩
def wd4(a b c d:Int)(h:∀x ∈ [a,b,c,d],0<=x/\x<18446744073709551616):Wd:=⟨[a,b,c,d],rfl,h⟩
theorem AcK a:Tryz.prog.built 27 [(0,.int .u64 a)]=some [Value.int .u64 a,.int .u64 0,.int .u64 0,.int .u64 0].toArray:=by kernel_rfl
theorem Ak9(a b:Int):Tryz.prog.built 27 [(0,.int .u64 a),(1,.int .u64 b)]=some [Value.int .u64 a,.int .u64 b,.int .u64 0,.int .u64 0].toArray:=by kernel_rfl
theorem one4(a b c d:Int):One [Value.int .u64 a,.int .u64 b,.int .u64 c,.int .u64 d]:=fun u hu=>by
 simp only[List.mem_cons,List.mem_nil_iff,or_false]at hu
 rcases hu with rfl|rfl|rfl|rfl<;>rfl
def WidP(w:World)(e:Ending)(w':World):Prop:=∃a:Wd,e=.returned (.agg (wc a).toArray)/\Below w.heap.size w w'
theorem AfT(n:Int)(k:Nat)(hk:k<=63){m:Int}(hm:m=((2 ^ k-1:Nat):Int)):∃r:Int,bits .and .i64 n m=r/\0<=r/\r<=m:=by
 subst hm
 rw[Afz n k hk]
 have h0:=Nat.two_pow_pos k
 have h1:(0:Int)<=n%((2 ^ k:Nat):Int):=Int.emod_nonneg _ (by omega)
 have h2:n%((2 ^ k:Nat):Int)<((2 ^ k:Nat):Int):=Int.emod_lt_of_pos _ (by omega)
 exact⟨_,rfl,h1,by omega⟩
theorem Af1(n:Int)(w:World):Calls Tryz.prog 112 #[.int .i64 n] w (WidP w):=by
 have M:=bx (MM.start (AeE w))
 obtain⟨a,ha,a0,a1⟩:=AfT n 7 (by decide) (m:=127) rfl
 obtain⟨b,hb,b0,b1⟩:=AfT (n / 128) 2 (by decide) (m:=3) rfl
 obtain⟨c,hc,c0,c1⟩:=AfT (n / 512) 2 (by decide) (m:=3) rfl
 obtain⟨d,hd,d0,d1⟩:=AfT (n / 2048) 2 (by decide) (m:=3) rfl
 obtain⟨e,he,e0,e1⟩:=AfT (n / 512) 6 (by decide) (m:=63) rfl
 obtain⟨f,hf,f0,f1⟩:=AfT (n / 512) 1 (by decide) (m:=1) rfl
 rcases(by omega:b=0\/b=1\/b=2\/b=3)with rfl|rfl|rfl|rfl
 .go_enter Tryz.func112,Tryz.ntmps112
  (go_wp2_with (first|go_skip|(refine zALd (ztWd) ?_;clear M;intro w' g M)|refine zBDd 27 [(0,.int .u64 a)] [Value.int .u64 a,.int .u64 0,.int .u64 0,.int .u64 0] (AcK _) ?_|(refine zSSd M 0 [[Value.int .u64 a,.int .u64 0,.int .u64 0,.int .u64 0]] [[Value.int .u64 a,.int .u64 0,.int .u64 0,.int .u64 0]] (rfl) (one4 _ _ _ _) ?_;clear M;intro w' M)|(refine zSSd M 1 [[Value.int .u64 a,.int .u64 0,.int .u64 0,.int .u64 0]] [[Value.int .u64 a,.int .u64 0,.int .u64 0,.int .u64 0]] (rfl) (one4 _ _ _ _) ?_;clear M;intro w' M)|refine zLAd ?_))
  exact zR M.out.at1 ⟨wd4 a 0 0 0 (by intro y hy;simp only[List.mem_cons,List.mem_nil_iff,or_false]at hy;rcases hy with rfl|rfl|rfl|rfl<;>omega),rfl,M.bel⟩
 .rcases(by omega:c=0\/c=1\/c=2\/c=3)with rfl|rfl|rfl|rfl
  .go_enter Tryz.func112,Tryz.ntmps112
   (go_wp2_with (first|go_skip|(refine zALd (ztWd) ?_;clear M;intro w' g M)|refine zBDd 27 [(0,.int .u64 a)] [Value.int .u64 a,.int .u64 0,.int .u64 0,.int .u64 0] (AcK _) ?_|(refine zSSd M 0 [[Value.int .u64 a,.int .u64 0,.int .u64 0,.int .u64 0]] [[Value.int .u64 a,.int .u64 0,.int .u64 0,.int .u64 0]] (rfl) (one4 _ _ _ _) ?_;clear M;intro w' M)|((with_reducible apply AaV (k:=0) M.out 0 (.int .u64 d));rfl;(simp);rfl;rfl;rfl;rfl;exact zots;rfl;rfl;intro w' M';(simp only[List.set_cons_zero,List.set_cons_succ]at M');(replace M:=bx M';clear M');refine zNM ?_)|(refine zSSd M 1 [[Value.int .u64 d,.int .u64 0,.int .u64 0,.int .u64 0]] [[Value.int .u64 d,.int .u64 0,.int .u64 0,.int .u64 0]] (rfl) (one4 _ _ _ _) ?_;clear M;intro w' M)|refine zLAd ?_))
   exact zR M.out.at1 ⟨wd4 d 0 0 0 (by intro y hy;simp only[List.mem_cons,List.mem_nil_iff,or_false]at hy;rcases hy with rfl|rfl|rfl|rfl<;>omega),rfl,M.bel⟩
  .go_enter Tryz.func112,Tryz.ntmps112
   (go_wp2_with (first|go_skip|(refine zALd (ztWd) ?_;clear M;intro w' g M)|refine zBDd 27 [(0,.int .u64 a)] [Value.int .u64 a,.int .u64 0,.int .u64 0,.int .u64 0] (AcK _) ?_|(refine zSSd M 0 [[Value.int .u64 a,.int .u64 0,.int .u64 0,.int .u64 0]] [[Value.int .u64 a,.int .u64 0,.int .u64 0,.int .u64 0]] (rfl) (one4 _ _ _ _) ?_;clear M;intro w' M)|((with_reducible apply AaV (k:=1) M.out 0 (.int .u64 d));rfl;(simp);rfl;rfl;rfl;rfl;exact zots;rfl;rfl;intro w' M';(simp only[List.set_cons_zero,List.set_cons_succ]at M');(replace M:=bx M';clear M');refine zNM ?_)|(refine zSSd M 1 [[Value.int .u64 a,.int .u64 d,.int .u64 0,.int .u64 0]] [[Value.int .u64 a,.int .u64 d,.int .u64 0,.int .u64 0]] (rfl) (one4 _ _ _ _) ?_;clear M;intro w' M)|refine zLAd ?_))
   exact zR M.out.at1 ⟨wd4 a d 0 0 (by intro y hy;simp only[List.mem_cons,List.mem_nil_iff,or_false]at hy;rcases hy with rfl|rfl|rfl|rfl<;>omega),rfl,M.bel⟩
  .go_enter Tryz.func112,Tryz.ntmps112
   (go_wp2_with (first|go_skip|(refine zALd (ztWd) ?_;clear M;intro w' g M)|refine zBDd 27 [(0,.int .u64 a)] [Value.int .u64 a,.int .u64 0,.int .u64 0,.int .u64 0] (AcK _) ?_|(refine zSSd M 0 [[Value.int .u64 a,.int .u64 0,.int .u64 0,.int .u64 0]] [[Value.int .u64 a,.int .u64 0,.int .u64 0,.int .u64 0]] (rfl) (one4 _ _ _ _) ?_;clear M;intro w' M)|((with_reducible apply AaV (k:=2) M.out 0 (.int .u64 d));rfl;(simp);rfl;rfl;rfl;rfl;exact zots;rfl;rfl;intro w' M';(simp only[List.set_cons_zero,List.set_cons_succ]at M');(replace M:=bx M';clear M');refine zNM ?_)|(refine zSSd M 1 [[Value.int .u64 a,.int .u64 0,.int .u64 d,.int .u64 0]] [[Value.int .u64 a,.int .u64 0,.int .u64 d,.int .u64 0]] (rfl) (one4 _ _ _ _) ?_;clear M;intro w' M)|refine zLAd ?_))
   exact zR M.out.at1 ⟨wd4 a 0 d 0 (by intro y hy;simp only[List.mem_cons,List.mem_nil_iff,or_false]at hy;rcases hy with rfl|rfl|rfl|rfl<;>omega),rfl,M.bel⟩
  .go_enter Tryz.func112,Tryz.ntmps112
   (go_wp2_with (first|go_skip|(refine zALd (ztWd) ?_;clear M;intro w' g M)|refine zBDd 27 [(0,.int .u64 a)] [Value.int .u64 a,.int .u64 0,.int .u64 0,.int .u64 0] (AcK _) ?_|(refine zSSd M 0 [[Value.int .u64 a,.int .u64 0,.int .u64 0,.int .u64 0]] [[Value.int .u64 a,.int .u64 0,.int .u64 0,.int .u64 0]] (rfl) (one4 _ _ _ _) ?_;clear M;intro w' M)|((with_reducible apply AaV (k:=3) M.out 0 (.int .u64 d));rfl;(simp);rfl;rfl;rfl;rfl;exact zots;rfl;rfl;intro w' M';(simp only[List.set_cons_zero,List.set_cons_succ]at M');(replace M:=bx M';clear M');refine zNM ?_)|(refine zSSd M 1 [[Value.int .u64 a,.int .u64 0,.int .u64 0,.int .u64 d]] [[Value.int .u64 a,.int .u64 0,.int .u64 0,.int .u64 d]] (rfl) (one4 _ _ _ _) ?_;clear M;intro w' M)|refine zLAd ?_))
   exact zR M.out.at1 ⟨wd4 a 0 0 d (by intro y hy;simp only[List.mem_cons,List.mem_nil_iff,or_false]at hy;rcases hy with rfl|rfl|rfl|rfl<;>omega),rfl,M.bel⟩
 .obtain⟨X,hX⟩:∃X:Int,(18446744073709551615:Int) / 2 ^ e.toNat=X:=⟨_,rfl⟩
  have hX0:0<=X:=by rw[<-hX];exact Int.ediv_nonneg (by decide) (Int.le_of_lt (Int.pow_pos (by decide)))
  have hX1:X<=18446744073709551615:=by rw[<-hX];exact Int.ediv_le_self _ (by decide)
  go_enter Tryz.func112,Tryz.ntmps112
  (go_wp2_with (first|go_skip|(refine zALd (ztWd) ?_;clear M;intro w' g M)|refine zBDd 27 [(0,.int .u64 a)] [Value.int .u64 a,.int .u64 0,.int .u64 0,.int .u64 0] (AcK _) ?_|(refine zSSd M 0 [[Value.int .u64 a,.int .u64 0,.int .u64 0,.int .u64 0]] [[Value.int .u64 a,.int .u64 0,.int .u64 0,.int .u64 0]] (rfl) (one4 _ _ _ _) ?_;clear M;intro w' M)|refine zBDd 27 [(0,.int .u64 18446744073709551615),(1,.int .u64 X)] [Value.int .u64 18446744073709551615,.int .u64 X,.int .u64 0,.int .u64 0] (Ak9 _ _) ?_|(refine zSSd M 0 [[Value.int .u64 18446744073709551615,.int .u64 X,.int .u64 0,.int .u64 0]] [[Value.int .u64 18446744073709551615,.int .u64 X,.int .u64 0,.int .u64 0]] (rfl) (one4 _ _ _ _) ?_;clear M;intro w' M)|(refine zSSd M 1 [[Value.int .u64 18446744073709551615,.int .u64 X,.int .u64 0,.int .u64 0]] [[Value.int .u64 18446744073709551615,.int .u64 X,.int .u64 0,.int .u64 0]] (rfl) (one4 _ _ _ _) ?_;clear M;intro w' M)|refine zLAd ?_))
  exact zR M.out.at1 ⟨wd4 18446744073709551615 X 0 0 (by intro y hy;simp only[List.mem_cons,List.mem_nil_iff,or_false]at hy;rcases hy with rfl|rfl|rfl|rfl<;>omega),rfl,M.bel⟩
 .have h3:IntKind.u64.wrap (18446744073709551615-f)=18446744073709551615-f:=by simp[IntKind.wrap,IntKind.bits,IntKind.signed]<;>omega
  go_enter Tryz.func112,Tryz.ntmps112
  (go_wp2_with (first|go_skip|(refine zALd (ztWd) ?_;clear M;intro w' g M)|refine zBDd 27 [(0,.int .u64 a)] [Value.int .u64 a,.int .u64 0,.int .u64 0,.int .u64 0] (AcK _) ?_|(refine zSSd M 0 [[Value.int .u64 a,.int .u64 0,.int .u64 0,.int .u64 0]] [[Value.int .u64 a,.int .u64 0,.int .u64 0,.int .u64 0]] (rfl) (one4 _ _ _ _) ?_;clear M;intro w' M)|((with_reducible apply AaV (k:=3) M.out 0 (.int .u64 (18446744073709551615-f)));rfl;(simp);rfl;rfl;rfl;rfl;exact zots;rfl;rfl;intro w' M';(simp only[List.set_cons_zero,List.set_cons_succ]at M');(replace M:=bx M';clear M');refine zNM ?_)|(refine zSSd M 1 [[Value.int .u64 a,.int .u64 0,.int .u64 0,.int .u64 (18446744073709551615-f)]] [[Value.int .u64 a,.int .u64 0,.int .u64 0,.int .u64 (18446744073709551615-f)]] (rfl) (one4 _ _ _ _) ?_;clear M;intro w' M)|refine zLAd ?_))
  exact zR M.out.at1 ⟨wd4 a 0 0 (18446744073709551615-f) (by intro y hy;simp only[List.mem_cons,List.mem_nil_iff,or_false]at hy;rcases hy with rfl|rfl|rfl|rfl<;>omega),rfl,M.bel⟩
def toVt(v:Vo):Bool × Int × List Int:=(v.has,(v.e.n:Int),v.r.l)
theorem Ajd(l:List Vo):(l.map toVt).flatMap Go.Proofs.YtmgeheaneohldaaGreat.Old.vc=l.flatMap vox:=by
 rw[List.flatMap_map]
 congr 1
theorem Akm{Γ:Gam}{x:Sl}{l:List Vo}(h:SlR Γ x l.length (l.flatMap vox)){w:World}(ok:Ok Γ w):Go.Proofs.YtmgeheaneohldaaGreat.Old.VRow w x.A x.n (l.map toVt):=by
 refine⟨by rw[List.length_map,h.n],fun y hy=>?_,fun hn=>?_⟩
 .obtain⟨v,_,rfl⟩:=List.mem_map.1 hy
  exact⟨v.r.len,v.r.bt⟩
 .obtain⟨g,post,e,hg⟩:=h.sl hn
  obtain⟨p2,hh⟩:=ok _ _ hg
  exact⟨g,post++p2,e,by rw[Ajd,<-List.append_assoc];exact hh⟩
theorem Ak0{Γ:Gam}{x:Sl}{l:List Int}(h:SlR Γ x l.length (ints .i64 l)){w:World}(ok:Ok Γ w):Go.Proofs.YtmgeheaneohldaaGreat.Old.GRow w x.A x.n l:=by
 refine⟨h.n.symm,fun hn=>?_⟩
 obtain⟨g,post,e,hg⟩:=h.sl hn
 obtain⟨p2,hh⟩:=ok _ _ hg
 exact⟨g,post++p2,e,by rw[<-List.append_assoc];exact hh⟩
def ub(l:List U):List Int:=l.map fun x=>(x.n:Int)
theorem Amd(l:List U):(ub l).length=l.length:=by simp[ub]
theorem AlT(l:List U):Go.Proofs.YtmgeheaneohldaaGreat.Old.U64 (ub l):=fun x hx=>by
 obtain⟨u,_,rfl⟩:=List.mem_map.1 hx
 have:=u.lt
 omega
theorem Ais{Γ:Gam}{A:Option Addr}{l:List U}(h:SlG Γ A l.length (us l)){w:World}(ok:Ok Γ w):Go.Proofs.YtmgeheaneohldaaGreat.Old.URow w A l.length (ub l):=by
 refine⟨Amd l,fun hn=>?_⟩
 obtain⟨g,post,e,hg⟩:=h hn
 obtain⟨p2,hh⟩:=ok _ _ hg
 exact⟨g,post++p2,e,by rw[<-List.append_assoc,show ints .u64 (ub l)=us l from(Adp l).symm];exact hh⟩
def toU(x:Int):U:=⟨(x%18446744073709551616).toNat,by omega⟩
theorem Ama{xs:List Int}(h:Go.Proofs.YtmgeheaneohldaaGreat.Old.U64 xs):us (xs.map toU)=ints .u64 xs:=by
 rw[Adp,List.map_map]
 congr 1
 have:∀x∈xs,((fun u:U=>(u.n:Int)) ∘ toU) x=x:=fun x hx=>by
  have:=h x hx
  simp only[Function.comp_apply,toU]
  omega
 rw[List.map_congr_left this];simp
def WtR(s:Sto)(W:List U):Prop:=∃k,Go.Proofs.YtmgeheaneohldaaGreat.Old.FK (s.nodes.map toNd) s.boost.l k /\
 W=(Go.Proofs.YtmgeheaneohldaaGreat.Old.subL (upsN s.nodes) s.nodes.length (Go.Proofs.YtmgeheaneohldaaGreat.Old.boostV (s.nodes.map toNd) (Go.Proofs.YtmgeheaneohldaaGreat.Old.dirL (s.nodes.map toNd) (s.lat.map toVt) s.eqv (ub s.balj) s.balj.length) s.boost.l (amt (s.c.spe.n:Int) (s.c.bp.n:Int) (Go.Proofs.YtmgeheaneohldaaGreat.Old.sumV (ub s.balj))) k)).map toU
def WtsP(Γ:Gam)(w:World)(s:Sto)(e:Ending)(w':World):Prop:=∃(A:Option Addr) (c:Nat) (Γ':Gam) (W:List U),e=.returned (.slice A s.nodes.length c)/\W.length=s.nodes.length/\WtR s W/\CapOk A s.nodes.length c/\SlG Γ' A s.nodes.length (us W)/\Ext Γ w Γ' w'
theorem Ag2(Γ:Gam)(s:Sto)(v:Sls)(hk:Lk (upsN s.nodes))(h1:0<s.nodes.length)(hb:s.nodes.length<=4096)(ht:s.tabs.length<=65535)(he:s.eqv.length<=4096)(hl:s.lat.length=s.balj.length)(h7:s.balj.length<=7)(hs:Go.Proofs.YtmgeheaneohldaaGreat.Old.SmT (ub s.balj))(w:World)(ok:Ok Γ w)(h:StG Γ v s) :
  Calls Tryz.prog 24 #[.agg (fl (stP s v)).toArray] w (WtsP Γ w s):=by
 have M:=bx (MM.start ok)
 have HG:=bx h
 have BA:=bx (fun w ok=>Agv Γ s v w ok h ht)
 have nx:=h.nodes.n
 have lx:=h.lat.n
 have ex:=h.eqv.n
 have hlv:v.lat.n=s.balj.length:=lx.trans hl
 have LV:Bx (v.lat.v=.slice v.lat.A s.balj.length v.lat.c):=⟨by rw[<-hlv]⟩
 have NV:Bx (v.nodes.v=.slice v.nodes.A s.nodes.length v.nodes.c):=⟨by rw[<-nx]⟩
 have EV:Bx (v.eqv.v=.slice v.eqv.A s.eqv.length v.eqv.c):=⟨by rw[<-ex]⟩
 have DI:Bx (∀(A:Option Addr) (c:Nat) w,Ok Γ w->SlG Γ A s.balj.length (us s.balj)->Calls Tryz.prog 54 #[.agg #[v.nodes.v],.agg #[v.lat.v,v.eqv.v],.slice A s.balj.length c] w (Go.Proofs.YtmgeheaneohldaaGreat.Old.UP s.nodes.length (Go.Proofs.YtmgeheaneohldaaGreat.Old.dirL (s.nodes.map toNd) (s.lat.map toVt) s.eqv (ub s.balj) s.balj.length) w)):=⟨fun A c w ok hA=>by
  have a1:=NG.nrow (x:=v.nodes) h.nodes ok
  have a2:=Akm h.lat ok
  have a3:=Ak0 h.eqv ok
  rw[nx]at a1
  rw[hlv]at a2
  rw[ex]at a3
  rw[NV.out,LV.out,EV.out]
  exact Ae0 v.nodes.A v.lat.A v.eqv.A A s.nodes.length v.nodes.c v.lat.c s.eqv.length v.eqv.c s.balj.length c (s.nodes.map toNd) (s.lat.map toVt) s.eqv (ub s.balj) he hs h7 hb w a1 a2 a3 (Ais hA ok)⟩
 have BO:Bx (∀(A:Option Addr) (c:Nat) (ds:List Int) (a:Int) w,Ok Γ w->Go.Proofs.YtmgeheaneohldaaGreat.Old.U64 ds->0<=a->Go.Proofs.YtmgeheaneohldaaGreat.Old.URow w A s.nodes.length ds->Calls Tryz.prog 56 #[.agg #[v.nodes.v],.slice A s.nodes.length c,.agg (rc s.boost).toArray,.int .u64 a] w (Go.Proofs.YtmgeheaneohldaaGreat.Old.BoP (s.nodes.map toNd) ds s.boost.l a s.nodes.length w)):=⟨fun A c ds a w ok hd ha hr=>by
  have a1:=NG.nrow (x:=v.nodes) h.nodes ok
  rw[nx]at a1
  rw[NV.out]
  exact Ahc v.nodes.A A s.nodes.length v.nodes.c c (s.nodes.map toNd) ds hd hb h1 s.boost.l s.boost.len a ha w a1 hr⟩
 have SU:Bx (∀(A:Option Addr) (c:Nat) (ds:List Int) w,Ok Γ w->Go.Proofs.YtmgeheaneohldaaGreat.Old.U64 ds->Go.Proofs.YtmgeheaneohldaaGreat.Old.URow w A s.nodes.length ds->Calls Tryz.prog 55 #[.agg #[v.nodes.v],.slice A s.nodes.length c] w (Go.Proofs.YtmgeheaneohldaaGreat.Old.UO s.nodes.length (Go.Proofs.YtmgeheaneohldaaGreat.Old.subL (upsN s.nodes) s.nodes.length ds) w)):=⟨fun A c ds w ok hd hr=>by
  have a1:=NG.nrow (x:=v.nodes) h.nodes ok
  rw[nx]at a1
  rw[NV.out,<-Ac3]
  exact Aez v.nodes.A A s.nodes.length v.nodes.c c (s.nodes.map toNd) ds hd (by rw[Ac3];exact hk) hb w a1 hr⟩
 have SM:Bx (∀(A:Option Addr) (c:Nat) w,Ok Γ w->SlG Γ A s.balj.length (us s.balj)->Calls Tryz.prog 37 #[.slice A s.balj.length c] w fun e w'=>e=.returned (.tuple #[.int .u64 (Go.Proofs.YtmgeheaneohldaaGreat.Old.sumV (ub s.balj)),.int .i64 (Go.Proofs.YtmgeheaneohldaaGreat.Old.sumE (ub s.balj))])/\w=w'):=⟨fun A c w ok hA=>by
  have:=(Ais hA ok).row
  exact Go.Proofs.YtmgeheaneohldaaGreat.Old.ref_sum w.heap.size A s.balj.length c (ub s.balj) w this (AlT _) (by omega)⟩
 have HSV:Bx (0<=Go.Proofs.YtmgeheaneohldaaGreat.Old.sumV (ub s.balj)/\Go.Proofs.YtmgeheaneohldaaGreat.Old.sumV (ub s.balj)<=18446744073709551615):=⟨by
  have:=Go.Proofs.YtmgeheaneohldaaGreat.Old.sum_nonneg (AlT s.balj)
  unfold Go.Proofs.YtmgeheaneohldaaGreat.Old.sumV
  split<;>omega⟩
 have AM:Bx (∀w,Calls Tryz.prog 39 #[.agg (fl (cfP s.c v.bal)).toArray,.int .u64 (Go.Proofs.YtmgeheaneohldaaGreat.Old.sumV (ub s.balj))] w (AmtPost (s.c.spe.n:Int) (s.c.bp.n:Int) (Go.Proofs.YtmgeheaneohldaaGreat.Old.sumV (ub s.balj)) w)):=⟨fun w=>
  Aff (fl (cfP s.c v.bal)) (s.c.spe.n:Int) (s.c.bp.n:Int) (Go.Proofs.YtmgeheaneohldaaGreat.Old.sumV (ub s.balj)) w rfl rfl (by omega) (by have:=s.c.spe.lt;omega) (by omega) (by have:=s.c.bp.lt;omega) HSV.out.1 HSV.out.2⟩
 have AP:Bx (0<=amt (s.c.spe.n:Int) (s.c.bp.n:Int) (Go.Proofs.YtmgeheaneohldaaGreat.Old.sumV (ub s.balj))):=⟨by
  have h0:=HSV.out.1
  unfold amt
  split
  .exact Int.ediv_nonneg (Int.mul_nonneg (Int.ediv_nonneg h0 (by omega)) (by omega)) (by decide)
  .exact Int.le_refl _⟩
 have WR:=bx (fun k xs (hf:Go.Proofs.YtmgeheaneohldaaGreat.Old.FK (s.nodes.map toNd) s.boost.l k) (e:xs=(Go.Proofs.YtmgeheaneohldaaGreat.Old.subL (upsN s.nodes) s.nodes.length (Go.Proofs.YtmgeheaneohldaaGreat.Old.boostV (s.nodes.map toNd) (Go.Proofs.YtmgeheaneohldaaGreat.Old.dirL (s.nodes.map toNd) (s.lat.map toVt) s.eqv (ub s.balj) s.balj.length) s.boost.l (amt (s.c.spe.n:Int) (s.c.bp.n:Int) (Go.Proofs.YtmgeheaneohldaaGreat.Old.sumV (ub s.balj))) k)).map toU)=>(show WtR s xs from⟨k,hf,e⟩))
 clear ok h hk h1 hb ht he hl h7 hs nx lx ex hlv LV NV EV HSV
 go_enter Tryz.func24,Tryz.ntmps24
 (go_wp2_with (first|go_skip|(refine zBXo ?_;clear M;intro w' g M)|refine zLAo ?_))
 refine(BA.out _ M.ok).mono ?_
 rintro e1 w1 ⟨A1,c1,rfl,hc1,hs1,hx1⟩
 replace M:=bx (M.out.call hx1)
 have HS1:=bx hs1
 clear hc1 hs1 hx1 BA
 (go_wp2_with (first|go_skip|(refine zBXo ?_;clear M;intro w' g M)|refine zLAo ?_))
 refine(SM.out A1 c1 _ M.ok HS1.out).mono ?_
 rintro e2 w2 ⟨rfl,rfl⟩
 clear SM
 (go_wp2_with (first|go_skip|(refine zBXo ?_;clear M;intro w' g M)|refine zLAo ?_))
 refine(AM.out _).mono ?_
 rintro e3 w3 ⟨rfl,hx3⟩
 replace M:=bx (M.out.below hx3)
 clear hx3 AM
 generalize amt (s.c.spe.n:Int) (s.c.bp.n:Int) (Go.Proofs.YtmgeheaneohldaaGreat.Old.sumV (ub s.balj))=am at *
 (go_wp2_with (first|go_skip|(refine zBXo ?_;clear M;intro w' g M)|refine zLAo ?_))
 refine(DI.out A1 c1 _ M.ok HS1.out).mono ?_
 rintro e4 w4 ⟨A4,c4,rfl,hu4,hr4,hx4⟩
 replace M:=bx (M.out.below hx4)
 have HU4:=bx hu4
 have HR4:=bx (hr4.below (Below.refl _ _).drew)
 clear hu4 hr4 hx4 DI
 generalize Go.Proofs.YtmgeheaneohldaaGreat.Old.dirL (s.nodes.map toNd) (s.lat.map toVt) s.eqv (ub s.balj) s.balj.length=ds at *
 (go_wp2_with (first|go_skip|(refine zBXo ?_;clear M;intro w' g M)|refine zLAo ?_))
 refine AaE [] (.steps [(1,0),(0,1),(1,2),(0,3),(1,4),(1,5),(0,6),(1,7),(2,8),(2,9),(1,10)] .leaf) (by kernel_rfl) (by kernel_rfl) ?_;(simp only[MixT6,MT.steps,stepAt,List.getD_cons_zero,List.getD_cons_succ]);replace M:=bx (M.out.drew)
 refine zNM ?_
 refine zMRo ?_
 refine zMC (BO.out A4 c4 ds am _ M.ok HU4.out AP.out HR4.out) Tryz.func56 ?_
 rintro e5 w5 ⟨k,hk,A5,c5,rfl,hu5,hr5,hx5⟩
 refine⟨_,rfl,hx5,?_⟩
 replace M:=bx (M.out.below hx5)
 have HU5:=bx hu5
 have HR5:=bx hr5
 have WR':=bx (fun xs=>WR.out k xs hk)
 clear hu5 hr5 hx5 BO WR
 generalize Go.Proofs.YtmgeheaneohldaaGreat.Old.boostV (s.nodes.map toNd) ds s.boost.l am k=bs at *
 refine zNM ?_
 refine zMRo ?_
 refine zMC (SU.out A5 c5 bs _ M.ok HU5.out HR5.out) Tryz.func55 ?_
 rintro e6 w6 ⟨A6,c6,rfl,hu6,hl6,ho6,hx6⟩
 refine⟨_,rfl,hx6,?_⟩
 replace M:=bx (M.out.rowNew hx6 ho6)
 have HU6:=bx hu6
 have HL6:=bx hl6
 clear hu6 hl6 ho6 hx6 SU
 generalize Go.Proofs.YtmgeheaneohldaaGreat.Old.subL (upsN s.nodes) s.nodes.length bs=xs at *
 refine zNM ?_
 refine zMRo ?_
 refine NoPanic.normal ?_
 (go_wp2_with (first|go_skip|(refine zBXo ?_;clear M;intro w' g M)|refine zLAo ?_))
 obtain⟨Γ',h1,h2,h3,h4⟩:=M.out.frz
 go_ret
 exact⟨A6,c6,Γ',xs.map toU,rfl,by rw[List.length_map];exact HL6.out,WR'.out _ rfl,h1,by rw[Ama HU6.out];exact h2,h4.ext⟩
def headF(N:List Nod)(W:List U)(L:List Bool):Nat->Int->Int
 |0,i=>i
 |f+1,i=>if bestI N W L i<0 then i else headF N W L f (bestI N W L i)
theorem Aey(N:List Nod)(W:List U)(L:List Bool)(i:Int):bestI N W L i = -1\/∃k,∃hk:k<N.length,N[k].up=i/\bestI N W L i=(k:Int):=by
 rcases Aex N W L (kids N i)with h|⟨k,hk,h⟩
 .exact .inl h
 .obtain⟨h1,h2⟩:=Abt hk
  exact .inr ⟨k,h1,h2,h⟩
theorem Ah5{N:List Nod}{W:List U}{L:List Bool}:∀(f:Nat) {i:Nat},i<N.length->∃k:Nat,k<N.length/\headF N W L f (i:Int)=(k:Int)
 |0,i,h=>⟨i,h,rfl⟩
 |f+1,i,h=>by
  unfold headF
  rcases Aey N W L (i:Int)with e|⟨k,hk,_,e⟩
  .rw[e,if_pos (by decide)];exact⟨i,h,rfl⟩
  .rw[e,if_neg (by omega)];exact Ah5 f hk
def HeadP(Γ:Gam)(w:World)(s:Sto)(e:Ending)(w':World):Prop:=∃W,W.length=s.nodes.length/\WtR s W/\e=.returned (.int .i64 (headF s.nodes W s.lives s.nodes.length (fndI s.nodes s.just.r)))/\Ext Γ w Γ w'
theorem AgT(s:Sto):s.lives.length=s.nodes.length:=by simp[Sto.lives]
theorem Akt(Γ:Gam)(s:Sto)(v:Sls)(hsp:0<s.c.spe.n)(hk:Lk (upsN s.nodes))(h1:0<s.nodes.length)(hb:s.nodes.length<=4096)(ht:s.tabs.length<=65535)(he:s.eqv.length<=4096)(hl:s.lat.length=s.balj.length)(h7:s.balj.length<=7)(hs:Go.Proofs.YtmgeheaneohldaaGreat.Old.SmT (ub s.balj))(hj:0<=fndI s.nodes s.just.r)(w:World)(ok:Ok Γ w)(h:StG Γ v s) :
  Calls Tryz.prog 27 #[.agg (fl (stP s v)).toArray] w (HeadP Γ w s):=by
 have M:=bx (MM.start ok)
 have HG:=bx h
 have OK0:=bx ok
 have WT:=bx (fun w ok=>Ag2 Γ s v hk h1 hb ht he hl h7 hs w ok h)
 have LV:Bx (∀(Γ':Gam) w,Le Γ Γ'->Ok Γ' w->Calls Tryz.prog 15 #[.agg (fl (stP s v)).toArray] w fun e w'=>∃(A:Option Addr) (c:Nat) (Γ2:Gam),e=.returned (.slice A s.nodes.length c)/\CapOk A s.nodes.length c/\SlG Γ2 A s.nodes.length (bls s.lives)/\Ext Γ' w Γ2 w'):=⟨fun Γ' w hl ok=>by
  have:=AgU Γ' s v hsp (Lk.ahead hk) (by omega) w ok (h.mono hl)
  unfold BlsP at this
  rw[AgT]at this
  exact this⟩
 have FI:=bx (fun(Γ':Gam) w (hl:Le Γ Γ') ok=>AaT Γ' v.nodes s.nodes s.just.r w ok (h.nodes.mono hl))
 have BO:=bx (fun(Γ':Gam) (A2 A3:Option Addr) c2 c3 W (hW:W.length=s.nodes.length) (i:Int) w (hl:Le Γ Γ') ok h2 h3=>Ain Γ' v.nodes s.nodes A2 A3 c2 c3 W s.lives i (by omega) hW (AgT s) w ok (h.nodes.mono hl) h2 h3)
 have AH:=bx (Lk.ahead hk)
 obtain⟨j0,hj0,ej,ejr⟩:=Acf hj
 have HJ0:=bx hj0
 rw[ej]at FI
 have HP:Bx (∀W,W.length=s.nodes.length->WtR s W->∀w',Ext Γ w Γ w'->HeadP Γ w s (.returned (.int .i64 (headF s.nodes W s.lives s.nodes.length (j0:Int)))) w'):=⟨fun W h1 h2 w' hx=>⟨W,h1,h2,by rw[ej],hx⟩⟩
 clear ok h hsp hk h1 hb ht he hl h7 hs hj ejr hj0 ej
 generalize s.lives=L at *
 go_enter Tryz.func27,Tryz.ntmps27
 (go_wp2_with (first|go_skip|(refine zBXo ?_;clear M;intro w' g M)|refine zLAo ?_))
 refine AaE [] (.steps [(0,0),(0,2),(2,1),(2,3),(1,4),(1,5)] .leaf) (by kernel_rfl) (by kernel_rfl) ?_;(simp only[MixT6,MT.steps,stepAt,List.getD_cons_zero,List.getD_cons_succ]);replace M:=bx (M.out.drew)
 refine zNM ?_
 refine zMRo ?_
 refine zMC (WT.out _ M.ok) Tryz.func24 ?_
 rintro e2 w2 ⟨A2,c2,Γ2,W,rfl,hWl,hWr,hc2,hs2,hx2⟩
 refine⟨_,rfl,hx2.bel,?_⟩
 replace M:=bx (M.out.call hx2)
 have HWL:=bx hWl
 have HWR:=bx hWr
 have HS2:=bx hs2
 clear hc2 hs2 hx2 WT hWl hWr
 refine zNM ?_
 refine zMRo ?_
 refine zMC (LV.out _ _ M.out.ext.le M.ok) Tryz.func15 ?_
 rintro e3 w3 ⟨A3,c3,Γ3,rfl,hc3,hs3,hx3⟩
 refine⟨_,rfl,hx3.bel,?_⟩
 replace M:=bx (M.out.call hx3)
 have HS3:=bx hs3
 have HS2':=bx (HS2.out.mono hx3.le)
 have LE3:=bx M.out.ext.le
 clear hc3 hs3 hx3 LV HS2
 refine zNM ?_
 refine zMRo ?_
 refine NoPanic.normal ?_
 (go_wp2_with (first|go_skip|(refine zBXo ?_;clear M;intro w' g M)|refine zLAo ?_))
 refine zCA M (FI.out Γ3 _ LE3.out M.ok) ?_;clear M;intro w1 M
 (go_wp2_with (first|go_skip|(refine zBXo ?_;clear M;intro w' g M)|refine zLAo ?_))
 have BO':=bx (fun i w ok=>BO.out Γ3 A2 A3 c2 c3 W HWL.out i w LE3.out ok HS2'.out HS3.out)
 have HP':=bx (fun w' hx=>HP.out W HWL.out HWR.out w' hx)
 clear BO FI HP HS2' HS3
 go_loopw [5] (fun s5 wr=>∃(i f:Nat),i<s.nodes.length/\s5=.int .i64 i/\headF s.nodes W L s.nodes.length (j0:Int)=headF s.nodes W L f (i:Int)/\s.nodes.length<=i+f/\MM Γ w Γ3 wr [⟨g,stP s v,stL⟩] []) (fun s5 _=>s.nodes.length-(intOf s5).toNat)
 case atStart=>exact⟨j0,s.nodes.length,HJ0.out,rfl,rfl,by omega,M.out⟩
 case round=>
  obtain⟨i,f,hi,rfl,hf,hif,hM⟩:=hrel
  clear M
  have M:=bx hM
  have HF:=bx hf
  clear hM hf
  obtain⟨f',rfl⟩:∃f',f=f'+1:=⟨f-1,by omega⟩
  have B1:=bx (BO'.out (i:Int))
  have HF2:Bx (headF s.nodes W L s.nodes.length (j0:Int)=if bestI s.nodes W L (i:Int)<0 then(i:Int)else headF s.nodes W L f' (bestI s.nodes W L (i:Int))):=⟨HF.out⟩
  clear HF
  rcases Aey s.nodes W L (i:Int)with e|⟨k,hkl,hku,e⟩
  .rw[e]at B1 HF2
   have E:=bx (HF2.out.trans (if_pos (by decide)))
   clear HF2 e
   (go_wp2_with (first|go_skip|(refine zBXo ?_;clear M;intro w' g M)|refine zLAo ?_))
   refine zCA M (B1.out _ M.ok) ?_;clear M;intro w1 M
   (go_wp2_with (first|go_skip|(refine zBXo ?_;clear M;intro w' g M)|refine zLAo ?_))
   go_ret
   have:=HP'.out _ (Ext.below OK0.out M.bel)
   rw[E.out]at this
   exact this
  .have hik:i<k:=by have:=AH.out k hkl;omega
   rw[e]at B1 HF2
   have hk0:¬(k:Int)<0:=by omega
   have E:=bx (HF2.out.trans (if_neg (by omega)))
   clear HF2 e
   (go_wp2_with (first|go_skip|(refine zBXo ?_;clear M;intro w' g M)|refine zLAo ?_))
   refine zCA M (B1.out _ M.ok) ?_;clear M;intro w1 M
   (go_wp2_with (first|go_skip|(refine zBXo ?_;clear M;intro w' g M)|refine zLAo ?_))
   go_roundw
   case rel=>exact⟨k,f',hkl,rfl,E.out,by omega,M.out⟩
   case measure=>simp[intOf]<;>omega
theorem Am3{ns:List Nd}{r:List Int}{k k':Int}(h:Go.Proofs.YtmgeheaneohldaaGreat.Old.FK ns r k)(h':Go.Proofs.YtmgeheaneohldaaGreat.Old.FK ns r k'):k=k':=by
 rcases h with⟨e,h⟩|⟨i,hi,e,h1,h2⟩
 .rcases h' with⟨e',_⟩|⟨i',hi',_,h1',_⟩
  .rw[e,e']
  .exact absurd h1' (h _ (List.getElem_mem hi'))
 .rcases h' with⟨_,h'⟩|⟨i',hi',e',h1',h2'⟩
  .exact absurd h1 (h' _ (List.getElem_mem hi))
  .rcases Nat.lt_trichotomy i i' with hlt|heq|hgt
   .exact absurd h1 (h2' i hlt)
   .rw[e,e',heq]
   .exact absurd h1' (h2 i' hgt)
theorem Am4(N:List Nod)(r:Rt):Go.Proofs.YtmgeheaneohldaaGreat.Old.FK (N.map toNd) r.l (fndI N r):=by
 rcases Aa2 (fun n:Nod=>decide (n.b.root=r)) N with⟨h1,h2⟩|⟨k,hk,h1,h2,h3⟩
 .refine .inl ⟨h1,fun x hx=>?_⟩
  obtain⟨n,hn,rfl⟩:=List.mem_map.1 hx
  exact fun e=>by have:=h2 n hn;simp at this;exact this (Rt.ext' e)
 .refine .inr ⟨k,by simpa using hk,h1,?_,fun j hj e=>?_⟩
  .rw[List.getElem_map];exact congrArg Rt.l (of_decide_eq_true h2)
  .rw[List.getElem_map]at e
   have:=h3 j hj
   simp at this;exact this (Rt.ext' e)
def Sto.wts(s:Sto):List U:=(Go.Proofs.YtmgeheaneohldaaGreat.Old.subL (upsN s.nodes) s.nodes.length (Go.Proofs.YtmgeheaneohldaaGreat.Old.boostV (s.nodes.map toNd) (Go.Proofs.YtmgeheaneohldaaGreat.Old.dirL (s.nodes.map toNd) (s.lat.map toVt) s.eqv (ub s.balj) s.balj.length) s.boost.l (amt (s.c.spe.n:Int) (s.c.bp.n:Int) (Go.Proofs.YtmgeheaneohldaaGreat.Old.sumV (ub s.balj))) (fndI s.nodes s.boost))).map toU
theorem WtR.eq{s:Sto}{W:List U}(h:WtR s W):W=s.wts:=by
 obtain⟨k,hk,e⟩:=h
 rw[e,Am3 hk (Am4 s.nodes s.boost)]
 rfl
def Sto.head(s:Sto):Int:=headF s.nodes s.wts s.lives s.nodes.length (fndI s.nodes s.just.r)
structure WOk(s:Sto):Prop where
 sp:0<s.c.spe.n
 lk:Lk (upsN s.nodes)
 pos:0<s.nodes.length
 nb:s.nodes.length<=4096
 tb:s.tabs.length<=65535
 eb:s.eqv.length<=4096
 lat:s.lat.length=s.balj.length
 b7:s.balj.length<=7
 sm:Go.Proofs.YtmgeheaneohldaaGreat.Old.SmT (ub s.balj)
 just:0<=fndI s.nodes s.just.r
theorem Amy(Γ:Gam)(s:Sto)(v:Sls)(h:WOk s)(w:World)(ok:Ok Γ w)(hg:StG Γ v s) :
  Calls Tryz.prog 27 #[.agg (fl (stP s v)).toArray] w fun e w'=>e=.returned (.int .i64 s.head)/\Ext Γ w Γ w':=
 (Akt Γ s v h.sp h.lk h.pos h.nb h.tb h.eb h.lat h.b7 h.sm h.just w ok hg).mono fun _ _ ⟨W,h1,h2,h3,h4⟩=>by
  have e:=h2.eq
  subst e
  exact⟨h3,h4⟩
theorem AmB{s:Sto}(h:WOk s):∃k:Nat,k<s.nodes.length/\s.head=(k:Int):=by
 obtain⟨j,hj,e,_⟩:=Acf h.just
 unfold Sto.head
 rw[e]
 exact Ah5 _ hj
def Sto.cmd(s:Sto):Cm:=⟨(s.nodes.getD s.head.toNat n0).b.root,safeR s,s.fin.r⟩
theorem stCm:StrT Tryz.prog 52 [(0,32),(32,32),(64,32)] (cmP cm0) [32,32,32]:=AbB Tryz.underlying52 (by kernel_rfl) (by kernel_rfl) (AbF _)
theorem AlH(a b c:Rt):Tryz.prog.built 52 [(0,.agg (rc a).toArray),(1,.agg (rc b).toArray),(2,.agg (rc c).toArray)]=some (fl (cmP ⟨a,b,c⟩)).toArray:=by
 rw[stCm.eq]
 refine AaJ (Q:=[rc a]) stCm.len rfl rfl rfl (lenR a) rfl fun hl=>?_
 refine AaJ (Q:=[rc b]) hl rfl rfl rfl (lenR b) rfl fun hl=>?_
 refine AaJ (Q:=[rc c]) hl rfl rfl rfl (lenR c) rfl fun hl=>?_
 rfl
theorem AhY(Γ:Gam)(s:Sto)(v:Sls)(hw:WOk s)(w:World)(ok:Ok Γ w)(h:StG Γ v s) :
  Calls Tryz.prog 110 #[.agg (fl (stP s v)).toArray] w fun e w'=>e=.returned (.agg (fl (cmP s.cmd)).toArray)/\Ext Γ w Γ w':=by
 have M:=bx (MM.start ok)
 have HD:=bx (fun w ok=>Amy Γ s v hw w ok h)
 have SF:=bx (fun w ok=>AkR Γ s v w ok h)
 obtain⟨k,hk,ek⟩:=AmB hw
 obtain⟨gn,hA,hf⟩:=h.nodeAt k hk
 have HA:=bx hA
 have F1:=bx hf
 have hki:(k:Int)<(v.nodes.n:Int):=by rw[h.nodes.n];omega
 have hk0:0<=(k:Int):=by omega
 have HC:Bx (s.cmd=⟨s.nodes[k].b.root,safeR s,s.fin.r⟩):=⟨by unfold Sto.cmd;rw[ek,Int.toNat_natCast,nget hk]⟩
 rw[ek]at HD
 clear ok h hw hA hf ek
 rw[HC.out]
 generalize safeR s=sr at *
 generalize s.nodes[k]=y at *
 go_enter Tryz.func110,Tryz.ntmps110
 go_wp2_with (first|go_skip|(refine zBXo ?_;clear M;intro w' g M)|(refine zALo (ztCm) ?_;clear M;intro w' g M)|refine zLAo ?_)
 refine AaE [16] (.steps [(1,0),(1,1),(0,2),(0,3),(0,9),(1,11),(1,12),(1,13),(0,14),(2,4),(1,5),(1,6),(1,7),(0,8),(2,10),(1,15),(3,16)] .leaf) (by kernel_rfl) (by kernel_rfl) ?_;(simp only[MixT6,MT.steps,stepAt,List.getD_cons_zero,List.getD_cons_succ]);replace M:=bx (M.out.drew)
 refine zNM ?_
 (repeat(first|refine zM0 ?_|(go_big_quiet_want;first|(refine zQHo HA ?_;go_big_quiet_on;refine zNM ?_)|(refine zQFo F1 ?_;go_big_quiet_on;refine zNM ?_)|(refine zQAo ?_;go_big_quiet_on;refine zNM ?_)|(refine zQO ?_;go_big_quiet_on))))
 refine zMC (HD.out _ M.ok) Tryz.func27 ?_
 rintro e2 w2 ⟨rfl,hx2⟩
 refine⟨_,rfl,hx2.bel,?_⟩
 replace M:=bx (M.out.call hx2)
 clear hx2
 refine zNM ?_
 (repeat(first|refine zM0 ?_|(go_big_quiet_want;first|(refine zQHo HA ?_;go_big_quiet_on;refine zNM ?_)|(refine zQFo F1 ?_;go_big_quiet_on;refine zNM ?_)|(refine zQAo ?_;go_big_quiet_on;refine zNM ?_)|(refine zQO ?_;go_big_quiet_on))))
 refine zMC (SF.out _ M.ok) Tryz.func127 ?_
 rintro e3 w3 ⟨rfl,hx3⟩
 refine⟨_,rfl,hx3.bel,?_⟩
 replace M:=bx (M.out.call hx3)
 clear hx3
 refine zNM ?_
 (repeat(first|refine zM0 ?_|(go_big_quiet_want;first|((with_reducible refine AaC 52 _ rfl [(0,.agg (rc y.b.root).toArray),(1,.agg (rc sr).toArray),(2,.agg (rc s.fin.r).toArray)] (fl (cmP ⟨y.b.root,sr,s.fin.r⟩)) ?_ (AlH _ _ _) ?_);rfl;go_big_quiet_on;refine zNM ?_)|(refine zQAo ?_;go_big_quiet_on;refine zNM ?_)|(refine zQO ?_;go_big_quiet_on))))
 refine AbE M.out 0 (cmP ⟨y.b.root,sr,s.fin.r⟩) (cmP ⟨y.b.root,sr,s.fin.r⟩) rfl rfl rfl rfl rtCm rfl (AbF _) (AfQ _) rfl rfl ?_
 intro w7 M'
 simp only[List.set_cons_zero,List.set_cons_succ]at M'
 (replace M:=bx M';clear M')
 refine zNM ?_
 refine zMRo ?_
 refine NoPanic.normal ?_
 go_wp2_with fail
 exact zRb M.out.at0 ⟨rfl,M.out.ext⟩
theorem AlM{s:Sto}(h:∃t∈s.tabs,t.c=s.just):∃t∈s.tabs,s.balj=t.b:=by
 rcases Aa2 (fun t:Tbl=>decide (t.c=s.just)) s.tabs with⟨_,h2⟩|⟨k,hk,h1,_⟩
 .obtain⟨t,ht,e⟩:=h
  have:=h2 t ht
  simp[e]at this
 .exact⟨s.tabs[k],List.getElem_mem hk,AiL hk h1⟩
theorem SI.wok{k:Nat}{s:Sto}(h:SI k s)(hk:k<=40):WOk s:=by
 have h7:s.bal.length<=7:=by have:=h.bal;omega
 obtain⟨t,ht,e⟩:=AlM h.tab
 have hv:=h.tbs t ht
 unfold tbE valE at hv
 have hl:t.b.length=s.bal.length:=by
  by_cases hc:(t.b.length:Int)=(s.bal.length:Int)
  .omega
  .rw[if_neg hc]at hv;omega
 rw[if_pos (by omega)]at hv
 have hs:(t.b.map fun x=>(x.n:Int)).sum<=4611686018427387904:=by
  by_cases hc:(t.b.map fun x=>(x.n:Int)).sum<=4611686018427387904
  .exact hc
  .rw[if_neg hc]at hv;omega
 obtain⟨j,hj,r1,_⟩:=h.just
 have hn:=h.nl
 exact {sp:=h.spe.1,lk:=h.t.lk,pos:=h.t.pos,nb:=by omega,tb:=by have:=h.tl;omega,eb:=by have:=h.eqv;omega,lat:=by rw[h.lat,e,hl],b7:=by rw[e,hl];exact h7,sm:=by
         rw[e]
         refine⟨fun x hx=>?_,hs⟩
         obtain⟨u,_,rfl⟩:=List.mem_map.1 hx
         omega
        just:=by
         have:=Ajc h.t.diff hj
         rw[r1]at this
         omega}
end Go.Proofs.YtmgeheaneohldaaGreat
