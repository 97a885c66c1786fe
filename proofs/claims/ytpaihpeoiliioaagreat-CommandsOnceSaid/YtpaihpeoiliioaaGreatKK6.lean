/- Texts joined: what the walks of this claim stand on (part 6). -/
import Derived.Test.YtpaihpeoiliioaaGreatKK5
set_option linter.all false
set_option maxRecDepth 20000
set_option maxHeartbeats 40000000
namespace Go.Proofs.YtpaihpeoiliioaaGreat
open Go.RowKit Old
theorem SlR.fz{α:Type}{f:α->List (List Value)}{ls:List Nat}{k:Nat}{Γ:Gam}{s:Sl}{xs:List α}(h:SlR Γ s xs.length (xs.flatMap fun x=>fl (f x)))(hl:∀x,(f x).map List.length=ls)(hk:ls.sum=k)(i:Nat)(hi:i<xs.length) :
  ∃g,s.v=.slice (some ⟨g,0,none⟩) s.n s.c/\Fz Γ g (i*k) (f xs[i]) ls:=by
 obtain⟨g,h1,h2⟩:=h.at (fun x _=>(AbE (hl x)).trans hk) i hi
 exact⟨g,by rw[<-h1],h2,hl _⟩
theorem StG.nodeAt{Γ:Gam}{v:Sls}{s:Sto}(h:StG Γ v s)(i:Nat)(hi:i<s.nodes.length):∃g,v.nodes.v=.slice (some ⟨g,0,none⟩) v.nodes.n v.nodes.c/\Fz Γ g (i*240) (noP s.nodes[i]) noL:=h.nodes.fz (f:=noP) AaK rfl i hi
theorem StG.orphAt{Γ:Gam}{v:Sls}{s:Sto}(h:StG Γ v s)(i:Nat)(hi:i<s.orph.length):∃g,v.orph.v=.slice (some ⟨g,0,none⟩) v.orph.n v.orph.c/\Fz Γ g (i*238) (blP s.orph[i]) blL:=h.orph.fz (f:=blP) AaZ rfl i hi
def stU(e p:U):U:=if h:e.n*p.n<18446744073709551616 then⟨e.n*p.n,h⟩else u0
def stB(e p:U):Bool:=decide (e.n*p.n<18446744073709551616)
theorem Aow(e p:U)(h1:1<=p.n)(h2:p.n<=64):stV (e.n:Int) (p.n:Int)=((stU e p).n:Int)/\stE (e.n:Int) (p.n:Int)=if stB e p=true then 0 else 4:=by
 have hf:fitsB (p.n:Int)=true:=decide_eq_true (by omega)
 unfold stV stE mulV mulE stU stB
 rw[if_pos hf,if_pos hf]
 have e1:((e.n:Int)*(p.n:Int))=((e.n*p.n:Nat):Int):=by rw[Int.natCast_mul]
 rw[e1]
 by_cases h:e.n*p.n<18446744073709551616
 .rw[if_pos (by omega),if_pos (by omega),dif_pos h,if_pos (decide_eq_true h)]
  exact⟨rfl,rfl⟩
 .rw[if_neg (by omega),if_neg (by omega),dif_neg h,if_neg (by simpa using h)]
  exact⟨rfl,rfl⟩
theorem Alp(e p:U)(h1:1<=p.n)(h2:p.n<=64)(w:World) :
  Calls Tryz.prog 207 #[.int .u64 (e.n:Int),.int .u64 (p.n:Int)] w fun en w'=>en=.returned (.tuple #[.int .u64 ((stU e p).n:Int),.int .i64 (if stB e p=true then 0 else 4)])/\w=w':=by
 have:=Ai6 (e.n:Int) (p.n:Int) (by omega) (by have:=e.lt;omega) (by omega) (by have:=p.lt;omega) w
 rw[(Aow e p h1 h2).1,(Aow e p h1 h2).2]at this
 exact this
theorem AdW(Γ:Gam)(s:Sto)(v:Sls)(e:U)(hs:SpeOk s)(w:World)(ok:Ok Γ w) :
  Calls Tryz.prog 189 #[.agg (fl (stP s v)).toArray,.int .u64 (e.n:Int)] w fun en w'=>en=.returned (.tuple #[.int .u64 ((stU e s.c.spe).n:Int),.bool (stB e s.c.spe)])/\Ext Γ w Γ w':=by
 have M:=bx (MM.start ok)
 have ST:=bx (Alp e s.c.spe hs.1 hs.2)
 clear ok hs
 cases hb:stB e s.c.spe with
 |false=>
  rw[hb]at ST
  have ST':Bx (∀w,Calls Tryz.prog 207 #[.int .u64 (e.n:Int),.int .u64 (s.c.spe.n:Int)] w fun en w'=>en=.returned (.tuple #[.int .u64 ((stU e s.c.spe).n:Int),.int .i64 4])/\w=w'):=⟨ST.o⟩
  clear hb ST
  go_enter Tryz.func189,Tryz.ntmps189
  (go_wp2_with (first|(refine zBXo ?_;clear M;intro w' g M)|refine zLAo ?_))
  (refine(ST'.o _).mono ?_);rintro e1 w1 ⟨rfl,rfl⟩
  (go_wp2_with (fail))
  go_ret2
  exact⟨rfl,M.o.ext⟩
 |true=>
  rw[hb]at ST
  have ST':Bx (∀w,Calls Tryz.prog 207 #[.int .u64 (e.n:Int),.int .u64 (s.c.spe.n:Int)] w fun en w'=>en=.returned (.tuple #[.int .u64 ((stU e s.c.spe).n:Int),.int .i64 0])/\w=w'):=⟨ST.o⟩
  clear hb ST
  go_enter Tryz.func189,Tryz.ntmps189
  (go_wp2_with (first|(refine zBXo ?_;clear M;intro w' g M)|refine zLAo ?_))
  (refine(ST'.o _).mono ?_);rintro e1 w1 ⟨rfl,rfl⟩
  (go_wp2_with (fail))
  go_ret2
  exact⟨rfl,M.o.ext⟩
theorem Ach(Γ:Gam)(s:Sto)(v:Sls)(w:World)(ok:Ok Γ w)(h:StG Γ v s) :
  Calls Tryz.prog 167 #[.agg (fl (stP s v)).toArray] w fun en w'=>en=.returned (.int .i64 (s.bal.length:Int))/\Ext Γ w Γ w':=by
 have M:=bx (MM.start ok)
 have LB:=bx h.bal.n
 clear ok h
 rw[<-LB.o]
 go_enter Tryz.func167,Tryz.ntmps167
 (go_wp2_with (first|(refine zBXo ?_;clear M;intro w' g M)|refine zLAo ?_))
 go_ret
 exact⟨rfl,M.o.ext⟩
def earB(s:Sto)(k:Nat)(e:U):Bool:=!stB e s.c.spe||decide ((s.nodes.getD k n0).b.slot.n<=(stU e s.c.spe).n)
theorem Afs(Γ:Gam)(s:Sto)(v:Sls)(k:Nat)(e:U)(hs:SpeOk s)(hk:k<s.nodes.length)(w:World)(ok:Ok Γ w)(h:StG Γ v s) :
  Calls Tryz.prog 206 #[.agg (fl (stP s v)).toArray,.int .i64 (k:Int),.int .u64 (e.n:Int)] w fun en w'=>en=.returned (.bool (earB s k e))/\Ext Γ w Γ w':=by
 have M:=bx (MM.start ok)
 have ST:=bx (fun w ok=>AdW Γ s v e hs w ok)
 obtain⟨g,hA,hf⟩:=h.nodeAt k hk
 have F1:=bx hf
 have HA:=bx hA
 have hki:(k:Int)<(v.nodes.n:Int):=by rw[h.nodes.n];omega
 have hk0:0<=(k:Int):=by omega
 have HD:Bx (earB s k e=(!stB e s.c.spe||decide (s.nodes[k].b.slot.n<=(stU e s.c.spe).n))):=⟨by unfold earB;rw[nget hk]⟩
 clear ok hs h hA hf
 generalize earB s k e=r at *
 generalize s.nodes[k]=y at *
 generalize stU e s.c.spe=u at *
 cases hb:stB e s.c.spe with
 |false=>
  rw[hb]at ST HD
  clear hb
  go_enter Tryz.func206,Tryz.ntmps206
  (go_wp2_with (first|(refine zBXo ?_;clear M;intro w' g M)|refine zLAo ?_))
  refine zCA M (ST.o _ M.ok) ?_;clear M;intro w1 M
  (go_wp2_with (go_skip))
  go_ret
  exact⟨by rw[HD.o];rfl,M.o.ext⟩
 |true=>
  rw[hb]at ST HD
  clear hb
  by_cases hl:y.b.slot.n<=u.n
  focus
   have HD':Bx (r=true):=⟨by rw[HD.o,decide_eq_true hl];rfl⟩
   have hl':(y.b.slot.n:Int)<=(u.n:Int):=by omega
  rotate_left
  focus
   have HD':Bx (r=false):=⟨by rw[HD.o,decide_eq_false hl];rfl⟩
   have hl':(u.n:Int)<(y.b.slot.n:Int):=by omega
  all_goals
   clear HD
   go_enter Tryz.func206,Tryz.ntmps206
   (go_wp2_with (first|(refine zBXo ?_;clear M;intro w' g M)|refine zLAo ?_))
   refine zCA M (ST.o _ M.ok) ?_;clear M;intro w1 M
   (go_wp2_with (first|refine zLHo HA ?_|refine zRFo F1 ?_))
   go_ret
   exact⟨by rw[HD'.o];rfl,M.o.ext⟩
def punI(s l:List Int):List Int:=l.foldl insI s
theorem Abi{α β:Type}(f:β->α->β)(b:β){l:List α}{k:Nat}(hk:k<l.length):(l.take (k+1)).foldl f b=f ((l.take k).foldl f b) l[k]:=by
 rw[List.take_succ_eq_append_getElem hk,List.foldl_append];rfl
theorem Aju(s l:List Int):(punI s l).length<=s.length+l.length:=by
 unfold punI
 induction l generalizing s with
 |nil=>simp
 |cons a t ih=>
  have h1:=ih (insI s a)
  have h2:=AkA s a
  simp only[List.foldl_cons,List.length_cons]
  omega
def PunP(Γ:Gam)(w:World)(l:List Int)(m:Int)(e:Ending)(w':World):Prop:=∃(A:Option Addr) (c:Nat) (Γ':Gam),e=.returned (.tuple #[.slice A l.length c,.int .i64 m])/\CapOk A l.length c/\SlG Γ' A l.length (ints .i64 l)/\Ext Γ w Γ' w'
theorem AlB(Γ:Gam)(A A2:Option Addr)(c c2:Nat)(s l:List Int)(w:World)(ok:Ok Γ w)(h:SlG Γ A s.length (ints .i64 s))(hc:CapOk A s.length c)(h2:SlG Γ A2 l.length (ints .i64 l))(hb:s.length<=30000)(hb2:l.length<=30000) :
  Calls Tryz.prog 168 #[.slice A s.length c,.slice A2 l.length c2] w (PunP Γ w (punI s l) ((punI s l).length-s.length)):=by
 have M:=bx (MM.start ok)
 have ROW:Bx (∀w',Ok Γ w'->Row w' w'.heap.size 1 A s.length (ints .i64 s)):=⟨fun w' o=>h.row (size:=1) (by rw[ints_len,Nat.mul_one]) o⟩
 have CAP:=bx hc.nil
 have HS2:=bx h2
 have PT:Bx (∀k (hk:k<l.length),punI s (l.take (k+1))=insI (punI s (l.take k)) l[k]):=⟨fun k hk=>Abi insI s hk⟩
 have PL:=bx (fun k=>(Nat.le_trans (Aju s (l.take k)) (by rw[List.length_take];omega):(punI s (l.take k)).length<=60000))
 have HB2:=bx hb2
 clear ok h hc h2
 go_enter Tryz.func168,Tryz.ntmps168
 (go_wp2_with ((at_builtin;(with_reducible apply Aae (M.o.row0 3 1) AbO (ROW.o _ M.ok) CAP.o);exact One.ints _ _;(unfold maxLen;omega);omega;rfl;rfl;rfl;rfl;intro A' c' w' M';(simp only[Nat.zero_add,List.nil_append]at M');(replace M:=bx M';clear M'))))
 obtain⟨Γ1,hcap,hsl,hle,M'⟩:=M.o.frz
 (replace M:=bx M';clear M')
 go_loopw [6,7] (fun o j wr=>∃(k:Nat) (A1:Option Addr) (c1:Nat) (Γk:Gam),k<=l.length/\j=.int .i64 k/\o=.slice A1 (punI s (l.take k)).length c1/\CapOk A1 (punI s (l.take k)).length c1/\SlG Γk A1 (punI s (l.take k)).length (ints .i64 (punI s (l.take k)))/\MM Γ w Γk wr [] []) (fun _ j _=>l.length-(intOf j).toNat)
 case atStart=>exact⟨0,A',c',Γ1,Nat.zero_le _,rfl,rfl,hcap,hsl,M.o⟩
 case round=>
  obtain⟨k,A1,c1,Γk,hk,rfl,rfl,hcp,hsk,hM⟩:=hrel
  clear M
  have M:=bx hM
  have HC:=bx hcp
  have HK:=bx hsk
  clear hM hcp hsk hcap hsl hle
  have hpl:=PL.o k
  by_cases hkn:k<l.length
  .obtain⟨gk,rfl,hf⟩:=Afk (HS2.o.mono M.o.ext.le) k hkn
   have F1:=bx hf
   have PT':=bx (PT.o k hkn)
   have hki:(k:Int)<(l.length:Int):=by omega
   have hk0:0<=(k:Int):=by omega
   have IN:=bx (fun w ok=>Afl Γk A1 c1 (punI s (l.take k)) l[k] w ok HK.o HC.o (by omega))
   clear hf
   generalize l[k]=y at *
   generalize punI s (l.take k)=sk at *
   (go_wp2_with (refine zRFo F1 ?_))
   refine(IN.o _ M.ok).mono ?_
   rintro e1 w1 ⟨A3,c3,Γ3,rfl,hc3,hs3,hx3⟩
   replace M:=bx (M.o.call hx3)
   (go_wp2_with (fail))
   go_roundw
   case rel=>exact⟨k+1,A3,c3,Γ3,by omega,by go_num,by rw[PT'.o],by rw[PT'.o];exact hc3,by rw[PT'.o];exact hs3,M.o⟩
   case measure=>simp[intOf]<;>omega
  .have hki:(l.length:Int)<=(k:Int):=by omega
   have e:punI s (l.take k)=punI s l:=by rw[List.take_of_length_le (by omega)]
   rw[e]at HC HK hpl |-
   clear e PT PL
   generalize punI s l=r at *
   (go_wp2_with (fail))
   go_ret2
   exact⟨A1,c1,Γk,rfl,HC.o,HK.o,M.o.ext⟩
def culI(x:Slh):List Int:=x.a.l.foldl (fun acc y=>if y∈x.b.l then insI acc y else acc) []
def culTo(x:Slh)(k:Nat):List Int:=(x.a.l.take k).foldl (fun acc y=>if y∈x.b.l then insI acc y else acc) []
theorem Af2(x:Slh)(k:Nat):(culTo x k).length<=k:=by
 induction k with
 |zero=>simp[culTo]
 |succ k ih=>
  rcases Nat.lt_or_ge k x.a.l.length with hk|hk
  .unfold culTo at ih |-
   rw[Abi _ _ hk]
   split
   .exact Nat.le_trans (AkA _ _) (by omega)
   .omega
  .unfold culTo at ih |-
   rw[List.take_of_length_le (by omega)]
   rw[List.take_of_length_le hk]at ih
   omega
theorem Aev(Γ:Gam)(x:Slh)(s t:Sl)(w:World)(ok:Ok Γ w)(h:SlG2 Γ x s t)(hb:x.a.l.length<=30000)(hb2:x.b.l.length<=30000) :
  Calls Tryz.prog 169 #[.agg (fl (slP x s t)).toArray] w (IntsP Γ w (culI x)):=by
 have M:=bx (MM.start ok)
 have HS:=bx h
 have LA:=bx h.a.n
 have LB:=bx h.b.n
 have PT:Bx (∀k (hk:k<x.a.l.length),culTo x (k+1)=if x.a.l[k]∈x.b.l then insI (culTo x k) x.a.l[k]else culTo x k):=⟨fun k hk=>Abi (fun acc y=>if y∈x.b.l then insI acc y else acc) [] hk⟩
 have PE:Bx (culTo x x.a.l.length=culI x):=⟨by unfold culTo culI;rw[List.take_of_length_le (Nat.le_refl _)]⟩
 have PL:=bx (Af2 x)
 have HB:=bx hb
 clear ok h
 go_enter Tryz.func169,Tryz.ntmps169
 (go_wp2_with (refine zBXo ?_;clear M;intro w' g M))
 go_loopw [3,4] (fun o j wr=>∃(k:Nat) (A1:Option Addr) (c1:Nat) (Γk:Gam),k<=x.a.l.length/\j=.int .i64 k/\o=.slice A1 (culTo x k).length c1/\CapOk A1 (culTo x k).length c1/\SlG Γk A1 (culTo x k).length (ints .i64 (culTo x k))/\MM Γ w Γk wr [⟨g,slP x s t,[1,1,32,1,1,1,32,1]⟩] []) (fun _ j _=>x.a.l.length-(intOf j).toNat)
 case atStart=>exact⟨0,none,0,Γ,Nat.zero_le _,rfl,rfl,⟨Nat.le_refl _,Nat.zero_le _,fun _=>rfl⟩,fun h=>absurd h (Nat.lt_irrefl _),M.o⟩
 case round=>
  obtain⟨k,A1,c1,Γk,hk,rfl,rfl,hcp,hsk,hM⟩:=hrel
  clear M
  have M:=bx hM
  have HC:=bx hcp
  have HK:=bx hsk
  clear hM hcp hsk
  have hpl:=PL.o k
  by_cases hkn:k<x.a.l.length
  .have hsa:=HS.o.a.sl.mono M.o.ext.le
   rw[LA.o]at hsa
   obtain⟨gk,hA,hf⟩:=Afk hsa k hkn
   have HA:Bx (s.v=.slice (some ⟨gk,0,none⟩) s.n s.c):=⟨by rw[<-hA]⟩
   have F1:=bx hf
   have PT':=bx (PT.o k hkn)
   have hki:(k:Int)<(s.n:Int):=by rw[LA.o];omega
   have hk0:0<=(k:Int):=by omega
   have IN:=bx (fun w ok=>Afl Γk A1 c1 (culTo x k) x.a.l[k] w ok HK.o HC.o (by omega))
   have hsb:=HS.o.b.sl.mono M.o.ext.le
   rw[LB.o]at hsb
   have HH:Bx (∀w,Ok Γk w->Calls Tryz.prog 48 #[t.v,.int .i64 x.a.l[k]] w fun e w'=>e=.returned (.bool (decide (x.a.l[k]∈x.b.l)))/\Ext Γk w Γk w'):=⟨fun w ok=>by
    have:=AoH Γk t.A t.c x.b.l x.a.l[k] w ok hsb (by omega)
    rw[<-LB.o]at this
    exact this⟩
   have EC:=bx (clsE M.o HH.o)
   clear hf hA hsa hsb HH
   generalize x.a.l[k]=y at *
   by_cases hm:y∈x.b.l
   .rw[decide_eq_true hm]at EC
    replace PT':=bx (PT'.o.trans (if_pos hm))
    clear hm
    generalize hct:culTo x k=sk at *
    clear hct
    (go_wp2_with (refine zLAo ?_))
    refine zRG ?_;(repeat((go_big_quiet_want;first|((first|refine zQHo HA ?_|refine zQFo F1 ?_|refine zQC (AaJ EC.o) Tryz.func48 ?_|refine zQAo ?_);go_big_quiet_on;refine zNM ?_)|(refine zQO ?_;go_big_quiet_on))));(refine zQN ?_;clear M;intro w4 M)
    clear EC
    (go_wp2_with (first|refine zLHo HA ?_|refine zRFo F1 ?_))
    refine(IN.o _ M.ok).mono ?_
    rintro e1 w1 ⟨A3,c3,Γ3,rfl,hc3,hs3,hx3⟩
    replace M:=bx (M.o.call hx3)
    (go_wp2_with (fail))
    go_roundw
    case rel=>exact⟨k+1,A3,c3,Γ3,by omega,by go_num,by rw[PT'.o],by rw[PT'.o];exact hc3,by rw[PT'.o];exact hs3,M.o⟩
    case measure=>simp[intOf]<;>omega
   .rw[decide_eq_false hm]at EC
    replace PT':=bx (PT'.o.trans (if_neg hm))
    clear hm
    generalize hct:culTo x k=sk at *
    clear hct
    (go_wp2_with (refine zLAo ?_))
    refine zRG ?_;(repeat((go_big_quiet_want;first|((first|refine zQHo HA ?_|refine zQFo F1 ?_|refine zQC (AaJ EC.o) Tryz.func48 ?_|refine zQAo ?_);go_big_quiet_on;refine zNM ?_)|(refine zQO ?_;go_big_quiet_on))));(refine zQN ?_;clear M;intro w4 M)
    clear EC
    (go_wp2_with (fail))
    go_roundw
    case rel=>exact⟨k+1,A1,c1,Γk,by omega,by go_num,by rw[PT'.o],by rw[PT'.o];exact HC.o,by rw[PT'.o];exact HK.o,M.o⟩
    case measure=>simp[intOf]<;>omega
  .have hki:(s.n:Int)<=(k:Int):=by rw[LA.o];omega
   obtain rfl:k=x.a.l.length:=by omega
   rw[PE.o]at HC HK hpl |-
   clear PT PL PE
   generalize culI x=r at *
   (go_wp2_with (refine zLAo ?_))
   go_ret
   exact⟨A1,c1,Γk,rfl,HC.o,HK.o,M.o.ext⟩
def SlbP(Γ:Gam)(w:World)(e:Ending)(w':World):Prop:=∃r:Bool,e=.returned (.bool r)/\Ext Γ w Γ w'
structure Lt2(a b:Nat):Prop where
 i1:(a:Int)<(b:Int)
 i2:(a:Int)<=(b:Int)
 i3:((a:Int)==(b:Int))=false
 i4:((a:Int) != (b:Int))=true
 n1:a<b
 n2:a<=b
 m1:¬b<a
 m2:¬b<=a
 j1:¬(b:Int)<(a:Int)
 j2:¬(b:Int)<=(a:Int)
structure Eq2(a b:Nat):Prop where
 i1:((a:Int)==(b:Int))=true
 i2:((a:Int) != (b:Int))=false
 i3:(a:Int)<=(b:Int)
 i4:(b:Int)<=(a:Int)
 n1:a<=b
 n2:b<=a
 m1:¬a<b
 m2:¬b<a
 j1:¬(a:Int)<(b:Int)
 j2:¬(b:Int)<(a:Int)
theorem two2(a b:Nat):(a<b/\(a:Int)<(b:Int))\/(¬a<b/\¬(a:Int)<(b:Int)):=by omega
theorem tri3(a b:Nat):Lt2 a b\/Eq2 a b\/Lt2 b a:=by
 rcases Nat.lt_trichotomy a b with h|h|h
 .exact .inl ⟨by omega,by omega,by simp;omega,by simp;omega,h,by omega,by omega,by omega,by omega,by omega⟩
 .subst h;exact .inr (.inl ⟨by simp,by simp,by omega,by omega,by omega,by omega,by omega,by omega,by omega,by omega⟩)
 .exact .inr (.inr ⟨by omega,by omega,by simp;omega,by simp;omega,h,by omega,by omega,by omega,by omega,by omega⟩)
theorem Ag4(Γ:Gam)(x y:Clm)(s t:Sl)(w:World)(ok:Ok Γ w) :
  Calls Tryz.prog 196 #[.agg (fl (clP x s)).toArray,.agg (fl (clP y t)).toArray] w (SlbP Γ w):=by
 have M:=bx (MM.start ok)
 clear ok
 have hq:=Aa5 x.r y.r
 generalize decide (x.r=y.r)=q at *
 rcases tri3 x.tgt.n y.tgt.n with⟨a1,a2,a3,a4,a5,a6,a7,a8,a9,a10⟩|⟨a1,a2,a3,a4,a5,a6,a7,a8,a9,a10⟩|⟨a1,a2,a3,a4,a5,a6,a7,a8,a9,a10⟩
 .rcases tri3 x.src.n y.src.n with⟨b1,b2,b3,b4,b5,b6,b7,b8,b9,b10⟩|⟨b1,b2,b3,b4,b5,b6,b7,b8,b9,b10⟩|⟨b1,b2,b3,b4,b5,b6,b7,b8,b9,b10⟩<;>(go_enter Tryz.func196,Tryz.ntmps196;(go_wp2_with (first|go_skip|(refine zBXd ?_;clear M;intro w' g M)|refine zLAd ?_));go_ret;exact⟨_,rfl,M.o.ext⟩)
 .rcases tri3 x.src.n y.src.n with⟨b1,b2,b3,b4,b5,b6,b7,b8,b9,b10⟩|⟨b1,b2,b3,b4,b5,b6,b7,b8,b9,b10⟩|⟨b1,b2,b3,b4,b5,b6,b7,b8,b9,b10⟩
  ·(go_enter Tryz.func196,Tryz.ntmps196;(go_wp2_with (first|go_skip|(refine zBXd ?_;clear M;intro w' g M)|refine zLAd ?_));go_ret;exact⟨_,rfl,M.o.ext⟩)
  .cases q<;>(go_enter Tryz.func196,Tryz.ntmps196;(go_wp2_with (first|go_skip|(refine zBXd ?_;clear M;intro w' g M)|refine zLAd ?_));go_ret;exact⟨_,rfl,M.o.ext⟩)
  ·(go_enter Tryz.func196,Tryz.ntmps196;(go_wp2_with (first|go_skip|(refine zBXd ?_;clear M;intro w' g M)|refine zLAd ?_));go_ret;exact⟨_,rfl,M.o.ext⟩)
 .rcases tri3 x.src.n y.src.n with⟨b1,b2,b3,b4,b5,b6,b7,b8,b9,b10⟩|⟨b1,b2,b3,b4,b5,b6,b7,b8,b9,b10⟩|⟨b1,b2,b3,b4,b5,b6,b7,b8,b9,b10⟩<;>(go_enter Tryz.func196,Tryz.ntmps196;(go_wp2_with (first|go_skip|(refine zBXd ?_;clear M;intro w' g M)|refine zLAd ?_));go_ret;exact⟨_,rfl,M.o.ext⟩)
theorem Akq(Γ:Gam)(x:Slh)(s t:Sl)(n:Int)(w:World)(ok:Ok Γ w)(h:SlG2 Γ x s t)(hb:x.a.l.length<=30000)(hb2:x.b.l.length<=30000) :
  Calls Tryz.prog 166 #[.agg (fl (slP x s t)).toArray,.int .i64 n] w fun e w'=>∃er:Int,e=.returned (.int .i64 er)/\((er=0->VList x.a.l n/\VList x.b.l n)/\er≠21)/\Ext Γ w Γ w':=by
 have M:=bx (MM.start ok)
 have OK:=bx ok
 have V1:Bx (∀w,Ok Γ w->Calls Tryz.prog 182 #[s.v,.int .i64 n] w fun e w'=>∃er:Int,e=.returned (.int .i64 er)/\((er=0↔VList x.a.l n)/\er≠21)/\Ext Γ w Γ w'):=⟨fun w ok=>by
  have hs:=h.a.sl
  rw[h.a.n]at hs
  have:=Aco Γ s.A s.c x.a.l n w ok hs (by omega)
  rw[<-h.a.n]at this
  exact this⟩
 have V2:Bx (∀w,Ok Γ w->Calls Tryz.prog 182 #[t.v,.int .i64 n] w fun e w'=>∃er:Int,e=.returned (.int .i64 er)/\((er=0↔VList x.b.l n)/\er≠21)/\Ext Γ w Γ w'):=⟨fun w ok=>by
  have hs:=h.b.sl
  rw[h.b.n]at hs
  have:=Aco Γ t.A t.c x.b.l n w ok hs (by omega)
  rw[<-h.b.n]at this
  exact this⟩
 have SB:=bx (fun w ok=>Ag4 Γ x.a x.b s t w ok)
 have CU:=bx (fun w ok=>Aev Γ x s t w ok h hb hb2)
 generalize culI x=cu at *
 clear ok h hb hb2
 go_enter Tryz.func166,Tryz.ntmps166
 (go_wp2_with (first|(refine zBXd ?_;clear M;intro w' g M)|refine zLAd ?_))
 refine(V1.o _ M.ok).mono ?_
 rintro e1 w1 ⟨er,rfl,hv1,hx1⟩
 replace M:=bx (M.o.call hx1)
 have HV1:=bx hv1
 clear hv1 hx1
 by_cases h0:er=0
 .subst h0
  (go_wp2_with (refine zLAd ?_))
  refine(V2.o _ M.ok).mono ?_
  rintro e1 w1 ⟨er,rfl,hv2,hx1⟩
  replace M:=bx (M.o.call hx1)
  have HV2:=bx hv2
  clear hv2 hx1
  by_cases h0:er=0
  .subst h0
   rcases two2 x.a.tgt.n x.a.src.n with⟨a1,a2⟩|⟨a1,a2⟩
   ·(go_wp2_with (first|go_skip|refine zLAd ?_))
    go_ret
    exact⟨_,rfl,⟨fun e=>(by cases e),by decide⟩,M.o.ext⟩
   .rcases two2 x.b.tgt.n x.b.src.n with⟨b1,b2⟩|⟨b1,b2⟩
    ·(go_wp2_with (refine zLAd ?_))
     go_ret
     exact⟨_,rfl,⟨fun e=>(by cases e),by decide⟩,M.o.ext⟩
    ·(go_wp2_with (refine zLAd ?_))
     refine(SB.o _ M.ok).mono ?_
     rintro e1 w1 ⟨r,rfl,hx1⟩
     replace M:=bx (M.o.call hx1)
     clear hx1
     cases r
     ·(go_wp2_with (go_skip))
      go_ret
      exact⟨_,rfl,⟨fun e=>(by cases e),by decide⟩,M.o.ext⟩
     ·(go_wp2_with (refine zLAd ?_))
      refine(CU.o _ M.ok).mono ?_
      rintro e1 w1 ⟨A3,c3,Γ3,rfl,hc3,hs3,hx3⟩
      replace M:=bx (M.o.call hx3)
      clear hc3 hs3 hx3
      by_cases hc0:((cu.length:Int)==0)=true
      ·(go_wp2_with (fail))
       go_ret
       exact⟨_,rfl,⟨fun e=>(by cases e),by decide⟩,Ext.below OK.o M.bel⟩
      .have hc1:((cu.length:Int)==0)=false:=by simpa using hc0
       clear hc0
       (go_wp2_with (fail))
       go_ret
       exact⟨_,rfl,⟨fun _=>⟨HV1.o.1.1 (by simp),HV2.o.1.1 (by simp)⟩,by decide⟩,Ext.below OK.o M.bel⟩
  .have h0b:(er==0)=false:=beq_eq_false_iff_ne.2 h0
   have H0:=bx h0
   clear h0
   (go_wp2_with (fail))
   go_ret
   exact⟨_,rfl,⟨fun e=>absurd e H0.o,HV2.o.2⟩,M.o.ext⟩
 .have h0b:(er==0)=false:=beq_eq_false_iff_ne.2 h0
  have H0:=bx h0
  clear h0
  (go_wp2_with (fail))
  go_ret
  exact⟨_,rfl,⟨fun e=>absurd e H0.o,HV1.o.2⟩,M.o.ext⟩
section
variable {Γ0 Γ:Gam}{w0 w:World}{L:List Ent}{R:List RowE}{Pg:Program}{ops:Array Oper}{rest:List Oper}{op:Oper}{a:Act}{Q:Exit->Act->World->Prop}
theorem MM.putR{i g o:Nat}{P P':List (List Value)}{ls:List Nat}{pre old post cs:List Value}(M:MM Γ0 w0 Γ w L R)(hi:L[i]? = some ⟨g,P,ls⟩)(h1:fl P=pre++old++post)(ho:pre.length=o)(h2:old.length=cs.length)(hP:fl P'=pre++cs++post)(hl:P'.map List.length=ls) :
  w.there g o cs.length/\MM Γ0 w0 Γ (w.setCells g o cs) (L.set i ⟨g,P',ls⟩) R:=by
 have hh:=M.has _ (List.mem_of_getElem? hi)
 simp only at hh
 rw[h1]at hh
 obtain⟨q1,q2,q3⟩:=AcZ g cs _ pre post w h2 hh
 rw[ho]at q1 q2 q3
 refine⟨fun t ht=>?_,M.write hi q2 (by rw[hP];exact q1) hl⟩
 rw[hh.cell,hh.frozen,<-ho,List.append_assoc,List.getElem?_append_right (by omega),Nat.add_sub_cancel_left,List.getElem?_append_left (by omega),List.getElem?_eq_getElem (by omega)]
 exact⟨rfl,rfl⟩
theorem AmA{g o n:Nat}{P:List (List Value)}{ls:List Nat}(M:MM Γ0 w0 Γ w L R)(i:Nat)(cs:List Value)(P':List (List Value)){pre old post:List Value}(h1:fl P=pre++old++post)(hpo:pre.length=o)(h2:old.length=cs.length)(hP:fl P'=pre++cs++post)(hl:P'.map List.length=ls)(hcn:cs.length=n)(h1c:One cs)
  {opsA:Array Oper} {ts:Array Value} {K:Act->World->Prop} {E:Prop} (hi:L[i]? = some ⟨g,P,ls⟩) {ty:TypeId} {x y:Operand} (ho:op.op=.store ty x y) (hx:a.eval x=.pointer (some ⟨g,o,none⟩))
  (hy:a.eval y=.agg cs.toArray) (rt:RowT Pg ty n) (hw:Region.wanted op (yielded opsA ts)=true)
  (h:∀w',MM Γ0 w0 Γ w' (L.set i ⟨g,P',ls⟩) R->K (a.put op.dst undef) w'):if Region.wanted op (yielded opsA ts)=true then op.wp Pg a w K Q else E:=by
 rw[if_pos hw]
 obtain⟨d,hu,hd⟩:=rt.ex
 obtain⟨q1,q3⟩:=M.putR hi h1 hpo h2 hP hl
 exact wp_store_mid ty x y ho g o cs.toArray hx hy (by simpa using q1) (by rw[List.size_toArray,hcn];exact AbS hu rt.n) (all_oneCell_toArray h1c) (by simpa using h _ q3)
end
theorem AoJ{α:Type}{f:α->List Value}{n:Nat}{X:List α}(h:∀x,(f x).length=n){k:Nat}(hk:k<X.length)(rest:List Value) :
  X.flatMap f++rest=(X.take k).flatMap f++f X[k]++((X.drop (k+1)).flatMap f++rest)/\((X.take k).flatMap f).length=k*n:=by
 refine⟨?_,by rw[Aah (k:=n) _ (fun x _=>h x),List.length_take,Nat.min_eq_left (by omega)]⟩
 have e:X=X.take k++X[k]::X.drop (k+1):=by rw[<-List.drop_eq_getElem_cons hk,List.take_append_drop]
 refine(congrArg (fun l=>l.flatMap f++rest) e).trans ?_
 simp only[List.flatMap_append,List.flatMap_cons,List.append_assoc]
theorem AiV{α:Type}{f:α->List Value}{X:List α}{k:Nat}(hk:k<X.length)(y:α)(rest:List Value) :
  (X.set k y).flatMap f++rest=(X.take k).flatMap f++f y++((X.drop (k+1)).flatMap f++rest):=by
 rw[List.set_eq_take_append_cons_drop,if_pos hk]
 simp
theorem Aly{w:World}{g:Nat}{pre mid post:List Value}(h:Has w g (pre++mid++post)):w.rangeAt g pre.length mid:=fun j u hu=>by
 rw[h.cell];exact AjT j u hu
def castS(ep:U)(r:Rt)(s:List Vo × Int)(y:Int):List Vo × Int:=if(s.1.getD y.toNat vo0).has=false\/(s.1.getD y.toNat vo0).e.n<ep.n then(s.1.set y.toNat ⟨true,ep,r⟩,s.2+1)else s
def castV(vs:List Vo)(ep:U)(r:Rt)(l:List Int):List Vo × Int:=l.foldl (castS ep r) (vs,0)
theorem Am8(ep:U)(r:Rt)(s:List Vo × Int)(y:Int):(castS ep r s y).1.length=s.1.length/\s.2<=(castS ep r s y).2/\(castS ep r s y).2<=s.2+1:=by
 unfold castS;split<;>simp<;>omega
theorem Af8(vs:List Vo)(ep:U)(r:Rt)(l:List Int):(castV vs ep r l).1.length=vs.length/\0<=(castV vs ep r l).2/\(castV vs ep r l).2<=l.length:=by
 unfold castV
 suffices h:∀(s:List Vo × Int),(l.foldl (castS ep r) s).1.length=s.1.length/\s.2<=(l.foldl (castS ep r) s).2/\(l.foldl (castS ep r) s).2<=s.2+l.length by simpa using h (vs,0)
 induction l with
 |nil=>intro s;simp
 |cons a t ih=>
  intro s
  have h1:=ih (castS ep r s a)
  have h2:=Am8 ep r s a
  simp only[List.foldl_cons,List.length_cons]
  omega
theorem Akc{vs:List Vo}(h:∀v∈vs,v.has=false->v=vo0)(ep:U)(r:Rt)(l:List Int):∀v∈(castV vs ep r l).1,v.has=false->v=vo0:=by
 unfold castV
 suffices hs:∀(s:List Vo × Int),(∀v∈s.1,v.has=false->v=vo0)->∀v∈(l.foldl (castS ep r) s).1,v.has=false->v=vo0 by exact hs (vs,0) h
 induction l with
 |nil=>intro s hs;exact hs
 |cons a t ih=>
  intro s hs
  rw[List.foldl_cons]
  refine ih _ fun v hv=>?_
  unfold castS at hv
  split at hv
  .rcases List.mem_or_eq_of_mem_set hv with hv|rfl
   .exact hs v hv
   .intro e;cases e
  .exact hs v hv
theorem elVo:ElT Tryz.prog 33 172 34 48:=Abr Tryz.underlying33 (by kernel_rfl) (by decide) (by decide)
theorem ztVo:ZeroT Tryz.prog 172 (voP vo0) [1,1,32]:=⟨fun w=>by kernel_rfl,Ac2 _⟩
def CastP(Γ:Gam)(w:World)(r:List Vo × Int)(e:Ending)(w':World):Prop:=∃(x:Sl) (Γ':Gam),e=.returned (.tuple #[x.v,.int .i64 r.2])/\SlR Γ' x r.1.length (r.1.flatMap vox)/\Ext Γ w Γ' w'
theorem AiS(Γ:Gam)(x:Sl)(vs:List Vo)(ep:U)(r:Rt)(A:Option Addr)(c:Nat)(l:List Int)(w:World)(ok:Ok Γ w)(h:SlR Γ x vs.length (vs.flatMap vox))(h1:0<vs.length)(hb:vs.length<=65535)(hl:SlG Γ A l.length (ints .i64 l))(hlb:l.length<=65535)(hmem:∀y∈l,0<=y/\y<(vs.length:Int)) :
  Calls Tryz.prog 190 #[x.v,.int .u64 (ep.n:Int),.agg (rc r).toArray,.slice A l.length c] w (CastP Γ w (castV vs ep r l)):=by
 have M:=bx (MM.start ok)
 have LN:=bx h.n
 have HB:=bx hb
 have HLB:=bx hlb
 have HMEM:=bx hmem
 have HS:=bx hl
 have H1:=bx h1
 have hxb:x.n<=65535:=by rw[h.n];exact hb
 have ROW:Bx (∀w',Ok Γ w'->Row w' w'.heap.size 34 x.A x.n (vs.flatMap vox)):=⟨fun w' o=>h.sl.row (size:=34) (by rw[Aah vs (fun x _=>AcX x),h.n]) o⟩
 have OneN:Bx (One (vs.flatMap vox)):=⟨AbM fun x _=>AfO x⟩
 have CAP:=bx h.cap.nil
 have CT:Bx (∀k (hk:k<l.length),castV vs ep r (l.take (k+1))=castS ep r (castV vs ep r (l.take k)) l[k]):=⟨fun k hk=>Abi (castS ep r) (vs,0) hk⟩
 have CL:Bx (∀k,(castV vs ep r (l.take k)).1.length=vs.length/\0<=(castV vs ep r (l.take k)).2/\(castV vs ep r (l.take k)).2<=65535):=⟨fun k=>by
  have:=Af8 vs ep r (l.take k)
  have h2:(l.take k).length<=l.length:=by rw[List.length_take];omega
  omega⟩
 have BV:=bx (AoY ep r)
 clear ok h hb hl hlb h1 hmem
 change Calls Tryz.prog _ #[_,_,.agg (fl [rc r]).toArray,_] _ _
 go_enter Tryz.func190,Tryz.ntmps190
 (go_wp2_with (first|(at_builtin;(with_reducible apply Aae (M.o.row0 172 34) elVo (ROW.o _ M.ok) CAP.o);exact OneN.o;(unfold maxLen;omega);omega;rfl;rfl;rfl;rfl;intro A' c' w' M';(simp only[Nat.zero_add,List.nil_append]at M');(replace M:=bx M';clear M'))|(refine zBXo ?_;clear M;intro w' g M)))
 have hx1:0<x.n:=by rw[LN.o];exact H1.o
 obtain⟨gr,rest,rfl,hcap,M'⟩:=M.o.rowL hx1
 (replace M:=bx M';clear M')
 have HCAP:=bx hcap
 clear hcap ROW OneN CAP
 have hkl:l.length<=65535:=HLB.o
 (go_wp2_with (fail))
 go_loopw [11,12] (fun m j wr=>∃(k:Nat),k<=l.length/\j=.int .i64 k/\m=.int .i64 (castV vs ep r (l.take k)).2/\MM Γ w Γ wr [⟨gr,[(castV vs ep r (l.take k)).1.flatMap vox,rest],[(vs.flatMap vox).length,rest.length]⟩,⟨g,[rc r],[32]⟩] []) (fun _ j _=>l.length-(intOf j).toNat)
 case atStart=>exact⟨0,Nat.zero_le _,rfl,rfl,M.o⟩
 case round=>
  obtain⟨k,hk,rfl,rfl,hM⟩:=hrel
  clear M
  have M:=bx hM
  clear hM
  obtain⟨l1,l2,l3⟩:=CL.o k
  by_cases hkn:k<l.length
  .obtain⟨gk,rfl,hf⟩:=Afk HS.o k hkn
   have F1:=bx hf
   obtain⟨m1,m2⟩:=HMEM.o _ (List.getElem_mem hkn)
   have CT':=bx (CT.o k hkn)
   clear hf
   generalize l[k]=z at *
   obtain⟨y,rfl⟩:∃y:Nat,z=(y:Int):=⟨z.toNat,by omega⟩
   generalize hvk:castV vs ep r (l.take k)=vk at *
   have hy:y<vk.1.length:=by omega
   obtain⟨q1,q2⟩:=AoJ (f:=vox) AcX hy rest
   have Q1:Bx (fl [vk.1.flatMap vox,rest]=(vk.1.take y).flatMap vox++vox vk.1[y]++((vk.1.drop (y+1)).flatMap vox++rest)):=⟨q1⟩
   have Q2:Bx (fl [(vk.1.set y ⟨true,ep,r⟩).flatMap vox,rest]=(vk.1.take y).flatMap vox++vox ⟨true,ep,r⟩++((vk.1.drop (y+1)).flatMap vox++rest)):=⟨AiV hy _ rest⟩
   have Q3:=bx q2
   have RG:Bx (wr.rangeAt gr (y*34) (fl (voP vk.1[y]))/\(fl (voP vk.1[y])).length=34):=⟨by
    have:=M.o.at0.has
    rw[Q1.o]at this
    have:=Aly this
    rw[q2]at this
    exact this,AcX _⟩
   have FL:Bx (([(vk.1.set y ⟨true,ep,r⟩).flatMap vox,rest]:List (List Value)).map List.length = [(vs.flatMap vox).length,rest.length]):=⟨by
    simp only[List.map_cons,List.map_nil,Aah (f:=vox) _ (fun x _=>AcX x),List.length_set,l1]⟩
   have CS:Bx (castS ep r vk (y:Int)=if vk.1[y].has=false\/vk.1[y].e.n<ep.n then(vk.1.set y ⟨true,ep,r⟩,vk.2+1)else vk):=⟨by unfold castS;simp only[Int.toNat_natCast,List.getD,List.getElem?_eq_getElem hy,Option.getD_some]⟩
   have hki:(k:Int)<(l.length:Int):=by omega
   have hk0:0<=(k:Int):=by omega
   have hyi:(y:Int)<(x.n:Int):=by rw[LN.o];omega
   have hy0:0<=(y:Int):=by omega
   clear q1 q2 CT CL
   generalize vk.1[y]=z at *
   obtain⟨zh,ze,zr⟩:=z
   have hk65:k<=65535:=by omega
   cases zh
   .have CS':=bx (CS.o.trans (if_pos (.inl rfl)))
    clear CS
    (go_wp2_with (first|refine zRFo F1 ?_|(refine zALo (ztVo) ?_;clear M;intro w' g M)|((with_reducible refine Aa8 rfl rfl rfl rtVo RG.o ?_))|(refine zSSo M 0 (voP ⟨false,ze,zr⟩) (voP ⟨false,ze,zr⟩) (Ac2 _) (AfO _) ?_;clear M;intro w' M)|refine zLAo ?_))
    refine AaB [9] (.steps [(1,0),(1,1),(1,2),(1,3),(0,4),(1,5),(0,6),(1,7),(1,8),(3,9)] .leaf) (by kernel_rfl) (by kernel_rfl) ?_;(simp only[MixT6,MT.steps,stepAt,List.getD_cons_zero,List.getD_cons_succ]);replace M:=bx (M.o.drew)
    (repeat(first|refine zM0 ?_|(go_big_quiet_want;first|((first|refine zQFo F1 ?_|((with_reducible refine AaT 172 _ rfl [(0,.bool true),(1,.int .u64 (ep.n:Int)),(2,.agg (rc r).toArray)] (vox ⟨true,ep,r⟩) ?_ BV.o ?_);rfl)|refine zQAo ?_);go_big_quiet_on;refine zNM ?_)|(refine zQO ?_;go_big_quiet_on))))
    refine AmA M.o 1 (vox ⟨true,ep,r⟩) [(vk.1.set y ⟨true,ep,r⟩).flatMap vox,rest] Q1.o Q3.o (by rw[AcX,AcX]) Q2.o FL.o (AcX _) (AfO _) rfl rfl rfl rfl rtVo rfl ?_
    intro w7 M'
    simp only[List.set_cons_zero,List.set_cons_succ]at M'
    (replace M:=bx M';clear M')
    refine zNM ?_
    refine NoPanic.normal ?_
    (go_wp2_with (fail))
    go_roundw
    case rel=>exact⟨k+1,by omega,by go_num,by rw[CT'.o,CS'.o],by rw[CT'.o,CS'.o];exact M.o.tail⟩
    case measure=>simp[intOf]<;>omega
   .by_cases hz:ze.n<ep.n
    .have CS':=bx (CS.o.trans (if_pos (.inr hz)))
     clear CS
     (go_wp2_with (first|refine zRFo F1 ?_|(refine zALo (ztVo) ?_;clear M;intro w' g M)|((with_reducible refine Aa8 rfl rfl rfl rtVo RG.o ?_))|(refine zSSo M 0 (voP ⟨true,ze,zr⟩) (voP ⟨true,ze,zr⟩) (Ac2 _) (AfO _) ?_;clear M;intro w' M)|refine zLAo ?_))
     refine AaB [9] (.steps [(1,0),(1,1),(1,2),(1,3),(0,4),(1,5),(0,6),(1,7),(1,8),(3,9)] .leaf) (by kernel_rfl) (by kernel_rfl) ?_;(simp only[MixT6,MT.steps,stepAt,List.getD_cons_zero,List.getD_cons_succ]);replace M:=bx (M.o.drew)
     (repeat(first|refine zM0 ?_|(go_big_quiet_want;first|((first|refine zQFo F1 ?_|((with_reducible refine AaT 172 _ rfl [(0,.bool true),(1,.int .u64 (ep.n:Int)),(2,.agg (rc r).toArray)] (vox ⟨true,ep,r⟩) ?_ BV.o ?_);rfl)|refine zQAo ?_);go_big_quiet_on;refine zNM ?_)|(refine zQO ?_;go_big_quiet_on))))
     refine AmA M.o 1 (vox ⟨true,ep,r⟩) [(vk.1.set y ⟨true,ep,r⟩).flatMap vox,rest] Q1.o Q3.o (by rw[AcX,AcX]) Q2.o FL.o (AcX _) (AfO _) rfl rfl rfl rfl rtVo rfl ?_
     intro w7 M'
     simp only[List.set_cons_zero,List.set_cons_succ]at M'
     (replace M:=bx M';clear M')
     refine zNM ?_
     refine NoPanic.normal ?_
     (go_wp2_with (fail))
     go_roundw
     case rel=>exact⟨k+1,by omega,by go_num,by rw[CT'.o,CS'.o],by rw[CT'.o,CS'.o];exact M.o.tail⟩
     case measure=>simp[intOf]<;>omega
    .have CS':=bx (CS.o.trans (if_neg (by simp[hz])))
     clear CS
     (go_wp2_with (first|refine zRFo F1 ?_|(refine zALo (ztVo) ?_;clear M;intro w' g M)|((with_reducible refine Aa8 rfl rfl rfl rtVo RG.o ?_))|(refine zSSo M 0 (voP ⟨true,ze,zr⟩) (voP ⟨true,ze,zr⟩) (Ac2 _) (AfO _) ?_;clear M;intro w' M)|refine zLAo ?_))
     go_roundw
     case rel=>exact⟨k+1,by omega,by go_num,by rw[CT'.o,CS'.o],by rw[CT'.o,CS'.o];exact M.o.tail⟩
     case measure=>simp[intOf]<;>omega
  .have hki:(l.length:Int)<=(k:Int):=by omega
   have e:castV vs ep r (l.take k)=castV vs ep r l:=by rw[List.take_of_length_le (by omega)]
   rw[e]at M l1 l2 l3 |-
   clear e CT CL
   generalize castV vs ep r l=res at *
   (go_wp2_with (fail))
   go_ret2
   obtain⟨Γ',h1,h2,h3⟩:=M.o.frzL
   exact⟨⟨some ⟨gr,0,none⟩,x.n,c'⟩,Γ',rfl,⟨by show x.n=res.1.length;rw[l1,LN.o],HCAP.o,fun _=>⟨gr,rest,rfl,h1⟩⟩,h3.ext⟩
open Go.RowKit Old
def StP(Γ:Gam)(w:World)(s:Sto)(e:Ending)(w':World):Prop:=∃(v:Sls) (Γ':Gam),e=.returned (.agg (fl (stP s v)).toArray)/\StG Γ' v s/\Ext Γ w Γ' w'
theorem StP.mk{Γ Γ':Gam}{w w':World}{s:Sto}(v:Sls)(h:StG Γ' v s)(hx:Ext Γ w Γ' w'):StP Γ w s (.returned (.agg (fl (stP s v)).toArray)) w':=⟨v,Γ',rfl,h,hx⟩
def StE(Γ:Gam)(w:World)(er:Int)(s:Sto)(e:Ending)(w':World):Prop:=∃(v:Sls) (Γ':Gam),e=.returned (.tuple #[.agg (fl (stP s v)).toArray,.int .i64 er])/\StG Γ' v s/\Ext Γ w Γ' w'
theorem StE.mk{Γ Γ':Gam}{w w':World}{er:Int}{s:Sto}(v:Sls)(h:StG Γ' v s)(hx:Ext Γ w Γ' w'):StE Γ w er s (.returned (.tuple #[.agg (fl (stP s v)).toArray,.int .i64 er])) w':=⟨v,Γ',rfl,h,hx⟩
theorem stG0(Γ:Gam):StG Γ x0 st0:=⟨slR0 Γ,slR0 Γ,slR0 Γ,⟨[],rfl,fun _ h=>absurd h (by simp),slR0 Γ⟩,slR0 Γ,slR0 Γ,⟨⟨Nat.le_refl _,Nat.zero_le _,fun _=>rfl⟩,rfl,[],All2.nil,fun h=>absurd h (Nat.lt_irrefl _)⟩⟩
theorem StE.err{Γ Γ':Gam}{w w':World}{er:Int}(hx:Ext Γ w Γ' w'):StE Γ w er st0 (.returned (.tuple #[.agg (fl (stP st0 x0)).toArray,.int .i64 er])) w':=StE.mk x0 (stG0 _) hx
def Sto.balj(s:Sto):List U:=((s.tabs.find? fun t=>decide (t.c=s.just)).map (·.b)).getD []
theorem Ap8{s:Sto}(h:idxI (fun t=>decide (t.c=s.just)) s.tabs = -1):s.balj = []:=by
 rcases Aay (fun t=>decide (t.c=s.just)) s.tabs with⟨_,h2⟩|⟨k,hk,h1,_⟩
 .unfold Sto.balj;rw[List.find?_eq_none.2 fun x hx=>by simpa using h2 x hx];rfl
 .omega
theorem Ahe{s:Sto}{k:Nat}(hk:k<s.tabs.length)(h:idxI (fun t=>decide (t.c=s.just)) s.tabs=(k:Int)):s.balj=s.tabs[k].b:=by
 rcases Aay (fun t=>decide (t.c=s.just)) s.tabs with⟨h1,_⟩|⟨j,hj,h1,h2,h3⟩
 .omega
 .obtain rfl:j=k:=by omega
  have:s.tabs.find? (fun t=>decide (t.c=s.just))=some s.tabs[j]:=List.find?_eq_some_iff_getElem.2 ⟨h2,j,hj,rfl,fun i hi=>by simpa using h3 i hi⟩
  unfold Sto.balj;rw[this];rfl
def BalP(Γ:Gam)(w:World)(l:List U)(e:Ending)(w':World):Prop:=∃(A:Option Addr) (c:Nat),e=.returned (.slice A l.length c)/\CapOk A l.length c/\SlG Γ A l.length (us l)/\Ext Γ w Γ w'
theorem Ain(Γ:Gam)(s:Sto)(v:Sls)(w:World)(ok:Ok Γ w)(h:StG Γ v s)(hb:s.tabs.length<=65535) :
  Calls Tryz.prog 69 #[.agg (fl (stP s v)).toArray] w (BalP Γ w s.balj):=by
 have M:=bx (MM.start ok)
 have LN:=bx h.tabs.2.1
 have FT:Bx (∀w,Ok Γ w->Calls Tryz.prog 106 #[v.tabs.v,.agg (fl (cpP s.just)).toArray] w fun e w'=>e=.returned (.int .i64 (idxI (fun t=>decide (t.c=s.just)) s.tabs))/\Ext Γ w Γ w'):=⟨fun w ok=>Abq Γ v.tabs.A v.tabs.n v.tabs.c s.tabs s.just (by rw[<-h.tabs.2.1];exact hb) w ok h.tabs.2⟩
 have HT:=bx h.tabs.2
 have NO:=bx (fun e=>Ap8 (s:=s) e)
 have YS:=bx (fun k hk e=>Ahe (s:=s) (k:=k) hk e)
 clear ok
 rcases Aay (fun t=>decide (t.c=s.just)) s.tabs with⟨h1,_⟩|⟨k,hk,h1,_⟩
 .rw[h1]at FT
  have HB:=bx (NO.o h1)
  clear NO YS h1
  go_enter Tryz.func69,Tryz.ntmps69
  (go_wp2_with (first|(refine zBXo ?_;clear M;intro w' g M)|refine zLAo ?_))
  refine zCA M (FT.o _ M.ok) ?_;clear M;intro w1 M
  (go_wp2_with (fail))
  go_ret
  rw[HB.o]
  exact⟨none,0,rfl,⟨Nat.le_refl _,Nat.zero_le _,fun _=>rfl⟩,fun h=>absurd h (Nat.lt_irrefl _),M.o.ext⟩
 .have HB:=bx (YS.o k hk h1)
  rw[h1]at FT
  obtain⟨g,sv,hA,ht,hc⟩:=HT.o.at k (by rw[<-LN.o];exact hk)
  obtain⟨A2,c2,e2,hc2,hs2⟩:=ht.s
  simp only at e2
  subst e2
  have HA:Bx (v.tabs.v=.slice (some ⟨g,0,none⟩) v.tabs.n v.tabs.c):=⟨by rw[<-hA]⟩
  have F1:Bx (Fz Γ g (k*34) (tbP s.tabs[k].c (.slice A2 s.tabs[k].b.length c2)) [1,32,1]):=⟨hc,AaS _ _⟩
  have hki:(k:Int)<(v.tabs.n:Int):=by rw[<-LN.o];omega
  have hk0:0<=(k:Int):=by omega
  have H2:=bx hc2
  have H3:=bx hs2
  clear NO YS h1 ht hc hA hc2 hs2
  rw[HB.o]
  generalize s.tabs[k]=t at *
  go_enter Tryz.func69,Tryz.ntmps69
  (go_wp2_with (first|(refine zBXo ?_;clear M;intro w' g M)|refine zLAo ?_))
  refine zCA M (FT.o _ M.ok) ?_;clear M;intro w1 M
  (go_wp2_with (first|refine zLHo HA ?_|refine zRFo F1 ?_))
  go_ret
  exact⟨A2,c2,rfl,H2.o,H3.o,M.o.ext⟩
theorem AlS(Γ:Gam)(s:Sto)(v:Sls)(a:Att)(x:Sl)(w:World)(ok:Ok Γ w)(h:StG Γ v s)(ha:AtG Γ a x)(h1:0<s.lat.length)(hb:s.lat.length<=65535)(hb2:a.l.length<=65535)(hm:∀y∈a.l,0<=y/\y<(s.lat.length:Int)) :
  Calls Tryz.prog 159 #[.agg (fl (stP s v)).toArray,.agg (fl (atP a x)).toArray] w (StP Γ w {s with lat:=(castV s.lat a.t.e a.r a.l).1}):=by
 have M:=bx (MM.start ok)
 have HG:=bx h
 have CV:Bx (∀w,Ok Γ w->Calls Tryz.prog 190 #[v.lat.v,.int .u64 (a.t.e.n:Int),.agg (rc a.r).toArray,x.v] w (CastP Γ w (castV s.lat a.t.e a.r a.l))):=⟨fun w ok=>by
  have hs:=ha.sl
  rw[ha.n]at hs
  have:=AiS Γ v.lat s.lat a.t.e a.r x.A x.c a.l w ok h.lat h1 hb hs hb2 hm
  rwa [<-ha.n]at this⟩
 clear ok h ha h1 hb hb2 hm
 generalize castV s.lat a.t.e a.r a.l=r at *
 obtain⟨r1,r2⟩:=r
 go_enter Tryz.func159,Tryz.ntmps159
 (go_wp2_with (first|(refine zBXo ?_;clear M;intro w' g M)|refine zLAo ?_|(refine zALo (ztSt) ?_;clear M;intro w' g M)))
 refine(CV.o _ M.ok).mono ?_
 rintro e1 w1 ⟨x1,Γ1,rfl,hl1,hx1⟩
 replace M:=bx (M.o.call hx1)
 have HG':=bx (HG.o.mono hx1.le)
 have HL:=bx hl1
 clear hl1 hx1
 (go_wp2_with (first|refine zLAo ?_|((first|refine zS1o M 2 (x1.v) (stP {s with lat:=r1} {v with lat:=x1}) ?_|refine zSSo M 0 (stP {s with lat:=r1} {v with lat:=x1}) (stP {s with lat:=r1} {v with lat:=x1}) (AaD _ _) (Aaa _ _) ?_);clear M;intro w' M)))
 refine zR M.o.at0 ?_
 exact StP.mk _ {HG'.o with lat:=HL.o} M.o.ext
def statR(N:List Nod)(r:Rt)(st:Int):Bool:=decide (0<=fndI N r)&&decide ((N.getD (fndI N r).toNat n0).st=st)
theorem Ag1{N:List Nod}{r:Rt}{st:Int}(h:fndI N r = -1):statR N r st=false:=by unfold statR;rw[h];rfl
theorem AeG{N:List Nod}{r:Rt}{st:Int}{k:Nat}(h:fndI N r=(k:Int))(hk:k<N.length):statR N r st=decide (N[k].st=st):=by
 unfold statR;rw[h,decide_eq_true (show(0:Int)<=(k:Int)by omega),Int.toNat_natCast,nget hk];rfl
theorem Ab8(N:List Nod)(r:Rt):fndI N r = -1\/∃k:Nat,∃_:k<N.length,fndI N r=(k:Int):=by
 rcases Aay (fun n:Nod=>decide (n.b.root=r)) N with⟨h1,_⟩|⟨k,hk,h1,_⟩
 .exact .inl h1
 .exact .inr ⟨k,hk,h1⟩
theorem Aby(Γ:Gam)(z:Zst)(x:Zls)(r:Rt)(w:World)(ok:Ok Γ w)(h:ZsG Γ x z) :
  Calls Tryz.prog 160 #[.agg (fl (zsP z x)).toArray,.agg (rc r).toArray] w fun e w'=>e=.returned (.bool (statR z.s.nodes r 0))/\Ext Γ w Γ w':=by
 have M:=bx (MM.start ok)
 have FI:=bx (fun w ok=>Aag Γ x.s.nodes z.s.nodes r w ok h.s.nodes)
 have HG:=bx h
 have LN:=bx h.s.nodes.n
 clear ok h
 change Calls Tryz.prog _ #[_,.agg (fl [rc r]).toArray] _ _
 rcases Ab8 z.s.nodes r with n1|⟨k,hk,n1⟩
 .have HR:=bx (Ag1 (st:=0) n1)
  rw[n1]at FI
  clear n1
  go_enter Tryz.func160,Tryz.ntmps160
  (go_wp2_with (first|(refine zBXo ?_;clear M;intro w' g M)|refine zLAo ?_))
  refine zCA M (FI.o _ M.ok) ?_;clear M;intro w1 M
  (go_wp2_with (go_skip))
  go_ret
  exact⟨by rw[HR.o];rfl,M.o.ext⟩
 .have HR:=bx (AeG (st:=0) n1 hk)
  rw[n1]at FI
  obtain⟨gn,hA,hf⟩:=HG.o.s.nodeAt k hk
  have HA:=bx hA
  have F1:=bx hf
  have hki:(k:Int)<(x.s.nodes.n:Int):=by rw[LN.o];omega
  have hk0:0<=(k:Int):=by omega
  clear n1 hA hf
  generalize z.s.nodes[k]=y at *
  by_cases hs:y.st=0
  focus
   have b1:(y.st==0)=true:=by rw[hs];rfl
   replace HR:=bx (HR.o.trans (decide_eq_true hs))
  rotate_left
  focus
   have b1:(y.st==0)=false:=beq_eq_false_iff_ne.2 hs
   replace HR:=bx (HR.o.trans (decide_eq_false hs))
  all_goals
   clear hs
   go_enter Tryz.func160,Tryz.ntmps160
   (go_wp2_with (first|(refine zBXo ?_;clear M;intro w' g M)|refine zLAo ?_))
   refine zCA M (FI.o _ M.ok) ?_;clear M;intro w1 M
   (go_wp2_with (first|refine zLHo HA ?_|refine zRFo F1 ?_))
   go_ret
   exact⟨by rw[HR.o];rfl,M.o.ext⟩
def safeR(s:Sto):Rt:=if statR s.nodes s.just.r 1=true then s.just.r else r0
theorem ztRt:ZeroT Tryz.prog 29 [rc r0] [32]:=⟨fun w=>by kernel_rfl,lenR _⟩
theorem Anm(Γ:Gam)(s:Sto)(v:Sls)(w:World)(ok:Ok Γ w)(h:StG Γ v s) :
  Calls Tryz.prog 18 #[.agg (fl (stP s v)).toArray] w fun e w'=>e=.returned (.agg (rc (safeR s)).toArray)/\Ext Γ w Γ w':=by
 have M:=bx (MM.start ok)
 have FI:=bx (fun w ok=>Aag Γ v.nodes s.nodes s.just.r w ok h.nodes)
 have HG:=bx h
 have LN:=bx h.nodes.n
 have HD:Bx (safeR s=if statR s.nodes s.just.r 1=true then s.just.r else r0):=⟨rfl⟩
 clear ok h
 generalize safeR s=res at *
 rcases Ab8 s.nodes s.just.r with n1|⟨k,hk,n1⟩
 .have HR:=bx (HD.o.trans (if_neg (by rw[Ag1 n1];exact Bool.false_ne_true)))
  rw[n1]at FI
  clear n1 HD
  go_enter Tryz.func18,Tryz.ntmps18
  (go_wp2_with (first|((first|refine zBXo ?_|refine zALo (ztRt) ?_);clear M;intro w' g M)|refine zLAo ?_))
  refine zCA M (FI.o _ M.ok) ?_;clear M;intro w1 M
  (go_wp2_with (first|go_skip|(refine zSSo M 0 [rc r0] [rc r0] (lenR _) (Aac _) ?_;clear M;intro w' M)|refine zLAo ?_|refine zBDo 29 [] (rc r0) (by kernel_rfl) ?_))
  exact zR M.o.at0 ⟨by rw[HR.o];rfl,M.o.ext⟩
 .have HS:=bx (AeG (st:=1) n1 hk)
  rw[HS.o]at HD
  rw[n1]at FI
  obtain⟨gn,hA,hf⟩:=HG.o.nodeAt k hk
  have HA:=bx hA
  have F1:=bx hf
  have hki:(k:Int)<(v.nodes.n:Int):=by rw[LN.o];omega
  have hk0:0<=(k:Int):=by omega
  clear n1 hA hf HS
  generalize s.nodes[k]=y at *
  by_cases hs:y.st=1
  .have b1:(y.st==1)=true:=by rw[hs];rfl
   have HR:=bx (HD.o.trans (if_pos (decide_eq_true hs)))
   clear hs HD
   go_enter Tryz.func18,Tryz.ntmps18
   (go_wp2_with (first|((first|refine zBXo ?_|refine zALo (ztRt) ?_);clear M;intro w' g M)|refine zLAo ?_))
   refine zCA M (FI.o _ M.ok) ?_;clear M;intro w1 M
   (go_wp2_with (first|refine zLHo HA ?_|refine zRFo F1 ?_|(refine zSSo M 0 [rc s.just.r] [rc s.just.r] (lenR _) (Aac _) ?_;clear M;intro w' M)|refine zLAo ?_))
   exact zR M.o.at0 ⟨by rw[HR.o];rfl,M.o.ext⟩
  .have b1:(y.st==1)=false:=beq_eq_false_iff_ne.2 hs
   have HR:=bx (HD.o.trans (if_neg (by rw[decide_eq_false hs];exact Bool.false_ne_true)))
   clear hs HD
   go_enter Tryz.func18,Tryz.ntmps18
   (go_wp2_with (first|((first|refine zBXo ?_|refine zALo (ztRt) ?_);clear M;intro w' g M)|refine zLAo ?_))
   refine zCA M (FI.o _ M.ok) ?_;clear M;intro w1 M
   (go_wp2_with (first|refine zLHo HA ?_|refine zRFo F1 ?_|(refine zSSo M 0 [rc r0] [rc r0] (lenR _) (Aac _) ?_;clear M;intro w' M)|refine zLAo ?_|refine zBDo 29 [] (rc r0) (by kernel_rfl) ?_))
   exact zR M.o.at0 ⟨by rw[HR.o];rfl,M.o.ext⟩
end Go.Proofs.YtpaihpeoiliioaaGreat
