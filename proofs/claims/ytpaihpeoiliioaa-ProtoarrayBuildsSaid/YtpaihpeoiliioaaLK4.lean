/- Texts joined: what the walks of this claim stand on (part 4). -/
import Derived.Test.YtpaihpeoiliioaaLK3
set_option linter.all false
set_option maxRecDepth 20000
set_option maxHeartbeats 40000000
namespace Go.Proofs.Ytpaihpeoiliioaa
namespace Old
open Go.RowKit
theorem info_u64:(Try.prog.info? 29).map (fun i=>(i.zero,i.size,i.bytes))=some (some (.int .u64 0),1,8):=by kernel_rfl
theorem row_len{w:World}{B:Nat}{A:Option Addr}{n:Nat}{k:IntKind}{l:List Int}(h:Row w B 1 A n (ints k l)):l.length=n:=by have:=h.1;simpa [ints]using this
theorem getD_at{l:List Int}{i:Nat}(h:i<l.length):l.getD i 0=l[i]:=by simp[List.getD,List.getElem?_eq_getElem h]
theorem ints_at{k:IntKind}{l:List Int}{i:Nat}(h:i<l.length):(ints k l)[i]? = some (.int k (l.getD i 0)):=by
 unfold ints
 rw[List.getElem?_map,List.getElem?_eq_getElem h,getD_at h]
 rfl
theorem take_more{a b:List Int}{k:Nat}(ha:k<a.length)(hb:k<b.length)(h:a.take k=b.take k)(he:a.getD k 0=b.getD k 0):a.take (k+1)=b.take (k+1):=by
 rw[List.take_succ_eq_append_getElem ha,List.take_succ_eq_append_getElem hb,h,<-getD_at ha,<-getD_at hb,he]
theorem ints_push(k:IntKind)(l:List Int)(x:Int):ints k (l ++ [x])=ints k l ++ [.int k x]:=by simp[ints]
theorem ints_len(k:IntKind)(l:List Int):(ints k l).length=l.length:=by simp[ints]
def U64(l:List Int):Prop:=∀x∈l,0<=x/\x<18446744073709551616
def URow(w:World)(A:Option Addr)(n:Nat)(xs:List Int):Prop:=xs.length=n/\(0<n->∃g post,A=some ⟨g,0,none⟩/\Has w g (ints .u64 xs++post))
theorem URow.below{w w':World}{A:Option Addr}{n:Nat}{xs:List Int}(h:URow w A n xs)(hb:Below w.heap.size w w'):URow w' A n xs:=
 ⟨h.1,fun hn=>by obtain⟨g,post,e,hg⟩:=h.2 hn;exact⟨g,post,e,hg.below hb hg.lt⟩⟩
theorem URow.row{w:World}{A:Option Addr}{n:Nat}{xs:List Int}(h:URow w A n xs):Row w w.heap.size 1 A n (ints .u64 xs):=by
 refine⟨by rw[ints_len,h.1,Nat.mul_one],fun j u hu=>?_⟩
 have hj:j<xs.length:=by have:=(List.getElem?_eq_some_iff.1 hu).1;rwa [ints_len]at this
 obtain⟨g,post,e,hg⟩:=h.2 (by rw[<-h.1];omega)
 refine⟨_,e,hg.lt,?_⟩
 rw[AdA,Nat.zero_add,hg.cell,List.getElem?_append_left (by rw[ints_len];exact hj)]
 exact hu
theorem URow.own{w:World}{base:Nat}{e:TypeId}{A:Option Addr}{n c:Nat}{xs:List Int}(hl:xs.length=n)(h:w.ownsRow base e 1 (.slice A n c) n (ints .u64 xs)):URow w A n xs:=
 ⟨hl,fun hn=>by
  obtain⟨g,c',post,hv,_,hg⟩:=own_block h hn
  exact⟨g,post,by injection hv,hg⟩⟩
theorem URow.cell{w:World}{g:Nat}{xs:List Int}{post:List Value}(h:Has w g (ints .u64 xs++post)){k:Nat}(hk:k<xs.length):w.cell? ⟨g,k,none⟩=some (.int .u64 (xs.getD k 0)):=by
 rw[h.cell,List.getElem?_append_left (by rw[ints_len];exact hk)]
 exact ints_at hk
theorem U64.at{l:List Int}(h:U64 l){k:Nat}(hk:k<l.length):0<=l.getD k 0/\l.getD k 0<18446744073709551616:=by
 rw[getD_at hk];exact h _ (List.getElem_mem hk)
theorem _root_.Go.Proofs.Ytpaihpeoiliioaa.EqT.mono{P:Program}{m m':Nat}{t:TypeId}{K:List Value}(h:EqT P m t K)(hm:m<=m'):EqT P m' t K:=⟨h.1,fun d hd=>h.2 d (Nat.le_trans hm hd)⟩
def addV(a b:Int):Int:=if a+b<18446744073709551616 then a+b else 0
def addE(a b:Int):Int:=if a+b<18446744073709551616 then 0 else 4
def CloneP(t:TypeId)(k n:Nat)(cs:List Value)(w:World)(e:Ending)(w':World):Prop:=
 ∃(A:Option Addr) (c:Nat),e=.returned (.slice A n c)/\w'.ownsRow w.heap.size t k (.slice A n c) n cs/\Below w.heap.size w w'
theorem Ajq(h n c:Nat)(cs post:List Value)(w:World)(hh:Has w h (cs++post))(hl:cs.length=n*1)(h1:∀u∈cs,u.oneCell'=true)(hn:n<=4096)(hpos:0<n) :
  Calls Try.prog 42 #[.slice (some ⟨h,0,none⟩) n c] w (CloneP 29 1 n cs w):=by
 obtain⟨i0,hi0,hz0,hz1,hz2⟩:=info_parts info_u64
 have HI:=bx (show Try.prog.info? 29=some i0 from hi0)
 have HL:=bx hl
 have H1:=bx h1
 have he:∀(n c:Nat) (w:World),(binOp .eql 27 (.slice (some ⟨h,0,none⟩) n c) (.slice none 0 0)).run Try.prog w=.ok (.bool false) w:=fun _ _ _=>rfl
 have HO:=bx (Apd.drew (.inl (World.ownsRow_made (base:=w.heap.size) (e:=29) (size:=1) w #[] 0 (Nat.le_refl _) (Nat.zero_le _) rfl):Apd (w.alloc (.cells #[] 29)) w.heap.size 29 1 (.slice (some ⟨w.heap.size,0,none⟩) 0 0) 0 []))
 have HO':Bx (Apd (w.alloc (.cells #[] 29)) w.heap.size 29 1 (.slice (some ⟨w.heap.size,0,none⟩) 0 0) 0 []):=⟨HO.o⟩
 have HC:Bx (∀j u,cs[j]? = some u->(w.alloc (.cells #[] 29)).cell? ((⟨h,0,none⟩:Addr).add j)=some u):=⟨fun j u hu=>by
  rw[AdA,(hh.alloc _).cell,Nat.zero_add,List.getElem?_append_left (List.getElem?_eq_some_iff.1 hu).1];exact hu⟩
 have HM:Bx (0+n<=maxLen):=⟨by unfold maxLen;omega⟩
 have HM2:Bx ((0+n)*8<=140737488355328):=⟨by omega⟩
 have HB:Bx (w.heap.size<=(w.alloc (.cells #[] 29)).heap.size):=⟨by simp⟩
 have HB0:=bx ((Below.refl w.heap.size w).alloc (Nat.le_refl _) (.cells #[] 29))
 clear hh hi0 hl h1
 go_enter Try.func42,Try.ntmps42
 go_wp2_with (at_builtin;(with_reducible refine AeY rfl (.tmp 5) (.tmp 6) 27 rfl i0 _ 8 Try.underlying27 HI.o hz0 hz1 hz2 ?_ ?_ ?_ HO'.o ⟨h,0,none⟩ n c cs ?_ hpos HL.o HC.o H1.o HM.o HM2.o HB.o ?_);rfl;omega;rfl;rfl;intro v' w' hown' _ hbel' _;have HW:=bx hown';have HB1:=bx hbel';clear hown' hbel')
 go_ret
 have hw:=HW.o
 rw[Nat.zero_add,List.nil_append]at hw
 obtain⟨A2,c2,rfl⟩:=own_slice hw
 exact⟨A2,c2,rfl,hw,HB0.o.trans HB1.o⟩
theorem one_ints(k:IntKind)(l:List Int):∀u∈ints k l,u.oneCell'=true:=fun u hu=>by
 obtain⟨x,_,rfl⟩:=List.mem_map.1 hu
 rfl
def Bt(r:List Int):Prop:=∀x∈r,0<=x/\x<256
structure Wf(ns:List Nd):Prop where
 first:∀h:0<ns.length,ns[0].up = -1
 up:∀i (h:i<ns.length),0<i->∃(u:Nat) (hu:u<i),ns[i].up=u/\(ns[u]'(Nat.lt_trans hu h)).b.root=ns[i].b.parent/\(ns[u]'(Nat.lt_trans hu h)).b.slot<ns[i].b.slot
 diff:∀i j (hi:i<ns.length) (hj:j<ns.length),ns[i].b.root=ns[j].b.root->i=j
 st:∀x∈ns,0<=x.st/\x.st<=2
 nz:∀x∈ns,x.b.root≠zroot
 bt:∀x∈ns,Bt x.b.root
def TP(w:World)(e:Ending)(w':World):Prop:=
 (∃(A:Option Addr) (c:Nat) (ns:List Nd),0<ns.length/\ns.length<=9/\Wf ns/\e=.returned (.agg #[.slice A ns.length c])/\NRow w' A ns.length ns)/\Below w.heap.size w w'
def ups(ns:List Nd):List Int:=ns.map (·.up)
theorem Ak6{ns:List Nd}{i:Nat}(h:i<ns.length):(ups ns).getD i 0=ns[i].up:=by
 rw[getD_at (by simpa [Old.ups]using h)];simp[Old.ups]
theorem U64.set{l:List Int}(h:U64 l){v:Int}(hv:0<=v/\v<18446744073709551616)(i:Nat):U64 (l.set i v):=fun x hx=>by
 rcases List.mem_or_eq_of_mem_set hx with hx|hx
 .exact h x hx
 .subst hx;exact hv
end Old
section
def Lk(us:List Int):Prop:=∀i,i<us.length->(i=0/\us.getD i 0 = -1)\/∃u:Nat,u<i/\us.getD i 0=u
def hat(us:List Int)(k:Nat):Nat->Nat->Nat
 |0,j=>j
 |f+1,j=>if j<k then j else hat us k f (us.getD j 0).toNat
def pathF(us:List Int):Nat->Nat->List Nat
 |0,_=>[0]
 |f+1,j=>if j=0 then [0]else pathF us f (us.getD j 0).toNat ++ [j]
theorem Lk.up{us:List Int}(h:Lk us){i:Nat}(hi:i<us.length)(h0:0<i):∃u:Nat,u<i/\us.getD i 0=u:=by
 rcases h i hi with⟨h1,_⟩|h1
 .omega
 .exact h1
theorem Age{us:List Int}{k j:Nat}(hj:j<k):∀f,hat us k f j=j
 |0=>rfl
 |f+1=>by rw[hat,if_pos hj]
theorem Agd{us:List Int}(h:Lk us){i:Nat}(hi:0<i)(hil:i<us.length):∀(f j:Nat),j<us.length->j<=f ->
  hat us i f j=if hat us (i+1) f j=i then(us.getD i 0).toNat else hat us (i+1) f j
 |0,j,_,hf=>by
  obtain rfl:j=0:=by omega
  simp[hat];omega
 |f+1,j,hj,hf=>by
  unfold hat
  by_cases h1:j<i
  .rw[if_pos h1,if_pos (by omega:j<i+1),if_neg (by omega)]
  .rw[if_neg h1]
   by_cases h2:j=i
   .subst h2
    rw[if_pos (Nat.lt_succ_self _),if_pos rfl]
    obtain⟨u,hu,e⟩:=h.up hj hi
    rw[e,Int.toNat_natCast]
    exact Age hu f
   .rw[if_neg (by omega:¬j<i+1)]
    obtain⟨u,hu,e⟩:=h.up hj (by omega)
    rw[e,Int.toNat_natCast]
    exact Agd h hi hil f u (by omega) (by omega)
theorem AfN{us:List Int}(h:Lk us):∀(f g j:Nat),j<us.length->j<=f->j<=g->pathF us f j=pathF us g j
 |0,g,j,_,hf,_=>by
  obtain rfl:j=0:=by omega
  cases g<;>simp[pathF]
 |f+1,0,j,_,_,hg=>by
  obtain rfl:j=0:=by omega
  simp[pathF]
 |f+1,g+1,j,hj,hf,hg=>by
  unfold pathF
  by_cases h0:j=0
  .rw[if_pos h0,if_pos h0]
  .rw[if_neg h0,if_neg h0]
   obtain⟨u,hu,e⟩:=h.up hj (by omega)
   rw[e,Int.toNat_natCast,AfN h f g u (by omega) (by omega) (by omega)]
theorem Afu{us:List Int}(h:Lk us):∀(f j:Nat),j<us.length->j<=f->∀x∈pathF us f j,x<=j
 |0,j,_,_,x,hx=>by simp[pathF]at hx;omega
 |f+1,j,hj,hf,x,hx=>by
  unfold pathF at hx
  by_cases h0:j=0
  .rw[if_pos h0]at hx;simp at hx;omega
  .rw[if_neg h0]at hx
   obtain⟨u,hu,e⟩:=h.up hj (by omega)
   rw[e,Int.toNat_natCast]at hx
   rcases List.mem_append.1 hx with hx|hx
   .have:=Afu h f u (by omega) (by omega) x hx;omega
   .simp at hx;omega
theorem AgR{us:List Int}(h:Lk us)(i:Nat):∀(f j:Nat),j<us.length->j<=f->(i∈pathF us f j↔hat us (i+1) f j=i)
 |0,j,_,hf=>by
  obtain rfl:j=0:=by omega
  simp[pathF,hat];omega
 |f+1,j,hj,hf=>by
  unfold pathF hat
  by_cases h0:j=0
  .subst h0
   rw[if_pos rfl,if_pos (by omega:0<i+1)]
   simp;omega
  .rw[if_neg h0]
   obtain⟨u,hu,e⟩:=h.up hj (by omega)
   rw[e,Int.toNat_natCast]
   by_cases hji:j<i+1
   .rw[if_pos hji]
    constructor
    .intro hx
     rcases List.mem_append.1 hx with hx|hx
     .have:=Afu h f u (by omega) (by omega) i hx;omega
     .simp at hx;omega
    .intro hx;subst hx;simp
   .rw[if_neg hji,<-AgR h i f u (by omega) (by omega)]
    simp;omega
def anc(us:List Int)(i j:Nat):Bool:=decide (hat us (i+1) j j=i)
def own(us:List Int)(k:Nat)(d:Nat->Int)(i:Nat):Nat->Int
 |0=>0
 |n+1=>own us k d i n+if hat us k n n=i then d n else 0
def tot(us:List Int)(d:Nat->Int)(i n:Nat):Int:=own us (i+1) d i n
theorem Ahi{us:List Int}(d:Nat->Int)(i:Nat):∀(n k:Nat),n<=k->own us k d i n=if i<n then d i else 0
 |0,k,_=>by simp[own]
 |n+1,k,h=>by
  rw[own,Ahi d i n k (by omega),Age (by omega)]
  by_cases h1:i<n
  .rw[if_pos h1,if_neg (by omega),if_pos (by omega)];omega
  .rw[if_neg h1]
   by_cases h2:n=i
   .subst h2;rw[if_pos rfl,if_pos (by omega)];omega
   .rw[if_neg h2,if_neg (by omega)];rfl
theorem AgT{us:List Int}(h:Lk us){i u:Nat}(d:Nat->Int)(hi:0<i)(hil:i<us.length)(hu:u<i):∀n,n<=us.length ->
  own us i d u n=own us (i+1) d u n+if us.getD i 0=u then own us (i+1) d i n else 0
 |0,_=>by simp[own]
 |n+1,hn=>by
  have ih:=AgT h d hi hil hu n (by omega)
  have hs:=Agd h hi hil n n (by omega) (Nat.le_refl _)
  obtain⟨v,hv,e⟩:=h.up hil hi
  rw[e]at ih hs |-
  rw[Int.toNat_natCast]at hs
  rw[own,own,own,ih,hs]
  by_cases h1:hat us (i+1) n n=i
  .rw[if_pos h1,if_pos h1,if_neg (by omega:¬hat us (i+1) n n=u)]
   by_cases h2:v=u
   .rw[if_pos (by omega:(v:Int)=(u:Int)),if_pos h2,if_pos (by omega:(v:Int)=(u:Int))];omega
   .rw[if_neg (by omega:¬(v:Int)=(u:Int)),if_neg h2,if_neg (by omega:¬(v:Int)=(u:Int))]
  .rw[if_neg h1,if_neg h1]
   by_cases h2:v=u
   .rw[if_pos (by omega:(v:Int)=(u:Int)),if_pos (by omega:(v:Int)=(u:Int))];omega
   .rw[if_neg (by omega:¬(v:Int)=(u:Int)),if_neg (by omega:¬(v:Int)=(u:Int))];omega
end
namespace Old
open Go.RowKit
theorem AmN:(Try.prog.info? 3).map (fun i=>(i.zero,i.size,i.bytes))=some (some (.int .i64 0),1,8):=by kernel_rfl
theorem Ajz{ns:List Nd}:(Old.ups ns).length=ns.length:=by simp[Old.ups]
def nats(l:List Nat):List Int:=l.map (fun(n:Nat)=>(n:Int))
theorem AmG(l:List Nat):(nats l).length=l.length:=by simp[nats]
theorem AgV{l:List Nat}{i:Nat}:((i:Int)∈nats l)↔i∈l:=by
 unfold nats
 constructor
 .intro h
  obtain⟨a,ha,e⟩:=List.mem_map.1 h
  have:a=i:=by omega
  subst this;exact ha
 .intro h;exact List.mem_map.2 ⟨i,h,rfl⟩
def inB(i:Int)(n:Nat):Bool:=decide (0<=i/\i<n)
theorem Ang(A:Option Addr)(n c:Nat)(i:Int)(w:World) :
  Calls Try.prog 34 #[.agg #[.slice A n c],.int .i64 i] w fun e w'=>e=.returned (.bool (inB i n))/\Below w.heap.size w w':=by
 have B:=bx (ext_alloc w (.cells #[.slice A n c] 25))
 by_cases h0:0<=i
 .have h0':i≥0:=h0
  by_cases h1:i<n
  .have HD:Bx (inB i n=true):=⟨decide_eq_true ⟨h0,h1⟩⟩
   go_enter Try.func34,Try.ntmps34
   go_wp2_with fail
   go_ret
   exact⟨by rw[HD.o];rfl,B.o⟩
  .have HD:Bx (inB i n=false):=⟨decide_eq_false (fun h=>h1 h.2)⟩
   go_enter Try.func34,Try.ntmps34
   go_wp2_with fail
   go_ret
   exact⟨by rw[HD.o];rfl,B.o⟩
 .have h0':decide (i≥0)=false:=decide_eq_false h0
  have HD:Bx (inB i n=false):=⟨decide_eq_false (fun h=>h0 h.1)⟩
  go_enter Try.func34,Try.ntmps34
  go_wp2_with fail
  go_ret
  exact⟨by rw[HD.o];rfl,B.o⟩
theorem Ajg{l:List Int}{k:Nat}{x:Int}(hk:k<l.length)(h:x∉l.take k)(hne:l.getD k 0≠x):x∉l.take (k+1):=by
 rw[List.take_succ_eq_append_getElem hk]
 intro hm
 rcases List.mem_append.1 hm with hm|hm
 .exact h hm
 .rw[getD_at hk]at hne
  exact hne (show x=l[k]by simpa using hm).symm
theorem bsI(i:Int):Try.prog.builtSlice 3 1 [(0,.int .i64 i)]=some #[.int .i64 i]:=by kernel_rfl
theorem Amm{o:Oper}{a:Act}{w:World}{x:Operand}{i:Int}(ho:o.op=.buildSlice 22 1 #[(0,x)])(hx:a.eval x=.int .i64 i) :
  (execOp a.eval o).run Try.prog w=.ok (.value (.slice (some ⟨w.heap.size,0,none⟩) 1 1)) (w.alloc (.cells #[.int .i64 i] 3)):=by
 have e:(#[(0,x)].map fun(i,x)=>(i,a.eval x)) = #[(0,.int .i64 i)]:=by
  apply Array.ext'
  rw[Array.toList_map]
  show [(0,a.eval x)]=_
  rw[hx]
 have:=run_sliceTo (P:=Try.prog) w 22 3 1 #[(0,.int .i64 i)] _ Try.underlying22 (bsI i)
 unfold execOp
 simp only[ho,e,this,Sem.run_bind,Result.andThen_ok]
 rfl
theorem one_i64(i:Int):∀u ∈ [Value.int .i64 i],u.oneCell'=true:=fun u hu=>by simp at hu;subst hu;rfl
def NatsP(l:List Nat)(w:World)(e:Ending)(w':World):Prop:=
 ∃(A:Option Addr) (c:Nat),e=.returned (.slice A l.length c)/\w'.ownsRow w.heap.size 3 1 (.slice A l.length c) l.length (ints .i64 (nats l))/\Below w.heap.size w w'
theorem Amq{w:World}{base:Nat}{e:TypeId}{A:Option Addr}{n c:Nat}{k:IntKind}{l:List Int}(h:w.ownsRow base e 1 (.slice A n c) n (ints k l)):Row w w.heap.size 1 A n (ints k l):=Row.own h
def pathN(us:List Int)(j:Nat):List Nat:=pathF us j j
theorem AeT(us:List Int):pathN us 0 = [0]:=rfl
theorem AfO{us:List Int}(h:Lk us){j u:Nat}(hj:j<us.length)(h0:0<j)(hu:us.getD j 0=u)(huj:u<j):pathN us j=pathN us u ++ [j]:=by
 obtain⟨k,rfl⟩:∃k,j=k+1:=⟨j-1,by omega⟩
 unfold pathN
 rw[pathF,if_neg (by omega),hu,Int.toNat_natCast,AfN h k u u (by omega) (by omega) (Nat.le_refl _)]
theorem AfP{us:List Int}(h:Lk us):∀j,j<us.length->(pathN us j).length<=j+1
 |j,hj=>by
  rcases Nat.eq_zero_or_pos j with h0|h0
  .subst h0;simp[AeT]
  .obtain⟨u,hu,e⟩:=h.up hj h0
   rw[AfO h hj h0 e hu]
   have:=AfP h u (by omega)
   simp;omega
theorem AlU(l:List Nat)(j:Nat):nats (l ++ [j])=nats l ++ [(j:Int)]:=by simp[nats]
theorem Amr(w:World)(cs:List Value)(t:TypeId)(n:Nat)(hl:cs.length=n)(hm:n<=maxLen):(w.alloc (.cells cs.toArray t)).ownsRow w.heap.size t 1 (.slice (some ⟨w.heap.size,0,none⟩) n n) n cs:=
 ⟨by rw[hl,Nat.mul_one],.inr ⟨w.heap.size,n,cs.toArray,rfl,Nat.le_refl _,heap_alloc_new w _,Nat.le_refl _,hm,by simp[hl],by rw[Nat.mul_one,<-hl];simp⟩⟩
def isAnc(us:List Int)(a:Int)(b:Nat):Bool:=decide (a∈nats (pathN us b))
theorem Ai1{us:List Int}(h:Lk us){a b:Nat}(hb:b<us.length):isAnc us a b=anc us a b:=by
 unfold isAnc anc
 rw[Bool.eq_iff_iff,decide_eq_true_iff,decide_eq_true_iff,AgV]
 exact AgR h a b b hb (Nat.le_refl _)
def descN(us:List Int)(i k:Nat):List Nat:=(List.range k).filter fun j=>isAnc us i j
theorem AiC{us:List Int}{i k:Nat}(h:isAnc us i k=true):descN us i (k+1)=descN us i k ++ [k]:=by
 simp[descN,List.range_succ,List.filter_append,h]
theorem AjC{us:List Int}{i k:Nat}(h:isAnc us i k=false):descN us i (k+1)=descN us i k:=by
 simp[descN,List.range_succ,List.filter_append,h]
theorem Alq(us:List Int)(i k:Nat):(descN us i k).length<=k:=by
 have:=List.length_filter_le (fun j=>isAnc us i j) (List.range k)
 simpa [descN]using this
end Old
section
open Go.RowKit Old
def toBk(b:Blk):Bk:=⟨[.int .u64 (b.pj.e.n:Int)]++rc b.pj.r ++ [.int .u64 (b.pf.e.n:Int)]++rc b.pf.r,(b.slot.n:Int),b.root.l,b.parent.l,rc b.payload++wc b.diff++wc b.pdiff ++ [.int .u64 (b.just.e.n:Int)]++rc b.just.r ++ [.int .u64 (b.fin.e.n:Int)]++rc b.fin.r ++ [.bool b.timely]⟩
theorem Aex(b:Blk):bc (toBk b)=blx b:=by simp[bc,toBk,blx,blP,fl,rc]
theorem Aee(b:Blk):BkOk (toBk b):=by
 refine⟨by simp[toBk,AaU],b.root.len,b.parent.len,by simp[toBk,AaU,Aca],fun u hu=>?_,fun u hu=>?_⟩
 .refine Aia b u ?_
  show u∈blx b
  rw[<-Aex];unfold bc
  exact List.mem_append_left _ hu
 .refine Aia b u ?_
  show u∈blx b
  rw[<-Aex];unfold bc
  refine List.mem_append_right _ (List.mem_cons_of_mem _ ?_)
  exact List.mem_append_right _ (List.mem_append_right _ hu)
def toNd(n:Nod):Nd:=⟨toBk n.b,n.up,n.st⟩
theorem Ade(n:Nod):nc (toNd n)=nox n:=by
 unfold nc toNd
 rw[Aex]
 simp[blx,nox,blP,noP,fl]
theorem Ah3(N:List Nod):(N.map toNd).flatMap nc=N.flatMap nox:=by
 rw[List.flatMap_map]
 congr 1
 funext n;exact Ade n
theorem NG.nrow{Γ:Gam}{x:Sl}{N:List Nod}(h:NG Γ x N){w:World}(ok:Ok Γ w):NRow w x.A x.n (N.map toNd):=by
 refine⟨by rw[List.length_map,h.n],fun y hy=>?_,fun hn=>?_⟩
 .obtain⟨n,_,rfl⟩:=List.mem_map.1 hy
  exact Aee n.b
 .obtain⟨g,post,e,hg⟩:=h.sl hn
  obtain⟨p2,hh⟩:=ok _ _ hg
  exact⟨g,post++p2,e,by rw[Ah3,<-List.append_assoc];exact hh⟩
def upsN(N:List Nod):List Int:=N.map (·.up)
theorem AgA(N:List Nod):Old.ups (N.map toNd)=upsN N:=by
 unfold Old.ups upsN
 rw[List.map_map];rfl
theorem AbS(N:List Nod):(upsN N).length=N.length:=by simp[upsN]
theorem AcH{N:List Nod}{k:Nat}(h:k<N.length):(upsN N).getD k 0=N[k].up:=by simp[upsN,List.getD,List.getElem?_map,List.getElem?_eq_getElem h]
theorem Lk.ahead{N:List Nod}(h:Lk (upsN N)):Ahead N:=fun k hk=>by
 rcases h k (by rw[AbS];exact hk)with⟨h1,h2⟩|⟨u,h1,h2⟩
 .rw[AcH hk]at h2;omega
 .rw[AcH hk]at h2;omega
theorem AlV{Γ:Gam}{w w':World}{l:List Nat}{e:Ending}(ok:Ok Γ w)(h:NatsP l w e w'):NisP Γ w l e w':=by
 obtain⟨A,c,he,ho,hb⟩:=h
 have M:=(MM.start ok).rowNew hb ho
 obtain⟨Γ',h1,h2,h3,h4⟩:=M.frz
 exact⟨A,c,Γ',he,h1,h2,h4.ext⟩
def pathI(N:List Nod)(i:Int):List Nat:=if isI i N.length then pathN (upsN N) i.toNat else []
def ancI(N:List Nod)(a b:Int):Bool:=decide (a∈(pathI N b).map fun(k:Nat)=>(k:Int))
theorem Aek{N:List Nod}(h:Lk (upsN N)){i:Int}{k:Nat}(hk:k∈pathI N i):k<N.length/\(k:Int)<=i:=by
 unfold pathI at hk
 split at hk
 .rename_i hi
  have h1:=Abj hi
  have:=Afu h i.toNat i.toNat (by rw[AbS];omega) (Nat.le_refl _) k hk
  omega
 .cases hk
theorem AlL{N:List Nod}(h:Lk (upsN N))(i:Int):(pathI N i).length<=N.length:=by
 unfold pathI
 split
 .rename_i hi
  have h1:=Abj hi
  have:=AfP h i.toNat (by rw[AbS];omega)
  omega
 .simp
def atS(N:List Nod)(l:List Nat)(slot:U):Int:=l.foldl (fun a k=>if(N.getD k n0).b.slot.n<=slot.n then(k:Int)else a) (-1)
def atI(N:List Nod)(i:Int)(slot:U):Int:=atS N (pathI N i) slot
theorem AnI{N:List Nod}{l:List Nat}{slot:U}{j:Nat}(hj:j<l.length)(h:(N.getD l[j] n0).b.slot.n<=slot.n):atS N (l.take (j+1)) slot=(l[j]:Int):=by
 unfold atS
 rw[List.take_succ_eq_append_getElem hj,List.foldl_append]
 simp only[List.foldl_cons,List.foldl_nil]
 rw[if_pos h]
theorem Ans{N:List Nod}{l:List Nat}{slot:U}{j:Nat}(hj:j<l.length)(h:¬(N.getD l[j] n0).b.slot.n<=slot.n):atS N (l.take (j+1)) slot=atS N (l.take j) slot:=by
 unfold atS
 rw[List.take_succ_eq_append_getElem hj,List.foldl_append]
 simp only[List.foldl_cons,List.foldl_nil]
 rw[if_neg h]
def statOf(b:Blk):Int:=if b.payload=r0 then 1 else 0
def isTr(p b:Blk):Bool:=decide (b.payload≠r0)&&decide (p.payload=r0)
def cmpTo(a b:List Int):Nat->Int
 |0=>0
 |k+1=>if a.getD k 0<b.getD k 0 then -1 else if b.getD k 0<a.getD k 0 then 1 else cmpTo a b k
def cmpWd(a b:Wd):Int:=cmpTo a.l b.l 4
theorem Anx(a:Wd){k:Nat}(h:k<4):(wc a)[k]? = some (.int .u64 (a.l.getD k 0)):=by
 unfold wc ints
 rw[List.getElem?_map,List.getElem?_eq_getElem (by rw[a.len];exact h),getD_at (by rw[a.len];exact h)]
 rfl
def fits11(ttd:Wd)(p b:Blk):Bool:=if b.payload=r0 then decide (p.payload=r0)else if isTr p b=true then decide (cmpWd b.pdiff ttd<0)&&decide (0<=cmpWd b.diff ttd)else true
theorem elNo:ElT Try.prog 23 52 240 352:=Acq Try.underlying23 (by kernel_rfl) (by decide) (by decide)
theorem Ah4{α:Type}{f:α->List Value}{X:List α}(h:∀x∈X,One (f x)):One (X.flatMap f):=fun u hu=>by
 obtain⟨x,hx,hu⟩:=List.mem_flatMap.1 hu
 exact h x hx u hu
def isStat(st:Int):Bool:=decide (0<=st/\st<=2)
theorem Abb(st:Int)(w:World):Calls Try.prog 22 #[.int .i64 st] w fun e w'=>e=.returned (.bool (isStat st))/\Below w.heap.size w w':=by
 by_cases h:0<=st
 .by_cases h2:st<=2
  .have HR:Bx (isStat st=true):=⟨decide_eq_true ⟨h,h2⟩⟩
   go_enter Try.func22,Try.ntmps22
   go_wp2_with go_skip
   go_ret
   exact⟨by rw[HR.o];rfl,Below.refl _ _⟩
  .have HR:Bx (isStat st=false):=⟨decide_eq_false fun h=>h2 h.2⟩
   go_enter Try.func22,Try.ntmps22
   go_wp2_with go_skip
   go_ret
   exact⟨by rw[HR.o];rfl,Below.refl _ _⟩
 .have HR:Bx (isStat st=false):=⟨decide_eq_false fun h'=>h h'.1⟩
  go_enter Try.func22,Try.ntmps22
  go_wp2_with go_skip
  go_ret
  exact⟨by rw[HR.o];rfl,Below.refl _ _⟩
def insN(N:List Nod)(b:Blk)(st:Int):Int × List Nod:=
 if isStat st=false then(2,[])else if 0<=fndI N b.root then(9,[])else if fndI N b.parent<0 then(10,[])
 else if b.slot.n<=(N.getD (fndI N b.parent).toNat n0).b.slot.n then(14,[])else if 4096<=N.length then(11,[])else(0,N ++ [⟨b,fndI N b.parent,st⟩])
def TrE(Γ:Gam)(w:World)(r:Int × List Nod)(e:Ending)(w':World):Prop:=∃(x:Sl) (Γ':Gam),e=.returned (.tuple #[.agg [x.v].toArray,.int .i64 r.1])/\NG Γ' x r.2/\Ext Γ w Γ' w'
theorem TrE.err{Γ Γ':Gam}{w w':World}{r:Int × List Nod}{er:Int}(hr:r=(er,[]))(h:Ext Γ w Γ' w'):TrE Γ w r (.returned (.tuple #[.agg (fl [[.slice none 0 0]]).toArray,.int .i64 er])) w':=by
 subst hr
 exact⟨sl0,Γ',rfl,slR0 _,h⟩
theorem Agp(b:Blk)(u st:Int):Try.prog.built 52 [(0,.agg (blx b).toArray),(1,.int .i64 u),(2,.int .i64 st)]=some (nox ⟨b,u,st⟩).toArray:=by
 have:=AhI (Aee b) u st
 rw[Aex]at this
 rw[this]
 congr 2
 exact Ade ⟨b,u,st⟩
theorem Aji{Γ Γ':Gam}{w w':World}{r:Int × List Nod}{N:List Nod}{y:Nod}{n c:Nat}{A:Option Addr}(hr:r=(0,N ++ [y]))(hn:n=N.length)(h1:CapOk A (n+1) c)(h2:SlG Γ' A (n+1) (N.flatMap nox++fl (noP y)))(h:Ext Γ w Γ' w'):TrE Γ w r (.returned (.tuple #[.agg (fl [[.slice A (n+1) c]]).toArray,.int .i64 0])) w':=by
 subst hr
 exact⟨⟨A,n+1,c⟩,Γ',rfl,⟨by simp[hn],h1,by simpa using h2⟩,h⟩
theorem AcV{N:List Nod}{r:Rt}(h:0<=fndI N r):∃k:Nat,∃hk:k<N.length,fndI N r=(k:Int)/\N[k].b.root=r:=by
 rcases AaV (fun n:Nod=>decide (n.b.root=r)) N with⟨h1,_⟩|⟨k,hk,h1,h2,_⟩
 .unfold fndI at h;omega
 .exact⟨k,hk,h1,of_decide_eq_true h2⟩
theorem AkU(Γ:Gam)(x:Sl)(N:List Nod)(b:Blk)(st:Int)(w:World)(ok:Ok Γ w)(h:NG Γ x N)(hb:N.length<=65535) :
  Calls Try.prog 13 #[.agg [x.v].toArray,.agg (blx b).toArray,.int .i64 st] w (TrE Γ w (insN N b st)):=by
 have M:=bx (MM.start ok)
 have LN:=bx h.n
 have HG:=bx h
 have HB:=bx hb
 have hl:([[x.v]]:List (List Value)).map List.length = [1]:=rfl
 have FR:=bx (fun w ok=>AfZ Γ x N b.root w ok h)
 have FP:=bx (fun w ok=>AfZ Γ x N b.parent w ok h)
 have HI:Bx (insN N b st=insN N b st):=⟨rfl⟩
 have BN:=bx (Agp b)
 clear ok h hb
 change Calls Try.prog _ #[.agg (fl [[x.v]]).toArray,_,_] _ _
 cases hs:isStat st with
 |false=>
  have HR:Bx (insN N b st=(2,[])):=⟨if_pos hs⟩
  (go_enter Try.func13,Try.ntmps13);(go_wp2_with (first|((first|refine zBYo (hl) ?_|refine zBYo (AaY b) ?_|refine zALo (Ac5) ?_);clear M;intro w' g M)));refine zCB M (Abb st _) ?_;clear M;intro w1 M
  rw[hs]
  go_wp2_with (first|refine zBDo 25 [] [.slice none 0 0] (by kernel_rfl) ?_|(refine zSSo M 0 [[.slice none 0 0]] [[.slice none 0 0]] (by rfl) (AbZ _ _ _) ?_;clear M;intro w' M))
  (try refine zsm ?_);refine bodyPost_ret (Aar (by rfl) _ M.o.at0 (by rfl) Ab6 rfl) rfl ?_;exact TrE.err HR.o M.o.ext
 |true=>
  by_cases h9:0<=fndI N b.root
  .have HR:Bx (insN N b st=(9,[])):=⟨by unfold insN;rw[if_neg (by rw[hs];simp),if_pos h9]⟩
   (go_enter Try.func13,Try.ntmps13);(go_wp2_with (first|((first|refine zBYo (hl) ?_|refine zBYo (AaY b) ?_|refine zALo (Ac5) ?_);clear M;intro w' g M)));refine zCB M (Abb st _) ?_;clear M;intro w1 M
   rw[hs]
   go_wp2_with (first|refine zLDo (M.o.at1) ?_|refine zLDo (M.o.at2) ?_)
   refine zCA M (FR.o _ M.ok) ?_;clear M;intro w1 M
   go_wp2_with (first|refine zBDo 25 [] [.slice none 0 0] (by kernel_rfl) ?_|(refine zSSo M 0 [[.slice none 0 0]] [[.slice none 0 0]] (by rfl) (AbZ _ _ _) ?_;clear M;intro w' M))
   (try refine zsm ?_);refine bodyPost_ret (Aar (by rfl) _ M.o.at0 (by rfl) Ab6 rfl) rfl ?_;exact TrE.err HR.o M.o.ext
  .by_cases h10:fndI N b.parent<0
   .have HR:Bx (insN N b st=(10,[])):=⟨by unfold insN;rw[if_neg (by rw[hs];simp),if_neg h9,if_pos h10]⟩
    (go_enter Try.func13,Try.ntmps13);(go_wp2_with (first|((first|refine zBYo (hl) ?_|refine zBYo (AaY b) ?_|refine zALo (Ac5) ?_);clear M;intro w' g M)));refine zCB M (Abb st _) ?_;clear M;intro w1 M
    rw[hs]
    go_wp2_with (first|refine zLDo (M.o.at1) ?_|refine zLDo (M.o.at2) ?_)
    refine zCA M (FR.o _ M.ok) ?_;clear M;intro w1 M
    go_wp2_with (first|refine zLDo (M.o.at1) ?_|refine zLDo (M.o.at2) ?_)
    refine zCA M (FP.o _ M.ok) ?_;clear M;intro w1 M
    go_wp2_with (first|refine zBDo 25 [] [.slice none 0 0] (by kernel_rfl) ?_|(refine zSSo M 0 [[.slice none 0 0]] [[.slice none 0 0]] (by rfl) (AbZ _ _ _) ?_;clear M;intro w' M))
    (try refine zsm ?_);refine bodyPost_ret (Aar (by rfl) _ M.o.at0 (by rfl) Ab6 rfl) rfl ?_;exact TrE.err HR.o M.o.ext
   .obtain⟨k,hk,hku,hkr⟩:=AcV (show 0<=fndI N b.parent by omega)
    obtain⟨gn,hA,hc⟩:=HG.o.at (fun x _=>AbF x) k hk
    have HA:=bx (Ae9 hA)
    have HC:=bx hc
    have I0:Bx (insN N b st=if b.slot.n<=N[k].b.slot.n then(14,[])else if 4096<=N.length then(11,[])else(0,N ++ [⟨b,(k:Int),st⟩])):=⟨by
     unfold insN
     rw[if_neg (by rw[hs];simp),if_neg h9,if_neg h10,hku,Int.toNat_natCast,nget hk]⟩
    have hki:(k:Int)<(x.n:Int):=by rw[LN.o];omega
    have hk0:0<=(k:Int):=by omega
    have h9':decide (0<=fndI N b.root)=false:=decide_eq_false h9
    have hkd:decide ((k:Int)<0)=false:=by simp
    rw[hku]at FP
    have ROW:Bx (∀Γ' w',Le Γ Γ'->Ok Γ' w'->Row w' w'.heap.size 240 (some ⟨gn,0,none⟩) x.n (N.flatMap nox)):=⟨fun Γ' w' hl o=>hA▸(HG.o.sl.mono hl).row (size:=240) (by rw[Aa2 N (fun x _=>AbF x),LN.o]) o⟩
    have OneN:Bx (One (N.flatMap nox)):=⟨Ah4 fun x _=>AfR x⟩
    clear hc hA hku hkr h10 HI
    generalize insN N b st=r at *
    generalize fndI N b.root=fr at *
    generalize hz:N[k]=z at *
    clear hz
    by_cases h14:b.slot.n<=z.b.slot.n
    .have HR:=bx (I0.o.trans (if_pos h14))
     have hsi:(b.slot.n:Int)<=(z.b.slot.n:Int):=by omega
     clear I0
     (go_enter Try.func13,Try.ntmps13);(go_wp2_with (first|((first|refine zBYo (hl) ?_|refine zBYo (AaY b) ?_|refine zALo (Ac5) ?_);clear M;intro w' g M)));refine zCB M (Abb st _) ?_;clear M;intro w1 M
     rw[hs]
     go_wp2_with (first|refine zLDo (M.o.at1) ?_|refine zLDo (M.o.at2) ?_)
     refine zCA M (FR.o _ M.ok) ?_;clear M;intro w1 M
     go_wp2_with (first|refine zLDo (M.o.at1) ?_|refine zLDo (M.o.at2) ?_)
     refine zCA M (FP.o _ M.ok) ?_;clear M;intro w1 M
     go_wp2_with (fail)
     have Q1:=bx M.o.at1.cls;have Q2:=bx M.o.at2.cls;have QC:=bx (CL.cls HC.o (AaG _) M.ok);(refine zRG ?_);(repeat((go_big_quiet_want;first|(first|((first|refine zQE Q2.o (HA.o) ?_|refine zQL Q1.o (AaY _) ?_|refine zQR QC.o (AaG _) ?_);go_big_quiet_on;refine zNM ?_))|(refine zQO ?_;go_big_quiet_on))));(refine zQN ?_;clear M;intro w4 M);clear Q1 Q2 QC
     go_wp2_with (first|refine zBDo 25 [] [.slice none 0 0] (by kernel_rfl) ?_|(refine zSSo M 0 [[.slice none 0 0]] [[.slice none 0 0]] (by rfl) (AbZ _ _ _) ?_;clear M;intro w' M))
     (try refine zsm ?_);refine bodyPost_ret (Aar (by rfl) _ M.o.at0 (by rfl) Ab6 rfl) rfl ?_;exact TrE.err HR.o M.o.ext
    .have I1:=bx (I0.o.trans (if_neg h14))
     have hsi:(z.b.slot.n:Int)<(b.slot.n:Int):=by omega
     clear I0 h14
     by_cases h11:4096<=N.length
     .have HR:=bx (I1.o.trans (if_pos h11))
      have hni:(4096:Int)<=(x.n:Int):=by rw[LN.o];omega
      clear I1
      (go_enter Try.func13,Try.ntmps13);(go_wp2_with (first|((first|refine zBYo (hl) ?_|refine zBYo (AaY b) ?_|refine zALo (Ac5) ?_);clear M;intro w' g M)));refine zCB M (Abb st _) ?_;clear M;intro w1 M
      rw[hs]
      go_wp2_with (first|refine zLDo (M.o.at1) ?_|refine zLDo (M.o.at2) ?_)
      refine zCA M (FR.o _ M.ok) ?_;clear M;intro w1 M
      go_wp2_with (first|refine zLDo (M.o.at1) ?_|refine zLDo (M.o.at2) ?_)
      refine zCA M (FP.o _ M.ok) ?_;clear M;intro w1 M
      go_wp2_with (fail)
      have Q1:=bx M.o.at1.cls;have Q2:=bx M.o.at2.cls;have QC:=bx (CL.cls HC.o (AaG _) M.ok);(refine zRG ?_);(repeat((go_big_quiet_want;first|(first|((first|refine zQE Q2.o (HA.o) ?_|refine zQL Q1.o (AaY _) ?_|refine zQR QC.o (AaG _) ?_);go_big_quiet_on;refine zNM ?_))|(refine zQO ?_;go_big_quiet_on))));(refine zQN ?_;clear M;intro w4 M);clear Q1 Q2 QC
      go_wp2_with (first|refine zLE M.o.at2 (HA.o) ?_|refine zBDo 25 [] [.slice none 0 0] (by kernel_rfl) ?_|(refine zSSo M 0 [[.slice none 0 0]] [[.slice none 0 0]] (by rfl) (AbZ _ _ _) ?_;clear M;intro w' M))
      (try refine zsm ?_);refine bodyPost_ret (Aar (by rfl) _ M.o.at0 (by rfl) Ab6 rfl) rfl ?_;exact TrE.err HR.o M.o.ext
     .have HR:=bx (I1.o.trans (if_neg h11))
      have hni:(x.n:Int)<4096:=by rw[LN.o];omega
      clear I1
      (go_enter Try.func13,Try.ntmps13);(go_wp2_with (first|((first|refine zBYo (hl) ?_|refine zBYo (AaY b) ?_|refine zALo (Ac5) ?_);clear M;intro w' g M)));refine zCB M (Abb st _) ?_;clear M;intro w1 M
      rw[hs]
      go_wp2_with (first|refine zLDo (M.o.at1) ?_|refine zLDo (M.o.at2) ?_)
      refine zCA M (FR.o _ M.ok) ?_;clear M;intro w1 M
      go_wp2_with (first|refine zLDo (M.o.at1) ?_|refine zLDo (M.o.at2) ?_)
      refine zCA M (FP.o _ M.ok) ?_;clear M;intro w1 M
      go_wp2_with (fail)
      have Q1:=bx M.o.at1.cls;have Q2:=bx M.o.at2.cls;have QC:=bx (CL.cls HC.o (AaG _) M.ok);(refine zRG ?_);(repeat((go_big_quiet_want;first|(first|((first|refine zQE Q2.o (HA.o) ?_|refine zQL Q1.o (AaY _) ?_|refine zQR QC.o (AaG _) ?_);go_big_quiet_on;refine zNM ?_))|(refine zQO ?_;go_big_quiet_on))));(refine zQN ?_;clear M;intro w4 M);clear Q1 Q2 QC
      go_wp2_with (refine zLE M.o.at2 (HA.o) ?_)
      refine AaK [8,10] (.steps [(1,0),(0,1),(0,3),(1,4),(1,5),(1,6)] (.fork 2 (.steps [(2,7),(3,8),(1,9),(3,10),(1,11)] .leaf) 7 (.steps [(2,2),(3,8),(1,9),(3,10),(1,11)] .leaf))) (by kernel_rfl) (by kernel_rfl) ?_
      simp only[MixT6,MT.steps,stepAt,List.getD_cons_zero,List.getD_cons_succ]
      replace M:=bx (M.o.drew)
      have Q1:=bx M.o.at1.cls
      have Q2:=bx M.o.at2.cls
      (repeat(first|(with_reducible refine wpQuiet_nil ?_)|((go_big_quiet_want;first|(first|((first|refine zQE Q2.o (HA.o) ?_|refine zQL Q1.o (AaY _) ?_|((with_reducible refine AaJ 52 _ rfl [(0,.agg (blx b).toArray),(1,.int .i64 (k:Int)),(2,.int .i64 st)] (nox ⟨b,(k:Int),st⟩) ?_ (BN.o _ _) ?_);rfl));go_big_quiet_on;refine zNM ?_))|(refine zQO ?_;go_big_quiet_on)))))
      clear Q1 Q2
      refine⟨?_,?_⟩
      focus
       obtain⟨A1,c1,w1,hr,hM,hb⟩:=AfB elNo M.o 23 (some ⟨gn,0,none⟩) x.n x.c _ (ROW.o _ _ M.o.ext.le M.ok) (fun h=>by cases h) OneN.o (by unfold maxLen;omega) (by omega);refine AaF (AbI rfl rfl rfl hr) rfl ?_;refine⟨hb,?_⟩;clear M;have M:=bx hM;clear hM hr hb;refine zNM ?_
       refine AaF (Ace elNo rfl rfl (v:=.agg (nox ⟨b,(k:Int),st⟩).toArray) (cs:=nox ⟨b,(k:Int),st⟩) rfl (AbF _)) rfl ?_;refine⟨ext_alloc _ _,?_⟩;replace M:=bx (M.o.alloc (AaG ⟨b,(k:Int),st⟩) rfl 52);refine zNM ?_
      rotate_left
      focus
       refine AaF (Ace elNo rfl rfl (v:=.agg (nox ⟨b,(k:Int),st⟩).toArray) (cs:=nox ⟨b,(k:Int),st⟩) rfl (AbF _)) rfl ?_;refine⟨ext_alloc _ _,?_⟩;replace M:=bx (M.o.alloc (AaG ⟨b,(k:Int),st⟩) rfl 52);refine zNM ?_
       obtain⟨A1,c1,w1,hr,hM,hb⟩:=AfB elNo M.o 23 (some ⟨gn,0,none⟩) x.n x.c _ (ROW.o _ _ M.o.ext.le M.ok) (fun h=>by cases h) OneN.o (by unfold maxLen;omega) (by omega);refine AaF (AbI rfl rfl rfl hr) rfl ?_;refine⟨hb,?_⟩;clear M;have M:=bx hM;clear hM hr hb;refine zNM ?_
      all_goals
       obtain⟨v5,w5,hr,hM⟩:=Ab5 elNo M.o 23 _ 1 1 _ (Acf M.o.at0 (m:=1) (size:=240) rfl) (fun h=>by cases h) (AfR _) (by unfold maxLen;omega) (by omega);obtain⟨A6,c6,e6⟩:=own_slice (hM.rows _ (List.mem_cons_self ..));simp only at e6;subst e6;refine AaF (AbI rfl rfl rfl hr) rfl ?_;replace M:=bx (hM.tail);clear hr hM;refine zNM ?_
       (repeat(first|(with_reducible refine wpQuiet_nil ?_)|((go_big_quiet_want;((with_reducible refine AaJ 25 _ rfl [(0,.slice A6 (x.n+1) c6)] [.slice A6 (x.n+1) c6] ?_ (Ac4 _ _ _) ?_);rfl;go_big_quiet_on;refine zNM ?_)))));refine Aax M.o 0 [[.slice A6 (x.n+1) c6]] [[.slice A6 (x.n+1) c6]] rfl rfl rfl rfl Ab6 rfl rfl (AbZ _ _ _) rfl rfl ?_;intro w7 M';(simp only[List.set_cons_zero]at M');(replace M:=bx M';clear M');refine zNM ?_;(repeat(first|(with_reducible refine wpQuiet_nil ?_)|((go_big_quiet_want;(refine zQO ?_;go_big_quiet_on)))));refine NoPanic.normal ?_;(go_wp2_with fail);obtain⟨Γ',h1,h2,h3,h4⟩:=M.o.frz;(try refine zsm ?_);refine bodyPost_ret (Aar (by rfl) _ h4.at0 (by rfl) Ab6 rfl) rfl ?_;exact Aji HR.o LN.o h1 h2 h4.ext
def NodP(Γ:Gam)(w:World)(N:List Nod)(e:Ending)(w':World):Prop:=∃(x:Sl) (Γ':Gam),e=.returned (.agg [x.v].toArray)/\NG Γ' x N/\Ext Γ w Γ' w'
theorem AgZ(Γ:Gam)(b:Blk)(st:Int)(w:World)(ok:Ok Γ w):Calls Try.prog 10 #[.agg (blx b).toArray,.int .i64 st] w (NodP Γ w [⟨b,-1,st⟩]):=by
 have M:=bx (MM.start ok)
 have BN:=bx (Agp b)
 clear ok
 go_enter Try.func10,Try.ntmps10
 go_wp2_with (first|((first|refine zBYo (AaY b) ?_|refine zALo (Ac5) ?_);clear M;intro w' g M)|refine zLDo (M.o.at1) ?_|refine zBDo 52 [(0,.agg (blx b).toArray),(1,.int .i64 (-1)),(2,.int .i64 st)] (nox ⟨b,-1,st⟩) (BN.o _ _) ?_|((with_reducible apply Ae1 M.o elNo);rfl;rfl;rfl;rfl;exact AaG ⟨b,-1,st⟩;rfl;intro w' g M' hb';(replace M:=bx M';clear M');clear hb')|refine zBDo 25 [(0,.slice (some ⟨g,0,none⟩) 1 1)] [.slice (some ⟨g,0,none⟩) 1 1] (Ac4 _ _ _) ?_|(refine zSSo M 1 [[.slice (some ⟨g,0,none⟩) 1 1]] [[.slice (some ⟨g,0,none⟩) 1 1]] (by rfl) (AbZ _ _ _) ?_;clear M;intro w' M))
 obtain⟨Γ',h1,h2,h3⟩:=M.o.frzL
 refine zRb h3.at0 ?_
 exact⟨⟨some ⟨g,0,none⟩,1,1⟩,Γ',rfl,⟨rfl,⟨Nat.le_refl _,by show 1<=maxLen;unfold maxLen;omega,fun h=>by cases h⟩,fun _=>⟨g,[],rfl,by rw[h1];simp⟩⟩,h3.ext⟩
def descI(N:List Nod)(i:Nat):List Nat:=descN (upsN N) i N.length
theorem AjD{N:List Nod}{i k:Nat}(h:k∈descI N i):k<N.length:=by
 unfold descI descN at h
 exact List.mem_range.1 (List.mem_filter.1 h).1
theorem Alr(N:List Nod)(i:Nat):(descI N i).length<=N.length:=by
 unfold descI descN
 exact Nat.le_trans (List.length_filter_le _ _) (by simp)
def setF(st fb:Int):List Nod->List Nat->Option (List Nod)
 |N,[]=>some N
 |N,k::l=>if(N.getD k n0).st=fb then none else setF st fb (N.set k {N.getD k n0 with st:=st}) l
theorem AfA(st fb:Int):∀(N:List Nod) (l:List Nat) (k:Nat),setF st fb N (l ++ [k])=(setF st fb N l).bind fun M=>if(M.getD k n0).st=fb then none else some (M.set k {M.getD k n0 with st:=st})
 |N,[],k=>rfl
 |N,j::l,k=>by
  simp only[List.cons_append,setF]
  split
  .rfl
  .exact AfA st fb _ l k
theorem AgI{st fb:Int}:∀{N M:List Nod} {l:List Nat},setF st fb N l=some M->M.length=N.length
 |N,M,[],h=>by simp only[setF,Option.some.injEq]at h;rw[h]
 |N,M,k::l,h=>by
  simp only[setF]at h
  split at h
  .cases h
  .rw[AgI h,List.length_set]
theorem Aha{st fb:Int}:∀{N:List Nod} {l l':List Nat},setF st fb N l=none->setF st fb N (l++l')=none
 |N,[],l',h=>by cases h
 |N,k::l,l',h=>by
  simp only[List.cons_append,setF]at h |-
  split
  .rfl
  .rw[if_neg (by assumption)]at h;exact Aha h
theorem AlD{st fb:Int}{N M:List Nod}{l:List Nat}{j:Nat}(hj:j<l.length)(h:setF st fb N (l.take j)=some M) :
  setF st fb N (l.take (j+1))=if(M.getD l[j] n0).st=fb then none else some (M.set l[j] {M.getD l[j] n0 with st:=st}):=by
 rw[List.take_succ_eq_append_getElem hj,AfA,h];rfl
theorem AkL(y:Nod)(st:Int):(nox y).set 239 (.int .i64 st)=nox {y with st:=st}:=by
 have h1:nox y=nc (toNd y):=(Ade y).symm
 have h2:nox {y with st:=st}=nc (toNd {y with st:=st}):=(Ade _).symm
 rw[h1,h2]
 unfold nc
 have hl:(bc (toNd y).b).length=238:=(Aee y.b).len
 rw[List.set_append_right _ _ (by omega),hl]
 rfl
theorem AkZ{N:List Nod}{k:Nat}(hk:k<N.length)(st:Int):(N.flatMap nox).set (k*240+239) (.int .i64 st)=(N.set k {N[k]with st:=st}).flatMap nox:=by
 have e:=Aa4 (f:=nox) N k hk
 have hp:((N.take k).flatMap nox).length=k*240:=Abk N k hk (fun x _=>AbF x)
 rw[Aer N k _ hk,e,List.append_assoc,List.set_append_right _ _ (by omega),hp,Nat.add_sub_cancel_left,List.set_append_left _ _ (by rw[AbF];omega),AkL,List.append_assoc]
def SetP(Γ:Gam)(w:World)(r:Option (List Nod))(e:Ending)(w':World):Prop:=∃(x:Sl) (Γ':Gam),e=.returned (.tuple #[.agg [x.v].toArray,.bool r.isSome])/\NG Γ' x (r.getD [])/\Ext Γ w Γ' w'
theorem Anz{N:List Nod}{k:Nat}(hk:k<N.length)(rest:List Value):(fl [N.flatMap nox,rest])[k*240+239]? = some (.int .i64 N[k].st):=by
 have hl:=Aa2 (f:=nox) N (fun x _=>AbF x)
 have hb:(k+1)*240<=N.length*240:=Nat.mul_le_mul_right _ hk
 show(N.flatMap nox++rest)[k*240+239]? = _
 rw[List.getElem?_append_left (by omega),Aes (f:=nox) N (fun x _=>AbF x) k 239 hk (by omega),<-Ade]
 exact AkO (Aee _)
theorem AnT{N:List Nod}{k:Nat}(hk:k<N.length)(rest:List Value)(st:Int):fl [(N.set k {N[k]with st:=st}).flatMap nox,rest]=(fl [N.flatMap nox,rest]).set (k*240+239) (.int .i64 st):=by
 have hl:=Aa2 (f:=nox) N (fun x _=>AbF x)
 have hb:(k+1)*240<=N.length*240:=Nat.mul_le_mul_right _ hk
 show _++rest=(N.flatMap nox++rest).set _ _
 rw[List.set_append_left _ _ (by omega),AkZ hk]
def stR(r:Option (List Nod)):Int × List Nod:=match r with|none=>(21,[])|some M=>(0,M)
def raiseN(N:List Nod)(i:Int):Int × List Nod:=if isI i N.length=true then stR (setF 1 2 N (pathI N i))else(10,[])
def condN(N:List Nod)(i:Int):Int × List Nod:=if isI i N.length=true then stR (setF 2 1 N (descI N i.toNat))else(10,[])
def reach1(N:List Nod)(l:List Nat):Option (Int × Int):=(l.find? fun k=>decide ((N.getD k n0).b.payload≠r0)).map fun k=>((N.getD k n0).up,(k:Int))
def reach2(N:List Nod)(l:List Nat)(p:Rt):Nat->Option (Int × Int)
 |0=>none
 |m+1=>if(N.getD (l.getD m 0) n0).b.payload=p then some ((l.getD m 0:Int),(l.getD (m+1) 0:Int))else reach2 N l p m
def reachN(N:List Nod)(i:Int)(p:Rt):Int × Int:=
 if pathI N i = []then(-1,-1)else if p=r0 then(reach1 N (pathI N i)).getD (-1,i)else(reach2 N (pathI N i) p ((pathI N i).length-1)).getD (-1,i)
theorem AmO{l:List Nat}{k:Nat}(h:k<l.length):l.getD k 0=l[k]:=by simp[List.getD,List.getElem?_eq_getElem h]
theorem AkC{N:List Nod}{l:List Nat}(h:∀j (hj:j<l.length),(N.getD l[j] n0).b.payload=r0):reach1 N l=none:=by
 unfold reach1
 rw[List.find?_eq_none.2 fun k hk=>by
  obtain⟨j,hj,rfl⟩:=List.getElem_of_mem hk
  simpa using h j hj]
 rfl
theorem AkB{N:List Nod}{l:List Nat}{k:Nat}(hk:k<l.length)(h:∀j (hj:j<k),(N.getD (l[j]'(by omega)) n0).b.payload=r0)(hp:(N.getD l[k] n0).b.payload≠r0):reach1 N l=some ((N.getD l[k] n0).up,(l[k]:Int)):=by
 unfold reach1
 have:l.find? (fun k=>decide ((N.getD k n0).b.payload≠r0))=some l[k]:=List.find?_eq_some_iff_getElem.2 ⟨by simpa using hp,k,hk,rfl,fun j hj=>by simpa using h j hj⟩
 rw[this];rfl
def VTo(l:List Int)(n:Int)(k:Nat):Prop:=∀j (hj:j<l.length),j<k->(0<=l[j]/\l[j]<n)/\∀(_:0<j),l[j-1]<l[j]
def VList(l:List Int)(n:Int):Prop:=l ≠ []/\VTo l n l.length
theorem VTo.zero(l:List Int)(n:Int):VTo l n 0:=fun _ _ h=>absurd h (Nat.not_lt_zero _)
theorem VTo.succ{l:List Int}{n:Int}{k:Nat}(h:VTo l n k)(hk:k<l.length)(h1:0<=l[k])(h2:l[k]<n)(h3:∀_:0<k,l[k-1]<l[k]):VTo l n (k+1):=fun j hj hjk=>by
 rcases Nat.lt_or_eq_of_le (Nat.le_of_lt_succ hjk)with h4|rfl
 .exact h j hj h4
 .exact⟨⟨h1,h2⟩,h3⟩
theorem Anh{Γ:Gam}{A:Option Addr}{l:List Int}(h:SlG Γ A l.length (ints .i64 l))(i:Nat)(hi:i<l.length):∃g,A=some ⟨g,0,none⟩/\Fz Γ g i [[.int .i64 l[i]]] [1]:=by
 have h':SlG Γ A l.length (l.flatMap fun x=>[Value.int .i64 x]):=by rw[<-List.map_eq_flatMap];exact h
 obtain⟨g,h1,h2⟩:=h'.at (k:=1) (fun x _=>rfl) rfl i hi
 exact⟨g,h1,by rw[Nat.mul_one]at h2;exact h2,rfl⟩
end
section
open Go.RowKit
def U64(l:List Int):Prop:=∀x∈l,0<=x/\x<18446744073709551616
def k_addV(a b:Int):Int:=if a+b<18446744073709551616 then a+b else 0
def k_addE(a b:Int):Int:=if a+b<18446744073709551616 then 0 else 4
theorem Ahy(a b:Int)(ha:0<=a)(ha':a<18446744073709551616)(hb:0<=b)(hb':b<18446744073709551616)(w:World) :
  Calls Try.prog 47 #[.int .u64 a,.int .u64 b] w fun e w'=>e=.returned (.tuple #[.int .u64 (k_addV a b),.int .i64 (k_addE a b)])/\w=w':=by
 go_enter Try.func47,Try.ntmps47
 go_wp2
 .have h:18446744073709551615-b<a:=by assumption
  go_ret2
  unfold k_addV k_addE
  rw[if_neg (by omega),if_neg (by omega)]
  exact⟨rfl,rfl⟩
 .have h:a<=18446744073709551615-b:=by assumption
  go_ret2
  unfold k_addV k_addE
  rw[if_pos (by omega),if_pos (by omega)]
  exact⟨rfl,rfl⟩
def k_sumV(l:List Int):Int:=if l.sum<18446744073709551616 then l.sum else 0
def k_sumE(l:List Int):Int:=if l.sum<18446744073709551616 then 0 else 4
theorem AcB{l:List Int}(h:U64 l):0<=l.sum:=by
 induction l with
 |nil=>simp
 |cons a l ih=>
  have h1:=h a (by simp)
  have h2:=ih (fun x hx=>h x (by simp[hx]))
  simp only[List.sum_cons];omega
theorem Aen{l:List Int}(h:U64 l)(k:Nat):(l.take k).sum<=l.sum:=by
 have h1:(l.take k).sum+(l.drop k).sum=l.sum:=by rw[<-List.sum_append_int,List.take_append_drop]
 have h2:0<=(l.drop k).sum:=AcB fun x hx=>h x (List.mem_of_mem_drop hx)
 omega
theorem Adj{l:List Int}{k:Nat}(hk:k<l.length):(l.take (k+1)).sum=(l.take k).sum+l[k]:=by
 rw[List.take_succ_eq_append_getElem hk,List.sum_append_int];simp
theorem Ahx(B:Nat)(A:Option Addr)(n c:Nat)(l:List Int)(w:World)(hr:Row w B 1 A n (ints .u64 l))(hl:U64 l)(hn:n<=9223372036854775807) :
  Calls Try.prog 35 #[.slice A n c] w fun e w'=>e=.returned (.tuple #[.int .u64 (k_sumV l),.int .i64 (k_sumE l)])/\w=w':=by
 have hlen:l.length=n:=by have:=hr.1;simpa [ints]using this
 go_enter Try.func35,Try.ntmps35
 go_wp2
 go_loop [4,5] (fun s i=>∃k:Nat,k<=n/\i=.int .i64 k/\s=.int .u64 (l.take k).sum/\(l.take k).sum<18446744073709551616) (fun _ i=>n-(intOf i).toNat)
 case atStart=>exact⟨0,Nat.zero_le _,rfl,by simp,by simp⟩
 case round=>
  obtain⟨k,hk,rfl,rfl,hlt⟩:=hrel
  have h0:0<=(l.take k).sum:=AcB fun x hx=>hl x (List.mem_of_mem_take hx)
  by_cases hkn:k<n
  .have hkl:k<l.length:=by omega
   have hu:(ints .u64 l)[k]? = some (.int .u64 l[k]):=by unfold ints;rw[List.getElem?_map,List.getElem?_eq_getElem hkl];rfl
   obtain⟨ad,rfl,hb,hc⟩:=hr.at_ hu
   have hx:=hl l[k] (List.getElem_mem hkl)
   have hs:Hid ((l.take (k+1)).sum=(l.take k).sum+l[k]):=Adj hkl
   have HC:=Lib.hid (fun w=>Ahy (l.take k).sum l[k] h0 hlt hx.1 hx.2 w)
   have htot:Hid ((l.take (k+1)).sum<=l.sum):=Aen hl _
   have hlen':=Lib.hid hlen
   clear hlen hu
   generalize(l.take k).sum=s at *
   generalize l[k]=x at *
   by_cases hov:s+x<18446744073709551616
   .have hv:k_addV s x=s+x:=by unfold k_addV;rw[if_pos hov]
    have he:k_addE s x=0:=by unfold k_addE;rw[if_pos hov]
    rw[hv,he]at HC
    clear hv he
    go_wp2_with (go_at_call 47;refine(HC.out _).mono ?_;rintro e w' ⟨rfl,rfl⟩)
    go_round
    case rel=>exact⟨k+1,by omega,by go_num,by rw[hs.out],by rw[hs.out];exact hov⟩
    case measure=>simp[intOf];omega
   .have hv:k_addV s x=0:=by unfold k_addV;rw[if_neg hov]
    have he:k_addE s x=4:=by unfold k_addE;rw[if_neg hov]
    rw[hv,he]at HC
    clear hv he
    go_wp2_with (go_at_call 47;refine(HC.out _).mono ?_;rintro e w' ⟨rfl,rfl⟩)
    go_ret2
    have h1:=hs.out
    have h2:=htot.out
    unfold k_sumV k_sumE
    rw[if_neg (by omega),if_neg (by omega)]
    exact⟨rfl,rfl⟩
  .have hkk:k=n:=by omega
   subst hkk
   have hfull:l.take k=l:=List.take_of_length_le (by omega)
   rw[hfull]at hlt |-
   have hv:k_sumV l=l.sum:=by unfold k_sumV;rw[if_pos hlt]
   have he:k_sumE l=0:=by unfold k_sumE;rw[if_pos hlt]
   have HV:=Lib.hid hv
   have HE:=Lib.hid he
   clear hv he hlen hfull
   go_wp2
   go_ret2
   rw[HV.out,HE.out]
   exact⟨rfl,rfl⟩
def totV(l:List Int):Int:=if l.sum<=4611686018427387904 then l.sum else 0
def tbc(c:Ck)(s:Value):List Value:=ckc c ++ [s]
theorem AhV{c:Ck}(h:c.2.length=32)(s:Value):(tbc c s)[33]? = some s:=by
 unfold tbc
 rw[List.getElem?_append_right (by rw[AiO h];exact Nat.le_refl _),AiO h];rfl
def valE(l:List Int)(n v:Int):Int:=if n=v then(if l.sum<=4611686018427387904 then 0 else 4)else 2
theorem Ada(B:Nat)(c:Ck)(hc:c.2.length=32)(A:Option Addr)(n cap:Nat)(v:Int)(l:List Int)(w:World)(hB:B<=w.heap.size)(hr:Row w B 1 A n (ints .u64 l))(hl:U64 l)(hn:n<=9223372036854775807) :
  Calls Try.prog 28 #[.agg (tbc c (.slice A n cap)).toArray,.int .i64 v] w fun e w'=>e=.returned (.int .i64 (valE l n v))/\Below w.heap.size w w':=by
 have XB:=bx (Has.new w (tbc c (.slice A n cap)) 91)
 have hcs:(w.alloc (.cells (tbc c (.slice A n cap)).toArray 91)).cell? ⟨w.heap.size,33,none⟩=some (.slice A n cap):=(XB.out.cell 33).trans (AhV hc _)
 have EB:=bx (ext_alloc w (.cells (tbc c (.slice A n cap)).toArray 91))
 have SU:=bx (Ahx B A n cap l _ (hr.below (EB.out.mono hB)) hl hn)
 have S0:=bx (AcB hl)
 clear hr hl
 by_cases hnv:(n:Int)=v
 .subst hnv
  go_enter Try.func28,Try.ntmps28
  go_wp2_with fail
  refine SU.out.mono ?_;rintro e w' ⟨rfl,rfl⟩
  have hs0:=S0.out
  by_cases h1:l.sum<18446744073709551616
  .have HV:Bx (k_sumV l=l.sum/\k_sumE l=0):=⟨by unfold k_sumV k_sumE;rw[if_pos h1,if_pos h1];exact⟨rfl,rfl⟩⟩
   rw[HV.out.1,HV.out.2]
   by_cases h2:l.sum<=4611686018427387904
   .have HE:Bx (valE l n n=0):=⟨by unfold valE;rw[if_pos rfl,if_pos h2]⟩
    clear HV
    generalize l.sum=s at *
    have hng:¬4611686018427387904<s:=by omega
    go_wp2_with fail
    go_ret
    exact⟨by rw[HE.out];rfl,EB.out⟩
   .have HE:Bx (valE l n n=4):=⟨by unfold valE;rw[if_pos rfl,if_neg h2]⟩
    clear HV
    generalize l.sum=s at *
    have hg:4611686018427387904<s:=by omega
    go_wp2_with fail
    go_ret
    exact⟨by rw[HE.out];rfl,EB.out⟩
  .have HV:Bx (k_sumE l=4):=⟨by unfold k_sumE;rw[if_neg h1]⟩
   have HE:Bx (valE l n n=4):=⟨by unfold valE;rw[if_pos rfl,if_neg (by omega)]⟩
   rw[HV.out]
   clear HV
   generalize k_sumV l=s at *
   go_wp2_with fail
   go_ret
   exact⟨by rw[HE.out];rfl,EB.out⟩
 .have hne:((n:Int) != v)=true:=by rw[bne_iff_ne];exact hnv
  have HV:Bx (valE l n v=2):=⟨by unfold valE;rw[if_neg hnv]⟩
  rw[HV.out]
  clear hnv HV
  go_enter Try.func28,Try.ntmps28
  go_wp2_with fail
  go_ret
  exact⟨rfl,EB.out⟩
end
section
open Go.RowKit Go.Maps
def URow(w:World)(A:Option Addr)(n:Nat)(xs:List Int):Prop:=xs.length=n/\(0<n->∃g post,A=some ⟨g,0,none⟩/\Has w g (ints .u64 xs++post))
theorem URow.below{w w':World}{A:Option Addr}{n:Nat}{xs:List Int}(h:URow w A n xs)(hb:Below w.heap.size w w'):URow w' A n xs:=
 ⟨h.1,fun hn=>by obtain⟨g,post,e,hg⟩:=h.2 hn;exact⟨g,post,e,hg.below hb hg.lt⟩⟩
theorem URow.row{w:World}{A:Option Addr}{n:Nat}{xs:List Int}(h:URow w A n xs):Row w w.heap.size 1 A n (ints .u64 xs):=by
 refine⟨by rw[ints_len,h.1,Nat.mul_one],fun j u hu=>?_⟩
 have hj:j<xs.length:=by have:=(List.getElem?_eq_some_iff.1 hu).1;rwa [ints_len]at this
 obtain⟨g,post,rfl,hg⟩:=h.2 (by have:=h.1;omega)
 refine⟨_,rfl,hg.lt,?_⟩
 rw[AdA,hg.cell,Nat.zero_add,List.getElem?_append_left (by rw[ints_len];exact hj)]
 exact hu
theorem URow.cell{w:World}{g:Nat}{xs:List Int}{post:List Value}(h:Has w g (ints .u64 xs++post)){k:Nat}(hk:k<xs.length):w.cell? ⟨g,k,none⟩=some (.int .u64 (xs.getD k 0)):=by
 rw[h.cell,List.getElem?_append_left (by rw[ints_len];exact hk),ints,List.getElem?_map,List.getElem?_eq_getElem hk,getD_at hk];rfl
theorem URow.own{w:World}{base:Nat}{e:TypeId}{A:Option Addr}{n c:Nat}{xs:List Int}(hl:xs.length=n)(h:w.ownsRow base e 1 (.slice A n c) n (ints .u64 xs)):URow w A n xs:=
 ⟨hl,fun hn=>by
  obtain⟨g,c',post,e,_,hg⟩:=own_block h hn
  injection e with e1 _ _
  exact⟨g,post,e1,hg⟩⟩
theorem U64.at{l:List Int}(h:U64 l){k:Nat}(hk:k<l.length):0<=l.getD k 0/\l.getD k 0<18446744073709551616:=by
 rw[getD_at hk];exact h _ (List.getElem_mem hk)
abbrev Tb:=Ck × List Int
structure TOk(T:List Tb):Prop where
 ok:∀t∈T,CkOk t.1
 u:∀t∈T,U64 t.2
 nd:T.Pairwise fun s t=>s.1≠t.1
def look(T:List Tb)(c:Ck):Option (List Int):=(T.find? fun t=>decide (t.1=c)).map (·.2)
def zt:List Value:=tbc (0,zroot) (.slice none 0 0)
structure BkMap(P:Nat->Prop)(w:World)(M:Nat)(T:List Tb):Prop where
 ok:TOk T
 ex:∃D,w.ownsMap (H:=Value) Try.prog 44 heldR M T.length D/\Tidy D/\Maps.size D=T.length/\(∀kl,has D kl=true↔∃t∈T,kl=kc t.1) /\
  ∀t∈T,∃A cap,(∀z,D.atKey (kc t.1) z=.held (.agg (tbc t.1 (.slice A t.2.length cap)).toArray))/\URow w A t.2.length t.2/\(A=none->cap=0)/\∀ad,A=some ad->P ad.block
def bal(T:List Tb)(c:Ck):List Int:=(look T c).getD []
structure Bk(P:Nat->Prop)(w:World)(B M:Nat)(v lim:Int)(T:List Tb):Prop where
 b:Has w B [.int .i64 v,.int .i64 lim,.map (some M)]
 m:BkMap P w M T
theorem quiet_cell{P:Program}{C:World->Prop}{o:Oper}{a:Act}{K:Act->Prop}(ty:TypeId)(x:Operand)(ho:o.op=.load ty x)(p:Addr)(v:Value)
  (hx:a.eval x=.pointer (some p)) (hr:∀w,C w->(Instr.loadAt ty (.pointer (some p))).run P w=.ok v w) (hk:K (a.put o.dst v)):o.quiet P a C K:=by
 refine⟨_,fun w hw=>?_,hk⟩
 unfold Oper.quietAt execOp
 simp only[ho,hx,hr w hw,Sem.run_bind,Sem.run_pure,Result.andThen_ok]
 exact⟨rfl,rfl⟩
theorem run_allocZ{P:Program}{ty:TypeId}{cs:List Value}(hz:∀w,(zeroValue ty).run P w=.ok (.agg cs.toArray) w){o:Oper}{a:Act}{w:World}(ho:o.op=.alloc ty) :
  (execOp a.eval o).run P w=.ok (.value (.pointer (some ⟨w.heap.size,0,none⟩))) (w.alloc (.cells cs.toArray ty)):=by
 unfold execOp
 simp only[ho]
 simp[Instr.alloc,Sem.run_bind,hz,newVar,Value.cells,newRow]
theorem wpList_allocZ{P:Program}{ops:Array Oper}{rest:List Oper}{o:Oper}{a:Act}{w:World}{Q:Exit->Act->World->Prop}(hg:o.guard=none)(ty:TypeId)(cs:List Value)(hz:∀w,(zeroValue ty).run P w=.ok (.agg cs.toArray) w)
  (ho:o.op=.alloc ty) (h:wpList P ops Q rest (a.put o.dst (.pointer (some ⟨w.heap.size,0,none⟩))) (w.alloc (.cells cs.toArray ty))):wpList P ops Q (o::rest) a w:=
 wpList_plain hg fun K hK=>by
  unfold Oper.wp
  rw[run_allocZ hz ho,Oper.upon_value]
  exact hK _ _ h
theorem info_u64:(Try.prog.info? 29).map (fun i=>(i.zero,i.size,i.bytes))=some (some (.int .u64 0),1,8):=by kernel_rfl
def UP(n:Nat)(xs:List Int)(w:World)(e:Ending)(w':World):Prop:=
 ∃(A:Option Addr) (c:Nat),e=.returned (.slice A n c)/\w'.ownsRow w.heap.size 29 1 (.slice A n c) n (ints .u64 xs)/\Below w.heap.size w w'
end
section
open Go.RowKit
theorem Ai8:ElT Try.prog 27 29 1 8:=Acq Try.underlying27 (by kernel_rfl) (by decide) (by decide)
theorem elTb:ElT Try.prog 71 91 34 64:=Acq Try.underlying71 (by kernel_rfl) (by decide) (by decide)
theorem ztTb:ZeroT Try.prog 91 (tbP cp0 (.slice none 0 0)) [1,32,1]:=⟨fun w=>by kernel_rfl,Aao _ _⟩
theorem Ak5(l:List U):One (us l):=fun u hu=>by
 obtain⟨x,_,rfl⟩:=List.mem_map.1 hu
 rfl
def CTb(Γ:Gam)(w:World)(t:Tbl)(e:Ending)(w':World):Prop:=∃s Γ',e=.returned (.agg (fl (tbP t.c s)).toArray)/\TbG Γ' (t.c,s) t/\Ext Γ w Γ' w'
theorem AcT(Γ:Gam)(c:Cp)(b:List U)(hb:b.length<=65535)(A:Option Addr)(k:Nat)(w:World)(ok:Ok Γ w)(h:Row w w.heap.size 1 A b.length (us b))(hA:A=none->k=0) :
  Calls Try.prog 29 #[.agg (fl (tbP c (.slice A b.length k))).toArray] w (CTb Γ w ⟨c,b⟩):=by
 have M:=bx (MM.start ok)
 have HR:=bx h
 have HA:=bx hA
 clear h ok hA
 go_enter Try.func29,Try.ntmps29
 go_wp2_with (first|((first|refine zBYo (Aao _ _) ?_|refine zALo (ztTb) ?_);clear M;intro w' g M)|refine zLDo (M.o.at1) ?_|(at_builtin;(with_reducible apply AbN (M.o.row0 29 1) Ai8 (HR.o.below M.bel |>.more M.bel.size) HA.o);exact Ak5 _;(unfold maxLen;omega);omega;rfl;rfl;rfl;rfl;intro A' c' w' M';(simp only[Nat.zero_add,List.nil_append]at M');(replace M:=bx M';clear M'))|((first|refine zS1o M 1 (.slice A' b.length c') (tbP c (.slice A' b.length c')) ?_|refine zSSo M 0 (tbP c (.slice A' b.length c')) (tbP c (.slice A' b.length c')) (Aao _ _) (AhW _ _ _ _) ?_);clear M;intro w' M))
 obtain⟨Γ',h1,h2,h3,h4⟩:=M.o.frz
 exact zRb h4.at0 ⟨_,Γ',rfl,⟨rfl,_,_,rfl,h1,h2⟩,h4.ext⟩
abbrev tbx(x:Cp × Value):List Value:=fl (tbP x.1 x.2)
def TsP(Γ:Gam)(w:World)(T:List Tbl)(e:Ending)(w':World):Prop:=∃(A:Option Addr) (c:Nat) (Γ':Gam),e=.returned (.slice A T.length c)/\CapOk A T.length c/\TsG Γ' A T.length T/\Ext Γ w Γ' w'
theorem Ami{Γ:Gam}{x:Cp × Value}{t:Tbl}(h:TbG Γ x t):One (tbx x):=by
 obtain⟨A,k,e,_⟩:=h.s
 unfold tbx
 rw[e];exact AhW _ _ _ _
theorem Ali{α β:Type}(X:List α)(x:α)(f:α->List β):(X ++ [x]).flatMap f=X.flatMap f++f x:=by simp
def dropT(T:List Tbl)(e:Nat):List Tbl:=T.filter fun t=>decide (e<=t.c.e.n)
theorem Alp{T:List Tbl}{e k:Nat}(hk:k<T.length)(h:e<=T[k].c.e.n):dropT (T.take (k+1)) e=dropT (T.take k) e ++ [T[k]]:=by
 unfold dropT
 rw[List.take_succ_eq_append_getElem hk,List.filter_append]
 simp[h]
theorem AmS{T:List Tbl}{e k:Nat}(hk:k<T.length)(h:¬e<=T[k].c.e.n):dropT (T.take (k+1)) e=dropT (T.take k) e:=by
 unfold dropT
 rw[List.take_succ_eq_append_getElem hk,List.filter_append]
 simp[h]
end
section
open Go.RowKit Go.Sort
def Lays(w w':World):Prop:=∃q os,w'=grow (w.drewN q) os
theorem Lays.refl(w:World):Lays w w:=⟨0,#[],by simp[grow,World.drewN]⟩
theorem Lays.trans{a b c:World}(h:Lays a b)(k:Lays b c):Lays a c:=by
 obtain⟨q,os,rfl⟩:=h
 obtain⟨p,os',rfl⟩:=k
 exact⟨q+p,os++os',by simp[grow,World.drewN,Nat.add_assoc,Array.append_assoc]⟩
theorem Lays.alloc{a b:World}(h:Lays a b)(o:Obj):Lays a (b.alloc o):=h.trans ⟨0,#[o],by rw[alloc_eq_grow];rfl⟩
theorem Lays.drewN{a b:World}(h:Lays a b)(n:Nat):Lays a (b.drewN n):=h.trans ⟨n,#[],by simp[grow,World.drewN]⟩
theorem Lays.below{a b:World}(h:Lays a b):Below a.heap.size a b:=by
 obtain⟨q,os,rfl⟩:=h
 exact⟨rfl,rfl,rfl,by simp[World.drewN],fun k hk=>heap_grow_old _ _ hk⟩
def cmpI:List Int->List Int->Int
 |a::xs,b::ys=>if a<b then -1 else if b<a then 1 else cmpI xs ys
 |_,_=>0
theorem Ajm{l:List Int}(h:Fit .u8 l):∀x∈l,0<=x/\x<256:=fun x hx=>by
 have:=bounds_u8 (h x hx);omega
theorem AiT{a b:Int}(ha:0<=a/\a<256)(hb:0<=b/\b<256):UInt8.ofNat a.toNat<UInt8.ofNat b.toNat↔a<b:=by
 rw[UInt8.lt_iff_toNat_lt,UInt8.toNat_ofNat',UInt8.toNat_ofNat']
 omega
theorem AcD:∀(a b:List Int),(∀x∈a,0<=x/\x<256)->(∀x∈b,0<=x/\x<256)->a.length=b.length->Lib.compareBytes (Lib.bytesOf a) (Lib.bytesOf b)=cmpI a b
 |[],[],_,_,_=>rfl
 |[],_::_,_,_,h=>by simp at h
 |_::_,[],_,_,h=>by simp at h
 |a::xs,b::ys,ha,hb,h=>by
  have ih:=AcD xs ys (fun x hx=>ha x (by simp[hx])) (fun x hx=>hb x (by simp[hx])) (by simpa using h)
  have h1:=AiT (ha a (by simp)) (hb b (by simp))
  have h2:=AiT (hb b (by simp)) (ha a (by simp))
  simp only[Lib.bytesOf,List.map_cons,Lib.compareBytes,cmpI]at ih |-
  simp only[h1,h2,ih]
theorem AfD{a b:List Int}{x y:Addr}{n c d:Nat}{w:World}(ha:Fit .u8 a)(hb:Fit .u8 b)(la:a.length=n)(lb:b.length=n)
  (hx:∀j u,(ints .u8 a)[j]? = some u->w.cell? (x.add j)=some u) (hy:∀j u,(ints .u8 b)[j]? = some u->w.cell? (y.add j)=some u) :
  (callFunc 46 #[.slice (some x) n c,.slice (some y) n d]).run Try.prog w=.ok (.value (.int .i64 (cmpI a b))) w:=by
 rw[run_callFunc_extern Try.func46 (by kernel_rfl) (by kernel_rfl) (by kernel_rfl) (e:=Extern.BytealgCompare.compare) (by kernel_rfl)]
 have l1:=Lib.run_loadBytesX (P:=Try.prog) w a x .empty (fun j v hj=>hx j _ (by rw[ints,List.getElem?_map,hj];rfl))
 have l2:=Lib.run_loadBytesX (P:=Try.prog) w b y .empty (fun j v hj=>hy j _ (by rw[ints,List.getElem?_map,hj];rfl))
 rw[la]at l1
 rw[lb]at l2
 change Result.andThen (Sem.run Try.prog (do pure (goInt (Extern.BytealgCompare.cmp (<-Extern.Bytes.bytesOf (.slice (some x) n c)) (<-Extern.Bytes.bytesOf (.slice (some y) n d))))) w) _=_
 simp only[Extern.Bytes.bytesOf,Sem.run_bind,l1,l2,Sem.run_pure,Result.andThen]
 rw[Lib.cmp_eq]
 have e1:∀l:List Int,(ByteArray.empty.data++(Lib.bytesOf l).toArray).toList=Lib.bytesOf l:=fun l=>by simp
 rw[e1,e1,AcD a b (Ajm ha) (Ajm hb) (by omega)]
 rfl
theorem Aev{a b:List Int}{x y:Addr}{n c d:Nat}{w:World}(ha:Fit .u8 a)(hb:Fit .u8 b)(la:a.length=n)(lb:b.length=n)
  (hx:∀j u,(ints .u8 a)[j]? = some u->w.cell? (x.add j)=some u) (hy:∀j u,(ints .u8 b)[j]? = some u->w.cell? (y.add j)=some u) :
  Calls Try.prog 33 #[.slice (some x) n c,.slice (some y) n d] w fun e w'=>e=.returned (.int .i64 (cmpI a b))/\w=w':=by
 have hr:=AfD (c:=c) (d:=d) ha hb la lb hx hy
 clear hx hy la lb
 go_enter Try.func33,Try.ntmps33
 go_wp2
 go_ret
 exact⟨rfl,rfl⟩
theorem Afm{a b:List Int}(ha:Fit .u8 a)(hb:Fit .u8 b)(la:a.length=32)(lb:b.length=32)(w:World) :
  Calls Try.prog 24 #[.agg (ints .u8 a).toArray,.agg (ints .u8 b).toArray] w fun e w'=>e=.returned (.int .i64 (cmpI a b))/\Lays w w':=by
 have hx:∀n:Nat,∀j u,(ints .u8 a)[j]? = some u->(((w.alloc (.cells (ints .u8 a).toArray 40)).alloc (.cells (ints .u8 b).toArray 40)).drewN n).cell? ((⟨w.heap.size,0,none⟩:Addr).add j)=some u:=by
  intro n j u hu
  exact(World.cell?_alloc_lt _ _ _ (by rw[Ad6];simp)).trans (AcA w _ _ j u hu)
 have hy:∀n:Nat,∀j u,(ints .u8 b)[j]? = some u->(((w.alloc (.cells (ints .u8 a).toArray 40)).alloc (.cells (ints .u8 b).toArray 40)).drewN n).cell? ((⟨w.heap.size+1,0,none⟩:Addr).add j)=some u:=by
  intro n j u hu
  have:=AcA (w.alloc (.cells (ints .u8 a).toArray 40)) (ints .u8 b) 40 j u hu
  simpa using this
 have HC:=Lib.hid (fun n=>Aev (c:=32) (d:=32) ha hb la lb (hx n) (hy n))
 clear hx hy la lb
 go_enter Try.func24,Try.ntmps24
 go_wp2
 go_quiet ((go_at_call 33;exact AlK (HC.out _)))
 go_wp2
 go_ret
 exact⟨rfl,(((Lays.refl _).alloc _).alloc _).drewN _⟩
end
section
open Go.RowKit
theorem AdI(l:List Int)(k:Nat)(h:k<l.length):l.getD k 0=l[k]:=by simp[List.getD_eq_getElem?_getD,List.getElem?_eq_getElem h]
theorem AiL:∀(k:Nat) (a b:List Int),k<a.length->a.length=b.length->a.take k=b.take k->a.getD k 0<b.getD k 0->cmpI a b = -1
 |0,[],_,h,_,_,_=>by simp at h
 |0,a::xs,b::ys,_,_,_,h=>by simp at h;simp[cmpI,h]
 |0,_::_,[],_,h,_,_=>by simp at h
 |k+1,[],_,h,_,_,_=>by simp at h
 |k+1,_::_,[],_,h,_,_=>by simp at h
 |k+1,a::xs,b::ys,h1,h2,h3,h4=>by
  simp only[List.take_succ_cons,List.cons.injEq]at h3
  obtain⟨rfl,h3⟩:=h3
  have:=AiL k xs ys (by simpa using h1) (by simpa using h2) h3 (by simpa using h4)
  simp[cmpI,this]
theorem AiM:∀(k:Nat) (a b:List Int),k<a.length->a.length=b.length->a.take k=b.take k->b.getD k 0<a.getD k 0->cmpI a b=1
 |0,[],_,h,_,_,_=>by simp at h
 |0,a::xs,b::ys,_,_,_,h=>by simp at h;simp[cmpI,h];omega
 |0,_::_,[],_,h,_,_=>by simp at h
 |k+1,[],_,h,_,_,_=>by simp at h
 |k+1,_::_,[],_,h,_,_=>by simp at h
 |k+1,a::xs,b::ys,h1,h2,h3,h4=>by
  simp only[List.take_succ_cons,List.cons.injEq]at h3
  obtain⟨rfl,h3⟩:=h3
  have:=AiM k xs ys (by simpa using h1) (by simpa using h2) h3 (by simpa using h4)
  simp[cmpI,this]
theorem AeV:∀(a:List Int),cmpI a a=0
 |[]=>rfl
 |a::xs=>by simp[cmpI,AeV xs]
theorem AcO:∀(a b:List Int),a.length=b.length->(cmpI a b=0↔a=b)
 |[],[],_=>by simp[cmpI]
 |[],_::_,h=>by simp at h
 |_::_,[],h=>by simp at h
 |a::xs,b::ys,h=>by
  have ih:=AcO xs ys (by simpa using h)
  unfold cmpI
  by_cases h1:a<b
  .simp[h1];intro e;omega
  .by_cases h2:b<a
   .simp[h1,h2];intro e;omega
   .have:a=b:=by omega
    subst this
    simp[h1,ih]
theorem AdC{a b:List Int}(ha:Fit .u8 a)(hb:Fit .u8 b)(la:a.length=32)(lb:b.length=32)(w:World) :
  Calls Try.prog 26 #[.agg (ints .u8 a).toArray,.agg (ints .u8 b).toArray] w fun e w'=>e=.returned (.int .i64 (cmpI a b))/\Below w.heap.size w w':=by
 obtain⟨W,hW⟩:∃W,W=(w.alloc (.cells (ints .u8 a).toArray 40)).alloc (.cells (ints .u8 b).toArray 40):=⟨_,rfl⟩
 have hx:∀n k:Nat,∀hk:k<a.length,(W.drewN n).cell? ⟨w.heap.size,k,none⟩=some (.int .u8 a[k]):=by
  intro n k hk
  subst hW
  have h1:=AcA w (ints .u8 a) 40 k (.int .u8 a[k]) (by rw[ints,List.getElem?_map,List.getElem?_eq_getElem hk];rfl)
  have hadd:(⟨w.heap.size,0,none⟩:Addr).add k=⟨w.heap.size,k,none⟩:=by unfold Addr.add;split<;>simp_all
  rw[hadd]at h1
  exact(World.cell?_alloc_lt _ _ _ (by simp)).trans h1
 have hy:∀n k:Nat,∀hk:k<b.length,(W.drewN n).cell? ⟨w.heap.size+1,k,none⟩=some (.int .u8 b[k]):=by
  intro n k hk
  subst hW
  have h1:=AcA (w.alloc (.cells (ints .u8 a).toArray 40)) (ints .u8 b) 40 k (.int .u8 b[k]) (by rw[ints,List.getElem?_map,List.getElem?_eq_getElem hk];rfl)
  have hadd:(⟨w.heap.size+1,0,none⟩:Addr).add k=⟨w.heap.size+1,k,none⟩:=by unfold Addr.add;split<;>simp_all
  simp only[World.size_alloc,hadd]at h1
  exact h1
 have HX:=Lib.hid hx
 have HY:=Lib.hid hy
 have HW:=Lib.hid hW
 have hbel:Hid (∀n,Below w.heap.size w (W.drewN n)):=fun n=>Acy (by subst hW;exact((Below.refl _ _).alloc (Nat.le_refl _) _).alloc (by simp) _) n
 clear hx hy
 go_enter Try.func26,Try.ntmps26
 go_wp2
 go_loopw [5] (fun i wr=>∃k m:Nat,k<=32/\i=.int .i64 k/\wr=W.drewN m/\a.take k=b.take k) (fun i _=>32-(intOf i).toNat)
 case atStart=>exact⟨0,0,by omega,rfl,by rw[HW.out];rfl,rfl⟩
 case round=>
  obtain⟨k,m,hk,rfl,rfl,hkk⟩:=hrel
  have HK:=Lib.hid hkk
  clear hkk
  by_cases hlt:k<32
  .have h1:∀n,(W.drewN n).cell? ⟨w.heap.size,k,none⟩=some (.int .u8 (a.getD k 0)):=fun n=>by rw[AdI a k (by omega)];exact HX.out n k (by omega)
   have h2:∀n,(W.drewN n).cell? ⟨w.heap.size+1,k,none⟩=some (.int .u8 (b.getD k 0)):=fun n=>by rw[AdI b k (by omega)];exact HY.out n k (by omega)
   have g1:Hid (a.getD k 0<b.getD k 0->cmpI a b = -1):=fun h=>AiL k a b (by omega) (by omega) HK.out h
   have g2:Hid (b.getD k 0<a.getD k 0->cmpI a b=1):=fun h=>AiM k a b (by omega) (by omega) HK.out h
   have g3:Hid (a.getD k 0=b.getD k 0->a.take (k+1)=b.take (k+1)):=fun h=>by
    rw[List.take_succ_eq_append_getElem (by omega),List.take_succ_eq_append_getElem (by omega),HK.out,<-AdI a k (by omega),<-AdI b k (by omega),h]
   clear hW la lb
   generalize a.getD k 0=x at *
   generalize b.getD k 0=y at *
   by_cases c1:x<y
   .go_wp2
    go_quiet (fail)
    go_wp2
    go_ret
    exact⟨by rw[g1.out c1];rfl,by repeat(first|exact hbel.out _|apply Acy)⟩
   .by_cases c2:y<x
    .go_wp2
     go_quiet (fail)
     go_wp2
     go_quiet (fail)
     go_wp2
     go_ret
     exact⟨by rw[g2.out c2];rfl,by repeat(first|exact hbel.out _|apply Acy)⟩
    .have c3:=g3.out (by omega)
     have H3:=Lib.hid c3
     clear c3
     go_wp2
     go_quiet (fail)
     go_wp2
     go_quiet (fail)
     go_wp2
     go_roundw
     case rel=>exact⟨k+1,_,by omega,by go_num,by first|rfl|(simp only[World.drewN_drewN];rfl),H3.out⟩
     case measure=>simp[intOf];omega
  .have hkk:k=32:=by omega
   subst hkk
   have e:a=b:=by have:=HK.out;rwa [List.take_of_length_le (by omega),List.take_of_length_le (by omega)]at this
   have h0:=Lib.hid ((AcO a b (by omega)).2 e)
   clear e hW la lb
   go_wp2
   go_ret
   exact⟨by rw[h0.out];rfl,hbel.out _⟩
theorem AgL(r:Rt):Fit .u8 r.l:=fun x hx=>by
 have h:=r.bt x hx
 simp only[Lit.wf,Bool.and_eq_true,decide_eq_true_eq]
 exact⟨h.1,Int.le_of_lt_add_one h.2⟩
def cmpRt(a b:Rt):Int:=cmpI a.l b.l
theorem Ab9(a b:Rt)(w:World):Calls Try.prog 26 #[.agg (rc a).toArray,.agg (rc b).toArray] w fun e w'=>e=.returned (.int .i64 (cmpRt a b))/\Below w.heap.size w w':=AdC (AgL a) (AgL b) a.len b.len w
def cmpCp(a b:Cp):Int:=if a.e.n<b.e.n then -1 else if b.e.n<a.e.n then 1 else cmpRt a.r b.r
def addT(T:List Tbl)(t:Tbl):List Tbl:=T.takeWhile (fun x=>decide (cmpCp x.c t.c<0))++t::T.dropWhile (fun x=>decide (cmpCp x.c t.c<0))
theorem AeZ{α:Type}{p:α->Bool}:∀{T:List α} {k:Nat},k<=T.length->(∀j (hj:j<T.length),j<k->p T[j]=true)->(∀h:k<T.length,p T[k]=false)->T.takeWhile p=T.take k/\T.dropWhile p=T.drop k
 |[],k,hk,_,_=>by simp
 |x::T,0,_,_,h=>by
  have:=h (Nat.succ_pos _)
  simp only[List.getElem_cons_zero]at this
  simp[List.takeWhile_cons,List.dropWhile_cons,this]
 |x::T,k+1,hk,h1,h2=>by
  have h0:=h1 0 (Nat.succ_pos _) (Nat.succ_pos _)
  simp only[List.getElem_cons_zero]at h0
  obtain⟨e1,e2⟩:=AeZ (T:=T) (k:=k) (by simpa using hk) (fun j hj hjk=>h1 (j+1) (Nat.succ_lt_succ hj) (Nat.succ_lt_succ hjk)) (fun h=>h2 (Nat.succ_lt_succ h))
  simp[List.takeWhile_cons,List.dropWhile_cons,h0,e1,e2]
theorem AnL{T:List Tbl}{t:Tbl}{k:Nat}(hk:k<=T.length)(h1:∀j (hj:j<T.length),j<k->cmpCp T[j].c t.c<0)(h2:∀h:k<T.length,¬cmpCp T[k].c t.c<0):addT T t=T.take k++t::T.drop k:=by
 obtain⟨e1,e2⟩:=AeZ (p:=fun x=>decide (cmpCp x.c t.c<0)) hk (fun j hj hjk=>decide_eq_true (h1 j hj hjk)) (fun h=>decide_eq_false (h2 h))
 unfold addT
 rw[e1,e2]
theorem Aco{α:Type}{f:α->List Value}{k:Nat}(X:List α)(h:∀x∈X,(f x).length=k)(i:Nat):(X.flatMap f).take (i*k)=(X.take i).flatMap f:=by
 rcases Nat.lt_or_ge i X.length with hi|hi
 .rw[Aa4 X i hi,List.append_assoc,<-Abk X i hi h,List.take_left]
 .rw[List.take_of_length_le hi,List.take_of_length_le]
  rw[Aa2 X h];exact Nat.mul_le_mul_right _ hi
theorem Adm{α:Type}{f:α->List Value}{k:Nat}(X:List α)(h:∀x∈X,(f x).length=k)(i:Nat):(X.flatMap f).drop (i*k)=(X.drop i).flatMap f:=by
 have h1:=List.take_append_drop (i*k) (X.flatMap f)
 rw[Aco X h i]at h1
 have h2:X.flatMap f=(X.take i).flatMap f++(X.drop i).flatMap f:=by rw[<-List.flatMap_append,List.take_append_drop]
 exact List.append_cancel_left (h1.trans h2)
theorem flat_one{α:Type}{f:α->List Value}{X:List α}(h:∀x∈X,One (f x)):One (X.flatMap f):=fun u hu=>by
 obtain⟨x,hx,hu⟩:=List.mem_flatMap.1 hu
 exact h x hx u hu
theorem All2.left{α β:Type}{r:α->β->Prop}{X:List α}{T:List β}(h:All2 r X T){p:α->Prop}(hp:∀a b,r a b->p a):∀x∈X,p x:=fun x hx=>by
 obtain⟨i,hi,rfl⟩:=List.getElem_of_mem hx
 exact hp _ _ (h.2 i hi (h.1▸hi))
theorem AnK{Γ Γ1 Γ':Gam}{w w':World}{X:List (Cp × Value)}{T:List Tbl}{t:Tbl}{s1:Value}{k n:Nat}{A6:Option Addr}{c6:Nat}(hX:All2 (TbG Γ) X T)(hs:TbG Γ1 (t.c,s1) t)(l1:Le Γ Γ1)(l2:Le Γ1 Γ')(he:addT T t=T.take k++t::T.drop k)(hn:T.length=n)(hk:k<=n)
  (h1:CapOk A6 (k+1+(n-k)) c6) (h2:SlG Γ' A6 (k+1+(n-k)) ((X.flatMap tbx).take (k*34)++fl (tbP t.c s1)++(X.flatMap tbx).drop (k*34))) (h4:Ext Γ w Γ' w') :
  TsP Γ w (addT T t) (.returned (.slice A6 (k+1+(n-k)) c6)) w':=by
 have hl:(addT T t).length=k+1+(n-k):=by rw[he];simp[hn];omega
 refine⟨A6,c6,Γ',by rw[hl],by rw[hl];exact h1,⟨rfl,X.take k ++ [(t.c,s1)]++X.drop k,?_,?_⟩,h4⟩
 .have e:addT T t=(T.take k ++ [t])++T.drop k:=by rw[he];simp
  rw[e]
  exact(((hX.take k).imp fun _ _ h=>h.mono (l1.trans l2)).app (All2.one (hs.mono l2))).app ((hX.drop k).imp fun _ _ h=>h.mono (l1.trans l2))
 .rw[hl]
  rw[Aco X (fun x _=>AdX _ _),Adm X (fun x _=>AdX _ _)]at h2
  simpa using h2
end
section
open Go.RowKit Old
def IntsP(Γ:Gam)(w:World)(l:List Int)(e:Ending)(w':World):Prop:=∃(A:Option Addr) (c:Nat) (Γ':Gam),e=.returned (.slice A l.length c)/\CapOk A l.length c/\SlG Γ' A l.length (ints .i64 l)/\Ext Γ w Γ' w'
def insI(l:List Int)(n:Int):List Int:=if(l.dropWhile fun x=>decide (x<n)).head? = some n then l else l.takeWhile (fun x=>decide (x<n))++n::l.dropWhile (fun x=>decide (x<n))
theorem Am5{l:List Int}{n:Int}{k:Nat}(hk:k<=l.length)(h1:∀j (hj:j<l.length),j<k->l[j]<n)(h2:∀h:k<l.length,¬l[k]<n):insI l n=if l[k]? = some n then l else l.take k++n::l.drop k:=by
 obtain⟨e1,e2⟩:=AeZ (p:=fun x=>decide (x<n)) hk (fun j hj hjk=>decide_eq_true (h1 j hj hjk)) (fun h=>decide_eq_false (h2 h))
 unfold insI
 rw[e1,e2,List.head?_drop]
theorem AgY(l:List Int)(n:Int):(insI l n).length<=l.length+1:=by
 unfold insI
 split
 .omega
 .have:=congrArg List.length (List.takeWhile_append_dropWhile (p:=fun x=>decide (x<n)) (l:=l))
  simp only[List.length_append,List.length_cons]at this |-
  omega
theorem AmM{Γ Γ':Gam}{w w':World}{l:List Int}{n:Int}{k:Nat}{A6:Option Addr}{c6:Nat}(hk:k<=l.length)(he:insI l n=l.take k++n::l.drop k)
  (h1:CapOk A6 (k+1+(l.length-k)) c6) (h2:SlG Γ' A6 (k+1+(l.length-k)) ((ints .i64 l).take (k*1)++fl [[.int .i64 n]]++(ints .i64 l).drop (k*1))) (h4:Ext Γ w Γ' w') :
  IntsP Γ w (insI l n) (.returned (.slice A6 (k+1+(l.length-k)) c6)) w':=by
 have hl:(insI l n).length=k+1+(l.length-k):=by rw[he];simp;omega
 refine⟨A6,c6,Γ',by rw[hl],by rw[hl];exact h1,?_,h4⟩
 rw[hl,he]
 simpa [ints,fl]using h2
structure Clm where
 src:U
 tgt:U
 r:Rt
 l:List Int
deriving DecidableEq
def clP(a:Clm)(s:Sl):List (List Value):=[[.int .u64 (a.src.n:Int)],[.int .u64 (a.tgt.n:Int)],rc a.r,[s.v]]
theorem Akk(a:Clm)(s:Sl):(clP a s).map List.length = [1,1,32,1]:=by simp[clP,AaU]
theorem Anm(a:Clm)(s:Sl):One (fl (clP a s)):=One.cons (AbE _ _) (One.cons (AbE _ _) (One.cons (Aaj _) (AbZ _ _ _)))
structure Slh where
 a:Clm
 b:Clm
deriving DecidableEq
def slP(x:Slh)(s t:Sl):List (List Value):=[[.int .u64 (x.a.src.n:Int)],[.int .u64 (x.a.tgt.n:Int)],rc x.a.r,[s.v],[.int .u64 (x.b.src.n:Int)],[.int .u64 (x.b.tgt.n:Int)],rc x.b.r,[t.v]]
theorem Aj4(x:Slh)(s t:Sl):(slP x s t).map List.length = [1,1,32,1,1,1,32,1]:=by simp[slP,AaU]
theorem AnV(x:Slh)(s t:Sl):One (fl (slP x s t)):=by
 unfold slP
 repeat(first|exact AbZ _ _ _|refine One.cons (AbE _ _) ?_|refine One.cons (Aaj _) ?_|refine One.cons (AbZ _ _ _) ?_)
structure Vd where
 tag:U
 kind:Int
 latest:Rt
deriving DecidableEq
def vdP(v:Vd):List (List Value):=[[.int .u64 (v.tag.n:Int)],[.int .i64 v.kind],rc v.latest]
theorem Ajx(v:Vd):(vdP v).map List.length = [1,1,32]:=by simp[vdP,AaU]
theorem AnO(v:Vd):One (fl (vdP v)):=One.cons (AbE _ _) (One.cons (AbE _ _) (Aaj _))
structure OpD where
 kind:Int
 b:Blk
 a:Att
 s:Slh
 t:Tbl
 v:Vd
 wr:Int
 kp:Int
structure OpS where
 a:Sl
 s1:Sl
 s2:Sl
 t:Sl
def opP(o:OpD)(x:OpS):List (List Value):=[[.int .i64 o.kind],[.int .u64 (o.b.pj.e.n:Int)],rc o.b.pj.r,[.int .u64 (o.b.pf.e.n:Int)],rc o.b.pf.r,[.int .u64 (o.b.slot.n:Int)],rc o.b.root,rc o.b.parent,rc o.b.payload,wc o.b.diff,wc o.b.pdiff,[.int .u64 (o.b.just.e.n:Int)],rc o.b.just.r,[.int .u64 (o.b.fin.e.n:Int)],rc o.b.fin.r,[.bool o.b.timely],[.int .u64 (o.a.slot.n:Int)],rc o.a.r,[.int .u64 (o.a.t.e.n:Int)],rc o.a.t.r,[x.a.v],[.int .u64 (o.s.a.src.n:Int)],[.int .u64 (o.s.a.tgt.n:Int)],rc o.s.a.r,[x.s1.v],[.int .u64 (o.s.b.src.n:Int)],[.int .u64 (o.s.b.tgt.n:Int)],rc o.s.b.r,[x.s2.v],[.int .u64 (o.t.c.e.n:Int)],rc o.t.c.r,[x.t.v],[.int .u64 (o.v.tag.n:Int)],[.int .i64 o.v.kind],rc o.v.latest,[.int .i64 o.wr],[.int .i64 o.kp]]
abbrev opL:List Nat:=[1,1,32,1,32,1,32,32,32,4,4,1,32,1,32,1,1,32,1,32,1,1,1,32,1,1,1,32,1,1,32,1,1,1,32,1,1]
theorem AkJ(o:OpD)(x:OpS):(opP o x).map List.length=opL:=by simp[opP,AaU,Aca]
theorem Ane(o:OpD)(x:OpS):One (fl (opP o x)):=by
 unfold opP
 repeat(first|exact AbE _ _|refine One.cons (AbE _ _) ?_|refine One.cons (Aaj _) ?_|refine One.cons (AeL _) ?_|refine One.cons (AbZ _ _ _) ?_|refine One.cons (Ag6 _) ?_)
theorem Agn(a:Clm)(s:Sl):List.take 4 (clP a s)=clP a s:=rfl
theorem Agk(x:Slh)(s t:Sl):List.take 8 (slP x s t)=slP x s t:=rfl
theorem AdM(x:Slh)(s t:Sl):List.take 4 (slP x s t)=clP x.a s:=rfl
theorem AdL(x:Slh)(s t:Sl):List.take 4 (List.drop 4 (slP x s t))=clP x.b t:=rfl
theorem Agj(v:Vd):List.take 3 (vdP v)=vdP v:=rfl
theorem Agm(o:OpD)(x:OpS):List.take 37 (opP o x)=opP o x:=rfl
theorem AdQ(o:OpD)(x:OpS):List.take 15 (List.drop 1 (opP o x))=blP o.b:=rfl
theorem AdR(o:OpD)(x:OpS):List.take 5 (List.drop 16 (opP o x))=atP o.a x.a:=rfl
theorem AdP(o:OpD)(x:OpS):List.take 8 (List.drop 21 (opP o x))=slP o.s x.s1 x.s2:=rfl
theorem AdO(o:OpD)(x:OpS):List.take 3 (List.drop 29 (opP o x))=tbP o.t.c x.t.v:=rfl
theorem AdN(o:OpD)(x:OpS):List.take 3 (List.drop 32 (opP o x))=vdP o.v:=rfl
structure SlG2(Γ:Gam)(x:Slh)(s t:Sl):Prop where
 a:SlR Γ s x.a.l.length (ints .i64 x.a.l)
 b:SlR Γ t x.b.l.length (ints .i64 x.b.l)
theorem SlG2.mono{Γ Γ':Gam}{x:Slh}{s t:Sl}(h:SlG2 Γ x s t)(hl:Le Γ Γ'):SlG2 Γ' x s t:=⟨h.a.mono hl,h.b.mono hl⟩
structure OpG(Γ:Gam)(o:OpD)(x:OpS):Prop where
 a:AtG Γ o.a x.a
 s:SlG2 Γ o.s x.s1 x.s2
 t:SlR Γ x.t o.t.b.length (us o.t.b)
theorem OpG.mono{Γ Γ':Gam}{o:OpD}{x:OpS}(h:OpG Γ o x)(hl:Le Γ Γ'):OpG Γ' o x:=⟨h.a.mono hl,h.s.mono hl,h.t.mono hl⟩
def vd0:Vd:=⟨u0,0,r0⟩
def cl0:Clm:=⟨u0,u0,r0,[]⟩
def slh0:Slh:=⟨cl0,cl0⟩
def at0:Att:=⟨u0,r0,cp0,[]⟩
def tb0:Tbl:=⟨cp0,[]⟩
def op0(k:Int):OpD:=⟨k,b0,at0,slh0,tb0,vd0,0,0⟩
def os0:OpS:=⟨sl0,sl0,sl0,sl0⟩
end
section
open Go.RowKit
def addV(a b:Int):Int:=if a+b<18446744073709551616 then a+b else 0
def addE(a b:Int):Int:=if a+b<18446744073709551616 then 0 else 4
def mulV(a b:Int):Int:=if a*b<18446744073709551616 then a*b else 0
def mulE(a b:Int):Int:=if a*b<18446744073709551616 then 0 else 4
def fitsB(p:Int):Bool:=decide (1<=p/\p<=64)
def epV(n p:Int):Int:=if fitsB p=true then n / p else 0
def epE(p:Int):Int:=if fitsB p=true then 0 else 3
def stV(n p:Int):Int:=if fitsB p=true then mulV n p else 0
def stE(n p:Int):Int:=if fitsB p=true then mulE n p else 3
theorem ref_add(a b:Int)(ha:0<=a)(ha':a<18446744073709551616)(hb:0<=b)(hb':b<18446744073709551616)(w:World) :
  Calls Try.prog 47 #[.int .u64 a,.int .u64 b] w fun e w'=>e=.returned (.tuple #[.int .u64 (addV a b),.int .i64 (addE a b)])/\w=w':=by
 go_enter Try.func47,Try.ntmps47
 go_wp2
 .have h:18446744073709551615-b<a:=by assumption
  go_ret2
  unfold addV addE
  rw[if_neg (by omega),if_neg (by omega)]
  exact⟨rfl,rfl⟩
 .have h:a<=18446744073709551615-b:=by assumption
  go_ret2
  unfold addV addE
  rw[if_pos (by omega),if_pos (by omega)]
  exact⟨rfl,rfl⟩
theorem Ai5(p:Int)(hp:0<=p)(hp':p<18446744073709551616)(w:World) :
  Calls Try.prog 61 #[.int .u64 p] w fun e w'=>e=.returned (.bool (fitsB p))/\w=w':=by
 unfold fitsB
 by_cases h:1<=p
 .by_cases h':p<=64
  .rw[decide_eq_true ⟨h,h'⟩]
   go_enter Try.func61,Try.ntmps61
   go_wp2
   go_ret
   exact⟨rfl,rfl⟩
  .rw[decide_eq_false (by omega)]
   go_enter Try.func61,Try.ntmps61
   go_wp2
   go_ret
   exact⟨rfl,rfl⟩
 .rw[decide_eq_false (by omega)]
  go_enter Try.func61,Try.ntmps61
  go_wp2
  go_ret
  exact⟨rfl,rfl⟩
theorem Anf(a b:Int)(hb:1<=b):18446744073709551615 / b<a↔¬a*b<18446744073709551616:=by
 rw[Int.ediv_lt_iff_lt_mul (by omega)]
 omega
theorem Afy(n p:Int)(hn:0<=n)(hn':n<18446744073709551616)(hp:0<=p)(hp':p<18446744073709551616)(w:World) :
  Calls Try.prog 60 #[.int .u64 n,.int .u64 p] w fun e w'=>e=.returned (.tuple #[.int .u64 (epV n p),.int .i64 (epE p)])/\w=w':=by
 have HC:=Lib.hid (Ai5 p hp hp')
 unfold epV epE
 by_cases h:fitsB p=true
 .rw[if_pos h,if_pos h]
  have h1:1<=p:=(of_decide_eq_true h).1
  go_enter Try.func60,Try.ntmps60
  go_wp2_with (go_at_call 61;refine(HC.out _).mono ?_;rintro e w' ⟨rfl,rfl⟩)
  go_ret2
  exact⟨rfl,rfl⟩
 .rw[if_neg h,if_neg h]
  have h':fitsB p=false:=by simpa using h
  clear h
  go_enter Try.func60,Try.ntmps60
  go_wp2_with (go_at_call 61;refine(HC.out _).mono ?_;rintro e w' ⟨rfl,rfl⟩)
  go_ret2
  exact⟨rfl,rfl⟩
structure SpeOk(s:Sto):Prop where
 lo:0<s.c.spe.n
 hi:s.c.spe.n<=64
theorem Alm{s:Sto}(h:SpeOk s)(k:U):epV (k.n:Int) (s.c.spe.n:Int)=((s.ep k).n:Int):=by
 have h1:=h.lo
 have h2:=h.hi
 unfold epV
 rw[if_pos (by unfold fitsB;simp;omega)]
 rfl
theorem AeM(Γ:Gam)(s:Sto)(v:Sls)(k:U)(hs:SpeOk s)(w:World)(ok:Ok Γ w) :
  Calls Try.prog 58 #[.agg (fl (stP s v)).toArray,.int .u64 (k.n:Int)] w fun e w'=>e=.returned (.int .u64 ((s.ep k).n:Int))/\Ext Γ w Γ w':=by
 have M:=bx (MM.start ok)
 have EO:Bx (∀w,Calls Try.prog 60 #[.int .u64 (k.n:Int),.int .u64 (s.c.spe.n:Int)] w fun e w'=>e=.returned (.tuple #[.int .u64 ((s.ep k).n:Int),.int .i64 (epE (s.c.spe.n:Int))])/\w=w'):=
  ⟨fun w=>Alm hs k▸Afy (k.n:Int) (s.c.spe.n:Int) (by omega) (by have:=k.lt;omega) (by omega) (by have:=s.c.spe.lt;omega) w⟩
 clear ok hs
 go_enter Try.func58,Try.ntmps58
 go_wp2_with (first|(refine zBYo (AaL s v) ?_;clear M;intro w' g M)|refine zLDo (M.o.at0) ?_)
 refine(EO.o _).mono ?_
 rintro e1 w1 ⟨rfl,rfl⟩
 go_wp2_with fail
 go_ret
 exact⟨rfl,M.o.ext⟩
theorem Afq(Γ:Gam)(s:Sto)(v:Sls)(i:Int)(hs:SpeOk s)(w:World)(ok:Ok Γ w)(h:StG Γ v s) :
  Calls Try.prog 57 #[.agg (fl (stP s v)).toArray,.int .i64 i] w fun e w'=>e=.returned (.agg (fl (cpP (s.src i))).toArray)/\Ext Γ w Γ w':=by
 have M:=bx (MM.start ok)
 have LN:=bx h.nodes.n
 clear ok
 rcases AfQ s i with⟨h1,h2⟩|⟨k,hk,rfl,h1,h2⟩
 .have HR:Bx (s.src i=cp0):=⟨by unfold Sto.src;rw[h2]⟩
  have hni:i<0\/(0<=i/\(v.nodes.n:Int)<=i):=by have:=of_decide_eq_false h1;rw[LN.o];omega
  clear h1 h2 h
  rcases hni with hi|⟨hi,hi2⟩
  .go_enter Try.func57,Try.ntmps57
   go_wp2_with (first|((first|refine zBYo (AaL s v) ?_|refine zALo (Aig) ?_);clear M;intro w' g M)|((with_reducible refine Abe rfl 44 _ rfl [] (fl (cpP cp0)) ?_ (by kernel_rfl) ?_);rfl)|(refine zSSo M 0 (cpP cp0) (cpP cp0) (AaO _) (Afk _) ?_;clear M;intro w' M))
   rw[HR.o]
   exact zRb M.o.at0 ⟨rfl,M.o.ext⟩
  .have hd:decide (i<0)=false:=by simp;omega
   go_enter Try.func57,Try.ntmps57
   go_wp2_with (first|(refine zBYo (AaL s v) ?_;clear M;intro w' g M)|refine zLDo (M.o.at1) ?_|(refine zALo (Aig) ?_;clear M;intro w' g M)|((with_reducible refine Abe rfl 44 _ rfl [] (fl (cpP cp0)) ?_ (by kernel_rfl) ?_);rfl)|(refine zSSo M 0 (cpP cp0) (cpP cp0) (AaO _) (Afk _) ?_;clear M;intro w' M))
   rw[HR.o]
   exact zRb M.o.at0 ⟨rfl,M.o.ext⟩
 .have HS:Bx (s.src (k:Int)=s.srcN s.nodes[k]):=⟨by unfold Sto.src;rw[h2]⟩
  obtain⟨gn,hA,hc⟩:=h.nodes.at (fun x _=>AbF x) k hk
  have HC:=bx hc
  have HA:=bx (Ae9 hA)
  have hkn:k<v.nodes.n:=by rw[LN.o];exact hk
  have E1:=bx (fun(Γ:Gam) (x:U) w' (ok:Ok Γ w')=>AeM Γ s v x hs w' ok)
  have HV:Bx (s.srcN s.nodes[k]=if(s.ep s.nodes[k].b.slot).n<(s.ep s.now).n then s.nodes[k].b.pj else s.nodes[k].b.just):=⟨rfl⟩
  clear h1 h2 h hc hs
  generalize s.nodes[k]=x at *
  have hki:(k:Int)<(v.nodes.n:Int):=by omega
  have hk0:0<=(k:Int):=by omega
  have hd:decide ((k:Int)<0)=false:=by simp
  go_enter Try.func57,Try.ntmps57
  go_wp2_with (first|(refine zBYo (AaL s v) ?_;clear M;intro w' g M)|refine zLE M.o.at1 (HA.o) ?_|refine zRD (CL.of HC.o (AaG _) M.ok) ?_|((first|refine zALo (ztNo) ?_|refine zALo (Aig) ?_);clear M;intro w' g M)|(refine zSSo M 0 (noP x) (noP x) (AaG _) (AfR _) ?_;clear M;intro w' M))
  have Q1:=bx M.o.at2.cls
  have Q0:=bx M.o.at0.cls
  have EC:=bx (fun y:U=>clsE M.o fun w' ok=>E1.o _ y w' ok)
  refine zRG ?_
  repeat((go_big_quiet_want;first|(first|((first|refine zQL Q0.o (AaG _) ?_|refine zQL Q1.o (AaL _ _) ?_|refine zQC (AcR (EC.o x.b.slot)) Try.func58 ?_|refine zQC (AcR (EC.o s.now)) Try.func58 ?_);go_big_quiet_on;refine zNM ?_))|(refine zQO ?_;go_big_quiet_on)))
  (refine zQN ?_;clear M;intro w4 M)
  clear Q1 Q0 EC
  by_cases hlt:(s.ep x.b.slot).n<(s.ep s.now).n
  .have HV':=bx (HV.o.trans (if_pos hlt))
   have hlti:((s.ep x.b.slot).n:Int)<((s.ep s.now).n:Int):=by omega
   clear HV
   go_wp2_with (first|refine zLDo (M.o.at0) ?_|(refine zSSo M 1 (cpP x.b.pj) (cpP x.b.pj) (AaO _) (Afk _) ?_;clear M;intro w' M))
   rw[HS.o,HV'.o]
   exact zRb M.o.at1 ⟨rfl,M.o.ext⟩
  .have HV':=bx (HV.o.trans (if_neg hlt))
   have hlti:((s.ep s.now).n:Int)<=((s.ep x.b.slot).n:Int):=by omega
   clear HV
   go_wp2_with (first|refine zLDo (M.o.at0) ?_|(refine zSSo M 1 (cpP x.b.just) (cpP x.b.just) (AaO _) (Afk _) ?_;clear M;intro w' M))
   rw[HS.o,HV'.o]
   exact zRb M.o.at1 ⟨rfl,M.o.ext⟩
end
section
open Go.RowKit Old
theorem SlR.fz{α:Type}{f:α->List (List Value)}{ls:List Nat}{k:Nat}{Γ:Gam}{s:Sl}{xs:List α}(h:SlR Γ s xs.length (xs.flatMap fun x=>fl (f x)))(hl:∀x,(f x).map List.length=ls)(hk:ls.sum=k)(i:Nat)(hi:i<xs.length) :
  ∃g,s.v=.slice (some ⟨g,0,none⟩) s.n s.c/\Fz Γ g (i*k) (f xs[i]) ls:=by
 obtain⟨g,h1,h2⟩:=h.at (fun x _=>(AaX (hl x)).trans hk) i hi
 exact⟨g,by rw[<-h1],h2,hl _⟩
theorem StG.nodeAt{Γ:Gam}{v:Sls}{s:Sto}(h:StG Γ v s)(i:Nat)(hi:i<s.nodes.length):∃g,v.nodes.v=.slice (some ⟨g,0,none⟩) v.nodes.n v.nodes.c/\Fz Γ g (i*240) (noP s.nodes[i]) noL:=h.nodes.fz (f:=noP) AaG rfl i hi
theorem StG.orphAt{Γ:Gam}{v:Sls}{s:Sto}(h:StG Γ v s)(i:Nat)(hi:i<s.orph.length):∃g,v.orph.v=.slice (some ⟨g,0,none⟩) v.orph.n v.orph.c/\Fz Γ g (i*238) (blP s.orph[i]) blL:=h.orph.fz (f:=blP) AaY rfl i hi
def stU(e p:U):U:=if h:e.n*p.n<18446744073709551616 then⟨e.n*p.n,h⟩else u0
def stB(e p:U):Bool:=decide (e.n*p.n<18446744073709551616)
theorem AnU(e p:U)(h1:1<=p.n)(h2:p.n<=64):stV (e.n:Int) (p.n:Int)=((stU e p).n:Int)/\stE (e.n:Int) (p.n:Int)=if stB e p=true then 0 else 4:=by
 have hf:fitsB (p.n:Int)=true:=decide_eq_true (by omega)
 unfold stV stE mulV mulE stU stB
 rw[if_pos hf,if_pos hf]
 have e1:((e.n:Int)*(p.n:Int))=((e.n*p.n:Nat):Int):=by rw[Int.natCast_mul]
 rw[e1]
 by_cases h:e.n*p.n<18446744073709551616
 .rw[if_pos (by omega),if_pos (by omega),dif_pos h,if_pos (decide_eq_true h)]
  exact⟨rfl,rfl⟩
 .rw[if_neg (by omega),if_neg (by omega),dif_neg h,if_neg (by simpa using h)]
  exact⟨rfl,rfl⟩
def earB(s:Sto)(k:Nat)(e:U):Bool:=!stB e s.c.spe||decide ((s.nodes.getD k n0).b.slot.n<=(stU e s.c.spe).n)
def punI(s l:List Int):List Int:=l.foldl insI s
theorem AeU{α β:Type}(f:β->α->β)(b:β){l:List α}{k:Nat}(hk:k<l.length):(l.take (k+1)).foldl f b=f ((l.take k).foldl f b) l[k]:=by
 rw[List.take_succ_eq_append_getElem hk,List.foldl_append];rfl
theorem Aip(s l:List Int):(punI s l).length<=s.length+l.length:=by
 unfold punI
 induction l generalizing s with
 |nil=>simp
 |cons a t ih=>
  have h1:=ih (insI s a)
  have h2:=AgY s a
  simp only[List.foldl_cons,List.length_cons]
  omega
def PunP(Γ:Gam)(w:World)(l:List Int)(m:Int)(e:Ending)(w':World):Prop:=∃(A:Option Addr) (c:Nat) (Γ':Gam),e=.returned (.tuple #[.slice A l.length c,.int .i64 m])/\CapOk A l.length c/\SlG Γ' A l.length (ints .i64 l)/\Ext Γ w Γ' w'
def culI(x:Slh):List Int:=x.a.l.foldl (fun acc y=>if y∈x.b.l then insI acc y else acc) []
def culTo(x:Slh)(k:Nat):List Int:=(x.a.l.take k).foldl (fun acc y=>if y∈x.b.l then insI acc y else acc) []
theorem AiG(x:Slh)(k:Nat):(culTo x k).length<=k:=by
 induction k with
 |zero=>simp[culTo]
 |succ k ih=>
  rcases Nat.lt_or_ge k x.a.l.length with hk|hk
  .unfold culTo at ih |-
   rw[AeU _ _ hk]
   split
   .exact Nat.le_trans (AgY _ _) (by omega)
   .omega
  .unfold culTo at ih |-
   rw[List.take_of_length_le (by omega)]
   rw[List.take_of_length_le hk]at ih
   omega
def SlbP(Γ:Gam)(w:World)(e:Ending)(w':World):Prop:=∃r:Bool,e=.returned (.bool r)/\Ext Γ w Γ w'
structure Lt2(a b:Nat):Prop where
 i1:(a:Int)<(b:Int)
 i2:(a:Int)<=(b:Int)
 i3:((a:Int)==(b:Int))=false
 i4:((a:Int) != (b:Int))=true
 n1:a<b
 n2:a<=b
 m1:¬b<a
 m2:¬b<=a
 j1:¬(b:Int)<(a:Int)
 j2:¬(b:Int)<=(a:Int)
structure Eq2(a b:Nat):Prop where
 i1:((a:Int)==(b:Int))=true
 i2:((a:Int) != (b:Int))=false
 i3:(a:Int)<=(b:Int)
 i4:(b:Int)<=(a:Int)
 n1:a<=b
 n2:b<=a
 m1:¬a<b
 m2:¬b<a
 j1:¬(a:Int)<(b:Int)
 j2:¬(b:Int)<(a:Int)
theorem two2(a b:Nat):(a<b/\(a:Int)<(b:Int))\/(¬a<b/\¬(a:Int)<(b:Int)):=by omega
theorem tri3(a b:Nat):Lt2 a b\/Eq2 a b\/Lt2 b a:=by
 rcases Nat.lt_trichotomy a b with h|h|h
 .exact .inl ⟨by omega,by omega,by simp;omega,by simp;omega,h,by omega,by omega,by omega,by omega,by omega⟩
 .subst h;exact .inr (.inl ⟨by simp,by simp,by omega,by omega,by omega,by omega,by omega,by omega,by omega,by omega⟩)
 .exact .inr (.inr ⟨by omega,by omega,by simp;omega,by simp;omega,h,by omega,by omega,by omega,by omega,by omega⟩)
structure StrT(Pg:Program)(t:TypeId)(places:List (Nat × Nat))(Z:List (List Value))(ls:List Nat):Prop where
 eq:∀ps,Pg.built t ps=Instr.fill (places.toArray[·]?) (fl Z).toArray ps
 len:Z.map List.length=ls
theorem Aa3{Pg:Program}{t:TypeId}{places:List (Nat × Nat)}{Z:List (List Value)}{ls:List Nat}{fs:Array Field}(hu:Pg.underlying t=some (.struct fs))(hp:fs.toList.mapM (fun f=>(Pg.info? f.type).map fun i=>(f.offset,i.size))=some places)
  (hz:(Pg.info? t).bind (fun i=>i.zero.map (·.cells))=some (fl Z).toArray) (hl:Z.map List.length=ls):StrT Pg t places Z ls:=by
 refine⟨fun ps=>?_,hl⟩
 cases hi:Pg.info? t with
 |none=>rw[hi]at hz;cases hz
 |some i=>
  rw[hi]at hz
  cases hzz:i.zero with
  |none=>simp[hzz]at hz
  |some z=>
   simp only[Option.bind_some,hzz,Option.map_some,Option.some.injEq]at hz
   simp only[Program.built,hi,hu,hzz,hp,hz]
theorem AaD{place:Nat->Option (Nat × Nat)}{P0 P1 Q:List (List Value)}{ls:List Nat}{i:Nat}{v:Value}{rest:List (Nat × Value)}{o n k j:Nat}{R:Option (Array Value)}(hl:P0.map List.length=ls)(hp:place i=some (o,n))(hf:findPart ls o n=some (k,j))
  (hv:v.cells=(fl Q).toArray) (hQ:Q.map List.length=(ls.drop k).take j) (hP:P0.take k++Q++P0.drop (k+j)=P1) (h:P1.map List.length=ls->Instr.fill place (fl P1).toArray rest=R):Instr.fill place (fl P0).toArray ((i,v)::rest)=R:=by
 subst hP
 obtain⟨pre,post,e,h1,h2,h3⟩:=AaH hl hf
 have hn:(fl Q).length=n:=by rw[AaX hQ,<-AaX (Aat (AbA hl k) j),h2]
 have hl2:(P0.take k++Q++P0.drop (k+j)).map List.length=ls:=by
  rw[List.map_append,List.map_append,hQ,Aat hl,AbA hl,List.append_assoc,<-List.drop_drop,List.take_append_drop,List.take_append_drop]
 rw[<-h hl2,e,h3 Q]
 have hfold:v.cells.zipIdx.foldl (fun cs (x:Value × Nat)=>cs.setIfInBounds (pre.length+x.2) x.1) (pre++fl ((P0.drop k).take j)++post).toArray=(pre++fl Q++post).toArray:=by
  have:=AdJ pre.length (fl Q) (fl ((P0.drop k).take j)) pre post 0 (by rw[h2,hn]) (by omega)
  rw[hv,<-Array.foldl_toList,Array.toList_zipIdx]
  exact this
 rw[h1]at hfold
 rw[Instr.fill]
 simp only[hp]
 rw[if_neg (by rw[hv];simp;omega)]
 exact congrArg (fun c=>Instr.fill place c rest) hfold
def vo0:Vo:=⟨false,u0,r0⟩
theorem stVo:StrT Try.prog 116 [(0,1),(1,1),(2,32)] (voP vo0) [1,1,32]:=Aa3 Try.underlying116 (by kernel_rfl) (by kernel_rfl) (Aeb _)
theorem AmY(ep:U)(r:Rt):Try.prog.built 116 [(0,.bool true),(1,.int .u64 (ep.n:Int)),(2,.agg (rc r).toArray)]=some (vox ⟨true,ep,r⟩).toArray:=by
 rw[stVo.eq]
 refine AaD (Q:=[[.bool true]]) stVo.len rfl rfl rfl rfl rfl fun hl=>?_
 refine AaD (Q:=[[.int .u64 (ep.n:Int)]]) hl rfl rfl rfl rfl rfl fun hl=>?_
 refine AaD (Q:=[rc r]) hl rfl rfl rfl (lenR r) rfl fun hl=>?_
 rfl
section
variable {Γ0 Γ:Gam}{w0 w:World}{L:List Ent}{R:List RowE}{Pg:Program}{ops:Array Oper}{rest:List Oper}{op:Oper}{a:Act}{Q:Exit->Act->World->Prop}
theorem MM.putR{i g o:Nat}{P P':List (List Value)}{ls:List Nat}{pre old post cs:List Value}(M:MM Γ0 w0 Γ w L R)(hi:L[i]? = some ⟨g,P,ls⟩)(h1:fl P=pre++old++post)(ho:pre.length=o)(h2:old.length=cs.length)(hP:fl P'=pre++cs++post)(hl:P'.map List.length=ls) :
  w.there g o cs.length/\MM Γ0 w0 Γ (w.setCells g o cs) (L.set i ⟨g,P',ls⟩) R:=by
 have hh:=M.has _ (List.mem_of_getElem? hi)
 simp only at hh
 rw[h1]at hh
 obtain⟨q1,q2,q3⟩:=AbT g cs _ pre post w h2 hh
 rw[ho]at q1 q2 q3
 refine⟨fun t ht=>?_,M.write hi q2 (by rw[hP];exact q1) hl⟩
 rw[hh.cell,hh.frozen,<-ho,List.append_assoc,List.getElem?_append_right (by omega),Nat.add_sub_cancel_left,List.getElem?_append_left (by omega),List.getElem?_eq_getElem (by omega)]
 exact⟨rfl,rfl⟩
theorem Am0{g o n:Nat}{P:List (List Value)}{ls:List Nat}(M:MM Γ0 w0 Γ w L R)(i:Nat)(cs:List Value)(P':List (List Value)){pre old post:List Value}(h1:fl P=pre++old++post)(hpo:pre.length=o)(h2:old.length=cs.length)(hP:fl P'=pre++cs++post)(hl:P'.map List.length=ls)(hcn:cs.length=n)(h1c:One cs)
  {opsA:Array Oper} {ts:Array Value} {K:Act->World->Prop} {E:Prop} (hi:L[i]? = some ⟨g,P,ls⟩) {ty:TypeId} {x y:Operand} (ho:op.op=.store ty x y) (hx:a.eval x=.pointer (some ⟨g,o,none⟩))
  (hy:a.eval y=.agg cs.toArray) (rt:RowT Pg ty n) (hw:Region.wanted op (yielded opsA ts)=true)
  (h:∀w',MM Γ0 w0 Γ w' (L.set i ⟨g,P',ls⟩) R->K (a.put op.dst undef) w'):if Region.wanted op (yielded opsA ts)=true then op.wp Pg a w K Q else E:=by
 rw[if_pos hw]
 obtain⟨d,hu,hd⟩:=rt.ex
 obtain⟨q1,q3⟩:=M.putR hi h1 hpo h2 hP hl
 exact wp_store_mid ty x y ho g o cs.toArray hx hy (by simpa using q1) (by rw[List.size_toArray,hcn];exact Aac hu rt.n) (all_oneCell_toArray h1c) (by simpa using h _ q3)
end
theorem AmP{α:Type}{f:α->List Value}{n:Nat}{X:List α}(h:∀x,(f x).length=n){k:Nat}(hk:k<X.length)(rest:List Value) :
  X.flatMap f++rest=(X.take k).flatMap f++f X[k]++((X.drop (k+1)).flatMap f++rest)/\((X.take k).flatMap f).length=k*n:=by
 refine⟨?_,by rw[Aa2 (k:=n) _ (fun x _=>h x),List.length_take,Nat.min_eq_left (by omega)]⟩
 have e:X=X.take k++X[k]::X.drop (k+1):=by rw[<-List.drop_eq_getElem_cons hk,List.take_append_drop]
 refine(congrArg (fun l=>l.flatMap f++rest) e).trans ?_
 simp only[List.flatMap_append,List.flatMap_cons,List.append_assoc]
theorem Ajj{α:Type}{f:α->List Value}{X:List α}{k:Nat}(hk:k<X.length)(y:α)(rest:List Value) :
  (X.set k y).flatMap f++rest=(X.take k).flatMap f++f y++((X.drop (k+1)).flatMap f++rest):=by
 rw[List.set_eq_take_append_cons_drop,if_pos hk]
 simp
theorem AlF{w:World}{g:Nat}{pre mid post:List Value}(h:Has w g (pre++mid++post)):w.rangeAt g pre.length mid:=fun j u hu=>by
 rw[h.cell];exact Af2 j u hu
def castS(ep:U)(r:Rt)(s:List Vo × Int)(y:Int):List Vo × Int:=if(s.1.getD y.toNat vo0).has=false\/(s.1.getD y.toNat vo0).e.n<ep.n then(s.1.set y.toNat ⟨true,ep,r⟩,s.2+1)else s
def castV(vs:List Vo)(ep:U)(r:Rt)(l:List Int):List Vo × Int:=l.foldl (castS ep r) (vs,0)
theorem AiR(ep:U)(r:Rt)(s:List Vo × Int)(y:Int):(castS ep r s y).1.length=s.1.length/\s.2<=(castS ep r s y).2/\(castS ep r s y).2<=s.2+1:=by
 unfold castS;split<;>simp<;>omega
theorem AiQ(vs:List Vo)(ep:U)(r:Rt)(l:List Int):(castV vs ep r l).1.length=vs.length/\0<=(castV vs ep r l).2/\(castV vs ep r l).2<=l.length:=by
 unfold castV
 suffices h:∀(s:List Vo × Int),(l.foldl (castS ep r) s).1.length=s.1.length/\s.2<=(l.foldl (castS ep r) s).2/\(l.foldl (castS ep r) s).2<=s.2+l.length by simpa using h (vs,0)
 induction l with
 |nil=>intro s;simp
 |cons a t ih=>
  intro s
  have h1:=ih (castS ep r s a)
  have h2:=AiR ep r s a
  simp only[List.foldl_cons,List.length_cons]
  omega
theorem AjH{vs:List Vo}(h:∀v∈vs,v.has=false->v=vo0)(ep:U)(r:Rt)(l:List Int):∀v∈(castV vs ep r l).1,v.has=false->v=vo0:=by
 unfold castV
 suffices hs:∀(s:List Vo × Int),(∀v∈s.1,v.has=false->v=vo0)->∀v∈(l.foldl (castS ep r) s).1,v.has=false->v=vo0 by exact hs (vs,0) h
 induction l with
 |nil=>intro s hs;exact hs
 |cons a t ih=>
  intro s hs
  rw[List.foldl_cons]
  refine ih _ fun v hv=>?_
  unfold castS at hv
  split at hv
  .rcases List.mem_or_eq_of_mem_set hv with hv|rfl
   .exact hs v hv
   .intro e;cases e
  .exact hs v hv
theorem elVo:ElT Try.prog 62 116 34 48:=Acq Try.underlying62 (by kernel_rfl) (by decide) (by decide)
theorem ztVo:ZeroT Try.prog 116 (voP vo0) [1,1,32]:=⟨fun w=>by kernel_rfl,Aeb _⟩
def CastP(Γ:Gam)(w:World)(r:List Vo × Int)(e:Ending)(w':World):Prop:=∃(x:Sl) (Γ':Gam),e=.returned (.tuple #[x.v,.int .i64 r.2])/\SlR Γ' x r.1.length (r.1.flatMap vox)/\Ext Γ w Γ' w'
open Go.RowKit Old
def StP(Γ:Gam)(w:World)(s:Sto)(e:Ending)(w':World):Prop:=∃(v:Sls) (Γ':Gam),e=.returned (.agg (fl (stP s v)).toArray)/\StG Γ' v s/\Ext Γ w Γ' w'
theorem StP.mk{Γ Γ':Gam}{w w':World}{s:Sto}(v:Sls)(h:StG Γ' v s)(hx:Ext Γ w Γ' w'):StP Γ w s (.returned (.agg (fl (stP s v)).toArray)) w':=⟨v,Γ',rfl,h,hx⟩
def StE(Γ:Gam)(w:World)(er:Int)(s:Sto)(e:Ending)(w':World):Prop:=∃(v:Sls) (Γ':Gam),e=.returned (.tuple #[.agg (fl (stP s v)).toArray,.int .i64 er])/\StG Γ' v s/\Ext Γ w Γ' w'
theorem StE.mk{Γ Γ':Gam}{w w':World}{er:Int}{s:Sto}(v:Sls)(h:StG Γ' v s)(hx:Ext Γ w Γ' w'):StE Γ w er s (.returned (.tuple #[.agg (fl (stP s v)).toArray,.int .i64 er])) w':=⟨v,Γ',rfl,h,hx⟩
theorem stG0(Γ:Gam):StG Γ x0 st0:=⟨slR0 Γ,slR0 Γ,slR0 Γ,⟨[],rfl,fun _ h=>absurd h (by simp),slR0 Γ⟩,slR0 Γ,slR0 Γ,⟨⟨Nat.le_refl _,Nat.zero_le _,fun _=>rfl⟩,rfl,[],All2.nil,fun h=>absurd h (Nat.lt_irrefl _)⟩⟩
theorem StE.err{Γ Γ':Gam}{w w':World}{er:Int}(hx:Ext Γ w Γ' w'):StE Γ w er st0 (.returned (.tuple #[.agg (fl (stP st0 x0)).toArray,.int .i64 er])) w':=StE.mk x0 (stG0 _) hx
def Sto.balj(s:Sto):List U:=((s.tabs.find? fun t=>decide (t.c=s.just)).map (·.b)).getD []
theorem AnH{s:Sto}(h:idxI (fun t=>decide (t.c=s.just)) s.tabs = -1):s.balj = []:=by
 rcases AaV (fun t=>decide (t.c=s.just)) s.tabs with⟨_,h2⟩|⟨k,hk,h1,_⟩
 .unfold Sto.balj;rw[List.find?_eq_none.2 fun x hx=>by simpa using h2 x hx];rfl
 .omega
theorem Agu{s:Sto}{k:Nat}(hk:k<s.tabs.length)(h:idxI (fun t=>decide (t.c=s.just)) s.tabs=(k:Int)):s.balj=s.tabs[k].b:=by
 rcases AaV (fun t=>decide (t.c=s.just)) s.tabs with⟨h1,_⟩|⟨j,hj,h1,h2,h3⟩
 .omega
 .obtain rfl:j=k:=by omega
  have:s.tabs.find? (fun t=>decide (t.c=s.just))=some s.tabs[j]:=List.find?_eq_some_iff_getElem.2 ⟨h2,j,hj,rfl,fun i hi=>by simpa using h3 i hi⟩
  unfold Sto.balj;rw[this];rfl
def BalP(Γ:Gam)(w:World)(l:List U)(e:Ending)(w':World):Prop:=∃(A:Option Addr) (c:Nat),e=.returned (.slice A l.length c)/\CapOk A l.length c/\SlG Γ A l.length (us l)/\Ext Γ w Γ w'
def statR(N:List Nod)(r:Rt)(st:Int):Bool:=decide (0<=fndI N r)&&decide ((N.getD (fndI N r).toNat n0).st=st)
theorem Al8{N:List Nod}{r:Rt}{st:Int}(h:fndI N r = -1):statR N r st=false:=by unfold statR;rw[h];rfl
theorem Al9{N:List Nod}{r:Rt}{st:Int}{k:Nat}(h:fndI N r=(k:Int))(hk:k<N.length):statR N r st=decide (N[k].st=st):=by
 unfold statR;rw[h,decide_eq_true (show(0:Int)<=(k:Int)by omega),Int.toNat_natCast,nget hk];rfl
theorem Alh(N:List Nod)(r:Rt):fndI N r = -1\/∃k:Nat,∃_:k<N.length,fndI N r=(k:Int):=by
 rcases AaV (fun n:Nod=>decide (n.b.root=r)) N with⟨h1,_⟩|⟨k,hk,h1,_⟩
 .exact .inl h1
 .exact .inr ⟨k,hk,h1⟩
def safeR(s:Sto):Rt:=if statR s.nodes s.just.r 1=true then s.just.r else r0
theorem ztRt:ZeroT Try.prog 40 [rc r0] [32]:=⟨fun w=>by kernel_rfl,lenR _⟩
end
section
open Go.RowKit
theorem MM.lswap{Γ0 Γ:Gam}{w0 w:World}{L:List Ent}{R:List RowE}{a b:Ent}(M:MM Γ0 w0 Γ w (a::b::L) R):MM Γ0 w0 Γ w (b::a::L) R:=by
 have sw:∀{p:Ent},p∈b::a::L->p∈a::b::L:=fun h=>by
  simp only[List.mem_cons]at h |-;exact h.elim (fun h=>.inr (.inl h)) fun h=>h.elim .inl fun h=>.inr (.inr h)
 obtain⟨h1,h2⟩:=List.pairwise_cons.1 M.nd
 obtain⟨h3,h4⟩:=List.pairwise_cons.1 h2
 refine⟨M.ext,fun p h=>M.has p (sw h),fun p h=>M.len p (sw h),fun p h=>M.off p (sw h),fun p h=>M.lo p (sw h),List.pairwise_cons.2 ⟨fun p hp=>?_,List.pairwise_cons.2 ⟨fun p hp=>h1 p (List.mem_cons_of_mem _ hp),h4⟩⟩,M.rows,fun r h g hg=>⟨(M.roff r h g hg).1,fun p hp=>(M.roff r h g hg).2 p (sw hp)⟩,M.rnd⟩
 rcases List.mem_cons.1 hp with rfl|hp
 .exact fun e=>h1 b (List.mem_cons_self ..) e.symm
 .exact h3 p hp
theorem AkA{Pg:Program}{w:World}{fn:Func}{p q r:Tmp}{ty ty2:TypeId}(h:fn.results = #[.cell p ty,.cell q ty2,.tmp r])(tmps:Array Value){g n g2 n2:Nat}{P P2:List (List Value)}{ls ls2:List Nat}(H:HL w g P ls)(H2:HL w g2 P2 ls2)(hp:tmps.getD p undef=.pointer (some ⟨g,0,none⟩))(hq:tmps.getD q undef=.pointer (some ⟨g2,0,none⟩))(rt:RowT Pg ty n)(rt2:RowT Pg ty2 n2)(hn:ls.sum=n)(hn2:ls2.sum=n2) :
  (results fn tmps).run Pg w=.ok (.tuple #[.agg (fl P).toArray,.agg (fl P2).toArray,tmps.getD r undef]) w:=by
 obtain⟨d,hu,hd⟩:=rt.ex
 obtain⟨d2,hu2,hd2⟩:=rt2.ex
 have hp':tmps[p]?.getD undef=.pointer (some ⟨g,0,none⟩):=by simpa using hp
 have hq':tmps[q]?.getD undef=.pointer (some ⟨g2,0,none⟩):=by simpa using hq
 have h1:=Aa6 (P:=Pg) (g:=g) H.has hu (by cases d<;>first|rfl|cases hd) (by rw[rt.n,AaX H.len,hn])
 have h2:=Aa6 (P:=Pg) (g:=g2) H2.has hu2 (by cases d2<;>first|rfl|cases hd2) (by rw[rt2.n,AaX H2.len,hn2])
 simp[results,h,hp',hq',asAddr,h1,h2]
end
end Go.Proofs.Ytpaihpeoiliioaa
