/- Texts joined: what the walks of this claim stand on (part 23). -/
import Derived.Test.YtmgeheaneohldaaGreatJK4
set_option linter.all false
set_option maxRecDepth 20000
set_option maxHeartbeats 40000000
namespace Go.Proofs.YtmgeheaneohldaaGreat.Old
open Go.RowKit
theorem An5{P:Program}{ops:Array Oper}{rest:List Oper}{o:Oper}{a:Act}{w:World}{Q:Exit->Act->World->Prop}(hg:o.guard=none)(t:TypeId)(parts:Array (Nat × Operand))(ho:o.op=.build t parts)
  (ps:List (Nat × Value)) (cells:List Value) (hps:parts.toList.map (fun x=>(x.1,a.eval x.2))=ps) (hf:P.built t ps=some cells.toArray) (h:wpList P ops Q rest (a.put o.dst (.agg cells.toArray)) w):wpList P ops Q (o::rest) a w:=
 wpList_plain hg fun K hK=>by
  have e:(parts.map fun(i,x)=>(i,a.eval x))=ps.toArray:=Array.ext' (by rw[Array.toList_map];exact hps)
  have:=run_build (P:=P) w t ps.toArray cells.toArray hf
  unfold Oper.wp execOp
  simp only[ho,e,this,Sem.run_bind,Result.andThen_ok]
  exact hK _ _ h
end Go.Proofs.YtmgeheaneohldaaGreat.Old
namespace Go.Proofs.YtmgeheaneohldaaGreat.Old
open Go.RowKit
def addV(a b:Int):Int:=if a+b<18446744073709551616 then a+b else 0
def addE(a b:Int):Int:=if a+b<18446744073709551616 then 0 else 4
end Go.Proofs.YtmgeheaneohldaaGreat.Old
namespace Go.Proofs.YtmgeheaneohldaaGreat
theorem Aop{us:List Int}(h:Lk us){k:Nat}(hk:0<k):∀(f g j:Nat),j<us.length->j<=f->j<=g->hat us k f j=hat us k g j
 |0,g,j,_,hf,_=>by
  obtain rfl:j=0:=by omega
  cases g with
  |zero=>rfl
  |succ g=>simp[hat,hk]
 |f+1,0,j,_,_,hg=>by
  obtain rfl:j=0:=by omega
  simp[hat,hk]
 |f+1,g+1,j,hj,hf,hg=>by
  unfold hat
  by_cases hjk:j<k
  .rw[if_pos hjk,if_pos hjk]
  .rw[if_neg hjk,if_neg hjk]
   obtain⟨u,hu,e⟩:=h.up hj (by omega)
   rw[e,Int.toNat_natCast]
   exact Aop h hk f g u (by omega) (by omega) (by omega)
theorem ApZ{us:List Int}(h:Lk us){k:Nat}(hk:0<k):∀(f j:Nat),j<us.length->j<=f->hat us k f j<k/\hat us k f j<=j
 |0,j,_,hf=>by
  obtain rfl:j=0:=by omega
  exact⟨hk,Nat.le_refl _⟩
 |f+1,j,hj,hf=>by
  unfold hat
  by_cases hjk:j<k
  .rw[if_pos hjk];exact⟨hjk,Nat.le_refl _⟩
  .rw[if_neg hjk]
   obtain⟨u,hu,e⟩:=h.up hj (by omega)
   rw[e,Int.toNat_natCast]
   have:=ApZ h hk f u (by omega) (by omega)
   exact⟨this.1,by omega⟩
theorem AfA{us:List Int}{k i:Nat}{d:Nat->Int}:∀n,(∀j,j<n->0<=d j)->0<=own us k d i n
 |0,_=>Int.le_refl _
 |n+1,h=>by
  have:=AfA (us:=us) (k:=k) (i:=i) n (fun j hj=>h j (by omega))
  have:=h n (by omega)
  rw[own];split<;>omega
theorem Amc{us:List Int}{k i:Nat}{d e:Nat->Int}:∀n,own us k (fun j=>d j+e j) i n=own us k d i n+own us k e i n
 |0=>rfl
 |n+1=>by rw[own,own,own,Amc n];split<;>omega
theorem Amb{us:List Int}{k i:Nat}{d e:Nat->Int}:∀n,own us k (fun j=>d j-e j) i n=own us k d i n-own us k e i n
 |0=>rfl
 |n+1=>by rw[own,own,own,Amb n];split<;>omega
theorem Aiu{us:List Int}{k i:Nat}{d e:Nat->Int}:∀n,(∀j,j<n->d j=e j)->own us k d i n=own us k e i n
 |0,_=>rfl
 |n+1,h=>by rw[own,own,Aiu n (fun j hj=>h j (by omega)),h n (by omega)]
end Go.Proofs.YtmgeheaneohldaaGreat
namespace Go.Proofs.YtmgeheaneohldaaGreat.Old
open Go.RowKit
theorem ref_add(a b:Int)(ha:0<=a)(ha':a<18446744073709551616)(hb:0<=b)(hb':b<18446744073709551616)(w:World) :
  Calls Tryz.prog 63 #[.int .u64 a,.int .u64 b] w fun e w'=>e=.returned (.tuple #[.int .u64 (addV a b),.int .i64 (addE a b)])/\w=w':=by
 go_enter Tryz.func63,Tryz.ntmps63
 go_wp2
 .have h:18446744073709551615-b<a:=by assumption
  go_ret2
  unfold addV addE
  rw[if_neg (by omega),if_neg (by omega)]
  exact⟨rfl,rfl⟩
 .have h:a<=18446744073709551615-b:=by assumption
  go_ret2
  unfold addV addE
  rw[if_pos (by omega),if_pos (by omega)]
  exact⟨rfl,rfl⟩
def sumV(l:List Int):Int:=if l.sum<18446744073709551616 then l.sum else 0
def sumE(l:List Int):Int:=if l.sum<18446744073709551616 then 0 else 4
theorem sum_nonneg{l:List Int}(h:U64 l):0<=l.sum:=by
 induction l with
 |nil=>simp
 |cons a l ih=>
  have h1:=h a (by simp)
  have h2:=ih (fun x hx=>h x (by simp[hx]))
  simp only[List.sum_cons];omega
theorem Aje{l:List Int}(h:U64 l)(k:Nat):(l.take k).sum<=l.sum:=by
 have h1:(l.take k).sum+(l.drop k).sum=l.sum:=by rw[<-List.sum_append_int,List.take_append_drop]
 have h2:0<=(l.drop k).sum:=sum_nonneg fun x hx=>h x (List.mem_of_mem_drop hx)
 omega
theorem AhY{l:List Int}{k:Nat}(hk:k<l.length):(l.take (k+1)).sum=(l.take k).sum+l[k]:=by
 rw[List.take_succ_eq_append_getElem hk,List.sum_append_int];simp
theorem ref_sum(B:Nat)(A:Option Addr)(n c:Nat)(l:List Int)(w:World)(hr:Row w B 1 A n (ints .u64 l))(hl:U64 l)(hn:n<=9223372036854775807) :
  Calls Tryz.prog 37 #[.slice A n c] w fun e w'=>e=.returned (.tuple #[.int .u64 (sumV l),.int .i64 (sumE l)])/\w=w':=by
 have hlen:l.length=n:=by have:=hr.1;simpa [ints]using this
 go_enter Tryz.func37,Tryz.ntmps37
 go_wp2
 go_loop [4,5] (fun s i=>∃k:Nat,k<=n/\i=.int .i64 k/\s=.int .u64 (l.take k).sum/\(l.take k).sum<18446744073709551616) (fun _ i=>n-(intOf i).toNat)
 case atStart=>exact⟨0,Nat.zero_le _,rfl,by simp,by simp⟩
 case round=>
  obtain⟨k,hk,rfl,rfl,hlt⟩:=hrel
  have h0:0<=(l.take k).sum:=sum_nonneg fun x hx=>hl x (List.mem_of_mem_take hx)
  by_cases hkn:k<n
  .have hkl:k<l.length:=by omega
   have hu:(ints .u64 l)[k]? = some (.int .u64 l[k]):=by unfold ints;rw[List.getElem?_map,List.getElem?_eq_getElem hkl];rfl
   obtain⟨ad,rfl,hb,hc⟩:=hr.at_ hu
   have hx:=hl l[k] (List.getElem_mem hkl)
   have hs:Hid ((l.take (k+1)).sum=(l.take k).sum+l[k]):=AhY hkl
   have HC:=Lib.hid (fun w=>ref_add (l.take k).sum l[k] h0 hlt hx.1 hx.2 w)
   have htot:Hid ((l.take (k+1)).sum<=l.sum):=Aje hl _
   have hlen':=Lib.hid hlen
   clear hlen hu
   generalize(l.take k).sum=s at *
   generalize l[k]=x at *
   by_cases hov:s+x<18446744073709551616
   .have hv:addV s x=s+x:=by unfold addV;rw[if_pos hov]
    have he:addE s x=0:=by unfold addE;rw[if_pos hov]
    rw[hv,he]at HC
    clear hv he
    go_wp2_with (go_at_call 63;refine(HC.out _).mono ?_;rintro e w' ⟨rfl,rfl⟩)
    go_round
    case rel=>exact⟨k+1,by omega,by go_num,by rw[hs.out],by rw[hs.out];exact hov⟩
    case measure=>simp[intOf];omega
   .have hv:addV s x=0:=by unfold addV;rw[if_neg hov]
    have he:addE s x=4:=by unfold addE;rw[if_neg hov]
    rw[hv,he]at HC
    clear hv he
    go_wp2_with (go_at_call 63;refine(HC.out _).mono ?_;rintro e w' ⟨rfl,rfl⟩)
    go_ret2
    have h1:=hs.out
    have h2:=htot.out
    unfold sumV sumE
    rw[if_neg (by omega),if_neg (by omega)]
    exact⟨rfl,rfl⟩
  .have hkk:k=n:=by omega
   subst hkk
   have hfull:l.take k=l:=List.take_of_length_le (by omega)
   rw[hfull]at hlt |-
   have hv:sumV l=l.sum:=by unfold sumV;rw[if_pos hlt]
   have he:sumE l=0:=by unfold sumE;rw[if_pos hlt]
   have HV:=Lib.hid hv
   have HE:=Lib.hid he
   clear hv he hlen hfull
   go_wp2
   go_ret2
   rw[HV.out,HE.out]
   exact⟨rfl,rfl⟩
end Go.Proofs.YtmgeheaneohldaaGreat.Old
