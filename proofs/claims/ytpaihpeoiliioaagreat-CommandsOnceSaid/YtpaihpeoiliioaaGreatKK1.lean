/- Texts joined: what the walks of this claim stand on (part 1). -/
import Derived.WalkKit
import Derived.Below
import Derived.Deep.Draws
import Derived.Lib.Hide
import Derived.Laws.AppendOwn
import Derived.OwnWalk
import Derived.Maps.AppendAt
import Derived.ArgAppend
import Derived.Deep.MidRow
import Derived.Deep.QuietTactic
import Derived.BigQuiet
import Derived.Laws.MakeOwn
import Derived.StillTail
import Derived.Deep.RegionHeld3
import Derived.Great.Walk
import Derived.ChangeKeysEq
import Derived.Test.YtpaihpeoiliioaaGreatRows
import Derived.WalkLawsBesides
import Derived.Outline
import Derived.Handy
import Derived.Lib.BytesEntry
import Derived.Lib.Bytealg
import Derived.Laws.Externs
import Derived.Laws.AppendOwnNone
import Derived.DataElems
import Derived.Lib.BitFns
import Derived.Laws.Tables
import Derived.Deep.CutRange
import Derived.Shelf.Spec.BitsCarry
import Derived.Maps.OwnSet
import Derived.DeepKeys4
import Derived.Sort.Grow
import Derived.Deep.Cut
import Derived.Laws.OwnMore
import Derived.Shelf.Slices.Cells
import Derived.WalkMore
import Derived.Deep.CutBlock
set_option linter.all false
set_option maxRecDepth 20000
set_option maxHeartbeats 40000000
namespace Go.Proofs.YtpaihpeoiliioaaGreat
section
open Go.RowKit
structure Bx(p:Prop):Prop where
 out:p
theorem bx{p:Prop}(h:p):Bx p:=⟨h⟩
theorem AgG(a:Addr)(n:Nat):(a.add n).block=a.block:=by unfold Addr.add;split<;>rfl
def ints(k:IntKind)(l:List Int):List Value:=l.map (Value.int k)
def Fit(k:IntKind)(l:List Int):Prop:=∀x∈l,(Lit.int k x).wf=true
def Row(w:World)(B size:Nat)(A:Option Addr)(n:Nat)(xs:List Value):Prop:=
 xs.length=n*size/\∀j u,xs[j]? = some u->∃ad,A=some ad/\ad.block<B/\w.cell? (ad.add j)=some u
section
variable {w w':World}{B B' size n:Nat}{A:Option Addr}{xs:List Value}
theorem Row.nil(w:World)(B size:Nat)(A:Option Addr):Row w B size A 0 []:=⟨by simp,fun j u h=>by simp at h⟩
theorem Row.keep(h:Row w B size A n xs)(hk:∀p:Addr,p.block<B->w'.cell? p=w.cell? p):Row w' B size A n xs:=
 ⟨h.1,fun j u hu=>by
  obtain⟨ad,e,hb,hc⟩:=h.2 j u hu
  exact⟨ad,e,hb,(hk _ (by rw[AgG];exact hb)).trans hc⟩⟩
theorem Row.more(h:Row w B size A n xs)(hB:B<=B'):Row w B' size A n xs:=
 ⟨h.1,fun j u hu=>by
  obtain⟨ad,e,hb,hc⟩:=h.2 j u hu
  exact⟨ad,e,by omega,hc⟩⟩
theorem Row.below(h:Row w B size A n xs)(hb:Below B w w'):Row w' B size A n xs:=h.keep fun _ hp=>hb.cell hp
theorem Row.at_ {k:Nat}{u:Value}(h:Row w B 1 A n xs)(hk:xs[k]? = some u):∃ad,A=some ad/\ad.block<B/\w.cell? (ad.add k)=some u:=h.2 k u hk
theorem Row.own{base:Nat}{e:TypeId}{c:Nat}(h:w.ownsRow base e size (.slice A n c) n xs):Row w w.heap.size size A n xs:=by
 refine⟨h.1,fun j u hu=>?_⟩
 rcases h.2 with⟨hv,hn⟩|⟨g,cap,cur,hv,_,hh,_⟩
 .subst hn
  have:xs.length=0:=by simpa using h.1
  have:xs = []:=List.eq_nil_of_length_eq_zero this
  subst this
  simp at hu
 .have hA:A=some ⟨g,0,none⟩:=by injection hv
  subst hA
  exact⟨_,rfl,(Array.getElem?_eq_some_iff.1 hh).1,h.cells (g:=g) rfl j u hu⟩
end
theorem AqZ{P:Program}{f:FuncId}{args:Array Value}{w:World}{n:Nat}{v:Value}(h:Calls P f args (w.drewN n) fun e w'=>e=.returned v/\w.drewN n=w') :
  Calls P f args (w.drewN n) fun e w''=>e=.returned v/\∃m,w''=w.drewN m:=h.mono fun _ _ ⟨he,hm⟩=>⟨he,n,hm.symm⟩
theorem AdP{B:Nat}{a w:World}(h:Below B a w)(n:Nat):Below B a (w.drewN n):=⟨h.os,h.tape,h.output,h.size,h.block⟩
theorem Acv(w:World)(news:List Value)(e:TypeId):∀j u,news[j]? = some u->(w.alloc (.cells news.toArray e)).cell? ((⟨w.heap.size,0,none⟩:Addr).add j)=some u:=by
 intro j u hu
 have hadd:(⟨w.heap.size,0,none⟩:Addr).add j=⟨w.heap.size,j,none⟩:=by unfold Addr.add;split<;>simp_all
 rw[hadd,cell_of_row _ _ _ _ _ (0,0) (heap_alloc_new w _)]
 simpa using hu
theorem Ae0{w w':World}{o:Obj}{row:Option Nat}(h:(w.alloc o).grownBy w' row):w.grownBy w' row:=
 ⟨h.os,h.tape,h.output,Nat.le_trans (by simp) h.size,fun k hk hne=>(h.block k (by simp;omega) hne).trans (Below.heap_alloc w o k hk)⟩
def Apd(w:World)(base:Nat)(e:TypeId)(size:Nat)(v:Value)(n:Nat)(xs:List Value):Prop:=
 w.ownsRow base e size v n xs\/∃b o,v=.slice (some ⟨b,o,none⟩) n n/\b<w.heap.size/\xs.length=n*size/\∀j u,xs[j]? = some u->w.cell? ⟨b,o+j,none⟩=some u
section
variable {P:Program}{w:World}{base:Nat}{e:TypeId}{size:Nat}{v:Value}{n:Nat}{xs:List Value}
theorem Apd.alloc(h:Apd w base e size v n xs)(o:Obj):Apd (w.alloc o) base e size v n xs:=by
 rcases h with h|⟨b,q,h1,h2,h3,h4⟩
 .exact .inl (h.alloc o)
 .exact .inr ⟨b,q,h1,by simp;omega,h3,fun j u hu=>(World.cell?_alloc_lt w o _ h2).trans (h4 j u hu)⟩
theorem Ad5(b o j:Nat):(⟨b,o,none⟩:Addr).add j=⟨b,o+j,none⟩:=by unfold Addr.add;split<;>simp_all
theorem Apd.drew(h:Apd w base e size v n xs):Apd w.drew base e size v n xs:=h
theorem Ann(t ty:TypeId)(i:TypeInfo)(z:Value)(bytes:Nat)(ht:P.underlying t=some (.slice e))(hi:P.info? e=some i)(hz:i.zero=some z)
  (hsize:i.size=size) (hby:i.bytes=bytes) (hzs:z.cells.size=size) (hsz:0<size) (hown:Apd w base e size v n xs)
  (ad:Addr) (m c:Nat) (news:List Value) (hm:0<m) (hl:news.length=m*size) (hnews:∀j u,news[j]? = some u->w.cell? (ad.add j)=some u) (h1:∀u∈news,u.oneCell'=true)
  (h63:n+m<=maxLen) (hbytes:(n+m)*bytes<=140737488355328) (hbase:base<=w.heap.size) :
  ∃v' w',(Builtin.append_ #[t,t] ty #[v,.slice (some ad) m c]).run P w=.ok v' w'/\w'.ownsRow base e size v' (n+m) (xs++news)/\w.grownBy w' v.ownBlock/\Below base w w' /\
   (v'.ownBlock=v.ownBlock\/v'.ownBlock=some w.heap.size\/∃g,w.heap.size<=g/\v'.ownBlock=some g):=by
 rcases hown with hown|⟨b,o,rfl,hb,hlen,hcells⟩
 .obtain⟨v',w',q1,q2,q3,_,q5⟩:=run_append_own_at (P:=P) w base t ty e i z size bytes ht hi hz hsize hby hzs hsz v n xs hown ad m c news hl hnews h1 h63 hbytes hbase
  refine⟨v',w',q1,q2,q3,(Below.refl base w).grown q3 hbase fun k hk=>(hown.lt k hk).1,?_⟩
  rcases q5 with q5|q5
  .exact .inl q5
  .exact .inr (.inl q5)
 .obtain⟨v',w',q1,q2,q3⟩:=run_append_arg_grows (P:=P) w t ty e i z size bytes ht hi hz hsize hby hzs hsz ⟨b,o,none⟩ n n xs hlen (fun j u hu=>by rw[Ad5];exact hcells j u hu) ad m c news hl hnews (by omega) h63 hbytes
  have q2':w'.ownsRow base e size v' (n+m) (xs++news):=by
   refine⟨q2.1,?_⟩
   rcases q2.2 with h|⟨g,cap,cur,h1,h2,h3⟩
   .exact .inl h
   .exact .inr ⟨g,cap,cur,h1,by omega,h3⟩
  have hgr:w.grownBy w' (Value.ownBlock (.slice (some ⟨b,o,none⟩) n n)):=⟨q3.os,q3.tape,q3.output,q3.size,fun k hk _=>q3.block k hk (by simp)⟩
  refine⟨v',w',q1,q2',hgr,(Below.refl base w).grown q3 hbase fun k hk=>(by cases hk),.inr (.inr ?_)⟩
  rcases q2.2 with⟨h,h0⟩|⟨g,cap,cur,h1,h2,h3⟩
  .omega
  .exact⟨g,h2,by rw[h1];rfl⟩
theorem ApF{o:Oper}{a:Act}{K:Act->World->Prop}{Q:Exit->Act->World->Prop}(s x:Operand)(t:TypeId)
  (ho:o.op=.call {callee:=.builtin .append,args:=#[s,x],argTypes:=#[t,t]})
  (i:TypeInfo) (z:Value) (bytes:Nat) (ht:P.underlying t=some (.slice e)) (hi:P.info? e=some i) (hz:i.zero=some z)
  (hsize:i.size=size) (hby:i.bytes=bytes) (hzs:z.cells.size=size) (hsz:0<size) (hs:a.eval s=v) (hown:Apd w base e size v n xs)
  (ad:Addr) (m c:Nat) (news:List Value) (hx:a.eval x=.slice (some ad) m c) (hm:0<m) (hl:news.length=m*size) (hnews:∀j u,news[j]? = some u->w.cell? (ad.add j)=some u) (h1:∀u∈news,u.oneCell'=true)
  (h63:n+m<=maxLen) (hbytes:(n+m)*bytes<=140737488355328) (hbase:base<=w.heap.size)
  (h:∀v' w',w'.ownsRow base e size v' (n+m) (xs++news)->w.grownBy w' v.ownBlock->Below base w w'->(v'.ownBlock=v.ownBlock\/v'.ownBlock=some w.heap.size\/∃g,w.heap.size<=g/\v'.ownBlock=some g)->K (a.put o.dst v') w') :
  o.wp P a w K Q:=by
 obtain⟨v',w',hrun,q2,q3,q4,q5⟩:=Ann (P:=P) t o.type i z bytes ht hi hz hsize hby hzs hsz hown ad m c news hm hl hnews h1 h63 hbytes hbase
 unfold Oper.wp execOp
 simp only[ho,resolve,invoke,builtin,Sem.run_bind,Sem.run_pure,Result.andThen_ok,List.map_toArray,List.map_cons,List.map_nil,hs,hx,hrun]
 exact h v' w' q2 q3 q4 q5
theorem AcD{ops:Array Oper}{rest:List Oper}{o:Oper}{a:Act}{Q:Exit->Act->World->Prop}(hgd:o.guard=none)(s x:Operand)(t:TypeId)
  (ho:o.op=.call {callee:=.builtin .append,args:=#[s,x],argTypes:=#[t,t]})
  (i:TypeInfo) (z:Value) (bytes:Nat) (ht:P.underlying t=some (.slice e)) (hi:P.info? e=some i) (hz:i.zero=some z)
  (hsize:i.size=size) (hby:i.bytes=bytes) (hzs:z.cells.size=size) (hsz:0<size) (hs:a.eval s=v) (hown:Apd w base e size v n xs)
  (ad:Addr) (m c:Nat) (news:List Value) (hx:a.eval x=.slice (some ad) m c) (hm:0<m) (hl:news.length=m*size) (hnews:∀j u,news[j]? = some u->w.cell? (ad.add j)=some u) (h1:∀u∈news,u.oneCell'=true)
  (h63:n+m<=maxLen) (hbytes:(n+m)*bytes<=140737488355328) (hbase:base<=w.heap.size)
  (h:∀v' w',w'.ownsRow base e size v' (n+m) (xs++news)->w.grownBy w' v.ownBlock->Below base w w'->(v'.ownBlock=v.ownBlock\/v'.ownBlock=some w.heap.size\/∃g,w.heap.size<=g/\v'.ownBlock=some g)->wpList P ops Q rest (a.put o.dst v') w') :
  wpList P ops Q (o::rest) a w:=
 wpList_plain hgd fun _ hK=>ApF s x t ho i z bytes ht hi hz hsize hby hzs hsz hs hown ad m c news hx hm hl hnews h1 h63 hbytes hbase fun v' w' h2 h3 h4 h5=>hK _ _ (h v' w' h2 h3 h4 h5)
end
section
variable {P:Program}{w:World}
theorem Ac0{ops:Array Oper}{rest:List Oper}{o:Oper}{a:Act}{Q:Exit->Act->World->Prop}(hgd:o.guard=none)(s x:Operand)(t:TypeId)
  (ho:o.op=.call {callee:=.builtin .append,args:=#[s,x],argTypes:=#[t,t]})
  (base:Nat) (e:TypeId) (i:TypeInfo) (z:Value) (size bytes:Nat) (ht:P.underlying t=some (.slice e)) (hi:P.info? e=some i) (hz:i.zero=some z)
  (hsize:i.size=size) (hby:i.bytes=bytes) (hzs:z.cells.size=size) (hsz:0<size)
  (v:Value) (n:Nat) (xs:List Value) (hs:a.eval s=v) (hown:w.ownsRow base e size v n xs)
  (news:List Value) (hx:a.eval x=.slice (some ⟨w.heap.size,0,none⟩) 1 1) (hl:news.length=size) (h1:∀u∈news,u.oneCell'=true)
  (h63:n+1<=maxLen) (hbytes:(n+1)*bytes<=140737488355328) (hbase:base<=w.heap.size)
  (h:∀v' w',w'.ownsRow base e size v' (n+1) (xs++news)->w.grownBy w' v.ownBlock->Below base w w'->(v'.ownBlock=v.ownBlock\/v'.ownBlock=some (w.heap.size+1))->wpList P ops Q rest (a.put o.dst v') w') :
  wpList P ops Q (o::rest) a (w.alloc (.cells news.toArray e)):=by
 refine wpList_append_own_at (w:=w.alloc (.cells news.toArray e)) hgd s x t ho base e i z size bytes ht hi hz hsize hby hzs hsz v n xs hs (hown.alloc _) ⟨w.heap.size,0,none⟩ 1 1 news hx (by rw[hl,Nat.one_mul]) (Acv w news e) h1 h63 hbytes (by simp;omega) ?_
 intro v' w' h2 h3 _ h4
 have hg:=Ae0 h3
 refine h v' w' h2 hg ((Below.refl base w).grown hg hbase fun k hk=>(hown.lt k hk).1) ?_
 rcases h4 with h4|h4
 .exact .inl h4
 .exact .inr (by simpa using h4)
end
def Has(w:World)(g:Nat)(cs:List Value):Prop:=∃t,w.heap[g]? = some (.cells cs.toArray t (0,0))
section
variable {w w':World}{g:Nat}{cs:List Value}
theorem Has.lt(h:Has w g cs):g<w.heap.size:=by
 obtain⟨t,h⟩:=h
 exact(Array.getElem?_eq_some_iff.1 h).1
theorem Has.new(w:World)(cs:List Value)(t:TypeId):Has (w.alloc (.cells cs.toArray t)) w.heap.size cs:=⟨t,heap_alloc_new w _⟩
theorem Has.alloc(h:Has w g cs)(o:Obj):Has (w.alloc o) g cs:=by
 have hl:=h.lt
 obtain⟨t,h⟩:=h
 exact⟨t,(Below.heap_alloc w o g hl).trans h⟩
theorem Has.drew(h:Has w g cs):Has w.drew g cs:=h
theorem Has.below{B:Nat}(h:Has w g cs)(hb:Below B w w')(hg:g<B):Has w' g cs:=by
 obtain⟨t,h⟩:=h
 exact⟨t,(hb.block g hg).trans h⟩
theorem Has.grown{row:Option Nat}(h:Has w g cs)(hb:w.grownBy w' row)(hg:some g≠row):Has w' g cs:=by
 have hl:=h.lt
 obtain⟨t,h⟩:=h
 exact⟨t,(hb.block g hl hg).trans h⟩
theorem Has.cell(h:Has w g cs)(i:Nat):w.cell? ⟨g,i,none⟩=cs[i]?:=by
 obtain⟨t,h⟩:=h
 rw[cell_of_row w g i _ t (0,0) h]
 simp
theorem Has.frozen(h:Has w g cs)(i:Nat):w.frozen? ⟨g,i,none⟩=false:=by
 obtain⟨t,h⟩:=h
 simp[World.frozen?,h]
theorem Has.set(h:Has w g cs)(i:Nat)(u:Value):Has (w.setCell ⟨g,i,none⟩ u) g (cs.set i u):=by
 obtain⟨t,h⟩:=h
 refine⟨t,?_⟩
 simp[World.setCell,Array.getElem?_modify,h]
theorem Has.far(h:Has w g cs){p:Addr}(hp:g≠p.block)(u:Value):Has (w.setCell p u) g cs:=by
 obtain⟨t,h⟩:=h
 exact⟨t,(Below.heap_setCell w p u g hp).trans h⟩
theorem Ab1{P:Program}{ops:Array Oper}{rest:List Oper}{o:Oper}{a:Act}{w:World}{Q:Exit->Act->World->Prop}(hw:Region.wanted o (yielded ops a.tmps)=true)
  (h:∀K:Act->World->Prop,(∀a w,wpList P ops Q rest a w->K a w)->o.wp P a w K Q):wpList P ops Q (o::rest) a w:=
 wpList_step fun K hK=>by rw[if_pos hw];exact h K hK
theorem AbS{P:Program}{ty:TypeId}{d:TypeDesc}{n:Nat}(hu:P.underlying ty=some d)(hi:P.cellsOf ty=n):(P.info? ty).map (·.size)=some n:=by
 have:(P.info? ty).isSome=true:=by
  unfold Program.underlying at hu
  cases hq:P.info? ty with
  |none=>rw[hq]at hu;simp at hu
  |some i=>rfl
 obtain⟨i,hq⟩:=Option.isSome_iff_exists.1 this
 have hs:i.size=n:=by rw[<-hi,Program.cellsOf,hq];rfl
 rw[hq,Option.map_some,hs]
theorem Aaj{P:Program}{ops:Array Oper}{rest:List Oper}{o:Oper}{a:Act}{Q:Exit->Act->World->Prop}(ty:TypeId)(x:Operand)(ho:o.op=.load ty x)
  (g:Nat) (cs:List Value) (hgd:Region.wanted o (yielded ops a.tmps)=true) (hx:a.eval x=.pointer (some ⟨g,0,none⟩)) (hg:Has w g cs) {d:TypeDesc}
  (hu:P.underlying ty=some d) (hd:(match d with|.struct _|.array _ _=>true|_=>false)=true) (hi:P.cellsOf ty=cs.length)
  (h:wpList P ops Q rest (a.put o.dst (.agg cs.toArray)) w):wpList P ops Q (o::rest) a w:=by
 obtain⟨t,hg⟩:=hg
 refine Ab1 hgd fun K hK=>wp_load_row ty x ho g hx t cs.toArray (0,0) d hg hu hd ?_ (hK _ _ h)
 simpa using AbS hu hi
theorem AbI(w:World)(g i:Nat)(u:Value):w.grownBy (w.setCell ⟨g,i,none⟩ u) (some g):=
 ⟨rfl,rfl,rfl,by simp[World.setCell],fun k _ hne=>Below.heap_setCell w ⟨g,i,none⟩ u k (fun e=>hne (by rw[e]))⟩
theorem Afo{w w1 w2:World}{row:Option Nat}(h:w.grownBy w1 row)(h':w1.grownBy w2 row):w.grownBy w2 row:=
 ⟨h'.os.trans h.os,h'.tape.trans h.tape,h'.output.trans h.output,Nat.le_trans h.size h'.size,fun k hk hne=>(h'.block k (Nat.lt_of_lt_of_le hk h.size) hne).trans (h.block k hk hne)⟩
theorem AcZ(g:Nat):∀(vs mid pre post:List Value) (w:World),mid.length=vs.length->Has w g (pre++mid++post) ->
  Has (w.setCells g pre.length vs) g (pre++vs++post)/\w.grownBy (w.setCells g pre.length vs) (some g)/\(w.setCells g pre.length vs).heap.size=w.heap.size
 |[],mid,pre,post,w,hl,h=>by
  have:mid = []:=List.eq_nil_of_length_eq_zero (by simpa using hl)
  subst this
  exact⟨h,World.grownBy.refl _ _,rfl⟩
 |v::vs,[],pre,post,w,hl,h=>by simp at hl
 |v::vs,m::mid,pre,post,w,hl,h=>by
  have h1:=h.set pre.length v
  have e1:(pre++(m::mid)++post).set pre.length v=(pre ++ [v])++mid++post:=by simp
  rw[e1]at h1
  obtain⟨q1,q2,q3⟩:=AcZ g vs mid (pre ++ [v]) post _ (by simpa using hl) h1
  have e2:(pre ++ [v]).length=pre.length+1:=by simp
  rw[e2]at q1 q2 q3
  refine⟨by have q1':Has (w.setCells g pre.length (v::vs)) g (pre ++ [v]++vs++post):=q1;simpa using q1',Afo (AbI w g pre.length v) q2,?_⟩
  show((w.setCell ⟨g,pre.length,none⟩ v).setCells g (pre.length+1) vs).heap.size=_
  rw[q3]
  simp[World.setCell]
theorem AeC{P:Program}{ops:Array Oper}{rest:List Oper}{o:Oper}{a:Act}{Q:Exit->Act->World->Prop}(hgd:o.guard=none)(ty:TypeId)(x y:Operand)(ho:o.op=.store ty x y)
  (g:Nat) (cs old:List Value) (hx:a.eval x=.pointer (some ⟨g,0,none⟩)) (hy:a.eval y=.agg cs.toArray) (hg:Has w g old) (hl:old.length=cs.length) {d:TypeDesc}
  (hu:P.underlying ty=some d) (hi:P.cellsOf ty=cs.length) (h1:∀u∈cs,u.oneCell'=true)
  (h:∀w',Has w' g cs->w.grownBy w' (some g)->w'.heap.size=w.heap.size->wpList P ops Q rest (a.put o.dst undef) w'):wpList P ops Q (o::rest) a w:=by
 have hsz:(P.info? ty).map (·.size)=some cs.toArray.size:=by
  have:(P.info? ty).isSome=true:=by
   unfold Program.underlying at hu
   cases hq:P.info? ty with
   |none=>rw[hq]at hu;simp at hu
   |some i=>rfl
  obtain⟨i,hq⟩:=Option.isSome_iff_exists.1 this
  have hs:i.size=cs.length:=by rw[<-hi,Program.cellsOf,hq];rfl
  rw[hq,Option.map_some,hs]
  simp
 have ht:w.there g 0 cs.toArray.size:=fun j hj=>by
  have hj':j<old.length:=by rw[hl];simpa using hj
  rw[Nat.zero_add,hg.cell j,hg.frozen j,List.getElem?_eq_getElem hj']
  exact⟨rfl,rfl⟩
 refine wpList_store_mid hgd ty x y ho g 0 cs.toArray hx hy ht hsz (all_oneCell_toArray h1) ?_
 obtain⟨q1,q2,q3⟩:=AcZ g cs old [] [] w hl (by simpa using hg)
 exact h _ (by simpa using q1) (by simpa using q2) (by simpa using q3)
theorem Ab2{P:Program}{ty:TypeId}(hg:Has w g cs){d:TypeDesc}
  (hu:P.underlying ty=some d) (hd:(match d with|.struct _|.array _ _=>true|_=>false)=true) (hi:P.cellsOf ty=cs.length):(loadVar ty ⟨g,0,none⟩).run P w=.ok (.agg cs.toArray) w:=by
 obtain⟨t,hg⟩:=hg
 refine run_loadVar_row w g t ty cs.toArray (0,0) d hg hu hd ?_
 have:(P.info? ty).isSome=true:=by
  unfold Program.underlying at hu
  cases hq:P.info? ty with
  |none=>rw[hq]at hu;simp at hu
  |some i=>rfl
 obtain⟨i,hq⟩:=Option.isSome_iff_exists.1 this
 have hs:i.size=cs.length:=by rw[<-hi,Program.cellsOf,hq];rfl
 rw[hq,Option.map_some,hs]
 simp
theorem Ah1{P:Program}{fn:Func}{p:Tmp}{ty:TypeId}(h:fn.results = #[.cell p ty])(tmps:Array Value)(hp:tmps.getD p undef=.pointer (some ⟨g,0,none⟩))(hg:Has w g cs){d:TypeDesc}
  (hu:P.underlying ty=some d) (hd:(match d with|.struct _|.array _ _=>true|_=>false)=true) (hi:P.cellsOf ty=cs.length) :
  (results fn tmps).run P w=.ok (.agg cs.toArray) w:=by
 have hp':tmps[p]?.getD undef=.pointer (some ⟨g,0,none⟩):=by simpa using hp
 simp[results,h,hp',asAddr,Ab2 hg hu hd hi]
theorem Aey{P:Program}{fn:Func}{p q:Tmp}{ty:TypeId}(h:fn.results = #[.cell p ty,.tmp q])(tmps:Array Value)(hp:tmps.getD p undef=.pointer (some ⟨g,0,none⟩))(hg:Has w g cs){d:TypeDesc}
  (hu:P.underlying ty=some d) (hd:(match d with|.struct _|.array _ _=>true|_=>false)=true) (hi:P.cellsOf ty=cs.length) :
  (results fn tmps).run P w=.ok (.tuple #[.agg cs.toArray,tmps.getD q undef]) w:=by
 have hp':tmps[p]?.getD undef=.pointer (some ⟨g,0,none⟩):=by simpa using hp
 simp[results,h,hp',asAddr,Ab2 hg hu hd hi]
end
def Cls(B:Nat)(W:World):World->Prop:=fun w'=>Below B W w'
theorem Cls.o{B:Nat}{W w':World}(h:Cls B W w'):Below B W w':=h
theorem Cls.refl(B:Nat)(W:World):Cls B W W:=Below.refl _ _
theorem Cls.drew(B:Nat)(W:World):Cls B W {W with drawn:=W.drawn+1}:=(Below.refl B W).drew
theorem Cls.same{P:Program}{B:Nat}{W w:World}{f:FuncId}{args:Array Value}{v:Value}(hw:Cls B W w)(h:Calls P f args w fun e w'=>e=.returned v/\w=w') :
  Calls P f args w fun e w'=>e=.returned v/\Cls B W w':=h.mono fun _ _ ⟨he,hb⟩=>⟨he,by subst hb;exact hw⟩
theorem Aa3{P:Program}{id:Nat}{Q:Exit->Act->World->Prop}{a:Act}{W:World}{l:List Oper}(B:Nat)(hm:P.follows .mixedOrders=true)(hB:Region.lexB .any l.toArray=true)
  (h:wpQuiet P l.toArray (Cls B W) (fun a'=>∀w',Cls B W w'->Q .normal a' w') l a):(Code.region id l.toArray true).wp P Q a W:=
 wp_region_quiet (C:=Cls B W) hm hB (Cls.drew B W) (by simpa using h)
theorem Abu{P:Program}{C:World->Prop}{o:Oper}{a:Act}{K:Act->Prop}(ty:TypeId)(x:Operand)(ho:o.op=.load ty x)(g:Nat)(cs:List Value)
  (hx:a.eval x=.pointer (some ⟨g,0,none⟩)) (hg:∀w,C w->Has w g cs) {d:TypeDesc}
  (hu:P.underlying ty=some d) (hd:(match d with|.struct _|.array _ _=>true|_=>false)=true) (hi:P.cellsOf ty=cs.length)
  (hk:K (a.put o.dst (.agg cs.toArray))):o.quiet P a C K:=by
 refine⟨_,fun w hw=>?_,hk⟩
 unfold Oper.quietAt execOp
 have:=Ab2 (P:=P) (hg w hw) hu hd hi
 simp only[ho,hx,Instr.loadAt,Instr.sureAddr,Sem.run_bind,Sem.run_pure,Result.andThen_ok,this]
 exact⟨rfl,rfl⟩
end
section
theorem Bx.o{p:Prop}(h:Bx p):p:=h.out
section
variable {α:Type}{f:α->List Value}{k:Nat}
theorem Aah:∀(xs:List α),(∀x∈xs,(f x).length=k)->(xs.flatMap f).length=xs.length*k
 |[],_=>by simp
 |x::xs,h=>by
  rw[List.flatMap_cons,List.length_append,h x (by simp),Aah xs (fun y hy=>h y (by simp[hy])),List.length_cons,Nat.succ_mul]
  omega
theorem Abv:∀(xs:List α) (i:Nat) (hi:i<xs.length),xs.flatMap f=(xs.take i).flatMap f++f xs[i]++(xs.drop (i+1)).flatMap f
 |x::xs,0,_=>by simp
 |x::xs,i+1,hi=>by
  have:=Abv xs i (by simpa using hi)
  simp only[List.flatMap_cons,List.take_succ_cons,List.drop_succ_cons,List.getElem_cons_succ,this,List.append_assoc]
theorem AhR:∀(xs:List α) (i:Nat) (v:α),i<xs.length->(xs.set i v).flatMap f=(xs.take i).flatMap f++f v++(xs.drop (i+1)).flatMap f
 |x::xs,0,v,_=>by simp
 |x::xs,i+1,v,hi=>by
  have:=AhR xs i v (by simpa using hi)
  simp only[List.set_cons_succ,List.flatMap_cons,List.take_succ_cons,List.drop_succ_cons,this,List.append_assoc]
theorem Ac6(xs:List α)(i:Nat)(hi:i<xs.length)(hk:∀x∈xs,(f x).length=k):((xs.take i).flatMap f).length=i*k:=by
 rw[Aah _ (fun x hx=>hk x (List.mem_of_mem_take hx)),List.length_take,Nat.min_eq_left (Nat.le_of_lt hi)]
theorem AhS(xs:List α)(hk:∀x∈xs,(f x).length=k)(i j:Nat)(hi:i<xs.length)(hj:j<k):(xs.flatMap f)[i*k+j]? = (f xs[i])[j]?:=by
 rw[Abv xs i hi,<-Ac6 xs i hi hk,List.append_assoc,List.getElem?_append_right (by omega),Nat.add_sub_cancel_left,List.getElem?_append_left (by rw[hk _ (List.getElem_mem hi)];exact hj)]
theorem Afi(f:α->List Value)(x:α)(z:Array Value)(hz:z.toList=f x)(hk:(f x).length=k)(h0:0<k)(n:Nat):madeCells z (n*k)=((List.replicate n x).flatMap f).toArray:=by
 have hs:z.size=k:=by rw[<-hk,<-hz];simp
 have hall:∀y∈List.replicate n x,(f y).length=k:=fun y hy=>by rw[List.eq_of_mem_replicate hy];exact hk
 apply Array.ext
 .rw[size_madeCells,List.size_toArray,Aah _ hall];simp
 .intro j h1 h2
  rw[size_madeCells]at h1
  have hi:j / k<n:=Nat.div_lt_of_lt_mul (by rw[Nat.mul_comm];exact h1)
  have hm:j%k<k:=Nat.mod_lt _ h0
  have hg:=AhS (f:=f) (List.replicate n x) hall (j / k) (j%k) (by simpa using hi) hm
  have hj:j / k*k+j%k=j:=by rw[Nat.mul_comm];exact Nat.div_add_mod j k
  rw[hj]at hg
  have h3:((List.replicate n x).flatMap f).toArray[j]=((List.replicate n x).flatMap f)[j]'(by simpa using h2):=by simp
  have h4:(madeCells z (n*k))[j]'(by rw[size_madeCells];exact h1)=z[j%z.size]!:=by simp[madeCells]
  rw[h3,h4]
  have h5:=(List.getElem?_eq_getElem (l:=(List.replicate n x).flatMap f) (by simpa using h2)).symm.trans hg
  have h6:j%k<(f x).length:=by omega
  simp only[List.getElem_replicate]at h5
  rw[List.getElem?_eq_getElem h6]at h5
  injection h5 with h5
  rw[h5,hs,getElem!_pos z (j%k) (by omega)]
  have:z[j%k]'(by omega)=z.toList[j%k]'(by simp;omega):=by simp
  rw[this]
  simp only[hz]
end
theorem Ae9(n:Nat):∀(l mid pre post:List Value) (k:Nat),mid.length=l.length->n+k=pre.length ->
  (l.zipIdx k).foldl (fun(cs:Array Value) x=>cs.setIfInBounds (n+x.2) x.1) (pre++mid++post).toArray=(pre++l++post).toArray
 |[],mid,pre,post,k,hm,hk=>by
  obtain rfl:mid = []:=List.eq_nil_of_length_eq_zero (by simpa using hm)
  rfl
 |v::l,[],pre,post,k,hm,hk=>by simp at hm
 |v::l,m::mid,pre,post,k,hm,hk=>by
  have:=Ae9 n l mid (pre ++ [v]) post (k+1) (by simpa using hm) (by simp;omega)
  simp only[List.zipIdx_cons,List.foldl_cons]
  rw[hk]
  have e:(pre++m::mid++post).toArray.setIfInBounds pre.length v=(pre ++ [v]++mid++post).toArray:=by simp
  rw[e,this]
  simp
section
variable {α:Type}{f:α->List Value}{k:Nat}
theorem Has.rangeP{w:World}{g:Nat}{xs:List α}{post:List Value}(h:Has w g (xs.flatMap f++post))(hk:∀x∈xs,(f x).length=k)(i:Nat)(hi:i<xs.length):w.rangeAt g (i*k) (f xs[i]):=by
 intro j u hu
 rw[h.cell,Abv xs i hi,<-Ac6 xs i hi hk,List.append_assoc,List.append_assoc,List.getElem?_append_right (by omega),Nat.add_sub_cancel_left]
 have hj:j<(f xs[i]).length:=(List.getElem?_eq_some_iff.1 hu).1
 rw[List.getElem?_append_left hj]
 exact hu
theorem Aem{P:Program}{ops:Array Oper}{rest:List Oper}{op:Oper}{a:Act}{w:World}{Q:Exit->Act->World->Prop}(ty:TypeId)(x:Operand)(ho:op.op=.load ty x)
  (hgd:Region.wanted op (yielded ops a.tmps)=true) (g:Nat) (xs:List α) (i:Nat) (hx:a.eval x=.pointer (some ⟨g,i*k,none⟩)) (post:List Value) (hg:Has w g (xs.flatMap f++post)) (hk:∀x∈xs,(f x).length=k)
  (hi:i<xs.length) {d:TypeDesc} (hu:P.underlying ty=some d) (hd:d.isRow=true) (hc:P.cellsOf ty=k)
  (h:wpList P ops Q rest (a.put op.dst (.agg (f xs[i]).toArray)) w):wpList P ops Q (op::rest) a w:=by
 refine Ab1 hgd fun K hK=>wp_load_mid ty x ho g (i*k) hx (f xs[i]) d (hg.rangeP hk i hi) hu hd ?_ (hK _ _ h)
 rw[hk _ (List.getElem_mem hi)]
 exact AbS hu hc
end
end
section
open Go.RowKit
def isPure:Op->Bool
 |.move _|.assign _|.pick ..|.load ..|.binOp ..|.unOp ..|.convert ..|.slice ..|.fieldAddr ..|.field ..|.indexAddr ..|.index ..|.extract ..|.build ..|.lookup ..|.nilCheck _=>true
 |.call c=>match c.callee with|.builtin .len=>true|.builtin .cap=>true|.builtin .min=>true|.builtin .max=>true|_=>false
 |_=>false
theorem AiF{r:Result Value}{w':World}{f:FuncId}{args:Array Value}:(r.andThen fun a w'=>.ok (Next.value a) w') ≠ .ok (.enter f args) w':=by
 intro h
 cases r with
 |ok v w1=>simp[Result.andThen]at h
 |halt x w1=>simp[Result.andThen]at h
theorem Apg{P:Program}{ρ:Operand->Value}{o:Oper}(h:isPure o.op=true){w w':World}{f:FuncId}{args:Array Value}:(execOp ρ o).run P w ≠ .ok (.enter f args) w':=by
 unfold execOp
 cases ho:o.op
 all_goals first
  |(rw[ho]at h;cases h;done)
  |skip
 case call c=>
  rw[ho]at h
  simp only[isPure]at h
  cases hc:c.callee with
  |value f=>rw[hc]at h;cases h
  |invoke r n=>rw[hc]at h;cases h
  |builtin b=>
   rw[hc]at h
   cases b<;>first
    |(cases h;done)
    |(simp only[resolve,hc,Sem.run_bind,Sem.run_pure,Result.andThen_ok,invoke,builtin]
      exact AiF)
 case pick c a b=>
  simp only[Sem.run_bind]
  intro h
  cases hs:(asBool (ρ c)).run P w with
  |ok v w1=>simp[hs,Result.andThen]at h
  |halt x w1=>simp[hs,Result.andThen]at h
 case nilCheck x=>
  have hp:(runtimePanic .nilDeref:Sem Next).run P w ≠ .ok (.enter f args) w':=by
   simp[runtimePanic,goPanic,go_sem]
  dsimp only
  generalize ρ x=v
  cases v with
  |pointer ad=>cases ad with
   |none=>exact hp
   |some ad=>simp
  |nilIface=>exact hp
  |nilFunc=>exact hp
  |func fn first captured=>
   cases fn with
   |method name=>
    dsimp only
    cases hx:first[0]? with
    |none=>simp
    |some u=>cases u with
     |nilIface=>exact hp
     |iface t w0=>
      dsimp only
      simp only[Sem.run_bind]
      intro hh
      cases hr:(program:Sem Program).run P w with
      |halt y w1=>rw[hr]at hh;cases hh
      |ok pr w1=>
       rw[hr]at hh
       simp only[Result.andThen_ok]at hh
       cases hq:(nilAhead (pr.types.size+Made.depth) t w0 name).run P w1 with
       |halt y w2=>rw[hq]at hh;cases hh
       |ok q w2=>
        rw[hq]at hh
        simp only[Result.andThen_ok]at hh
        by_cases hc:(q != some false)=true
        .simp[hc,Sem.run_bind]at hh
        .simp[hc,Sem.run_bind]at hh
     |_=>simp
   |_=>simp
  |_=>simp
 all_goals first
  |(simp only[Sem.run_bind,Sem.run_pure];exact AiF)
  |(simp;done)
def PureAt(P:Program)(o:Oper)(a:Act)(w:World)(v:Value):Prop:=(execOp a.eval o).run P w=.ok (.value v) w\/((execOp a.eval o).run P w=.ok .skip w/\v=undef)
theorem Ab5{P:Program}{o:Oper}{a:Act}{C:World->Prop}{w:World}{v:Value}(hp:isPure o.op=true)(h:o.quietAt P a C w v):PureAt P o a w v:=by
 unfold Oper.quietAt at h
 unfold PureAt
 have hn:=fun(w':World) f args=>Apg (P:=P) (ρ:=a.eval) hp (w:=w) (w':=w') (f:=f) (args:=args)
 generalize(execOp a.eval o).run P w=r at *
 cases r with
 |ok n w'=>
  cases n<;>simp only[Oper.quietUpon]at h
  case value u=>obtain⟨rfl,rfl⟩:=h;exact .inl rfl
  case skip=>obtain⟨rfl,rfl⟩:=h;exact .inr ⟨rfl,rfl⟩
  case enter f args=>exact absurd rfl (hn _ _ _)
 |halt x w'=>simp only[Oper.quietUpon]at h
section
variable {P:Program}{ops:Array Oper}{md:Region.Mode}{Q:Exit->Act->World->Prop}
theorem AbT{w w1 w2:World}(h:Cls w.heap.size w w1)(h':Cls w1.heap.size w1 w2):Cls w.heap.size w w2:=Below.trans h (Below.mono h' (Below.size h))
theorem AcP{l:List Oper}{i:Nat}{o:Oper}(h:l.toArray[i]? = some o):l.getD i default=o:=by
 simp at h
 simp[List.getD_eq_getElem?_getD,h]
end
theorem AeI {P : Program} {f : FuncId} {fn : Func} (hf : P.funcs[f]? = some fn) (hn : (fn.name == "runtime.NumGoroutine") = false) (hb : fn.body.isNone = false) (args : Array Value) (w : World) :
  (callFunc f args).run P w=.ok (.enter f args) w:=by
 have hn' : ¬ fn.name = "runtime.NumGoroutine" := by simpa using hn
 have hb':¬fn.body=none:=by intro h;rw[h]at hb;cases hb
 simp[callFunc,hf,hn',hb']
theorem AhH{P:Program}{ops:Array Oper}{o:Oper}{a:Act}{w:World}{K:Act->World->Prop}{Q:Exit->Act->World->Prop}{E:Prop}{f:FuncId}{fn:Func}{args:Array Value}{Post:Ending->World->Prop}
  (hc : Calls P f args w Post) (hf : P.funcs[f]? = some fn) (hn : (fn.name == "runtime.NumGoroutine") = false) (hb : fn.body.isNone = false) (xs : Array Operand) (ts : Array TypeId)
  (ho:o.op=.call {callee:=.value (.func f),args:=xs,argTypes:=ts}) (hargs0:xs.toList.map a.eval=args.toList) (hw:Region.wanted o (yielded ops a.tmps)=true)
  (hk:∀e w',Post e w'->∃v,e=.returned v/\K (a.put o.dst v) w'):if Region.wanted o (yielded ops a.tmps)=true then o.wp P a w K Q else E:=by
 rw[if_pos hw]
 have hargs:xs.map a.eval=args:=Array.ext' (by rw[Array.toList_map];exact hargs0)
 unfold Oper.wp execOp
 have hev:a.eval (.func f)=.func (.func f) #[] #[]:=rfl
 simp only[ho,resolve,Sem.run_bind,Sem.run_pure,Result.andThen_ok,hargs,hev,Deferred.ofValue,invoke,Array.append_empty,Array.empty_append,AeI hf hn hb,Oper.upon]
 refine Calls.mono hc ?_
 intro e w' hp
 obtain⟨v,rfl,hK⟩:=hk e w' hp
 exact hK
open Go.RowKit
section
variable {P:Program}{ops:Array Oper}{md:Region.Mode}{Q:Exit->Act->World->Prop}
def YieldsS(P:Program)(ops:Array Oper)(S:World->Prop)(o:Oper)(v:Value)(a:Act):Prop:=
 (Region.wanted o (yielded ops a.tmps)=true/\∀w',S w'->PureAt P o a w' v)\/(Region.wanted o (yielded ops a.tmps)=false/\v=undef)
theorem YieldsS.of_same{S:World->Prop}{o:Oper}{v:Value}{a a':Act}(hy:YieldsS P ops S o v a)(he:execOp a'.eval o=execOp a.eval o)
  (hw:Region.wanted o (yielded ops a'.tmps)=Region.wanted o (yielded ops a.tmps)):YieldsS P ops S o v a':=by
 unfold YieldsS PureAt at *
 rw[he,hw]
 exact hy
theorem YieldsS.mono{S T:World->Prop}{o:Oper}{v:Value}{a:Act}(hy:YieldsS P ops S o v a)(h:∀w,T w->S w):YieldsS P ops T o v a:=by
 rcases hy with⟨h1,h2⟩|h1
 .exact .inl ⟨h1,fun w' h'=>h2 w' (h w' h')⟩
 .exact .inr h1
theorem YieldsS.wpOp{S:World->Prop}{i:Nat}{o:Oper}{v:Value}{a:Act}{w:World}(hi:ops[i]? = some o)(hS:S w)(hy:YieldsS P ops S o v a){K:Act->World->Prop}(h:K (a.put o.dst v) w):wpOp P ops Q i K a w:=by
 unfold Go.wpOp
 simp only[hi]
 rcases hy with⟨hw,hv⟩|⟨hw,rfl⟩
 .rw[if_pos hw]
  refine .inl ?_
  unfold Oper.wp
  rcases hv w hS with h1|⟨h1,rfl⟩
  .rw[h1];simpa only[Oper.upon]using h
  .rw[h1];simpa only[Oper.upon]using h
 .rw[hw];simpa using h
theorem Aee{j:Nat}{oi oj:Oper}{v:Value}(hj:ops[j]? = some oj)(hap:oi.apart ops oj=true)
  (hsi:∀cs b,oi.op ≠ .select cs b) (hsj:∀cs b,oj.op ≠ .select cs b)
  (hQ:∀c a w,Q (.panic c) (a.put oi.dst v) w->Q (.panic c) a w) {K:Act->World->Prop} {a:Act} {w:World}
  (h:wpOp P ops Q j K (a.put oi.dst v) w) :
  wpOp P ops Q j (fun a' w'=>(∀S,YieldsS P ops S oi v a->YieldsS P ops S oi v a')/\K (a'.put oi.dst v) w') a w:=by
 obtain⟨h1,h2,h3⟩:=Oper.apart_spec hap
 have same:∀(b:Act) (u:Value) (S:World->Prop),YieldsS P ops S oi v b->YieldsS P ops S oi v (b.put oj.dst u):=fun b u S hy=>
  hy.of_same (execOp_put oi hsi b oj.dst u h3) (wanted_put oi b oj.dst u h3)
 have sameD:∀(d:Deferred) (S:World->Prop),YieldsS P ops S oi v a->YieldsS P ops S oi v {a with defers:=d::a.defers}:=fun d S hy=>hy.of_same rfl rfl
 unfold Go.wpOp at *
 simp only[hj]at *
 rw[wanted_put oj a oi.dst v h1]at h
 by_cases hw:Region.wanted oj (yielded ops a.tmps)=true
 .rw[if_pos hw]at h |-
  rcases h with h|⟨hasks,hlets⟩
  .refine .inl ?_
   unfold Oper.wp at *
   rw[execOp_put oj hsj a oi.dst v h1]at h
   generalize(execOp a.eval oj).run P w=r at *
   cases r with
   |ok n w'=>
    cases n<;>simp only[Oper.upon]at h |-
    case value u=>exact⟨fun S=>same a u S,by rw[<-Act.put_comm a v u h2];exact h⟩
    case skip=>exact⟨fun S=>same a _ S,by rw[<-Act.put_comm a v undef h2];exact h⟩
    case defer d=>
     refine⟨fun S hy=>same _ _ S (sameD d S hy),?_⟩
     rw[<-Act.put_comm _ v undef h2,<-Act.put_defers]
     exact h
    case enter f args=>
     refine Calls.mono h fun e w'' he=>?_
     cases e with
     |returned u=>exact⟨fun S=>same a u S,by rw[<-Act.put_comm a v u h2];exact he⟩
     |panicked c=>exact hQ _ _ _ he
     |outgrown=>exact he
    case row row args=>exact Rows.mono h fun u w'' he=>⟨fun S=>same a u S,by rw[<-Act.put_comm a v u h2];exact he⟩
   |halt x w'=>
    cases x<;>simp only[Oper.upon]at h |-
    case panic u=>exact hQ _ _ _ h
  .exact .inr ⟨by unfold Oper.asks at *;rw[execOp_put oj hsj a oi.dst v h1]at hasks;exact hasks,hlets⟩
 .rw[if_neg hw]at h |-
  exact⟨fun S=>same a _ S,by rw[<-Act.put_comm a v undef h2];exact h⟩
def wpAnyN(P:Program)(md:Region.Mode)(ops:Array Oper)(Q:Exit->Act->World->Prop)(n:Nat):Nat->Array Bool->Act->World->Prop
 |0,listed,a,w=>Region.ready md ops listed = []/\Q .normal a w
 |f+1,listed,a,w=>(Region.ready md ops listed = []->Q .normal a w) /\
  ∀i∈Region.ready md ops listed,wpOp P ops Q i (fun a' w'=>(i<n->Cls w.heap.size w w')/\wpAnyN P md ops Q n f (listed.setIfInBounds i true) a' w') a w
theorem AgY{n:Nat}:∀(f:Nat) (listed:Array Bool) (a:Act) (w:World),wpAnyN P md ops Q n f listed a w->wpAny P md ops Q f listed a w
 |0,listed,a,w,h=>h
 |f+1,listed,a,w,h=>⟨h.1,fun i hi=>wpOp_mono (fun a' w' h'=>AgY f _ a' w' h'.2) (h.2 i hi)⟩
def reach(md:Region.Mode)(ops:Array Oper):Nat->Nat->Nat->Bool
 |0,_,_=>false
 |f+1,t,i=>(List.range ops.size).any fun k=>Region.waitsFor md ops t k&&(k==i||reach md ops f k i)
def Closed(md:Region.Mode)(ops:Array Oper)(listed:Array Bool):Prop:=
 listed.size=ops.size/\∀j oj,ops[j]? = some oj->listed.getD j false=true->∀e∈oj.after,Region.binds md e=true->listed.getD e.on false=true
theorem Closed.set{listed:Array Bool}{i:Nat}(inv:Closed md ops listed)(hi:i∈Region.ready md ops listed):Closed md ops (listed.setIfInBounds i true):=by
 obtain⟨_,oi,hoi,hall⟩:=mem_ready.1 hi
 refine⟨by simp[inv.1],fun j oj hj hl e he hb=>?_⟩
 by_cases hij:i=j
 .subst hij
  have:oj=oi:=Option.some.inj (hj.symm.trans hoi)
  subst this
  exact getD_set_true (hall e he hb)
 .rw[getD_set_ne false hij]at hl
  exact getD_set_true (inv.2 j oj hj hl e he hb)
theorem Ab4{listed:Array Bool}(inv:Closed md ops listed):∀(f t i:Nat),(t∈Region.ready md ops listed\/listed.getD t false=true)->reach md ops f t i=true->listed.getD i false=true
 |0,t,i,_,h=>by cases h
 |f+1,t,i,ht,h=>by
  obtain⟨k,_,hk⟩:=List.any_eq_true.1 h
  simp only[Bool.and_eq_true,Bool.or_eq_true,beq_iff_eq]at hk
  obtain⟨hw,hk⟩:=hk
  obtain⟨ot,hot,e,he,hb,hon⟩:=Region.waitsFor_spec hw
  have hkl:listed.getD k false=true:=by
   rcases ht with ht|ht
   .obtain⟨_,o',ho',hall⟩:=mem_ready.1 ht
    have:o'=ot:=Option.some.inj (ho'.symm.trans hot)
    subst this
    rw[<-hon];exact hall e he hb
   .rw[<-hon];exact inv.2 t ot hot ht e he hb
  rcases hk with rfl|hk
  .exact hkl
  .exact Ab4 inv f k i (.inr hkl) hk
def ordB(md:Region.Mode)(ops:Array Oper)(n i:Nat):Bool:=
 (List.range ops.size).all fun t=>decide (t<n)||t==i||reach md ops ops.size t i||reach md ops ops.size i t
theorem Aqe{listed:Array Bool}{n i j:Nat}(inv:Closed md ops listed)(hB:ordB md ops n i=true)(hi:i∈Region.ready md ops listed)(hj:j∈Region.ready md ops listed)(hne:j≠i):j<n:=by
 obtain⟨hun,oj,hoj,_⟩:=mem_ready.1 hj
 have hjs:j<ops.size:=(Array.getElem?_eq_some_iff.1 hoj).1
 have h:=List.all_eq_true.1 hB j (List.mem_range.2 hjs)
 simp only[Bool.or_eq_true,decide_eq_true_eq,beq_iff_eq]at h
 rcases h with((h|h)|h)|h
 .exact h
 .exact absurd h hne
 .have:=Ab4 inv _ _ _ (.inl hj) h
  have h2:=(mem_ready.1 hi).1
  rw[getD_both h2]at this;cases this
 .have:=Ab4 inv _ _ _ (.inl hi) h
  rw[getD_both hun]at this;cases this
theorem AcU{n i:Nat}{oi:Oper}{v:Value}(hi:ops[i]? = some oi)(hsel:∀(j:Nat) (o:Oper) cs b,ops[j]? = some o->o.op ≠ .select cs b)
  (hQ:∀c a w,Q (.panic c) (a.put oi.dst v) w->Q (.panic c) a w) :
  ∀(f:Nat) (listed:Array Bool) (a:Act) (w:World),Closed md ops listed ->
   (∀j oj,ops[j]? = some oj->j≠i->listed.getD j true=false->(∀e∈oj.after,Region.binds md e=true->e.on≠i)->oi.apart ops oj=true) ->
   i∈Region.ready md ops listed->(YieldsS P ops (fun _=>True) oi v a\/(YieldsS P ops (Cls w.heap.size w) oi v a/\ordB md ops n i=true)) ->
   wpAnyN P md ops Q n f (listed.setIfInBounds i true) (a.put oi.dst v) w->wpAnyN P md ops Q n (f+1) listed a w:=by
 intro f
 induction f with
 |zero=>
  intro listed a w inv _ hr hy H
  refine⟨fun h=>(by rw[h]at hr;cases hr),fun j hj=>?_⟩
  by_cases hji:j=i
  .subst hji
   rcases hy with hy|⟨hy,_⟩
   .exact hy.wpOp hi trivial ⟨fun _=>Cls.refl _ _,H⟩
   .exact hy.wpOp hi (Cls.refl _ _) ⟨fun _=>Cls.refl _ _,H⟩
  .have:=ready_mono hj hji
   rw[H.1]at this
   cases this
 |succ f ih=>
  intro listed a w inv hfree hr hy H
  have hun:=(mem_ready.1 hr).1
  refine⟨fun h=>(by rw[h]at hr;cases hr),fun j hj=>?_⟩
  by_cases hji:j=i
  .subst hji
   rcases hy with hy|⟨hy,_⟩
   .exact hy.wpOp hi trivial ⟨fun _=>Cls.refl _ _,H⟩
   .exact hy.wpOp hi (Cls.refl _ _) ⟨fun _=>Cls.refl _ _,H⟩
  .have h1:=H.2 j (ready_mono hj hji)
   obtain⟨hjun,oj,hoj,hall⟩:=mem_ready.1 hj
   have hnot:∀e∈oj.after,Region.binds md e=true->e.on≠i:=fun e he hb heq=>by
    have h1:=hall e he hb
    rw[heq,getD_both hun]at h1
    cases h1
   have hfree':∀k ok,ops[k]? = some ok->k≠i->(listed.setIfInBounds j true).getD k true=false ->
     (∀e∈ok.after,Region.binds md e=true->e.on≠i)->oi.apart ops ok=true:=fun k ok hk hki hun2 hno=>by
    refine hfree k ok hk hki ?_ hno
    by_cases hjk:j=k
    .subst hjk;exact hjun
    .rw[getD_set_ne true hjk]at hun2;exact hun2
   have h2:=Aee hoj (hfree j oj hoj hji hjun hnot) (fun cs b=>hsel i oi cs b hi) (fun cs b=>hsel j oj cs b hoj) hQ h1
   refine wpOp_mono (fun a' w' h3=>⟨h3.2.1,ih (listed.setIfInBounds j true) a' w' (inv.set hj) hfree' (ready_mono hr (Ne.symm hji)) ?_ ?_⟩) h2
   .rcases hy with hy|⟨hy,hB⟩
    .exact .inl (h3.1 _ hy)
    .have hjn:=Aqe inv hB hr hj hji
     exact .inr ⟨(h3.1 _ hy).mono (fun w2 h4=>AbT (h3.2.1 hjn) h4),hB⟩
   .rw[Array.setIfInBounds_comm _ _ hji]
    exact h3.2.2
def stepB(md:Region.Mode)(ops:Array Oper)(n c i:Nat)(listed:Array Bool):Bool:=
 (Region.ready md ops listed).contains i&&(if 2<=c then decide (Region.ready md ops listed = [i])&&decide (i<n)
  else Region.free md ops listed i&&isPure (ops.getD i default).op&&(c==1||ordB md ops n i))
theorem AeE{n:Nat}:∀(l:List Oper) (k:Nat) (listed:Array Bool) (a:Act) (w:World),n<=k->(∀j,l[j]? = ops[k+j]?) ->
  Region.seqB md ops l.length k listed=true->wpList P ops Q l a w->wpAnyN P md ops Q n l.length listed a w
 |[],_,_,_,_,_,_,hB,h=>⟨by simpa [Region.seqB]using hB,h⟩
 |o::l,k,listed,a,w,hk,hl,hB,h=>by
  have h0:ops[k]? = some o:=by simpa using (hl 0).symm
  simp only[List.length_cons,Region.seqB,Bool.and_eq_true,decide_eq_true_eq]at hB
  refine⟨fun h1=>(by rw[hB.1]at h1;cases h1),fun i hi=>?_⟩
  rw[hB.1]at hi
  obtain rfl:i=k:=by simpa using hi
  have hw:wpOp P ops Q i (wpList P ops Q l) a w:=by unfold Go.wpOp;simp only[h0];exact h
  exact wpOp_mono (fun a' w' h'=>⟨fun h5=>absurd h5 (by omega),AeE l (i+1) _ a' w' (by omega) (fun j=>by have:=hl (j+1);simpa [Nat.add_assoc,Nat.add_comm 1 j]using this) hB.2 h'⟩) hw
end
open Go.RowKit
inductive MT where
 |leaf
 |one (c i:Nat) (rest:MT)
 |fork (i:Nat) (ri:MT) (j:Nat) (rj:MT)
 |fork3 (i:Nat) (ri:MT) (j:Nat) (rj:MT) (k:Nat) (rk:MT)
def MT.len:MT->Nat
 |leaf=>0
 |one _ _ r=>r.len+1
 |fork _ ri _ _=>ri.len+1
 |fork3 _ ri _ _ _ _=>ri.len+1
def MT.steps:List (Nat × Nat)->MT->MT
 |[],t=>t
 |(c,i)::r,t=>.one c i (MT.steps r t)
section
variable {P:Program}{ops:Array Oper}{md:Region.Mode}{Q:Exit->Act->World->Prop}
def mixRun3(md:Region.Mode)(ops:Array Oper)(n:Nat):MT->Array Bool->Bool
 |.leaf,listed=>Region.seqB md ops (ops.size-n) n listed
 |.one c i rest,listed=>stepB md ops n c i listed&&mixRun3 md ops n rest (listed.setIfInBounds i true)
 |.fork i ri j rj,listed=>(Region.ready md ops listed).all (fun k=>k==i||k==j)&&(Region.ready md ops listed).contains i&&decide (i<n)&&decide (j<n)&&decide (ri.len=rj.len) &&
   mixRun3 md ops n ri (listed.setIfInBounds i true)&&mixRun3 md ops n rj (listed.setIfInBounds j true)
 |.fork3 i ri j rj k rk,listed=>(Region.ready md ops listed).all (fun z=>z==i||z==j||z==k)&&(Region.ready md ops listed).contains i&&decide (i<n)&&decide (j<n)&&decide (k<n)&&decide (ri.len=rj.len)&&decide (ri.len=rk.len) &&
   mixRun3 md ops n ri (listed.setIfInBounds i true)&&mixRun3 md ops n rj (listed.setIfInBounds j true)&&mixRun3 md ops n rk (listed.setIfInBounds k true)
def stepAt(P:Program)(ops:Array Oper)(Q:Exit->Act->World->Prop)(l:List Oper)(i:Nat)(K:Act->World->Prop)(a:Act)(w:World):Prop:=
 if Region.wanted (l.getD i default) (yielded ops a.tmps)=true then(l.getD i default).wp P a w (fun a2 w2=>Cls w.heap.size w w2/\K a2 w2) Q
   else K (a.put (l.getD i default).dst undef) w
def MixT(P:Program)(ops:Array Oper)(Q:Exit->Act->World->Prop)(l:List Oper)(n:Nat):MT->Act->World->Prop
 |.leaf,a,w=>wpList P ops Q (l.drop n) a w
 |.one c i rest,a,w=>match c with
  |0=>wpQuiet P ops (Cls w.heap.size w) (fun a'=>MixT P ops Q l n rest a' w) [l.getD i default] a
  |1=>wpQuiet P ops (fun _=>True) (fun a'=>MixT P ops Q l n rest a' w) [l.getD i default] a
  |_=>stepAt P ops Q l i (MixT P ops Q l n rest) a w
 |.fork i ri j rj,a,w=>stepAt P ops Q l i (MixT P ops Q l n ri) a w/\stepAt P ops Q l j (MixT P ops Q l n rj) a w
 |.fork3 i ri j rj k rk,a,w=>stepAt P ops Q l i (MixT P ops Q l n ri) a w/\stepAt P ops Q l j (MixT P ops Q l n rj) a w/\stepAt P ops Q l k (MixT P ops Q l n rk) a w
theorem Acp{l:List Oper}{n i:Nat}{oi:Oper}(hoi:l.toArray[i]? = some oi){K K2:Act->World->Prop}{a:Act}{w:World}(h:stepAt P l.toArray Q l i K a w)(hK:∀a2 w2,K a2 w2->K2 a2 w2) :
  wpOp P l.toArray Q i (fun a2 w2=>(i<n->Cls w.heap.size w w2)/\K2 a2 w2) a w:=by
 have hgd:=AcP hoi
 simp only[stepAt,hgd]at h
 unfold Go.wpOp
 simp only[hoi]
 by_cases hw:Region.wanted oi (yielded l.toArray a.tmps)=true
 .rw[if_pos hw]at h |-
  exact .inl (Oper.wp_mono (fun a2 w2 hh=>⟨fun _=>hh.1,hK _ _ hh.2⟩) h)
 .rw[if_neg hw]at h |-
  exact⟨fun _=>Cls.refl _ _,hK _ _ h⟩
theorem Abn{l:List Oper}{n:Nat}(hsel:Region.noSelect l.toArray=true)(hn:n<=l.toArray.size)
  (hQ:∀(d:Option Tmp) (v:Value) c a w,Q (.panic c) (a.put d v) w->Q (.panic c) a w) :
  ∀(t:MT) (listed:Array Bool) (a:Act) (w:World),Closed md l.toArray listed->mixRun3 md l.toArray n t listed=true->MixT P l.toArray Q l n t a w ->
   wpAnyN P md l.toArray Q n (t.len+(l.toArray.size-n)) listed a w
 |.leaf,listed,a,w,inv,hB,h=>by
  simp only[mixRun3]at hB
  have hl:(l.drop n).length=l.toArray.size-n:=by simp
  have:=AeE (P:=P) (md:=md) (ops:=l.toArray) (Q:=Q) (n:=n) (l.drop n) n listed a w (Nat.le_refl _) (fun j=>by simp) (by rw[hl];exact hB) h
  rw[hl]at this
  simpa [MT.len]using this
 |.fork i ri j rj,listed,a,w,inv,hB,h=>by
  simp only[mixRun3,Bool.and_eq_true,decide_eq_true_eq]at hB
  obtain⟨⟨⟨⟨⟨⟨hall,hc⟩,hi⟩,hj⟩,hlen⟩,hBi⟩,hBj⟩:=hB
  have e:(MT.fork i ri j rj).len+(l.toArray.size-n)=(ri.len+(l.toArray.size-n))+1:=by simp only[MT.len];omega
  rw[e]
  refine⟨fun h0=>(by rw[h0]at hc;simp at hc),fun k hk=>?_⟩
  have hk2:=List.all_eq_true.1 hall k hk
  simp only[Bool.or_eq_true,beq_iff_eq]at hk2
  obtain⟨_,oi,hoi,_⟩:=mem_ready.1 hk
  rcases hk2 with rfl|rfl
  .exact Acp hoi h.1 (fun a2 w2 h2=>Abn hsel hn hQ ri _ a2 w2 (inv.set hk) hBi h2)
  .rw[hlen]
   exact Acp hoi h.2 (fun a2 w2 h2=>Abn hsel hn hQ rj _ a2 w2 (inv.set hk) hBj h2)
 |.fork3 i ri j rj k' rk,listed,a,w,inv,hB,h=>by
  simp only[mixRun3,Bool.and_eq_true,decide_eq_true_eq]at hB
  obtain⟨⟨⟨⟨⟨⟨⟨⟨⟨hall,hc⟩,hi⟩,hj⟩,hk'⟩,hlen⟩,hlen2⟩,hBi⟩,hBj⟩,hBk⟩:=hB
  have e:(MT.fork3 i ri j rj k' rk).len+(l.toArray.size-n)=(ri.len+(l.toArray.size-n))+1:=by simp only[MT.len];omega
  rw[e]
  refine⟨fun h0=>(by rw[h0]at hc;simp at hc),fun k hk=>?_⟩
  have hk2:=List.all_eq_true.1 hall k hk
  simp only[Bool.or_eq_true,beq_iff_eq]at hk2
  obtain⟨_,oi,hoi,_⟩:=mem_ready.1 hk
  rcases hk2 with(rfl|rfl)|rfl
  .exact Acp hoi h.1 (fun a2 w2 h2=>Abn hsel hn hQ ri _ a2 w2 (inv.set hk) hBi h2)
  .rw[hlen]
   exact Acp hoi h.2.1 (fun a2 w2 h2=>Abn hsel hn hQ rj _ a2 w2 (inv.set hk) hBj h2)
  .rw[hlen2]
   exact Acp hoi h.2.2 (fun a2 w2 h2=>Abn hsel hn hQ rk _ a2 w2 (inv.set hk) hBk h2)
 |.one c i rest,listed,a,w,inv,hB,h=>by
  simp only[mixRun3,Bool.and_eq_true]at hB
  obtain⟨hcnd,h1⟩:=hB
  simp only[stepB,Bool.and_eq_true]at hcnd
  obtain⟨hrd,hcnd⟩:=hcnd
  have hr':i∈Region.ready md l.toArray listed:=by simpa using hrd
  obtain⟨_,oi,hoi,_⟩:=mem_ready.1 hr'
  have hgd:=AcP hoi
  have hgd2:l.toArray.getD i default=oi:=by simp[Array.getD_eq_getD_getElem?,hoi]
  have e:(MT.one c i rest).len+(l.toArray.size-n)=(rest.len+(l.toArray.size-n))+1:=by simp only[MT.len];omega
  rw[e]
  match c,hcnd,h with
  |0,hcnd,h=>
   rw[if_neg (show ¬2<=0 by omega)]at hcnd
   simp only[show((0:Nat)==1)=false from rfl,Bool.false_or,Bool.and_eq_true]at hcnd
   obtain⟨⟨hfr,hpu⟩,hord⟩:=hcnd
   rw[hgd2]at hpu
   simp only[MixT,hgd]at h
   unfold wpQuiet at h
   by_cases hw:Region.wanted oi (yielded l.toArray a.tmps)=true
   .rw[if_pos hw]at h
    obtain⟨v,hv,hq⟩:=h
    exact AcU hoi (Region.noSelect_spec hsel) (hQ _ _) _ listed a w inv (Region.free_spec hoi hfr) hr' (.inr ⟨.inl ⟨hw,fun w' hw'=>Ab5 hpu (hv w' hw')⟩,hord⟩)
     (Abn hsel hn hQ rest _ _ w (inv.set hr') h1 hq)
   .rw[if_neg hw]at h
    exact AcU hoi (Region.noSelect_spec hsel) (hQ _ _) _ listed a w inv (Region.free_spec hoi hfr) hr' (.inl (.inr ⟨by simpa using hw,rfl⟩))
     (Abn hsel hn hQ rest _ _ w (inv.set hr') h1 h)
  |1,hcnd,h=>
   rw[if_neg (show ¬2<=1 by omega)]at hcnd
   simp only[show((1:Nat)==1)=true from rfl,Bool.true_or,Bool.and_true,Bool.and_eq_true]at hcnd
   obtain⟨hfr,hpu⟩:=hcnd
   rw[hgd2]at hpu
   simp only[MixT,hgd]at h
   unfold wpQuiet at h
   by_cases hw:Region.wanted oi (yielded l.toArray a.tmps)=true
   .rw[if_pos hw]at h
    obtain⟨v,hv,hq⟩:=h
    exact AcU hoi (Region.noSelect_spec hsel) (hQ _ _) _ listed a w inv (Region.free_spec hoi hfr) hr' (.inl (.inl ⟨hw,fun w' hw'=>Ab5 hpu (hv w' hw')⟩))
     (Abn hsel hn hQ rest _ _ w (inv.set hr') h1 hq)
   .rw[if_neg hw]at h
    exact AcU hoi (Region.noSelect_spec hsel) (hQ _ _) _ listed a w inv (Region.free_spec hoi hfr) hr' (.inl (.inr ⟨by simpa using hw,rfl⟩))
     (Abn hsel hn hQ rest _ _ w (inv.set hr') h1 h)
  |c+2,hcnd,hm=>
   rw[if_pos (show 2<=c+2 by omega)]at hcnd
   simp only[Bool.and_eq_true,decide_eq_true_eq]at hcnd
   refine⟨fun h0=>(by rw[h0]at hr';cases hr'),fun j hj=>?_⟩
   rw[hcnd.1]at hj
   obtain rfl:j=i:=by simpa using hj
   exact Acp hoi hm (fun a2 w2 h2=>Abn hsel hn hQ rest _ a2 w2 (inv.set hr') h1 h2)
def mixB3(md:Region.Mode)(ops:Array Oper)(n:Nat)(t:MT):Bool:=
 Region.noSelect ops&&decide (n<=ops.size)&&decide (t.len+(ops.size-n)=ops.size)&&mixRun3 md ops n t (Array.replicate ops.size false)
theorem Acg{id:Nat}{a:Act}{w:World}{l:List Oper}(n:Nat)(t:MT)(hm:P.follows .mixedOrders=true)(hB:mixB3 .any l.toArray n t=true)
  (h:MixT P l.toArray (NoPanic Q) l n t a w.drew):(Code.region id l.toArray true).wp P Q a w:=by
 refine wp_region_noPanic ?_
 simp only[mixB3,Bool.and_eq_true,decide_eq_true_eq]at hB
 obtain⟨⟨⟨hsel,hn⟩,hlen⟩,hB⟩:=hB
 have inv0:Closed .any l.toArray (Array.replicate l.toArray.size false):=⟨by simp,fun j oj _ hl=>(by rw[getD_replicate_false]at hl;cases hl)⟩
 have H:=Abn (P:=P) (Q:=NoPanic Q) hsel hn (fun _ _ _ _ _ hh=>hh) t _ a w.drew inv0 hB h
 rw[hlen]at H
 exact wp_region_any hm (AgY _ _ _ _ H)
end
open Go.RowKit
theorem own_ext{w w':World}{base:Nat}{e:TypeId}{size:Nat}{v:Value}{n:Nat}{xs:List Value}(h:w.ownsRow base e size v n xs)(hb:Below w.heap.size w w'):w'.ownsRow base e size v n xs:=by
 refine⟨h.1,?_⟩
 rcases h.2 with h1|⟨g,cap,cur,h1,h2,h3,h4⟩
 .exact .inl h1
 .exact .inr ⟨g,cap,cur,h1,h2,by rw[hb.block g (Array.getElem?_eq_some_iff.1 h3).1];exact h3,h4⟩
theorem own_slice{w:World}{base:Nat}{e:TypeId}{size:Nat}{v:Value}{n:Nat}{xs:List Value}(h:w.ownsRow base e size v n xs):∃A c,v=.slice A n c:=by
 rcases h.2 with⟨h1,h2⟩|⟨g,cap,cur,h1,_⟩
 .subst h2;exact⟨none,0,h1⟩
 .exact⟨_,_,h1⟩
theorem own_block{w:World}{base:Nat}{e:TypeId}{size:Nat}{v:Value}{n:Nat}{xs:List Value}(h:w.ownsRow base e size v n xs)(hn:0<n) :
  ∃g c post,v=.slice (some ⟨g,0,none⟩) n c/\base<=g/\Has w g (xs++post):=by
 rcases h.2 with⟨h1,h2⟩|⟨g,cap,cur,h1,h2,h3,h4,h5,h6,h7⟩
 .omega
 .refine⟨g,cap,cur.toList.drop (n*size),h1,h2,⟨e,?_⟩⟩
  rw[<-h7,List.take_append_drop]
  simpa using h3
theorem mix_run{P:Program}{ops:Array Oper}{o:Oper}{a:Act}{w w':World}{K:Act->World->Prop}{Q:Exit->Act->World->Prop}{E:Prop}{v:Value}
  (hr:(execOp a.eval o).run P w=.ok (.value v) w') (hw:Region.wanted o (yielded ops a.tmps)=true) (hk:K (a.put o.dst v) w'):if Region.wanted o (yielded ops a.tmps)=true then o.wp P a w K Q else E:=by
 rw[if_pos hw]
 unfold Oper.wp
 rw[hr,Oper.upon_value]
 exact hk
theorem Has.cls{w:World}{g:Nat}{cs:List Value}(h:Has w g cs):∀w',Cls w.heap.size w w'->Has w' g cs:=fun _ hw=>h.below hw.o h.lt
theorem ext_alloc(w:World)(o:Obj):Below w.heap.size w (w.alloc o):=(Below.refl _ _).alloc (Nat.le_refl _) o
theorem alloc_size(w:World)(o:Obj):(w.alloc o).heap.size=w.heap.size+1:=by simp
theorem ne_som{a b:Nat}(h:a≠b):some a≠some b:=fun e=>h (by injection e)
theorem run_sliceTo{P:Program}(w:World)(t e:TypeId)(len:Nat)(parts:Array (Nat × Value))(cells:Array Value)(hu:P.underlying t=some (.slice e))(hf:P.builtSlice e len parts.toList=some cells) :
  (Instr.buildSlice t len parts).run P w=.ok (.slice (some ⟨w.heap.size,0,none⟩) len len) (w.alloc (.cells cells e)):=by
 unfold Program.builtSlice at hf
 cases hie:P.info? e with
 |none=>simp[hie]at hf
 |some ie=>
  simp only[hie]at hf
  cases hz:ie.zero with
  |none=>simp[hz]at hf
  |some z=>
   simp only[hz]at hf
   by_cases hc:len*ie.size>2 ^ 24\/len*ie.size=0
   .simp[hc]at hf
   .rw[if_neg hc]at hf
    exact run_buildSlice w t e len parts cells ie z hu hie hz (fun h'=>hc (Or.inl h')) (fun h'=>hc (Or.inr h')) hf
theorem own_mono{w:World}{base base':Nat}{e:TypeId}{size:Nat}{v:Value}{n:Nat}{xs:List Value}(h:w.ownsRow base e size v n xs)(hb:base'<=base):w.ownsRow base' e size v n xs:=by
 refine⟨h.1,?_⟩
 rcases h.2 with h1|⟨g,cap,cur,h1,h2,h3⟩
 .exact .inl h1
 .exact .inr ⟨g,cap,cur,h1,Nat.le_trans hb h2,h3⟩
theorem has_newAt{w:World}{g:Nat}(hg:w.heap.size=g)(cs:List Value)(t:TypeId):Has (w.alloc (.cells cs.toArray t)) g cs:=hg▸Has.new w cs t
theorem one_ints(k:IntKind)(l:List Int):∀u∈ints k l,u.oneCell'=true:=fun u hu=>by
 obtain⟨x,_,rfl⟩:=List.mem_map.1 hu
 rfl
theorem one_u64(i:Int):∀u ∈ [Value.int .u64 i],u.oneCell'=true:=fun u hu=>by simp at hu;subst hu;rfl
theorem one_i64(i:Int):∀u ∈ [Value.int .i64 i],u.oneCell'=true:=fun u hu=>by simp at hu;subst hu;rfl
theorem getD_at{l:List Int}{k:Nat}(hk:k<l.length):l.getD k 0=l[k]:=by simp[List.getD,List.getElem?_eq_getElem hk]
theorem ints_push(k:IntKind)(l:List Int)(x:Int):ints k (l ++ [x])=ints k l ++ [.int k x]:=by simp[ints]
theorem ints_len(k:IntKind)(l:List Int):(ints k l).length=l.length:=by simp[ints]
theorem own_grown{w w':World}{base:Nat}{e:TypeId}{size:Nat}{v:Value}{n:Nat}{xs:List Value}(h:w.ownsRow base e size v n xs){row:Option Nat}(hg:w.grownBy w' row)(hne:∀g,v.ownBlock=some g->row≠some g):w'.ownsRow base e size v n xs:=by
 refine⟨h.1,?_⟩
 rcases h.2 with h1|⟨g,cap,cur,h1,h2,h3,h4⟩
 .exact .inl h1
 .refine .inr ⟨g,cap,cur,h1,h2,?_,h4⟩
  rw[hg.block g (Array.getElem?_eq_some_iff.1 h3).1 (fun e=>hne g (by rw[h1];rfl) e.symm)];exact h3
theorem apd{w:World}{base:Nat}{e:TypeId}{size n:Nat}{v:Value}{xs:List Value}(h:w.ownsRow base e size v n xs):Apd w base e size v n xs:=.inl h
def fl:List (List Value)->List Value
 |[]=>[]
 |[x]=>x
 |x::y::t=>x++fl (y::t)
theorem Ade(x:List Value)(P:List (List Value)):fl (x::P)=x++fl P:=by
 cases P with
 |nil=>simp[fl]
 |cons y t=>rfl
theorem Acz:∀P Q:List (List Value),fl (P++Q)=fl P++fl Q
 |[],Q=>rfl
 |x::P,Q=>by rw[List.cons_append,Ade,Ade,Acz P Q,List.append_assoc]
theorem AbE:∀{P:List (List Value)} {ls:List Nat},P.map List.length=ls->(fl P).length=ls.sum
 |[],_,h=>by subst h;rfl
 |x::P,_,h=>by subst h;rw[Ade,List.length_append,List.map_cons,List.sum_cons,AbE (P:=P) rfl]
def startOf:List Nat->Nat->Option Nat
 |_,0=>some 0
 |[],_+1=>none
 |l::ls,o+1=>if l<=o+1 then(startOf ls (o+1-l)).map (· + 1)else none
def findPart(ls:List Nat)(o n:Nat):Option (Nat × Nat):=(startOf ls o).bind fun k=>(startOf (ls.drop k) n).map fun j=>(k,j)
theorem AdX:∀{ls:List Nat} {o k:Nat},startOf ls o=some k->(ls.take k).sum=o/\k<=ls.length
 |ls,0,k,h=>by
  have:k=0:=by
   cases ls<;>(simp only[startOf]at h;injection h with h;exact h.symm)
  subst this;simp
 |[],o+1,k,h=>by simp[startOf]at h
 |l::ls,o+1,k,h=>by
  rw[startOf]at h
  by_cases hl:l<=o+1
  .rw[if_pos hl]at h
   cases hs:startOf ls (o+1-l)with
   |none=>rw[hs]at h;cases h
   |some m=>
    rw[hs]at h
    injection h with h
    subst h
    obtain⟨h1,h2⟩:=AdX hs
    simp only[List.take_succ_cons,List.sum_cons,h1,List.length_cons]
    omega
  .rw[if_neg hl]at h;cases h
theorem Abh{P:List (List Value)}{ls:List Nat}(h:P.map List.length=ls)(k:Nat):(P.take k).map List.length=ls.take k:=by subst h;simp
theorem Ab7{P:List (List Value)}{ls:List Nat}(h:P.map List.length=ls)(k:Nat):(P.drop k).map List.length=ls.drop k:=by subst h;simp
theorem Aab{P:List (List Value)}{ls:List Nat}(hl:P.map List.length=ls){o n k j:Nat}(hf:findPart ls o n=some (k,j)) :
  ∃pre post,fl P=pre++fl ((P.drop k).take j)++post/\pre.length=o/\(fl ((P.drop k).take j)).length=n/\∀Q,fl (P.take k++Q++P.drop (k+j))=pre++fl Q++post:=by
 unfold findPart at hf
 cases hs:startOf ls o with
 |none=>rw[hs]at hf;cases hf
 |some k'=>
  rw[hs]at hf
  simp only[Option.bind_some]at hf
  cases ht:startOf (ls.drop k') n with
  |none=>rw[ht]at hf;cases hf
  |some j'=>
   rw[ht]at hf
   simp only[Option.map_some,Option.some.injEq,Prod.mk.injEq]at hf
   obtain⟨rfl,rfl⟩:=hf
   obtain⟨h1,h2⟩:=AdX hs
   obtain⟨h3,h4⟩:=AdX ht
   refine⟨fl (P.take k'),fl (P.drop (k'+j')),?_,by rw[AbE (Abh hl k'),h1],by rw[AbE (Abh (Ab7 hl k') j'),h3],fun Q=>by rw[Acz,Acz]⟩
   have e:P.drop (k'+j')=(P.drop k').drop j':=by rw[List.drop_drop]
   rw[<-Acz,<-Acz,e,List.append_assoc,List.take_append_drop,List.take_append_drop]
theorem AjT{pre ds post:List Value}:∀j u,ds[j]? = some u->(pre++ds++post)[pre.length+j]? = some u:=fun j u hu=>by
 rw[List.append_assoc,List.getElem?_append_right (by omega),Nat.add_sub_cancel_left,List.getElem?_append_left (List.getElem?_eq_some_iff.1 hu).1]
 exact hu
abbrev Gam:=Nat->Option (List Value)
def Ok(Γ:Gam)(w:World):Prop:=∀g cs,Γ g=some cs->∃post,Has w g (cs++post)
def Le(Γ Γ':Gam):Prop:=∀g cs,Γ g=some cs->Γ' g=some cs
def g0:Gam:=fun _=>none
theorem AiD(w:World):Ok g0 w:=fun _ _ h=>by cases h
theorem Le.refl(Γ:Gam):Le Γ Γ:=fun _ _ h=>h
theorem Le.trans{Γ Γ' Γ'':Gam}(h:Le Γ Γ')(h':Le Γ' Γ''):Le Γ Γ'':=fun g cs e=>h' g cs (h g cs e)
theorem Ok.off{Γ:Gam}{w:World}(h:Ok Γ w){g:Nat}(hg:w.heap.size<=g):Γ g=none:=by
 cases e:Γ g with
 |none=>rfl
 |some cs=>obtain⟨post,hh⟩:=h g cs e;have:=hh.lt;omega
theorem Ok.below{Γ:Gam}{w w':World}(h:Ok Γ w)(hb:Below w.heap.size w w'):Ok Γ w':=fun g cs e=>by
 obtain⟨post,hh⟩:=h g cs e
 exact⟨post,hh.below hb hh.lt⟩
theorem Ok.grown{Γ:Gam}{w w':World}(h:Ok Γ w){row:Option Nat}(hg:w.grownBy w' row)(hr:∀g,row=some g->Γ g=none):Ok Γ w':=fun g cs e=>by
 obtain⟨post,hh⟩:=h g cs e
 exact⟨post,hh.grown hg (fun er=>by rw[hr g er.symm]at e;cases e)⟩
structure Ext(Γ:Gam)(w:World)(Γ':Gam)(w':World):Prop where
 le:Le Γ Γ'
 ok:Ok Γ' w'
 new:∀g,Γ g=none->g<w.heap.size->Γ' g=none
 bel:Below w.heap.size w w'
theorem Ext.refl{Γ:Gam}{w:World}(h:Ok Γ w):Ext Γ w Γ w:=⟨Le.refl _,h,fun _ h _=>h,Below.refl _ _⟩
theorem Ext.below{Γ:Gam}{w w':World}(h:Ok Γ w)(hb:Below w.heap.size w w'):Ext Γ w Γ w':=⟨Le.refl _,h.below hb,fun _ h _=>h,hb⟩
theorem Ext.trans{Γ Γ' Γ'':Gam}{w w' w'':World}(h:Ext Γ w Γ' w')(h':Ext Γ' w' Γ'' w''):Ext Γ w Γ'' w'':=
 ⟨h.le.trans h'.le,h'.ok,fun g e hg=>h'.new g (h.new g e hg) (Nat.lt_of_lt_of_le hg h.bel.size),h.bel.trans (h'.bel.mono h.bel.size)⟩
structure Ent where
 g:Nat
 P:List (List Value)
 ls:List Nat
structure RowE where
 v:Value
 e:TypeId
 size:Nat
 n:Nat
 xs:List Value
structure MM(Γ0:Gam)(w0:World)(Γ:Gam)(w:World)(L:List Ent)(R:List RowE):Prop where
 ext:Ext Γ0 w0 Γ w
 has:∀p∈L,Has w p.g (fl p.P)
 len:∀p∈L,p.P.map List.length=p.ls
 off:∀p∈L,Γ p.g=none
 lo:∀p∈L,w0.heap.size<=p.g
 nd:L.Pairwise fun p q=>p.g≠q.g
 rows:∀r∈R,w.ownsRow w0.heap.size r.e r.size r.v r.n r.xs
 roff:∀r∈R,∀g,r.v.ownBlock=some g->Γ g=none/\∀p∈L,p.g≠g
 rnd:R.Pairwise fun r s=>∀g,r.v.ownBlock=some g->s.v.ownBlock≠some g
structure HL(w:World)(g:Nat)(P:List (List Value))(ls:List Nat):Prop where
 has:Has w g (fl P)
 len:P.map List.length=ls
theorem HL.below{w w':World}{g:Nat}{P:List (List Value)}{ls:List Nat}(h:HL w g P ls)(hb:Below w.heap.size w w'):HL w' g P ls:=⟨h.has.below hb h.has.lt,h.len⟩
section
variable {Γ0 Γ:Gam}{w0 w:World}{L:List Ent}{R:List RowE}
theorem MM.start{Γ:Gam}{w:World}(h:Ok Γ w):MM Γ w Γ w [] []:=⟨Ext.refl h,by simp,by simp,by simp,by simp,List.Pairwise.nil,by simp,by simp,List.Pairwise.nil⟩
theorem MM.at0{g:Nat}{P:List (List Value)}{ls:List Nat}(M:MM Γ0 w0 Γ w (⟨g,P,ls⟩::L) R):HL w g P ls:=⟨M.has ⟨g,P,ls⟩ (by simp),M.len ⟨g,P,ls⟩ (by simp)⟩
theorem MM.at1{a:Ent}{g:Nat}{P:List (List Value)}{ls:List Nat}(M:MM Γ0 w0 Γ w (a::⟨g,P,ls⟩::L) R):HL w g P ls:=⟨M.has ⟨g,P,ls⟩ (by simp),M.len ⟨g,P,ls⟩ (by simp)⟩
theorem MM.at2{a b:Ent}{g:Nat}{P:List (List Value)}{ls:List Nat}(M:MM Γ0 w0 Γ w (a::b::⟨g,P,ls⟩::L) R):HL w g P ls:=⟨M.has ⟨g,P,ls⟩ (by simp),M.len ⟨g,P,ls⟩ (by simp)⟩
theorem MM.at3{a b c:Ent}{g:Nat}{P:List (List Value)}{ls:List Nat}(M:MM Γ0 w0 Γ w (a::b::c::⟨g,P,ls⟩::L) R):HL w g P ls:=⟨M.has ⟨g,P,ls⟩ (by simp),M.len ⟨g,P,ls⟩ (by simp)⟩
theorem MM.at4{a b c d:Ent}{g:Nat}{P:List (List Value)}{ls:List Nat}(M:MM Γ0 w0 Γ w (a::b::c::d::⟨g,P,ls⟩::L) R):HL w g P ls:=⟨M.has ⟨g,P,ls⟩ (by simp),M.len ⟨g,P,ls⟩ (by simp)⟩
theorem MM.at5{a b c d e:Ent}{g:Nat}{P:List (List Value)}{ls:List Nat}(M:MM Γ0 w0 Γ w (a::b::c::d::e::⟨g,P,ls⟩::L) R):HL w g P ls:=⟨M.has ⟨g,P,ls⟩ (by simp),M.len ⟨g,P,ls⟩ (by simp)⟩
theorem MM.tail{a:Ent}(M:MM Γ0 w0 Γ w (a::L) R):MM Γ0 w0 Γ w L R:=
 ⟨M.ext,fun p h=>M.has p (by simp[h]),fun p h=>M.len p (by simp[h]),fun p h=>M.off p (by simp[h]),fun p h=>M.lo p (by simp[h]),(List.pairwise_cons.1 M.nd).2,M.rows,fun r h g e=>⟨(M.roff r h g e).1,fun p hp=>(M.roff r h g e).2 p (by simp[hp])⟩,M.rnd⟩
theorem MM.rtail{a:RowE}(M:MM Γ0 w0 Γ w L (a::R)):MM Γ0 w0 Γ w L R:=
 ⟨M.ext,M.has,M.len,M.off,M.lo,M.nd,fun r h=>M.rows r (by simp[h]),fun r h=>M.roff r (by simp[h]),(List.pairwise_cons.1 M.rnd).2⟩
theorem MM.call{Γ':Gam}{w':World}(M:MM Γ0 w0 Γ w L R)(e:Ext Γ w Γ' w'):MM Γ0 w0 Γ' w' L R:=
 ⟨M.ext.trans e,fun p h=>(M.has p h).below e.bel (M.has p h).lt,M.len,fun p h=>e.new _ (M.off p h) (M.has p h).lt,M.lo,M.nd,fun r h=>own_ext (M.rows r h) e.bel,fun r h g hg=>⟨e.new _ (M.roff r h g hg).1 ((M.rows r h).lt g hg).2,(M.roff r h g hg).2⟩,M.rnd⟩
theorem MM.below{w':World}(M:MM Γ0 w0 Γ w L R)(hb:Below w.heap.size w w'):MM Γ0 w0 Γ w' L R:=M.call (Ext.below M.ext.ok hb)
theorem MM.drew(M:MM Γ0 w0 Γ w L R):MM Γ0 w0 Γ w.drew L R:=M.below (Below.refl _ _).drew
theorem MM.alloc(M:MM Γ0 w0 Γ w L R){P:List (List Value)}{ls:List Nat}(hl:P.map List.length=ls){cs:Array Value}(hc:cs=(fl P).toArray)(t:TypeId):MM Γ0 w0 Γ (w.alloc (.cells cs t)) (⟨w.heap.size,P,ls⟩::L) R:=by
 subst hc
 have M':=M.below (ext_alloc w (.cells (fl P).toArray t))
 refine⟨M'.ext,fun p h=>?_,fun p h=>?_,fun p h=>?_,fun p h=>?_,List.pairwise_cons.2 ⟨fun q hq e=>?_,M.nd⟩,M'.rows,fun r h g hg=>⟨(M'.roff r h g hg).1,fun p hp=>?_⟩,M.rnd⟩
 .rcases List.mem_cons.1 h with rfl|h
  .exact Has.new w (fl P) t
  .exact M'.has p h
 .rcases List.mem_cons.1 h with rfl|h
  .exact hl
  .exact M.len p h
 .rcases List.mem_cons.1 h with rfl|h
  .exact M.ext.ok.off (Nat.le_refl _)
  .exact M.off p h
 .rcases List.mem_cons.1 h with rfl|h
  .exact M.ext.bel.size
  .exact M.lo p h
 .have:=(M.has q hq).lt
  simp only at e
  omega
 .rcases List.mem_cons.1 hp with rfl|hp
  .have:=((M.rows r h).lt g hg).2
   simp only
   omega
  .exact(M.roff r h g hg).2 p hp
theorem MM.write{w':World}(M:MM Γ0 w0 Γ w L R){i:Nat}{g:Nat}{P P':List (List Value)}{ls:List Nat}(hi:L[i]? = some ⟨g,P,ls⟩)(hg:w.grownBy w' (some g))(hh:Has w' g (fl P'))(hl:P'.map List.length=ls):MM Γ0 w0 Γ w' (L.set i ⟨g,P',ls⟩) R:=by
 have hm:(⟨g,P,ls⟩:Ent)∈L:=List.mem_of_getElem? hi
 have hlo:=M.lo _ hm
 have hof:=M.off _ hm
 have hil:i<L.length:=(List.getElem?_eq_some_iff.1 hi).1
 have hget:L[i]=⟨g,P,ls⟩:=(List.getElem?_eq_some_iff.1 hi).2
 have key:∀p∈L.set i ⟨g,P',ls⟩,p=⟨g,P',ls⟩\/(p∈L/\p.g≠g):=fun p hp=>by
  obtain⟨j,hj,rfl⟩:=List.getElem_of_mem hp
  rw[List.getElem_set]
  rw[List.length_set]at hj
  split
  .exact .inl rfl
  .rename_i hne
   refine .inr ⟨List.getElem_mem hj,fun e=>?_⟩
   have hpw:=List.pairwise_iff_getElem.1 M.nd
   rcases Nat.lt_or_ge i j with hij|hij
   .have:=hpw i j hil hj hij
    rw[hget]at this
    exact this e.symm
   .have:=hpw j i hj hil (by omega)
    rw[hget]at this
    exact this e
 have hbl:Below w0.heap.size w0 w':=M.ext.bel.grown hg M.ext.bel.size (fun k e=>by cases e;exact hlo)
 refine⟨⟨M.ext.le,M.ext.ok.grown hg (fun k e=>by cases e;exact hof),M.ext.new,hbl⟩,fun p hp=>?_,fun p hp=>?_,fun p hp=>?_,fun p hp=>?_,?_,fun r h=>own_grown (M.rows r h) hg (fun k hk e=>?_),fun r h k hk=>⟨(M.roff r h k hk).1,fun p hp=>?_⟩,M.rnd⟩
 .rcases key p hp with rfl|⟨h1,h2⟩
  .exact hh
  .exact(M.has p h1).grown hg (ne_som h2)
 .rcases key p hp with rfl|⟨h1,h2⟩
  .exact hl
  .exact M.len p h1
 .rcases key p hp with rfl|⟨h1,h2⟩
  .exact hof
  .exact M.off p h1
 .rcases key p hp with rfl|⟨h1,h2⟩
  .exact hlo
  .exact M.lo p h1
 .rw[List.pairwise_iff_getElem]
  intro a b ha hb hab
  rw[List.length_set]at ha hb
  have hpw:=List.pairwise_iff_getElem.1 M.nd a b ha hb hab
  rw[List.getElem_set,List.getElem_set]
  split
  .rename_i e1
   subst e1
   split
   .omega
   .rw[hget]at hpw;exact hpw
  .split
   .rename_i e2
    subst e2
    rw[hget]at hpw;exact hpw
   .exact hpw
 .injection e with e
  subst e
  exact(M.roff r h _ hk).2 _ hm rfl
 .rcases key p hp with rfl|⟨h1,h2⟩
  .exact(M.roff r h k hk).2 ⟨g,P,ls⟩ hm
  .exact(M.roff r h k hk).2 p h1
theorem MM.row0(M:MM Γ0 w0 Γ w L R)(e:TypeId)(size:Nat):MM Γ0 w0 Γ w L (⟨.slice none 0 0,e,size,0,[]⟩::R):=
 ⟨M.ext,M.has,M.len,M.off,M.lo,M.nd,fun r h=>(List.mem_cons.1 h).elim (fun e=>e▸World.ownsRow_nil _ _ _ _) (M.rows r),fun r h=>(List.mem_cons.1 h).elim (fun e=>e▸fun g hg=>(by cases hg)) (M.roff r),List.pairwise_cons.2 ⟨fun _ _ g hg=>(by cases hg),M.rnd⟩⟩
theorem MM.rowNew{w':World}(M:MM Γ0 w0 Γ w L R)(hb:Below w.heap.size w w'){e:TypeId}{size n:Nat}{v:Value}{xs:List Value}(h:w'.ownsRow w.heap.size e size v n xs):MM Γ0 w0 Γ w' L (⟨v,e,size,n,xs⟩::R):=by
 have M':=M.below hb
 refine⟨M'.ext,M'.has,M.len,M'.off,M.lo,M.nd,fun r hr=>?_,fun r hr g hg=>?_,List.pairwise_cons.2 ⟨fun s hs g hg e=>?_,M.rnd⟩⟩
 .rcases List.mem_cons.1 hr with rfl|hr
  .exact own_mono h M.ext.bel.size
  .exact M'.rows r hr
 .rcases List.mem_cons.1 hr with rfl|hr
  .have hlt:=h.lt g hg
   refine⟨M.ext.ok.off hlt.1,fun p hp e=>?_⟩
   have:=(M.has p hp).lt
   omega
  .exact M'.roff r hr g hg
 .have:=((M.rows s hs).lt g e).2
  have:=(h.lt g hg).1
  omega
theorem MM.rowGrow{w':World}{v v':Value}{e:TypeId}{size n n':Nat}{xs xs':List Value}(M:MM Γ0 w0 Γ w L (⟨v,e,size,n,xs⟩::R))(hg:w.grownBy w' v.ownBlock)(h:w'.ownsRow w0.heap.size e size v' n' xs')
  (hv:v'.ownBlock=v.ownBlock\/v'.ownBlock=some w.heap.size\/∃g,w.heap.size<=g/\v'.ownBlock=some g):MM Γ0 w0 Γ w' L (⟨v',e,size,n',xs'⟩::R):=by
 have ho:=M.roff _ (List.mem_cons_self ..)
 have hr:=M.rows _ (List.mem_cons_self ..)
 have M1:=M.rtail
 have hvo:∀g,v'.ownBlock=some g->v.ownBlock=some g\/w.heap.size<=g:=fun g e=>by
  rcases hv with h1|h1|⟨k,h1,h2⟩
  .exact .inl (h1▸e)
  .rw[e]at h1;injection h1 with h1;exact .inr (by omega)
  .rw[e]at h2;injection h2 with h2;exact .inr (by omega)
 have hbl:Below w0.heap.size w0 w':=M.ext.bel.grown hg M.ext.bel.size (fun k e=>(hr.lt k e).1)
 have hok:Ok Γ w':=M.ext.ok.grown hg (fun g e=>(ho g e).1)
 refine⟨⟨M.ext.le,hok,M.ext.new,hbl⟩,fun p hp=>(M.has p hp).grown hg (fun e=>(ho _ e.symm).2 p hp rfl),M.len,M.off,M.lo,M.nd,fun r hr'=>?_,fun r hr' g hg'=>?_,List.pairwise_cons.2 ⟨fun s hs g hg' e=>?_,M1.rnd⟩⟩
 .rcases List.mem_cons.1 hr' with rfl|hr'
  .exact h
  .exact own_grown (M1.rows r hr') hg (fun k hk e=>(List.pairwise_cons.1 M.rnd).1 r hr' k e hk)
 .rcases List.mem_cons.1 hr' with rfl|hr'
  .rcases hvo g hg' with h1|h1
   .exact ho g h1
   .refine⟨M.ext.ok.off h1,fun p hp e=>?_⟩
    have:=(M.has p hp).lt
    omega
  .exact M1.roff r hr' g hg'
 .rcases hvo g hg' with h1|h1
  .exact(List.pairwise_cons.1 M.rnd).1 s hs g h1 e
  .have:=((M1.rows s hs).lt g e).2
   omega
structure CapOk(A:Option Addr)(n c:Nat):Prop where
 le:n<=c
 mx:c<=maxLen
 nil:A=none->c=0
def SlG(Γ:Gam)(A:Option Addr)(n:Nat)(xs:List Value):Prop:=0<n->∃g post,A=some ⟨g,0,none⟩/\Γ g=some (xs++post)
theorem SlG.mono{Γ':Gam}{A:Option Addr}{n:Nat}{xs:List Value}(h:SlG Γ A n xs)(hl:Le Γ Γ'):SlG Γ' A n xs:=fun hn=>by
 obtain⟨g,post,e,hg⟩:=h hn
 exact⟨g,post,e,hl _ _ hg⟩
def Gam.add(Γ:Gam)(g:Nat)(cs:List Value):Gam:=fun k=>if k=g then some cs else Γ k
theorem AiM{g:Nat}{cs:List Value}(h:Γ g=none):Le Γ (Γ.add g cs):=fun k ds e=>by
 unfold Gam.add
 by_cases hk:k=g
 .subst hk;rw[h]at e;cases e
 .rw[if_neg hk];exact e
theorem MM.freeze{v:Value}{e:TypeId}{size n:Nat}{xs:List Value}(M:MM Γ0 w0 Γ w L (⟨v,e,size,n,xs⟩::R)) :
  ∃A c Γ',v=.slice A n c/\CapOk A n c/\SlG Γ' A n xs/\Le Γ Γ'/\MM Γ0 w0 Γ' w L R:=by
 have hr:=M.rows _ (List.mem_cons_self ..)
 have ho:=M.roff _ (List.mem_cons_self ..)
 have M1:=M.rtail
 rcases hr.2 with⟨h1,h2⟩|⟨g,cap,cur,h1,h2,h3,h4,h5,h6,h7⟩
 .simp only at h1 h2
  subst h1 h2
  exact⟨none,0,Γ,rfl,⟨Nat.le_refl _,Nat.zero_le _,fun _=>rfl⟩,fun h=>absurd h (Nat.lt_irrefl _),Le.refl _,M1⟩
 .simp only at h1 h3 h6 h7
  subst h1
  obtain⟨hn,hL⟩:=ho g rfl
  have hh:Has w g (xs++cur.toList.drop (n*size)):=⟨e,by rw[<-h7,List.take_append_drop];simpa using h3⟩
  refine⟨_,_,Γ.add g xs,rfl,⟨h4,h5,(fun h=>by cases h)⟩,fun _=>⟨g,[],rfl,by simp[Gam.add]⟩,AiM hn,?_⟩
  have hnew:∀k,k≠g->Γ.add g xs k=Γ k:=fun k hk=>by simp[Gam.add,hk]
  refine⟨⟨M.ext.le.trans (AiM hn),fun k cs ek=>?_,fun k ek hk=>?_,M.ext.bel⟩,M.has,M.len,fun p hp=>by rw[hnew _ (hL p hp)];exact M.off p hp,M.lo,M.nd,M1.rows,fun r hr' k hk=>⟨?_,(M1.roff r hr' k hk).2⟩,M1.rnd⟩
  .by_cases hkg:k=g
   .subst hkg
    simp only[Gam.add,if_true,Option.some.injEq]at ek
    subst ek
    exact⟨_,hh⟩
   .rw[hnew k hkg]at ek;exact M.ext.ok k cs ek
  .rw[hnew k (by omega)];exact M.ext.new k ek hk
  .rw[hnew k (fun e=>(List.pairwise_cons.1 M.rnd).1 r hr' g rfl (e▸hk))];exact(M1.roff r hr' k hk).1
end
def Chk(Γ:Gam)(g base:Nat)(cs:List Value):Prop:=∃all,Γ g=some all/\∀j u,cs[j]? = some u->all[base+j]? = some u
theorem Chk.mono{Γ Γ':Gam}{g base:Nat}{cs:List Value}(h:Chk Γ g base cs)(hl:Le Γ Γ'):Chk Γ' g base cs:=by
 obtain⟨all,h1,h2⟩:=h
 exact⟨all,hl _ _ h1,h2⟩
theorem Chk.range{Γ:Gam}{g base:Nat}{cs:List Value}(h:Chk Γ g base cs){w:World}(ok:Ok Γ w):w.rangeAt g base cs:=fun j u hu=>by
 obtain⟨all,h1,h2⟩:=h
 obtain⟨post,hh⟩:=ok _ _ h1
 have:=h2 j u hu
 rw[hh.cell,List.getElem?_append_left (List.getElem?_eq_some_iff.1 this).1]
 exact this
theorem SlG.at{α:Type}{f:α->List Value}{k:Nat}{Γ:Gam}{A:Option Addr}{n:Nat}{xs:List α}(h:SlG Γ A n (xs.flatMap f))(hk:∀x∈xs,(f x).length=k)(hn:xs.length=n)(i:Nat)(hi:i<n) :
  ∃g,A=some ⟨g,0,none⟩/\Chk Γ g (i*k) (f (xs[i]'(by omega))):=by
 obtain⟨g,post,e,hg⟩:=h (by omega)
 refine⟨g,e,_,hg,fun j u hu=>?_⟩
 have hj:j<(f (xs[i]'(by omega))).length:=(List.getElem?_eq_some_iff.1 hu).1
 have hix:i<xs.length:=by omega
 have hfl:i*k+j<(xs.flatMap f).length:=by
  rw[Aah xs hk]
  have h1:(f (xs[i]'hix)).length=k:=hk _ (List.getElem_mem hix)
  have h2:(i+1)*k<=xs.length*k:=Nat.mul_le_mul_right _ hix
  rw[Nat.succ_mul]at h2
  omega
 rw[List.getElem?_append_left hfl,AhS xs hk i j hix (by rw[hk _ (List.getElem_mem hix)]at hj;exact hj)]
 exact hu
theorem SlG.row{Γ:Gam}{A:Option Addr}{n size:Nat}{xs:List Value}(h:SlG Γ A n xs)(hl:xs.length=n*size){w:World}(ok:Ok Γ w):Row w w.heap.size size A n xs:=by
 refine⟨hl,fun j u hu=>?_⟩
 have hj:j<xs.length:=(List.getElem?_eq_some_iff.1 hu).1
 obtain⟨g,post,e,hg⟩:=h (by rcases Nat.eq_zero_or_pos n with h0|h0;(subst h0;omega);exact h0)
 obtain⟨p2,hh⟩:=ok _ _ hg
 refine⟨_,e,hh.lt,?_⟩
 rw[Ad5,hh.cell,Nat.zero_add,List.getElem?_append_left (by simp;omega),List.getElem?_append_left hj]
 exact hu
structure RowT(P:Program)(ty:TypeId)(n:Nat):Prop where
 ex:∃d,P.underlying ty=some d/\d.isRow=true
 n:P.cellsOf ty=n
structure OneT(P:Program)(ty:TypeId):Prop where
 ex:∃d,P.underlying ty=some d/\d.isRow=false
 n:P.cellsOf ty=1
theorem Ahz{P:Program}{ty:TypeId}(t:OneT P ty){w:World}{p:Addr}{v:Value}(hc:w.cell? p=some v):(Instr.loadAt ty (.pointer (some p))).run P w=.ok v w:=by
 obtain⟨d,hu,hd⟩:=t.ex
 have hagg:∀w,(isAgg ty).run P w=.ok false w:=fun w=>by
  unfold isAgg
  cases d<;>first|(simp[TypeDesc.isRow]at hd;done)|simp[run_underlying hu]
 simp[Instr.loadAt,Instr.sureAddr,loadVar,hagg,run_load,hc]
theorem Bx.ok{Γ0 Γ:Gam}{w0 w:World}{L:List Ent}{R:List RowE}(M:Bx (MM Γ0 w0 Γ w L R)):Ok Γ w:=M.out.ext.ok
theorem Bx.bel{Γ0 Γ:Gam}{w0 w:World}{L:List Ent}{R:List RowE}(M:Bx (MM Γ0 w0 Γ w L R)):Below w0.heap.size w0 w:=M.out.ext.bel
def One(cs:List Value):Prop:=∀u∈cs,u.oneCell'=true
theorem One.nil:One []:=fun _ h=>by cases h
theorem One.cons{P:List (List Value)}{x:List Value}(h:One x)(k:One (fl P)):One (fl (x::P)):=fun u hu=>by
 rw[Ade]at hu
 exact(List.mem_append.1 hu).elim (h u) (k u)
theorem One.ints(k:IntKind)(l:List Int):One (ints k l):=one_ints k l
theorem One.v{v:Value}(h:v.oneCell'=true):One [v]:=fun u hu=>by
 have:u=v:=by simpa using hu
 subst this;exact h
theorem HL.part{w:World}{g o n k j:Nat}{P:List (List Value)}{ls:List Nat}(h:HL w g P ls)(hf:findPart ls o n=some (k,j)):w.rangeAt g o (fl ((P.drop k).take j))/\(fl ((P.drop k).take j)).length=n:=by
 obtain⟨pre,post,e,hp,hn,_⟩:=Aab h.len hf
 refine⟨fun i u hu=>?_,hn⟩
 rw[h.has.cell,e,<-hp]
 exact AjT i u hu
theorem Ahq{P:List (List Value)}{k:Nat}{p:List Value}(h:P[k]? = some p):(P.drop k).take 1 = [p]:=by
 obtain⟨hk,e⟩:=List.getElem?_eq_some_iff.1 h
 rw[List.drop_eq_getElem_cons hk,e];rfl
theorem HL.part1{w:World}{g o n k:Nat}{P:List (List Value)}{ls:List Nat}{p:List Value}(h:HL w g P ls)(hf:findPart ls o n=some (k,1))(hp:P[k]? = some p):w.rangeAt g o p/\p.length=n:=by
 have:=h.part hf
 rw[Ahq hp]at this
 exact this
theorem HL.cell1{w:World}{g o k:Nat}{P:List (List Value)}{ls:List Nat}{v:Value}(h:HL w g P ls)(hf:findPart ls o 1=some (k,1))(hp:P[k]? = some [v]):w.cell? ⟨g,o,none⟩=some v:=(h.part1 hf hp).1 0 v rfl
structure CL(w:World)(g base:Nat)(P:List (List Value))(ls:List Nat):Prop where
 has:w.rangeAt g base (fl P)
 len:P.map List.length=ls
theorem CL.of{Γ:Gam}{w:World}{g base:Nat}{P:List (List Value)}{ls:List Nat}(h:Chk Γ g base (fl P))(hl:P.map List.length=ls)(ok:Ok Γ w):CL w g base P ls:=⟨h.range ok,hl⟩
theorem CL.part{w:World}{g base o n k j:Nat}{P:List (List Value)}{ls:List Nat}(h:CL w g base P ls)(hf:findPart ls o n=some (k,j)):w.rangeAt g (base+o) (fl ((P.drop k).take j))/\(fl ((P.drop k).take j)).length=n:=by
 obtain⟨pre,post,e,hp,hn,_⟩:=Aab h.len hf
 refine⟨fun i u hu=>?_,hn⟩
 have:=h.has (o+i) u (by rw[e,<-hp];exact AjT i u hu)
 rw[Nat.add_assoc]
 exact this
theorem CL.part1{w:World}{g base o n k:Nat}{P:List (List Value)}{ls:List Nat}{p:List Value}(h:CL w g base P ls)(hf:findPart ls o n=some (k,1))(hp:P[k]? = some p):w.rangeAt g (base+o) p/\p.length=n:=by
 have:=h.part hf
 rw[Ahq hp]at this
 exact this
theorem CL.cell1{w:World}{g base o k:Nat}{P:List (List Value)}{ls:List Nat}{v:Value}(h:CL w g base P ls)(hf:findPart ls o 1=some (k,1))(hp:P[k]? = some [v]):w.cell? ⟨g,base+o,none⟩=some v:=(h.part1 hf hp).1 0 v rfl
theorem Ah6{P:Program}{C:World->Prop}{op:Oper}{a:Act}{K:Act->Prop}(ty:TypeId)(x:Operand)(ho:op.op=.load ty x)
  (g o:Nat) (cs:List Value) (hx:a.eval x=.pointer (some ⟨g,o,none⟩)) (hr:∀w,C w->w.rangeAt g o cs)
  {d:TypeDesc} (hu:P.underlying ty=some d) (hd:d.isRow=true) (hc:P.cellsOf ty=cs.length)
  (h:K (a.put op.dst (.agg cs.toArray))):op.quiet P a C K:=by
 refine⟨_,fun w hw=>?_,h⟩
 unfold Oper.quietAt execOp
 have:=run_loadVar_mid (P:=P) w g o ty cs d (hr w hw) hu hd (AbS hu hc)
 simp only[ho,hx,Instr.loadAt,Instr.sureAddr,Sem.run_bind,Sem.run_pure,Result.andThen_ok,this]
 exact⟨rfl,rfl⟩
section
variable {Γ0 Γ:Gam}{w0 w:World}{L:List Ent}{R:List RowE}{Pg:Program}{ops:Array Oper}{rest:List Oper}{op:Oper}{a:Act}{Q:Exit->Act->World->Prop}
theorem Aa8{ty:TypeId}{x:Operand}{g o n:Nat}{p:List Value}(ho:op.op=.load ty x)(hgd:Region.wanted op (yielded ops a.tmps)=true)(hx:a.eval x=.pointer (some ⟨g,o,none⟩))(rt:RowT Pg ty n)(hr:w.rangeAt g o p/\p.length=n)
  (h:wpList Pg ops Q rest (a.put op.dst (.agg p.toArray)) w):wpList Pg ops Q (op::rest) a w:=by
 obtain⟨d,hu,hd⟩:=rt.ex
 exact Ab1 hgd fun K hK=>wp_load_mid ty x ho g o hx p d hr.1 hu hd (AbS hu (by rw[rt.n,hr.2])) (hK _ _ h)
theorem AbU{ty:TypeId}{x:Operand}{g o:Nat}{v:Value}(ho:op.op=.load ty x)(hgd:Region.wanted op (yielded ops a.tmps)=true)(hx:a.eval x=.pointer (some ⟨g,o,none⟩))(ot:OneT Pg ty)(hc:w.cell? ⟨g,o,none⟩=some v)
  (h:wpList Pg ops Q rest (a.put op.dst v) w):wpList Pg ops Q (op::rest) a w:=
 Ab1 hgd fun K hK=>by
  unfold Oper.wp execOp
  simp only[ho,hx,Ahz ot hc,Sem.run_bind,Sem.run_pure,Result.andThen_ok,Oper.upon_value]
  exact hK _ _ h
theorem Aaq{g:Nat}{P:List (List Value)}{ls:List Nat}(H:HL w g P ls){ty:TypeId}{x:Operand}{o n k:Nat}{p:List Value}(ho:op.op=.load ty x)(hgd:Region.wanted op (yielded ops a.tmps)=true)(hx:a.eval x=.pointer (some ⟨g,o,none⟩))(rt:RowT Pg ty n)
  (hf:findPart ls o n=some (k,1)) (hp:P[k]? = some p) (h:wpList Pg ops Q rest (a.put op.dst (.agg p.toArray)) w):wpList Pg ops Q (op::rest) a w:=Aa8 ho hgd hx rt (H.part1 hf hp) h
theorem Aaw{g:Nat}{P:List (List Value)}{ls:List Nat}(H:HL w g P ls){ty:TypeId}{x:Operand}{o n k j:Nat}(ho:op.op=.load ty x)(hgd:Region.wanted op (yielded ops a.tmps)=true)(hx:a.eval x=.pointer (some ⟨g,o,none⟩))(rt:RowT Pg ty n)
  (hf:findPart ls o n=some (k,j)) (h:wpList Pg ops Q rest (a.put op.dst (.agg (fl ((P.drop k).take j)).toArray)) w):wpList Pg ops Q (op::rest) a w:=Aa8 ho hgd hx rt (H.part hf) h
theorem Aar{g:Nat}{P:List (List Value)}{ls:List Nat}(H:HL w g P ls){ty:TypeId}{x:Operand}{o k:Nat}{v:Value}(ho:op.op=.load ty x)(hgd:Region.wanted op (yielded ops a.tmps)=true)(hx:a.eval x=.pointer (some ⟨g,o,none⟩))(ot:OneT Pg ty)
  (hf:findPart ls o 1=some (k,1)) (hp:P[k]? = some [v]) (h:wpList Pg ops Q rest (a.put op.dst v) w):wpList Pg ops Q (op::rest) a w:=AbU ho hgd hx ot (H.cell1 hf hp) h
theorem AgT{g base:Nat}{P:List (List Value)}{ls:List Nat}(H:CL w g base P ls){ty:TypeId}{x:Operand}{o n k:Nat}{p:List Value}(ho:op.op=.load ty x)(hgd:Region.wanted op (yielded ops a.tmps)=true)(hx:a.eval x=.pointer (some ⟨g,base+o,none⟩))(rt:RowT Pg ty n)
  (hf:findPart ls o n=some (k,1)) (hp:P[k]? = some p) (h:wpList Pg ops Q rest (a.put op.dst (.agg p.toArray)) w):wpList Pg ops Q (op::rest) a w:=Aa8 ho hgd hx rt (H.part1 hf hp) h
theorem AgU{g base:Nat}{P:List (List Value)}{ls:List Nat}(H:CL w g base P ls){ty:TypeId}{x:Operand}{o k:Nat}{v:Value}(ho:op.op=.load ty x)(hgd:Region.wanted op (yielded ops a.tmps)=true)(hx:a.eval x=.pointer (some ⟨g,base+o,none⟩))(ot:OneT Pg ty)
  (hf:findPart ls o 1=some (k,1)) (hp:P[k]? = some [v]) (h:wpList Pg ops Q rest (a.put op.dst v) w):wpList Pg ops Q (op::rest) a w:=AbU ho hgd hx ot (H.cell1 hf hp) h
theorem AfL{g base:Nat}{P:List (List Value)}{ls:List Nat}(H:CL w g base P ls){ty:TypeId}{x:Operand}{n j:Nat}(ho:op.op=.load ty x)(hgd:Region.wanted op (yielded ops a.tmps)=true)(hx:a.eval x=.pointer (some ⟨g,base,none⟩))(rt:RowT Pg ty n)
  (hf:findPart ls 0 n=some (0,j)) (h:wpList Pg ops Q rest (a.put op.dst (.agg (fl (P.take j)).toArray)) w):wpList Pg ops Q (op::rest) a w:=Aa8 (o:=base+0) ho hgd hx rt (H.part hf) h
theorem AfM{g base:Nat}{P:List (List Value)}{ls:List Nat}(H:CL w g base P ls){ty:TypeId}{x:Operand}{v:Value}(ho:op.op=.load ty x)(hgd:Region.wanted op (yielded ops a.tmps)=true)(hx:a.eval x=.pointer (some ⟨g,base,none⟩))(ot:OneT Pg ty)
  (hf:findPart ls 0 1=some (0,1)) (hp:P[0]? = some [v]) (h:wpList Pg ops Q rest (a.put op.dst v) w):wpList Pg ops Q (op::rest) a w:=AbU (o:=base+0) ho hgd hx ot (H.cell1 hf hp) h
theorem Acm{ty:TypeId}{x:Operand}{P:List (List Value)}{ls:List Nat}(M:MM Γ0 w0 Γ w L R)(ho:op.op=.box ty x)(hgd:op.guard=none)(hx:a.eval x=.agg (fl P).toArray)(hl:P.map List.length=ls)
  (h:∀w' g,MM Γ0 w0 Γ w' (⟨g,P,ls⟩::L) R->(Below w.heap.size w w'/\g=w.heap.size)->wpList Pg ops Q rest (a.put op.dst (.pointer (some ⟨g,0,none⟩))) w'):wpList Pg ops Q (op::rest) a w:=
 wpList_plain hgd fun K hK=>by
  have hr:(execOp a.eval op).run Pg w=.ok (.value (.pointer (some ⟨w.heap.size,0,none⟩))) (w.alloc (.cells (fl P).toArray ty)):=by
   unfold execOp
   simp only[ho,hx]
   simp[Instr.box,Sem.run_bind,newVar,Value.cells,newRow]
  unfold Oper.wp
  rw[hr,Oper.upon_value]
  exact hK _ _ (h _ _ (M.alloc hl rfl ty) ⟨ext_alloc _ _,rfl⟩)
structure ZeroT(Pg:Program)(ty:TypeId)(Z:List (List Value))(ls:List Nat):Prop where
 run:∀w,(zeroValue ty).run Pg w=.ok (.agg (fl Z).toArray) w
 len:Z.map List.length=ls
theorem AgX{ty:TypeId}{Z:List (List Value)}{ls:List Nat}(M:MM Γ0 w0 Γ w L R)(ho:op.op=.alloc ty)(hgd:op.guard=none)(zt:ZeroT Pg ty Z ls)
  (h:∀w' g,MM Γ0 w0 Γ w' (⟨g,Z,ls⟩::L) R->(Below w.heap.size w w'/\g=w.heap.size)->wpList Pg ops Q rest (a.put op.dst (.pointer (some ⟨g,0,none⟩))) w'):wpList Pg ops Q (op::rest) a w:=
 wpList_plain hgd fun K hK=>by
  have hr:(execOp a.eval op).run Pg w=.ok (.value (.pointer (some ⟨w.heap.size,0,none⟩))) (w.alloc (.cells (fl Z).toArray ty)):=by
   unfold execOp
   simp only[ho]
   simp[Instr.alloc,Sem.run_bind,zt.run,newVar,Value.cells,newRow]
  unfold Oper.wp
  rw[hr,Oper.upon_value]
  exact hK _ _ (h _ _ (M.alloc zt.len rfl ty) ⟨ext_alloc _ _,rfl⟩)
theorem MM.put{i g o n k j:Nat}{P Q':List (List Value)}{ls:List Nat}(M:MM Γ0 w0 Γ w L R)(hi:L[i]? = some ⟨g,P,ls⟩)(hf:findPart ls o n=some (k,j))(hQ:Q'.map List.length=(ls.drop k).take j) :
  w.there g o (fl Q').length/\(fl Q').length=n/\w.grownBy (w.setCells g o (fl Q')) (some g)/\MM Γ0 w0 Γ (w.setCells g o (fl Q')) (L.set i ⟨g,P.take k++Q'++P.drop (k+j),ls⟩) R:=by
 have hm:(⟨g,P,ls⟩:Ent)∈L:=List.mem_of_getElem? hi
 have hh:=M.has _ hm
 have hl:=M.len _ hm
 simp only at hh hl
 obtain⟨pre,post,e,hp,hn,hq⟩:=Aab hl hf
 have hn':(fl Q').length=n:=by
  rw[AbE hQ,<-AbE (Abh (Ab7 hl k) j),hn]
 have hlen:(fl ((P.drop k).take j)).length=(fl Q').length:=by rw[hn,hn']
 rw[e]at hh
 obtain⟨q1,q2,q3⟩:=AcZ g (fl Q') _ pre post w hlen hh
 rw[hp]at q1 q2 q3
 refine⟨fun t ht=>?_,hn',q2,M.write hi q2 (by rw[hq];exact q1) ?_⟩
 .rw[hh.cell,hh.frozen,<-hp,List.append_assoc,List.getElem?_append_right (by omega),Nat.add_sub_cancel_left,List.getElem?_append_left (by omega),List.getElem?_eq_getElem (by omega)]
  exact⟨rfl,rfl⟩
 .rw[List.map_append,List.map_append,hQ,Abh hl,Ab7 hl,List.append_assoc,<-List.drop_drop,List.take_append_drop,List.take_append_drop]
theorem AcK{g:Nat}{P:List (List Value)}{ls:List Nat}(M:MM Γ0 w0 Γ w L R)(i:Nat)(Q' P':List (List Value))(hi:L[i]? = some ⟨g,P,ls⟩){ty:TypeId}{x y:Operand}{o n k j:Nat}(ho:op.op=.store ty x y)(hgd:op.guard=none)(hx:a.eval x=.pointer (some ⟨g,o,none⟩))
  (hy:a.eval y=.agg (fl Q').toArray) (rt:RowT Pg ty n) (hf:findPart ls o n=some (k,j)) (hQ:Q'.map List.length=(ls.drop k).take j) (h1:One (fl Q')) (hP:P.take k++Q'++P.drop (k+j)=P')
  (h:∀w',MM Γ0 w0 Γ w' (L.set i ⟨g,P',ls⟩) R->w.grownBy w' (some g)->wpList Pg ops Q rest (a.put op.dst undef) w'):wpList Pg ops Q (op::rest) a w:=by
 subst hP
 obtain⟨d,hu,hd⟩:=rt.ex
 obtain⟨q1,q2,q4,q3⟩:=M.put hi hf hQ
 refine wpList_store_mid hgd ty x y ho g o (fl Q').toArray hx hy (by simpa using q1) (by rw[List.size_toArray,q2];exact AbS hu rt.n) (all_oneCell_toArray h1) ?_
 simpa using h _ q3 q4
theorem Adq{ty:TypeId}(ot:OneT Pg ty){g o:Nat}{v:Value}(ht:w.there g o 1)(hv:v.oneCell'=true)(hc:v.cells = #[v]):(Instr.storeAt ty (.pointer (some ⟨g,o,none⟩)) v).run Pg w=.ok () (w.setCells g o [v]):=by
 obtain⟨d,hu,hd⟩:=ot.ex
 have hi:=AbS hu ot.n
 have hs:=run_storeVar_mid (P:=Pg) w g o ty #[v] (by simpa using ht) (by simpa using hi) (by simp[hv])
 have e:(storeVar ty ⟨g,o,none⟩ v)=storeVar ty ⟨g,o,none⟩ (.agg #[v]):=by unfold storeVar;rw[hc];rfl
 simp only[Instr.storeAt,Instr.sureAddr,Sem.run_bind,Sem.run_pure,Result.andThen_ok,e,hs]
theorem AgS{g:Nat}{P:List (List Value)}{ls:List Nat}(M:MM Γ0 w0 Γ w L R)(i:Nat)(v:Value)(P':List (List Value))(hi:L[i]? = some ⟨g,P,ls⟩){ty:TypeId}{x y:Operand}{o k:Nat}(ho:op.op=.store ty x y)(hgd:op.guard=none)(hx:a.eval x=.pointer (some ⟨g,o,none⟩))
  (hy:a.eval y=v) (ot:OneT Pg ty) (hf:findPart ls o 1=some (k,1)) (hk:(ls.drop k).take 1 = [1]) (hv:v.oneCell'=true) (hc:v.cells = #[v]) (hP:P.take k ++ [[v]]++P.drop (k+1)=P')
  (h:∀w',MM Γ0 w0 Γ w' (L.set i ⟨g,P',ls⟩) R->w.grownBy w' (some g)->wpList Pg ops Q rest (a.put op.dst undef) w'):wpList Pg ops Q (op::rest) a w:=by
 subst hP
 obtain⟨q1,q2,q4,q3⟩:=M.put (Q':=[[v]]) hi hf hk.symm
 have hr:=Adq (Pg:=Pg) ot (g:=g) (o:=o) (by simpa [fl]using q1) hv hc
 refine wpList_plain hgd fun K hK=>?_
 unfold Oper.wp execOp
 simp only[ho,hx,hy,hr,Sem.run_bind,Sem.run_pure,Result.andThen_ok,Oper.upon]
 exact hK _ _ (h _ q3 q4)
theorem Abg{C:World->Prop}{K:Act->Prop}{ty:TypeId}{x:Operand}{g o n:Nat}{p:List Value}(ho:op.op=.load ty x)(hx:a.eval x=.pointer (some ⟨g,o,none⟩))(rt:RowT Pg ty n)(hr:∀w',C w'->w'.rangeAt g o p)(hn:p.length=n)
  (h:K (a.put op.dst (.agg p.toArray))):op.quiet Pg a C K:=by
 obtain⟨d,hu,hd⟩:=rt.ex
 exact Ah6 ty x ho g o p hx hr hu hd (by rw[rt.n,hn]) h
theorem Aa2{C:World->Prop}{K:Act->Prop}{ty:TypeId}{x:Operand}{g o:Nat}{v:Value}(ho:op.op=.load ty x)(hx:a.eval x=.pointer (some ⟨g,o,none⟩))(ot:OneT Pg ty)(hc:∀w',C w'->w'.cell? ⟨g,o,none⟩=some v)
  (h:K (a.put op.dst v)):op.quiet Pg a C K:=by
 refine⟨_,fun w hw=>?_,h⟩
 unfold Oper.quietAt execOp
 simp only[ho,hx,Ahz ot (hc w hw),Sem.run_bind,Sem.run_pure,Result.andThen_ok]
 exact⟨rfl,rfl⟩
theorem HL.cls{g:Nat}{P:List (List Value)}{ls:List Nat}(H:HL w g P ls):∀w',Cls w.heap.size w w'->HL w' g P ls:=fun _ h=>H.below h.o
theorem CL.cls{g base:Nat}{P:List (List Value)}{ls:List Nat}(h:Chk Γ g base (fl P))(hl:P.map List.length=ls)(ok:Ok Γ w):∀w',Cls w.heap.size w w'->CL w' g base P ls:=fun _ hb=>CL.of h hl (ok.below hb.o)
theorem AaM{C:World->Prop}{K:Act->Prop}{g:Nat}{P:List (List Value)}{ls:List Nat}(H:∀w',C w'->HL w' g P ls)(H0:P.map List.length=ls){ty:TypeId}{x:Operand}{o n k:Nat}{p:List Value}(ho:op.op=.load ty x)(hx:a.eval x=.pointer (some ⟨g,o,none⟩))(rt:RowT Pg ty n)
  (hf:findPart ls o n=some (k,1)) (hp:P[k]? = some p) (h:K (a.put op.dst (.agg p.toArray))):op.quiet Pg a C K:=
 Abg ho hx rt (fun w' hw=>((H w' hw).part1 hf hp).1) (by obtain⟨_,_,_,_,hn,_⟩:=Aab H0 hf;rw[Ahq hp]at hn;exact hn) h
theorem AaI{C:World->Prop}{K:Act->Prop}{g:Nat}{P:List (List Value)}{ls:List Nat}(H:∀w',C w'->HL w' g P ls)(H0:P.map List.length=ls){ty:TypeId}{x:Operand}{o n k j:Nat}(ho:op.op=.load ty x)(hx:a.eval x=.pointer (some ⟨g,o,none⟩))(rt:RowT Pg ty n)
  (hf:findPart ls o n=some (k,j)) (h:K (a.put op.dst (.agg (fl ((P.drop k).take j)).toArray))):op.quiet Pg a C K:=
 Abg ho hx rt (fun w' hw=>((H w' hw).part hf).1) (by obtain⟨_,_,_,_,hn,_⟩:=Aab H0 hf;exact hn) h
theorem AaL{C:World->Prop}{K:Act->Prop}{g:Nat}{P:List (List Value)}{ls:List Nat}(H:∀w',C w'->HL w' g P ls){ty:TypeId}{x:Operand}{o k:Nat}{v:Value}(ho:op.op=.load ty x)(hx:a.eval x=.pointer (some ⟨g,o,none⟩))(ot:OneT Pg ty)
  (hf:findPart ls o 1=some (k,1)) (hp:P[k]? = some [v]) (h:K (a.put op.dst v)):op.quiet Pg a C K:=Aa2 ho hx ot (fun w' hw=>(H w' hw).cell1 hf hp) h
theorem Ah4{C:World->Prop}{K:Act->Prop}{g base:Nat}{P:List (List Value)}{ls:List Nat}(H:∀w',C w'->CL w' g base P ls)(H0:P.map List.length=ls){ty:TypeId}{x:Operand}{o n k:Nat}{p:List Value}(ho:op.op=.load ty x)(hx:a.eval x=.pointer (some ⟨g,base+o,none⟩))(rt:RowT Pg ty n)
  (hf:findPart ls o n=some (k,1)) (hp:P[k]? = some p) (h:K (a.put op.dst (.agg p.toArray))):op.quiet Pg a C K:=
 Abg ho hx rt (fun w' hw=>((H w' hw).part1 hf hp).1) (by obtain⟨_,_,_,_,hn,_⟩:=Aab H0 hf;rw[Ahq hp]at hn;exact hn) h
theorem Ah5{C:World->Prop}{K:Act->Prop}{g base:Nat}{P:List (List Value)}{ls:List Nat}(H:∀w',C w'->CL w' g base P ls){ty:TypeId}{x:Operand}{o k:Nat}{v:Value}(ho:op.op=.load ty x)(hx:a.eval x=.pointer (some ⟨g,base+o,none⟩))(ot:OneT Pg ty)
  (hf:findPart ls o 1=some (k,1)) (hp:P[k]? = some [v]) (h:K (a.put op.dst v)):op.quiet Pg a C K:=Aa2 ho hx ot (fun w' hw=>(H w' hw).cell1 hf hp) h
theorem Agi{C:World->Prop}{K:Act->Prop}{g base:Nat}{P:List (List Value)}{ls:List Nat}(H:∀w',C w'->CL w' g base P ls)(H0:P.map List.length=ls){ty:TypeId}{x:Operand}{n:Nat}{p:List Value}(ho:op.op=.load ty x)(hx:a.eval x=.pointer (some ⟨g,base,none⟩))(rt:RowT Pg ty n)
  (hf:findPart ls 0 n=some (0,1)) (hp:P[0]? = some p) (h:K (a.put op.dst (.agg p.toArray))):op.quiet Pg a C K:=
 Abg (o:=base+0) ho hx rt (fun w' hw=>((H w' hw).part1 hf hp).1) (by obtain⟨_,_,_,_,hn,_⟩:=Aab H0 hf;rw[Ahq hp]at hn;exact hn) h
theorem Agh{C:World->Prop}{K:Act->Prop}{g base:Nat}{P:List (List Value)}{ls:List Nat}(H:∀w',C w'->CL w' g base P ls)(H0:P.map List.length=ls){ty:TypeId}{x:Operand}{n j:Nat}(ho:op.op=.load ty x)(hx:a.eval x=.pointer (some ⟨g,base,none⟩))(rt:RowT Pg ty n)
  (hf:findPart ls 0 n=some (0,j)) (h:K (a.put op.dst (.agg (fl (P.take j)).toArray))):op.quiet Pg a C K:=
 Abg (o:=base+0) ho hx rt (fun w' hw=>((H w' hw).part hf).1) (by obtain⟨_,_,_,_,hn,_⟩:=Aab H0 hf;exact hn) h
theorem Agj{C:World->Prop}{K:Act->Prop}{g base:Nat}{P:List (List Value)}{ls:List Nat}(H:∀w',C w'->CL w' g base P ls){ty:TypeId}{x:Operand}{v:Value}(ho:op.op=.load ty x)(hx:a.eval x=.pointer (some ⟨g,base,none⟩))(ot:OneT Pg ty)
  (hf:findPart ls 0 1=some (0,1)) (hp:P[0]? = some [v]) (h:K (a.put op.dst v)):op.quiet Pg a C K:=Aa2 (o:=base+0) ho hx ot (fun w' hw=>(H w' hw).cell1 hf hp) h
end
open Go.RowKit
def like:Value->Value->Bool
 |.int k _,.int k' _=>k==k'
 |.bool _,.bool _=>true
 |.string _,.string _=>true
 |_,_=>false
def Fits:List Value->List Value->Prop
 |[],_=>True
 |k::K,v::l=>like k v=true/\Fits K l
 |_::_,[]=>False
theorem Fits.length{K l:List Value}(h:Fits K l):K.length<=l.length:=by
 induction K generalizing l with
 |nil=>simp
 |cons k K ih=>
  cases l with
  |nil=>exact h.elim
  |cons v l=>have:=ih h.2;simp;omega
theorem Fits.left{K K' l:List Value}(h:Fits (K++K') l):Fits K l:=by
 induction K generalizing l with
 |nil=>trivial
 |cons k K ih=>
  cases l with
  |nil=>exact h.elim
  |cons v l=>exact⟨h.1,ih h.2⟩
theorem Fits.right{K K' l:List Value}(h:Fits (K++K') l):Fits K' (l.drop K.length):=by
 induction K generalizing l with
 |nil=>simpa using h
 |cons k K ih=>
  cases l with
  |nil=>exact h.elim
  |cons v l=>simpa using ih h.2
theorem AiW{K l:List Value}(h:Fits K l):Fits K (l.take K.length):=by
 induction K generalizing l with
 |nil=>trivial
 |cons k K ih=>
  cases l with
  |nil=>exact h.elim
  |cons v l=>exact⟨h.1,ih h.2⟩
theorem Fits.ints{k:IntKind}{n:Nat}{l:List Int}(hl:l.length=n):Fits (List.replicate n (.int k 0)) (ints k l):=by
 subst hl
 induction l with
 |nil=>trivial
 |cons a l ih=>exact⟨by simp[like],ih⟩
theorem Aep{l l':List Value}(a b:Nat)(h:a<=l.length)(h':a<=l'.length) :
  (l.take a=l'.take a/\(l.drop a).take b=(l'.drop a).take b)↔l.take (a+b)=l'.take (a+b):=by
 rw[List.take_add,List.take_add]
 constructor
 .rintro⟨h1,h2⟩;rw[h1,h2]
 .intro e
  exact List.append_inj e (by simp[List.length_take];omega)
structure EqT(P:Program)(m:Nat)(t:TypeId)(K:List Value):Prop where
 size:P.cellsOf t=K.length
 eq:∀d,m<=d->∀(xs ys:Array Value) (off:Nat) (w:World),Fits K (xs.toList.drop off)->Fits K (ys.toList.drop off) ->
  ∃a b r,(part t xs off).run P w=.ok a w/\(part t ys off).run P w=.ok b w/\(Op.equalIn d t a b).run P w=.ok r w /\
   (r=true↔(xs.toList.drop off).take K.length=(ys.toList.drop off).take K.length)
section
variable {P:Program}
theorem AeW{xs:Array Value}{off:Nat}{v:Value}{l:List Value}(h:xs.toList.drop off=v::l):xs[off]? = some v:=by
 have:=congrArg (·[0]?) h
 simpa using this
theorem EqT.int{t:TypeId}{k:IntKind}(hu:P.underlying t=some (.int k))(hs:P.cellsOf t=1):EqT P 1 t [.int k 0]:=by
 have hp:P.plainKey t=true:=by unfold Program.plainKey;rw[hu]
 refine⟨hs,fun d hd xs ys off w hx hy=>?_⟩
 obtain⟨d,rfl⟩:∃e,d=e+1:=⟨d-1,by omega⟩
 cases h1:xs.toList.drop off with
 |nil=>rw[h1]at hx;exact hx.elim
 |cons v l=>
  cases h2:ys.toList.drop off with
  |nil=>rw[h2]at hy;exact hy.elim
  |cons u l'=>
   rw[h1]at hx
   rw[h2]at hy
   have hv:=hx.1
   have hu':=hy.1
   cases v<;>simp[like]at hv
   cases u<;>simp[like]at hu'
   subst hv;subst hu'
   exact⟨_,_,_,run_part_plain w hp (AeW h1),run_part_plain w hp (AeW h2),run_equalIn_int w d t _ _ _ _ hu,by simp⟩
theorem EqT.bool{t:TypeId}(hu:P.underlying t=some .bool)(hs:P.cellsOf t=1):EqT P 1 t [.bool false]:=by
 have hp:P.plainKey t=true:=by unfold Program.plainKey;rw[hu]
 refine⟨hs,fun d hd xs ys off w hx hy=>?_⟩
 obtain⟨d,rfl⟩:∃e,d=e+1:=⟨d-1,by omega⟩
 cases h1:xs.toList.drop off with
 |nil=>rw[h1]at hx;exact hx.elim
 |cons v l=>
  cases h2:ys.toList.drop off with
  |nil=>rw[h2]at hy;exact hy.elim
  |cons u l'=>
   rw[h1]at hx
   rw[h2]at hy
   have hv:=hx.1
   have hu':=hy.1
   cases v<;>simp[like]at hv
   cases u<;>simp[like]at hu'
   exact⟨_,_,_,run_part_plain w hp (AeW h1),run_part_plain w hp (AeW h2),run_equalIn_bool w d t _ _ hu,by simp⟩
theorem Ads{t:TypeId}{xs:Array Value}{off:Nat}(ha:∀w,(isAgg t).run P w=.ok true w)(hs:∀w,(sizeOf t).run P w=.ok (P.cellsOf t) w)(w:World) :
  (part t xs off).run P w=.ok (.agg (xs.extract off (off+P.cellsOf t))) w:=by
 simp[part,ha,hs]
theorem Abj(xs:Array Value)(off n:Nat):(xs.extract off (off+n)).toList=(xs.toList.drop off).take n:=by
 rw[Array.toList_extract,List.extract_eq_take_drop]
 congr 1;omega
theorem Adm{t e:TypeId}{n:Nat}(hu:P.underlying t=some (.array n e)):∀w,(isAgg t).run P w=.ok true w:=fun w=>by simp[isAgg,run_underlying hu]
theorem Aa0{t:TypeId}{fs:Array Field}(hu:P.underlying t=some (.struct fs)):∀w,(isAgg t).run P w=.ok true w:=fun w=>by simp[isAgg,run_underlying hu]
theorem AaV{t:TypeId}{k:TypeDesc}(hu:P.underlying t=some k):∀w,(sizeOf t).run P w=.ok (P.cellsOf t) w:=fun w=>by
 obtain⟨i,hi⟩:=info_of_underlying hu
 exact run_sizeOf w hi
theorem EqT.items{m:Nat}{e:TypeId}{K:List Value}(h:EqT P m e K)(d:Nat)(hd:m<=d)(xs ys:Array Value)(w:World):∀(k s:Nat),Fits (List.replicate k K).flatten (xs.toList.drop (s*K.length))->Fits (List.replicate k K).flatten (ys.toList.drop (s*K.length)) ->
  ∃r:Bool,(Op.eqItems d e (P.cellsOf e) xs ys (List.range' s k)).run P w=.ok r w /\
   (r=true↔(xs.toList.drop (s*K.length)).take (k*K.length)=(ys.toList.drop (s*K.length)).take (k*K.length))
 |0,s,_,_=>⟨true,by simp[Op.eqItems],by simp⟩
 |k+1,s,hx,hy=>by
  rw[List.replicate_succ,List.flatten_cons]at hx hy
  obtain⟨a,b,r,p1,p2,p3,hr⟩:=h.eq d hd xs ys (s*K.length) w hx.left hy.left
  have hx':=hx.right
  have hy':=hy.right
  rw[List.drop_drop,show s*K.length+K.length=(s+1)*K.length by rw[Nat.add_mul,Nat.one_mul]]at hx' hy'
  obtain⟨r',q,hr'⟩:=EqT.items h d hd xs ys w k (s+1) hx' hy'
  rw[<-h.size]at p1 p2
  rw[List.range'_succ]
  simp only[Op.eqItems,Sem.run_bind,p1,p2,p3,Result.andThen_ok]
  have key:=Aep (l:=xs.toList.drop (s*K.length)) (l':=ys.toList.drop (s*K.length)) K.length (k*K.length) hx.left.length hy.left.length
  rw[List.drop_drop,List.drop_drop,show s*K.length+K.length=(s+1)*K.length by rw[Nat.add_mul,Nat.one_mul],show K.length+k*K.length=(k+1)*K.length by rw[Nat.add_mul,Nat.one_mul,Nat.add_comm]]at key
  cases r
  .refine⟨false,by simp,?_⟩
   constructor
   .intro h;cases h
   .intro h
    have:=hr.2 (key.2 h).1
    cases this
  .refine⟨r',by simpa using q,?_⟩
   rw[hr',<-key]
   exact⟨fun h=>⟨hr.1 rfl,h⟩,fun h=>h.2⟩
theorem EqT.array{m n:Nat}{t e:TypeId}{K:List Value}(h:EqT P m e K)(hu:P.underlying t=some (.array n e))(hs:P.cellsOf t=n*K.length)(hi:∃i,P.info? e=some i) :
  EqT P (m+1) t (List.replicate n K).flatten:=by
 have hl:(List.replicate n K).flatten.length=n*K.length:=by simp
 refine⟨by rw[hl,hs],fun d hd xs ys off w hx hy=>?_⟩
 obtain⟨d,rfl⟩:∃e,d=e+1:=⟨d-1,by omega⟩
 obtain⟨i,hi⟩:=hi
 have g:∀zs:Array Value,Fits (List.replicate n K).flatten (zs.toList.drop off)->Fits (List.replicate n K).flatten ((zs.extract off (off+P.cellsOf t)).toList.drop (0*K.length)):=by
  intro zs hz
  rw[Nat.zero_mul,List.drop_zero,Abj,hs,<-hl]
  exact AiW hz
 obtain⟨r,q,hr⟩:=EqT.items h d (by omega) (xs.extract off (off+P.cellsOf t)) (ys.extract off (off+P.cellsOf t)) w n 0 (g xs hx) (g ys hy)
 refine⟨_,_,r,Ads (Adm hu) (AaV hu) w,Ads (Adm hu) (AaV hu) w,?_,?_⟩
 .rw[run_equalIn_array w d _ _ hu hi,List.range_eq_range']
  exact q
 .rw[hr,Nat.zero_mul,List.drop_zero,List.drop_zero,Abj,Abj,hs,List.take_take,List.take_take,Nat.min_self,hl]
def EqFs(P:Program)(m:Nat):List Field->Nat->List Value->Prop
 |[],_,K=>K = []
 | f :: fs, off, K => ∃ K1 K2, K = K1 ++ K2 /\ f.name ≠ "_" /\ f.offset = off /\ EqT P m f.type K1 /\ EqFs P m fs (off + K1.length) K2
theorem EqFs.run{m:Nat}(d:Nat)(hd:m<=d)(xs ys:Array Value)(w:World):∀(fs:List Field) (off:Nat) (K:List Value),EqFs P m fs off K ->
  Fits K (xs.toList.drop off)->Fits K (ys.toList.drop off) ->
  ∃r:Bool,(Op.eqFields d xs ys fs).run P w=.ok r w/\(r=true↔(xs.toList.drop off).take K.length=(ys.toList.drop off).take K.length)
 |[],off,K,h,_,_=>by
  have:K = []:=h
  subst this
  exact⟨true,by simp[Op.eqFields],by simp⟩
 |f::fs,off,K0,h,hx,hy=>by
  obtain⟨K,K',rfl,hn,ho,h,hrest⟩:=h
  obtain⟨a,b,r,p1,p2,p3,hr⟩:=h.eq d hd xs ys off w hx.left hy.left
  have hx':=hx.right
  have hy':=hy.right
  rw[List.drop_drop]at hx' hy'
  obtain⟨r',q,hr'⟩:=EqFs.run d hd xs ys w fs (off+K.length) K' hrest hx' hy'
  subst ho
  simp only[Op.eqFields,hn,ne_eq,not_false_eq_true,if_true,Sem.run_bind,p1,p2,p3,Result.andThen_ok]
  have key:=Aep (l:=xs.toList.drop f.offset) (l':=ys.toList.drop f.offset) K.length K'.length hx.left.length hy.left.length
  rw[List.drop_drop,List.drop_drop,<-List.length_append]at key
  cases r
  .refine⟨false,by simp,?_⟩
   constructor
   .intro h;cases h
   .intro h
    have:=hr.2 (key.2 h).1
    cases this
  .refine⟨r',by simpa using q,?_⟩
   rw[hr',<-key]
   exact⟨fun h=>⟨hr.1 rfl,h⟩,fun h=>h.2⟩
theorem EqT.struct{m:Nat}{t:TypeId}{fs:Array Field}{K:List Value}(hu:P.underlying t=some (.struct fs))(hf:P.fieldsOf t=fs)(hp:P.stoodInHeld t=false)(hs:P.cellsOf t=K.length)(h:EqFs P m fs.toList 0 K) :
  EqT P (m+1) t K:=by
 refine⟨hs,fun d hd xs ys off w hx hy=>?_⟩
 obtain⟨d,rfl⟩:∃e,d=e+1:=⟨d-1,by omega⟩
 have g:∀zs:Array Value,Fits K (zs.toList.drop off)->Fits K ((zs.extract off (off+P.cellsOf t)).toList.drop 0):=by
  intro zs hz
  rw[List.drop_zero,Abj,hs]
  exact AiW hz
 obtain⟨r,q,hr⟩:=EqFs.run d (by omega) (xs.extract off (off+P.cellsOf t)) (ys.extract off (off+P.cellsOf t)) w _ _ _ h (g xs hx) (g ys hy)
 refine⟨_,_,r,Ads (Aa0 hu) (AaV hu) w,Ads (Aa0 hu) (AaV hu) w,?_,?_⟩
 .rw[run_equalIn_struct w d t _ _ (by rw[hf];exact hu) hp,hf]
  exact q
 .rw[hr,List.drop_zero,List.drop_zero,Abj,Abj,hs,List.take_take,List.take_take,Nat.min_self]
theorem EqT.equal{m:Nat}{t:TypeId}{K:List Value}(h:EqT P m t K)(hm:m<=10000)(ha:∀w,(isAgg t).run P w=.ok true w)(hz:∀w,(sizeOf t).run P w=.ok (P.cellsOf t) w)
  {xs ys:List Value} (hx:Fits K xs) (hy:Fits K ys) (lx:xs.length=K.length) (ly:ys.length=K.length) (w:World) :
  ∃r:Bool,(Op.equalIn 10000 t (.agg xs.toArray) (.agg ys.toArray)).run P w=.ok r w/\(r=true↔xs=ys):=by
 obtain⟨a,b,r,p1,p2,p3,hr⟩:=h.eq 10000 hm xs.toArray ys.toArray 0 w (by simpa using hx) (by simpa using hy)
 have full:∀zs:List Value,zs.length=K.length->zs.toArray.extract 0 (0+P.cellsOf t)=zs.toArray:=by
  intro zs hz
  rw[h.size,Nat.zero_add,<-hz]
  simp
 rw[Ads ha hz w,full xs lx]at p1
 rw[Ads ha hz w,full ys ly]at p2
 cases p1
 cases p2
 refine⟨r,p3,?_⟩
 rw[hr]
 simp[lx,ly,List.take_of_length_le]
theorem EqT.same{m:Nat}{t:TypeId}{K:List Value}(h:EqT P m t K)(hm:m<=10000)(ha:∀w,(isAgg t).run P w=.ok true w)(hz:∀w,(sizeOf t).run P w=.ok (P.cellsOf t) w)
  {xs ys:List Value} (hx:Fits K xs) (hy:Fits K ys) (lx:xs.length=K.length) (ly:ys.length=K.length) {r:Bool} (hr:r=true↔xs=ys) (w:World) :
  (Op.equalIn 10000 t (.agg xs.toArray) (.agg ys.toArray)).run P w=.ok r w:=by
 obtain⟨r',q,hr'⟩:=h.equal hm ha hz hx hy lx ly w
 have:r'=r:=by rw[Bool.eq_iff_iff,hr',hr]
 rw[q,this]
theorem AhN{k:IntKind}{l l':List Int}:ints k l=ints k l'↔l=l':=by
 constructor
 .intro h
  exact List.map_inj_right (fun a b e=>by injection e) |>.1 h
 .rintro rfl;rfl
end
open Go.RowKit
def zroot:List Int:=List.replicate 32 0
theorem Adf:EqT Tryz.prog 2 29 (List.replicate 32 [Value.int .u8 0]).flatten:=
 EqT.array (EqT.int Tryz.underlying5 (by kernel_rfl)) Tryz.underlying29 (by kernel_rfl) (info_of_underlying Tryz.underlying5)
theorem Ab9{l:List Int}(h:l.length=32):Fits (List.replicate 32 [Value.int .u8 0]).flatten (ints .u8 l):=Fits.ints h
theorem Acq{a b:List Int}(la:a.length=32)(lb:b.length=32)(w:World) :
  (Op.equalIn 10000 29 (.agg (ints .u8 a).toArray) (.agg (ints .u8 b).toArray)).run Tryz.prog w=.ok (decide (a=b)) w:=
 Adf.same (by omega) (Adm Tryz.underlying29) (AaV Tryz.underlying29) (Ab9 la) (Ab9 lb) (by simp[ints,la]) (by simp[ints,lb]) (by simp[AhN]) w
theorem Ahg:#[Value.int .u8 0,Value.int .u8 0,Value.int .u8 0,Value.int .u8 0,Value.int .u8 0,Value.int .u8 0,Value.int .u8 0,Value.int .u8 0,Value.int .u8 0,Value.int .u8 0,Value.int .u8 0,Value.int .u8 0,Value.int .u8 0,Value.int .u8 0,Value.int .u8 0,Value.int .u8 0,Value.int .u8 0,Value.int .u8 0,Value.int .u8 0,Value.int .u8 0,Value.int .u8 0,Value.int .u8 0,Value.int .u8 0,Value.int .u8 0,Value.int .u8 0,Value.int .u8 0,Value.int .u8 0,Value.int .u8 0,Value.int .u8 0,Value.int .u8 0,Value.int .u8 0,Value.int .u8 0]=(ints .u8 zroot).toArray:=rfl
section
variable {Γ0 Γ:Gam}{w0 w:World}{L:List Ent}{R:List RowE}
theorem MM.at6{a b c d e f:Ent}{g:Nat}{P:List (List Value)}{ls:List Nat}(M:MM Γ0 w0 Γ w (a::b::c::d::e::f::⟨g,P,ls⟩::L) R):HL w g P ls:=⟨M.has ⟨g,P,ls⟩ (by simp),M.len ⟨g,P,ls⟩ (by simp)⟩
end
end
end Go.Proofs.YtpaihpeoiliioaaGreat
