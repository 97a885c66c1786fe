/- Texts joined: what the walks of this claim stand on (part 2). -/
import Derived.Test.YtpaihpeoiliioaaGreatKK1
set_option linter.all false
set_option maxRecDepth 20000
set_option maxHeartbeats 40000000
namespace Go.Proofs.YtpaihpeoiliioaaGreat
section
open Go.RowKit
theorem AqW:RowT Tryz.prog 29 32:=⟨⟨_,Tryz.underlying29,rfl⟩,by kernel_rfl⟩
theorem rtCk:RowT Tryz.prog 37 33:=⟨⟨_,Tryz.underlying37,rfl⟩,by kernel_rfl⟩
theorem rtTb:RowT Tryz.prog 119 34:=⟨⟨_,Tryz.underlying119,rfl⟩,by kernel_rfl⟩
theorem Ac5:OneT Tryz.prog 3:=⟨⟨_,Tryz.underlying3,rfl⟩,by kernel_rfl⟩
theorem Aqc:OneT Tryz.prog 23:=⟨⟨_,Tryz.underlying23,rfl⟩,by kernel_rfl⟩
theorem Aqb:OneT Tryz.prog 30:=⟨⟨_,Tryz.underlying30,rfl⟩,by kernel_rfl⟩
structure U where
 n:Nat
 lt:n<18446744073709551616
theorem U.ext' {x y:U}(h:x.n=y.n):x=y:=by cases x;cases y;cases h;rfl
instance:DecidableEq U:=fun x y=>if h:x.n=y.n then .isTrue (U.ext' h)else .isFalse (fun e=>h (e▸rfl))
def U.v(x:U):Value:=.int .u64 (x.n:Int)
def u0:U:=⟨0,by decide⟩
structure Rt where
 l:List Int
 len:l.length=32
 bt:∀x∈l,0<=x/\x<256
theorem Rt.ext' {x y:Rt}(h:x.l=y.l):x=y:=by cases x;cases y;cases h;rfl
instance:DecidableEq Rt:=fun x y=>if h:x.l=y.l then .isTrue (Rt.ext' h)else .isFalse (fun e=>h (e▸rfl))
def rc(r:Rt):List Value:=ints .u8 r.l
theorem Aav(r:Rt):(rc r).length=32:=by simp[rc,ints,r.len]
theorem Aac(r:Rt):One (rc r):=one_ints _ _
theorem AfX{a b:Rt}:rc a=rc b↔a=b:=⟨fun h=>Rt.ext' (AhN.1 h),fun h=>h▸rfl⟩
def r0:Rt:=⟨zroot,rfl,fun x hx=>by
 have:=List.eq_of_mem_replicate (show x∈List.replicate 32 0 from hx)
 omega⟩
structure Cp where
 e:U
 r:Rt
deriving DecidableEq
def cpP(c:Cp):List (List Value):=[[.int .u64 (c.e.n:Int)],rc c.r]
theorem AaC(c:Cp):(cpP c).map List.length = [1,32]:=by simp[cpP,Aav]
theorem Amx(c:Cp):(fl (cpP c)).length=33:=AbE (AaC c)
theorem AaO(c:Cp):One (fl (cpP c)):=One.cons (One.v rfl) (Aac _)
theorem Aqx{a b:Cp}:fl (cpP a)=fl (cpP b)↔a=b:=by
 constructor
 .intro h
  simp only[cpP,fl,List.cons_append,List.nil_append,List.cons.injEq,Value.int.injEq,true_and]at h
  obtain⟨h1,h2⟩:=h
  obtain⟨e,r⟩:=a
  obtain⟨e',r'⟩:=b
  have:=AfX.1 h2
  simp only at this h1
  rw[this,U.ext' (Int.ofNat.inj h1)]
 .rintro rfl;rfl
def cp0:Cp:=⟨u0,r0⟩
def kCk:List Value:=.int .u64 0::(List.replicate 32 [Value.int .u8 0]).flatten
theorem EqT.mono' {P:Program}{m m':Nat}{t:TypeId}{K:List Value}(h:EqT P m t K)(hm:m<=m'):EqT P m' t K:=⟨h.1,fun d hd=>h.2 d (Nat.le_trans hm hd)⟩
theorem eqCk:EqT Tryz.prog 3 37 kCk:=by
 refine EqT.struct Tryz.underlying37 (by kernel_rfl) (by kernel_rfl) (by kernel_rfl) ?_
 refine⟨[.int .u64 0],_,rfl,by decide,rfl,(EqT.int Tryz.underlying23 (by kernel_rfl)).mono' (by omega),?_⟩
 exact⟨(List.replicate 32 [Value.int .u8 0]).flatten,[],by simp,by decide,rfl,Adf,rfl⟩
theorem Amg(a:Cp):Fits kCk (fl (cpP a)):=show Fits (.int .u64 0::_) (.int .u64 (a.e.n:Int)::ints .u8 a.r.l)from⟨rfl,Ab9 a.r.len⟩
theorem Adg(a b:Cp)(w:World):(Op.equalIn 10000 37 (.agg (fl (cpP a)).toArray) (.agg (fl (cpP b)).toArray)).run Tryz.prog w=.ok (decide (a=b)) w:=
 eqCk.same (by omega) (Aa0 Tryz.underlying37) (AaV Tryz.underlying37) (Amg a) (Amg b) (Amx a) (Amx b) (by simp[Aqx]) w
theorem Aa5(a b:Rt)(w:World):(Op.equalIn 10000 29 (.agg (rc a).toArray) (.agg (rc b).toArray)).run Tryz.prog w=.ok (decide (a=b)) w:=by
 have:=Acq a.len b.len w
 rw[show decide (a.l=b.l)=decide (a=b)from by rw[decide_eq_decide];exact⟨Rt.ext',fun h=>h▸rfl⟩]at this
 exact this
def tbP(c:Cp)(s:Value):List (List Value):=[[.int .u64 (c.e.n:Int)],rc c.r,[s]]
theorem AaS(c:Cp)(s:Value):(tbP c s).map List.length = [1,32,1]:=by simp[tbP,Aav]
theorem Ad0(c:Cp)(s:Value):(fl (tbP c s)).length=34:=AbE (AaS c s)
theorem Aeo(c:Cp)(A:Option Addr)(n k:Nat):One (fl (tbP c (.slice A n k))):=One.cons (One.v rfl) (One.cons (Aac _) (One.v rfl))
theorem AeY(c:Cp):List.take 2 (cpP c)=cpP c:=rfl
theorem AeX(c:Cp)(s:Value):List.take 3 (tbP c s)=tbP c s:=rfl
theorem AcH(c:Cp)(s:Value):List.take 2 (tbP c s)=cpP c:=rfl
def us(l:List U):List Value:=l.map U.v
theorem AcY(l:List U):(us l).length=l.length:=by simp[us]
theorem AdV(l:List U):us l=ints .u64 (l.map fun x=>(x.n:Int)):=by simp[us,ints,U.v]
def All2{α β:Type}(r:α->β->Prop)(X:List α)(T:List β):Prop:=X.length=T.length/\∀i (h1:i<X.length) (h2:i<T.length),r X[i] T[i]
theorem All2.nil{α β:Type}{r:α->β->Prop}:All2 r [] []:=⟨rfl,fun i h=>absurd h (Nat.not_lt_zero _)⟩
theorem All2.imp{α β:Type}{r s:α->β->Prop}{X:List α}{T:List β}(h:All2 r X T)(hi:∀a b,r a b->s a b):All2 s X T:=⟨h.1,fun i h1 h2=>hi _ _ (h.2 i h1 h2)⟩
theorem All2.app{α β:Type}{r:α->β->Prop}{X Y:List α}{T V:List β}(h:All2 r X T)(k:All2 r Y V):All2 r (X++Y) (T++V):=by
 refine⟨by simp[h.1,k.1],fun i h1 h2=>?_⟩
 rcases Nat.lt_or_ge i X.length with hi|hi
 .rw[List.getElem_append_left hi,List.getElem_append_left (h.1▸hi)]
  exact h.2 i _ _
 .have hj:T.length<=i:=h.1▸hi
  rw[List.getElem_append_right hi,List.getElem_append_right hj]
  simp only[h.1]
  exact k.2 _ _ _
theorem All2.one{α β:Type}{r:α->β->Prop}{x:α}{t:β}(h:r x t):All2 r [x] [t]:=⟨rfl,fun i h1 h2=>by
 have:i=0:=by simpa using h1
 subst this;exact h⟩
theorem All2.take{α β:Type}{r:α->β->Prop}{X:List α}{T:List β}(h:All2 r X T)(k:Nat):All2 r (X.take k) (T.take k):=
 ⟨by simp[h.1],fun i h1 h2=>by rw[List.getElem_take,List.getElem_take];exact h.2 i _ _⟩
theorem All2.drop{α β:Type}{r:α->β->Prop}{X:List α}{T:List β}(h:All2 r X T)(k:Nat):All2 r (X.drop k) (T.drop k):=
 ⟨by simp[h.1],fun i h1 h2=>by rw[List.getElem_drop,List.getElem_drop];exact h.2 _ _ _⟩
structure Tbl where
 c:Cp
 b:List U
deriving DecidableEq
structure TbG(Γ:Gam)(x:Cp × Value)(t:Tbl):Prop where
 c:x.1=t.c
 s:∃A k,x.2=.slice A t.b.length k/\CapOk A t.b.length k/\SlG Γ A t.b.length (us t.b)
def TsG(Γ:Gam)(A:Option Addr)(n:Nat)(T:List Tbl):Prop:=T.length=n/\∃X:List (Cp × Value),All2 (TbG Γ) X T/\SlG Γ A n (X.flatMap fun x=>fl (tbP x.1 x.2))
theorem TbG.mono{Γ Γ':Gam}{x:Cp × Value}{t:Tbl}(h:TbG Γ x t)(hl:Le Γ Γ'):TbG Γ' x t:=⟨h.c,by obtain⟨A,k,e,e',s⟩:=h.s;exact⟨A,k,e,e',s.mono hl⟩⟩
theorem TsG.mono{Γ Γ':Gam}{A:Option Addr}{n:Nat}{T:List Tbl}(h:TsG Γ A n T)(hl:Le Γ Γ'):TsG Γ' A n T:=by
 obtain⟨h1,X,h2,h3⟩:=h
 exact⟨h1,X,h2.imp (fun _ _ h=>h.mono hl),h3.mono hl⟩
theorem TsG.at{Γ:Gam}{A:Option Addr}{n:Nat}{T:List Tbl}(h:TsG Γ A n T)(k:Nat)(hk:k<n) :
  ∃g s,A=some ⟨g,0,none⟩/\TbG Γ (T[k]'(h.1▸hk) |>.c,s) (T[k]'(h.1▸hk))/\Chk Γ g (k*34) (fl (tbP (T[k]'(h.1▸hk)).c s)):=by
 obtain⟨h1,X,h2,h3⟩:=h
 have hl:=h2.1
 obtain⟨g,e,hc⟩:=h3.at (k:=34) (f:=fun x:Cp × Value=>fl (tbP x.1 x.2)) (fun x _=>Ad0 _ _) (by omega) k hk
 have hx:=h2.2 k (by omega) (by omega)
 refine⟨g,(X[k]'(by omega)).2,e,⟨rfl,hx.s⟩,?_⟩
 rw[<-hx.c];exact hc
structure ElT(Pg:Program)(t e:TypeId)(size bytes:Nat):Prop where
 ht:Pg.underlying t=some (.slice e)
 hi:∃i z,Pg.info? e=some i/\i.zero=some z/\i.size=size/\i.bytes=bytes/\z.cells.size=size
 pos:0<size
 small:size<=16777216
theorem Abr{Pg:Program}{t e:TypeId}{size bytes:Nat}(ht:Pg.underlying t=some (.slice e))(h:(Pg.info? e).map (fun i=>(i.zero.map (·.cells.size),i.size,i.bytes))=some (some size,size,bytes))(pos:0<size)(small:size<=16777216):ElT Pg t e size bytes:=by
 refine⟨ht,?_,pos,small⟩
 cases hi:Pg.info? e with
 |none=>rw[hi]at h;cases h
 |some i=>
  rw[hi]at h
  simp only[Option.map_some,Option.some.injEq,Prod.mk.injEq]at h
  obtain⟨h1,h2,h3⟩:=h
  cases hz:i.zero with
  |none=>rw[hz]at h1;cases h1
  |some z=>
   rw[hz]at h1
   exact⟨i,z,rfl,hz,h2,h3,by simpa using h1⟩
theorem Aq3{Pg:Program}{t e:TypeId}{size bytes:Nat}(el:ElT Pg t e size bytes){v:Value}{cs:List Value}(hv:v.cells=cs.toArray)(hl:cs.length=size):Pg.builtSlice e 1 [(0,v)]=some cs.toArray:=by
 obtain⟨i,z,h1,h2,h3,h4,h5⟩:=el.hi
 have hp:=el.pos
 have hs:=el.small
 unfold Program.builtSlice
 rw[h1]
 simp only[h2]
 rw[if_neg (by rw[h3];omega)]
 have hZ:((Array.range (1*i.size)).map (z.cells[· % z.cells.size]!)).size=size:=by simp[h3]
 generalize(Array.range (1*i.size)).map (z.cells[· % z.cells.size]!)=Z at *
 have hm:Z.toList.length=cs.length:=by simp[hl,hZ]
 have e0:Z=([]++Z.toList ++ []).toArray:=by simp
 have hfold:v.cells.zipIdx.foldl (fun c (x:Value × Nat)=>c.setIfInBounds (0+x.2) x.1) (([]:List Value)++Z.toList ++ []).toArray=(([]:List Value)++cs ++ []).toArray:=by
  have:=Ae9 ([]:List Value).length cs Z.toList [] [] 0 hm (by simp)
  rw[hv,<-Array.foldl_toList,Array.toList_zipIdx]
  exact this
 rw[Instr.fill]
 simp only[Nat.zero_mul]
 rw[if_neg (by simp[hv,hl,h3,hZ]),e0,hfold]
 simp[Instr.fill]
section
variable {Γ0 Γ:Gam}{w0 w:World}{L:List Ent}{R:List RowE}{Pg:Program}{ops:Array Oper}{rest:List Oper}{op:Oper}{a:Act}{Q:Exit->Act->World->Prop}
theorem Aau{t e:TypeId}{size bytes:Nat}(el:ElT Pg t e size bytes){x:Operand}{v:Value}{cs:List Value}(ho:op.op=.buildSlice t 1 #[(0,x)])(hx:a.eval x=v)(hv:v.cells=cs.toArray)(hl:cs.length=size) :
  (execOp a.eval op).run Pg w=.ok (.value (.slice (some ⟨w.heap.size,0,none⟩) 1 1)) (w.alloc (.cells cs.toArray e)):=by
 have e1:(#[(0,x)].map fun(i,x)=>(i,a.eval x)) = #[(0,v)]:=by
  apply Array.ext'
  rw[Array.toList_map]
  show [(0,a.eval x)]=_
  rw[hx]
 have:=run_sliceTo (P:=Pg) w t e 1 #[(0,v)] _ el.ht (Aq3 el hv hl)
 unfold execOp
 simp only[ho,e1,this,Sem.run_bind,Result.andThen_ok]
 rfl
theorem AbP{t e:TypeId}{size bytes:Nat}(M:MM Γ0 w0 Γ w L R)(el:ElT Pg t e size bytes){P:List (List Value)}{ls:List Nat}{x:Operand}{v:Value}(ho:op.op=.buildSlice t 1 #[(0,x)])(hgd:op.guard=none)(hx:a.eval x=v)(hv:v.cells=(fl P).toArray)(hl:P.map List.length=ls)(hs:ls.sum=size)
  (h:∀w' g,MM Γ0 w0 Γ w' (⟨g,P,ls⟩::L) R->(Below w.heap.size w w'/\g=w.heap.size)->wpList Pg ops Q rest (a.put op.dst (.slice (some ⟨g,0,none⟩) 1 1)) w'):wpList Pg ops Q (op::rest) a w:=
 wpList_plain hgd fun K hK=>by
  unfold Oper.wp
  rw[Aau el ho hx hv (by rw[AbE hl,hs]),Oper.upon_value]
  exact hK _ _ (h _ _ (M.alloc hl rfl e) ⟨ext_alloc _ _,rfl⟩)
theorem Abt(M:MM Γ0 w0 Γ w L R){t e:TypeId}(hu:Pg.underlying t=some (.slice e))(ps:List (Nat × Value))(P:List (List Value)){ls:List Nat}{n:Nat}{parts:Array (Nat × Operand)}(ho:op.op=.buildSlice t n parts)(hgd:op.guard=none)
  (hps:parts.toList.map (fun x=>(x.1,a.eval x.2))=ps) (hf:Pg.builtSlice e n ps=some (fl P).toArray) (hl:P.map List.length=ls)
  (h:∀w' g,MM Γ0 w0 Γ w' (⟨g,P,ls⟩::L) R->(Below w.heap.size w w'/\g=w.heap.size)->wpList Pg ops Q rest (a.put op.dst (.slice (some ⟨g,0,none⟩) n n)) w'):wpList Pg ops Q (op::rest) a w:=
 wpList_plain hgd fun K hK=>by
  have e1:(parts.map fun(i,x)=>(i,a.eval x))=ps.toArray:=Array.ext' (by rw[Array.toList_map];exact hps)
  have hr:=run_sliceTo (P:=Pg) w t e n ps.toArray _ hu hf
  unfold Oper.wp execOp
  simp only[ho,e1,hr,Sem.run_bind,Result.andThen_ok]
  exact hK _ _ (h _ _ (M.alloc hl rfl e) ⟨ext_alloc _ _,rfl⟩)
theorem Ako{ty:TypeId}(ot:OneT Pg ty){g i:Nat}{cs:List Value}(hh:Has w g cs)(hi:i<cs.length)(v:Value){x y:Operand}(ho:op.op=.store ty x y)(hgd:op.guard=none)(hx:a.eval x=.pointer (some ⟨g,i,none⟩))(hy:a.eval y=v)(hv:v.oneCell'=true)(hc:v.cells = #[v])
  (h:∀w',Has w' g (cs.set i v)->w.grownBy w' (some g)->wpList Pg ops Q rest (a.put op.dst undef) w'):wpList Pg ops Q (op::rest) a w:=by
 have ht:w.there g i 1:=fun j hj=>by
  have hj0:j=0:=by omega
  subst hj0
  rw[Nat.add_zero,hh.cell i,hh.frozen i,List.getElem?_eq_getElem hi]
  exact⟨rfl,rfl⟩
 have hr:=Adq (Pg:=Pg) ot ht hv hc
 refine wpList_plain hgd fun K hK=>?_
 unfold Oper.wp execOp
 simp only[ho,hx,hy,hr,Sem.run_bind,Sem.run_pure,Result.andThen_ok,Oper.upon]
 exact hK _ _ (h _ (hh.set i v) (AbI w g i v))
theorem AaW{t e:TypeId}{size bytes:Nat}(el:ElT Pg t e size bytes){v:Value}{n:Nat}{xs:List Value}(M:MM Γ0 w0 Γ w L (⟨v,e,size,n,xs⟩::R))(ty:TypeId)(A:Option Addr)(m c:Nat)(news:List Value)
  (hnews:Row w w.heap.size size A m news) (hA:A=none->c=0) (h1:One news) (h63:n+m<=maxLen) (hbytes:(n+m)*bytes<=140737488355328) :
  ∃v' w',(Builtin.append_ #[t,t] ty #[v,.slice A m c]).run Pg w=.ok v' w'/\MM Γ0 w0 Γ w' L (⟨v',e,size,n+m,xs++news⟩::R):=by
 obtain⟨i,z,hi,hz,hsz,hby,hzs⟩:=el.hi
 have hown:=M.rows _ (List.mem_cons_self ..)
 cases A with
 |some ad=>
  have hn:∀j u,news[j]? = some u->w.cell? (ad.add j)=some u:=fun j u hu=>by
   obtain⟨ad',e,_,h⟩:=hnews.2 j u hu
   cases e;exact h
  obtain⟨v',w',q1,q2,q3,_,q5⟩:=run_append_own_at (P:=Pg) w w0.heap.size t ty e i z size bytes el.ht hi hz hsz hby hzs el.pos v n xs hown ad m c news hnews.1 hn h1 h63 hbytes M.ext.bel.size
  refine⟨v',w',q1,M.rowGrow q3 q2 ?_⟩
  rcases q5 with q5|q5
  .exact .inl q5
  .exact .inr (.inl q5)
 |none=>
  have hm:m=0:=by
   rcases Nat.eq_zero_or_pos m with h0|h0
   .exact h0
   .have hpos:=el.pos
    have hl:=hnews.1
    have:0<m*size:=Nat.mul_pos h0 hpos
    obtain⟨ad,e,_⟩:=hnews.2 0 (news[0]'(by omega)) (List.getElem?_eq_getElem (by omega))
    cases e
  subst hm
  obtain rfl:=hA rfl
  have hnil:news = []:=List.eq_nil_of_length_eq_zero (by have:=hnews.1;simpa using this)
  subst hnil
  exact⟨v,w,run_append_owned_none (P:=Pg) (w:=w) w0.heap.size t ty e i size el.ht hi v n xs hown,by simpa using M⟩
theorem MM.frz{A:Option Addr}{c:Nat}{e:TypeId}{size n:Nat}{xs:List Value}(M:MM Γ0 w0 Γ w L (⟨.slice A n c,e,size,n,xs⟩::R)):∃Γ',CapOk A n c/\SlG Γ' A n xs/\Le Γ Γ'/\MM Γ0 w0 Γ' w L R:=by
 obtain⟨A',c',Γ',e,h1,h2,h3,h4⟩:=M.freeze
 injection e with e1 e2 e3
 subst e1;subst e3
 exact⟨Γ',h1,h2,h3,h4⟩
theorem Aaf{g:Nat}{P:List (List Value)}{ls:List Nat}(H:HL w g P ls){m size:Nat}(hs:ls.sum=m*size):Row w w.heap.size size (some ⟨g,0,none⟩) m (fl P):=
 ⟨by rw[AbE H.len,hs],fun j u hu=>⟨_,rfl,H.has.lt,by rw[Ad5,H.has.cell,Nat.zero_add];exact hu⟩⟩
theorem Aae{t e:TypeId}{size bytes:Nat}{v:Value}{n:Nat}{xs:List Value}(M:MM Γ0 w0 Γ w L (⟨v,e,size,n,xs⟩::R))(el:ElT Pg t e size bytes){s x:Operand}{A:Option Addr}{m c:Nat}{news:List Value}
  (hnews:Row w w.heap.size size A m news) (hA:A=none->c=0) (h1:One news) (h63:n+m<=maxLen) (hbytes:(n+m)*bytes<=140737488355328)
  (ho:op.op=.call {callee:=.builtin .append,args:=#[s,x],argTypes:=#[t,t]}) (hgd:op.guard=none) (hs:a.eval s=v) (hx:a.eval x=.slice A m c)
  (h:∀A' c' w',MM Γ0 w0 Γ w' L (⟨.slice A' (n+m) c',e,size,n+m,xs++news⟩::R)->wpList Pg ops Q rest (a.put op.dst (.slice A' (n+m) c')) w'):wpList Pg ops Q (op::rest) a w:=by
 obtain⟨v',w',hr,hM⟩:=AaW el M op.type A m c news hnews hA h1 h63 hbytes
 obtain⟨A',c',e1⟩:=own_slice (hM.rows _ (List.mem_cons_self ..))
 simp only at e1
 subst e1
 refine wpList_plain hgd fun K hK=>?_
 unfold Oper.wp execOp
 simp only[ho,resolve,invoke,builtin,Sem.run_bind,Sem.run_pure,Result.andThen_ok,List.map_toArray,List.map_cons,List.map_nil,hs,hx,hr]
 exact hK _ _ (h A' c' w' hM)
theorem AaU{t e:TypeId}{size bytes:Nat}{v:Value}{n:Nat}{xs:List Value}{g:Nat}{P:List (List Value)}{ls:List Nat}(M:MM Γ0 w0 Γ w (⟨g,P,ls⟩::L) (⟨v,e,size,n,xs⟩::R))(el:ElT Pg t e size bytes){s x:Operand}
  (hls:ls.sum=size) (h1:One (fl P)) (h63:n+1<=maxLen) (hbytes:(n+1)*bytes<=140737488355328)
  (ho:op.op=.call {callee:=.builtin .append,args:=#[s,x],argTypes:=#[t,t]}) (hgd:op.guard=none) (hs:a.eval s=v) (hx:a.eval x=.slice (some ⟨g,0,none⟩) 1 1)
  (h:∀A' c' w',MM Γ0 w0 Γ w' L (⟨.slice A' (n+1) c',e,size,n+1,xs++fl P⟩::R)->wpList Pg ops Q rest (a.put op.dst (.slice A' (n+1) c')) w'):wpList Pg ops Q (op::rest) a w:=
 Aae M el (Aaf M.at0 (by rw[hls,Nat.one_mul])) (fun h=>by cases h) h1 h63 hbytes ho hgd hs hx fun A' c' w' hM=>h A' c' w' hM.tail
theorem AlA {C : World -> Prop} {K : Act -> Prop} {f : FuncId} {fn : Func} {args : Array Value} {v : Value} (hc : ∀ w', C w' -> Calls Pg f args w' fun e w'' => e = .returned v /\ C w'') (hf : Pg.funcs[f]? = some fn) (hn : (fn.name == "runtime.NumGoroutine") = false) (hb : fn.body.isNone = false)
  {xs:Array Operand} {ts:Array TypeId} (ho:op.op=.call {callee:=.value (.func f),args:=xs,argTypes:=ts}) (hargs0:xs.toList.map a.eval=args.toList) (hk:K (a.put op.dst v)):op.quiet Pg a C K:=by
 have hargs:xs.map a.eval=args:=Array.ext' (by rw[Array.toList_map];exact hargs0)
 refine⟨v,fun w' hw=>?_,hk⟩
 unfold Oper.quietAt execOp
 have hev:a.eval (.func f)=.func (.func f) #[] #[]:=rfl
 simp only[ho,resolve,Sem.run_bind,Sem.run_pure,Result.andThen_ok,hargs,hev,Deferred.ofValue,invoke,Array.append_empty,Array.empty_append,AeI hf hn hb,Oper.quietUpon]
 exact⟨trivial,hc w' hw⟩
theorem AaJ{W:World}{f:FuncId}{args:Array Value}{v:Value}(h:∀w',Cls W.heap.size W w'->Calls Pg f args w' fun e w''=>e=.returned v/\Ext Γ w' Γ w''):∀w',Cls W.heap.size W w'->Calls Pg f args w' fun e w''=>e=.returned v/\Cls W.heap.size W w'':=
 fun w' hw=>(h w' hw).mono fun _ _ ⟨he,hx⟩=>⟨he,Below.trans hw (hx.bel.mono (Below.size hw))⟩
theorem AfY{W:World}{f:FuncId}{args:Array Value}{v:Value}(h:∀w',Cls W.heap.size W w'->Calls Pg f args w' fun e w''=>e=.returned v/\Below w'.heap.size w' w''):∀w',Cls W.heap.size W w'->Calls Pg f args w' fun e w''=>e=.returned v/\Cls W.heap.size W w'':=
 fun w' hw=>(h w' hw).mono fun _ _ ⟨he,hx⟩=>⟨he,Below.trans hw (hx.mono (Below.size hw))⟩
theorem AbK{fn:Func}{p:Tmp}{ty:TypeId}(h:fn.results = #[.cell p ty])(tmps:Array Value){g n:Nat}{P:List (List Value)}{ls:List Nat}(H:HL w g P ls)(hp:tmps.getD p undef=.pointer (some ⟨g,0,none⟩))(rt:RowT Pg ty n)(hn:ls.sum=n) :
  (results fn tmps).run Pg w=.ok (.agg (fl P).toArray) w:=by
 obtain⟨d,hu,hd⟩:=rt.ex
 exact Ah1 h tmps hp H.has hu (by cases d<;>first|rfl|cases hd) (by rw[rt.n,AbE H.len,hn])
theorem AaN{fn:Func}{p q:Tmp}{ty:TypeId}(h:fn.results = #[.cell p ty,.tmp q])(tmps:Array Value){g n:Nat}{P:List (List Value)}{ls:List Nat}(H:HL w g P ls)(hp:tmps.getD p undef=.pointer (some ⟨g,0,none⟩))(rt:RowT Pg ty n)(hn:ls.sum=n) :
  (results fn tmps).run Pg w=.ok (.tuple #[.agg (fl P).toArray,tmps.getD q undef]) w:=by
 obtain⟨d,hu,hd⟩:=rt.ex
 exact Aey h tmps hp H.has hu (by cases d<;>first|rfl|cases hd) (by rw[rt.n,AbE H.len,hn])
end
open Go.RowKit
section
variable {P:Program}{ops:Array Oper}{md:Region.Mode}{Q:Exit->Act->World->Prop}
def wpAnyC(P:Program)(md:Region.Mode)(ops:Array Oper)(Q:Exit->Act->World->Prop)(n:List Nat):Nat->Array Bool->Act->World->Prop
 |0,listed,a,w=>Region.ready md ops listed = []/\Q .normal a w
 |f+1,listed,a,w=>(Region.ready md ops listed = []->Q .normal a w) /\
  ∀i∈Region.ready md ops listed,wpOp P ops Q i (fun a' w'=>(n.contains i=false->Cls w.heap.size w w')/\wpAnyC P md ops Q n f (listed.setIfInBounds i true) a' w') a w
theorem Agb{n:List Nat}:∀(f:Nat) (listed:Array Bool) (a:Act) (w:World),wpAnyC P md ops Q n f listed a w->wpAny P md ops Q f listed a w
 |0,listed,a,w,h=>h
 |f+1,listed,a,w,h=>⟨h.1,fun i hi=>wpOp_mono (fun a' w' h'=>Agb f _ a' w' h'.2) (h.2 i hi)⟩
def ordC(md:Region.Mode)(ops:Array Oper)(n:List Nat)(i:Nat):Bool:=
 (List.range ops.size).all fun t=>!n.contains t||t==i||reach md ops ops.size t i||reach md ops ops.size i t
theorem Al3{listed:Array Bool}{n:List Nat}{i j:Nat}(inv:Closed md ops listed)(hB:ordC md ops n i=true)(hi:i∈Region.ready md ops listed)(hj:j∈Region.ready md ops listed)(hne:j≠i):n.contains j=false:=by
 obtain⟨hun,oj,hoj,_⟩:=mem_ready.1 hj
 have hjs:j<ops.size:=(Array.getElem?_eq_some_iff.1 hoj).1
 have h:=List.all_eq_true.1 hB j (List.mem_range.2 hjs)
 simp only[Bool.or_eq_true,Bool.not_eq_true',beq_iff_eq]at h
 rcases h with((h|h)|h)|h
 .exact h
 .exact absurd h hne
 .have:=Ab4 inv _ _ _ (.inl hj) h
  have h2:=(mem_ready.1 hi).1
  rw[getD_both h2]at this;cases this
 .have:=Ab4 inv _ _ _ (.inl hi) h
  rw[getD_both hun]at this;cases this
theorem AcW{n:List Nat}{i:Nat}{oi:Oper}{v:Value}(hi:ops[i]? = some oi)(hsel:∀(j:Nat) (o:Oper) cs b,ops[j]? = some o->o.op ≠ .select cs b)
  (hQ:∀c a w,Q (.panic c) (a.put oi.dst v) w->Q (.panic c) a w) :
  ∀(f:Nat) (listed:Array Bool) (a:Act) (w:World),Closed md ops listed ->
   (∀j oj,ops[j]? = some oj->j≠i->listed.getD j true=false->(∀e∈oj.after,Region.binds md e=true->e.on≠i)->oi.apart ops oj=true) ->
   i∈Region.ready md ops listed->(YieldsS P ops (fun _=>True) oi v a\/(YieldsS P ops (Cls w.heap.size w) oi v a/\ordC md ops n i=true)) ->
   wpAnyC P md ops Q n f (listed.setIfInBounds i true) (a.put oi.dst v) w->wpAnyC P md ops Q n (f+1) listed a w:=by
 intro f
 induction f with
 |zero=>
  intro listed a w inv _ hr hy H
  refine⟨fun h=>(by rw[h]at hr;cases hr),fun j hj=>?_⟩
  by_cases hji:j=i
  .subst hji
   rcases hy with hy|⟨hy,_⟩
   .exact hy.wpOp hi trivial ⟨fun _=>Cls.refl _ _,H⟩
   .exact hy.wpOp hi (Cls.refl _ _) ⟨fun _=>Cls.refl _ _,H⟩
  .have:=ready_mono hj hji
   rw[H.1]at this
   cases this
 |succ f ih=>
  intro listed a w inv hfree hr hy H
  have hun:=(mem_ready.1 hr).1
  refine⟨fun h=>(by rw[h]at hr;cases hr),fun j hj=>?_⟩
  by_cases hji:j=i
  .subst hji
   rcases hy with hy|⟨hy,_⟩
   .exact hy.wpOp hi trivial ⟨fun _=>Cls.refl _ _,H⟩
   .exact hy.wpOp hi (Cls.refl _ _) ⟨fun _=>Cls.refl _ _,H⟩
  .have h1:=H.2 j (ready_mono hj hji)
   obtain⟨hjun,oj,hoj,hall⟩:=mem_ready.1 hj
   have hnot:∀e∈oj.after,Region.binds md e=true->e.on≠i:=fun e he hb heq=>by
    have h1:=hall e he hb
    rw[heq,getD_both hun]at h1
    cases h1
   have hfree':∀k ok,ops[k]? = some ok->k≠i->(listed.setIfInBounds j true).getD k true=false ->
     (∀e∈ok.after,Region.binds md e=true->e.on≠i)->oi.apart ops ok=true:=fun k ok hk hki hun2 hno=>by
    refine hfree k ok hk hki ?_ hno
    by_cases hjk:j=k
    .subst hjk;exact hjun
    .rw[getD_set_ne true hjk]at hun2;exact hun2
   have h2:=Aee hoj (hfree j oj hoj hji hjun hnot) (fun cs b=>hsel i oi cs b hi) (fun cs b=>hsel j oj cs b hoj) hQ h1
   refine wpOp_mono (fun a' w' h3=>⟨h3.2.1,ih (listed.setIfInBounds j true) a' w' (inv.set hj) hfree' (ready_mono hr (Ne.symm hji)) ?_ ?_⟩) h2
   .rcases hy with hy|⟨hy,hB⟩
    .exact .inl (h3.1 _ hy)
    .have hjn:=Al3 inv hB hr hj hji
     exact .inr ⟨(h3.1 _ hy).mono (fun w2 h4=>AbT (h3.2.1 hjn) h4),hB⟩
   .rw[Array.setIfInBounds_comm _ _ hji]
    exact h3.2.2
def stepB6(md:Region.Mode)(ops:Array Oper)(n:List Nat)(c i:Nat)(listed:Array Bool):Bool:=
 (Region.ready md ops listed).contains i&&(if 2<=c then decide (Region.ready md ops listed = [i])&&(n.contains i==decide (3<=c))
  else Region.free md ops listed i&&isPure (ops.getD i default).op&&(c==1||ordC md ops n i))
def mixRun6(md:Region.Mode)(ops:Array Oper)(n:List Nat):MT->Array Bool->Bool
 |.leaf,listed=>(Region.ready md ops listed).isEmpty
 |.one c i rest,listed=>stepB6 md ops n c i listed&&mixRun6 md ops n rest (listed.setIfInBounds i true)
 |.fork i ri j rj,listed=>(Region.ready md ops listed).all (fun k=>k==i||k==j)&&(Region.ready md ops listed).contains i && !n.contains i && !n.contains j&&decide (ri.len=rj.len) &&
   mixRun6 md ops n ri (listed.setIfInBounds i true)&&mixRun6 md ops n rj (listed.setIfInBounds j true)
 |.fork3 i ri j rj k rk,listed=>(Region.ready md ops listed).all (fun z=>z==i||z==j||z==k)&&(Region.ready md ops listed).contains i && !n.contains i && !n.contains j && !n.contains k&&decide (ri.len=rj.len)&&decide (ri.len=rk.len) &&
   mixRun6 md ops n ri (listed.setIfInBounds i true)&&mixRun6 md ops n rj (listed.setIfInBounds j true)&&mixRun6 md ops n rk (listed.setIfInBounds k true)
def MixT6(P:Program)(ops:Array Oper)(Q:Exit->Act->World->Prop)(l:List Oper):MT->Act->World->Prop
 |.leaf,a,w=>Q .normal a w
 |.one c i rest,a,w=>match c with
  |0=>wpQuiet P ops (Cls w.heap.size w) (fun a'=>MixT6 P ops Q l rest a' w) [l.getD i default] a
  |1=>wpQuiet P ops (fun _=>True) (fun a'=>MixT6 P ops Q l rest a' w) [l.getD i default] a
  |2=>stepAt P ops Q l i (MixT6 P ops Q l rest) a w
  |_=>if Region.wanted (l.getD i default) (yielded ops a.tmps)=true then(l.getD i default).wp P a w (MixT6 P ops Q l rest) Q else MixT6 P ops Q l rest (a.put (l.getD i default).dst undef) w
 |.fork i ri j rj,a,w=>stepAt P ops Q l i (MixT6 P ops Q l ri) a w/\stepAt P ops Q l j (MixT6 P ops Q l rj) a w
 |.fork3 i ri j rj k rk,a,w=>stepAt P ops Q l i (MixT6 P ops Q l ri) a w/\stepAt P ops Q l j (MixT6 P ops Q l rj) a w/\stepAt P ops Q l k (MixT6 P ops Q l rk) a w
theorem AbV{l:List Oper}{n:List Nat}{i:Nat}{oi:Oper}(hoi:l.toArray[i]? = some oi){K K2:Act->World->Prop}{a:Act}{w:World}(h:stepAt P l.toArray Q l i K a w)(hK:∀a2 w2,K a2 w2->K2 a2 w2) :
  wpOp P l.toArray Q i (fun a2 w2=>(n.contains i=false->Cls w.heap.size w w2)/\K2 a2 w2) a w:=by
 have hgd:=AcP hoi
 simp only[stepAt,hgd]at h
 unfold Go.wpOp
 simp only[hoi]
 by_cases hw:Region.wanted oi (yielded l.toArray a.tmps)=true
 .rw[if_pos hw]at h |-
  exact .inl (Oper.wp_mono (fun a2 w2 hh=>⟨fun _=>hh.1,hK _ _ hh.2⟩) h)
 .rw[if_neg hw]at h |-
  exact⟨fun _=>Cls.refl _ _,hK _ _ h⟩
theorem AbW{l:List Oper}{n:List Nat}(hsel:Region.noSelect l.toArray=true)
  (hQ:∀(d:Option Tmp) (v:Value) c a w,Q (.panic c) (a.put d v) w->Q (.panic c) a w) :
  ∀(t:MT) (listed:Array Bool) (a:Act) (w:World),Closed md l.toArray listed->mixRun6 md l.toArray n t listed=true->MixT6 P l.toArray Q l t a w ->
   wpAnyC P md l.toArray Q n t.len listed a w
 |.leaf,listed,a,w,inv,hB,h=>⟨by simpa [mixRun6]using hB,h⟩
 |.fork i ri j rj,listed,a,w,inv,hB,h=>by
  simp only[mixRun6,Bool.and_eq_true,decide_eq_true_eq]at hB
  obtain⟨⟨⟨⟨⟨⟨hall,hc⟩,hi⟩,hj⟩,hlen⟩,hBi⟩,hBj⟩:=hB
  show wpAnyC P md l.toArray Q n (ri.len+1) listed a w
  refine⟨fun h0=>(by rw[h0]at hc;simp at hc),fun k hk=>?_⟩
  have hk2:=List.all_eq_true.1 hall k hk
  simp only[Bool.or_eq_true,beq_iff_eq]at hk2
  obtain⟨_,oi,hoi,_⟩:=mem_ready.1 hk
  rcases hk2 with rfl|rfl
  .exact AbV hoi h.1 (fun a2 w2 h2=>AbW hsel hQ ri _ a2 w2 (inv.set hk) hBi h2)
  .rw[hlen]
   exact AbV hoi h.2 (fun a2 w2 h2=>AbW hsel hQ rj _ a2 w2 (inv.set hk) hBj h2)
 |.fork3 i ri j rj k' rk,listed,a,w,inv,hB,h=>by
  simp only[mixRun6,Bool.and_eq_true,decide_eq_true_eq]at hB
  obtain⟨⟨⟨⟨⟨⟨⟨⟨⟨hall,hc⟩,hi⟩,hj⟩,hk'⟩,hlen⟩,hlen2⟩,hBi⟩,hBj⟩,hBk⟩:=hB
  show wpAnyC P md l.toArray Q n (ri.len+1) listed a w
  refine⟨fun h0=>(by rw[h0]at hc;simp at hc),fun k hk=>?_⟩
  have hk2:=List.all_eq_true.1 hall k hk
  simp only[Bool.or_eq_true,beq_iff_eq]at hk2
  obtain⟨_,oi,hoi,_⟩:=mem_ready.1 hk
  rcases hk2 with(rfl|rfl)|rfl
  .exact AbV hoi h.1 (fun a2 w2 h2=>AbW hsel hQ ri _ a2 w2 (inv.set hk) hBi h2)
  .rw[hlen]
   exact AbV hoi h.2.1 (fun a2 w2 h2=>AbW hsel hQ rj _ a2 w2 (inv.set hk) hBj h2)
  .rw[hlen2]
   exact AbV hoi h.2.2 (fun a2 w2 h2=>AbW hsel hQ rk _ a2 w2 (inv.set hk) hBk h2)
 |.one c i rest,listed,a,w,inv,hB,h=>by
  simp only[mixRun6,Bool.and_eq_true]at hB
  obtain⟨hcnd,h1⟩:=hB
  simp only[stepB6,Bool.and_eq_true]at hcnd
  obtain⟨hrd,hcnd⟩:=hcnd
  have hr':i∈Region.ready md l.toArray listed:=by simpa using hrd
  obtain⟨_,oi,hoi,_⟩:=mem_ready.1 hr'
  have hgd:=AcP hoi
  have hgd2:l.toArray.getD i default=oi:=by simp[Array.getD_eq_getD_getElem?,hoi]
  show wpAnyC P md l.toArray Q n (rest.len+1) listed a w
  match c,hcnd,h with
  |0,hcnd,h=>
   rw[if_neg (show ¬2<=0 by omega)]at hcnd
   simp only[show((0:Nat)==1)=false from rfl,Bool.false_or,Bool.and_eq_true]at hcnd
   obtain⟨⟨hfr,hpu⟩,hord⟩:=hcnd
   rw[hgd2]at hpu
   simp only[MixT6,hgd]at h
   unfold wpQuiet at h
   by_cases hw:Region.wanted oi (yielded l.toArray a.tmps)=true
   .rw[if_pos hw]at h
    obtain⟨v,hv,hq⟩:=h
    exact AcW hoi (Region.noSelect_spec hsel) (hQ _ _) _ listed a w inv (Region.free_spec hoi hfr) hr' (.inr ⟨.inl ⟨hw,fun w' hw'=>Ab5 hpu (hv w' hw')⟩,hord⟩)
     (AbW hsel hQ rest _ _ w (inv.set hr') h1 hq)
   .rw[if_neg hw]at h
    exact AcW hoi (Region.noSelect_spec hsel) (hQ _ _) _ listed a w inv (Region.free_spec hoi hfr) hr' (.inl (.inr ⟨by simpa using hw,rfl⟩))
     (AbW hsel hQ rest _ _ w (inv.set hr') h1 h)
  |1,hcnd,h=>
   rw[if_neg (show ¬2<=1 by omega)]at hcnd
   simp only[show((1:Nat)==1)=true from rfl,Bool.true_or,Bool.and_true,Bool.and_eq_true]at hcnd
   obtain⟨hfr,hpu⟩:=hcnd
   rw[hgd2]at hpu
   simp only[MixT6,hgd]at h
   unfold wpQuiet at h
   by_cases hw:Region.wanted oi (yielded l.toArray a.tmps)=true
   .rw[if_pos hw]at h
    obtain⟨v,hv,hq⟩:=h
    exact AcW hoi (Region.noSelect_spec hsel) (hQ _ _) _ listed a w inv (Region.free_spec hoi hfr) hr' (.inl (.inl ⟨hw,fun w' hw'=>Ab5 hpu (hv w' hw')⟩))
     (AbW hsel hQ rest _ _ w (inv.set hr') h1 hq)
   .rw[if_neg hw]at h
    exact AcW hoi (Region.noSelect_spec hsel) (hQ _ _) _ listed a w inv (Region.free_spec hoi hfr) hr' (.inl (.inr ⟨by simpa using hw,rfl⟩))
     (AbW hsel hQ rest _ _ w (inv.set hr') h1 h)
  |2,hcnd,hm=>
   rw[if_pos (show 2<=2 by omega)]at hcnd
   simp only[Bool.and_eq_true,decide_eq_true_eq]at hcnd
   refine⟨fun h0=>(by rw[h0]at hr';cases hr'),fun j hj=>?_⟩
   rw[hcnd.1]at hj
   obtain rfl:j=i:=by simpa using hj
   exact AbV hoi hm (fun a2 w2 h2=>AbW hsel hQ rest _ a2 w2 (inv.set hr') h1 h2)
  |c+3,hcnd,hm=>
   rw[if_pos (show 2<=c+3 by omega)]at hcnd
   simp only[Bool.and_eq_true,decide_eq_true_eq,beq_iff_eq]at hcnd
   obtain⟨hrd2,hbad⟩:=hcnd
   have hbad2:n.contains i=true:=by rw[hbad];simp
   simp only[MixT6,hgd]at hm
   refine⟨fun h0=>(by rw[h0]at hr';cases hr'),fun j hj=>?_⟩
   rw[hrd2]at hj
   obtain rfl:j=i:=by simpa using hj
   unfold Go.wpOp
   simp only[hoi]
   by_cases hw:Region.wanted oi (yielded l.toArray a.tmps)=true
   .rw[if_pos hw]at hm |-
    exact .inl (Oper.wp_mono (fun a2 w2 hh=>⟨fun hlt=>(by rw[hbad2]at hlt;cases hlt),AbW hsel hQ rest _ a2 w2 (inv.set hr') h1 hh⟩) hm)
   .rw[if_neg hw]at hm |-
    exact⟨fun hlt=>(by rw[hbad2]at hlt;cases hlt),AbW hsel hQ rest _ _ w (inv.set hr') h1 hm⟩
def mixB6(md:Region.Mode)(ops:Array Oper)(n:List Nat)(t:MT):Bool:=
 Region.noSelect ops&&decide (t.len=ops.size)&&mixRun6 md ops n t (Array.replicate ops.size false)
theorem AaB{id:Nat}{a:Act}{w:World}{l:List Oper}(n:List Nat)(t:MT)(hm:P.follows .mixedOrders=true)(hB:mixB6 .any l.toArray n t=true)
  (h:MixT6 P l.toArray (NoPanic Q) l t a w.drew):(Code.region id l.toArray true).wp P Q a w:=by
 refine wp_region_noPanic ?_
 simp only[mixB6,Bool.and_eq_true,decide_eq_true_eq]at hB
 obtain⟨⟨hsel,hlen⟩,hB⟩:=hB
 have inv0:Closed .any l.toArray (Array.replicate l.toArray.size false):=⟨by simp,fun j oj _ hl=>(by rw[getD_replicate_false]at hl;cases hl)⟩
 have H:=AbW (P:=P) (Q:=NoPanic Q) hsel (fun _ _ _ _ _ hh=>hh) t _ a w.drew inv0 hB h
 rw[hlen]at H
 exact wp_region_any hm (Agb _ _ _ _ H)
end
open Go.RowKit
def cutA(A:Option Addr)(c l size:Nat):Option Addr:=if c=l then A else A.map (·.add (l*size))
theorem Amt(A:Option Addr)(c size:Nat):cutA A c 0 size=A:=by
 unfold cutA
 split
 .rfl
 .cases A with
  |none=>rfl
  |some a=>simp[Addr.add]
theorem Row.cut{w:World}{B size n:Nat}{A:Option Addr}{xs:List Value}(h:Row w B size A n xs){c k:Nat}(hk:k<=n)(hc:n<=c):Row w B size (cutA A c k size) (n-k) (xs.drop (k*size)):=by
 refine⟨by rw[List.length_drop,h.1,Nat.sub_mul],fun j u hu=>?_⟩
 rw[List.getElem?_drop]at hu
 have hlt:=(List.getElem?_eq_some_iff.1 hu).1
 rw[h.1]at hlt
 obtain⟨ad,rfl,hb,hcell⟩:=h.2 _ u hu
 have hne:¬c=k:=fun e=>by
  have:n=k:=by omega
  subst this
  omega
 refine⟨ad.add (k*size),by unfold cutA;rw[if_neg hne];rfl,by rw[AgG];exact hb,by rw[Addr.add_add];exact hcell⟩
theorem Row.take{w:World}{B size n:Nat}{A:Option Addr}{xs:List Value}(h:Row w B size A n xs){k:Nat}(hk:k<=n):Row w B size A k (xs.take (k*size)):=by
 refine⟨by rw[List.length_take,h.1,Nat.min_eq_left (Nat.mul_le_mul_right _ hk)],fun j u hu=>?_⟩
 rw[List.getElem?_take]at hu
 split at hu
 .exact h.2 j u hu
 .cases hu
theorem AcA{A:Option Addr}{n c k size:Nat}(h:CapOk A n c)(e:cutA A c k size=none):c-k=0:=by
 unfold cutA at e
 split at e
 .omega
 .cases A with
  |none=>have:=h.nil rfl;omega
  |some a=>cases e
section
variable {Γ0 Γ:Gam}{w0 w:World}{L:List Ent}{R:List RowE}{Pg:Program}{ops:Array Oper}{rest:List Oper}{op:Oper}{a:Act}{Q:Exit->Act->World->Prop}
theorem Amk{t e:TypeId}{size bytes:Nat}(el:ElT Pg t e size bytes):Pg.underlying t=some (.slice (Pg.elem t))/\Pg.elem t=e:=by
 have h:Pg.elem t=e:=by simp[Program.elem,el.ht]
 rw[h];exact⟨el.ht,rfl⟩
theorem ApP{t e:TypeId}{size bytes:Nat}(el:ElT Pg t e size bytes)(A:Option Addr)(n c k:Nat)(hk:k<=n)(w:World):(Instr.sliceAt t (.slice A n c) (some (.int .i64 k)) none none).run Pg w=.ok (.slice (cutA A c k size) (n-k) (c-k)) w:=by
 obtain⟨h1,h2⟩:=Amk el
 obtain⟨i,z,hi,hz,hs,_⟩:=el.hi
 rw[run_sliceAt_slice w t _ _ _ _ h1,run_slice_l w t A n c h1 .i64 k (by omega) (by omega),h2,run_sizeOf w hi]
 have hcs:Pg.cellsOf e=size:=by simp[Program.cellsOf,hi,hs]
 simp only[Result.andThen_ok,sliced,Int.toNat_natCast,hcs,cutA]
theorem ApQ{t e:TypeId}{size bytes:Nat}(el:ElT Pg t e size bytes)(A:Option Addr)(n c k:Nat)(hk:k<=c)(w:World):(Instr.sliceAt t (.slice A n c) none (some (.int .i64 k)) none).run Pg w=.ok (.slice A k c) w:=by
 obtain⟨h1,h2⟩:=Amk el
 obtain⟨i,z,hi,hz,hs,_⟩:=el.hi
 rw[run_sliceAt_slice w t _ _ _ _ h1,run_slice_h w t A n c h1 .i64 k (by omega) (by omega),h2,run_sizeOf w hi]
 have:=Amt A c size
 unfold cutA at this
 have hcs:Pg.cellsOf e=size:=by simp[Program.cellsOf,hi,hs]
 simp only[Result.andThen_ok,sliced,Int.toNat_natCast,hcs,Nat.sub_zero,this]
theorem Acs{C:World->Prop}{K:Act->Prop}{t e:TypeId}{size bytes:Nat}(el:ElT Pg t e size bytes){x lo:Operand}{A:Option Addr}{n c k:Nat}(ho2:op.op=.slice t x (some lo) none none)(hx:a.eval x=.slice A n c)(hlo:a.eval lo=.int .i64 k)(hk:k<=n)
  (h:K (a.put op.dst (.slice (cutA A c k size) (n-k) (c-k)))):op.quiet Pg a C K:=by
 refine⟨_,fun w hw=>?_,h⟩
 unfold Oper.quietAt execOp
 simp only[ho2,hx,Option.map_some,Option.map_none,hlo,ApP el A n c k hk,Sem.run_bind,Sem.run_pure,Result.andThen_ok]
 exact⟨rfl,rfl⟩
theorem Acu{C:World->Prop}{K:Act->Prop}{t e:TypeId}{size bytes:Nat}(el:ElT Pg t e size bytes){x hi:Operand}{A:Option Addr}{n c k:Nat}(ho:op.op=.slice t x none (some hi) none)(hx:a.eval x=.slice A n c)(hhi:a.eval hi=.int .i64 k)(hk:k<=c)
  (h:K (a.put op.dst (.slice A k c))):op.quiet Pg a C K:=by
 refine⟨_,fun w hw=>?_,h⟩
 unfold Oper.quietAt execOp
 simp only[ho,hx,Option.map_some,Option.map_none,hhi,ApQ el A n c k hk,Sem.run_bind,Sem.run_pure,Result.andThen_ok]
 exact⟨rfl,rfl⟩
theorem Aal{t e:TypeId}{size bytes:Nat}(el:ElT Pg t e size bytes)(M:MM Γ0 w0 Γ w L R)(ty:TypeId)(A:Option Addr)(m c:Nat)(news:List Value)
  (hnews:Row w w.heap.size size A m news) (hA:A=none->c=0) (h1:One news) (h63:m<=maxLen) (hbytes:m*bytes<=140737488355328) :
  ∃A' c' w',(Builtin.append_ #[t,t] ty #[.slice none 0 0,.slice A m c]).run Pg w=.ok (.slice A' m c') w'/\MM Γ0 w0 Γ w' L (⟨.slice A' m c',e,size,m,news⟩::R)/\Below w.heap.size w w':=by
 have MS:=MM.start M.ext.ok
 obtain⟨v',w',hr,hM⟩:=AaW el (MS.row0 e size) ty A m c news hnews hA h1 (by omega) (by simpa using hbytes)
 simp only[Nat.zero_add,List.nil_append]at hM
 obtain⟨A',c',e1⟩:=own_slice (hM.rows _ (List.mem_cons_self ..))
 simp only at e1
 subst e1
 exact⟨A',c',w',hr,M.rowNew hM.ext.bel (hM.rows _ (List.mem_cons_self ..)),hM.ext.bel⟩
theorem AaE{t:TypeId}{s x:Operand}{v u r:Value}{w':World}(ho:op.op=.call {callee:=.builtin .append,args:=#[s,x],argTypes:=#[t,t]})(hs:a.eval s=v)(hx:a.eval x=u)
  (hr:(Builtin.append_ #[t,t] op.type #[v,u]).run Pg w=.ok r w'):(execOp a.eval op).run Pg w=.ok (.value r) w':=by
 unfold execOp
 simp only[ho,resolve,invoke,builtin,Sem.run_bind,Sem.run_pure,Result.andThen_ok,List.map_toArray,List.map_cons,List.map_nil,hs,hx,hr]
theorem AaA{ts:Array Value}{w':World}{K:Act->World->Prop}{E:Prop}{v:Value}(hr:(execOp a.eval op).run Pg w=.ok (.value v) w')(hw:Region.wanted op (yielded ops ts)=true)(hk:K (a.put op.dst v) w') :
  if Region.wanted op (yielded ops ts)=true then op.wp Pg a w K Q else E:=by
 rw[if_pos hw]
 unfold Oper.wp
 rw[hr,Oper.upon_value]
 exact hk
theorem AiH{ts:Array Value}{K:Act->World->Prop}{E:Prop}{f:FuncId}{fn:Func}{args:Array Value}{Post:Ending->World->Prop}
  (hc : Calls Pg f args w Post) (hf : Pg.funcs[f]? = some fn) (hn : (fn.name == "runtime.NumGoroutine") = false) (hb : fn.body.isNone = false) (xs : Array Operand) (tt : Array TypeId)
  (ho:op.op=.call {callee:=.value (.func f),args:=xs,argTypes:=tt}) (hargs0:xs.toList.map a.eval=args.toList) (hw:Region.wanted op (yielded ops ts)=true)
  (hk:∀e w',Post e w'->∃v,e=.returned v/\K (a.put op.dst v) w'):if Region.wanted op (yielded ops ts)=true then op.wp Pg a w K Q else E:=by
 rw[if_pos hw]
 have hargs:xs.map a.eval=args:=Array.ext' (by rw[Array.toList_map];exact hargs0)
 unfold Oper.wp execOp
 have hev:a.eval (.func f)=.func (.func f) #[] #[]:=rfl
 simp only[ho,resolve,Sem.run_bind,Sem.run_pure,Result.andThen_ok,hargs,hev,Deferred.ofValue,invoke,Array.append_empty,Array.empty_append,AeI hf hn hb,Oper.upon]
 refine Calls.mono hc ?_
 intro e w' hp
 obtain⟨v,rfl,hK⟩:=hk e w' hp
 exact hK
end
open Go.RowKit
structure Wd where
 l:List Int
 len:l.length=4
 rg:∀x∈l,0<=x/\x<18446744073709551616
theorem Wd.ext' {x y:Wd}(h:x.l=y.l):x=y:=by cases x;cases y;cases h;rfl
instance:DecidableEq Wd:=fun x y=>if h:x.l=y.l then .isTrue (Wd.ext' h)else .isFalse (fun e=>h (e▸rfl))
def wc(w:Wd):List Value:=ints .u64 w.l
theorem AdR(w:Wd):(wc w).length=4:=by simp[wc,ints,w.len]
theorem Adz(w:Wd):One (wc w):=one_ints _ _
theorem Aor{a b:Wd}:wc a=wc b↔a=b:=⟨fun h=>Wd.ext' (AhN.1 h),fun h=>h▸rfl⟩
def w0:Wd:=⟨[0,0,0,0],rfl,fun x hx=>by simp at hx;omega⟩
structure Blk where
 pj:Cp
 pf:Cp
 slot:U
 root:Rt
 parent:Rt
 payload:Rt
 diff:Wd
 pdiff:Wd
 just:Cp
 fin:Cp
 timely:Bool
deriving DecidableEq
def blP(b:Blk):List (List Value):=[[.int .u64 (b.pj.e.n:Int)],rc b.pj.r,[.int .u64 (b.pf.e.n:Int)],rc b.pf.r,[.int .u64 (b.slot.n:Int)],rc b.root,rc b.parent,rc b.payload,wc b.diff,wc b.pdiff,[.int .u64 (b.just.e.n:Int)],rc b.just.r,[.int .u64 (b.fin.e.n:Int)],rc b.fin.r,[.bool b.timely]]
abbrev blL:List Nat:=[1,32,1,32,1,32,32,32,4,4,1,32,1,32,1]
theorem AaZ(b:Blk):(blP b).map List.length=blL:=by simp[blP,Aav,AdR]
theorem Aea(b:Blk):(fl (blP b)).length=238:=AbE (AaZ b)
theorem Abk(k:IntKind)(n:Int):One [Value.int k n]:=One.v rfl
theorem AjJ(b:Bool):One [Value.bool b]:=One.v rfl
theorem Aak(A:Option Addr)(n c:Nat):One [Value.slice A n c]:=One.v rfl
theorem Acf(b:Blk):One (fl (blP b)):=by
 unfold blP
 repeat(first|exact AjJ _|exact One.nil|refine One.cons (Abk _ _) ?_|refine One.cons (Aac _) ?_|refine One.cons (Adz _) ?_)
structure Nod where
 b:Blk
 up:Int
 st:Int
deriving DecidableEq
def noP(n:Nod):List (List Value):=[[.int .u64 (n.b.pj.e.n:Int)],rc n.b.pj.r,[.int .u64 (n.b.pf.e.n:Int)],rc n.b.pf.r,[.int .u64 (n.b.slot.n:Int)],rc n.b.root,rc n.b.parent,rc n.b.payload,wc n.b.diff,wc n.b.pdiff,[.int .u64 (n.b.just.e.n:Int)],rc n.b.just.r,[.int .u64 (n.b.fin.e.n:Int)],rc n.b.fin.r,[.bool n.b.timely],[.int .i64 n.up],[.int .i64 n.st]]
abbrev noL:List Nat:=[1,32,1,32,1,32,32,32,4,4,1,32,1,32,1,1,1]
theorem AaK(n:Nod):(noP n).map List.length=noL:=by simp[noP,Aav,AdR]
theorem AbH(n:Nod):(fl (noP n)).length=240:=AbE (AaK n)
theorem AbX(n:Nod):One (fl (noP n)):=by
 unfold noP
 repeat(first|exact Abk _ _|exact One.nil|refine One.cons (Abk _ _) ?_|refine One.cons (Aac _) ?_|refine One.cons (Adz _) ?_|refine One.cons (AjJ _) ?_)
structure Vo where
 has:Bool
 e:U
 r:Rt
deriving DecidableEq
def voP(v:Vo):List (List Value):=[[.bool v.has],[.int .u64 (v.e.n:Int)],rc v.r]
theorem Ac2(v:Vo):(voP v).map List.length = [1,1,32]:=by simp[voP,Aav]
theorem AcX(v:Vo):(fl (voP v)).length=34:=AbE (Ac2 v)
theorem AfO(v:Vo):One (fl (voP v)):=One.cons (AjJ _) (One.cons (Abk _ _) (Aac _))
structure Sl where
 A:Option Addr
 n:Nat
 c:Nat
abbrev Sl.v(s:Sl):Value:=.slice s.A s.n s.c
structure Att where
 slot:U
 r:Rt
 t:Cp
 l:List Int
deriving DecidableEq
def atP(a:Att)(s:Sl):List (List Value):=[[.int .u64 (a.slot.n:Int)],rc a.r,[.int .u64 (a.t.e.n:Int)],rc a.t.r,[s.v]]
theorem AbB(a:Att)(s:Sl):(atP a s).map List.length = [1,32,1,32,1]:=by simp[atP,Aav]
theorem Aio(a:Att)(s:Sl):(fl (atP a s)).length=67:=AbE (AbB a s)
theorem Adl(a:Att)(s:Sl):One (fl (atP a s)):=One.cons (Abk _ _) (One.cons (Aac _) (One.cons (Abk _ _) (One.cons (Aac _) (Aak _ _ _))))
structure Rq where
 tag:U
 block:Rt
 tries:Int
 due:U
deriving DecidableEq
def rqP(r:Rq):List (List Value):=[[.int .u64 (r.tag.n:Int)],rc r.block,[.int .i64 r.tries],[.int .u64 (r.due.n:Int)]]
theorem AaY(r:Rq):(rqP r).map List.length = [1,32,1,1]:=by simp[rqP,Aav]
theorem AbC(r:Rq):(fl (rqP r)).length=35:=AbE (AaY r)
theorem AbF(r:Rq):One (fl (rqP r)):=One.cons (Abk _ _) (One.cons (Aac _) (One.cons (Abk _ _) (Abk _ _)))
structure Cm where
 head:Rt
 safe:Rt
 fin:Rt
deriving DecidableEq
def cmP(c:Cm):List (List Value):=[rc c.head,rc c.safe,rc c.fin]
theorem Aai(c:Cm):(cmP c).map List.length = [32,32,32]:=by simp[cmP,Aav]
theorem AdT(c:Cm):One (fl (cmP c)):=One.cons (Aac _) (One.cons (Aac _) (Aac _))
structure Cf where
 nl:Int
 ol:Int
 el:Int
 tl:Int
 rl:Int
 bo:U
 spe:U
 bp:U
 ttd:Wd
 gen:Rt
def cfP(c:Cf)(bal:Sl):List (List Value):=[[.int .i64 c.nl],[.int .i64 c.ol],[.int .i64 c.el],[.int .i64 c.tl],[.int .i64 c.rl],[.int .u64 (c.bo.n:Int)],[.int .u64 (c.spe.n:Int)],[.int .u64 (c.bp.n:Int)],wc c.ttd,rc c.gen,[bal.v]]
abbrev cfL:List Nat:=[1,1,1,1,1,1,1,1,4,32,1]
theorem AbA(c:Cf)(s:Sl):(cfP c s).map List.length=cfL:=by simp[cfP,Aav,AdR]
theorem Ad4(c:Cf)(s:Sl):One (fl (cfP c s)):=by
 unfold cfP
 repeat(first|exact Aak _ _ _|refine One.cons (Abk _ _) ?_|refine One.cons (Aac _) ?_|refine One.cons (Adz _) ?_)
structure Sto where
 c:Cf
 bal:List U
 lat:List Vo
 eqv:List Int
 just:Cp
 fin:Cp
 early:List Att
 orph:List Blk
 nodes:List Nod
 now:U
 boost:Rt
 tabs:List Tbl
structure Sls where
 bal:Sl
 lat:Sl
 eqv:Sl
 early:Sl
 orph:Sl
 nodes:Sl
 tabs:Sl
def stP(s:Sto)(x:Sls):List (List Value):=[[.int .i64 s.c.nl],[.int .i64 s.c.ol],[.int .i64 s.c.el],[.int .i64 s.c.tl],[.int .i64 s.c.rl],[.int .u64 (s.c.bo.n:Int)],[.int .u64 (s.c.spe.n:Int)],[.int .u64 (s.c.bp.n:Int)],wc s.c.ttd,rc s.c.gen,[x.bal.v],[x.lat.v],[x.eqv.v],[.int .u64 (s.just.e.n:Int)],rc s.just.r,[.int .u64 (s.fin.e.n:Int)],rc s.fin.r,[x.early.v],[x.orph.v],[x.nodes.v],[.int .u64 (s.now.n:Int)],rc s.boost,[x.tabs.v]]
abbrev stL:List Nat:=[1,1,1,1,1,1,1,1,4,32,1,1,1,1,32,1,32,1,1,1,1,32,1]
theorem AaD(s:Sto)(x:Sls):(stP s x).map List.length=stL:=by simp[stP,Aav,AdR]
theorem Aaa(s:Sto)(x:Sls):One (fl (stP s x)):=by
 unfold stP
 repeat(first|exact Aak _ _ _|refine One.cons (Abk _ _) ?_|refine One.cons (Aac _) ?_|refine One.cons (Adz _) ?_|refine One.cons (Aak _ _ _) ?_)
structure Zst where
 s:Sto
 reqs:List Rq
 rets:List Rq
 ntag:U
 sent:Bool
 last:Cm
 over:Bool
 halt:Bool
structure Zls where
 s:Sls
 reqs:Sl
 rets:Sl
def zsP(z:Zst)(x:Zls):List (List Value):=stP z.s x.s ++ [[x.reqs.v],[x.rets.v],[.int .u64 (z.ntag.n:Int)],[.bool z.sent],rc z.last.head,rc z.last.safe,rc z.last.fin,[.bool z.over],[.bool z.halt]]
abbrev zsL:List Nat:=[1,1,1,1,1,1,1,1,4,32,1,1,1,1,32,1,32,1,1,1,1,32,1,1,1,1,1,32,32,32,1,1]
theorem AaH(z:Zst)(x:Zls):(zsP z x).map List.length=zsL:=by rw[zsP,List.map_append,AaD];simp[Aav]
theorem AaP(z:Zst)(x:Zls):One (fl (zsP z x)):=by
 unfold zsP stP
 simp only[List.cons_append,List.nil_append]
 repeat(first|exact AjJ _|exact Aak _ _ _|refine One.cons (Abk _ _) ?_|refine One.cons (Aac _) ?_|refine One.cons (Adz _) ?_|refine One.cons (Aak _ _ _) ?_|refine One.cons (AjJ _) ?_)
theorem Af0(b:Blk):List.take 15 (blP b)=blP b:=rfl
theorem AcS(b:Blk):List.take 2 (blP b)=cpP b.pj:=rfl
theorem AcT(b:Blk):List.take 2 (List.drop 2 (blP b))=cpP b.pf:=rfl
theorem AdK(b:Blk):List.take 2 (List.drop 10 (blP b))=cpP b.just:=rfl
theorem AdL(b:Blk):List.take 2 (List.drop 12 (blP b))=cpP b.fin:=rfl
theorem Afy(n:Nod):List.take 17 (noP n)=noP n:=rfl
theorem AdJ(n:Nod):List.take 15 (noP n)=blP n.b:=rfl
theorem AcQ(n:Nod):List.take 2 (noP n)=cpP n.b.pj:=rfl
theorem AcR(n:Nod):List.take 2 (List.drop 2 (noP n))=cpP n.b.pf:=rfl
theorem AdH(n:Nod):List.take 2 (List.drop 10 (noP n))=cpP n.b.just:=rfl
theorem AdI(n:Nod):List.take 2 (List.drop 12 (noP n))=cpP n.b.fin:=rfl
theorem Afv(v:Vo):List.take 3 (voP v)=voP v:=rfl
theorem Af1(a:Att)(s:Sl):List.take 5 (atP a s)=atP a s:=rfl
theorem AdM(a:Att)(s:Sl):List.take 2 (List.drop 2 (atP a s))=cpP a.t:=rfl
theorem Afx(r:Rq):List.take 4 (rqP r)=rqP r:=rfl
theorem Afz(c:Cm):List.take 3 (cmP c)=cmP c:=rfl
theorem Aeu(c:Cf)(s:Sl):List.take 11 (cfP c s)=cfP c s:=rfl
theorem Afw(s:Sto)(x:Sls):List.take 23 (stP s x)=stP s x:=rfl
theorem AdG(s:Sto)(x:Sls):List.take 11 (stP s x)=cfP s.c x.bal:=rfl
theorem AdD(s:Sto)(x:Sls):List.take 2 (List.drop 11 (stP s x)) = [[x.lat.v],[x.eqv.v]]:=rfl
theorem AdE(s:Sto)(x:Sls):List.take 2 (List.drop 13 (stP s x))=cpP s.just:=rfl
theorem AdF(s:Sto)(x:Sls):List.take 2 (List.drop 15 (stP s x))=cpP s.fin:=rfl
theorem Afu(z:Zst)(x:Zls):List.take 32 (zsP z x)=zsP z x:=rfl
theorem Ac8(z:Zst)(x:Zls):List.take 23 (zsP z x)=stP z.s x.s:=rfl
theorem AdC(z:Zst)(x:Zls):List.take 11 (zsP z x)=cfP z.s.c x.s.bal:=rfl
theorem AdA(z:Zst)(x:Zls):List.take 2 (List.drop 13 (zsP z x))=cpP z.s.just:=rfl
theorem AdB(z:Zst)(x:Zls):List.take 2 (List.drop 15 (zsP z x))=cpP z.s.fin:=rfl
theorem Ac9(z:Zst)(x:Zls):List.take 3 (List.drop 27 (zsP z x))=cmP z.last:=rfl
theorem rtBl:RowT Tryz.prog 78 238:=⟨⟨_,Tryz.underlying78,rfl⟩,by kernel_rfl⟩
theorem rtNo:RowT Tryz.prog 80 240:=⟨⟨_,Tryz.underlying80,rfl⟩,by kernel_rfl⟩
theorem Aap:RowT Tryz.prog 46 1:=⟨⟨_,Tryz.underlying46,rfl⟩,by kernel_rfl⟩
theorem rtVo:RowT Tryz.prog 172 34:=⟨⟨_,Tryz.underlying172,rfl⟩,by kernel_rfl⟩
theorem Ai3:RowT Tryz.prog 35 2:=⟨⟨_,Tryz.underlying35,rfl⟩,by kernel_rfl⟩
theorem rtAt:RowT Tryz.prog 113 67:=⟨⟨_,Tryz.underlying113,rfl⟩,by kernel_rfl⟩
theorem rtRq:RowT Tryz.prog 151 35:=⟨⟨_,Tryz.underlying151,rfl⟩,by kernel_rfl⟩
theorem rtCm:RowT Tryz.prog 52 96:=⟨⟨_,Tryz.underlying52,rfl⟩,by kernel_rfl⟩
theorem rtCf:RowT Tryz.prog 32 45:=⟨⟨_,Tryz.underlying32,rfl⟩,by kernel_rfl⟩
theorem rtSt:RowT Tryz.prog 49 150:=⟨⟨_,Tryz.underlying49,rfl⟩,by kernel_rfl⟩
theorem rtZs:RowT Tryz.prog 54 252:=⟨⟨_,Tryz.underlying54,rfl⟩,by kernel_rfl⟩
theorem rtWd:RowT Tryz.prog 27 4:=⟨⟨_,Tryz.underlying27,rfl⟩,by kernel_rfl⟩
theorem AiC:OneT Tryz.prog 4:=⟨⟨_,Tryz.underlying4,rfl⟩,by kernel_rfl⟩
theorem Aqd:OneT Tryz.prog 22:=⟨⟨_,Tryz.underlying22,rfl⟩,by kernel_rfl⟩
theorem Apb:OneT Tryz.prog 44:=⟨⟨_,Tryz.underlying44,rfl⟩,by kernel_rfl⟩
theorem ArR:OneT Tryz.prog 47:=⟨⟨_,Tryz.underlying47,rfl⟩,by kernel_rfl⟩
theorem ArQ:OneT Tryz.prog 33:=⟨⟨_,Tryz.underlying33,rfl⟩,by kernel_rfl⟩
theorem Anx:OneT Tryz.prog 40:=⟨⟨_,Tryz.underlying40,rfl⟩,by kernel_rfl⟩
theorem Anw:OneT Tryz.prog 41:=⟨⟨_,Tryz.underlying41,rfl⟩,by kernel_rfl⟩
theorem AhE:OneT Tryz.prog 50:=⟨⟨_,Tryz.underlying50,rfl⟩,by kernel_rfl⟩
def b0:Blk:=⟨cp0,cp0,u0,r0,r0,r0,w0,w0,cp0,cp0,false⟩
def sl0:Sl:=⟨none,0,0⟩
def cf0:Cf:=⟨0,0,0,0,0,u0,u0,u0,w0,r0⟩
def st0:Sto:=⟨cf0,[],[],[],cp0,cp0,[],[],[],u0,r0,[]⟩
def x0:Sls:=⟨sl0,sl0,sl0,sl0,sl0,sl0,sl0⟩
def cm0:Cm:=⟨r0,r0,r0⟩
def zs0:Zst:=⟨st0,[],[],u0,false,cm0,false,false⟩
def zx0:Zls:=⟨x0,sl0,sl0⟩
theorem ztBl:ZeroT Tryz.prog 78 (blP b0) blL:=⟨fun w=>by kernel_rfl,AaZ _⟩
theorem ztNo:ZeroT Tryz.prog 80 (noP ⟨b0,0,0⟩) noL:=⟨fun w=>by kernel_rfl,AaK _⟩
theorem Aa1:ZeroT Tryz.prog 46 [[.slice none 0 0]] [1]:=⟨fun w=>by kernel_rfl,rfl⟩
theorem ztCm:ZeroT Tryz.prog 52 (cmP cm0) [32,32,32]:=⟨fun w=>by kernel_rfl,Aai _⟩
theorem ztSt:ZeroT Tryz.prog 49 (stP st0 x0) stL:=⟨fun w=>by kernel_rfl,AaD _ _⟩
theorem ztZs:ZeroT Tryz.prog 54 (zsP zs0 zx0) zsL:=⟨fun w=>by kernel_rfl,AaH _ _⟩
structure SlR(Γ:Gam)(s:Sl)(n:Nat)(xs:List Value):Prop where
 n:s.n=n
 cap:CapOk s.A s.n s.c
 sl:SlG Γ s.A s.n xs
theorem SlR.mono{Γ Γ':Gam}{s:Sl}{n:Nat}{xs:List Value}(h:SlR Γ s n xs)(hl:Le Γ Γ'):SlR Γ' s n xs:=⟨h.n,h.cap,h.sl.mono hl⟩
theorem slR0(Γ:Gam):SlR Γ sl0 0 []:=⟨rfl,⟨Nat.le_refl _,Nat.zero_le _,fun _=>rfl⟩,fun h=>absurd h (Nat.lt_irrefl _)⟩
abbrev nox(n:Nod):List Value:=fl (noP n)
abbrev blx(b:Blk):List Value:=fl (blP b)
abbrev vox(v:Vo):List Value:=fl (voP v)
abbrev atx(a:Att × Sl):List Value:=fl (atP a.1 a.2)
abbrev rqx(r:Rq):List Value:=fl (rqP r)
abbrev AtG(Γ:Gam)(a:Att)(s:Sl):Prop:=SlR Γ s a.l.length (ints .i64 a.l)
def AtsG(Γ:Gam)(s:Sl)(T:List Att):Prop:=∃X:List (Att × Sl),X.map Prod.fst=T/\(∀a∈X,AtG Γ a.1 a.2)/\SlR Γ s T.length (X.flatMap atx)
theorem AtsG.mono{Γ Γ':Gam}{s:Sl}{T:List Att}(h:AtsG Γ s T)(hl:Le Γ Γ'):AtsG Γ' s T:=by
 obtain⟨X,h1,h2,h3⟩:=h
 exact⟨X,h1,fun a ha=>(h2 a ha).mono hl,h3.mono hl⟩
def TabsG(Γ:Gam)(s:Sl)(T:List Tbl):Prop:=CapOk s.A s.n s.c/\TsG Γ s.A s.n T
theorem TabsG.mono{Γ Γ':Gam}{s:Sl}{T:List Tbl}(h:TabsG Γ s T)(hl:Le Γ Γ'):TabsG Γ' s T:=⟨h.1,h.2.mono hl⟩
structure StG(Γ:Gam)(x:Sls)(s:Sto):Prop where
 bal:SlR Γ x.bal s.bal.length (us s.bal)
 lat:SlR Γ x.lat s.lat.length (s.lat.flatMap vox)
 eqv:SlR Γ x.eqv s.eqv.length (ints .i64 s.eqv)
 early:AtsG Γ x.early s.early
 orph:SlR Γ x.orph s.orph.length (s.orph.flatMap blx)
 nodes:SlR Γ x.nodes s.nodes.length (s.nodes.flatMap nox)
 tabs:TabsG Γ x.tabs s.tabs
theorem StG.mono{Γ Γ':Gam}{x:Sls}{s:Sto}(h:StG Γ x s)(hl:Le Γ Γ'):StG Γ' x s:=
 ⟨h.bal.mono hl,h.lat.mono hl,h.eqv.mono hl,h.early.mono hl,h.orph.mono hl,h.nodes.mono hl,h.tabs.mono hl⟩
structure ZsG(Γ:Gam)(x:Zls)(z:Zst):Prop where
 s:StG Γ x.s z.s
 reqs:SlR Γ x.reqs z.reqs.length (z.reqs.flatMap rqx)
 rets:SlR Γ x.rets z.rets.length (z.rets.flatMap rqx)
theorem ZsG.mono{Γ Γ':Gam}{x:Zls}{z:Zst}(h:ZsG Γ x z)(hl:Le Γ Γ'):ZsG Γ' x z:=⟨h.s.mono hl,h.reqs.mono hl,h.rets.mono hl⟩
theorem SlR.at{α:Type}{f:α->List Value}{k:Nat}{Γ:Gam}{s:Sl}{xs:List α}(h:SlR Γ s xs.length (xs.flatMap f))(hk:∀x∈xs,(f x).length=k)(i:Nat)(hi:i<xs.length) :
  ∃g,s.A=some ⟨g,0,none⟩/\Chk Γ g (i*k) (f xs[i]):=h.sl.at hk h.n.symm i (h.n▸hi)
section
variable {Γ0 Γ:Gam}{w0 w:World}{L:List Ent}{R:List RowE}{Pg:Program}{ops:Array Oper}{rest:List Oper}{op:Oper}{a:Act}{Q:Exit->Act->World->Prop}
theorem Aan{g:Nat}{P:List (List Value)}{ls:List Nat}(H:HL w g P ls){v v':Value}(hv:v=v'){ty:TypeId}{x:Operand}{o k:Nat}(ho:op.op=.load ty x)(hgd:Region.wanted op (yielded ops a.tmps)=true)(hx:a.eval x=.pointer (some ⟨g,o,none⟩))(ot:OneT Pg ty)
  (hf:findPart ls o 1=some (k,1)) (hp:P[k]? = some [v]) (h:wpList Pg ops Q rest (a.put op.dst v') w):wpList Pg ops Q (op::rest) a w:=Aar H ho hgd hx ot hf hp (hv▸h)
theorem Aax{C:World->Prop}{K:Act->Prop}{g:Nat}{P:List (List Value)}{ls:List Nat}(H:∀w',C w'->HL w' g P ls){v v':Value}(hv:v=v'){ty:TypeId}{x:Operand}{o k:Nat}(ho:op.op=.load ty x)(hx:a.eval x=.pointer (some ⟨g,o,none⟩))(ot:OneT Pg ty)
  (hf:findPart ls o 1=some (k,1)) (hp:P[k]? = some [v]) (h:K (a.put op.dst v')):op.quiet Pg a C K:=AaL H ho hx ot hf hp (hv▸h)
end
theorem AfU{P:Program}{id:Nat}{Q:Exit->Act->World->Prop}{a:Act}{W:World}{l:List Oper}{Γ0 Γ:Gam}{w0:World}{L:List Ent}{R:List RowE}(_:MM Γ0 w0 Γ W L R)(hm:P.follows .mixedOrders=true)(hB:Region.lexB .any l.toArray=true)
  (h:wpQuiet P l.toArray (Cls W.heap.size W) (fun a'=>∀w',Cls W.heap.size W w'->Q .normal a' w') l a):(Code.region id l.toArray true).wp P Q a W:=Aa3 W.heap.size hm hB h
theorem clsE{W:World}{Γ0 Γ:Gam}{w0:World}{L:List Ent}{R:List RowE}{C:World->Prop}(M:MM Γ0 w0 Γ W L R)(h:∀w',Ok Γ w'->C w'):∀w',Cls W.heap.size W w'->C w':=fun w' hw=>h w' (M.ext.ok.below hw.o)
section
variable {Γ0 Γ:Gam}{w0 w:World}{L:List Ent}{R:List RowE}{Pg:Program}{ops:Array Oper}{rest:List Oper}{op:Oper}{a:Act}{Q:Exit->Act->World->Prop}
theorem Aa7{t e:TypeId}{bytes:Nat}(M:MM Γ0 w0 Γ w L R)(el:ElT Pg t e 1 bytes){x:Operand}{v:Value}(ho:op.op=.buildSlice t 1 #[(0,x)])(hgd:op.guard=none)(hx:a.eval x=v)(hv:v.cells = #[v])
  (h:∀w' g,MM Γ0 w0 Γ w' (⟨g,[[v]],[1]⟩::L) R->(Below w.heap.size w w'/\g=w.heap.size)->wpList Pg ops Q rest (a.put op.dst (.slice (some ⟨g,0,none⟩) 1 1)) w'):wpList Pg ops Q (op::rest) a w:=
 AbP M el (P:=[[v]]) ho hgd hx hv rfl rfl h
end
def FldT(Pg:Program)(t:TypeId)(i o:Nat)(ft:TypeId):Prop:=∃fs f,Pg.underlying t=some (.struct fs)/\fs[i]? = some f/\f.type=ft/\f.offset=o
theorem Apl{Pg:Program}{t:TypeId}{d:TypeDesc}(h:Pg.underlying t=some d):∃i,Pg.info? t=some i:=by
 cases e:Pg.info? t with
 |some i=>exact⟨i,rfl⟩
 |none=>rw[Program.underlying,e]at h;cases h
section
variable {Pg:Program}{t ft:TypeId}{i o n:Nat}
theorem Ak6(fd:FldT Pg t i o ft)(rt:RowT Pg ft n){cs pre mid post:List Value}(e:cs=pre++mid++post)(hp:pre.length=o)(hm:mid.length=n)(w:World):(Instr.field t (.agg cs.toArray) i).run Pg w=.ok (.agg mid.toArray) w:=by
 obtain⟨fs,f,hu,hf,rfl,rfl⟩:=fd
 obtain⟨d,hd,hr⟩:=rt.ex
 obtain⟨inf,hi⟩:=Apl hd
 have hagg:(isAgg f.type).run Pg w=.ok true w:=by
  cases d<;>first|(simp[TypeDesc.isRow]at hr;done)|simp[isAgg,run_underlying hd]
 have hs:(sizeOf f.type).run Pg w=.ok n w:=by
  have:Pg.cellsOf f.type=n:=rt.n
  simp only[Program.cellsOf,hi]at this
  simp[sizeOf,run_typeInfo w hi]
  simpa using this
 have hx:List.take n (List.drop f.offset cs)=mid:=by
  subst e
  rw[<-hp,<-hm,List.append_assoc,List.drop_left,List.take_left]
 simp[Instr.field,run_underlying hu,hf,asAgg,part,hagg,hs,hx]
theorem Agg(fd:FldT Pg t i o ft)(ot:OneT Pg ft){cs:List Value}{v:Value}(e:cs[o]? = some v)(w:World):(Instr.field t (.agg cs.toArray) i).run Pg w=.ok v w:=by
 obtain⟨fs,f,hu,hf,rfl,rfl⟩:=fd
 obtain⟨d,hd,hr⟩:=ot.ex
 have hagg:(isAgg f.type).run Pg w=.ok false w:=by
  cases d<;>first|(simp[TypeDesc.isRow]at hr;done)|simp[isAgg,run_underlying hd]
 simp[Instr.field,run_underlying hu,hf,asAgg,part,hagg,e]
theorem Aqr{P:List (List Value)}{ls:List Nat}(hl:P.map List.length=ls){o k:Nat}{v:Value}(hf:findPart ls o 1=some (k,1))(hp:P[k]? = some [v]):(fl P)[o]? = some v:=by
 obtain⟨pre,post,e,h1,h2,_⟩:=Aab hl hf
 rw[Ahq hp]at e
 rw[e,<-h1]
 simp[fl]
end
section
variable {Γ0 Γ:Gam}{w0 w:World}{L:List Ent}{R:List RowE}{Pg:Program}{ops:Array Oper}{rest:List Oper}{op:Oper}{a:Act}{Q:Exit->Act->World->Prop}
theorem AgV{t ft:TypeId}{i o n k j:Nat}{x:Operand}{P:List (List Value)}{ls:List Nat}(fd:FldT Pg t i o ft)(ho:op.op=.field t x i)(hgd:Region.wanted op (yielded ops a.tmps)=true)(hx:a.eval x=.agg (fl P).toArray)(hl:P.map List.length=ls)(rt:RowT Pg ft n)
  (hf:findPart ls o n=some (k,j)) (h:wpList Pg ops Q rest (a.put op.dst (.agg (fl ((P.drop k).take j)).toArray)) w):wpList Pg ops Q (op::rest) a w:=by
 obtain⟨pre,post,e,h1,h2,_⟩:=Aab hl hf
 refine Ab1 hgd fun K hK=>?_
 unfold Oper.wp execOp
 simp only[ho,hx,Ak6 fd rt e h1 h2 w,Sem.run_bind,Sem.run_pure,Result.andThen_ok,Oper.upon]
 exact hK _ _ h
theorem Adn{t ft:TypeId}{i o k:Nat}{x:Operand}{v:Value}{P:List (List Value)}{ls:List Nat}(fd:FldT Pg t i o ft)(ho:op.op=.field t x i)(hgd:Region.wanted op (yielded ops a.tmps)=true)(hx:a.eval x=.agg (fl P).toArray)(hl:P.map List.length=ls)(ot:OneT Pg ft)
  (hf:findPart ls o 1=some (k,1)) (hp:P[k]? = some [v]) (h:wpList Pg ops Q rest (a.put op.dst v) w):wpList Pg ops Q (op::rest) a w:=by
 refine Ab1 hgd fun K hK=>?_
 unfold Oper.wp execOp
 simp only[ho,hx,Agg fd ot (Aqr hl hf hp) w,Sem.run_bind,Sem.run_pure,Result.andThen_ok,Oper.upon]
 exact hK _ _ h
end
theorem AeL{Pg:Program}{C:World->Prop}{K:Act->Prop}{op:Oper}{a:Act}{t ft:TypeId}{i o k:Nat}{x:Operand}{v:Value}{P:List (List Value)}{ls:List Nat}(fd:FldT Pg t i o ft)(ho:op.op=.field t x i)(hx:a.eval x=.agg (fl P).toArray)(hl:P.map List.length=ls)(ot:OneT Pg ft)
  (hf:findPart ls o 1=some (k,1)) (hp:P[k]? = some [v]) (h:K (a.put op.dst v)):op.quiet Pg a C K:=by
 refine⟨_,fun w hw=>?_,h⟩
 unfold Oper.quietAt execOp
 simp only[ho,hx,Agg fd ot (Aqr hl hf hp) w,Sem.run_bind,Sem.run_pure,Result.andThen_ok]
 exact⟨rfl,rfl⟩
theorem AcM{P:Program}{ops:Array Oper}{rest:List Oper}{o:Oper}{a:Act}{w:World}{Q:Exit->Act->World->Prop}(hgd:Region.wanted o (yielded ops a.tmps)=true)(t:TypeId)(parts:Array (Nat × Operand))(ho:o.op=.build t parts)
  (ps:List (Nat × Value)) (cells:List Value) (hps:parts.toList.map (fun x=>(x.1,a.eval x.2))=ps) (hf:P.built t ps=some cells.toArray) (h:wpList P ops Q rest (a.put o.dst (.agg cells.toArray)) w):wpList P ops Q (o::rest) a w:=
 Ab1 hgd fun K hK=>by
  have e:(parts.map fun(i,x)=>(i,a.eval x))=ps.toArray:=Array.ext' (by rw[Array.toList_map];exact hps)
  have:=run_build (P:=P) w t ps.toArray cells.toArray hf
  unfold Oper.wp execOp
  simp only[ho,e,this,Sem.run_bind,Result.andThen_ok]
  exact hK _ _ h
structure Fz(Γ:Gam)(g base:Nat)(P:List (List Value))(ls:List Nat):Prop where
 chk:Chk Γ g base (fl P)
 len:P.map List.length=ls
theorem Fz.mono{Γ Γ':Gam}{g base:Nat}{P:List (List Value)}{ls:List Nat}(h:Fz Γ g base P ls)(hl:Le Γ Γ'):Fz Γ' g base P ls:=⟨h.chk.mono hl,h.len⟩
theorem Fz.cls{Γ:Gam}{g base:Nat}{P:List (List Value)}{ls:List Nat}{w:World}(h:Fz Γ g base P ls)(ok:Ok Γ w):∀w',Cls w.heap.size w w'->CL w' g base P ls:=CL.cls h.chk h.len ok
theorem Fz.cl{Γ:Gam}{g base:Nat}{P:List (List Value)}{ls:List Nat}{w:World}(h:Fz Γ g base P ls)(ok:Ok Γ w):CL w g base P ls:=CL.of h.chk h.len ok
theorem len1(v:Value):([[v]]:List (List Value)).map List.length = [1]:=rfl
theorem lenR(r:Rt):([rc r]:List (List Value)).map List.length = [32]:=by simp[Aav]
theorem lenW(r:Wd):([wc r]:List (List Value)).map List.length = [4]:=by simp[AdR]
theorem Aei{s:Sl}{A:Option Addr}(h:s.A=A):s.v=.slice A s.n s.c:=by rw[<-h]
theorem AbO:ElT Tryz.prog 22 3 1 8:=Abr Tryz.underlying22 (by kernel_rfl) (by decide) (by decide)
theorem AiX:FldT Tryz.prog 37 0 0 23:=⟨_,_,Tryz.underlying37,rfl,rfl,rfl⟩
open Go.RowKit
section
variable {Pg:Program}{C:World->Prop}{K:Act->Prop}{ops:Array Oper}{rest:List Oper}{a:Act}{w:World}{Q:Exit->Act->World->Prop}{d:Option Tmp}{t ty:TypeId}{x:Operand}{p:String}{af:Array Edge}{g:Option (Nat × Bool)}{f:Operand}{xs:Array Operand}{ts:Array TypeId}
theorem AbY(h:(⟨d,.load t x,ty,p,af,g⟩:Oper).quiet Pg a C K):(⟨d,.load t x,ty,p,af,g⟩:Oper).quiet Pg a C K:=h
theorem AbD(h:(⟨d,.call ⟨.value f,xs,ts⟩,ty,p,af,g⟩:Oper).quiet Pg a C K):(⟨d,.call ⟨.value f,xs,ts⟩,ty,p,af,g⟩:Oper).quiet Pg a C K:=h
theorem AiU(h:wpList Pg ops Q (⟨d,.load t x,ty,p,af,g⟩::rest) a w):wpList Pg ops Q (⟨d,.load t x,ty,p,af,g⟩::rest) a w:=h
theorem Aqq(h:wpList Pg ops Q (⟨d,.box t x,ty,p,af,g⟩::rest) a w):wpList Pg ops Q (⟨d,.box t x,ty,p,af,g⟩::rest) a w:=h
end
open Go.RowKit
section
variable {Γ0 Γ:Gam}{w0 w:World}{L:List Ent}{R:List RowE}{Pg:Program}{ops:Array Oper}{rest:List Oper}{op:Oper}{a:Act}{Q:Exit->Act->World->Prop}
def LdAt(Pg:Program)(C:World->Prop)(ty:TypeId)(g o:Nat)(K:Value->Prop):Prop:=
 (∃v,OneT Pg ty/\(∀w,C w->w.cell? ⟨g,o,none⟩=some v)/\K v)\/(∃n p,RowT Pg ty n/\(∀w,C w->w.rangeAt g o p)/\p.length=n/\K (.agg p.toArray))
theorem Acl{ty:TypeId}{x:Operand}{g o:Nat}(ho:op.op=.load ty x)(hgd:Region.wanted op (yielded ops a.tmps)=true)(hx:a.eval x=.pointer (some ⟨g,o,none⟩))
  (h:LdAt Pg (fun w'=>w'=w) ty g o (fun v=>wpList Pg ops Q rest (a.put op.dst v) w)):wpList Pg ops Q (op::rest) a w:=by
 rcases h with⟨v,ot,hc,hk⟩|⟨n,p,rt,hr,hn,hk⟩
 .exact AbU ho hgd hx ot (hc w rfl) hk
 .exact Aa8 ho hgd hx rt ⟨hr w rfl,hn⟩ hk
theorem AeK{C:World->Prop}{K:Act->Prop}{ty:TypeId}{x:Operand}{g o:Nat}(ho:op.op=.load ty x)(hx:a.eval x=.pointer (some ⟨g,o,none⟩))(h:LdAt Pg C ty g o (fun v=>K (a.put op.dst v))):op.quiet Pg a C K:=by
 rcases h with⟨v,ot,hc,hk⟩|⟨n,p,rt,hr,hn,hk⟩
 .exact Aa2 ho hx ot hc hk
 .exact Abg ho hx rt hr hn hk
structure HLC(C:World->Prop)(g:Nat)(P:List (List Value))(ls:List Nat):Prop where
 has:∀w,C w->HL w g P ls
 len:P.map List.length=ls
structure CLC(C:World->Prop)(g base:Nat)(P:List (List Value))(ls:List Nat):Prop where
 has:∀w,C w->CL w g base P ls
 len:P.map List.length=ls
theorem HL.one{g:Nat}{P:List (List Value)}{ls:List Nat}(H:HL w g P ls):HLC (fun w'=>w'=w) g P ls:=⟨fun _ h=>h▸H,H.len⟩
theorem HL.all{g:Nat}{P:List (List Value)}{ls:List Nat}(H:HL w g P ls):HLC (Cls w.heap.size w) g P ls:=⟨H.cls,H.len⟩
theorem Fz.one{g base:Nat}{P:List (List Value)}{ls:List Nat}(H:Fz Γ g base P ls)(ok:Ok Γ w):CLC (fun w'=>w'=w) g base P ls:=⟨fun _ h=>h▸H.cl ok,H.len⟩
theorem Fz.all{g base:Nat}{P:List (List Value)}{ls:List Nat}(H:Fz Γ g base P ls)(ok:Ok Γ w):CLC (Cls w.heap.size w) g base P ls:=⟨H.cls ok,H.len⟩
section
variable {C:World->Prop}{ty:TypeId}{K:Value->Prop}{g:Nat}{P:List (List Value)}{ls:List Nat}
theorem LdAt.c1{o k:Nat}{v:Value}(H:HLC C g P ls)(ot:OneT Pg ty)(hf:findPart ls o 1=some (k,1))(hp:P[k]? = some [v])(h:K v):LdAt Pg C ty g o K:=.inl ⟨v,ot,fun w hw=>(H.has w hw).cell1 hf hp,h⟩
theorem LdAt.c1e{o k:Nat}{v v':Value}(H:HLC C g P ls)(e:v=v')(ot:OneT Pg ty)(hf:findPart ls o 1=some (k,1))(hp:P[k]? = some [v])(h:K v'):LdAt Pg C ty g o K:=by subst e;exact LdAt.c1 H ot hf hp h
theorem LdAt.p1{o n k:Nat}{p:List Value}(H:HLC C g P ls)(rt:RowT Pg ty n)(hf:findPart ls o n=some (k,1))(hp:P[k]? = some p)(h:K (.agg p.toArray)):LdAt Pg C ty g o K:=
 .inr ⟨n,p,rt,fun w hw=>((H.has w hw).part1 hf hp).1,by obtain⟨_,_,_,_,hn,_⟩:=Aab H.len hf;rw[Ahq hp]at hn;exact hn,h⟩
theorem LdAt.ps{o n k j:Nat}(H:HLC C g P ls)(rt:RowT Pg ty n)(hf:findPart ls o n=some (k,j))(h:K (.agg (fl ((P.drop k).take j)).toArray)):LdAt Pg C ty g o K:=
 .inr ⟨n,_,rt,fun w hw=>((H.has w hw).part hf).1,by obtain⟨_,_,_,_,hn,_⟩:=Aab H.len hf;exact hn,h⟩
theorem LdAt.rc1{base o k:Nat}{v:Value}(H:CLC C g base P ls)(ot:OneT Pg ty)(hf:findPart ls o 1=some (k,1))(hp:P[k]? = some [v])(h:K v):LdAt Pg C ty g (base+o) K:=.inl ⟨v,ot,fun w hw=>(H.has w hw).cell1 hf hp,h⟩
theorem LdAt.rp1{base o n k:Nat}{p:List Value}(H:CLC C g base P ls)(rt:RowT Pg ty n)(hf:findPart ls o n=some (k,1))(hp:P[k]? = some p)(h:K (.agg p.toArray)):LdAt Pg C ty g (base+o) K:=
 .inr ⟨n,p,rt,fun w hw=>((H.has w hw).part1 hf hp).1,by obtain⟨_,_,_,_,hn,_⟩:=Aab H.len hf;rw[Ahq hp]at hn;exact hn,h⟩
theorem LdAt.rps{base o n k j:Nat}(H:CLC C g base P ls)(rt:RowT Pg ty n)(hf:findPart ls o n=some (k,j))(h:K (.agg (fl ((P.drop k).take j)).toArray)):LdAt Pg C ty g (base+o) K:=
 .inr ⟨n,_,rt,fun w hw=>((H.has w hw).part hf).1,by obtain⟨_,_,_,_,hn,_⟩:=Aab H.len hf;exact hn,h⟩
theorem LdAt.rc0{base k:Nat}{v:Value}(H:CLC C g base P ls)(ot:OneT Pg ty)(hf:findPart ls 0 1=some (k,1))(hp:P[k]? = some [v])(h:K v):LdAt Pg C ty g base K:=LdAt.rc1 (o:=0) H ot hf hp h
theorem LdAt.rs0{base n k j:Nat}(H:CLC C g base P ls)(rt:RowT Pg ty n)(hf:findPart ls 0 n=some (k,j))(h:K (.agg (fl ((P.drop k).take j)).toArray)):LdAt Pg C ty g base K:=LdAt.rps (o:=0) H rt hf h
end
end
open Go.RowKit
structure MkT(Pg:Program)(t e:TypeId)(size bytes:Nat)(zs:List Value):Prop where
 ht:Pg.underlying t=some (.slice e)
 hi:∃i z,Pg.info? e=some i/\i.zero=some z/\z.cells=zs.toArray/\i.size=size/\i.bytes=bytes
 len:zs.length=size
 pos:0<size
theorem Al9{Pg:Program}{t e:TypeId}{size bytes:Nat}{zs:List Value}(ht:Pg.underlying t=some (.slice e))(h:(Pg.info? e).map (fun i=>(i.zero.map (·.cells),i.size,i.bytes))=some (some zs.toArray,size,bytes))(hl:zs.length=size)(pos:0<size):MkT Pg t e size bytes zs:=by
 refine⟨ht,?_,hl,pos⟩
 cases hi:Pg.info? e with
 |none=>rw[hi]at h;cases h
 |some i=>
  rw[hi]at h
  simp only[Option.map_some,Option.some.injEq,Prod.mk.injEq]at h
  obtain⟨h1,h2,h3⟩:=h
  cases hz:i.zero with
  |none=>rw[hz]at h1;cases h1
  |some z=>
   rw[hz]at h1
   exact⟨i,z,rfl,hz,by simpa using h1,h2,h3⟩
def reps(n:Nat)(zs:List Value):List Value:=(List.replicate n zs).flatMap id
theorem Ans(n:Nat)(zs:List Value):(reps n zs).length=n*zs.length:=by
 unfold reps
 rw[Aah (k:=zs.length) _ (fun x hx=>by rw[List.eq_of_mem_replicate hx];rfl)]
 simp
theorem Ajq(n:Nat)(z:Value):reps n [z]=List.replicate n z:=by
 unfold reps
 induction n with
 |zero=>rfl
 |succ n ih=>rw[List.replicate_succ,List.flatMap_cons,ih,List.replicate_succ];rfl
section
variable {Γ0 Γ:Gam}{w0 w:World}{L:List Ent}{R:List RowE}{Pg:Program}{ops:Array Oper}{rest:List Oper}{op:Oper}{a:Act}{Q:Exit->Act->World->Prop}
theorem AdU{t e:TypeId}{size bytes:Nat}{zs:List Value}(M:MM Γ0 w0 Γ w L R)(mk:MkT Pg t e size bytes zs)(n:Nat)(hb:bytes*n<=281474976710656)(h63:n<=9223372036854775807){x y:Operand}{k1 k2:IntKind}(ho:op.op=.makeSlice t x y)(hgd:op.guard=none)(hx:a.eval x=.int k1 (n:Int))(hy:a.eval y=.int k2 (n:Int))
  (h:∀w' g,MM Γ0 w0 Γ w' (⟨g,[reps n zs],[n*size]⟩::L) R->(Below w.heap.size w w'/\g=w.heap.size)->wpList Pg ops Q rest (a.put op.dst (.slice (some ⟨g,0,none⟩) n n)) w'):wpList Pg ops Q (op::rest) a w:=by
 obtain⟨i,z,hi,hz,hc,hs,hby⟩:=mk.hi
 have hb':(i.bytes:Int)*(n:Int)<=281474976710656:=by
  have h:((i.bytes*n:Nat):Int)<=281474976710656:=by rw[hby];omega
  rwa [Int.natCast_mul]at h
 have hr:=run_make (P:=Pg) w t e i z mk.ht hi hz k1 k2 n n (by omega) (Int.le_refl _) hb' (by omega)
 have hm:madeCells z.cells (n*i.size)=(fl [reps n zs]).toArray:=by
  rw[hs]
  exact Afi id zs z.cells (by rw[hc];rfl) mk.len mk.pos n
 simp only[Int.toNat_natCast,hm]at hr
 refine wpList_plain hgd fun K hK=>?_
 unfold Oper.wp execOp
 simp only[ho,hx,hy,hr,Sem.run_bind,Sem.run_pure,Result.andThen_ok,Oper.upon_value]
 exact hK _ _ (h _ _ (M.alloc (by simp[Ans,mk.len]) rfl e) ⟨ext_alloc _ _,rfl⟩)
theorem AaQ{g k m:Nat}{cs:List Value}{v:Value}(H:HL w g [cs] [m])(hv:cs[k]? = some v){ty:TypeId}{x:Operand}(ho:op.op=.load ty x)(hgd:Region.wanted op (yielded ops a.tmps)=true)(hx:a.eval x=.pointer (some ⟨g,k,none⟩))(ot:OneT Pg ty)
  (h:wpList Pg ops Q rest (a.put op.dst v) w):wpList Pg ops Q (op::rest) a w:=AbU ho hgd hx ot (by rw[H.has.cell];exact hv) h
theorem AbR{C:World->Prop}{K:Act->Prop}{g k m:Nat}{cs:List Value}{v:Value}(H:∀w',C w'->HL w' g [cs] [m])(hv:cs[k]? = some v){ty:TypeId}{x:Operand}(ho:op.op=.load ty x)(hx:a.eval x=.pointer (some ⟨g,k,none⟩))(ot:OneT Pg ty)
  (h:K (a.put op.dst v)):op.quiet Pg a C K:=Aa2 ho hx ot (fun w' hw=>by rw[(H w' hw).has.cell];exact hv) h
theorem Ah7{C:World->Prop}{K:Act->Prop}{g k:Nat}{cs:List Value}{v:Value}(H:∀w',C w'->Has w' g cs)(hv:cs[k]? = some v){ty:TypeId}{x:Operand}(ho:op.op=.load ty x)(hx:a.eval x=.pointer (some ⟨g,k,none⟩))(ot:OneT Pg ty)
  (h:K (a.put op.dst v)):op.quiet Pg a C K:=Aa2 ho hx ot (fun w' hw=>by rw[(H w' hw).cell];exact hv) h
theorem AcB{g k:Nat}{P P':List (List Value)}{ls:List Nat}(M:MM Γ0 w0 Γ w L R)(i:Nat)(v:Value){opsA:Array Oper}{ts:Array Value}{K:Act->World->Prop}{E:Prop}(hi:L[i]? = some ⟨g,P,ls⟩)(hk:k<(fl P).length)(hP:fl P'=(fl P).set k v)(hl:P'.map List.length=ls){ty:TypeId}{x y:Operand}(ho:op.op=.store ty x y)(hx:a.eval x=.pointer (some ⟨g,k,none⟩))(hy:a.eval y=v)(ot:OneT Pg ty)(hv:v.oneCell'=true)(hc:v.cells = #[v])
  (hw:Region.wanted op (yielded opsA ts)=true) (h:∀w',MM Γ0 w0 Γ w' (L.set i ⟨g,P',ls⟩) R->K (a.put op.dst undef) w'):if Region.wanted op (yielded opsA ts)=true then op.wp Pg a w K Q else E:=by
 rw[if_pos hw]
 have hh:=M.has _ (List.mem_of_getElem? hi)
 simp only at hh
 have ht:w.there g k 1:=fun j hj=>by
  have hj0:j=0:=by omega
  subst hj0
  rw[Nat.add_zero,hh.cell k,hh.frozen k,List.getElem?_eq_getElem hk]
  exact⟨rfl,rfl⟩
 have hr:=Adq (Pg:=Pg) ot ht hv hc
 unfold Oper.wp execOp
 simp only[ho,hx,hy,hr,Sem.run_bind,Sem.run_pure,Result.andThen_ok,Oper.upon]
 exact h _ (M.write (P':=P') hi (AbI w g k v) (by rw[hP];exact hh.set k v) hl)
theorem AaX{g k m:Nat}{cs:List Value}(M:MM Γ0 w0 Γ w L R)(i:Nat)(v:Value)(hi:L[i]? = some ⟨g,[cs],[m]⟩)(hk:k<cs.length){ty:TypeId}{x y:Operand}(ho:op.op=.store ty x y)(hgd:op.guard=none)(hx:a.eval x=.pointer (some ⟨g,k,none⟩))(hy:a.eval y=v)(ot:OneT Pg ty)(hv:v.oneCell'=true)(hc:v.cells = #[v])
  (h:∀w',MM Γ0 w0 Γ w' (L.set i ⟨g,[cs.set k v],[m]⟩) R->wpList Pg ops Q rest (a.put op.dst undef) w'):wpList Pg ops Q (op::rest) a w:=by
 have hm:=M.len _ (List.mem_of_getElem? hi)
 exact Ako ot (M.has _ (List.mem_of_getElem? hi)) hk v ho hgd hx hy hv hc fun w' hh hg=>h w' (M.write (P':=[cs.set k v]) hi hg hh (by simpa using hm))
theorem MM.rowL{A:Option Addr}{c:Nat}{e:TypeId}{size n:Nat}{xs:List Value}(M:MM Γ0 w0 Γ w L (⟨.slice A n c,e,size,n,xs⟩::R))(hn:0<n) :
  ∃(g:Nat) (rest:List Value),A=some ⟨g,0,none⟩/\CapOk A n c/\MM Γ0 w0 Γ w (⟨g,[xs,rest],[xs.length,rest.length]⟩::L) R:=by
 have hr:=M.rows _ (List.mem_cons_self ..)
 have ho:=M.roff _ (List.mem_cons_self ..)
 have M1:=M.rtail
 rcases hr.2 with⟨h1,h2⟩|⟨g,cap,cur,h1,h2,h3,h4,h5,h6,h7⟩
 .simp only at h2;omega
 .simp only at h1 h3 h6 h7
  injection h1 with e1 e2 e3
  subst e1 e3
  obtain⟨hof,hL⟩:=ho g rfl
  have hh:Has w g (xs++cur.toList.drop (n*size)):=⟨e,by rw[<-h7,List.take_append_drop];simpa using h3⟩
  refine⟨g,cur.toList.drop (n*size),rfl,⟨h4,h5,fun h=>by cases h⟩,⟨M1.ext,fun p hp=>?_,fun p hp=>?_,fun p hp=>?_,fun p hp=>?_,List.pairwise_cons.2 ⟨fun q hq e=>hL q hq e.symm,M1.nd⟩,M1.rows,fun r hr' k hk=>⟨(M1.roff r hr' k hk).1,fun p hp=>?_⟩,M1.rnd⟩⟩
  .rcases List.mem_cons.1 hp with rfl|hp
   .exact hh
   .exact M1.has p hp
  .rcases List.mem_cons.1 hp with rfl|hp
   .rfl
   .exact M1.len p hp
  .rcases List.mem_cons.1 hp with rfl|hp
   .exact hof
   .exact M1.off p hp
  .rcases List.mem_cons.1 hp with rfl|hp
   .exact h2
   .exact M1.lo p hp
  .rcases List.mem_cons.1 hp with rfl|hp
   .intro e'
    simp only at e'
    subst e'
    exact(List.pairwise_cons.1 M.rnd).1 r hr' g rfl hk
   .exact(M1.roff r hr' k hk).2 p hp
theorem MM.frzL{g:Nat}{P:List (List Value)}{ls:List Nat}(M:MM Γ0 w0 Γ w (⟨g,P,ls⟩::L) R):∃Γ',Γ' g=some (fl P)/\Le Γ Γ'/\MM Γ0 w0 Γ' w L R:=by
 have hn:=M.off ⟨g,P,ls⟩ (List.mem_cons_self ..)
 have hlo:=M.lo ⟨g,P,ls⟩ (List.mem_cons_self ..)
 have hh:=M.has ⟨g,P,ls⟩ (List.mem_cons_self ..)
 simp only at hn hlo hh
 have hnew:∀k,k≠g->Γ.add g (fl P) k=Γ k:=fun k hk=>by simp[Gam.add,hk]
 have M1:=M.tail
 refine⟨Γ.add g (fl P),by simp[Gam.add],AiM hn,⟨M.ext.le.trans (AiM hn),fun k cs ek=>?_,fun k ek hk=>?_,M.ext.bel⟩,M1.has,M1.len,fun p hp=>?_,M1.lo,M1.nd,M1.rows,fun r hr k hk=>⟨?_,(M1.roff r hr k hk).2⟩,M1.rnd⟩
 .by_cases hkg:k=g
  .subst hkg
   simp only[Gam.add,if_true,Option.some.injEq]at ek
   subst ek
   exact⟨[],by simpa using hh⟩
  .rw[hnew k hkg]at ek;exact M.ext.ok k cs ek
 .rw[hnew k (by omega)];exact M.ext.new k ek hk
 .rw[hnew p.g (fun e=>(List.pairwise_cons.1 M.nd).1 p hp e.symm)];exact M1.off p hp
 .rw[hnew k (fun e=>(M.roff r hr k hk).2 ⟨g,P,ls⟩ (List.mem_cons_self ..) e.symm)];exact(M1.roff r hr k hk).1
theorem MM.frzS{g m:Nat}(n:Nat){cs:List Value}(M:MM Γ0 w0 Γ w (⟨g,[cs],[m]⟩::L) R):∃Γ',SlG Γ' (some ⟨g,0,none⟩) n cs/\Le Γ Γ'/\MM Γ0 w0 Γ' w L R:=by
 obtain⟨Γ',h1,h2,h3⟩:=M.frzL
 exact⟨Γ',fun _=>⟨g,[],rfl,by simpa [fl]using h1⟩,h2,h3⟩
end
section
variable {Γ0 Γ:Gam}{w0 w:World}{L:List Ent}{R:List RowE}{Pg:Program}{op:Oper}{a:Act}{Q:Exit->Act->World->Prop}
theorem AaR{ty:TypeId}{Z:List (List Value)}{ls:List Nat}(ho:op.op=.alloc ty)(zt:ZeroT Pg ty Z ls):(execOp a.eval op).run Pg w=.ok (.value (.pointer (some ⟨w.heap.size,0,none⟩))) (w.alloc (.cells (fl Z).toArray ty)):=by
 unfold execOp
 simp only[ho]
 simp[Instr.alloc,Sem.run_bind,zt.run,newVar,Value.cells,newRow]
theorem Aam{g:Nat}{P:List (List Value)}{ls:List Nat}(M:MM Γ0 w0 Γ w L R)(i:Nat)(Q' P':List (List Value)){opsA:Array Oper}{ts:Array Value}{K:Act->World->Prop}{E:Prop}(hi:L[i]? = some ⟨g,P,ls⟩){ty:TypeId}{x y:Operand}{o n k j:Nat}(ho:op.op=.store ty x y)(hx:a.eval x=.pointer (some ⟨g,o,none⟩))
  (hy:a.eval y=.agg (fl Q').toArray) (rt:RowT Pg ty n) (hf:findPart ls o n=some (k,j)) (hQ:Q'.map List.length=(ls.drop k).take j) (h1:One (fl Q')) (hP:P.take k++Q'++P.drop (k+j)=P') (hw:Region.wanted op (yielded opsA ts)=true)
  (h:∀w',MM Γ0 w0 Γ w' (L.set i ⟨g,P',ls⟩) R->K (a.put op.dst undef) w'):if Region.wanted op (yielded opsA ts)=true then op.wp Pg a w K Q else E:=by
 rw[if_pos hw]
 subst hP
 obtain⟨d,hu,hd⟩:=rt.ex
 obtain⟨q1,q2,q4,q3⟩:=M.put hi hf hQ
 exact wp_store_mid ty x y ho g o (fl Q').toArray hx hy (by simpa using q1) (by rw[List.size_toArray,q2];exact AbS hu rt.n) (all_oneCell_toArray h1) (by simpa using h _ q3)
theorem Aa6{g:Nat}{P:List (List Value)}{ls:List Nat}(M:MM Γ0 w0 Γ w L R)(i:Nat)(v:Value)(P':List (List Value)){opsA:Array Oper}{ts:Array Value}{K:Act->World->Prop}{E:Prop}(hi:L[i]? = some ⟨g,P,ls⟩){ty:TypeId}{x y:Operand}{o k:Nat}(ho:op.op=.store ty x y)(hx:a.eval x=.pointer (some ⟨g,o,none⟩))
  (hy:a.eval y=v) (ot:OneT Pg ty) (hf:findPart ls o 1=some (k,1)) (hk:(ls.drop k).take 1 = [1]) (hv:v.oneCell'=true) (hc:v.cells = #[v]) (hP:P.take k ++ [[v]]++P.drop (k+1)=P') (hw:Region.wanted op (yielded opsA ts)=true)
  (h:∀w',MM Γ0 w0 Γ w' (L.set i ⟨g,P',ls⟩) R->K (a.put op.dst undef) w'):if Region.wanted op (yielded opsA ts)=true then op.wp Pg a w K Q else E:=by
 rw[if_pos hw]
 subst hP
 obtain⟨q1,q2,q4,q3⟩:=M.put (Q':=[[v]]) hi hf hk.symm
 have hr:=Adq (Pg:=Pg) ot (g:=g) (o:=o) (by simpa [fl]using q1) hv hc
 unfold Oper.wp execOp
 simp only[ho,hx,hy,hr,Sem.run_bind,Sem.run_pure,Result.andThen_ok,Oper.upon]
 exact h _ q3
end
theorem Aqj:MkT Tryz.prog 102 4 1 1 [.bool false]:=Al9 Tryz.underlying102 (by kernel_rfl) rfl (by decide)
theorem An2:MkT Tryz.prog 22 3 1 8 [.int .i64 0]:=Al9 Tryz.underlying22 (by kernel_rfl) rfl (by decide)
open Go.RowKit
section
variable {P:Program}{ops:Array Oper}{md:Region.Mode}{Q:Exit->Act->World->Prop}
def CallAt(P:Program)(o:Oper)(a:Act)(w:World)(v:Value):Prop:=∃f args,(execOp a.eval o).run P w=.ok (.enter f args) w/\Calls P f args w fun e w''=>e=.returned v/\Cls w.heap.size w w''
def YieldsH(P:Program)(ops:Array Oper)(S:World->Prop)(o:Oper)(v:Value)(a:Act):Prop:=
 (Region.wanted o (yielded ops a.tmps)=true/\∀w',S w'->PureAt P o a w' v\/CallAt P o a w' v)\/(Region.wanted o (yielded ops a.tmps)=false/\v=undef)
theorem YieldsH.of_same{S:World->Prop}{o:Oper}{v:Value}{a a':Act}(hy:YieldsH P ops S o v a)(he:execOp a'.eval o=execOp a.eval o)
  (hw:Region.wanted o (yielded ops a'.tmps)=Region.wanted o (yielded ops a.tmps)):YieldsH P ops S o v a':=by
 unfold YieldsH PureAt CallAt at *
 rw[he,hw]
 exact hy
theorem YieldsH.mono{S T:World->Prop}{o:Oper}{v:Value}{a:Act}(hy:YieldsH P ops S o v a)(h:∀w,T w->S w):YieldsH P ops T o v a:=by
 rcases hy with⟨h1,h2⟩|h1
 .exact .inl ⟨h1,fun w' h'=>h2 w' (h w' h')⟩
 .exact .inr h1
theorem YieldsH.wpOp{S:World->Prop}{i:Nat}{o:Oper}{v:Value}{a:Act}{w:World}(hi:ops[i]? = some o)(hS:S w)(hy:YieldsH P ops S o v a){K:Act->World->Prop}(h:∀w2,Cls w.heap.size w w2->K (a.put o.dst v) w2):wpOp P ops Q i K a w:=by
 unfold Go.wpOp
 simp only[hi]
 rcases hy with⟨hw,hv⟩|⟨hw,rfl⟩
 .rw[if_pos hw]
  refine .inl ?_
  unfold Oper.wp
  rcases hv w hS with(h1|⟨h1,rfl⟩)|⟨f,args,h1,h2⟩
  .rw[h1];simpa only[Oper.upon]using h w (Cls.refl _ _)
  .rw[h1];simpa only[Oper.upon]using h w (Cls.refl _ _)
  .rw[h1,Oper.upon_enter]
   refine Calls.mono h2 ?_
   rintro e w2 ⟨rfl,hc⟩
   exact h w2 hc
 .rw[hw];simpa using h w (Cls.refl _ _)
theorem Akn{j:Nat}{oi oj:Oper}{v:Value}(hj:ops[j]? = some oj)(hap:oi.apart ops oj=true)
  (hsi:∀cs b,oi.op ≠ .select cs b) (hsj:∀cs b,oj.op ≠ .select cs b)
  (hQ:∀c a w,Q (.panic c) (a.put oi.dst v) w->Q (.panic c) a w) {K:Act->World->Prop} {a:Act} {w:World}
  (h:wpOp P ops Q j K (a.put oi.dst v) w) :
  wpOp P ops Q j (fun a' w'=>(∀S,YieldsH P ops S oi v a->YieldsH P ops S oi v a')/\K (a'.put oi.dst v) w') a w:=by
 obtain⟨h1,h2,h3⟩:=Oper.apart_spec hap
 have same:∀(b:Act) (u:Value) (S:World->Prop),YieldsH P ops S oi v b->YieldsH P ops S oi v (b.put oj.dst u):=fun b u S hy=>
  hy.of_same (execOp_put oi hsi b oj.dst u h3) (wanted_put oi b oj.dst u h3)
 have sameD:∀(d:Deferred) (S:World->Prop),YieldsH P ops S oi v a->YieldsH P ops S oi v {a with defers:=d::a.defers}:=fun d S hy=>hy.of_same rfl rfl
 unfold Go.wpOp at *
 simp only[hj]at *
 rw[wanted_put oj a oi.dst v h1]at h
 by_cases hw:Region.wanted oj (yielded ops a.tmps)=true
 .rw[if_pos hw]at h |-
  rcases h with h|⟨hasks,hlets⟩
  .refine .inl ?_
   unfold Oper.wp at *
   rw[execOp_put oj hsj a oi.dst v h1]at h
   generalize(execOp a.eval oj).run P w=r at *
   cases r with
   |ok n w'=>
    cases n<;>simp only[Oper.upon]at h |-
    case value u=>exact⟨fun S=>same a u S,by rw[<-Act.put_comm a v u h2];exact h⟩
    case skip=>exact⟨fun S=>same a _ S,by rw[<-Act.put_comm a v undef h2];exact h⟩
    case defer d=>
     refine⟨fun S hy=>same _ _ S (sameD d S hy),?_⟩
     rw[<-Act.put_comm _ v undef h2,<-Act.put_defers]
     exact h
    case enter f args=>
     refine Calls.mono h fun e w'' he=>?_
     cases e with
     |returned u=>exact⟨fun S=>same a u S,by rw[<-Act.put_comm a v u h2];exact he⟩
     |panicked c=>exact hQ _ _ _ he
     |outgrown=>exact he
    case row row args=>exact Rows.mono h fun u w'' he=>⟨fun S=>same a u S,by rw[<-Act.put_comm a v u h2];exact he⟩
   |halt x w'=>
    cases x<;>simp only[Oper.upon]at h |-
    case panic u=>exact hQ _ _ _ h
  .exact .inr ⟨by unfold Oper.asks at *;rw[execOp_put oj hsj a oi.dst v h1]at hasks;exact hasks,hlets⟩
 .rw[if_neg hw]at h |-
  exact⟨fun S=>same a _ S,by rw[<-Act.put_comm a v undef h2];exact h⟩
def wpAnyD(P:Program)(md:Region.Mode)(ops:Array Oper)(Q:Exit->Act->World->Prop)(n:List Nat):Nat->Array Bool->Act->World->Prop
 |0,listed,a,w=>Region.ready md ops listed = []/\∀w',Cls w.heap.size w w'->Q .normal a w'
 |f+1,listed,a,w=>(Region.ready md ops listed = []->∀w',Cls w.heap.size w w'->Q .normal a w') /\
  ∀i∈Region.ready md ops listed,∀w',Cls w.heap.size w w'->wpOp P ops Q i (fun a2 w2=>(n.contains i=false->Cls w'.heap.size w' w2)/\wpAnyD P md ops Q n f (listed.setIfInBounds i true) a2 w2) a w'
theorem Aga{n:List Nat}:∀(f:Nat) (listed:Array Bool) (a:Act) (w:World),wpAnyD P md ops Q n f listed a w->wpAny P md ops Q f listed a w
 |0,listed,a,w,h=>⟨h.1,h.2 w (Cls.refl _ _)⟩
 |f+1,listed,a,w,h=>⟨fun hr=>h.1 hr w (Cls.refl _ _),fun i hi=>wpOp_mono (fun a' w' h'=>Aga f _ a' w' h'.2) (h.2 i hi w (Cls.refl _ _))⟩
theorem Ac1{n:List Nat}:∀{f:Nat} {listed:Array Bool} {a:Act} {w w1:World},wpAnyD P md ops Q n f listed a w->Cls w.heap.size w w1->wpAnyD P md ops Q n f listed a w1
 |0,listed,a,w,w1,h,h1=>⟨h.1,fun w' hw'=>h.2 w' (AbT h1 hw')⟩
 |f+1,listed,a,w,w1,h,h1=>⟨fun hr w' hw'=>h.1 hr w' (AbT h1 hw'),fun i hi w' hw'=>h.2 i hi w' (AbT h1 hw')⟩
theorem Abf{n:List Nat}{i:Nat}{oi:Oper}{v:Value}(hi:ops[i]? = some oi)(hsel:∀(j:Nat) (o:Oper) cs b,ops[j]? = some o->o.op ≠ .select cs b)
  (hQ:∀c a w,Q (.panic c) (a.put oi.dst v) w->Q (.panic c) a w) :
  ∀(f:Nat) (listed:Array Bool) (a:Act) (w:World),Closed md ops listed ->
   (∀j oj,ops[j]? = some oj->j≠i->listed.getD j true=false->(∀e∈oj.after,Region.binds md e=true->e.on≠i)->oi.apart ops oj=true) ->
   i∈Region.ready md ops listed->(YieldsH P ops (fun _=>True) oi v a\/(YieldsH P ops (Cls w.heap.size w) oi v a/\ordC md ops n i=true)) ->
   wpAnyD P md ops Q n f (listed.setIfInBounds i true) (a.put oi.dst v) w->wpAnyD P md ops Q n (f+1) listed a w:=by
 intro f
 induction f with
 |zero=>
  intro listed a w inv _ hr hy H
  refine⟨fun h=>(by rw[h]at hr;cases hr),fun j hj w' hw'=>?_⟩
  by_cases hji:j=i
  .subst hji
   rcases hy with hy|⟨hy,_⟩
   .exact hy.wpOp hi trivial fun w2 h2=>⟨fun _=>h2,Ac1 H (AbT hw' h2)⟩
   .exact hy.wpOp hi hw' fun w2 h2=>⟨fun _=>h2,Ac1 H (AbT hw' h2)⟩
  .have:=ready_mono hj hji
   rw[H.1]at this
   cases this
 |succ f ih=>
  intro listed a w inv hfree hr hy H
  have hun:=(mem_ready.1 hr).1
  refine⟨fun h=>(by rw[h]at hr;cases hr),fun j hj w' hw'=>?_⟩
  by_cases hji:j=i
  .subst hji
   rcases hy with hy|⟨hy,_⟩
   .exact hy.wpOp hi trivial fun w2 h2=>⟨fun _=>h2,Ac1 H (AbT hw' h2)⟩
   .exact hy.wpOp hi hw' fun w2 h2=>⟨fun _=>h2,Ac1 H (AbT hw' h2)⟩
  .have h1:=H.2 j (ready_mono hj hji) w' hw'
   obtain⟨hjun,oj,hoj,hall⟩:=mem_ready.1 hj
   have hnot:∀e∈oj.after,Region.binds md e=true->e.on≠i:=fun e he hb heq=>by
    have h1:=hall e he hb
    rw[heq,getD_both hun]at h1
    cases h1
   have hfree':∀k ok,ops[k]? = some ok->k≠i->(listed.setIfInBounds j true).getD k true=false ->
     (∀e∈ok.after,Region.binds md e=true->e.on≠i)->oi.apart ops ok=true:=fun k ok hk hki hun2 hno=>by
    refine hfree k ok hk hki ?_ hno
    by_cases hjk:j=k
    .subst hjk;exact hjun
    .rw[getD_set_ne true hjk]at hun2;exact hun2
   have h2:=Akn hoj (hfree j oj hoj hji hjun hnot) (fun cs b=>hsel i oi cs b hi) (fun cs b=>hsel j oj cs b hoj) hQ h1
   refine wpOp_mono (fun a' w2 h3=>⟨h3.2.1,ih (listed.setIfInBounds j true) a' w2 (inv.set hj) hfree' (ready_mono hr (Ne.symm hji)) ?_ ?_⟩) h2
   .rcases hy with hy|⟨hy,hB⟩
    .exact .inl (h3.1 _ hy)
    .have hjn:=Al3 inv hB hr hj hji
     exact .inr ⟨(h3.1 _ hy).mono (fun w4 h4=>AbT (AbT hw' (h3.2.1 hjn)) h4),hB⟩
   .rw[Array.setIfInBounds_comm _ _ hji]
    exact h3.2.2
def stepB8(md:Region.Mode)(ops:Array Oper)(n:List Nat)(c i:Nat)(listed:Array Bool):Bool:=
 (Region.ready md ops listed).contains i&&(if c==2||c==3 then decide (Region.ready md ops listed = [i])&&(n.contains i==decide (3<=c))
  else Region.free md ops listed i&&(4<=c||isPure (ops.getD i default).op)&&(c==1||ordC md ops n i))
def mixRun8(md:Region.Mode)(ops:Array Oper)(n:List Nat):MT->Array Bool->Bool
 |.leaf,listed=>(Region.ready md ops listed).isEmpty
 |.one c i rest,listed=>stepB8 md ops n c i listed&&mixRun8 md ops n rest (listed.setIfInBounds i true)
 |.fork i ri j rj,listed=>(Region.ready md ops listed).all (fun k=>k==i||k==j)&&(Region.ready md ops listed).contains i && !n.contains i && !n.contains j&&decide (ri.len=rj.len) &&
   mixRun8 md ops n ri (listed.setIfInBounds i true)&&mixRun8 md ops n rj (listed.setIfInBounds j true)
 |.fork3 _ _ _ _ _ _,_=>false
def callStep(P:Program)(ops:Array Oper)(op:Oper)(K:Act->Prop)(a:Act)(w:World):Prop:=
 if Region.wanted op (yielded ops a.tmps)=true then ∃v,(∀w',Cls w.heap.size w w'->CallAt P op a w' v)/\K (a.put op.dst v)else K (a.put op.dst undef)
def MixT8(P:Program)(ops:Array Oper)(Q:Exit->Act->World->Prop)(l:List Oper):MT->Act->World->Prop
 |.leaf,a,w=>∀w',Cls w.heap.size w w'->Q .normal a w'
 |.one c i rest,a,w=>match c with
  |0=>wpQuiet P ops (Cls w.heap.size w) (fun a'=>MixT8 P ops Q l rest a' w) [l.getD i default] a
  |1=>wpQuiet P ops (fun _=>True) (fun a'=>MixT8 P ops Q l rest a' w) [l.getD i default] a
  |2=>∀w',Cls w.heap.size w w'->stepAt P ops Q l i (MixT8 P ops Q l rest) a w'
  |3=>∀w',Cls w.heap.size w w'->if Region.wanted (l.getD i default) (yielded ops a.tmps)=true then(l.getD i default).wp P a w' (MixT8 P ops Q l rest) Q else MixT8 P ops Q l rest (a.put (l.getD i default).dst undef) w'
  |_=>callStep P ops (l.getD i default) (fun a'=>MixT8 P ops Q l rest a' w) a w
 |.fork i ri j rj,a,w=>∀w',Cls w.heap.size w w'->stepAt P ops Q l i (MixT8 P ops Q l ri) a w'/\stepAt P ops Q l j (MixT8 P ops Q l rj) a w'
 |.fork3 _ _ _ _ _ _,_,_=>True
theorem Aba{l:List Oper}{n:List Nat}(hsel:Region.noSelect l.toArray=true)
  (hQ:∀(d:Option Tmp) (v:Value) c a w,Q (.panic c) (a.put d v) w->Q (.panic c) a w) :
  ∀(t:MT) (listed:Array Bool) (a:Act) (w:World),Closed md l.toArray listed->mixRun8 md l.toArray n t listed=true->MixT8 P l.toArray Q l t a w ->
   wpAnyD P md l.toArray Q n t.len listed a w
 |.leaf,listed,a,w,inv,hB,h=>⟨by simpa [mixRun8]using hB,h⟩
 |.fork3 _ _ _ _ _ _,listed,a,w,inv,hB,h=>by simp[mixRun8]at hB
 |.fork i ri j rj,listed,a,w,inv,hB,h=>by
  simp only[mixRun8,Bool.and_eq_true,decide_eq_true_eq]at hB
  obtain⟨⟨⟨⟨⟨⟨hall,hc⟩,hi⟩,hj⟩,hlen⟩,hBi⟩,hBj⟩:=hB
  show wpAnyD P md l.toArray Q n (ri.len+1) listed a w
  refine⟨fun h0=>(by rw[h0]at hc;simp at hc),fun k hk w' hw'=>?_⟩
  have hk2:=List.all_eq_true.1 hall k hk
  simp only[Bool.or_eq_true,beq_iff_eq]at hk2
  obtain⟨_,oi,hoi,_⟩:=mem_ready.1 hk
  rcases hk2 with rfl|rfl
  .exact AbV hoi (h w' hw').1 (fun a2 w2 h2=>Aba hsel hQ ri _ a2 w2 (inv.set hk) hBi h2)
  .rw[hlen]
   exact AbV hoi (h w' hw').2 (fun a2 w2 h2=>Aba hsel hQ rj _ a2 w2 (inv.set hk) hBj h2)
 |.one c i rest,listed,a,w,inv,hB,h=>by
  simp only[mixRun8,Bool.and_eq_true]at hB
  obtain⟨hcnd,h1⟩:=hB
  simp only[stepB8,Bool.and_eq_true]at hcnd
  obtain⟨hrd,hcnd⟩:=hcnd
  have hr':i∈Region.ready md l.toArray listed:=by simpa using hrd
  obtain⟨_,oi,hoi,_⟩:=mem_ready.1 hr'
  have hgd:=AcP hoi
  have hgd2:l.toArray.getD i default=oi:=by simp[Array.getD_eq_getD_getElem?,hoi]
  show wpAnyD P md l.toArray Q n (rest.len+1) listed a w
  match c,hcnd,h with
  |0,hcnd,h=>
   simp only[show((0:Nat)==2||(0:Nat)==3)=false from rfl,Bool.false_eq_true,if_false,show((0:Nat)==1)=false from rfl,show decide (4<=0)=false from rfl,Bool.false_or,Bool.and_eq_true]at hcnd
   obtain⟨⟨hfr,hpu⟩,hord⟩:=hcnd
   rw[hgd2]at hpu
   simp only[MixT8,hgd]at h
   unfold wpQuiet at h
   by_cases hw:Region.wanted oi (yielded l.toArray a.tmps)=true
   .rw[if_pos hw]at h
    obtain⟨v,hv,hq⟩:=h
    exact Abf hoi (Region.noSelect_spec hsel) (hQ _ _) _ listed a w inv (Region.free_spec hoi hfr) hr' (.inr ⟨.inl ⟨hw,fun w' hw'=>.inl (Ab5 hpu (hv w' hw'))⟩,hord⟩)
     (Aba hsel hQ rest _ _ w (inv.set hr') h1 hq)
   .rw[if_neg hw]at h
    exact Abf hoi (Region.noSelect_spec hsel) (hQ _ _) _ listed a w inv (Region.free_spec hoi hfr) hr' (.inl (.inr ⟨by simpa using hw,rfl⟩))
     (Aba hsel hQ rest _ _ w (inv.set hr') h1 h)
  |1,hcnd,h=>
   simp only[show((1:Nat)==2||(1:Nat)==3)=false from rfl,Bool.false_eq_true,if_false,show((1:Nat)==1)=true from rfl,show decide (4<=1)=false from rfl,Bool.false_or,Bool.true_or,Bool.and_true,Bool.and_eq_true]at hcnd
   obtain⟨hfr,hpu⟩:=hcnd
   rw[hgd2]at hpu
   simp only[MixT8,hgd]at h
   unfold wpQuiet at h
   by_cases hw:Region.wanted oi (yielded l.toArray a.tmps)=true
   .rw[if_pos hw]at h
    obtain⟨v,hv,hq⟩:=h
    exact Abf hoi (Region.noSelect_spec hsel) (hQ _ _) _ listed a w inv (Region.free_spec hoi hfr) hr' (.inl (.inl ⟨hw,fun w' hw'=>.inl (Ab5 hpu (hv w' hw'))⟩))
     (Aba hsel hQ rest _ _ w (inv.set hr') h1 hq)
   .rw[if_neg hw]at h
    exact Abf hoi (Region.noSelect_spec hsel) (hQ _ _) _ listed a w inv (Region.free_spec hoi hfr) hr' (.inl (.inr ⟨by simpa using hw,rfl⟩))
     (Aba hsel hQ rest _ _ w (inv.set hr') h1 h)
  |2,hcnd,hm=>
   simp only[show((2:Nat)==2||(2:Nat)==3)=true from rfl,if_true,Bool.and_eq_true,decide_eq_true_eq]at hcnd
   refine⟨fun h0=>(by rw[h0]at hr';cases hr'),fun j hj w' hw'=>?_⟩
   rw[hcnd.1]at hj
   obtain rfl:j=i:=by simpa using hj
   exact AbV hoi (hm w' hw') (fun a2 w2 h2=>Aba hsel hQ rest _ a2 w2 (inv.set hr') h1 h2)
  |3,hcnd,hm=>
   simp only[show((3:Nat)==2||(3:Nat)==3)=true from rfl,if_true,Bool.and_eq_true,decide_eq_true_eq,beq_iff_eq]at hcnd
   obtain⟨hrd2,hbad⟩:=hcnd
   have hbad2:n.contains i=true:=by rw[hbad];simp
   simp only[MixT8,hgd]at hm
   refine⟨fun h0=>(by rw[h0]at hr';cases hr'),fun j hj w' hw'=>?_⟩
   rw[hrd2]at hj
   obtain rfl:j=i:=by simpa using hj
   have hm:=hm w' hw'
   unfold Go.wpOp
   simp only[hoi]
   by_cases hw:Region.wanted oi (yielded l.toArray a.tmps)=true
   .rw[if_pos hw]at hm |-
    exact .inl (Oper.wp_mono (fun a2 w2 hh=>⟨fun hlt=>(by rw[hbad2]at hlt;cases hlt),Aba hsel hQ rest _ a2 w2 (inv.set hr') h1 hh⟩) hm)
   .rw[if_neg hw]at hm |-
    exact⟨fun hlt=>(by rw[hbad2]at hlt;cases hlt),Aba hsel hQ rest _ _ w' (inv.set hr') h1 hm⟩
  |c+4,hcnd,h=>
   have e1:((c+4==2||c+4==3):Bool)=false:=by simp
   have e2:((c+4==1):Bool)=false:=by simp
   have e3:decide (4<=c+4)=true:=by simp
   simp only[e1,Bool.false_eq_true,if_false,e2,e3,Bool.true_or,Bool.and_true,Bool.false_or,Bool.and_eq_true]at hcnd
   obtain⟨hfr,hord⟩:=hcnd
   simp only[MixT8,callStep,hgd]at h
   by_cases hw:Region.wanted oi (yielded l.toArray a.tmps)=true
   .rw[if_pos hw]at h
    obtain⟨v,hv,hq⟩:=h
    exact Abf hoi (Region.noSelect_spec hsel) (hQ _ _) _ listed a w inv (Region.free_spec hoi hfr) hr' (.inr ⟨.inl ⟨hw,fun w' hw'=>.inr (hv w' hw')⟩,hord⟩)
     (Aba hsel hQ rest _ _ w (inv.set hr') h1 hq)
   .rw[if_neg hw]at h
    exact Abf hoi (Region.noSelect_spec hsel) (hQ _ _) _ listed a w inv (Region.free_spec hoi hfr) hr' (.inl (.inr ⟨by simpa using hw,rfl⟩))
     (Aba hsel hQ rest _ _ w (inv.set hr') h1 h)
def mixB8(md:Region.Mode)(ops:Array Oper)(n:List Nat)(t:MT):Bool:=
 Region.noSelect ops&&decide (t.len=ops.size)&&mixRun8 md ops n t (Array.replicate ops.size false)
theorem Aad{id:Nat}{a:Act}{w:World}{l:List Oper}(n:List Nat)(t:MT)(hm:P.follows .mixedOrders=true)(hB:mixB8 .any l.toArray n t=true)
  (h:MixT8 P l.toArray (NoPanic Q) l t a w.drew):(Code.region id l.toArray true).wp P Q a w:=by
 refine wp_region_noPanic ?_
 simp only[mixB8,Bool.and_eq_true,decide_eq_true_eq]at hB
 obtain⟨⟨hsel,hlen⟩,hB⟩:=hB
 have inv0:Closed .any l.toArray (Array.replicate l.toArray.size false):=⟨by simp,fun j oj _ hl=>(by rw[getD_replicate_false]at hl;cases hl)⟩
 have H:=Aba (P:=P) (Q:=NoPanic Q) hsel (fun _ _ _ _ _ hh=>hh) t _ a w.drew inv0 hB h
 rw[hlen]at H
 exact wp_region_any hm (Aga _ _ _ _ H)
theorem Aa4 {op : Oper} {a : Act} {w : World} {K : Act -> Prop} {f : FuncId} {fn : Func} {args : Array Value} {v : Value} (hc : ∀ w', Cls w.heap.size w w' -> Calls P f args w' fun e w'' => e = .returned v /\ Below w'.heap.size w' w'') (hf : P.funcs[f]? = some fn) (hn : (fn.name == "runtime.NumGoroutine") = false) (hb : fn.body.isNone = false)
  {xs:Array Operand} {ts:Array TypeId} (ho:op.op=.call {callee:=.value (.func f),args:=xs,argTypes:=ts}) (hargs0:xs.toList.map a.eval=args.toList) (hw:Region.wanted op (yielded ops a.tmps)=true) (hk:K (a.put op.dst v)) :
  callStep P ops op K a w:=by
 unfold callStep
 rw[if_pos hw]
 refine⟨v,fun w' hw'=>?_,hk⟩
 have hargs:xs.map a.eval=args:=Array.ext' (by rw[Array.toList_map];exact hargs0)
 have hev:a.eval (.func f)=.func (.func f) #[] #[]:=rfl
 refine⟨f,args,?_,(hc w' hw').mono fun _ _ ⟨e,hb⟩=>⟨e,?_⟩⟩
 .unfold execOp
  simp only[ho,resolve,Sem.run_bind,Sem.run_pure,Result.andThen_ok,hargs,hev,Deferred.ofValue,invoke,Array.append_empty,Array.empty_append,AeI hf hn hb]
 .exact Below.trans (Below.refl _ _) hb
end
end
section
theorem Ajj(x:Int):IntKind.u64.wrap x=x%18446744073709551616:=by simp[IntKind.wrap,IntKind.bits,IntKind.signed]
theorem AdS{x:Int}(h0:0<=x)(h1:x<18446744073709551616):IntKind.u64.wrap x=x:=by rw[Ajj];omega
theorem AeF(x:Int)(h0:0<=x)(h1:x<18446744073709551616):(BitVec.ofInt 64 x).toNat=x.toNat:=by
 rw[BitVec.toNat_ofInt]
 have:((2 ^ 64:Nat):Int)=18446744073709551616:=rfl
 rw[this,Int.emod_eq_of_lt h0 h1]
theorem ApJ(x:Int)(k:Nat)(hk:k<=64)(h0:0<=x)(h1:x<18446744073709551616):bits .and .u64 x ((2 ^ k-1:Nat):Int)=x%((2 ^ k:Nat):Int):=by
 have hp:2 ^ k<=18446744073709551616:=by have:=Nat.pow_le_pow_right (show 0<2 by decide) hk;simpa using this
 have hpos:=Nat.two_pow_pos k
 show IntKind.u64.wrap ((BitVec.ofInt 64 x &&& BitVec.ofInt 64 ((2 ^ k-1:Nat):Int)).toNat:Int)=_
 rw[BitVec.toNat_and,AeF x h0 h1,AeF _ (by omega) (by omega),Int.toNat_natCast,Nat.and_two_pow_sub_one_eq_mod]
 obtain⟨n,rfl⟩:∃n:Nat,x=(n:Int):=⟨x.toNat,by omega⟩
 rw[Int.toNat_natCast,<-Int.natCast_emod]
 have:=Nat.mod_lt n hpos
 exact AdS (by omega) (by omega)
theorem Ahm(x:Int)(h0:0<=x)(h1:x<18446744073709551616):bits .and .u64 x 4294967295=x%4294967296:=ApJ x 32 (by decide) h0 h1
theorem AqP(m y:Int)(s:Nat)(h0:0<=m)(hy0:0<=y)(hy:y<((2 ^ s:Nat):Int))(h:m*((2 ^ s:Nat):Int)+y<18446744073709551616) :
  bits .or .u64 (m*((2 ^ s:Nat):Int)) y=m*((2 ^ s:Nat):Int)+y:=by
 show IntKind.u64.wrap ((BitVec.ofInt 64 _ ||| BitVec.ofInt 64 _).toNat:Int)=_
 have hm0:0<=m*((2 ^ s:Nat):Int):=Int.mul_nonneg h0 (by omega)
 rw[BitVec.toNat_or,AeF _ hm0 (by omega),AeF _ hy0 (by omega)]
 obtain⟨n,rfl⟩:∃n:Nat,m=(n:Int):=⟨m.toNat,by omega⟩
 obtain⟨z,rfl⟩:∃z:Nat,y=(z:Int):=⟨y.toNat,by omega⟩
 have hz:z<2 ^ s:=by omega
 rw[<-Int.natCast_mul]at *
 rw[Int.toNat_natCast,Int.toNat_natCast,<-Nat.shiftLeft_eq,<-Nat.shiftLeft_add_eq_or_of_lt hz,Nat.shiftLeft_eq,<-Int.natCast_add]
 exact AdS (by omega) (by omega)
open Go.Lib
theorem AdN:∀(f x:Nat),x<2 ^ f->x<2 ^ bitLenAux f x
 |0,x,h=>by simpa [bitLenAux]using h
 |f+1,x,h=>by
  simp only[bitLenAux]
  split
  .rename_i hx;subst hx;simp
  .have:=AdN f (x / 2) (by rw[Nat.pow_succ]at h;omega)
   rw[Nat.pow_add]
   omega
theorem Aeb:∀(f x:Nat),x<2 ^ f->x≠0->2 ^ (bitLenAux f x-1)<=x
 |0,x,h,h0=>by simp at h;omega
 |f+1,x,h,h0=>by
  simp only[bitLenAux,if_neg h0]
  by_cases h2:x / 2=0
  .rw[h2];cases f<;>simp[bitLenAux]<;>omega
  .have h3:=Aeb f (x / 2) (by rw[Nat.pow_succ]at h;omega) h2
   have h4:0<bitLenAux f (x / 2):=by
    rcases Nat.eq_zero_or_pos (bitLenAux f (x / 2))with h5|h5
    .have:=AdN f (x / 2) (by rw[Nat.pow_succ]at h;omega)
     rw[h5]at this;simp at this;omega
    .exact h5
   obtain⟨k,hk⟩:∃k,bitLenAux f (x / 2)=k+1:=⟨_,(Nat.succ_pred_eq_of_pos h4).symm⟩
   rw[hk]at h3 |-
   have e:1+(k+1)-1=k+1:=by omega
   rw[e,Nat.pow_succ]
   have e2:k+1-1=k:=by omega
   rw[e2]at h3
   omega
theorem AlC(y:Int)(h0:0<y)(h1:y<=18446744073709551615):∃s:Nat,(64-(Lib.bitLen y.toNat:Int))=(s:Int)/\s<=63/\9223372036854775808<=y*2 ^ s/\y*2 ^ s<18446744073709551616:=by
 obtain⟨n,rfl⟩:∃n:Nat,y=(n:Int):=⟨y.toNat,by omega⟩
 rw[Int.toNat_natCast]
 have hn:n<2 ^ 64:=by omega
 have hl:=Lib.bitLen_le n 64 (by decide) hn
 have hp:=AdN 64 n hn
 have hq:=Aeb 64 n hn (by omega)
 have hb:0<Lib.bitLen n:=by
  rcases Nat.eq_zero_or_pos (Lib.bitLen n)with h5|h5
  .unfold Lib.bitLen at h5;rw[h5]at hp;simp at hp;omega
  .exact h5
 change n<2 ^ Lib.bitLen n at hp
 change 2 ^ (Lib.bitLen n-1)<=n at hq
 generalize Lib.bitLen n=b at *
 refine⟨64-b,by omega,by omega,?_,?_⟩
 .have e:2 ^ (b-1)*2 ^ (64-b)=2 ^ 63:=by rw[<-Nat.pow_add];congr 1;omega
  have:=Nat.mul_le_mul_right (2 ^ (64-b)) hq
  rw[e]at this
  have h:=Int.ofNat_le.2 this
  rw[Int.natCast_mul,Int.natCast_pow]at h
  exact h
 .have e:2 ^ b*2 ^ (64-b)=2 ^ 64:=by rw[<-Nat.pow_add];congr 1;omega
  have:=Nat.mul_lt_mul_of_pos_right hp (Nat.two_pow_pos (64-b))
  rw[e]at this
  have h:=Int.ofNat_lt.2 this
  rw[Int.natCast_mul,Int.natCast_pow]at h
  exact h
theorem AqD(n:Int)(m:Nat)(hm:m<9223372036854775808):bits .and .i64 n (m:Int)=(((BitVec.ofInt 64 n).toNat &&& m:Nat):Int):=by
 have h2:(BitVec.ofInt 64 (m:Int)).toNat=m:=by simp[BitVec.toNat_ofInt];omega
 have hle:((BitVec.ofInt 64 n).toNat &&& m)<=m:=Nat.and_le_right
 show IntKind.i64.wrap ((BitVec.ofInt 64 n &&& BitVec.ofInt 64 (m:Int)).toNat:Int)=_
 rw[BitVec.toNat_and,h2]
 generalize(BitVec.ofInt 64 n).toNat &&& m=x at *
 have h:(-9223372036854775808:Int)<=(x:Int)/\(x:Int)<9223372036854775808:=by omega
 simp[IntKind.wrap,IntKind.bits,IntKind.signed]<;>omega
theorem Ahf(n:Int)(k:Nat)(hk:k<=63):bits .and .i64 n ((2 ^ k-1:Nat):Int)=n%(2 ^ k:Nat):=by
 have h1:2 ^ k<=9223372036854775808:=by have:=Nat.pow_le_pow_right (show 0<2 by decide) hk;simpa using this
 have hp:=Nat.two_pow_pos k
 rw[AqD n _ (by omega),Nat.and_two_pow_sub_one_eq_mod,BitVec.toNat_ofInt]
 have hd:((2 ^ k:Nat):Int) ∣ ((2 ^ 64:Nat):Int):=by exact_mod_cast Nat.pow_dvd_pow 2 (by omega)
 have h0:0<=n%((2 ^ 64:Nat):Int):=Int.emod_nonneg _ (by decide)
 rw[Int.natCast_emod,Int.toNat_of_nonneg h0,Int.emod_emod_of_dvd _ hd]
theorem AnT(n:Int):bits .and .i64 n 65535=n%65536:=Ahf n 16 (by decide)
end
section
open Go.RowKit
theorem cells_root{l:List Int}(h:l.length=32):Tryz.prog.cellsOf 29=(ints .u8 l).length:=by rw[ints,List.length_map,h];kernel_rfl
abbrev Vt:=Bool × Int × List Int
def vc(v:Vt):List Value:=.bool v.1 :: .int .u64 v.2.1::ints .u8 v.2.2
def VL(vs:List Vt):Prop:=∀v∈vs,v.2.2.length=32
def zv:Vt:=(false,0,zroot)
theorem vc_len{v:Vt}(h:v.2.2.length=32):(vc v).length=34:=by simp[vc,ints,h]
theorem vc_one(v:Vt):∀u∈vc v,u.oneCell'=true:=fun u hu=>by
 simp only[vc,List.mem_cons]at hu
 rcases hu with rfl|rfl|hu
 .rfl
 .rfl
 .exact one_ints _ _ u hu
def Tab(w:World)(g h:Nat)(vs:List Vt):Prop:=Has w g [.slice (some ⟨h,0,none⟩) vs.length vs.length]/\Has w h (vs.flatMap vc)/\VL vs/\g≠h
theorem Tab.below{B:Nat}{w w':World}{g h:Nat}{vs:List Vt}(t:Tab w g h vs)(hb:Below B w w')(hg:g<B)(hh:h<B):Tab w' g h vs:=⟨t.1.below hb hg,t.2.1.below hb hh,t.2.2⟩
theorem cells_vote{v:Vt}(h:v.2.2.length=32):Tryz.prog.cellsOf 172=(vc v).length:=by rw[vc_len h];kernel_rfl
end
section
open Go.RowKit Go.Maps
def Bt(r:List Int):Prop:=∀x∈r,0<=x/\x<256
abbrev Ck:=Int × List Int
def ckc(c:Ck):List Value:=.int .u64 c.1::ints .u8 c.2
structure CkOk(c:Ck):Prop where
 e0:0<=c.1
 e1:c.1<18446744073709551616
 r:c.2.length=32
 b:Bt c.2
theorem Am7{c:Ck}(h:c.2.length=32):(ckc c).length=33:=by simp[ckc,ints,h]
theorem cellsOf_u8:Tryz.prog.cellsOf 5=1:=by kernel_rfl
theorem cellsOf_root:Tryz.prog.cellsOf 29=32:=by kernel_rfl
theorem mapM_some{α β:Type}{f:α->Option β}{g:α->β}:∀l:List α,(∀x∈l,f x=some (g x))->l.mapM f=some (l.map g)
 |[],_=>rfl
 |x::l,h=>by
  rw[List.mapM_cons,h x (by simp),mapM_some l (fun y hy=>h y (by simp[hy]))];rfl
theorem range_getD(l:List Int):(List.range l.length).map (fun i=>l.getD i 0)=l:=by
 apply List.ext_getElem
 .simp
 .intro i h1 h2
  simp[List.getD,List.getElem?_eq_getElem h2]
theorem wf_u8{x:Int}(h:0<=x/\x<256):(Lit.int .u8 x).wf=true:=by
 simp only[Lit.wf,Bool.and_eq_true,decide_eq_true_eq]
 exact⟨h.1,Int.le_of_lt_add_one h.2⟩
def kc(c:Ck):Lit:=.string (keyBytes (.int .u64 c.1::c.2.map (Lit.int .u8)))
def heldR(v:Value):Option (DataW Value × List MemPlace):=some (.held v,[])
end
end Go.Proofs.YtpaihpeoiliioaaGreat
