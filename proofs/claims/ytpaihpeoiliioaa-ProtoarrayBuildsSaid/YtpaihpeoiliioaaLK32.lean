/- Texts joined: what the walks of this claim stand on (part 32). -/
import Derived.Test.YtpaihpeoiliioaaLK27
import Derived.Test.YtpaihpeoiliioaaLK28
import Derived.Test.YtpaihpeoiliioaaLK30
import Derived.Test.YtpaihpeoiliioaaLK31
set_option linter.all false
set_option maxRecDepth 20000
set_option maxHeartbeats 40000000
namespace Go.Proofs.Ytpaihpeoiliioaa
open Go.RowKit Old
abbrev clL:List Nat:=[1,1,32,1]
abbrev slL:List Nat:=[1,1,32,1,1,1,32,1]
def SomG(Γ:Gam)(n:Nat)(w:World)(e:Ending)(w':World):Prop:=∃(s:Sl) (l:List Int) (Γ':Gam),e=.returned s.v/\SlR Γ' s l.length (ints .i64 l)/\l.length<=n+1/\Ext Γ w Γ' w'
def SlaP' (Γ:Gam)(w:World)(e:Ending)(w':World):Prop:=∃(x:Slh) (s t:Sl) (Γ':Gam),e=.returned (.agg (fl (slP x s t)).toArray)/\SlG2 Γ' x s t/\x.a.l.length<=100/\x.b.l.length<=100/\Ext Γ w Γ' w'
def u1':U:=⟨1,by decide⟩
def u2':U:=⟨2,by decide⟩
def u4':U:=⟨4,by decide⟩
def u5':U:=⟨5,by decide⟩
def u6':U:=⟨6,by decide⟩
theorem MM.regr{Γ0 Γ:Gam}{w0 w:World}{L:List Ent}{R:List RowE}{g:Nat}{P P':List (List Value)}{ls ls':List Nat}(M:MM Γ0 w0 Γ w (⟨g,P,ls⟩::L) R)(h:fl P'=fl P)(hl:P'.map List.length=ls'):MM Γ0 w0 Γ w (⟨g,P',ls'⟩::L) R where
 ext:=M.ext
 has:=fun p hp=>by
  rcases List.mem_cons.1 hp with rfl|hp
  .show Has w g (fl P')
   rw[h];exact M.has ⟨g,P,ls⟩ (by simp)
  .exact M.has p (by simp[hp])
 len:=fun p hp=>by
  rcases List.mem_cons.1 hp with rfl|hp
  .exact hl
  .exact M.len p (by simp[hp])
 off:=fun p hp=>by
  rcases List.mem_cons.1 hp with rfl|hp
  .exact M.off ⟨g,P,ls⟩ (by simp)
  .exact M.off p (by simp[hp])
 lo:=fun p hp=>by
  rcases List.mem_cons.1 hp with rfl|hp
  .exact M.lo ⟨g,P,ls⟩ (by simp)
  .exact M.lo p (by simp[hp])
 nd:=by
  have:=M.nd
  rw[List.pairwise_cons]at this |-
  exact⟨fun q hq=>this.1 q hq,this.2⟩
 rows:=M.rows
 roff:=fun r hr g' hg=>by
  have:=M.roff r hr g' hg
  refine⟨this.1,fun p hp=>?_⟩
  rcases List.mem_cons.1 hp with rfl|hp
  .exact this.2 ⟨g,P,ls⟩ (by simp)
  .exact this.2 p (by simp[hp])
 rnd:=M.rnd
abbrev tbL:List Nat:=[1,32,1]
abbrev tbN(c:Cp):List (List Value):=tbP c (.slice none 0 0)
theorem Ak9:StrT Try.prog 91 [(0,33),(33,1)] (tbN cp0) tbL:=Aa3 Try.underlying91 (by kernel_rfl) (by kernel_rfl) (Aao _ _)
theorem Alv(c:Cp):Try.prog.built 91 [(0,.agg (fl (cpP c)).toArray)]=some (fl (tbN c)).toArray:=by
 rw[Ak9.eq]
 refine AaD (Q:=cpP c) Ak9.len rfl rfl rfl (AaO _) rfl fun hl=>?_
 rfl
def TblP(Γ:Gam)(w:World)(e:Ending)(w':World):Prop:=∃(t:Tbl) (sl:Sl) (Γ':Gam),e=.returned (.agg (fl (tbP t.c sl.v)).toArray)/\SlR Γ' sl t.b.length (us t.b)/\t.b.length<=100/\Ext Γ w Γ' w'
structure OpK(Γ:Gam)(o:OpD)(x:OpS):Prop where
 kind:1<=o.kind/\o.kind<=6
 a:SlR Γ x.a o.a.l.length (ints .i64 o.a.l)
 s1:SlR Γ x.s1 o.s.a.l.length (ints .i64 o.s.a.l)
 s2:SlR Γ x.s2 o.s.b.l.length (ints .i64 o.s.b.l)
 t:SlR Γ x.t o.t.b.length (us o.t.b)
 la:o.a.l.length<=100
 l1:o.s.a.l.length<=100
 l2:o.s.b.l.length<=100
 lt:o.t.b.length<=100
theorem OpK.mono{Γ Γ':Gam}{o:OpD}{x:OpS}(h:OpK Γ o x)(hl:Le Γ Γ'):OpK Γ' o x:=⟨h.kind,h.a.mono hl,h.s1.mono hl,h.s2.mono hl,h.t.mono hl,h.la,h.l1,h.l2,h.lt⟩
theorem AgG{Γ:Gam}{s:Sl}{n:Nat}{xs:List Value}(h:SlR Γ s n xs)(hn:n<=4000):∃A c,s=⟨A,n,c⟩/\SlG Γ A n xs/\n<=4000:=by
 obtain⟨A,m,c⟩:=s
 obtain rfl:m=n:=h.n
 exact⟨A,c,rfl,h.sl,hn⟩
theorem OpK.r{Γ:Gam}{o:OpD}{x:OpS}(h:OpK Γ o x):OpR Γ o x:=⟨AgG h.a (by have:=h.la;omega),AgG h.s1 (by have:=h.l1;omega),AgG h.s2 (by have:=h.l2;omega),AgG h.t (by have:=h.lt;omega)⟩
theorem VerP.mono{Γ:Gam}{w:World}{k k':Nat}{e:Ending}{w':World}(h:VerP Γ w k e w')(hk:k<=k'):VerP Γ w k' e w':=by
 obtain⟨z',x',Γ',er,h1,h2,h3,h4⟩:=h
 exact⟨z',x',Γ',er,h1,h2,fun h=>(h3 h).more hk,h4⟩
theorem VerP.mk{Γ Γ':Gam}{w w':World}{k:Nat}(z':Zst)(x':Zls)(er:Int)(h:ZsG Γ' x' z')(h1:er=0\/er=21->ZI k z')(hx:Ext Γ w Γ' w'):VerP Γ w k (.returned (.tuple #[.agg (fl (zsP z' x')).toArray,.int .i64 er])) w':=⟨z',x',Γ',er,rfl,h,h1,hx⟩
theorem ZsG.sto{Γ Γ':Gam}{x:Zls}{z:Zst}(h:ZsG Γ x z)(hl:Le Γ Γ'){s:Sto}{v:Sls}(hs:StG Γ' v s):ZsG Γ' {x with s:=v} {z with s:=s}:=⟨hs,h.reqs.mono hl,h.rets.mono hl⟩
def StoO(Γ:Gam)(w:World)(k:Nat)(e:Ending)(w':World):Prop:=∃(er:Int) (s':Sto) (v':Sls) (Γ':Gam),e=.returned (.tuple #[.agg (fl (stP s' v')).toArray,.int .i64 er])/\StG Γ' v' s'/\Ext Γ w Γ' w'/\(er=0->SI k s')/\er≠21
theorem StoO.of{Γ:Gam}{w:World}{k:Nat}{er:Int}{s':Sto}{e:Ending}{w':World}(h:StE Γ w er s' e w')(h0:er=0->SI k s')(h1:er≠21):StoO Γ w k e w':=by
 obtain⟨v,Γ',h2,h3,h4⟩:=h
 exact⟨er,s',v,Γ',h2,h3,h4,h0,h1⟩
theorem AgE(b:List U)(v:Int):tbE b v≠21:=by
 unfold tbE valE
 split
 .split<;>decide
 .decide
theorem Ahf(T:List Tbl)(t:Tbl)(v lim:Int):(regM T t v lim).1≠21:=by
 unfold regM
 split
 .exact AgE _ _
 .split
  .exact(by decide:(9:Int)≠21)
  .split
   .exact(by decide:(11:Int)≠21)
   .exact(by decide:(0:Int)≠21)
theorem AmC(s:Sto)(t:Tbl):(regS s t).1≠21:=by
 unfold regS
 split
 .exact AgE _ _
 .split
  .exact(by decide:(13:Int)≠21)
  .split
   .exact Ahf _ _ _ _
   .exact(by decide:(0:Int)≠21)
abbrev opB(b:Blk):OpD:={op0 2 with b:=b}
abbrev opA(a:Att):OpD:={op0 3 with a:=a}
abbrev opSl(s:Slh):OpD:={op0 4 with s:=s}
abbrev opT(t:Tbl):OpD:={op0 5 with t:=t}
abbrev opV(v:Vd):OpD:={op0 6 with v:=v}
theorem opK0(Γ:Gam){k:Int}(hk:1<=k/\k<=6):OpK Γ (op0 k) os0:=⟨hk,slR0 Γ,slR0 Γ,slR0 Γ,slR0 Γ,Nat.zero_le _,Nat.zero_le _,Nat.zero_le _,Nat.zero_le _⟩
def OppP(Γ:Gam)(w:World)(e:Ending)(w':World):Prop:=∃(o:OpD) (y:OpS) (Γ':Gam),e=.returned (.agg (fl (opP o y)).toArray)/\OpK Γ' o y/\Ext Γ w Γ' w'
theorem StpP.nil{Γ Γ':Gam}{w w':World}{k:Nat}(z':Zst)(x':Zls)(er:Int)(h:ZsG Γ' x' z')(h1:ZI k z')(hx:Ext Γ w Γ' w'):StpP Γ w k (.returned (.tuple #[.agg (fl (zsP z' x')).toArray,.slice Option.none 0 0,.int .i64 er])) w':=
 ⟨z',x',Γ',Option.none,0,0,[],er,rfl,rfl,⟨Nat.le_refl _,Nat.zero_le _,fun _=>rfl⟩,fun h=>absurd h (Nat.lt_irrefl _),h,h1,hx⟩
abbrev opx(o:OpD × OpS):List Value:=fl (opP o.1 o.2)
theorem Aj9{Pg:Program}{w:World}{fn:Func}{p q r:Tmp}{ty ty2:TypeId}(h:fn.results = #[.cell p ty,.tmp q,.cell r ty2])(tmps:Array Value){g n g2 n2:Nat}{P P2:List (List Value)}{ls ls2:List Nat}(H:HL w g P ls)(hp:tmps.getD p undef=.pointer (some ⟨g,0,none⟩))(rt:RowT Pg ty n)(hn:ls.sum=n)
  (H2:HL w g2 P2 ls2) (hp2:tmps.getD r undef=.pointer (some ⟨g2,0,none⟩)) (rt2:RowT Pg ty2 n2) (hn2:ls2.sum=n2) :
  (results fn tmps).run Pg w=.ok (.tuple #[.agg (fl P).toArray,tmps.getD q undef,.agg (fl P2).toArray]) w:=by
 obtain⟨d,hu,hd⟩:=rt.ex
 obtain⟨d2,hu2,hd2⟩:=rt2.ex
 have hp':tmps[p]?.getD undef=.pointer (some ⟨g,0,none⟩):=by simpa using hp
 have hp2':tmps[r]?.getD undef=.pointer (some ⟨g2,0,none⟩):=by simpa using hp2
 have h1:=Aa6 (P:=Pg) (g:=g) H.has hu (by cases d<;>first|rfl|cases hd) (by rw[rt.n,AaX H.len,hn])
 have h2:=Aa6 (P:=Pg) (g:=g2) H2.has hu2 (by cases d2<;>first|rfl|cases hd2) (by rw[rt2.n,AaX H2.len,hn2])
 simp[results,h,hp',hp2',asAddr,h1,h2]
structure RunG(Γ:Gam)(cf:Cf)(sb:Sl)(bal:List U)(so:Sl)(ops:List (OpD × OpS))(x:Zls)(z:Zst):Prop where
 cb:CfB cf bal
 sb:SlR Γ sb bal.length (us bal)
 kps:∀o∈ops,OpK Γ o.1 o.2
 so:SlR Γ so ops.length (ops.flatMap opx)
 no:ops.length<=24
 zi:ZI 24 z
 zg:ZsG Γ x z
def RunP(Γ:Gam)(w:World)(e:Ending)(w':World):Prop:=∃(cf:Cf) (sb:Sl) (bal:List U) (so:Sl) (ops:List (OpD × OpS)) (x:Zls) (z:Zst) (Γ':Gam),e=.returned (.tuple #[.agg (fl (cfP cf sb)).toArray,so.v,.agg (fl (zsP z x)).toArray])/\RunG Γ' cf sb bal so ops x z/\Ext Γ w Γ' w'
def StaP(Γ:Gam)(w:World)(e:Ending)(w':World):Prop:=∃(x:Zls) (z:Zst) (Γ':Gam),e=.returned (.agg (fl (zsP z x)).toArray)/\ZI 24 z/\ZsG Γ' x z/\Ext Γ w Γ' w'
end Go.Proofs.Ytpaihpeoiliioaa
