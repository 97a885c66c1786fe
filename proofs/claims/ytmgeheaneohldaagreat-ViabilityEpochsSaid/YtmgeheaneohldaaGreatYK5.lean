/- Texts joined: what the walks of this claim stand on (part 5 of 43). -/
import Derived.Test.YtmgeheaneohldaaGreatYK3
set_option linter.all false
set_option maxRecDepth 20000
set_option maxHeartbeats 40000000
namespace Go.Proofs.YtmgeheaneohldaaGreat
open Go.RowKit Go.Proofs.YtmgeheaneohldaaGreat.Old
def ordrd(s:Sto)(b:Blk):Bool:=decide (b.fin.e.n<=b.just.e.n/\b.just.e.n<=b.pj.e.n/\b.fin.e.n<=b.pf.e.n/\b.pf.e.n<=b.pj.e.n/\b.pj.e.n<=(epN b.slot s.c.spe).n)
theorem AhN(Γ:Gam)(s:Sto)(v:Sls)(b:Blk)(hs:0<s.c.spe.n)(w:World)(ok:Ok Γ w) :
  Calls Tryz.prog 186 #[.agg (fl (stP s v)).toArray,.agg (blx b).toArray] w fun en w'=>en=.returned (.bool (ordrd s b))/\Ext Γ w Γ w':=by
 have M:=bx (MM.start ok)
 have EP:=bx (fun w ok=>Aar Γ s v b.slot hs w ok)
 have HD:Bx (ordrd s b=decide (b.fin.e.n<=b.just.e.n/\b.just.e.n<=b.pj.e.n/\b.fin.e.n<=b.pf.e.n/\b.pf.e.n<=b.pj.e.n/\b.pj.e.n<=(epN b.slot s.c.spe).n)):=⟨rfl⟩
 clear ok hs
 generalize ordrd s b=r at *
 generalize epN b.slot s.c.spe=u at *
 by_cases h1:b.fin.e.n<=b.just.e.n
 .have i1:(b.fin.e.n:Int)<=(b.just.e.n:Int):=by omega
  by_cases h2:b.just.e.n<=b.pj.e.n
  .have i2:(b.just.e.n:Int)<=(b.pj.e.n:Int):=by omega
   by_cases h3:b.fin.e.n<=b.pf.e.n
   .have i3:(b.fin.e.n:Int)<=(b.pf.e.n:Int):=by omega
    by_cases h4:b.pf.e.n<=b.pj.e.n
    .have i4:(b.pf.e.n:Int)<=(b.pj.e.n:Int):=by omega
     by_cases h5:b.pj.e.n<=u.n
     .have i5:(b.pj.e.n:Int)<=(u.n:Int):=by omega
      replace HD:=bx (HD.out.trans (decide_eq_true ⟨h1,h2,h3,h4,h5⟩))
      go_enter Tryz.func186,Tryz.ntmps186;(go_wp2_with (first|go_skip|(refine zBXo ?_;clear M;intro w' g M)|refine zLAo ?_));(refine zQXo ?_;clear M;intro w4 M);(go_wp2_with (first|go_skip|(refine zBXo ?_;clear M;intro w' g M)|refine zLAo ?_))
      refine zCA M (EP.out _ M.ok) ?_;clear M;intro w1 M
      (go_wp2_with (first|go_skip|(refine zBXo ?_;clear M;intro w' g M)|refine zLAo ?_))
      go_ret;exact⟨by rw[HD.out];rfl,M.out.ext⟩
     .have i5:(u.n:Int)<(b.pj.e.n:Int):=by omega
      replace HD:=bx (HD.out.trans (decide_eq_false (fun h=>h5 h.2.2.2.2)))
      go_enter Tryz.func186,Tryz.ntmps186;(go_wp2_with (first|go_skip|(refine zBXo ?_;clear M;intro w' g M)|refine zLAo ?_));(refine zQXo ?_;clear M;intro w4 M);(go_wp2_with (first|go_skip|(refine zBXo ?_;clear M;intro w' g M)|refine zLAo ?_))
      refine zCA M (EP.out _ M.ok) ?_;clear M;intro w1 M
      (go_wp2_with (first|go_skip|(refine zBXo ?_;clear M;intro w' g M)|refine zLAo ?_))
      go_ret;exact⟨by rw[HD.out];rfl,M.out.ext⟩
    .have i4:(b.pj.e.n:Int)<(b.pf.e.n:Int):=by omega
     replace HD:=bx (HD.out.trans (decide_eq_false (fun h=>h4 h.2.2.2.1)))
     go_enter Tryz.func186,Tryz.ntmps186;(go_wp2_with (first|go_skip|(refine zBXo ?_;clear M;intro w' g M)|refine zLAo ?_));(refine zQXo ?_;clear M;intro w4 M);(go_wp2_with (first|go_skip|(refine zBXo ?_;clear M;intro w' g M)|refine zLAo ?_))
     go_ret;exact⟨by rw[HD.out];rfl,M.out.ext⟩
   .have i3:(b.pf.e.n:Int)<(b.fin.e.n:Int):=by omega
    replace HD:=bx (HD.out.trans (decide_eq_false (fun h=>h3 h.2.2.1)))
    go_enter Tryz.func186,Tryz.ntmps186;(go_wp2_with (first|go_skip|(refine zBXo ?_;clear M;intro w' g M)|refine zLAo ?_));(refine zQXo ?_;clear M;intro w4 M);(go_wp2_with (first|go_skip|(refine zBXo ?_;clear M;intro w' g M)|refine zLAo ?_))
    go_ret;exact⟨by rw[HD.out];rfl,M.out.ext⟩
  .have i2:(b.pj.e.n:Int)<(b.just.e.n:Int):=by omega
   replace HD:=bx (HD.out.trans (decide_eq_false (fun h=>h2 h.2.1)))
   go_enter Tryz.func186,Tryz.ntmps186;(go_wp2_with (first|go_skip|(refine zBXo ?_;clear M;intro w' g M)|refine zLAo ?_));(refine zQXo ?_;clear M;intro w4 M);(go_wp2_with (first|go_skip|(refine zBXo ?_;clear M;intro w' g M)|refine zLAo ?_))
   go_ret;exact⟨by rw[HD.out];rfl,M.out.ext⟩
 .have i1:(b.just.e.n:Int)<(b.fin.e.n:Int):=by omega
  replace HD:=bx (HD.out.trans (decide_eq_false (fun h=>h1 h.1)))
  go_enter Tryz.func186,Tryz.ntmps186;(go_wp2_with (first|go_skip|(refine zBXo ?_;clear M;intro w' g M)|refine zLAo ?_));(refine zQXo ?_;clear M;intro w4 M);(go_wp2_with (first|go_skip|(refine zBXo ?_;clear M;intro w' g M)|refine zLAo ?_))
  go_ret;exact⟨by rw[HD.out];rfl,M.out.ext⟩
def Sto.known(s:Sto)(r:Rt):Bool:=s.orph.any (fun b=>decide (b.root=r))||decide (0<=fndI s.nodes r)
theorem AhQ(Γ:Gam)(s:Sto)(v:Sls)(r:Rt)(w:World)(ok:Ok Γ w)(h:StG Γ v s)(hb:s.orph.length<=65535) :
  Calls Tryz.prog 171 #[.agg (fl (stP s v)).toArray,.agg (rc r).toArray] w fun en w'=>en=.returned (.bool (s.known r))/\Ext Γ w Γ w':=by
 have M:=bx (MM.start ok)
 have FI:=bx (fun w ok=>AaT Γ v.nodes s.nodes r w ok h.nodes)
 have LN:=bx h.orph.n
 have HG:=bx h
 have HD:Bx (s.known r=(s.orph.any (fun b=>decide (b.root=r))||decide (0<=fndI s.nodes r))):=⟨rfl⟩
 clear ok h
 generalize s.known r=res at *
 change Calls Tryz.prog _ #[_,.agg (fl [rc r]).toArray] _ _
 go_enter Tryz.func171,Tryz.ntmps171
 (go_wp2_with (first|go_skip|(refine zBXo ?_;clear M;intro w' g M)|refine zLAo ?_))
 rename_i gs _ _
 go_loopw [5] (fun j wr=>∃k:Nat,k<=s.orph.length/\j=.int .i64 k/\(∀j (hj:j<s.orph.length),j<k->s.orph[j].root≠r)/\MM Γ w Γ wr [⟨g,[rc r],[32]⟩,⟨gs,stP s v,stL⟩] []) (fun j _=>s.orph.length-(intOf j).toNat)
 case atStart=>exact⟨0,Nat.zero_le _,rfl,fun j _ hj=>absurd hj (Nat.not_lt_zero _),M.out⟩
 case round=>
  obtain⟨k,hk,rfl,hno,hM⟩:=hrel
  clear M
  have M:=bx hM
  have HNO:=bx hno
  clear hM hno
  by_cases hkn:k<s.orph.length
  .obtain⟨gn,hA,hf⟩:=HG.out.orphAt k hkn
   have HA:=bx hA
   have F1:=bx hf
   have hki:(k:Int)<(v.orph.n:Int):=by rw[LN.out];omega
   have hk0:0<=(k:Int):=by omega
   have NX:=bx (fun(e:s.orph[k].root≠r) j (hj:j<s.orph.length) (hjk:j<k+1)=>(Nat.lt_or_eq_of_le (Nat.le_of_lt_succ hjk)).elim (HNO.out j hj) (fun h=>by subst h;exact e))
   have YS:=bx (fun(e:s.orph[k].root=r)=>(show s.orph.any (fun b=>decide (b.root=r))=true from List.any_eq_true.2 ⟨_,List.getElem_mem hkn,decide_eq_true e⟩))
   clear hA hf
   have hq:=AbC s.orph[k].root r
   generalize s.orph[k]=y at *
   by_cases hz:y.root=r
   .rw[decide_eq_true hz]at hq
    have HR:Bx (res=true):=⟨by rw[HD.out,YS.out hz];rfl⟩
    clear NX YS hz
    (go_wp2_with (first|go_skip|(refine zBXo ?_;clear M;intro w' g M)|refine zLAo ?_))
    refine zRG ?_;(repeat(first|go_big_quiet_skip|(go_big_quiet_want;first|(refine zQHo HA ?_;go_big_quiet_on;refine zNM ?_)|(refine zQFo F1 ?_;go_big_quiet_on;refine zNM ?_)|(refine zQAo ?_;go_big_quiet_on;refine zNM ?_)|(refine zQO ?_;go_big_quiet_on))));(refine zQN ?_;clear M;intro w4 M)
    (go_wp2_with (first|go_skip|(refine zBXo ?_;clear M;intro w' g M)|refine zLAo ?_))
    go_ret
    exact⟨by rw[HR.out];rfl,M.out.ext⟩
   .rw[decide_eq_false hz]at hq
    have NX':=bx (NX.out hz)
    clear NX YS hz
    (go_wp2_with (first|go_skip|(refine zBXo ?_;clear M;intro w' g M)|refine zLAo ?_))
    refine zRG ?_;(repeat(first|go_big_quiet_skip|(go_big_quiet_want;first|(refine zQHo HA ?_;go_big_quiet_on;refine zNM ?_)|(refine zQFo F1 ?_;go_big_quiet_on;refine zNM ?_)|(refine zQAo ?_;go_big_quiet_on;refine zNM ?_)|(refine zQO ?_;go_big_quiet_on))));(refine zQN ?_;clear M;intro w4 M)
    (go_wp2_with (first|go_skip|(refine zBXo ?_;clear M;intro w' g M)|refine zLAo ?_))
    go_roundw
    case rel=>exact⟨k+1,by omega,by go_num,NX'.out,M.out⟩
    case measure=>simp[intOf]<;>omega
  .have hki:(v.orph.n:Int)<=(k:Int):=by rw[LN.out];omega
   have HR:Bx (res=decide (0<=fndI s.nodes r)):=⟨by
    rw[HD.out,List.any_eq_false.2 fun x hx=>by
     obtain⟨j,hj,rfl⟩:=List.getElem_of_mem hx
     simpa using HNO.out j hj (by omega)]
    rfl⟩
   generalize fndI s.nodes r=f at *
   (go_wp2_with (first|go_skip|(refine zBXo ?_;clear M;intro w' g M)|refine zLAo ?_))
   refine zCA M (FI.out _ M.ok) ?_;clear M;intro w1 M
   (go_wp2_with (first|go_skip|(refine zBXo ?_;clear M;intro w' g M)|refine zLAo ?_))
   go_ret
   exact⟨by rw[HR.out];rfl,M.out.ext⟩
def Sto.wait(s:Sto):Int:=idxI (fun b=>decide (0<=fndI s.nodes b.parent)) s.orph
theorem AdO(Γ:Gam)(s:Sto)(v:Sls)(w:World)(ok:Ok Γ w)(h:StG Γ v s)(hb:s.orph.length<=65535) :
  Calls Tryz.prog 147 #[.agg (fl (stP s v)).toArray] w fun en w'=>en=.returned (.int .i64 s.wait)/\Ext Γ w Γ w':=by
 have M:=bx (MM.start ok)
 have FI:=bx (fun r w ok=>AaT Γ v.nodes s.nodes r w ok h.nodes)
 have LN:=bx h.orph.n
 have HG:=bx h
 have HD:Bx (s.wait=idxI (fun b=>decide (0<=fndI s.nodes b.parent)) s.orph):=⟨rfl⟩
 clear ok h
 generalize s.wait=res at *
 go_enter Tryz.func147,Tryz.ntmps147
 (go_wp2_with (first|go_skip|(refine zBXo ?_;clear M;intro w' g M)|refine zLAo ?_))
 go_loopw [3] (fun j wr=>∃k:Nat,k<=s.orph.length/\j=.int .i64 k/\(∀j (hj:j<s.orph.length),j<k->decide (0<=fndI s.nodes s.orph[j].parent)=false)/\MM Γ w Γ wr [⟨g,stP s v,stL⟩] []) (fun j _=>s.orph.length-(intOf j).toNat)
 case atStart=>exact⟨0,Nat.zero_le _,rfl,fun j _ hj=>absurd hj (Nat.not_lt_zero _),M.out⟩
 case round=>
  obtain⟨k,hk,rfl,hno,hM⟩:=hrel
  clear M
  have M:=bx hM
  have HNO:=bx hno
  clear hM hno
  by_cases hkn:k<s.orph.length
  .obtain⟨gn,hA,hf⟩:=HG.out.orphAt k hkn
   have HA:=bx hA
   have F1:=bx hf
   have hki:(k:Int)<(v.orph.n:Int):=by rw[LN.out];omega
   have hk0:0<=(k:Int):=by omega
   have NX:=bx (fun(e:decide (0<=fndI s.nodes s.orph[k].parent)=false) j (hj:j<s.orph.length) (hjk:j<k+1)=>(Nat.lt_or_eq_of_le (Nat.le_of_lt_succ hjk)).elim (HNO.out j hj) (fun h=>by subst h;exact e))
   have YS:=bx (fun e=>Aeh (p:=fun b=>decide (0<=fndI s.nodes b.parent)) hkn (fun j hj=>HNO.out j (Nat.lt_trans hj hkn) hj) e)
   clear hA hf
   have EC:=bx (clsE M.out (FI.out s.orph[k].parent))
   generalize s.orph[k]=y at *
   generalize fndI s.nodes y.parent=f at *
   by_cases hz:0<=f
   .have HR:=bx (HD.out.trans (YS.out (decide_eq_true hz)))
    clear NX YS
    (go_wp2_with (first|go_skip|(refine zBXo ?_;clear M;intro w' g M)|refine zLAo ?_))
    refine zRG ?_;(repeat(first|go_big_quiet_skip|(go_big_quiet_want;first|(refine zQHo HA ?_;go_big_quiet_on;refine zNM ?_)|(refine zQFo F1 ?_;go_big_quiet_on;refine zNM ?_)|(refine zQC (AaI EC.out) Tryz.func33 ?_;go_big_quiet_on;refine zNM ?_)|(refine zQAo ?_;go_big_quiet_on;refine zNM ?_)|(refine zQO ?_;go_big_quiet_on))));(refine zQN ?_;clear M;intro w4 M)
    (go_wp2_with (first|go_skip|(refine zBXo ?_;clear M;intro w' g M)|refine zLAo ?_))
    go_ret
    exact⟨by rw[HR.out];rfl,M.out.ext⟩
   .have NX':=bx (NX.out (decide_eq_false hz))
    clear NX YS
    (go_wp2_with (first|go_skip|(refine zBXo ?_;clear M;intro w' g M)|refine zLAo ?_))
    refine zRG ?_;(repeat(first|go_big_quiet_skip|(go_big_quiet_want;first|(refine zQHo HA ?_;go_big_quiet_on;refine zNM ?_)|(refine zQFo F1 ?_;go_big_quiet_on;refine zNM ?_)|(refine zQC (AaI EC.out) Tryz.func33 ?_;go_big_quiet_on;refine zNM ?_)|(refine zQAo ?_;go_big_quiet_on;refine zNM ?_)|(refine zQO ?_;go_big_quiet_on))));(refine zQN ?_;clear M;intro w4 M)
    (go_wp2_with (first|go_skip|(refine zBXo ?_;clear M;intro w' g M)|refine zLAo ?_))
    go_roundw
    case rel=>exact⟨k+1,by omega,by go_num,NX'.out,M.out⟩
    case measure=>simp[intOf]<;>omega
  .have hki:(v.orph.n:Int)<=(k:Int):=by rw[LN.out];omega
   have HR:=bx (HD.out.trans (Aei fun j hj=>HNO.out j hj (by omega)))
   (go_wp2_with (first|go_skip|(refine zBXo ?_;clear M;intro w' g M)|refine zLAo ?_))
   go_ret
   exact⟨by rw[HR.out];rfl,M.out.ext⟩
end Go.Proofs.YtmgeheaneohldaaGreat
namespace Go.Proofs.YtmgeheaneohldaaGreat
open Go.RowKit
def tbE(b:List U)(v:Int):Int:=valE (b.map fun x=>(x.n:Int)) b.length v
theorem AnX(b:List U):U64 (b.map fun x=>(x.n:Int)):=fun x hx=>by
 obtain⟨y,_,rfl⟩:=List.mem_map.1 hx
 have:=y.lt
 omega
theorem Aco(c:Cp)(b:List U)(hb:b.length<=65535)(A:Option Addr)(k:Nat)(v:Int)(w:World)(h:Row w w.heap.size 1 A b.length (us b)) :
  Calls Tryz.prog 74 #[.agg (fl (tbP c (.slice A b.length k))).toArray,.int .i64 v] w fun e w'=>e=.returned (.int .i64 (tbE b v))/\Below w.heap.size w w':=
 AeT w.heap.size ((c.e.n:Int),c.r.l) c.r.len A b.length k v _ w (Nat.le_refl _) (Adp b▸h) (AnX b) (by omega)
def findT(T:List Tbl)(c:Cp):Int:=idxI (fun t=>decide (t.c=c)) T
def regM(T:List Tbl)(t:Tbl)(v lim:Int):Int × List Tbl:=
 if tbE t.b v≠0 then(tbE t.b v,T)else if 0<=findT T t.c then(9,T)else if lim<=(T.length:Int)then(11,T)else(0,addT T t)
def RefRg(Γ:Gam)(w:World)(r:Int × List Tbl)(e:Ending)(w':World):Prop:=
 ∃(A:Option Addr) (c:Nat) (Γ':Gam),e=.returned (.tuple #[.slice A r.2.length c,.int .i64 r.1])/\CapOk A r.2.length c/\TsG Γ' A r.2.length r.2/\Ext Γ w Γ' w'
theorem Ahl{Γ Γ':Gam}{w w':World}{r:Int × List Tbl}{x:Int}{T:List Tbl}{A:Option Addr}{n c:Nat}(hr:r=(x,T))(hn:T.length=n)(hc:CapOk A n c)(hT:TsG Γ' A n T)(hx:Ext Γ w Γ' w'):RefRg Γ w r (.returned (.tuple #[.slice A n c,.int .i64 x])) w':=by
 subst hr hn
 exact⟨A,c,Γ',rfl,hc,hT,hx⟩
theorem AeU(Γ:Gam)(A:Option Addr)(n c:Nat)(T:List Tbl)(t:Tbl)(s:Value)(v lim:Int)(hn:n<=65535)(hb:t.b.length<=65535)(w:World)(ok:Ok Γ w)(h:TsG Γ A n T)(hcap:CapOk A n c)(ht:TbG Γ (t.c,s) t) :
  Calls Tryz.prog 152 #[.slice A n c,.agg (fl (tbP t.c s)).toArray,.int .i64 v,.int .i64 lim] w (RefRg Γ w (regM T t v lim)):=by
 have M:=bx (MM.start ok)
 have HT:=bx h
 have HC:=bx hcap
 have HB:=bx hb
 have HN:=bx hn
 obtain⟨As,ks,hs,hsc,hsr⟩:=ht.s
 simp only at hs
 subst hs
 have HTR:=bx (fun(w':World) (o:Ok Γ w')=>hsr.row (size:=1) (by rw[AdH,Nat.mul_one]) o)
 have HTb:=bx ht
 have LN:=bx h.1
 have R1:=bx (fun h:tbE t.b v≠0=>show regM T t v lim=(tbE t.b v,T)from if_pos h)
 have R2:=bx (fun(h:tbE t.b v=0) (h2:0<=findT T t.c)=>show regM T t v lim=(9,T)by unfold regM;rw[if_neg (fun e=>e h),if_pos h2])
 have R3:=bx (fun(h:tbE t.b v=0) (h2:¬0<=findT T t.c) (h3:lim<=(n:Int))=>show regM T t v lim=(11,T)by unfold regM;rw[if_neg (fun e=>e h),if_neg h2,if_pos (by rw[LN.out];exact h3)])
 have R4:=bx (fun(h:tbE t.b v=0) (h2:¬0<=findT T t.c) (h3:¬lim<=(n:Int))=>show regM T t v lim=(0,addT T t)by unfold regM;rw[if_neg (fun e=>e h),if_neg h2,if_neg (by rw[LN.out];exact h3)])
 clear h hcap hb ht hsc hsr ok hn
 have VA:=bx (fun w1 (o:Ok Γ w1)=>Aco t.c t.b HB.out As ks v w1 (HTR.out w1 o))
 have FA:=bx (fun w1 (o:Ok Γ w1)=>Aak Γ A n c T t.c HN.out w1 o HT.out)
 have AA:=bx (fun w1 (o:Ok Γ w1)=>Ag1 Γ A n c T t _ HN.out HB.out w1 o HT.out HC.out HTb.out)
 change Bx (∀w1,Ok Γ w1->Calls Tryz.prog _ _ w1 fun e w'=>e=.returned (.int .i64 (findT T t.c))/\_)at FA
 generalize tbE t.b v=ve at *
 generalize findT T t.c=fi at *
 generalize hr:regM T t v lim=r at *
 clear hr
 go_enter Tryz.func152,Tryz.ntmps152
 go_wp2_with (first|(refine zBYo (Aaf _ _) ?_;clear M;intro w' g M)|refine zLDo (M.out.at0) ?_)
 refine(VA.out _ M.ok).mono ?_;rintro e w1 ⟨rfl,hb⟩
 replace M:=bx (M.out.below hb)
 clear hb
 by_cases hv:ve=0
 .have hvf:(ve != 0)=false:=by rw[bne_eq_false_iff_eq];exact hv
  have HV:=bx hv
  clear hv R1
  go_wp2_with (first|refine zLDo (M.out.at0) ?_)
  refine(FA.out _ M.ok).mono ?_;rintro e w2 ⟨rfl,hx⟩
  replace M:=bx (M.out.call hx)
  clear hx
  by_cases hf:0<=fi
  .have R:=bx (R2.out HV.out hf)
   clear R2 R3 R4
   go_wp2_with fail
   go_ret2
   exact Ahl R.out LN.out HC.out HT.out M.out.ext
  .by_cases hl:lim<=(n:Int)
   .have R:=bx (R3.out HV.out (by omega) (by omega))
    clear R2 R3 R4
    go_wp2_with fail
    go_ret2
    exact Ahl R.out LN.out HC.out HT.out M.out.ext
   .have R:=bx (R4.out HV.out (by omega) (by omega))
    clear R2 R3 R4
    go_wp2_with (first|refine zLDo (M.out.at0) ?_)
    refine(AA.out _ M.ok).mono ?_;rintro e w3 ⟨A3,c3,Γ3,rfl,hc3,ht3,hx⟩
    replace M:=bx (M.out.call hx)
    have H3:=bx ht3
    have C3:=bx hc3
    clear hx ht3 hc3
    go_wp2_with fail
    go_ret2
    exact Ahl R.out rfl C3.out H3.out M.out.ext
 .have hvf:(ve != 0)=true:=by rw[bne_iff_ne];exact hv
  have R:=bx (R1.out hv)
  clear R1 R2 R3 R4 hv
  go_wp2_with fail
  go_ret2
  exact Ahl R.out LN.out HC.out HT.out M.out.ext
theorem AfP:∀a b:List Int,cmpI b a = - cmpI a b
 |[],[]=>rfl
 |[],_::_=>rfl
 |_::_,[]=>rfl
 |x::xs,y::ys=>by
  unfold cmpI
  by_cases h1:x<y
  .rw[if_pos h1,if_neg (show ¬y<x by omega),if_pos h1];rfl
  .by_cases h2:y<x
   .simp[h1,h2]
   .rw[if_neg h1,if_neg h2,if_neg h2,if_neg h1];exact AfP xs ys
theorem Aeq:∀a b c:List Int,a.length=b.length->b.length=c.length->cmpI a b<=0->cmpI b c<=0->cmpI a c<=0
 |[],_,_,_,_,_,_=>by simp[cmpI]
 |_::_,[],_,h,_,_,_=>by simp at h
 |_::_,_::_,[],_,h,_,_=>by simp at h
 |x::xs,y::ys,z::zs,h1,h2,ha,hb=>by
  unfold cmpI at ha hb |-
  by_cases a1:x<y
  .by_cases b1:y<z
   .rw[if_pos (show x<z by omega)];decide
   .rw[if_neg b1]at hb
    by_cases b2:z<y
    .rw[if_pos b2]at hb;omega
    .rw[if_pos (show x<z by omega)];decide
  .rw[if_neg a1]at ha
   by_cases a2:y<x
   .rw[if_pos a2]at ha;omega
   .rw[if_neg a2]at ha
    by_cases b1:y<z
    .rw[if_pos (show x<z by omega)];decide
    .rw[if_neg b1]at hb
     by_cases b2:z<y
     .rw[if_pos b2]at hb;omega
     .rw[if_neg b2]at hb
      rw[if_neg (show ¬x<z by omega),if_neg (show ¬z<x by omega)]
      exact Aeq xs ys zs (by simpa using h1) (by simpa using h2) ha hb
def flQ(c:Cp):List Int:=(c.e.n:Int)::c.r.l
theorem Adt(c:Cp):(flQ c).length=33:=by simp[flQ,c.r.len]
theorem cmpQ(a b:Cp):cmpCp a b=cmpI (flQ a) (flQ b):=by
 simp only[cmpCp,flQ,cmpI,cmpRt,Int.ofNat_lt]
theorem Aes(a b:Cp):cmpCp b a = - cmpCp a b:=by rw[cmpQ,cmpQ];exact AfP _ _
theorem Aer{a b:Cp}(h:cmpCp a b=0):a=b:=by
 rw[cmpQ]at h
 have:=(Adv _ _ (by rw[Adt,Adt])).1 h
 unfold flQ at this
 injection this with h1 h2
 obtain⟨⟨e,_⟩,r⟩:=a
 obtain⟨⟨e',_⟩,r'⟩:=b
 simp only at h1 h2
 have h3:e=e':=by omega
 subst h3
 rw[Rt.ext' h2]
theorem Agr{a b c:Cp}(h1:cmpCp a b<0)(h2:cmpCp b c<0):cmpCp a c<0:=by
 have h3:cmpCp a c<=0:=by
  rw[cmpQ]at h1 h2 |-
  exact Aeq _ _ _ (by rw[Adt,Adt]) (by rw[Adt,Adt]) (Int.le_of_lt h1) (Int.le_of_lt h2)
 rcases Int.lt_or_eq_of_le h3 with h|h
 .exact h
 .have:=Aer h
  subst this
  have:=Aes a b
  omega
def AscQ(T:List Tbl):Prop:=T.Pairwise fun a b=>cmpCp a.c b.c<0
theorem Aie{T:List Tbl}{c:Cp}(h:¬0<=findT T c):∀x∈T,x.c≠c:=fun x hx e=>by
 rcases Aa2 (fun t:Tbl=>decide (t.c=c)) T with⟨_,h2⟩|⟨k,hk,e1,_⟩
 .have:=h2 x hx
  rw[e]at this
  simp at this
 .exact h (by unfold findT;rw[e1];omega)
theorem Agl{p:Tbl->Bool}:∀{T:List Tbl} {d:Tbl} {r:List Tbl},T.dropWhile p=d::r->p d=false
 |[],d,r,h=>by cases h
 |x::T,d,r,h=>by
  rw[List.dropWhile_cons]at h
  cases hp:p x with
  |true=>rw[hp]at h;exact Agl (T:=T) h
  |false=>
   rw[hp]at h
   simp only[Bool.false_eq_true,if_false,List.cons.injEq]at h
   rw[<-h.1];exact hp
theorem AkH{T:List Tbl}{t:Tbl}(hs:AscQ T)(hn:∀x∈T,x.c≠t.c):AscQ (addT T t):=by
 have hcat:T.takeWhile (fun x=>decide (cmpCp x.c t.c<0))++T.dropWhile (fun x=>decide (cmpCp x.c t.c<0))=T:=List.takeWhile_append_dropWhile
 have hs':=hs
 unfold AscQ at hs'
 rw[<-hcat,List.pairwise_append]at hs'
 obtain⟨h1,h2,h3⟩:=hs'
 have ht:∀x∈T.takeWhile (fun x=>decide (cmpCp x.c t.c<0)),cmpCp x.c t.c<0:=fun x hx=>by
  have:=List.all_eq_true.1 (List.all_takeWhile (p:=fun x:Tbl=>decide (cmpCp x.c t.c<0)) (l:=T)) x hx
  simpa using this
 have hd:∀y∈T.dropWhile (fun x=>decide (cmpCp x.c t.c<0)),cmpCp t.c y.c<0:=fun y hy=>by
  cases hdw:T.dropWhile (fun x=>decide (cmpCp x.c t.c<0))with
  |nil=>rw[hdw]at hy;cases hy
  |cons d r=>
   have hp:=Agl hdw
   have hdT:d∈T:=by rw[<-hcat,hdw];simp
   have h4:cmpCp t.c d.c<0:=by
    have h5:¬cmpCp d.c t.c<0:=by simpa using hp
    have h6:=Aes d.c t.c
    have h7:cmpCp d.c t.c≠0:=fun e=>hn d hdT (Aer e)
    omega
   rw[hdw]at hy h2
   rcases List.mem_cons.1 hy with rfl|hy
   .exact h4
   .exact Agr h4 ((List.pairwise_cons.1 h2).1 y hy)
 unfold AscQ addT
 rw[List.pairwise_append]
 refine⟨h1,List.pairwise_cons.2 ⟨hd,h2⟩,fun x hx y hy=>?_⟩
 rcases List.mem_cons.1 hy with rfl|hy
 .exact ht x hx
 .exact h3 x hx y hy
theorem MM.perm{Γ0 Γ:Gam}{w0 w:World}{L L':List Ent}{R:List RowE}(M:MM Γ0 w0 Γ w L R)(h:L'.Perm L):MM Γ0 w0 Γ w L' R:=
 ⟨M.ext,fun p hp=>M.has p (h.mem_iff.1 hp),fun p hp=>M.len p (h.mem_iff.1 hp),fun p hp=>M.off p (h.mem_iff.1 hp),fun p hp=>M.lo p (h.mem_iff.1 hp),
  (h.pairwise_iff (fun e e'=>e e'.symm)).2 M.nd,M.rows,fun r hr g hg=>⟨(M.roff r hr g hg).1,fun p hp=>(M.roff r hr g hg).2 p (h.mem_iff.1 hp)⟩,M.rnd⟩
theorem MM.swap{Γ0 Γ:Gam}{w0 w:World}{a b:Ent}{L:List Ent}{R:List RowE}(M:MM Γ0 w0 Γ w (a::b::L) R):MM Γ0 w0 Γ w (b::a::L) R:=M.perm (List.Perm.swap ..)
theorem MM.drop2{Γ0 Γ:Gam}{w0 w:World}{a b:Ent}{L:List Ent}{R:List RowE}(M:MM Γ0 w0 Γ w (a::b::L) R):MM Γ0 w0 Γ w (a::L) R:=M.swap.tail
theorem AdX{α:Type}(f:α->List Value)(x:α)(n:Nat):reps n (f x)=(List.replicate n x).flatMap f:=by
 unfold reps
 induction n with
 |zero=>rfl
 |succ n ih=>rw[List.replicate_succ,List.replicate_succ,List.flatMap_cons,List.flatMap_cons,ih];rfl
section
variable {w:World}{Pg:Program}{op:Oper}{a:Act}
theorem AdQ{t e:TypeId}(hu:Pg.underlying t=some (.slice e))(ps:List (Nat × Value))(cs:List Value){n:Nat}{parts:Array (Nat × Operand)}(ho:op.op=.buildSlice t n parts)
  (hps:parts.toList.map (fun x=>(x.1,a.eval x.2))=ps) (hf:Pg.builtSlice e n ps=some cs.toArray):(execOp a.eval op).run Pg w=.ok (.value (.slice (some ⟨w.heap.size,0,none⟩) n n)) (w.alloc (.cells cs.toArray e)):=by
 have e1:(parts.map fun(i,x)=>(i,a.eval x))=ps.toArray:=Array.ext' (by rw[Array.toList_map];exact hps)
 have hr:=run_sliceTo (P:=Pg) w t e n ps.toArray _ hu hf
 unfold execOp
 simp only[ho,e1,hr,Sem.run_bind,Result.andThen_ok]
 rfl
end
end Go.Proofs.YtmgeheaneohldaaGreat
namespace Go.Proofs.YtmgeheaneohldaaGreat
open Go.RowKit Go.Proofs.YtmgeheaneohldaaGreat.Old
def regS(s:Sto)(t:Tbl):Int × Sto:=
 if tbE t.b (s.bal.length:Int)≠0 then(tbE t.b (s.bal.length:Int),st0)else if t.c.e.n<s.just.e.n then(13,st0)else
  if(regM s.tabs t (s.bal.length:Int) s.c.tl).1≠0 then((regM s.tabs t (s.bal.length:Int) s.c.tl).1,st0)else(0,{s with tabs:=(regM s.tabs t (s.bal.length:Int) s.c.tl).2})
theorem AgE(Γ:Gam)(s:Sto)(v:Sls)(t:Tbl)(y:Sl)(hb:t.b.length<=65535)(ht:s.tabs.length<=65535)(w:World)(ok:Ok Γ w)(h:StG Γ v s)(hy:SlR Γ y t.b.length (us t.b)) :
  Calls Tryz.prog 123 #[.agg (fl (stP s v)).toArray,.agg (fl (tbP t.c y.v)).toArray] w (StE Γ w (regS s t).1 (regS s t).2):=by
 have M:=bx (MM.start ok)
 have HG:=bx h
 have VA:=bx (fun w ok=>AcM Γ s v w ok h)
 have yv:y.v=.slice y.A t.b.length y.c:=by rw[<-hy.n]
 have hys:SlG Γ y.A t.b.length (us t.b):=by have:=hy.sl;rwa [hy.n]at this
 have hyc:CapOk y.A t.b.length y.c:=by have:=hy.cap;rwa [hy.n]at this
 have VT:Bx (∀w,Ok Γ w->Calls Tryz.prog 74 #[.agg (fl (tbP t.c y.v)).toArray,.int .i64 (s.bal.length:Int)] w fun e w'=>e=.returned (.int .i64 (tbE t.b (s.bal.length:Int)))/\Below w.heap.size w w'):=⟨fun w ok=>by
  rw[yv]
  exact Aco t.c t.b hb y.A y.c (s.bal.length:Int) w (hys.row (size:=1) (by rw[AdH,Nat.mul_one]) ok)⟩
 have RG:Bx (∀w,Ok Γ w->Calls Tryz.prog 152 #[v.tabs.v,.agg (fl (tbP t.c y.v)).toArray,.int .i64 (s.bal.length:Int),.int .i64 s.c.tl] w (RefRg Γ w (regM s.tabs t (s.bal.length:Int) s.c.tl))):=⟨fun w ok=>
  AeU Γ v.tabs.A v.tabs.n v.tabs.c s.tabs t y.v (s.bal.length:Int) s.c.tl (by rw[<-h.tabs.2.1];exact ht) hb w ok h.tabs.2 h.tabs.1 ⟨rfl,y.A,y.c,yv,hyc,hys⟩⟩
 have HD:Bx (regS s t=if tbE t.b (s.bal.length:Int)≠0 then(tbE t.b (s.bal.length:Int),st0)else if t.c.e.n<s.just.e.n then(13,st0)else
  if(regM s.tabs t (s.bal.length:Int) s.c.tl).1≠0 then((regM s.tabs t (s.bal.length:Int) s.c.tl).1,st0)else(0,{s with tabs:=(regM s.tabs t (s.bal.length:Int) s.c.tl).2})):=⟨rfl⟩
 clear ok h hy hb ht yv hys hyc
 generalize regS s t=res at *
 generalize tbE t.b (s.bal.length:Int)=te at *
 generalize regM s.tabs t (s.bal.length:Int) s.c.tl=r at *
 obtain⟨r1,r2⟩:=r
 simp only at HD
 go_enter Tryz.func123,Tryz.ntmps123
 (go_wp2_with (first|go_skip|(refine zBXo ?_;clear M;intro w' g M)|(refine zALo (ztSt) ?_;clear M;intro w' g M)|fail|refine zLAo ?_|refine zBDo 49 [] (fl (stP st0 x0)) (by kernel_rfl) ?_))
 refine zRG ?_;(repeat(first|go_big_quiet_skip|(go_big_quiet_want;first|((with_reducible refine Aaw ?_);first|(refine zQC (AaI (clsE M.out VA.out)) Tryz.func149 ?_;go_big_quiet_on;refine zNM ?_)|(refine zQC (AdL (clsE M.out VT.out)) Tryz.func74 ?_;go_big_quiet_on;refine zNM ?_))|(refine zQAo ?_;go_big_quiet_on;refine zNM ?_)|(refine zQO ?_;go_big_quiet_on))));(refine zQN ?_;clear M;intro w4 M)
 clear VT
 by_cases h0:te=0
 .have h0b:(te != 0)=false:=by simp[h0]
  have HD2:=bx (HD.out.trans (if_neg (by omega)))
  clear HD h0
  rcases two2 t.c.e.n s.just.e.n with⟨j1,j2⟩|⟨j1,j2⟩
  .have HR:=bx (HD2.out.trans (if_pos j1))
   clear HD2 RG
   (go_wp2_with (first|go_skip|(refine zBXo ?_;clear M;intro w' g M)|(refine zALo (ztSt) ?_;clear M;intro w' g M)|(refine zSSo M 0 (stP st0 x0) (stP st0 x0) (AaD _ _) (Aac _ _) ?_;clear M;intro w' M)|refine zLAo ?_|refine zBDo 49 [] (fl (stP st0 x0)) (by kernel_rfl) ?_));refine zRt M.out.at0 ?_;rw[HR.out];exact StE.err M.out.ext
  .have HD3:=bx (HD2.out.trans (if_neg j1))
   clear HD2
   (go_wp2_with (first|go_skip|(refine zBXo ?_;clear M;intro w' g M)|(refine zALo (ztSt) ?_;clear M;intro w' g M)|fail|refine zLAo ?_|refine zBDo 49 [] (fl (stP st0 x0)) (by kernel_rfl) ?_))
   refine AaE [] (.steps [(1,0),(0,1),(0,2),(0,3),(1,5),(1,6),(1,7),(0,8),(2,4),(2,9),(1,10),(1,11),(1,12),(1,13),(1,14)] .leaf) (by kernel_rfl) (by kernel_rfl) ?_;(simp only[MixT6,MT.steps,stepAt,List.getD_cons_zero,List.getD_cons_succ]);replace M:=bx (M.out.drew)
   refine zNM ?_
   refine zMRo ?_
   refine zMC (VA.out _ M.ok) Tryz.func149 ?_
   rintro e2 w2 ⟨rfl,hx2⟩
   refine⟨_,rfl,hx2.bel,?_⟩
   replace M:=bx (M.out.call hx2)
   clear hx2
   refine zNM ?_
   refine zMRo ?_
   refine zMC (RG.out _ M.ok) Tryz.func152 ?_
   rintro e3 w3 ⟨A3,c3,Γ3,rfl,hc3,ht3,hx3⟩
   refine⟨_,rfl,hx3.bel,?_⟩
   replace M:=bx (M.out.call hx3)
   have HT3:=bx (show TabsG Γ3 ⟨A3,r2.length,c3⟩ r2 from⟨hc3,ht3⟩)
   clear hx3 hc3 ht3 RG VA
   refine zNM ?_
   refine zMRo ?_
   refine NoPanic.normal ?_
   by_cases h1:r1=0
   .have h1b:(r1 != 0)=false:=by simp[h1]
    have HR:=bx (HD3.out.trans (if_neg (by omega)))
    clear HD3 h1
    (go_wp2_with (first|go_skip|(refine zBXo ?_;clear M;intro w' g M)|(refine zALo (ztSt) ?_;clear M;intro w' g M)|(refine zS1o M 2 (.slice A3 r2.length c3) (stP {s with tabs:=r2} {v with tabs:=⟨A3,r2.length,c3⟩}) ?_;clear M;intro w' M)|(refine zSSo M 0 (stP {s with tabs:=r2} {v with tabs:=⟨A3,r2.length,c3⟩}) (stP {s with tabs:=r2} {v with tabs:=⟨A3,r2.length,c3⟩}) (AaD _ _) (Aac _ _) ?_;clear M;intro w' M)|refine zLAo ?_|refine zBDo 49 [] (fl (stP st0 x0)) (by kernel_rfl) ?_))
    refine zRt M.out.at0 ?_
    rw[HR.out]
    exact StE.mk _ {HG.out.mono M.out.ext.le with tabs:=HT3.out} M.out.ext
   .have h1b:(r1 != 0)=true:=by simp[h1]
    have HR:=bx (HD3.out.trans (if_pos h1))
    clear HD3 h1
    (go_wp2_with (first|go_skip|(refine zBXo ?_;clear M;intro w' g M)|(refine zALo (ztSt) ?_;clear M;intro w' g M)|(refine zSSo M 0 (stP st0 x0) (stP st0 x0) (AaD _ _) (Aac _ _) ?_;clear M;intro w' M)|refine zLAo ?_|refine zBDo 49 [] (fl (stP st0 x0)) (by kernel_rfl) ?_));refine zRt M.out.at0 ?_;rw[HR.out];exact StE.err M.out.ext
 .have h0b:(te != 0)=true:=by simp[h0]
  have HR:=bx (HD.out.trans (if_pos h0))
  clear HD h0 RG VA
  (go_wp2_with (first|go_skip|(refine zBXo ?_;clear M;intro w' g M)|(refine zALo (ztSt) ?_;clear M;intro w' g M)|(refine zSSo M 0 (stP st0 x0) (stP st0 x0) (AaD _ _) (Aac _ _) ?_;clear M;intro w' M)|refine zLAo ?_|refine zBDo 49 [] (fl (stP st0 x0)) (by kernel_rfl) ?_));refine zRt M.out.at0 ?_;rw[HR.out];exact StE.err M.out.ext
def ZsP(Γ:Gam)(w:World)(z:Zst)(e:Ending)(w':World):Prop:=∃(x:Zls) (Γ':Gam),e=.returned (.agg (fl (zsP z x)).toArray)/\ZsG Γ' x z/\Ext Γ w Γ' w'
theorem ZsP.mk{Γ Γ':Gam}{w w':World}{z:Zst}(x:Zls)(h:ZsG Γ' x z)(hx:Ext Γ w Γ' w'):ZsP Γ w z (.returned (.agg (fl (zsP z x)).toArray)) w':=⟨x,Γ',rfl,h,hx⟩
def rq0:Rq:=⟨u0,r0,0,u0⟩
theorem ztRq:ZeroT Tryz.prog 176 (rqP rq0) [1,32,1,1]:=⟨fun w=>by kernel_rfl,AaX _⟩
theorem elRq:ElT Tryz.prog 50 176 35 56:=AcX Tryz.underlying50 (by kernel_rfl) (by decide) (by decide)
theorem stTg:StrT Tryz.prog 126 [(0,1)] [[.int .u64 0]] [1]:=AbB Tryz.underlying126 (by kernel_rfl) (by kernel_rfl) rfl
theorem stRq:StrT Tryz.prog 176 [(0,1),(1,32),(33,1),(34,1)] (rqP rq0) [1,32,1,1]:=AbB Tryz.underlying176 (by kernel_rfl) (by kernel_rfl) (AaX _)
theorem AcL(t:U):Tryz.prog.built 126 [(0,.int .u64 (t.n:Int))]=some (fl [[.int .u64 (t.n:Int)]]).toArray:=by
 rw[stTg.eq]
 refine AaJ (Q:=[[.int .u64 (t.n:Int)]]) stTg.len rfl rfl rfl rfl rfl fun hl=>?_
 rfl
theorem AiI(t:U)(r:Rt)(n:Int):Tryz.prog.built 176 [(0,.agg (fl [[.int .u64 (t.n:Int)]]).toArray),(1,.agg (rc r).toArray),(2,.int .i64 n)]=some (fl (rqP ⟨t,r,n,u0⟩)).toArray:=by
 rw[stRq.eq]
 refine AaJ (Q:=[[.int .u64 (t.n:Int)]]) stRq.len rfl rfl rfl rfl rfl fun hl=>?_
 refine AaJ (Q:=[rc r]) hl rfl rfl rfl (lenR r) rfl fun hl=>?_
 refine AaJ (Q:=[[.int .i64 n]]) hl rfl rfl rfl rfl rfl fun hl=>?_
 rfl
def uInc(u:U):U:=⟨(u.n+1)%18446744073709551616,Nat.mod_lt _ (by decide)⟩
theorem Af3(u:U):IntKind.u64.wrap ((u.n:Int)+1)=((uInc u).n:Int):=by
 have:=u.lt
 show IntKind.u64.wrap ((u.n:Int)+1)=(((u.n+1)%18446744073709551616:Nat):Int)
 by_cases h:u.n+1<18446744073709551616
 .rw[AdI (by omega) (by omega),Nat.mod_eq_of_lt h];omega
 .have e:u.n=18446744073709551615:=by omega
  rw[e];rfl
def openZ(z:Zst)(r:Rt)(t:Int):Zst:={z with reqs:=z.reqs ++ [⟨z.ntag,r,t,u0⟩],ntag:=uInc z.ntag}
theorem Ag9{Γ:Gam}{T:List Rq}{q:Rq}{A:Option Addr}{n c:Nat}(hn:n=T.length)(h1:CapOk A (n+1) c)(h2:SlG Γ A (n+1) (T.flatMap rqx++fl (rqP q))):SlR Γ ⟨A,n+1,c⟩ (T ++ [q]).length ((T ++ [q]).flatMap rqx):=by
 refine⟨by simp[hn],h1,?_⟩
 have e:(T ++ [q]).flatMap rqx=T.flatMap rqx++fl (rqP q):=by simp
 rw[e];exact h2
theorem Akd(Γ:Gam)(z:Zst)(x:Zls)(r:Rt)(n:Int)(w:World)(ok:Ok Γ w)(h:ZsG Γ x z)(hb:z.reqs.length<=30000) :
  Calls Tryz.prog 143 #[.agg (fl (zsP z x)).toArray,.agg (rc r).toArray,.int .i64 n] w (ZsP Γ w (openZ z r n)):=by
 have M:=bx (MM.start ok)
 have HG:=bx h
 have LN:=bx h.reqs.n
 have hrn:x.reqs.n<=30000:=by rw[h.reqs.n];exact hb
 have ROW:Bx (∀{Γ':Gam} w',Ok Γ' w'->Le Γ Γ'->Row w' w'.heap.size 35 x.reqs.A x.reqs.n (z.reqs.flatMap rqx)):=⟨fun w' o hle=>(h.reqs.sl.mono hle).row (size:=35) (by rw[Aap z.reqs (fun x _=>AbM x),h.reqs.n]) o⟩
 have CAP:=bx h.reqs.cap.nil
 have OneX:Bx (One (z.reqs.flatMap rqx)):=⟨Ab4 fun x _=>AbI x⟩
 have hw:=Af3 z.ntag
 have hlt:=z.ntag.lt
 clear ok h hb
 change Calls Tryz.prog _ #[_,.agg (fl [rc r]).toArray,_] _ _
 go_enter Tryz.func143,Tryz.ntmps143
 (go_wp2_with (first|go_skip|(refine zBXo ?_;clear M;intro w' g M)|(refine zALo (ztZs) ?_;clear M;intro w' g M)|(refine zALo (ztRq) ?_;clear M;intro w' g M)|refine zLAo ?_|refine zBDo 126 [(0,.int .u64 (z.ntag.n:Int))] (fl [[.int .u64 (z.ntag.n:Int)]]) (AcL _) ?_|refine zBDo 176 [(0,.agg (fl [[.int .u64 (z.ntag.n:Int)]]).toArray),(1,.agg (rc r).toArray),(2,.int .i64 n)] (fl (rqP ⟨z.ntag,r,n,u0⟩)) (AiI _ _ _) ?_|(refine zSSo M 0 (rqP ⟨z.ntag,r,n,u0⟩) (rqP ⟨z.ntag,r,n,u0⟩) (AaX _) (AbI _) ?_;clear M;intro w' M)))
 refine AaE [5,7] (.steps [(1,0),(0,1),(0,3)] (.fork 2 (.steps [(2,4),(3,5),(1,6),(3,7)] .leaf) 4 (.steps [(2,2),(3,5),(1,6),(3,7)] .leaf))) (by kernel_rfl) (by kernel_rfl) ?_;(simp only[MixT6,MT.steps,stepAt,List.getD_cons_zero,List.getD_cons_succ]);replace M:=bx (M.out.drew)
 refine zNM ?_
 refine zMRo ?_
 refine⟨?_,?_⟩
 ·(obtain⟨A1,c1,w1,hr,hM,hb⟩:=Aam elRq M.out 50 x.reqs.A x.reqs.n x.reqs.c _ (ROW.out _ M.ok M.out.ext.le) CAP.out OneX.out (by unfold maxLen;omega) (by omega));refine AaB (AaG rfl rfl rfl hr) rfl ?_;refine⟨hb,?_⟩;clear M;have M:=bx hM;clear hM hr hb;refine zNM ?_
  refine AaB (Aa3 elRq rfl rfl (v:=.agg (fl (rqP ⟨z.ntag,r,n,u0⟩)).toArray) (cs:=fl (rqP ⟨z.ntag,r,n,u0⟩)) rfl (AbM _)) rfl ?_;refine⟨ext_alloc _ _,?_⟩;replace M:=bx (M.out.alloc (P:=(rqP ⟨z.ntag,r,n,u0⟩)) (AaX _) rfl 176);refine zNM ?_
  (obtain⟨v5,w5,hr,hM⟩:=AaU elRq M.out 50 _ 1 1 _ (Aae M.out.at0 (m:=1) rfl) (fun h=>by cases h) (AbI _) (by unfold maxLen;omega) (by omega));refine AaB (AaG rfl rfl rfl hr) rfl ?_;replace M:=bx (hM.tail);clear hr hM;refine zNM ?_;refine zMRo ?_;(obtain⟨A6,c6,e6⟩:=own_slice (M.out.rows _ (List.mem_cons_self ..));simp only at e6;subst e6);refine AbL M.out 3 (.slice A6 (x.reqs.n+1) c6) (zsP {z with reqs:=z.reqs ++ [⟨z.ntag,r,n,u0⟩]} {x with reqs:=⟨A6,x.reqs.n+1,c6⟩}) rfl rfl rfl rfl Afi rfl rfl rfl rfl rfl rfl ?_;intro w7 M';(simp only[List.set_cons_zero,List.set_cons_succ]at M');(replace M:=bx M';clear M');refine zNM ?_;refine zMRo ?_;refine NoPanic.normal ?_;(go_wp2_with (first|go_skip|(refine zBXo ?_;clear M;intro w' g M)|(refine zALo (ztZs) ?_;clear M;intro w' g M)|(refine zALo (ztRq) ?_;clear M;intro w' g M)|refine zLAo ?_|(refine zS1o M 3 (.int .u64 ((uInc z.ntag).n:Int)) (zsP (openZ z r n) {x with reqs:=⟨A6,x.reqs.n+1,c6⟩}) ?_;clear M;intro w' M)|(refine zSSo M 1 (zsP (openZ z r n) {x with reqs:=⟨A6,x.reqs.n+1,c6⟩}) (zsP (openZ z r n) {x with reqs:=⟨A6,x.reqs.n+1,c6⟩}) (AaL _ _) (AaS _ _) ?_;clear M;intro w' M)));obtain⟨Γ',h1,h2,h3,h4⟩:=M.out.frz;refine zR h4.at1 ?_;exact ZsP.mk _ ⟨(HG.out.mono h4.ext.le).s,Ag9 LN.out h1 h2,(HG.out.mono h4.ext.le).rets⟩ h4.ext
 .refine AaB (Aa3 elRq rfl rfl (v:=.agg (fl (rqP ⟨z.ntag,r,n,u0⟩)).toArray) (cs:=fl (rqP ⟨z.ntag,r,n,u0⟩)) rfl (AbM _)) rfl ?_;refine⟨ext_alloc _ _,?_⟩;replace M:=bx (M.out.alloc (P:=(rqP ⟨z.ntag,r,n,u0⟩)) (AaX _) rfl 176);refine zNM ?_
  (obtain⟨A1,c1,w1,hr,hM,hb⟩:=Aam elRq M.out 50 x.reqs.A x.reqs.n x.reqs.c _ (ROW.out _ M.ok M.out.ext.le) CAP.out OneX.out (by unfold maxLen;omega) (by omega));refine AaB (AaG rfl rfl rfl hr) rfl ?_;refine⟨hb,?_⟩;clear M;have M:=bx hM;clear hM hr hb;refine zNM ?_
  (obtain⟨v5,w5,hr,hM⟩:=AaU elRq M.out 50 _ 1 1 _ (Aae M.out.at0 (m:=1) rfl) (fun h=>by cases h) (AbI _) (by unfold maxLen;omega) (by omega));refine AaB (AaG rfl rfl rfl hr) rfl ?_;replace M:=bx (hM.tail);clear hr hM;refine zNM ?_;refine zMRo ?_;(obtain⟨A6,c6,e6⟩:=own_slice (M.out.rows _ (List.mem_cons_self ..));simp only at e6;subst e6);refine AbL M.out 3 (.slice A6 (x.reqs.n+1) c6) (zsP {z with reqs:=z.reqs ++ [⟨z.ntag,r,n,u0⟩]} {x with reqs:=⟨A6,x.reqs.n+1,c6⟩}) rfl rfl rfl rfl Afi rfl rfl rfl rfl rfl rfl ?_;intro w7 M';(simp only[List.set_cons_zero,List.set_cons_succ]at M');(replace M:=bx M';clear M');refine zNM ?_;refine zMRo ?_;refine NoPanic.normal ?_;(go_wp2_with (first|go_skip|(refine zBXo ?_;clear M;intro w' g M)|(refine zALo (ztZs) ?_;clear M;intro w' g M)|(refine zALo (ztRq) ?_;clear M;intro w' g M)|refine zLAo ?_|(refine zS1o M 3 (.int .u64 ((uInc z.ntag).n:Int)) (zsP (openZ z r n) {x with reqs:=⟨A6,x.reqs.n+1,c6⟩}) ?_;clear M;intro w' M)|(refine zSSo M 1 (zsP (openZ z r n) {x with reqs:=⟨A6,x.reqs.n+1,c6⟩}) (zsP (openZ z r n) {x with reqs:=⟨A6,x.reqs.n+1,c6⟩}) (AaL _ _) (AaS _ _) ?_;clear M;intro w' M)));obtain⟨Γ',h1,h2,h3,h4⟩:=M.out.frz;refine zR h4.at1 ?_;exact ZsP.mk _ ⟨(HG.out.mono h4.ext.le).s,Ag9 LN.out h1 h2,(HG.out.mono h4.ext.le).rets⟩ h4.ext
theorem Ajp(Γ:Gam)(t:Int)(b:U)(w:World)(ok:Ok Γ w)(ht:t<=9223372036854775807) :
  Calls Tryz.prog 179 #[.int .i64 t,.int .u64 (b.n:Int)] w fun e w'=>∃d:U,e=.returned (.int .u64 (d.n:Int))/\d.n<=b.n/\Ext Γ w Γ w':=by
 have M:=bx (MM.start ok)
 have HT:=bx ht
 have hbl:=b.lt
 clear ok
 rcases Nat.eq_zero_or_pos b.n with h0|h0
 .have hb0:((b.n:Int)==0)=true:=by rw[h0];rfl
  clear h0
  go_enter Tryz.func179,Tryz.ntmps179
  (go_wp2_with (first|go_skip|(refine zBXo ?_;clear M;intro w' g M)|refine zLAo ?_))
  go_ret
  exact⟨u0,rfl,Nat.zero_le _,M.out.ext⟩
 .have hb0:((b.n:Int)==0)=false:=beq_eq_false_iff_ne.2 (by omega)
  go_enter Tryz.func179,Tryz.ntmps179
  (go_wp2_with (first|go_skip|(refine zBXo ?_;clear M;intro w' g M)|refine zLAo ?_))
  go_loopw [5,6] (fun s5 j wr=>∃(d:U) (i:Int),1<=i/\j=.int .i64 i/\s5=.int .u64 (d.n:Int)/\1<=d.n/\d.n<=b.n/\MM Γ w Γ wr [] []) (fun _ j _=>(t-intOf j).toNat)
  case atStart=>exact⟨⟨1,by decide⟩,1,by omega,rfl,rfl,Nat.le_refl _,h0,M.out⟩
  case round=>
   obtain⟨d,i,hi,rfl,rfl,hd1,hd2,hM⟩:=hrel
   clear M
   have M:=bx hM
   clear hM
   by_cases hit:i<t
   .have hw:IntKind.u64.wrap ((b.n:Int)-(d.n:Int))=(b.n:Int)-(d.n:Int):=AdI (by omega) (by omega)
    have hi63:i+1<=9223372036854775807:=by have:=HT.out;omega
    by_cases hc:b.n-d.n<=d.n
    .have hc':(b.n:Int)-(d.n:Int)<=(d.n:Int):=by omega
     (go_wp2_with (first|go_skip|(refine zBXo ?_;clear M;intro w' g M)|refine zLAo ?_))
     go_ret
     exact⟨b,rfl,Nat.le_refl _,M.out.ext⟩
    .have hc':¬(b.n:Int)-(d.n:Int)<=(d.n:Int):=by omega
     have hw2:IntKind.u64.wrap (2*(d.n:Int))=2*(d.n:Int):=AdI (by omega) (by omega)
     have D2:=bx (show 2*d.n<=b.n by omega)
     have HI:=bx hit
     (go_wp2_with (first|go_skip|(refine zBXo ?_;clear M;intro w' g M)|refine zLAo ?_))
     go_roundw
     case rel=>exact⟨⟨2*d.n,by have:=D2.out;omega⟩,i+1,by omega,by go_num,by simp,by show 1<=2*d.n;omega,D2.out,M.out⟩
     case measure=>have:=HI.out;simp[intOf]<;>omega
   .have hd:=bx hd2
    (go_wp2_with (first|go_skip|(refine zBXo ?_;clear M;intro w' g M)|refine zLAo ?_))
    go_ret
    exact⟨d,rfl,hd.out,M.out.ext⟩
theorem AhT{α:Type}(p:α->Bool){l:List α}{k:Nat}(hk:k<l.length):(l.take (k+1)).filter p=if p l[k]=true then(l.take k).filter p ++ [l[k]]else(l.take k).filter p:=by
 rw[List.take_succ_eq_append_getElem hk,List.filter_append]
 split<;>rename_i h<;>simp[h]
def RqsP(Γ:Gam)(w:World)(m:List Rq)(e:Ending)(w':World):Prop:=∃(A:Option Addr) (c:Nat) (Γ':Gam),e=.returned (.slice A m.length c)/\CapOk A m.length c/\SlG Γ' A m.length (m.flatMap rqx)/\Ext Γ w Γ' w'
def knownR(N:List Nod)(l:List Rq):List Rq:=l.filter fun q=>decide (0<=fndI N q.block)
theorem AfO(Γ:Gam)(z:Zst)(x:Zls)(A:Option Addr)(c:Nat)(l:List Rq)(w:World)(ok:Ok Γ w)(h:ZsG Γ x z)(hl:SlG Γ A l.length (l.flatMap rqx))(hb:l.length<=30000) :
  Calls Tryz.prog 144 #[.agg (fl (zsP z x)).toArray,.slice A l.length c] w (RqsP Γ w (knownR z.s.nodes l)):=by
 have M:=bx (MM.start ok)
 have FI:=bx (fun r w ok=>AaT Γ x.s.nodes z.s.nodes r w ok h.s.nodes)
 have HS:=bx hl
 have PT:Bx (∀k (hk:k<l.length),knownR z.s.nodes (l.take (k+1))=if decide (0<=fndI z.s.nodes l[k].block)=true then knownR z.s.nodes (l.take k) ++ [l[k]]else knownR z.s.nodes (l.take k)):=⟨fun k hk=>AhT _ hk⟩
 have PL:Bx (∀k,(knownR z.s.nodes (l.take k)).length<=k):=⟨fun k=>Nat.le_trans (List.length_filter_le _ _) (by rw[List.length_take];omega)⟩
 have HB:=bx hb
 clear ok h hl hb
 go_enter Tryz.func144,Tryz.ntmps144
 (go_wp2_with (first|go_skip|(refine zBXo ?_;clear M;intro w' g M)|refine zLAo ?_))
 go_loopw [5,6] (fun o j wr=>∃(k:Nat) (A1:Option Addr) (c1:Nat),k<=l.length/\j=.int .i64 k/\o=.slice A1 (knownR z.s.nodes (l.take k)).length c1/\MM Γ w Γ wr [⟨g,zsP z x,zsL⟩] [⟨.slice A1 (knownR z.s.nodes (l.take k)).length c1,176,35,(knownR z.s.nodes (l.take k)).length,(knownR z.s.nodes (l.take k)).flatMap rqx⟩]) (fun _ j _=>l.length-(intOf j).toNat)
 case atStart=>exact⟨0,none,0,Nat.zero_le _,rfl,rfl,M.out.row0 _ _⟩
 case round=>
  obtain⟨k,A1,c1,hk,rfl,rfl,hM⟩:=hrel
  clear M
  have M:=bx hM
  clear hM
  have hbb:=HB.out
  have hpl:=PL.out k
  by_cases hkn:k<l.length
  .obtain⟨gk,rfl,hf⟩:=HS.out.at (fun x _=>AbM x) rfl k hkn
   have F1:Bx (Fz Γ gk (k*35) (rqP l[k]) [1,32,1,1]):=⟨hf,AaX _⟩
   have PT':=bx (PT.out k hkn)
   have hki:(k:Int)<(l.length:Int):=by omega
   have hk0:0<=(k:Int):=by omega
   have FI':=bx (FI.out l[k].block)
   clear hf
   generalize l[k]=y at *
   generalize hkk:knownR z.s.nodes (l.take k)=m at *
   generalize fndI z.s.nodes y.block=f at *
   have EC:=bx (clsE M.out FI'.out)
   by_cases h0:0<=f
   .replace PT':=bx (PT'.out.trans (if_pos (decide_eq_true h0)))
    (go_wp2_with (first|go_skip|(refine zBXo ?_;clear M;intro w' g M)|refine zLAo ?_))
    refine zRG ?_;(repeat(first|go_big_quiet_skip|(go_big_quiet_want;first|(refine zQFo F1 ?_;go_big_quiet_on;refine zNM ?_)|((with_reducible refine Aaw ?_);first|(refine zQC (AaI EC.out) Tryz.func33 ?_;go_big_quiet_on;refine zNM ?_))|(refine zQAo ?_;go_big_quiet_on;refine zNM ?_)|(refine zQO ?_;go_big_quiet_on))));(refine zQN ?_;clear M;intro w4 M)
    clear EC
    (go_wp2_with (first|go_skip|refine zRFo F1 ?_|((with_reducible apply Abk M.out elRq);rfl;rfl;rfl;rfl;exact AaX _;rfl;intro w' g M' hb';(replace M:=bx M';clear M');clear hb')|(at_builtin;(with_reducible apply AaW M.out elRq);rfl;exact AbI _;(unfold maxLen;omega);omega;rfl;rfl;rfl;rfl;intro A' c' w' M';(replace M:=bx M';clear M'))|(refine zBXo ?_;clear M;intro w' g M)|refine zLAo ?_))
    go_roundw
    case rel=>exact⟨k+1,A',c',by omega,by go_num,by rw[PT'.out];simp,by
     rw[PT'.out]
     have M1:=M.out
     simp only[List.flatMap_append,List.flatMap_cons,List.flatMap_nil,List.append_nil,List.length_append,List.length_cons,List.length_nil,Nat.zero_add]
     exact M1⟩
    case measure=>simp[intOf]<;>omega
   .replace PT':=bx (PT'.out.trans (if_neg (by simpa using h0)))
    (go_wp2_with (first|go_skip|(refine zBXo ?_;clear M;intro w' g M)|refine zLAo ?_))
    refine zRG ?_;(repeat(first|go_big_quiet_skip|(go_big_quiet_want;first|(refine zQFo F1 ?_;go_big_quiet_on;refine zNM ?_)|((with_reducible refine Aaw ?_);first|(refine zQC (AaI EC.out) Tryz.func33 ?_;go_big_quiet_on;refine zNM ?_))|(refine zQAo ?_;go_big_quiet_on;refine zNM ?_)|(refine zQO ?_;go_big_quiet_on))));(refine zQN ?_;clear M;intro w4 M)
    clear EC
    (go_wp2_with (first|go_skip|(refine zBXo ?_;clear M;intro w' g M)|refine zLAo ?_))
    go_roundw
    case rel=>exact⟨k+1,A1,c1,by omega,by go_num,by rw[PT'.out],by rw[PT'.out];exact M.out⟩
    case measure=>simp[intOf]<;>omega
  .have hki:(l.length:Int)<=(k:Int):=by omega
   have e:knownR z.s.nodes (l.take k)=knownR z.s.nodes l:=by rw[List.take_of_length_le (by omega)]
   rw[e]at M hpl |-
   clear e PT PL
   generalize knownR z.s.nodes l=m at *
   (go_wp2_with (first|go_skip|(refine zBXo ?_;clear M;intro w' g M)|refine zLAo ?_))
   go_ret
   obtain⟨Γ',h1,h2,h3,h4⟩:=M.out.frz
   exact⟨A1,c1,Γ',rfl,h1,h2,h4.ext⟩
def opS(z:Zst)(r:Rt):Zst:=if statR z.s.nodes r 0=true then openZ z r 0 else z
def opTo(z:Zst)(l:List Rt):Zst:=l.foldl opS z
theorem AlZ(z:Zst)(l:List Rt):(opTo z l).s=z.s/\(opTo z l).reqs.length<=z.reqs.length+l.length:=by
 unfold opTo
 induction l generalizing z with
 |nil=>simp
 |cons a t ih=>
  obtain⟨h1,h2⟩:=ih (opS z a)
  have h3:(opS z a).s=z.s/\(opS z a).reqs.length<=z.reqs.length+1:=by unfold opS;split<;>simp[openZ]
  simp only[List.foldl_cons,List.length_cons]
  exact⟨h1.trans h3.1,by omega⟩
theorem AhO(Γ:Gam)(z:Zst)(x:Zls)(A:Option Addr)(c:Nat)(l:List Rt)(w:World)(ok:Ok Γ w)(h:ZsG Γ x z)(hl:SlG Γ A l.length (l.flatMap rc))(hb:z.reqs.length<=15000)(hb2:l.length<=15000) :
  Calls Tryz.prog 120 #[.agg (fl (zsP z x)).toArray,.slice A l.length c] w (ZsP Γ w (opTo z l)):=by
 have M:=bx (MM.start ok)
 have HG:=bx h
 have HS:=bx hl
 have PT:Bx (∀k (hk:k<l.length),opTo z (l.take (k+1))=opS (opTo z (l.take k)) l[k]):=⟨fun k hk=>Abh opS z hk⟩
 have PL:Bx (∀k,(opTo z (l.take k)).reqs.length<=30000):=⟨fun k=>by
  have:=(AlZ z (l.take k)).2
  have h2:(l.take k).length<=l.length:=by rw[List.length_take];omega
  omega⟩
 have HB:=bx hb2
 clear ok h hl hb hb2
 go_enter Tryz.func120,Tryz.ntmps120
 (go_wp2_with (first|go_skip|(refine zBXo ?_;clear M;intro w' g M)|(refine zALo (ztZs) ?_;clear M;intro w' g M)|refine zLAo ?_|fail))
 rename_i gz _ _
 go_loopw [5] (fun j wr=>∃(k:Nat) (Γk:Gam) (xk:Zls),k<=l.length/\j=.int .i64 k/\ZsG Γk xk (opTo z (l.take k))/\MM Γ w Γk wr [⟨g,zsP zs0 zx0,zsL⟩,⟨gz,zsP (opTo z (l.take k)) xk,zsL⟩] []) (fun j _=>l.length-(intOf j).toNat)
 case atStart=>exact⟨0,Γ,x,Nat.zero_le _,rfl,HG.out,M.out⟩
 case round=>
  obtain⟨k,Γk,xk,hk,rfl,hz,hM⟩:=hrel
  clear M
  have M:=bx hM
  have HZ:=bx hz
  clear hM hz
  have hpl:=PL.out k
  have hbb:=HB.out
  by_cases hkn:k<l.length
  .obtain⟨gk,rfl,hf⟩:=(HS.out.mono M.out.ext.le).at (f:=rc) (fun x _=>Aax x) rfl k hkn
   have F1:Bx (Fz Γk gk (k*32) [rc l[k]] [32]):=⟨hf,lenR _⟩
   have PT':=bx (PT.out k hkn)
   have hki:(k:Int)<(l.length:Int):=by omega
   have hk0:0<=(k:Int):=by omega
   have OP:=bx (fun w ok=>Abs Γk (opTo z (l.take k)) xk l[k] w ok HZ.out)
   have ON:=bx (fun w ok=>Akd Γk (opTo z (l.take k)) xk l[k] 0 w ok HZ.out hpl)
   clear hf
   generalize l[k]=y at *
   generalize hzk:opTo z (l.take k)=zk at *
   unfold opS at PT'
   have EC:=bx (clsE M.out OP.out)
   cases hst:statR zk.s.nodes y 0 with
   |true=>
    rw[hst]at EC PT'
    replace PT':=bx (PT'.out.trans (if_pos rfl))
    clear OP hst
    (go_wp2_with (first|go_skip|(refine zBXo ?_;clear M;intro w' g M)|refine zLAo ?_))
    refine zRG ?_;(repeat(first|go_big_quiet_skip|(go_big_quiet_want;first|(refine zQFo F1 ?_;go_big_quiet_on;refine zNM ?_)|((with_reducible refine Aaw ?_);first|(refine zQC (AaI EC.out) Tryz.func142 ?_;go_big_quiet_on;refine zNM ?_))|(refine zQAo ?_;go_big_quiet_on;refine zNM ?_)|(refine zQO ?_;go_big_quiet_on))));(refine zQN ?_;clear M;intro w4 M)
    clear EC
    (go_wp2_with (first|go_skip|(refine zBXo ?_;clear M;intro w' g M)|refine zLAo ?_))
    refine AaE [6] (.steps [(0,0),(1,1),(1,2),(1,3),(0,4),(2,5),(3,6)] .leaf) (by kernel_rfl) (by kernel_rfl) ?_;(simp only[MixT6,MT.steps,stepAt,List.getD_cons_zero,List.getD_cons_succ]);replace M:=bx (M.out.drew)
    refine zNM ?_
    (repeat(first|refine zM0 ?_|(go_big_quiet_want;first|(refine zQFo F1 ?_;go_big_quiet_on;refine zNM ?_)|(refine zQAo ?_;go_big_quiet_on;refine zNM ?_)|(refine zQO ?_;go_big_quiet_on))))
    refine zMC (ON.out _ M.ok) Tryz.func143 ?_
    rintro e4 w4 ⟨x4,Γ4,rfl,hz4,hx4⟩
    refine⟨_,rfl,hx4.bel,?_⟩
    replace M:=bx (M.out.call hx4)
    have HZ4:=bx hz4
    clear hz4 hx4
    refine zNM ?_
    refine zMRo ?_
    refine AbE M.out 1 (zsP (openZ zk y 0) x4) (zsP (openZ zk y 0) x4) rfl rfl rfl rfl rtZs rfl (AaL _ _) (AaS _ _) rfl rfl ?_
    intro w7 M'
    simp only[List.set_cons_zero,List.set_cons_succ]at M'
    (replace M:=bx M';clear M')
    refine zNM ?_
    refine zMRo ?_
    refine NoPanic.normal ?_
    (go_wp2_with (first|go_skip|(refine zBXo ?_;clear M;intro w' g M)|refine zLAo ?_))
    go_roundw
    case rel=>exact⟨k+1,Γ4,x4,by omega,by go_num,by rw[PT'.out];exact HZ4.out,by rw[PT'.out];exact M.out⟩
    case measure=>simp[intOf]<;>omega
   |false=>
    rw[hst]at EC PT'
    replace PT':=bx (PT'.out.trans (if_neg Bool.false_ne_true))
    clear OP hst
    (go_wp2_with (first|go_skip|(refine zBXo ?_;clear M;intro w' g M)|refine zLAo ?_))
    refine zRG ?_;(repeat(first|go_big_quiet_skip|(go_big_quiet_want;first|(refine zQFo F1 ?_;go_big_quiet_on;refine zNM ?_)|((with_reducible refine Aaw ?_);first|(refine zQC (AaI EC.out) Tryz.func142 ?_;go_big_quiet_on;refine zNM ?_))|(refine zQAo ?_;go_big_quiet_on;refine zNM ?_)|(refine zQO ?_;go_big_quiet_on))));(refine zQN ?_;clear M;intro w4 M)
    clear EC
    (go_wp2_with (first|go_skip|(refine zBXo ?_;clear M;intro w' g M)|refine zLAo ?_))
    go_roundw
    case rel=>exact⟨k+1,Γk,xk,by omega,by go_num,by rw[PT'.out];exact HZ.out,by rw[PT'.out];exact M.out⟩
    case measure=>simp[intOf]<;>omega
  .have hki:(l.length:Int)<=(k:Int):=by omega
   have e:opTo z (l.take k)=opTo z l:=by rw[List.take_of_length_le (by omega)]
   rw[e]at M HZ
   clear e PT PL hpl
   generalize opTo z l=zz at *
   (go_wp2_with (first|go_skip|(refine zBXo ?_;clear M;intro w' g M)|(refine zALo (ztZs) ?_;clear M;intro w' g M)|refine zLAo ?_|(refine zSSo M 0 (zsP zz xk) (zsP zz xk) (AaL _ _) (AaS _ _) ?_;clear M;intro w' M)))
   refine zR M.out.at0 ?_
   exact ZsP.mk _ HZ.out M.out.ext
def cutG(Γ Γ2:Gam)(w:World):Gam:=fun k=>if k<w.heap.size then Γ k else Γ2 k
theorem Ext.cut{Γ Γ1 Γ2:Gam}{w w':World}(ok:Ok Γ w)(h:Ext Γ1 w Γ2 w'):Ext Γ w (cutG Γ Γ2 w) w':=by
 refine⟨fun g cs e=>?_,fun g cs e=>?_,fun g e hg=>?_,h.bel⟩
 .have:g<w.heap.size:=by obtain⟨post,hh⟩:=ok g cs e;exact hh.lt
  unfold cutG;rw[if_pos this];exact e
 .unfold cutG at e
  by_cases hg:g<w.heap.size
  .rw[if_pos hg]at e;exact(ok.below h.bel) g cs e
  .rw[if_neg hg]at e;exact h.ok g cs e
 .unfold cutG;rw[if_pos hg];exact e
theorem SlG.high{Γ Γ2:Gam}{w:World}{A:Option Addr}{n:Nat}{xs:List Value}(h:SlG Γ2 A n xs)(hi:∀g,A=some ⟨g,0,none⟩->w.heap.size<=g):SlG (cutG Γ Γ2 w) A n xs:=fun hn=>by
 obtain⟨g,post,e,hg⟩:=h hn
 exact⟨g,post,e,by unfold cutG;rw[if_neg (by have:=hi g e;omega)];exact hg⟩
theorem MM.frzC{Γ0 Γ:Gam}{w0 w:World}{L:List Ent}{R:List RowE}{A:Option Addr}{c:Nat}{e:TypeId}{size n:Nat}{xs:List Value}(M:MM Γ0 w0 Γ w L (⟨.slice A n c,e,size,n,xs⟩::R)):∃Γ1,CapOk A n c/\SlG Γ1 A n xs/\Le Γ Γ1/\∀w',Below w.heap.size w w'->Ok Γ1 w':=by
 obtain⟨Γ1,h1,h2,h3,h4⟩:=M.frz
 exact⟨Γ1,h1,h2,h3,fun w' hb=>h4.ext.ok.below hb⟩
def OpnP(Γ:Gam)(w:World)(z:Zst)(x:Zls)(r:Rt)(n:Int)(e:Ending)(w':World):Prop:=∃(A:Option Addr) (c:Nat) (Γ':Gam),e=.returned (.agg (fl (zsP (openZ z r n) {x with reqs:=⟨A,x.reqs.n+1,c⟩})).toArray)/\CapOk A (x.reqs.n+1) c /\
 SlG Γ' A (x.reqs.n+1) (z.reqs.flatMap rqx++fl (rqP ⟨z.ntag,r,n,u0⟩))/\(∀g,A=some ⟨g,0,none⟩->w.heap.size<=g)/\Ext Γ w Γ' w'
theorem AjF(Γ:Gam)(z:Zst)(x:Zls)(r:Rt)(n:Int)(w:World)(ok:Ok Γ w)(h:ZsG Γ x z)(hb:z.reqs.length<=30000) :
  Calls Tryz.prog 143 #[.agg (fl (zsP z x)).toArray,.agg (rc r).toArray,.int .i64 n] w (OpnP Γ w z x r n):=by
 have M:=bx (MM.start ok)
 have HG:=bx h
 have LN:=bx h.reqs.n
 have hrn:x.reqs.n<=30000:=by rw[h.reqs.n];exact hb
 have ROW:Bx (∀{Γ':Gam} w',Ok Γ' w'->Le Γ Γ'->Row w' w'.heap.size 35 x.reqs.A x.reqs.n (z.reqs.flatMap rqx)):=⟨fun w' o hle=>(h.reqs.sl.mono hle).row (size:=35) (by rw[Aap z.reqs (fun x _=>AbM x),h.reqs.n]) o⟩
 have CAP:=bx h.reqs.cap.nil
 have OneX:Bx (One (z.reqs.flatMap rqx)):=⟨Ab4 fun x _=>AbI x⟩
 have hw:=Af3 z.ntag
 have hlt:=z.ntag.lt
 clear ok h hb
 change Calls Tryz.prog _ #[_,.agg (fl [rc r]).toArray,_] _ _
 go_enter Tryz.func143,Tryz.ntmps143
 (go_wp2_with (first|go_skip|(refine zBXo ?_;clear M;intro w' g M)|(refine zALo (ztZs) ?_;clear M;intro w' g M)|(refine zALo (ztRq) ?_;clear M;intro w' g M)|refine zLAo ?_|refine zBDo 126 [(0,.int .u64 (z.ntag.n:Int))] (fl [[.int .u64 (z.ntag.n:Int)]]) (AcL _) ?_|refine zBDo 176 [(0,.agg (fl [[.int .u64 (z.ntag.n:Int)]]).toArray),(1,.agg (rc r).toArray),(2,.int .i64 n)] (fl (rqP ⟨z.ntag,r,n,u0⟩)) (AiI _ _ _) ?_|(refine zSSo M 0 (rqP ⟨z.ntag,r,n,u0⟩) (rqP ⟨z.ntag,r,n,u0⟩) (AaX _) (AbI _) ?_;clear M;intro w' M)))
 refine AaE [5,7] (.steps [(1,0),(0,1),(0,3)] (.fork 2 (.steps [(2,4),(3,5),(1,6),(3,7)] .leaf) 4 (.steps [(2,2),(3,5),(1,6),(3,7)] .leaf))) (by kernel_rfl) (by kernel_rfl) ?_;(simp only[MixT6,MT.steps,stepAt,List.getD_cons_zero,List.getD_cons_succ]);replace M:=bx (M.out.drew)
 refine zNM ?_
 refine zMRo ?_
 refine⟨?_,?_⟩
 ·(obtain⟨A1,c1,w1,hr,hM,hb⟩:=Aam elRq M.out 50 x.reqs.A x.reqs.n x.reqs.c _ (ROW.out _ M.ok M.out.ext.le) CAP.out OneX.out (by unfold maxLen;omega) (by omega));refine AaB (AaG rfl rfl rfl hr) rfl ?_;refine⟨hb,?_⟩;clear M;have M:=bx hM;clear hM hr hb;refine zNM ?_
  refine AaB (Aa3 elRq rfl rfl (v:=.agg (fl (rqP ⟨z.ntag,r,n,u0⟩)).toArray) (cs:=fl (rqP ⟨z.ntag,r,n,u0⟩)) rfl (AbM _)) rfl ?_;refine⟨ext_alloc _ _,?_⟩;replace M:=bx (M.out.alloc (P:=(rqP ⟨z.ntag,r,n,u0⟩)) (AaX _) rfl 176);refine zNM ?_
  (obtain⟨v5,w5,hr,hM⟩:=AaU elRq M.out 50 _ 1 1 _ (Aae M.out.at0 (m:=1) rfl) (fun h=>by cases h) (AbI _) (by unfold maxLen;omega) (by omega));refine AaB (AaG rfl rfl rfl hr) rfl ?_;replace M:=bx (hM.tail);clear hr hM;refine zNM ?_;refine zMRo ?_;(obtain⟨A6,c6,e6⟩:=own_slice (M.out.rows _ (List.mem_cons_self ..));simp only at e6;subst e6);refine AbL M.out 3 (.slice A6 (x.reqs.n+1) c6) (zsP {z with reqs:=z.reqs ++ [⟨z.ntag,r,n,u0⟩]} {x with reqs:=⟨A6,x.reqs.n+1,c6⟩}) rfl rfl rfl rfl Afi rfl rfl rfl rfl rfl rfl ?_;intro w7 M';(simp only[List.set_cons_zero,List.set_cons_succ]at M');(replace M:=bx M';clear M');refine zNM ?_;refine zMRo ?_;refine NoPanic.normal ?_;(go_wp2_with (first|go_skip|(refine zBXo ?_;clear M;intro w' g M)|(refine zALo (ztZs) ?_;clear M;intro w' g M)|(refine zALo (ztRq) ?_;clear M;intro w' g M)|refine zLAo ?_|(refine zS1o M 3 (.int .u64 ((uInc z.ntag).n:Int)) (zsP (openZ z r n) {x with reqs:=⟨A6,x.reqs.n+1,c6⟩}) ?_;clear M;intro w' M)|(refine zSSo M 1 (zsP (openZ z r n) {x with reqs:=⟨A6,x.reqs.n+1,c6⟩}) (zsP (openZ z r n) {x with reqs:=⟨A6,x.reqs.n+1,c6⟩}) (AaL _ _) (AaS _ _) ?_;clear M;intro w' M)));have LO:=bx (fun g (e:A6=some ⟨g,0,none⟩)=>((M.out.rows _ (List.mem_cons_self ..)).lt g (by rw[e];rfl)).1);obtain⟨Γ',h1,h2,h3,h4⟩:=M.out.frz;refine zR h4.at1 ?_;exact⟨A6,c6,Γ',rfl,h1,h2,LO.out,h4.ext⟩
 .refine AaB (Aa3 elRq rfl rfl (v:=.agg (fl (rqP ⟨z.ntag,r,n,u0⟩)).toArray) (cs:=fl (rqP ⟨z.ntag,r,n,u0⟩)) rfl (AbM _)) rfl ?_;refine⟨ext_alloc _ _,?_⟩;replace M:=bx (M.out.alloc (P:=(rqP ⟨z.ntag,r,n,u0⟩)) (AaX _) rfl 176);refine zNM ?_
  (obtain⟨A1,c1,w1,hr,hM,hb⟩:=Aam elRq M.out 50 x.reqs.A x.reqs.n x.reqs.c _ (ROW.out _ M.ok M.out.ext.le) CAP.out OneX.out (by unfold maxLen;omega) (by omega));refine AaB (AaG rfl rfl rfl hr) rfl ?_;refine⟨hb,?_⟩;clear M;have M:=bx hM;clear hM hr hb;refine zNM ?_
  (obtain⟨v5,w5,hr,hM⟩:=AaU elRq M.out 50 _ 1 1 _ (Aae M.out.at0 (m:=1) rfl) (fun h=>by cases h) (AbI _) (by unfold maxLen;omega) (by omega));refine AaB (AaG rfl rfl rfl hr) rfl ?_;replace M:=bx (hM.tail);clear hr hM;refine zNM ?_;refine zMRo ?_;(obtain⟨A6,c6,e6⟩:=own_slice (M.out.rows _ (List.mem_cons_self ..));simp only at e6;subst e6);refine AbL M.out 3 (.slice A6 (x.reqs.n+1) c6) (zsP {z with reqs:=z.reqs ++ [⟨z.ntag,r,n,u0⟩]} {x with reqs:=⟨A6,x.reqs.n+1,c6⟩}) rfl rfl rfl rfl Afi rfl rfl rfl rfl rfl rfl ?_;intro w7 M';(simp only[List.set_cons_zero,List.set_cons_succ]at M');(replace M:=bx M';clear M');refine zNM ?_;refine zMRo ?_;refine NoPanic.normal ?_;(go_wp2_with (first|go_skip|(refine zBXo ?_;clear M;intro w' g M)|(refine zALo (ztZs) ?_;clear M;intro w' g M)|(refine zALo (ztRq) ?_;clear M;intro w' g M)|refine zLAo ?_|(refine zS1o M 3 (.int .u64 ((uInc z.ntag).n:Int)) (zsP (openZ z r n) {x with reqs:=⟨A6,x.reqs.n+1,c6⟩}) ?_;clear M;intro w' M)|(refine zSSo M 1 (zsP (openZ z r n) {x with reqs:=⟨A6,x.reqs.n+1,c6⟩}) (zsP (openZ z r n) {x with reqs:=⟨A6,x.reqs.n+1,c6⟩}) (AaL _ _) (AaS _ _) ?_;clear M;intro w' M)));have LO:=bx (fun g (e:A6=some ⟨g,0,none⟩)=>((M.out.rows _ (List.mem_cons_self ..)).lt g (by rw[e];rfl)).1);obtain⟨Γ',h1,h2,h3,h4⟩:=M.out.frz;refine zR h4.at1 ?_;exact⟨A6,c6,Γ',rfl,h1,h2,LO.out,h4.ext⟩
def dueS(z:Zst)(q:Rq):Zst:=if z.s.now.n<q.due.n then {z with rets:=z.rets ++ [q]}else if statR z.s.nodes q.block 0=true then openZ z q.block q.tries else z
def dueTo(z:Zst)(l:List Rq):Zst:=l.foldl dueS {z with rets:=[]}
def dueZ(z:Zst):Zst:=dueTo z z.rets
theorem Am8(l:List Rq):∀y:Zst,(l.foldl dueS y).s=y.s/\(l.foldl dueS y).reqs.length<=y.reqs.length+l.length/\(l.foldl dueS y).rets.length<=y.rets.length+l.length:=by
 induction l with
 |nil=>intro y;simp
 |cons a t ih=>
  intro y
  obtain⟨h1,h2,h3⟩:=ih (dueS y a)
  have h4:(dueS y a).s=y.s/\(dueS y a).reqs.length<=y.reqs.length+1/\(dueS y a).rets.length<=y.rets.length+1:=by
   unfold dueS
   split
   .simp
   .split<;>simp[openZ]
  simp only[List.foldl_cons,List.length_cons]
  exact⟨h1.trans h4.1,by omega,by omega⟩
theorem Ajm(z:Zst)(l:List Rq):(dueTo z l).s=z.s/\(dueTo z l).reqs.length<=z.reqs.length+l.length/\(dueTo z l).rets.length<=l.length:=by
 have:=Am8 l {z with rets:=[]}
 simpa [dueTo]using this
theorem AmF(Γ:Gam)(z:Zst)(x:Zls)(w:World)(ok:Ok Γ w)(h:ZsG Γ x z)(hb:z.reqs.length<=15000)(hb2:z.rets.length<=15000) :
  Calls Tryz.prog 117 #[.agg (fl (zsP z x)).toArray] w (ZsP Γ w (dueZ z)):=by
 have M:=bx (MM.start ok)
 have HG:=bx h
 have PT:Bx (∀k (hk:k<z.rets.length),dueTo z (z.rets.take (k+1))=dueS (dueTo z (z.rets.take k)) z.rets[k]):=⟨fun k hk=>Abh dueS _ hk⟩
 have PS:Bx (∀k,(dueTo z (z.rets.take k)).s=z.s/\(dueTo z (z.rets.take k)).reqs.length<=30000/\(dueTo z (z.rets.take k)).rets.length<=15000):=⟨fun k=>by
  obtain⟨h1,h2,h3⟩:=Ajm z (z.rets.take k)
  have h4:(z.rets.take k).length<=z.rets.length:=by rw[List.length_take];omega
  exact⟨h1,by omega,by omega⟩⟩
 have HB:=bx hb2
 obtain⟨A0,c0,hv,hsl⟩:∃A0 c0,x.rets.v=.slice A0 z.rets.length c0/\SlG Γ A0 z.rets.length (z.rets.flatMap rqx):=⟨x.rets.A,x.rets.c,by rw[<-h.rets.n],by have:=h.rets.sl;rwa [h.rets.n]at this⟩
 have HV:=bx hv
 have HS:=bx hsl
 have HDZ:Bx (dueZ z=dueTo z (z.rets.take z.rets.length)):=⟨by unfold dueZ;rw[List.take_of_length_le (Nat.le_refl _)]⟩
 have hret:Bx (dueTo z (z.rets.take 0) = {z with rets:=[]}):=⟨rfl⟩
 clear ok h hb hb2 hv hsl
 go_enter Tryz.func117,Tryz.ntmps117
 (go_wp2_with (first|go_skip|(refine zBXo ?_;clear M;intro w' g M)|(refine zALo (ztZs) ?_;clear M;intro w' g M)|refine zLHo HV ?_|(refine zS1o M 1 (.slice none 0 0) (zsP {z with rets:=[]} {x with rets:=sl0}) ?_;clear M;intro w' M)|refine zLAo ?_))
 rename_i gz _ _ _
 go_loopw [4] (fun j wr=>∃(k:Nat) (Γk:Gam) (xr:Sl) (A:Option Addr) (c:Nat),k<=z.rets.length/\j=.int .i64 k/\SlR Γk xr (dueTo z (z.rets.take k)).reqs.length ((dueTo z (z.rets.take k)).reqs.flatMap rqx) /\
  MM Γ w Γk wr [⟨g,zsP zs0 zx0,zsL⟩,⟨gz,zsP (dueTo z (z.rets.take k)) ⟨x.s,xr,⟨A,(dueTo z (z.rets.take k)).rets.length,c⟩⟩,zsL⟩] [⟨.slice A (dueTo z (z.rets.take k)).rets.length c,176,35,(dueTo z (z.rets.take k)).rets.length,(dueTo z (z.rets.take k)).rets.flatMap rqx⟩]) (fun j _=>z.rets.length-(intOf j).toNat)
 case atStart=>exact⟨0,Γ,x.reqs,none,0,Nat.zero_le _,rfl,by rw[hret.out];exact HG.out.reqs,by rw[hret.out];exact M.out.row0 _ _⟩
 case round=>
  obtain⟨k,Γk,xr,A,c,hk,rfl,hrq,hM⟩:=hrel
  clear M
  have M:=bx hM
  have HQ:=bx hrq
  clear hM hrq
  have hbb:=HB.out
  obtain⟨ps1,ps2,ps3⟩:=PS.out k
  have PS1:=bx ps1
  clear ps1
  by_cases hkn:k<z.rets.length
  .obtain⟨gk,rfl,hf⟩:=(HS.out.mono M.out.ext.le).at (f:=rqx) (fun x _=>AbM x) rfl k hkn
   have F1:Bx (Fz Γk gk (k*35) (rqP z.rets[k]) [1,32,1,1]):=⟨hf,AaX _⟩
   have PT':=bx (PT.out k hkn)
   have hki:(k:Int)<(z.rets.length:Int):=by omega
   have hk0:0<=(k:Int):=by omega
   clear hf HDZ hret
   generalize z.rets[k]=y at *
   generalize hzk:dueTo z (z.rets.take k)=zk at *
   generalize hzk1:dueTo z (z.rets.take (k+1))=zk1 at *
   have HS1:Bx (StG Γ x.s zk.s):=⟨by rw[PS1.out];exact HG.out.s⟩
   unfold dueS at PT'
   by_cases hd:zk.s.now.n<y.due.n
   .have hd':(zk.s.now.n:Int)<(y.due.n:Int):=by omega
    replace PT':=bx (PT'.out.trans (if_pos hd))
    clear hd
    (go_wp2_with (first|go_skip|(refine zBXo ?_;clear M;intro w' g M)|refine zLAo ?_))
    refine zRG ?_;(repeat(first|go_big_quiet_skip|(go_big_quiet_want;first|(refine zQFo F1 ?_;go_big_quiet_on;refine zNM ?_)|(refine zQAo ?_;go_big_quiet_on;refine zNM ?_)|(refine zQO ?_;go_big_quiet_on))));(refine zQN ?_;clear M;intro w4 M)
    (go_wp2_with (first|go_skip|(refine zBXo ?_;clear M;intro w' g M)|refine zLAo ?_))
    refine AaE [7,9] (.steps [(1,0),(0,1),(1,2),(1,3),(1,4),(0,5),(2,6),(3,7),(1,8),(3,9)] .leaf) (by kernel_rfl) (by kernel_rfl) ?_;(simp only[MixT6,MT.steps,stepAt,List.getD_cons_zero,List.getD_cons_succ]);replace M:=bx (M.out.drew)
    refine zNM ?_
    (repeat(first|refine zM0 ?_|(go_big_quiet_want;first|(refine zQFo F1 ?_;go_big_quiet_on;refine zNM ?_)|(refine zQAo ?_;go_big_quiet_on;refine zNM ?_)|(refine zQO ?_;go_big_quiet_on))))
    refine AaB (Aa3 elRq rfl rfl (v:=.agg (fl (rqP y)).toArray) (cs:=fl (rqP y)) rfl (AbM _)) rfl ?_;refine⟨ext_alloc _ _,?_⟩;replace M:=bx (M.out.alloc (P:=(rqP y)) (AaX _) rfl 176);refine zNM ?_
    (obtain⟨v5,w5,hr,hM⟩:=AaU elRq M.out 50 _ 1 1 _ (Aae M.out.at0 (m:=1) rfl) (fun h=>by cases h) (AbI _) (by unfold maxLen;omega) (by omega));refine AaB (AaG rfl rfl rfl hr) rfl ?_;replace M:=bx (hM.tail);clear hr hM;refine zNM ?_
    refine zMRo ?_
    (obtain⟨A6,c6,e6⟩:=own_slice (M.out.rows _ (List.mem_cons_self ..));simp only at e6;subst e6)
    refine AbL M.out 1 (.slice A6 (zk.rets.length+1) c6) (zsP {zk with rets:=zk.rets ++ [y]} ⟨x.s,xr,⟨A6,zk.rets.length+1,c6⟩⟩) rfl rfl rfl rfl Afi rfl rfl rfl rfl rfl rfl ?_
    intro w7 M'
    simp only[List.set_cons_zero,List.set_cons_succ]at M'
    (replace M:=bx M';clear M')
    refine zNM ?_
    refine zMRo ?_
    refine NoPanic.normal ?_
    (go_wp2_with (first|go_skip|(refine zBXo ?_;clear M;intro w' g M)|refine zLAo ?_))
    go_roundw
    case rel=>
     refine⟨k+1,Γk,xr,A6,c6,by omega,by go_num,by rw[hzk1,PT'.out];exact HQ.out,?_⟩
     rw[hzk1,PT'.out]
     simp only[List.flatMap_append,List.flatMap_cons,List.flatMap_nil,List.append_nil,List.length_append,List.length_cons,List.length_nil,Nat.zero_add]
     exact M.out
    case measure=>simp[intOf]<;>omega
   .have hd':¬(y.due.n:Int)>(zk.s.now.n:Int):=by omega
    replace PT':=bx (PT'.out.trans (if_neg hd))
    clear hd
    cases hst:statR zk.s.nodes y.block 0 with
    |true=>
     replace PT':=bx (PT'.out.trans (if_pos hst))
     (go_wp2_with (first|go_skip|(refine zBXo ?_;clear M;intro w' g M)|refine zLAo ?_))
     refine zRG ?_;(repeat(first|go_big_quiet_skip|(go_big_quiet_want;first|(refine zQFo F1 ?_;go_big_quiet_on;refine zNM ?_)|(refine zQAo ?_;go_big_quiet_on;refine zNM ?_)|(refine zQO ?_;go_big_quiet_on))));(refine zQN ?_;clear M;intro w4 M)
     (go_wp2_with (first|go_skip|(refine zBXo ?_;clear M;intro w' g M)|refine zLAo ?_))
     obtain⟨Γ1,r1,r2,r3,r4⟩:=M.out.frzC;have HZ:Bx (ZsG Γ1 ⟨x.s,xr,⟨A,zk.rets.length,c⟩⟩ zk):=⟨(HS1.out.mono M.out.ext.le).mono r3,HQ.out.mono r3,⟨rfl,r1,r2⟩⟩;have R4:=bx r4;clear r1 r2 r3 r4
     have OP:=bx (fun w' (hw:Cls _ _ w')=>Abs Γ1 zk ⟨x.s,xr,⟨A,zk.rets.length,c⟩⟩ y.block w' (R4.out w' hw.out) HZ.out)
     rw[hst]at OP
     clear hst HZ R4
     refine zRG ?_;(repeat(first|go_big_quiet_skip|(go_big_quiet_want;first|(refine zQFo F1 ?_;go_big_quiet_on;refine zNM ?_)|((with_reducible refine Aaw ?_);first|(refine zQC (AaI OP.out) Tryz.func142 ?_;go_big_quiet_on;refine zNM ?_))|(refine zQAo ?_;go_big_quiet_on;refine zNM ?_)|(refine zQO ?_;go_big_quiet_on))));(refine zQN ?_;clear M;intro w4 M)
     clear OP
     (go_wp2_with (first|go_skip|(refine zBXo ?_;clear M;intro w' g M)|refine zLAo ?_))
     refine AaE [12] (.steps [(0,0),(1,1),(1,2),(1,3),(1,4),(0,5),(1,6),(1,7),(1,8),(1,9),(0,10),(2,11),(3,12)] .leaf) (by kernel_rfl) (by kernel_rfl) ?_;(simp only[MixT6,MT.steps,stepAt,List.getD_cons_zero,List.getD_cons_succ]);replace M:=bx (M.out.drew)
     refine zNM ?_
     (repeat(first|refine zM0 ?_|(go_big_quiet_want;first|(refine zQFo F1 ?_;go_big_quiet_on;refine zNM ?_)|(refine zQAo ?_;go_big_quiet_on;refine zNM ?_)|(refine zQO ?_;go_big_quiet_on))))
     obtain⟨Γ1,r1,r2,r3,r4⟩:=M.out.frzC;have HZ:Bx (ZsG Γ1 ⟨x.s,xr,⟨A,zk.rets.length,c⟩⟩ zk):=⟨(HS1.out.mono M.out.ext.le).mono r3,HQ.out.mono r3,⟨rfl,r1,r2⟩⟩;have R4:=bx r4;clear r1 r2 r3 r4
     refine zMC (AjF Γ1 zk ⟨x.s,xr,⟨A,zk.rets.length,c⟩⟩ y.block y.tries _ (R4.out _ (Below.refl _ _)) HZ.out ps2) Tryz.func143 ?_
     clear HZ R4
     rintro e4 w4 ⟨A4,c4,Γ4,rfl,hc4,hs4,hlo4,hx4⟩
     refine⟨_,rfl,hx4.bel,?_⟩
     have hx5:=Ext.cut M.ok hx4
     have hs5:=SlG.high (Γ:=Γk) hs4 hlo4
     have HQ4:=bx (Ag9 HQ.out.n hc4 hs5)
     replace M:=bx (M.out.call hx5)
     clear hx4 hx5 hc4 hs4 hlo4 hs5
     generalize cutG Γk Γ4 _=Γ5 at *
     refine zNM ?_
     refine zMRo ?_
     refine AbE M.out 1 (zsP (openZ zk y.block y.tries) ⟨x.s,⟨A4,xr.n+1,c4⟩,⟨A,zk.rets.length,c⟩⟩) (zsP (openZ zk y.block y.tries) ⟨x.s,⟨A4,xr.n+1,c4⟩,⟨A,zk.rets.length,c⟩⟩) rfl rfl rfl rfl rtZs rfl (AaL _ _) (AaS _ _) rfl rfl ?_
     intro w7 M'
     simp only[List.set_cons_zero,List.set_cons_succ]at M'
     (replace M:=bx M';clear M')
     refine zNM ?_
     refine zMRo ?_
     refine NoPanic.normal ?_
     (go_wp2_with (first|go_skip|(refine zBXo ?_;clear M;intro w' g M)|refine zLAo ?_))
     go_roundw
     case rel=>exact⟨k+1,Γ5,⟨A4,xr.n+1,c4⟩,A,c,by omega,by go_num,by rw[hzk1,PT'.out];exact HQ4.out,by rw[hzk1,PT'.out];exact M.out⟩
     case measure=>simp[intOf]<;>omega
    |false=>
     replace PT':=bx (PT'.out.trans (if_neg (by rw[hst];exact Bool.false_ne_true)))
     (go_wp2_with (first|go_skip|(refine zBXo ?_;clear M;intro w' g M)|refine zLAo ?_))
     refine zRG ?_;(repeat(first|go_big_quiet_skip|(go_big_quiet_want;first|(refine zQFo F1 ?_;go_big_quiet_on;refine zNM ?_)|(refine zQAo ?_;go_big_quiet_on;refine zNM ?_)|(refine zQO ?_;go_big_quiet_on))));(refine zQN ?_;clear M;intro w4 M)
     (go_wp2_with (first|go_skip|(refine zBXo ?_;clear M;intro w' g M)|refine zLAo ?_))
     obtain⟨Γ1,r1,r2,r3,r4⟩:=M.out.frzC;have HZ:Bx (ZsG Γ1 ⟨x.s,xr,⟨A,zk.rets.length,c⟩⟩ zk):=⟨(HS1.out.mono M.out.ext.le).mono r3,HQ.out.mono r3,⟨rfl,r1,r2⟩⟩;have R4:=bx r4;clear r1 r2 r3 r4
     have OP:=bx (fun w' (hw:Cls _ _ w')=>Abs Γ1 zk ⟨x.s,xr,⟨A,zk.rets.length,c⟩⟩ y.block w' (R4.out w' hw.out) HZ.out)
     rw[hst]at OP
     clear hst HZ R4
     refine zRG ?_;(repeat(first|go_big_quiet_skip|(go_big_quiet_want;first|(refine zQFo F1 ?_;go_big_quiet_on;refine zNM ?_)|((with_reducible refine Aaw ?_);first|(refine zQC (AaI OP.out) Tryz.func142 ?_;go_big_quiet_on;refine zNM ?_))|(refine zQAo ?_;go_big_quiet_on;refine zNM ?_)|(refine zQO ?_;go_big_quiet_on))));(refine zQN ?_;clear M;intro w4 M)
     clear OP
     (go_wp2_with (first|go_skip|(refine zBXo ?_;clear M;intro w' g M)|refine zLAo ?_))
     go_roundw
     case rel=>exact⟨k+1,Γk,xr,A,c,by omega,by go_num,by rw[hzk1,PT'.out];exact HQ.out,by rw[hzk1,PT'.out];exact M.out⟩
     case measure=>simp[intOf]<;>omega
  .have hki:(z.rets.length:Int)<=(k:Int):=by omega
   obtain rfl:k=z.rets.length:=by omega
   rw[<-HDZ.out]at M HQ PS1
   clear PT PS ps2 ps3 hret
   rw[HDZ.out]at *
   generalize dueTo z (z.rets.take z.rets.length)=zz at *
   (go_wp2_with (first|go_skip|(refine zBXo ?_;clear M;intro w' g M)|(refine zALo (ztZs) ?_;clear M;intro w' g M)|(refine zSSo M 0 (zsP zz ⟨x.s,xr,⟨A,zz.rets.length,c⟩⟩) (zsP zz ⟨x.s,xr,⟨A,zz.rets.length,c⟩⟩) (AaL _ _) (AaS _ _) ?_;clear M;intro w' M)|refine zLAo ?_))
   have HS1:Bx (StG Γ x.s zz.s):=⟨by rw[PS1.out];exact HG.out.s⟩
   obtain⟨Γ',h1,h2,h3,h4⟩:=M.out.frz
   refine zR h4.at0 ?_
   exact ZsP.mk _ ⟨HS1.out.mono h4.ext.le,HQ.out.mono h3,⟨rfl,h1,h2⟩⟩ h4.ext
def SlaP(Γ:Gam)(w:World)(s:Sto)(x:Slh)(e:Ending)(w':World):Prop:=
 (∃er:Int,er≠0/\er≠21/\StE Γ w er st0 e w')\/(VList x.a.l (s.bal.length:Int)/\VList x.b.l (s.bal.length:Int)/\StE Γ w 0 {s with eqv:=punI s.eqv (culI x)} e w')
theorem Ai1(Γ:Gam)(s:Sto)(v:Sls)(x:Slh)(y z:Sl)(w:World)(ok:Ok Γ w)(h:StG Γ v s)(hx:SlG2 Γ x y z)(hb:x.a.l.length<=30000)(hb2:x.b.l.length<=30000)(he:s.eqv.length<=30000) :
  Calls Tryz.prog 122 #[.agg (fl (stP s v)).toArray,.agg (fl (slP x y z)).toArray] w (SlaP Γ w s x):=by
 have M:=bx (MM.start ok)
 have HG:=bx h
 have VA:=bx (fun w ok=>AcM Γ s v w ok h)
 have VS:=bx (fun w ok=>AiQ Γ x y z (s.bal.length:Int) w ok hx hb hb2)
 have CU:=bx (fun w ok=>Ad4 Γ x y z w ok hx hb hb2)
 have CL:Bx ((culI x).length<=30000):=⟨by
  have:=Aen x x.a.l.length
  have e:culTo x x.a.l.length=culI x:=by unfold culTo culI;rw[List.take_of_length_le (Nat.le_refl _)]
  rw[e]at this;omega⟩
 have PU:Bx (∀(Γ':Gam) (A:Option Addr) (c:Nat) w,Ok Γ' w->Le Γ Γ'->SlG Γ' A (culI x).length (ints .i64 (culI x))->Calls Tryz.prog 150 #[v.eqv.v,.slice A (culI x).length c] w (PunP Γ' w (punI s.eqv (culI x)) ((punI s.eqv (culI x)).length-s.eqv.length))):=⟨fun Γ' A c w ok hl hs=>by
  have h1:=h.eqv.sl.mono hl
  have h2:=h.eqv.cap
  rw[h.eqv.n]at h1 h2
  have e:v.eqv.v=.slice v.eqv.A s.eqv.length v.eqv.c:=by rw[<-h.eqv.n]
  rw[e]
  exact AiY Γ' v.eqv.A A v.eqv.c c s.eqv (culI x) w ok h1 h2 hs he CL.out⟩
 clear ok h hx hb hb2 he
 generalize hcu:culI x=cu at *
 have HCU:=bx hcu
 clear hcu
 generalize hpu:punI s.eqv cu=pu at *
 have HPU:=bx hpu
 clear hpu
 go_enter Tryz.func122,Tryz.ntmps122
 (go_wp2_with (first|go_skip|(refine zBXd ?_;clear M;intro w' g M)|(refine zALd (ztSt) ?_;clear M;intro w' g M)|refine zLAd ?_|refine zBDd 49 [] (fl (stP st0 x0)) (by kernel_rfl) ?_|fail))
 refine AaE [] (.steps [(0,0),(0,1),(2,2),(2,3),(1,4)] .leaf) (by kernel_rfl) (by kernel_rfl) ?_;(simp only[MixT6,MT.steps,stepAt,List.getD_cons_zero,List.getD_cons_succ]);replace M:=bx (M.out.drew)
 refine zMRd ?_
 refine zMC (VA.out _ M.ok) Tryz.func149 ?_
 rintro e2 w2 ⟨rfl,hx2⟩
 refine⟨_,rfl,hx2.bel,?_⟩
 replace M:=bx (M.out.call hx2)
 clear hx2
 refine zNM ?_
 refine zMC (VS.out _ M.ok) Tryz.func148 ?_
 rintro e3 w3 ⟨er,rfl,hv,hx3⟩
 refine⟨_,rfl,hx3.bel,?_⟩
 replace M:=bx (M.out.call hx3)
 have HV:=bx hv
 clear hv hx3
 refine zNM ?_
 refine zMRd ?_
 refine NoPanic.normal ?_
 by_cases h0:er=0
 .subst h0
  (go_wp2_with (first|go_skip|(refine zBXd ?_;clear M;intro w' g M)|(refine zALd (ztSt) ?_;clear M;intro w' g M)|refine zLAd ?_|refine zBDd 49 [] (fl (stP st0 x0)) (by kernel_rfl) ?_|fail))
  refine AaE [] (.steps [(1,0),(1,1),(0,2),(0,3),(2,4),(2,5),(1,6),(1,7),(1,8),(1,9),(1,10)] .leaf) (by kernel_rfl) (by kernel_rfl) ?_;(simp only[MixT6,MT.steps,stepAt,List.getD_cons_zero,List.getD_cons_succ]);replace M:=bx (M.out.drew)
  refine zMRd ?_
  refine zMC (CU.out _ M.ok) Tryz.func151 ?_
  rintro e4 w4 ⟨A4,c4,Γ4,rfl,hc4,hs4,hx4⟩
  refine⟨_,rfl,hx4.bel,?_⟩
  replace M:=bx (M.out.call hx4)
  have HS4:=bx hs4
  clear hc4 hs4 hx4
  refine zNM ?_
  refine zMC (PU.out _ A4 c4 _ M.ok M.out.ext.le HS4.out) Tryz.func150 ?_
  rintro e5 w5 ⟨A5,c5,Γ5,rfl,hc5,hs5,hx5⟩
  refine⟨_,rfl,hx5.bel,?_⟩
  replace M:=bx (M.out.call hx5)
  have HC5:=bx hc5
  have HS5:=bx hs5
  clear hc5 hs5 hx5
  refine zNM ?_
  refine zMRd ?_
  refine NoPanic.normal ?_
  by_cases hn:((pu.length:Int)-(s.eqv.length:Int)==0)=true
  ·(go_wp2_with (first|go_skip|(refine zBXd ?_;clear M;intro w' g M)|(refine zALd (ztSt) ?_;clear M;intro w' g M)|refine zLAd ?_|refine zBDd 49 [] (fl (stP st0 x0)) (by kernel_rfl) ?_|(refine zSSd M 0 (stP st0 x0) (stP st0 x0) (AaD _ _) (Aac _ _) ?_;clear M;intro w' M)))
   refine zRt M.out.at0 ?_
   exact .inl ⟨_,by decide,by decide,StE.err M.out.ext⟩
  .have hn':((pu.length:Int)-(s.eqv.length:Int)==0)=false:=by simpa using hn
   clear hn
   (go_wp2_with (first|go_skip|(refine zBXd ?_;clear M;intro w' g M)|(refine zALd (ztSt) ?_;clear M;intro w' g M)|refine zLAd ?_|refine zBDd 49 [] (fl (stP st0 x0)) (by kernel_rfl) ?_|(refine zS1d M 2 (.slice A5 pu.length c5) (stP {s with eqv:=pu} {v with eqv:=⟨A5,pu.length,c5⟩}) ?_;clear M;intro w' M)|(refine zSSd M 0 (stP {s with eqv:=pu} {v with eqv:=⟨A5,pu.length,c5⟩}) (stP {s with eqv:=pu} {v with eqv:=⟨A5,pu.length,c5⟩}) (AaD _ _) (Aac _ _) ?_;clear M;intro w' M)))
   refine zRt M.out.at0 ?_
   refine .inr ⟨(HV.out.1 (by simp)).1,(HV.out.1 (by simp)).2,?_⟩
   rw[HCU.out,HPU.out]
   exact StE.mk _ {HG.out.mono M.out.ext.le with eqv:=⟨rfl,HC5.out,HS5.out⟩} M.out.ext
 .have h0b:(er==0)=false:=beq_eq_false_iff_ne.2 h0
  have H0:=bx h0
  clear h0
  (go_wp2_with (first|go_skip|(refine zBXd ?_;clear M;intro w' g M)|(refine zALd (ztSt) ?_;clear M;intro w' g M)|refine zLAd ?_|refine zBDd 49 [] (fl (stP st0 x0)) (by kernel_rfl) ?_|(refine zSSd M 0 (stP st0 x0) (stP st0 x0) (AaD _ _) (Aac _ _) ?_;clear M;intro w' M)))
  refine zRt M.out.at0 ?_
  exact .inl ⟨_,H0.out,HV.out.2,StE.err M.out.ext⟩
end Go.Proofs.YtmgeheaneohldaaGreat
namespace Go.Proofs.YtmgeheaneohldaaGreat
open Go.RowKit
theorem Ad3{base:Nat}{e:TypeId}{size g n cap:Nat}:∀(vs mid pre post:List Value) (w:World),mid.length=vs.length->w.ownsRow base e size (.slice (some ⟨g,0,none⟩) n cap) n (pre++mid++post) ->
  (w.setCells g pre.length vs).ownsRow base e size (.slice (some ⟨g,0,none⟩) n cap) n (pre++vs++post)/\w.grownBy (w.setCells g pre.length vs) (some g)
 |[],mid,pre,post,w,hl,h=>by
  have:mid = []:=List.eq_nil_of_length_eq_zero (by simpa using hl)
  subst this
  exact⟨h,World.grownBy.refl _ _⟩
 |v::vs,[],pre,post,w,hl,h=>by simp at hl
 |v::vs,m::mid,pre,post,w,hl,h=>by
  obtain⟨h1,h2⟩:=h.stored pre.length v
  have e1:(pre++(m::mid)++post).set pre.length v=(pre ++ [v])++mid++post:=by simp
  rw[e1]at h1
  obtain⟨q1,q2⟩:=Ad3 vs mid (pre ++ [v]) post _ (by simpa using hl) h1
  have e2:(pre ++ [v]).length=pre.length+1:=by simp
  rw[e2]at q1 q2
  refine⟨?_,Aej h2 q2⟩
  have q1':(w.setCells g pre.length (v::vs)).ownsRow base e size (.slice (some ⟨g,0,none⟩) n cap) n (pre ++ [v]++vs++post):=q1
  simpa using q1'
section
variable {Γ0 Γ:Gam}{w0 w:World}{L:List Ent}{R:List RowE}{Pg:Program}{ops:Array Oper}{rest:List Oper}{op:Oper}{a:Act}{Q:Exit->Act->World->Prop}
theorem MM.rowHd{A:Option Addr}{c:Nat}{e:TypeId}{size n:Nat}{xs:List Value}(M:MM Γ0 w0 Γ w L (⟨.slice A n c,e,size,n,xs⟩::R))(hn:0<n):∃g,A=some ⟨g,0,none⟩/\n<=c/\c<=maxLen:=by
 have hr:=M.rows _ (List.mem_cons_self ..)
 rcases hr.2 with⟨h1,h2⟩|⟨g,cap,cur,h1,h2,h3,h4,h5,h6,h7⟩
 .simp only at h2;omega
 .simp only at h1
  injection h1 with e1 e2 e3
  subst e1 e3
  exact⟨g,rfl,h4,h5⟩
theorem MM.rowCells{g c:Nat}{e:TypeId}{size n:Nat}{pre mid post:List Value}(M:MM Γ0 w0 Γ w L (⟨.slice (some ⟨g,0,none⟩) n c,e,size,n,pre++mid++post⟩::R)):w.rangeAt g pre.length mid:=fun j u hu=>by
 have hr:w.ownsRow w0.heap.size e size (.slice (some ⟨g,0,none⟩) n c) n (pre++mid++post):=M.rows _ (List.mem_cons_self ..)
 have hj:j<mid.length:=(List.getElem?_eq_some_iff.1 hu).1
 have hl:(pre++mid++post).length=n*size:=hr.1
 simp only[List.length_append]at hl
 rw[hr.cellAt (pre.length+j) (by omega),List.append_assoc,List.getElem?_append_right (by omega),Nat.add_sub_cancel_left,List.getElem?_append_left hj]
 exact hu
theorem MM.rowPut{g c:Nat}{e:TypeId}{size n:Nat}{pre mid post vs:List Value}(M:MM Γ0 w0 Γ w L (⟨.slice (some ⟨g,0,none⟩) n c,e,size,n,pre++mid++post⟩::R))(hl:mid.length=vs.length) :
  w.there g pre.length vs.length/\MM Γ0 w0 Γ (w.setCells g pre.length vs) L (⟨.slice (some ⟨g,0,none⟩) n c,e,size,n,pre++vs++post⟩::R):=by
 have hr:w.ownsRow w0.heap.size e size (.slice (some ⟨g,0,none⟩) n c) n (pre++mid++post):=M.rows _ (List.mem_cons_self ..)
 have hlen:(pre++mid++post).length=n*size:=hr.1
 simp only[List.length_append]at hlen
 obtain⟨q1,q2⟩:=Ad3 vs mid pre post w hl hr
 refine⟨fun j hj=>?_,M.rowGrow (v':=.slice (some ⟨g,0,none⟩) n c) (by simpa [Value.ownBlock]using q2) q1 (.inl rfl)⟩
 rw[hr.cellAt (pre.length+j) (by omega),hr.frozenAt,List.getElem?_eq_getElem (by simp;omega)]
 exact⟨rfl,rfl⟩
theorem MM.rowGet{α:Type}{f:α->List Value}{k:Nat}{g c:Nat}{e:TypeId}{n:Nat}{X:List α}(M:MM Γ0 w0 Γ w L (⟨.slice (some ⟨g,0,none⟩) n c,e,k,n,X.flatMap f⟩::R))(hk:∀x∈X,(f x).length=k)(i:Nat)(hi:i<X.length) :
  w.rangeAt g (i*k) (f X[i]):=by
 rw[Abr X i hi]at M
 have:=M.rowCells
 rw[Acg X i hi hk]at this
 exact this
theorem MM.rowSet{α:Type}{f:α->List Value}{k:Nat}{g c:Nat}{e:TypeId}{n:Nat}{X:List α}(M:MM Γ0 w0 Γ w L (⟨.slice (some ⟨g,0,none⟩) n c,e,k,n,X.flatMap f⟩::R))(hk:∀x∈X,(f x).length=k)(i:Nat)(hi:i<X.length)(v:α)(hv:(f v).length=k) :
  w.there g (i*k) k/\MM Γ0 w0 Γ (w.setCells g (i*k) (f v)) L (⟨.slice (some ⟨g,0,none⟩) n c,e,k,n,(X.set i v).flatMap f⟩::R):=by
 rw[Abr X i hi]at M
 obtain⟨q1,q2⟩:=M.rowPut (vs:=f v) (by rw[hv,hk _ (List.getElem_mem hi)])
 rw[Acg X i hi hk,<-Aft X i v hi]at q2
 rw[Acg X i hi hk,hv]at q1
 exact⟨q1,q2⟩
theorem Afk{α:Type}{f:α->List Value}{k:Nat}{g c:Nat}{e:TypeId}{n:Nat}{X:List α}(M:MM Γ0 w0 Γ w L (⟨.slice (some ⟨g,0,none⟩) n c,e,k,n,X.flatMap f⟩::R))(hk:∀x∈X,(f x).length=k)(i:Nat)(hi:i<X.length)(v:α)(hv:(f v).length=k)(h1:One (f v)){opsA:Array Oper}{ts:Array Value}{K:Act->World->Prop}{E:Prop}{ty:TypeId}{x y:Operand}(ho:op.op=.store ty x y)(hx:a.eval x=.pointer (some ⟨g,i*k,none⟩))
  (hy:a.eval y=.agg (f v).toArray) (rt:RowT Pg ty k) (hw:Region.wanted op (yielded opsA ts)=true) (h:∀w',MM Γ0 w0 Γ w' L (⟨.slice (some ⟨g,0,none⟩) n c,e,k,n,(X.set i v).flatMap f⟩::R)->K (a.put op.dst undef) w'):if Region.wanted op (yielded opsA ts)=true then op.wp Pg a w K Q else E:=by
 rw[if_pos hw]
 obtain⟨d,hu,hd⟩:=rt.ex
 obtain⟨q1,q2⟩:=M.rowSet hk i hi v hv
 exact wp_store_mid ty x y ho g (i*k) (f v).toArray hx hy (by simpa [hv]using q1) (by rw[List.size_toArray,hv];exact AbZ hu rt.n) (all_oneCell_toArray h1) (by simpa using h _ q2)
end
end Go.Proofs.YtmgeheaneohldaaGreat
namespace Go.Proofs.YtmgeheaneohldaaGreat
open Go.RowKit Go.Proofs.YtmgeheaneohldaaGreat.Old
def MatP(Γ:Gam)(w:World)(z:Zst)(tag:U)(e:Ending)(w':World):Prop:=
 (e=.returned (.tuple #[.agg (fl (rqP rq0)).toArray,.agg (fl (zsP zs0 zx0)).toArray,.int .i64 23])/\Ext Γ w Γ w') \/
 ∃k,∃hk:k<z.reqs.length,z.reqs[k].tag=tag/\∃(x:Zls) (Γ':Gam),e=.returned (.tuple #[.agg (fl (rqP z.reqs[k])).toArray,.agg (fl (zsP {z with reqs:=z.reqs.take k++z.reqs.drop (k+1)} x)).toArray,.int .i64 0])/\ZsG Γ' x {z with reqs:=z.reqs.take k++z.reqs.drop (k+1)}/\Ext Γ w Γ' w'
theorem Aml{Γ:Gam}{T:List Rq}{k n c:Nat}{A:Option Addr}(hn:n=T.length)(hk:k<T.length)(h1:CapOk A (k+(n-(k+1))) c)(h2:SlG Γ A (k+(n-(k+1))) ((T.flatMap rqx).take (k*35)++(T.flatMap rqx).drop ((k+1)*35))) :
  SlR Γ ⟨A,k+(n-(k+1)),c⟩ (T.take k++T.drop (k+1)).length ((T.take k++T.drop (k+1)).flatMap rqx):=by
 refine⟨by simp[hn];omega,h1,?_⟩
 rw[Adf T (fun x _=>AbM x),Ael T (fun x _=>AbM x)]at h2
 rw[List.flatMap_append];exact h2
theorem AjI(Γ:Gam)(z:Zst)(x:Zls)(v:Vd)(w:World)(ok:Ok Γ w)(h:ZsG Γ x z)(hb:z.reqs.length<=30000) :
  Calls Tryz.prog 153 #[.agg (fl (zsP z x)).toArray,.agg (fl (vdP v)).toArray] w (MatP Γ w z v.tag):=by
 have M:=bx (MM.start ok)
 have HG:=bx h
 have LN:=bx h.reqs.n
 have HB:=bx hb
 have HCAP:=bx h.reqs.cap
 have ROW:Bx (∀{Γ':Gam} w',Ok Γ' w'->Le Γ Γ'->Row w' w'.heap.size 35 x.reqs.A x.reqs.n (z.reqs.flatMap rqx)):=⟨fun w' o hle=>(h.reqs.sl.mono hle).row (size:=35) (by rw[Aap z.reqs (fun x _=>AbM x),h.reqs.n]) o⟩
 have HO:Bx (∀k,One ((z.reqs.flatMap rqx).take (k*35))):=⟨fun k u hu=>Ab4 (fun x _=>AbI x) u (List.mem_of_mem_take hu)⟩
 have HO2:Bx (∀k,One ((z.reqs.flatMap rqx).drop (k*35))):=⟨fun k u hu=>Ab4 (fun x _=>AbI x) u (List.mem_of_mem_drop hu)⟩
 clear ok h hb
 go_enter Tryz.func153,Tryz.ntmps153
 (go_wp2_with (first|go_skip|(refine zBXo ?_;clear M;intro w' g M)|(refine zALo (ztRq) ?_;clear M;intro w' g M)|(refine zALo (ztZs) ?_;clear M;intro w' g M)|fail|refine zLAo ?_|refine zBDo 176 [] (fl (rqP rq0)) (by kernel_rfl) ?_|refine zBDo 54 [] (fl (zsP zs0 zx0)) (by kernel_rfl) ?_))
 rename_i gz _ gv _ gq _ _
 go_loopw [7] (fun j wr=>∃k:Nat,k<=z.reqs.length/\j=.int .i64 k/\MM Γ w Γ wr [⟨g,zsP zs0 zx0,zsL⟩,⟨gq,rqP rq0,[1,32,1,1]⟩,⟨gv,vdP v,[1,1,32]⟩,⟨gz,zsP z x,zsL⟩] []) (fun j _=>z.reqs.length-(intOf j).toNat)
 case atStart=>exact⟨0,Nat.zero_le _,rfl,M.out⟩
 case round=>
  obtain⟨k,hk,rfl,hM⟩:=hrel
  clear M
  have M:=bx hM
  clear hM
  have hbb:=HB.out
  by_cases hkn:k<z.reqs.length
  .obtain⟨gn,hA,hf⟩:=HG.out.reqs.fz (f:=rqP) AaX rfl k hkn
   have HA:=bx hA
   have F1:=bx hf
   have hki:(k:Int)<(x.reqs.n:Int):=by rw[LN.out];omega
   have hk0:0<=(k:Int):=by omega
   have hkl:k+1<=x.reqs.n:=by rw[LN.out];omega
   have hAe:x.reqs.A=some ⟨gn,0,none⟩:=by injection hA
   have HAE:=bx hAe
   have HRES:=bx (fun(e:z.reqs[k].tag=v.tag) (x':Zls) (Γ':Gam) (hz:ZsG Γ' x' {z with reqs:=z.reqs.take k++z.reqs.drop (k+1)}) (w2:World) (he:Ext Γ w Γ' w2)=>(show MatP Γ w z v.tag (.returned (.tuple #[.agg (fl (rqP z.reqs[k])).toArray,.agg (fl (zsP {z with reqs:=z.reqs.take k++z.reqs.drop (k+1)} x')).toArray,.int .i64 0])) w2 from .inr ⟨k,hkn,e,x',Γ',rfl,hz,he⟩))
   clear hA hf hAe
   generalize z.reqs[k]=y at *
   by_cases ht:y.tag=v.tag
   .have b1:((y.tag.n:Int)==(v.tag.n:Int))=true:=by rw[ht];simp
    have HR:=bx (HRES.out ht)
    clear ht HRES
    have ROW2:Bx (∀{Γ':Gam} w',Ok Γ' w'->Le Γ Γ'->Row w' w'.heap.size 35 (some ⟨gn,0,none⟩) x.reqs.n (z.reqs.flatMap rqx)):=⟨fun w' o hl=>HAE.out▸ROW.out w' o hl⟩
    have HCAP2:Bx (CapOk (some ⟨gn,0,none⟩) x.reqs.n x.reqs.c):=⟨HAE.out▸HCAP.out⟩
    have hcl:=HCAP2.out.le
    have hrn:x.reqs.n<=30000:=by rw[LN.out];exact hbb
    (go_wp2_with (first|go_skip|(refine zBXo ?_;clear M;intro w' g M)|(refine zALo (ztRq) ?_;clear M;intro w' g M)|(refine zALo (ztZs) ?_;clear M;intro w' g M)|fail|refine zLAo ?_|refine zBDo 176 [] (fl (rqP rq0)) (by kernel_rfl) ?_|refine zBDo 54 [] (fl (zsP zs0 zx0)) (by kernel_rfl) ?_))
    refine zRG ?_;(repeat(first|go_big_quiet_skip|(go_big_quiet_want;first|(refine zQHo HA ?_;go_big_quiet_on;refine zNM ?_)|(refine zQFo F1 ?_;go_big_quiet_on;refine zNM ?_)|(refine zQAo ?_;go_big_quiet_on;refine zNM ?_)|(refine zQO ?_;go_big_quiet_on))));(refine zQN ?_;clear M;intro w4 M)
    go_upto_region 6 with(first|refine zLHo HA ?_|refine zRFo F1 ?_|refine zLAo ?_|(refine zALo (ztRq) ?_;clear M;intro w' g M)|(refine zSSo M 0 (rqP y) (rqP y) (AaX _) (AbI _) ?_;clear M;intro w' M))
    refine AaE [10,12] (.steps [(1,0),(0,1),(1,2),(1,3),(1,5),(0,6),(1,7),(1,8),(1,9),(2,4),(3,10),(1,11),(3,12)] .leaf) (by kernel_rfl) (by kernel_rfl) ?_;(simp only[MixT6,MT.steps,stepAt,List.getD_cons_zero,List.getD_cons_succ]);replace M:=bx (M.out.drew)
    refine zNM ?_
    (repeat(first|refine zM0 ?_|(go_big_quiet_want;first|(refine zQHo HA ?_;go_big_quiet_on;refine zNM ?_)|((refine AcR elRq rfl rfl rfl ?_ ?_);omega;go_big_quiet_on;refine zNM ?_)|((refine AcQ elRq (k:=k+1) rfl rfl rfl ?_ ?_);omega;go_big_quiet_on;refine zNM ?_)|(refine zQAo ?_;go_big_quiet_on;refine zNM ?_)|(refine zQO ?_;go_big_quiet_on))))
    (obtain⟨A1,c1,w1,hr,hM,hb⟩:=Aam elRq M.out 50 (some ⟨gn,0,none⟩) k x.reqs.c _ ((ROW2.out _ M.ok M.out.ext.le).take (size:=35) (show k<=x.reqs.n by omega)) HCAP2.out.nil (HO.out _) (by unfold maxLen;omega) (by omega));refine AaB (AaG rfl rfl rfl hr) rfl ?_;refine⟨hb,?_⟩;clear M;have M:=bx hM;clear hM hr hb;refine zNM ?_
    (obtain⟨v6,w6,hr,hM⟩:=AaU elRq M.out 50 (cutA (some ⟨gn,0,none⟩) x.reqs.c (k+1) 35) (x.reqs.n-(k+1)) (x.reqs.c-(k+1)) _ ((ROW2.out _ M.ok M.out.ext.le).cut (size:=35) hkl HCAP2.out.le) (Ab3 HCAP2.out) (HO2.out _) (by unfold maxLen;omega) (by omega));refine AaB (AaG rfl rfl rfl hr) rfl ?_;replace M:=bx (hM);clear hr hM;refine zNM ?_
    refine zMRo ?_
    (obtain⟨A6,c6,e6⟩:=own_slice (M.out.rows _ (List.mem_cons_self ..));simp only at e6;subst e6)
    refine AbL M.out 4 (.slice A6 (k+(x.reqs.n-(k+1))) c6) (zsP {z with reqs:=z.reqs.take k++z.reqs.drop (k+1)} {x with reqs:=⟨A6,k+(x.reqs.n-(k+1)),c6⟩}) rfl rfl rfl rfl Afi rfl rfl rfl rfl rfl rfl ?_
    intro w7 M'
    simp only[List.set_cons_zero,List.set_cons_succ]at M'
    (replace M:=bx M';clear M')
    refine zNM ?_
    refine zMRo ?_
    refine NoPanic.normal ?_
    go_wp2_with fail
    refine AaH (fun w'=>HL w' g (rqP y) [1,32,1,1]/\HL w' gz (zsP {z with reqs:=z.reqs.take k++z.reqs.drop (k+1)} {x with reqs:=⟨A6,k+(x.reqs.n-(k+1)),c6⟩}) zsL) (.steps [(0,0),(0,1),(3,2),(3,3),(1,4)] .leaf) (by kernel_rfl) (by kernel_rfl) ⟨M.out.drew.at0,M.out.drew.at4⟩ ?_;(simp only[MixT7,MT.steps,stepI,List.getD_cons_zero,List.getD_cons_succ]);replace M:=bx (M.out.drew)
    refine zNM ?_
    (repeat(first|refine zM0 ?_|(go_big_quiet_want;first|((with_reducible apply AaP (fun _ h=>h.1) (AaX y));rfl;rfl;exact zrts;rfl;rfl;go_big_quiet_on;refine zNM ?_)|((with_reducible apply AaN (fun _ h=>h.1));rfl;rfl;exact zots;rfl;rfl;go_big_quiet_on;refine zNM ?_)|((with_reducible apply AaM (fun _ h=>h.1) (AaX y));rfl;rfl;exact zrts;rfl;refine zCT ?_;go_big_quiet_on;refine zNM ?_)|((with_reducible apply AaP (fun _ h=>h.2) (AaL _ _));rfl;rfl;exact zrts;rfl;rfl;go_big_quiet_on;refine zNM ?_)|((with_reducible apply AaN (fun _ h=>h.2));rfl;rfl;exact zots;rfl;rfl;go_big_quiet_on;refine zNM ?_)|((with_reducible apply AaM (fun _ h=>h.2) (AaL _ _));rfl;rfl;exact zrts;rfl;refine zCT ?_;go_big_quiet_on;refine zNM ?_)|(refine zQO ?_;go_big_quiet_on))))
    refine zXS M 2 (rqP y) (rqP y) (AaX _) (AbI _) ?_;clear M;intro w7 M
    refine⟨⟨M.out.at0,M.out.at4⟩,?_⟩
    refine zXS M 1 (zsP {z with reqs:=z.reqs.take k++z.reqs.drop (k+1)} {x with reqs:=⟨A6,k+(x.reqs.n-(k+1)),c6⟩}) (zsP {z with reqs:=z.reqs.take k++z.reqs.drop (k+1)} {x with reqs:=⟨A6,k+(x.reqs.n-(k+1)),c6⟩}) (AaL _ _) (AaS _ _) ?_;clear M;intro w7 M
    refine⟨⟨M.out.at0,M.out.at4⟩,?_⟩
    refine zMR7 ?_
    refine NoPanic.normal ?_
    (go_wp2_with (first|go_skip|(refine zBXo ?_;clear M;intro w' g M)|(refine zALo (ztRq) ?_;clear M;intro w' g M)|(refine zALo (ztZs) ?_;clear M;intro w' g M)|fail|refine zLAo ?_|refine zBDo 176 [] (fl (rqP rq0)) (by kernel_rfl) ?_|refine zBDo 54 [] (fl (zsP zs0 zx0)) (by kernel_rfl) ?_))
    obtain⟨Γ',h1,h2,h3,h4⟩:=M.out.frz
    (try refine zsm ?_);refine bodyPost_ret (Aau (by rfl) _ h4.at2 h4.at1 (by rfl) (by rfl) rtRq rtZs rfl rfl) rfl ?_
    exact HR.out {x with reqs:=⟨A6,k+(x.reqs.n-(k+1)),c6⟩} Γ' ⟨(HG.out.mono h4.ext.le).s,Aml LN.out hkn h1 h2,(HG.out.mono h4.ext.le).rets⟩ _ h4.ext
   .have b1:((y.tag.n:Int)==(v.tag.n:Int))=false:=beq_eq_false_iff_ne.2 (fun e=>ht (U.ext' (by omega)))
    clear ht HRES
    (go_wp2_with (first|go_skip|(refine zBXo ?_;clear M;intro w' g M)|(refine zALo (ztRq) ?_;clear M;intro w' g M)|(refine zALo (ztZs) ?_;clear M;intro w' g M)|fail|refine zLAo ?_|refine zBDo 176 [] (fl (rqP rq0)) (by kernel_rfl) ?_|refine zBDo 54 [] (fl (zsP zs0 zx0)) (by kernel_rfl) ?_))
    refine zRG ?_;(repeat(first|go_big_quiet_skip|(go_big_quiet_want;first|(refine zQHo HA ?_;go_big_quiet_on;refine zNM ?_)|(refine zQFo F1 ?_;go_big_quiet_on;refine zNM ?_)|(refine zQAo ?_;go_big_quiet_on;refine zNM ?_)|(refine zQO ?_;go_big_quiet_on))));(refine zQN ?_;clear M;intro w4 M)
    (go_wp2_with (first|go_skip|(refine zBXo ?_;clear M;intro w' g M)|refine zLAo ?_))
    go_roundw
    case rel=>exact⟨k+1,by omega,by go_num,M.out⟩
    case measure=>simp[intOf]<;>omega
  .have hki:(x.reqs.n:Int)<=(k:Int):=by rw[LN.out];omega
   (go_wp2_with (first|go_skip|(refine zBXo ?_;clear M;intro w' g M)|(refine zALo (ztRq) ?_;clear M;intro w' g M)|(refine zALo (ztZs) ?_;clear M;intro w' g M)|(refine zSSo M 1 (rqP rq0) (rqP rq0) (AaX _) (AbI _) ?_;clear M;intro w' M)|(refine zSSo M 0 (zsP zs0 zx0) (zsP zs0 zx0) (AaL _ _) (AaS _ _) ?_;clear M;intro w' M)|refine zLAo ?_|refine zBDo 176 [] (fl (rqP rq0)) (by kernel_rfl) ?_|refine zBDo 54 [] (fl (zsP zs0 zx0)) (by kernel_rfl) ?_))
   (try refine zsm ?_);refine bodyPost_ret (Aau (by rfl) _ M.out.at1 M.out.at0 (by rfl) (by rfl) rtRq rtZs rfl rfl) rfl ?_
   exact .inl ⟨rfl,M.out.ext⟩
end Go.Proofs.YtmgeheaneohldaaGreat
namespace Go.Proofs.YtmgeheaneohldaaGreat
open Go.RowKit
def Sto.lv(s:Sto)(j:Nat):Bool:=s.liveF (s.nodes.length+1) (j:Int)
theorem Afn{s:Sto}(ha:Ahead s.nodes):∀(f f':Nat) (i:Int),0<=i->(s.nodes.length:Int)<=i+f->(s.nodes.length:Int)<=i+f'->s.liveF (f+1) i=s.liveF (f'+1) i
 |0,f',i,h0,h1,h2=>by
  have hk:kids s.nodes i = []:=by unfold kids;rw[if_neg];intro h;have:=Ab5 h;omega
  simp[Sto.liveF,hk]
 |f+1,0,i,h0,h1,h2=>by
  have hk:kids s.nodes i = []:=by unfold kids;rw[if_neg];intro h;have:=Ab5 h;omega
  simp[Sto.liveF,hk]
 |f+1,f'+1,i,h0,h1,h2=>by
  show(s.qual i||(kids s.nodes i).any fun k=>s.liveF (f+1) (k:Int))=(s.qual i||(kids s.nodes i).any fun k=>s.liveF (f'+1) (k:Int))
  congr 1
  rw[Bool.eq_iff_iff,List.any_eq_true,List.any_eq_true]
  have key:∀k∈kids s.nodes i,s.liveF (f+1) (k:Int)=s.liveF (f'+1) (k:Int):=fun k hk=>by
   obtain⟨e1,e2⟩:=Abt hk
   have:=ha k e1
   exact Afn ha f f' k (by omega) (by omega) (by omega)
  exact⟨fun⟨x,hx,e⟩=>⟨x,hx,key x hx▸e⟩,fun⟨x,hx,e⟩=>⟨x,hx,(key x hx).symm▸e⟩⟩
theorem AjO{s:Sto}(ha:Ahead s.nodes)(j:Nat)(hj:j<s.nodes.length):s.lv j=(s.qual (j:Int)||(kids s.nodes (j:Int)).any s.lv):=by
 unfold Sto.lv
 rw[Afn ha s.nodes.length s.nodes.length j (by omega) (by omega) (by omega)]
 show(s.qual (j:Int)||(kids s.nodes (j:Int)).any fun k=>s.liveF s.nodes.length (k:Int))=_
 congr 1
 have key:∀k∈kids s.nodes (j:Int),s.liveF s.nodes.length (k:Int)=s.liveF (s.nodes.length+1) (k:Int):=fun k hk=>by
  obtain⟨e1,e2⟩:=Abt hk
  have:=ha k e1
  obtain⟨m,hm⟩:∃m,s.nodes.length=m+1:=⟨s.nodes.length-1,by omega⟩
  have:=Afn ha m (m+1) (k:Int) (by omega) (by omega) (by omega)
  rw[hm];exact this
 rw[Bool.eq_iff_iff,List.any_eq_true,List.any_eq_true]
 exact⟨fun⟨x,hx,e⟩=>⟨x,hx,key x hx▸e⟩,fun⟨x,hx,e⟩=>⟨x,hx,(key x hx).symm▸e⟩⟩
def Sto.mark(s:Sto)(i j:Nat):Bool:=if i<=j then s.lv j else(List.range s.nodes.length).any fun k=>decide (i<=k)&&decide ((s.nodes.getD k n0).up=(j:Int))&&s.lv k
def Sto.marks(s:Sto)(i:Nat):List Bool:=(List.range s.nodes.length).map (s.mark i)
theorem Ab0(s:Sto)(i:Nat):(s.marks i).length=s.nodes.length:=by simp[Sto.marks]
theorem AcT(s:Sto)(i j:Nat)(h:j<(s.marks i).length):(s.marks i)[j]=s.mark i j:=by simp[Sto.marks]
theorem AiZ(s:Sto):s.marks 0=s.lives:=by simp[Sto.marks,Sto.lives,Sto.mark,Sto.lv]
theorem AjK(s:Sto):s.marks s.nodes.length=List.replicate s.nodes.length false:=by
 apply List.ext_getElem
 .simp[Ab0]
 .intro j h1 h2
  rw[AcT,List.getElem_replicate]
  have hj:j<s.nodes.length:=by rw[Ab0]at h1;exact h1
  unfold Sto.mark
  rw[if_neg (by omega),List.any_eq_false]
  intro k hk
  have:=List.mem_range.1 hk
  simp;omega
theorem AjL{s:Sto}(ha:Ahead s.nodes){i:Nat}(hi:i<s.nodes.length):(s.mark (i+1) i||s.qual (i:Int))=s.lv i:=by
 rw[AjO ha i hi,Bool.or_comm]
 congr 1
 unfold Sto.mark
 rw[if_neg (by omega),Bool.eq_iff_iff,List.any_eq_true,List.any_eq_true]
 constructor
 .rintro⟨k,hk,e⟩
  simp only[Bool.and_eq_true,decide_eq_true_eq]at e
  refine⟨k,?_,e.2⟩
  unfold kids kidsTo
  rw[if_pos (AcB (by omega) (by omega)),List.mem_filter]
  exact⟨hk,by simpa using e.1.2⟩
 .rintro⟨k,hk,e⟩
  obtain⟨h1,h2⟩:=Abt hk
  refine⟨k,List.mem_range.2 h1,?_⟩
  have:=ha k h1
  simp only[Bool.and_eq_true,decide_eq_true_eq]
  exact⟨⟨by omega,by rw[nget h1];exact h2⟩,e⟩
theorem Aed{s:Sto}{i j:Nat}(hi:i<s.nodes.length)(hj:j<i):s.mark i j=(s.mark (i+1) j||(decide (s.nodes[i].up=(j:Int))&&s.lv i)):=by
 unfold Sto.mark
 rw[if_neg (by omega),if_neg (by omega),Bool.eq_iff_iff]
 simp only[Bool.or_eq_true,List.any_eq_true,Bool.and_eq_true,decide_eq_true_eq,List.mem_range]
 constructor
 .rintro⟨k,hk,⟨h1,h2⟩,h3⟩
  rcases Nat.lt_or_eq_of_le h1 with h|h
  .exact .inl ⟨k,hk,⟨h,h2⟩,h3⟩
  .subst h;exact .inr ⟨by rw[nget hk]at h2;exact h2,h3⟩
 .rintro(⟨k,hk,⟨h1,h2⟩,h3⟩|⟨h1,h2⟩)
  .exact⟨k,hk,⟨by omega,h2⟩,h3⟩
  .exact⟨i,hi,⟨Nat.le_refl _,by rw[nget hi];exact h1⟩,h2⟩
theorem Aki{s:Sto}{i:Nat}(hi:i<s.nodes.length)(h:s.nodes[i].up<0\/s.lv i=false):(s.marks (i+1)).set i (s.lv i)=s.marks i:=by
 apply List.ext_getElem
 .simp[Ab0]
 .intro j h1 h2
  have hj:j<s.nodes.length:=by rw[Ab0]at h2;exact h2
  rw[AcT,List.getElem_set]
  split
  .rename_i e;subst e;unfold Sto.mark;rw[if_pos (Nat.le_refl _)]
  .rename_i e
   rw[AcT]
   rcases Nat.lt_or_ge j i with hlt|hge
   .rw[Aed hi hlt]
    rcases h with h|h
    .simp;omega
    .simp[h]
   .unfold Sto.mark;rw[if_pos (by omega),if_pos hge]
theorem AjJ{s:Sto}(ha:Ahead s.nodes){i u:Nat}(hi:i<s.nodes.length)(hu:s.nodes[i].up=(u:Int))(h:s.lv i=true):((s.marks (i+1)).set i true).set u true=s.marks i:=by
 have hui:=ha i hi
 apply List.ext_getElem
 .simp[Ab0]
 .intro j h1 h2
  have hj:j<s.nodes.length:=by rw[Ab0]at h2;exact h2
  rw[AcT,List.getElem_set]
  split
  .rename_i e;subst e
   rw[Aed hi (by omega)]
   simp[hu,h]
  .rename_i e
   rw[List.getElem_set]
   split
   .rename_i e;subst e;unfold Sto.mark;rw[if_pos (Nat.le_refl _),h]
   .rename_i e'
    rw[AcT]
    rcases Nat.lt_or_ge j i with hlt|hge
    .rw[Aed hi hlt,hu]
     simp;omega
    .unfold Sto.mark;rw[if_pos (by omega),if_pos hge]
end Go.Proofs.YtmgeheaneohldaaGreat
namespace Go.Proofs.YtmgeheaneohldaaGreat.Old
open Go.RowKit
theorem ref_add(a b:Int)(ha:0<=a)(ha':a<18446744073709551616)(hb:0<=b)(hb':b<18446744073709551616)(w:World) :
  Calls Tryz.prog 63 #[.int .u64 a,.int .u64 b] w fun e w'=>e=.returned (.tuple #[.int .u64 (addV a b),.int .i64 (addE a b)])/\w=w':=by
 go_enter Tryz.func63,Tryz.ntmps63
 go_wp2
 .have h:18446744073709551615-b<a:=by assumption
  go_ret2
  unfold addV addE
  rw[if_neg (by omega),if_neg (by omega)]
  exact⟨rfl,rfl⟩
 .have h:a<=18446744073709551615-b:=by assumption
  go_ret2
  unfold addV addE
  rw[if_pos (by omega),if_pos (by omega)]
  exact⟨rfl,rfl⟩
def sumV(l:List Int):Int:=if l.sum<18446744073709551616 then l.sum else 0
def sumE(l:List Int):Int:=if l.sum<18446744073709551616 then 0 else 4
theorem sum_nonneg{l:List Int}(h:U64 l):0<=l.sum:=by
 induction l with
 |nil=>simp
 |cons a l ih=>
  have h1:=h a (by simp)
  have h2:=ih (fun x hx=>h x (by simp[hx]))
  simp only[List.sum_cons];omega
theorem Ag7{l:List Int}(h:U64 l)(k:Nat):(l.take k).sum<=l.sum:=by
 have h1:(l.take k).sum+(l.drop k).sum=l.sum:=by rw[<-List.sum_append_int,List.take_append_drop]
 have h2:0<=(l.drop k).sum:=sum_nonneg fun x hx=>h x (List.mem_of_mem_drop hx)
 omega
theorem AfZ{l:List Int}{k:Nat}(hk:k<l.length):(l.take (k+1)).sum=(l.take k).sum+l[k]:=by
 rw[List.take_succ_eq_append_getElem hk,List.sum_append_int];simp
theorem ref_sum(B:Nat)(A:Option Addr)(n c:Nat)(l:List Int)(w:World)(hr:Row w B 1 A n (ints .u64 l))(hl:U64 l)(hn:n<=9223372036854775807) :
  Calls Tryz.prog 37 #[.slice A n c] w fun e w'=>e=.returned (.tuple #[.int .u64 (sumV l),.int .i64 (sumE l)])/\w=w':=by
 have hlen:l.length=n:=by have:=hr.1;simpa [ints]using this
 go_enter Tryz.func37,Tryz.ntmps37
 go_wp2
 go_loop [4,5] (fun s i=>∃k:Nat,k<=n/\i=.int .i64 k/\s=.int .u64 (l.take k).sum/\(l.take k).sum<18446744073709551616) (fun _ i=>n-(intOf i).toNat)
 case atStart=>exact⟨0,Nat.zero_le _,rfl,by simp,by simp⟩
 case round=>
  obtain⟨k,hk,rfl,rfl,hlt⟩:=hrel
  have h0:0<=(l.take k).sum:=sum_nonneg fun x hx=>hl x (List.mem_of_mem_take hx)
  by_cases hkn:k<n
  .have hkl:k<l.length:=by omega
   have hu:(ints .u64 l)[k]? = some (.int .u64 l[k]):=by unfold ints;rw[List.getElem?_map,List.getElem?_eq_getElem hkl];rfl
   obtain⟨ad,rfl,hb,hc⟩:=hr.at_ hu
   have hx:=hl l[k] (List.getElem_mem hkl)
   have hs:Hid ((l.take (k+1)).sum=(l.take k).sum+l[k]):=AfZ hkl
   have HC:=Lib.hid (fun w=>ref_add (l.take k).sum l[k] h0 hlt hx.1 hx.2 w)
   have htot:Hid ((l.take (k+1)).sum<=l.sum):=Ag7 hl _
   have hlen':=Lib.hid hlen
   clear hlen hu
   generalize(l.take k).sum=s at *
   generalize l[k]=x at *
   by_cases hov:s+x<18446744073709551616
   .have hv:addV s x=s+x:=by unfold addV;rw[if_pos hov]
    have he:addE s x=0:=by unfold addE;rw[if_pos hov]
    rw[hv,he]at HC
    clear hv he
    go_wp2_with (go_at_call 63;refine(HC.out _).mono ?_;rintro e w' ⟨rfl,rfl⟩)
    go_round
    case rel=>exact⟨k+1,by omega,by go_num,by rw[hs.out],by rw[hs.out];exact hov⟩
    case measure=>simp[intOf];omega
   .have hv:addV s x=0:=by unfold addV;rw[if_neg hov]
    have he:addE s x=4:=by unfold addE;rw[if_neg hov]
    rw[hv,he]at HC
    clear hv he
    go_wp2_with (go_at_call 63;refine(HC.out _).mono ?_;rintro e w' ⟨rfl,rfl⟩)
    go_ret2
    have h1:=hs.out
    have h2:=htot.out
    unfold sumV sumE
    rw[if_neg (by omega),if_neg (by omega)]
    exact⟨rfl,rfl⟩
  .have hkk:k=n:=by omega
   subst hkk
   have hfull:l.take k=l:=List.take_of_length_le (by omega)
   rw[hfull]at hlt |-
   have hv:sumV l=l.sum:=by unfold sumV;rw[if_pos hlt]
   have he:sumE l=0:=by unfold sumE;rw[if_pos hlt]
   have HV:=Lib.hid hv
   have HE:=Lib.hid he
   clear hv he hlen hfull
   go_wp2
   go_ret2
   rw[HV.out,HE.out]
   exact⟨rfl,rfl⟩
end Go.Proofs.YtmgeheaneohldaaGreat.Old
namespace Go.Proofs.YtmgeheaneohldaaGreat.Old
open Go.RowKit
theorem own_grown{w w':World}{base:Nat}{e:TypeId}{size:Nat}{v:Value}{n:Nat}{xs:List Value}(h:w.ownsRow base e size v n xs){row:Option Nat}(hg:w.grownBy w' row)(hne:∀g,v.ownBlock=some g->row≠some g):w'.ownsRow base e size v n xs:=by
 refine⟨h.1,?_⟩
 rcases h.2 with h1|⟨g,cap,cur,h1,h2,h3,h4⟩
 .exact .inl h1
 .refine .inr ⟨g,cap,cur,h1,h2,?_,h4⟩
  rw[hg.block g (Array.getElem?_eq_some_iff.1 h3).1 (fun e=>hne g (by rw[h1];rfl) e.symm)];exact h3
def Dis(v u:Value):Prop:=∀g,v.ownBlock=some g->u.ownBlock≠some g
theorem Ak5{us:List Int}{i k:Nat}:∀j∈descN us i k,j<k:=fun j hj=>by
 have:=(List.mem_filter.1 hj).1
 simpa using this
theorem one_u64(i:Int):∀u ∈ [Value.int .u64 i],u.oneCell'=true:=fun u hu=>by simp at hu;subst hu;rfl
section
variable {B:Nat}{W W':World}{vp vm v':Value}{np nm:Nat}{ps ms:List Int}{x:Int}
end
theorem apd{w:World}{base:Nat}{e:TypeId}{size n:Nat}{v:Value}{xs:List Value}(h:w.ownsRow base e size v n xs):Apd w base e size v n xs:=.inl h
end Go.Proofs.YtmgeheaneohldaaGreat.Old
namespace Go.Proofs.YtmgeheaneohldaaGreat.Old
open Go.RowKit
abbrev Vt:=Bool × Int × List Int
def vc(v:Vt):List Value:=.bool v.1 :: .int .u64 v.2.1::ints .u8 v.2.2
def zv:Vt:=(false,0,zroot)
def VOk(vs:List Vt):Prop:=∀v∈vs,v.2.2.length=32/\Bt v.2.2
theorem vc_len{v:Vt}(h:v.2.2.length=32):(vc v).length=34:=by simp[vc,ints,h]
theorem VOk.len{vs:List Vt}(h:VOk vs):∀v∈vs,(vc v).length=34:=fun v hv=>vc_len (h v hv).1
theorem Aha(a b:Value):Tryz.prog.cellsOf 35 = [a,b].length:=by kernel_rfl
theorem has_newAt{w:World}{g:Nat}(hg:w.heap.size=g)(cs:List Value)(t:TypeId):Has (w.alloc (.cells cs.toArray t)) g cs:=hg▸Has.new w cs t
def VRow(w:World)(A:Option Addr)(n:Nat)(vs:List Vt):Prop:=vs.length=n/\VOk vs/\(0<n->∃g post,A=some ⟨g,0,none⟩/\Has w g (vs.flatMap vc++post))
def GRow(w:World)(A:Option Addr)(n:Nat)(G:List Int):Prop:=G.length=n/\(0<n->∃g post,A=some ⟨g,0,none⟩/\Has w g (ints .i64 G++post))
theorem VRow.below{w w':World}{A:Option Addr}{n:Nat}{vs:List Vt}(h:VRow w A n vs)(hb:Below w.heap.size w w'):VRow w' A n vs:=
 ⟨h.1,h.2.1,fun hn=>by obtain⟨g,post,e,hg⟩:=h.2.2 hn;exact⟨g,post,e,hg.below hb hg.lt⟩⟩
theorem GRow.below{w w':World}{A:Option Addr}{n:Nat}{G:List Int}(h:GRow w A n G)(hb:Below w.heap.size w w'):GRow w' A n G:=
 ⟨h.1,fun hn=>by obtain⟨g,post,e,hg⟩:=h.2 hn;exact⟨g,post,e,hg.below hb hg.lt⟩⟩
theorem GRow.row{w:World}{A:Option Addr}{n:Nat}{G:List Int}(h:GRow w A n G):Row w w.heap.size 1 A n (ints .i64 G):=by
 refine⟨by rw[ints_len,h.1,Nat.mul_one],fun j u hu=>?_⟩
 have hj:j<G.length:=by have:=(List.getElem?_eq_some_iff.1 hu).1;rwa [ints_len]at this
 obtain⟨g,post,e,hg⟩:=h.2 (by rw[<-h.1];omega)
 refine⟨_,e,hg.lt,?_⟩
 rw[Ad9,Nat.zero_add,hg.cell,List.getElem?_append_left (by rw[ints_len];exact hj)]
 exact hu
structure VS(w:World)(A0:Option Addr)(n0 c0:Nat)(W:World)(k:Nat)(vs:List Vt)(sL:Value)(nE:Nat)(G:List Int)(sE:Value):Prop where
 x3:Has W w.heap.size [.slice A0 n0 c0]
 x6:Has W (w.heap.size+1) [.slice none 0 0,.slice none 0 0]
 x7:Has W (w.heap.size+1+1) [sL,sE]
 oL:W.ownsRow (w.heap.size+1+1+1) 85 34 sL k (vs.flatMap vc)
 oE:W.ownsRow (w.heap.size+1+1+1) 3 1 sE nE (ints .i64 G)
 d:Dis sL sE
 b:Below w.heap.size w W
section
variable {w W W' W'':World}{A0:Option Addr}{n0 c0 k nE:Nat}{vs:List Vt}{sL sE v':Value}{G:List Int}
end
end Go.Proofs.YtmgeheaneohldaaGreat.Old
namespace Go.Proofs.YtmgeheaneohldaaGreat.Old
open Go.RowKit
def SmB(bs:List Int):Prop:=∀x∈bs,0<=x/\x<=144115188075855872
theorem Aiy{G:List Int}{k:Nat}(hk:k<G.length):G.take (k+1)=G.take k ++ [G.getD k 0]:=by
 rw[List.take_succ_eq_append_getElem hk,getD_at hk]
theorem Air(w:World)(a b:Value):Has (w.alloc (.cells #[a,b] 35)) w.heap.size [a,b]:=Has.new w [a,b] _
end Go.Proofs.YtmgeheaneohldaaGreat.Old
namespace Go.Proofs.YtmgeheaneohldaaGreat.Old
open Go.RowKit
def cnt(vs:List Vt)(G:List Int)(r:List Int)(k:Nat):Bool:=(vs.getD k zv).1&&(!decide ((k:Int)∈G)&&decide ((vs.getD k zv).2.2=r))
def wgt(vs:List Vt)(G bs:List Int)(r:List Int):Nat->Int
 |0=>0
 |k+1=>wgt vs G bs r k+if cnt vs G r k=true then bs.getD k 0 else 0
def dirL(ns:List Nd)(vs:List Vt)(G bs:List Int)(m:Nat):List Int:=ns.map fun x=>if x.st=2 then 0 else wgt vs G bs x.b.root m
theorem AiA{ns:List Nd}{vs:List Vt}{G bs:List Int}{m:Nat}:(dirL ns vs G bs m).length=ns.length:=by simp[dirL]
theorem AmG{ns:List Nd}{vs:List Vt}{G bs:List Int}{m i:Nat}(hi:i<ns.length):(dirL ns vs G bs m).getD i 0=if ns[i].st=2 then 0 else wgt vs G bs ns[i].b.root m:=by
 rw[getD_at (by rw[AiA];exact hi)];simp[dirL]
section
variable {ns:List Nd}{vs:List Vt}{G bs:List Int}{m i:Nat}
theorem AmL(h:(vs.getD m zv).1=false)(r:List Int):cnt vs G r m=false:=by unfold cnt;rw[h];rfl
theorem Aig(h:(m:Int)∈G)(r:List Int):cnt vs G r m=false:=by unfold cnt;rw[decide_eq_true h];cases (vs.getD m zv).1<;>rfl
theorem AmK(h:(vs.getD m zv).1=true)(hg:(m:Int)∉G)(r:List Int):cnt vs G r m=decide ((vs.getD m zv).2.2=r):=by unfold cnt;rw[h,decide_eq_false hg];rfl
end
theorem flat_one(l:List Int):l.flatMap (fun x=>[Value.int .u64 x])=ints .u64 l:=by simp[ints,List.map_eq_flatMap]
end Go.Proofs.YtmgeheaneohldaaGreat.Old
namespace Go.Proofs.YtmgeheaneohldaaGreat.Old
open Go.RowKit
def SmT(bs:List Int):Prop:=(∀x∈bs,0<=x)/\bs.sum<=4611686018427387904
theorem AeP{l:List Int}(h:∀x∈l,0<=x):0<=l.sum:=by
 induction l with
 |nil=>simp
 |cons a t ih=>have h1:=h a (by simp);have h2:=ih (fun x hx=>h x (by simp[hx]));rw[List.sum_cons];omega
theorem AfY{l:List Int}(h:∀x∈l,0<=x)(k:Nat):(l.take k).sum<=l.sum:=by
 have e:l.sum=(l.take k).sum+(l.drop k).sum:=by rw[<-List.sum_append_int,List.take_append_drop]
 have:=AeP (l:=l.drop k) (fun x hx=>h x (List.mem_of_mem_drop hx))
 omega
theorem SmT.at{bs:List Int}(h:SmT bs){k:Nat}(hk:k<bs.length):0<=bs.getD k 0/\bs.getD k 0<=4611686018427387904:=by
 rw[getD_at hk]
 refine⟨h.1 _ (List.getElem_mem hk),?_⟩
 have h1:=AfY h.1 (k+1)
 rw[List.take_succ_eq_append_getElem hk,List.sum_append_int]at h1
 have h2:=AeP (l:=bs.take k) (fun x hx=>h.1 x (List.mem_of_mem_take hx))
 have h3:=h.2
 simp at h1
 omega
theorem AfV{vs:List Vt}{G bs r:List Int}(h:SmT bs):∀k,k<=bs.length->0<=wgt vs G bs r k/\wgt vs G bs r k<=(bs.take k).sum
 |0,_=>by simp[wgt]
 |k+1,hk=>by
  have h1:=AfV (vs:=vs) (G:=G) (r:=r) h k (by omega)
  have h2:=h.at (show k<bs.length by omega)
  have e:(bs.take (k+1)).sum=(bs.take k).sum+bs.getD k 0:=by rw[List.take_succ_eq_append_getElem (by omega),List.sum_append_int,getD_at (by omega)];simp
  unfold wgt
  rw[e]
  split<;>omega
theorem Aiq{vs:List Vt}{G bs r:List Int}(h:SmT bs){k:Nat}(hk:k<=bs.length):0<=wgt vs G bs r k/\wgt vs G bs r k<=4611686018427387904:=by
 have h1:=AfV (vs:=vs) (G:=G) (r:=r) h k hk
 have h2:=AfY h.1 k
 have h3:=h.2
 omega
theorem AkJ{vs:List Vt}{G bs r:List Int}(h:SmT bs){k:Nat}(hk:k<bs.length):wgt vs G bs r k+bs.getD k 0<=4611686018427387904:=by
 have h1:=AfV (vs:=vs) (G:=G) (r:=r) h k (by omega)
 have h2:=AfY h.1 (k+1)
 have e:(bs.take (k+1)).sum=(bs.take k).sum+bs.getD k 0:=by rw[List.take_succ_eq_append_getElem (by omega),List.sum_append_int,getD_at (by omega)];simp
 have h3:=h.2
 omega
theorem Ak4{ns:List Nd}{vs:List Vt}{G bs:List Int}(h:SmT bs){m:Nat}(hm:m<=bs.length):∀x∈dirL ns vs G bs m,0<=x/\x<=4611686018427387904:=fun x hx=>by
 obtain⟨y,_,rfl⟩:=List.mem_map.1 hx
 have:=Aiq (vs:=vs) (G:=G) (r:=y.b.root) h hm
 split<;>omega
end Go.Proofs.YtmgeheaneohldaaGreat.Old
namespace Go.Proofs.YtmgeheaneohldaaGreat.Old
open Go.RowKit
theorem Ana(xs:List Int)(post:List Value)(k:Nat)(v:Int)(hk:k<xs.length):(ints .u64 xs++post).set k (.int .u64 v)=ints .u64 (xs.set k v)++post:=by
 rw[List.set_append_left _ _ (by rw[ints_len];exact hk),ints,ints,List.map_set]
end Go.Proofs.YtmgeheaneohldaaGreat.Old
namespace Go.Proofs.YtmgeheaneohldaaGreat.Old
open Go.RowKit
def UP(n:Nat)(xs:List Int)(w:World)(e:Ending)(w':World):Prop:=
 ∃(A:Option Addr) (c:Nat),e=.returned (.slice A n c)/\U64 xs/\URow w' A n xs/\Below w.heap.size w w'
end Go.Proofs.YtmgeheaneohldaaGreat.Old
namespace Go.Proofs.YtmgeheaneohldaaGreat.Old
open Go.RowKit
theorem Afw(g:Nat)(x r:List Int)(hx:x.length=32)(hr:r.length=32)(w:World)(h:Has w g (ints .u8 x)) :
  Calls Tryz.prog 107 #[.slice (some ⟨g,0,none⟩) 1 1,.agg (ints .u8 r).toArray] w fun e w'=>e=.returned (.bool (decide (x=r)))/\Below w.heap.size w w':=by
 have HX:=bx hx
 have HR:=bx hr
 have X0:=bx (Has.new w (ints .u8 r) 29)
 have B0:=bx (ext_alloc w (.cells (ints .u8 r).toArray 29))
 have G0:=bx (h.below B0.out h.lt)
 clear h hx hr
 go_enter Tryz.func107,Tryz.ntmps107
 go_wp2_with fail
 go_loopw [5] (fun i wr=>∃k:Nat,k<=1/\i=.int .i64 k/\(k=1->x≠r)/\Has wr w.heap.size (ints .u8 r)/\Has wr g (ints .u8 x)/\Below w.heap.size w wr) (fun i _=>1-(intOf i).toNat)
 case atStart=>exact⟨0,Nat.zero_le _,rfl,fun h=>absurd h (by decide),X0.out,G0.out,B0.out⟩
 case round=>
  obtain⟨k,hk,rfl,hno,hx0,hg0,hbel⟩:=hrel
  have Y0:=bx hx0
  have YG:=bx hg0
  have BY:=bx hbel
  clear hx0 hg0 hbel X0 G0 B0
  rcases(show k=0\/k=1 by omega)with rfl|rfl
  .have CR:=bx (fun(w1:World) (h1:Cls wr.heap.size wr w1)=>(YG.out.below h1.out YG.out.lt).rangeAll)
   have C1:=bx (fun(w1:World) (h1:Cls wr.heap.size wr w1)=>Y0.out.below h1.out Y0.out.lt)
   have hq:=AdW HX.out HR.out
   clear hno
   by_cases he:x=r
   .have HD:=bx (decide_eq_true he)
    rw[decide_eq_true he]at hq
    clear he
    go_wp2_with fail
    refine AbD wr.heap.size (by kernel_rfl) (by kernel_rfl) ?_
    repeat(first|go_big_quiet_skip|(go_big_quiet_want;first|(first|((with_reducible refine Abl 29 _ rfl g 0 (ints .u8 x) ?_ CR.out Tryz.underlying29 ?_ ?_ ?_);rfl;rfl;exact cells_root HX.out;go_big_quiet_on;(simp only[Act.put,List.setIfInBounds_toArray,List.set_cons_succ,List.set_cons_zero]))|((with_reducible refine Abq 29 _ rfl _ (ints .u8 r) ?_ C1.out Tryz.underlying29 rfl ?_ ?_);rfl;exact cells_root HR.out;go_big_quiet_on;(simp only[Act.put,List.setIfInBounds_toArray,List.set_cons_succ,List.set_cons_zero])))|(go_big_quiet_op;first|go_big_quiet_on|((with_reducible refine⟨_,fun _ _=>rfl,?_⟩);go_big_quiet_on))))
    refine wpQuiet_nil ?_
    intro w4 hw4
    have B4:=bx (BY.out.trans (hw4.out.mono BY.out.size))
    clear hw4
    go_wp2_with fail
    go_ret
    exact⟨by first|rfl|(rw[HD.out];rfl),B4.out⟩
   .have HE:=bx he
    rw[decide_eq_false he]at hq
    clear he
    go_wp2_with fail
    refine AbD wr.heap.size (by kernel_rfl) (by kernel_rfl) ?_
    repeat(first|go_big_quiet_skip|(go_big_quiet_want;first|(first|((with_reducible refine Abl 29 _ rfl g 0 (ints .u8 x) ?_ CR.out Tryz.underlying29 ?_ ?_ ?_);rfl;rfl;exact cells_root HX.out;go_big_quiet_on;(simp only[Act.put,List.setIfInBounds_toArray,List.set_cons_succ,List.set_cons_zero]))|((with_reducible refine Abq 29 _ rfl _ (ints .u8 r) ?_ C1.out Tryz.underlying29 rfl ?_ ?_);rfl;exact cells_root HR.out;go_big_quiet_on;(simp only[Act.put,List.setIfInBounds_toArray,List.set_cons_succ,List.set_cons_zero])))|(go_big_quiet_op;first|go_big_quiet_on|((with_reducible refine⟨_,fun _ _=>rfl,?_⟩);go_big_quiet_on))))
    refine wpQuiet_nil ?_
    intro w4 hw4
    have B4:=bx (BY.out.trans (hw4.out.mono BY.out.size))
    have Y4:=bx (Y0.out.below hw4.out Y0.out.lt)
    have G4:=bx (YG.out.below hw4.out YG.out.lt)
    clear hw4
    go_wp2_with fail
    go_roundw
    case rel=>exact⟨1,Nat.le_refl _,rfl,fun _=>HE.out,Y4.out,G4.out,B4.out⟩
    case measure=>simp[intOf]
  .have HD:Bx (decide (x=r)=false):=⟨decide_eq_false (hno rfl)⟩
   go_wp2_with fail
   go_ret
   exact⟨by first|rfl|(rw[HD.out];rfl),BY.out⟩
theorem Ag3(g:Nat)(AL AE Ab:Option Addr)(cl ne ce n cb:Nat)(vs:List Vt)(G bs x:List Int)(hne:ne<=4096)(hs:SmT bs)(hn7:n<=7)(hx:x.length=32)(w:World)
  (h1:VRow w AL n vs) (h2:GRow w AE ne G) (h3:URow w Ab n bs) (h:Has w g (ints .u8 x)) :
  Calls Tryz.prog 85 #[.agg #[.slice AL n cl,.slice AE ne ce],.slice Ab n cb,.slice (some ⟨g,0,none⟩) 1 1] w fun e w'=>e=.returned (.int .u64 (wgt vs G bs x n))/\Below w.heap.size w w':=by
 have HX:=bx hx
 have HS:=bx hs
 have R1:=bx h1
 have R2:=bx h2
 have R3:=bx h3
 have L1:=bx h1.1
 have L3:=bx h3.1
 have HG:=bx h
 have X0:=bx (Air w (.slice AL n cl) (.slice AE ne ce))
 have B0:=bx (ext_alloc w (.cells #[.slice AL n cl,.slice AE ne ce] 35))
 clear h h1 h2 h3 hx hs
 go_enter Tryz.func85,Tryz.ntmps85
 go_wp2_with fail
 go_loopw [7,8] (fun s i wr=>∃k:Nat,k<=n/\i=.int .i64 k/\s=.int .u64 (wgt vs G bs x k)/\Has wr w.heap.size [.slice AL n cl,.slice AE ne ce]/\Below w.heap.size w wr) (fun _ i _=>n-(intOf i).toNat)
 case atStart=>exact⟨0,Nat.zero_le _,rfl,rfl,X0.out,B0.out⟩
 case round=>
  obtain⟨k,hk,rfl,rfl,hx0,hbel⟩:=hrel
  have Y0:=bx hx0
  have BY:=bx hbel
  have hc0:wr.cell? ⟨w.heap.size,0,none⟩=some (.slice AL n cl):=Y0.out.cell 0
  have hc1:wr.cell? ⟨w.heap.size,1,none⟩=some (.slice AE ne ce):=Y0.out.cell 1
  clear hx0 hbel X0 B0
  by_cases hkn:k<n
  .have hki:(k:Int)<(n:Int):=by omega
   have hk0:(0:Int)<=(k:Int):=by omega
   have HKN:=bx hkn
   have MEA:Bx (n-(intOf (.int .i64 ((k:Int)+1))).toNat<n-(intOf (.int .i64 (k:Int))).toNat):=⟨by simp[intOf];omega⟩
   have hkv:k<vs.length:=by rw[L1.out];exact hkn
   have hkb:k<bs.length:=by rw[L3.out];exact hkn
   obtain⟨gv,pv,rfl,hgv⟩:=(R1.out.below BY.out).2.2 (by omega)
   obtain⟨gb,pb,rfl,hgb⟩:=(R3.out.below BY.out).2 (by omega)
   have hcb:=fun w2 (h:Below wr.heap.size wr w2)=>URow.cell (hgb.below h hgb.lt) hkb
   have hvk:vs.getD k zv=vs[k]:=by simp[List.getD,List.getElem?_eq_getElem hkv]
   have RV:Bx (wr.rangeAt gv (k*34) (vc (vs.getD k zv))):=⟨by rw[hvk];exact hgv.rangeP R1.out.2.1.len k hkv⟩
   have hvo:(vs.getD k zv).2.2.length=32/\Bt (vs.getD k zv).2.2:=by rw[hvk];exact R1.out.2.1 _ (List.getElem_mem hkv)
   have HAS:=bx (Afr _ AE ne ce G (k:Int) wr (R2.out.below BY.out).row (by omega))
   have CH:=bx (AmL (vs:=vs) (G:=G) (m:=k))
   have CG:=bx (Aig (vs:=vs) (G:=G) (m:=k))
   have CY:=bx (AmK (vs:=vs) (G:=G) (m:=k))
   have hws:wgt vs G bs x (k+1)=wgt vs G bs x k+if cnt vs G x k=true then bs.getD k 0 else 0:=rfl
   have HWS:=bx hws
   have hb1:=HS.out.at hkb
   have hb3:=AkJ (vs:=vs) (G:=G) (r:=x) HS.out (k:=k) (by omega)
   have hb2:=Aiq (vs:=vs) (G:=G) (r:=x) HS.out (k:=k) (by omega)
   have HGR:=bx ((HG.out.below BY.out HG.out.lt))
   clear hgv hgb hvk hws hkb hkv
   generalize bs.getD k 0=y at *
   generalize wgt vs G bs x k=s at *
   generalize vs.getD k zv=v at *
   obtain⟨hh,ep,r⟩:=v
   have LR:Bx (r.length=32):=⟨hvo.1⟩
   have hch:wr.cell? ⟨gv,k*34,none⟩=some (.bool hh):=RV.out 0 _ rfl
   have RT:=bx (AfJ (ds:=ints .u8 r) 2 RV.out (fun j u hu=>by rw[Nat.add_comm];exact hu))
   have CO:=bx (Afw g x r HX.out LR.out wr HGR.out)
   have hsy:(s+y)%18446744073709551616=s+y:=by omega
   clear hvo RV
   cases hh with
   |false=>
    have HT:Bx (wgt vs G bs x (k+1)=s):=⟨by rw[HWS.out,CH.out rfl];simp⟩
    clear CH CG CY HAS CO
    go_wp2_with fail
    go_roundw
    case rel=>exact⟨k+1,HKN.out,by go_num,by rw[HT.out],Y0.out,BY.out⟩
    case measure=>exact MEA.out
   |true=>
    go_wp2_with fail
    refine HAS.out.mono ?_;rintro e w2 ⟨rfl,rfl⟩
    by_cases hg:(k:Int)∈G
    .have HT:Bx (wgt vs G bs x (k+1)=s):=⟨by rw[HWS.out,CG.out hg];simp⟩
     rw[decide_eq_true hg]
     clear hg CH CG CY CO
     go_wp2_with fail
     go_roundw
     case rel=>exact⟨k+1,HKN.out,by go_num,by rw[HT.out],Y0.out,BY.out⟩
     case measure=>exact MEA.out
    .have CY2:=bx (CY.out (by first|rfl|trivial) hg)
     rw[decide_eq_false hg]
     clear hg CH CG CY
     go_wp2_with ((with_reducible refine Af0 29 _ rfl ?_ gv (k*34+2) (ints .u8 r) RT.out ?_ Tryz.underlying29 ?_ ?_ ?_);rfl;rfl;rfl;exact cells_root LR.out)
     refine CO.out.mono ?_;rintro e w2 ⟨rfl,hb⟩
     have hcb2:=hcb w2 hb
     have Y2:=bx (Y0.out.below hb Y0.out.lt)
     have B2:=bx (BY.out.trans (hb.mono BY.out.size))
     clear hb hcb
     by_cases he:x=r
     .have HT:Bx (wgt vs G bs x (k+1)=s+y):=⟨by rw[HWS.out,CY2.out,decide_eq_true he.symm];simp⟩
      rw[decide_eq_true he]
      clear he CY2
      go_wp2_with fail
      go_roundw
      case rel=>exact⟨k+1,HKN.out,by go_num,by rw[HT.out],Y2.out,B2.out⟩
      case measure=>exact MEA.out
     .have HT:Bx (wgt vs G bs x (k+1)=s):=⟨by rw[HWS.out,CY2.out,decide_eq_false (fun h=>he h.symm)];simp⟩
      rw[decide_eq_false he]
      clear he CY2
      go_wp2_with fail
      go_roundw
      case rel=>exact⟨k+1,HKN.out,by go_num,by rw[HT.out],Y2.out,B2.out⟩
      case measure=>exact MEA.out
  .obtain rfl:k=n:=by omega
   go_wp2_with fail
   go_ret
   exact⟨rfl,BY.out⟩
theorem AmN(ps:List (Nat × Value)):Tryz.prog.builtSlice 29 1 ps=Instr.fill (fun i=>some (i*32,32)) (ints .u8 zroot).toArray ps:=by kernel_rfl
theorem Agt{r:List Int}(h:r.length=32):Tryz.prog.builtSlice 29 1 [(0,.agg (ints .u8 r).toArray)]=some (ints .u8 r).toArray:=by
 rw[AmN]
 have e0:ints .u8 zroot = []++ints .u8 zroot ++ []:=by simp
 rw[e0,Adg _ [] (ints .u8 zroot) [] (ints .u8 r) 0 _ _ (by rw[ints_len,h];rfl) rfl (by rw[ints_len,ints_len,h];rfl)]
 simp[Instr.fill]
theorem Alw{o:Oper}{a:Act}{w:World}{x:Operand}{r:List Int}(h:r.length=32)(ho:o.op=.buildSlice 143 1 #[(0,x)])(hx:a.eval x=.agg (ints .u8 r).toArray) :
  (execOp a.eval o).run Tryz.prog w=.ok (.value (.slice (some ⟨w.heap.size,0,none⟩) 1 1)) (w.alloc (.cells (ints .u8 r).toArray 29)):=by
 have e:(#[(0,x)].map fun(i,x)=>(i,a.eval x)) = #[(0,.agg (ints .u8 r).toArray)]:=by
  apply Array.ext'
  rw[Array.toList_map]
  show [(0,a.eval x)]=_
  rw[hx]
 have:=run_sliceTo (P:=Tryz.prog) w 143 29 1 #[(0,.agg (ints .u8 r).toArray)] _ Tryz.underlying143 (Agt h)
 unfold execOp
 simp only[ho,e,this,Sem.run_bind,Result.andThen_ok]
 rfl
theorem Ae0(A0 AL AE Ab:Option Addr)(n0 c0 cl ne ce n cb:Nat)(ns:List Nd)(vs:List Vt)(G bs:List Int)(hne:ne<=4096)(hs:SmT bs)(hn7:n<=7)(hn9:n0<=4096)(w:World)
  (h0:NRow w A0 n0 ns) (h1:VRow w AL n vs) (h2:GRow w AE ne G) (h3:URow w Ab n bs) :
  Calls Tryz.prog 54 #[.agg #[.slice A0 n0 c0],.agg #[.slice AL n cl,.slice AE ne ce],.slice Ab n cb] w (UP n0 (dirL ns vs G bs n) w):=by
 obtain⟨i0,hi0,hz0,hz1,hz2⟩:=info_parts info_u64
 have HI:=bx (show Tryz.prog.info? 23=some i0 from hi0)
 have HS:=bx hs
 have R0:=bx h0
 have R1:=bx h1
 have R2:=bx h2
 have R3:=bx h3
 have L0:=bx h0.1
 have L3:=bx h3.1
 have U64D:Bx (U64 (dirL ns vs G bs n)):=⟨fun x hx=>by have:=Ak4 (ns:=ns) (vs:=vs) (G:=G) hs (m:=n) (by rw[h3.1];exact Nat.le_refl _) x hx;omega⟩
 have DL:Bx ((dirL ns vs G bs n).length=n0):=⟨by rw[AiA,h0.1]⟩
 have DAT:=bx (fun i (hi:i<ns.length)=>AmG (vs:=vs) (G:=G) (bs:=bs) (m:=n) hi)
 have XA3:=bx ((Has.new w [.slice A0 n0 c0] 46).alloc (.cells #[.slice AL n cl,.slice AE ne ce] 35))
 have XA4:Bx (Has ((w.alloc (.cells #[.slice A0 n0 c0] 46)).alloc (.cells #[.slice AL n cl,.slice AE ne ce] 35)) (w.heap.size+1) [.slice AL n cl,.slice AE ne ce]):=⟨has_newAt (alloc_size w _) [.slice AL n cl,.slice AE ne ce] _⟩
 have BA:=bx ((ext_alloc w (.cells #[.slice A0 n0 c0] 46)).alloc (by simp) (.cells #[.slice AL n cl,.slice AE ne ce] 35))
 clear h0 h1 h2 h3 hs hi0
 go_enter Tryz.func54,Tryz.ntmps54
 go_wp2_with fail
 generalize hds:dirL ns vs G bs n=ds at *
 go_loopw [7,8] (fun s i wr=>∃k:Nat,k<=n0/\i=.int .i64 k/\wr.ownsRow (w.heap.size+1+1) 23 1 s k (ints .u64 (ds.take k))/\Has wr w.heap.size [.slice A0 n0 c0]/\Has wr (w.heap.size+1) [.slice AL n cl,.slice AE ne ce]/\Below w.heap.size w wr) (fun _ i _=>n0-(intOf i).toNat)
 case atStart=>exact⟨0,Nat.zero_le _,rfl,World.ownsRow_nil _ _ _ _,XA3.out,XA4.out,BA.out⟩
 case round=>
  obtain⟨k,hk,rfl,hown,hx3,hx4,hbel⟩:=hrel
  have OR:=bx hown
  have X3:=bx hx3
  have X4:=bx hx4
  have BR:=bx hbel
  clear hown hx3 hx4 hbel XA3 XA4 BA
  obtain⟨A7,c7,hv⟩:=own_slice OR.out
  subst hv
  have hc0:wr.cell? ⟨w.heap.size,0,none⟩=some (.slice A0 n0 c0):=X3.out.cell 0
  by_cases hkn:k<n0
  .have hki:(k:Int)<(n0:Int):=by omega
   have hk0:(0:Int)<=(k:Int):=by omega
   have HKN:=bx hkn
   have hkl:k<ns.length:=by rw[L0.out];exact hkn
   have HM1:Bx (k+1<=maxLen):=⟨by unfold maxLen;omega⟩
   have HM2:Bx ((k+1)*8<=140737488355328):=⟨by omega⟩
   have MEA:Bx (n0-(intOf (.int .i64 ((k:Int)+1))).toNat<n0-(intOf (.int .i64 (k:Int))).toNat):=⟨by simp[intOf];omega⟩
   obtain⟨g0,p0,rfl,hg0⟩:=(R0.out.below BR.out).2.2 (by omega)
   have OKN:=bx (R0.out.2.1 _ (List.getElem_mem hkl))
   have hcs:=hg0.nodeCell R0.out.2.1 k hkl 239 _ (Al7 OKN.out)
   have CR:=bx (fun w6 (h6:Cls wr.drew.heap.size wr.drew w6)=>(hg0.drew.below h6.out hg0.lt).nodeRoot R0.out.2.1 k hkl)
   have TP:=bx (Aiy (G:=ds) (k:=k) (by rw[DL.out];exact hkn))
   have DK:=bx (DAT.out k hkl)
   have LR:=bx OKN.out.root
   clear hg0 OKN DAT hds
   generalize ns[k].b.root=r at *
   by_cases hst:ns[k].st=2
   .have DK2:Bx (ds.getD k 0=0):=⟨by rw[DK.out,if_pos hst]⟩
    have SZ:Bx (w.heap.size+1+1<=wr.heap.size):=⟨X4.out.lt⟩
    rw[hst]at hcs
    rw[DK2.out]at TP
    clear hst DK DK2 CR
    go_wp2_with (at_builtin;(with_reducible refine Aca rfl (.tmp 35) (.tmp 37) 30 rfl (w.heap.size+1+1) 23 i0 _ 1 8 Tryz.underlying30 HI.out hz0 hz1 hz2 rfl (by omega) _ _ _ ?_ OR.out [.int .u64 0] ?_ rfl (one_u64 0) HM1.out HM2.out SZ.out ?_);rfl;rfl;intro v' w' hown' hg' hbel' _;have HOWN3:=bx hown';have HB3:=bx (BR.out.trans (hbel'.mono (by omega)));have X33:=bx (X3.out.below hbel' (by omega));have X43:=bx (X4.out.below hbel' (by omega));clear hown' hg' hbel')
    go_roundw
    case rel=>exact⟨k+1,HKN.out,by go_num,by rw[TP.out,ints_push];exact HOWN3.out,X33.out,X43.out,HB3.out⟩
    case measure=>exact MEA.out
   .have DK2:Bx (ds.getD k 0=wgt vs G bs r n):=⟨by rw[DK.out,if_neg hst]⟩
    have hne2:(ns[k].st != 2)=true:=by rw[bne_iff_ne];exact hst
    rw[DK2.out]at TP
    clear hst DK DK2
    generalize ns[k].st=st at *
    have OD:Bx (wr.drew.ownsRow (w.heap.size+1+1) 23 1 (.slice A7 k c7) k (ints .u64 (ds.take k))):=⟨OR.out⟩
    have X3d:Bx (Has wr.drew w.heap.size [.slice (some ⟨g0,0,none⟩) n0 c0]):=⟨X3.out⟩
    have X4d:Bx (Has wr.drew (w.heap.size+1) [.slice AL n cl,.slice AE ne ce]):=⟨X4.out⟩
    have BD:Bx (Below w.heap.size w wr.drew):=⟨BR.out.drew⟩
    have CN:=bx (fun w6 (h6:Cls wr.drew.heap.size wr.drew w6)=>Ads ((X3d.out.below h6.out X3d.out.lt).cell 0))
    have CV:=bx (Has.cls X4d.out)
    clear OR X3 X4 BR
    go_wp2_with fail
    refine AdF 11 (.steps [(0,0),(0,1),(0,2),(0,3),(0,4),(0,5),(0,6),(0,7),(0,8),(2,9),(2,10)] .leaf) (by kernel_rfl) (by kernel_rfl) ?_
    simp only[MixT,MT.steps,stepAt,List.getD_cons_zero,List.getD_cons_succ,List.drop_succ_cons,List.drop_zero]
    repeat(first|(with_reducible refine wpQuiet_nil ?_)|(first|go_big_quiet_skip|(go_big_quiet_want;first|(first|((with_reducible refine Abq 35 _ rfl _ [.slice AL n cl,.slice AE ne ce] ?_ CV.out Tryz.underlying35 rfl ?_ ?_);rfl;exact Aha _ _;go_big_quiet_on;(simp only[Act.put,List.setIfInBounds_toArray,List.set_cons_succ,List.set_cons_zero]))|((with_reducible refine quiet_cell 44 _ rfl _ _ ?_ CN.out ?_);rfl;go_big_quiet_on;(simp only[Act.put,List.setIfInBounds_toArray,List.set_cons_succ,List.set_cons_zero]))|((with_reducible refine Abl 29 _ rfl g0 (k*240+67) (ints .u8 r) ?_ CR.out Tryz.underlying29 ?_ ?_ ?_);rfl;rfl;exact cells_root LR.out;go_big_quiet_on;(simp only[Act.put,List.setIfInBounds_toArray,List.set_cons_succ,List.set_cons_zero])))|(go_big_quiet_op;first|go_big_quiet_on|((with_reducible refine⟨_,fun _ _=>rfl,?_⟩);go_big_quiet_on)))))
    clear CN CV CR
    generalize wr.drew=w1 at *
    refine mix_run (Alw LR.out rfl rfl) rfl ?_
    refine⟨ext_alloc _ _,?_⟩
    have EX:=bx (ext_alloc w1 (.cells (ints .u8 r).toArray 29))
    have GB:=bx (Has.new w1 (ints .u8 r) 29)
    have X32:=bx (X3d.out.below EX.out X3d.out.lt)
    have X42:=bx (X4d.out.below EX.out X4d.out.lt)
    have O2:=bx (own_ext OD.out EX.out)
    have B2:=bx (BD.out.trans (EX.out.mono BD.out.size))
    clear X3d X4d OD BD EX
    refine Afl (Ag3 w1.heap.size AL AE Ab cl ne ce n cb vs G bs r hne HS.out hn7 LR.out _ (R1.out.below B2.out) (R2.out.below B2.out) (R3.out.below B2.out) GB.out) Tryz.func85 rfl rfl _ _ rfl rfl rfl ?_
    rintro e w3 ⟨rfl,hb⟩
    refine⟨_,rfl,hb,?_⟩
    have X3n:=bx (X32.out.below hb X32.out.lt)
    have X4n:=bx (X42.out.below hb X42.out.lt)
    have O3:=bx (own_ext O2.out hb)
    have B3:=bx (B2.out.trans (hb.mono B2.out.size))
    have SZ:Bx (w.heap.size+1+1<=w3.heap.size):=⟨X4n.out.lt⟩
    clear hb X32 X42 O2 B2 GB
    generalize wgt vs G bs r n=z at *
    simp only[Act.put,List.setIfInBounds_toArray,List.set_cons_succ,List.set_cons_zero]
    go_wp2_with fail
    refine NoPanic.normal ?_
    go_wp2_with (at_builtin;(with_reducible refine Aca rfl (.tmp 35) (.tmp 37) 30 rfl (w.heap.size+1+1) 23 i0 _ 1 8 Tryz.underlying30 HI.out hz0 hz1 hz2 rfl (by omega) _ _ _ ?_ O3.out [.int .u64 z] ?_ rfl (one_u64 z) HM1.out HM2.out SZ.out ?_);rfl;rfl;intro v' w' hown' hg' hbel' _;have HOWN3:=bx hown';have HB3:=bx (B3.out.trans (hbel'.mono (by omega)));have X33:=bx (X3n.out.below hbel' (by omega));have X43:=bx (X4n.out.below hbel' (by omega));clear hown' hg' hbel')
    go_roundw
    case rel=>exact⟨k+1,HKN.out,by go_num,by rw[TP.out,ints_push];exact HOWN3.out,X33.out,X43.out,HB3.out⟩
    case measure=>exact MEA.out
  .obtain rfl:k=n0:=by omega
   have HT:Bx (ds.take k=ds):=⟨List.take_of_length_le (by rw[DL.out];exact Nat.le_refl _)⟩
   go_wp2_with fail
   go_ret
   exact⟨A7,c7,rfl,U64D.out,URow.own DL.out (by rw[<-HT.out];exact OR.out),BR.out⟩
end Go.Proofs.YtmgeheaneohldaaGreat.Old
namespace Go.Proofs.YtmgeheaneohldaaGreat.Old
open Go.RowKit
theorem Ajn{us:List Int}(h:Lk us)(f:Nat->Int)(i:Nat):∀n,n<=us.length->((descN us i n).map f).sum=own us (i+1) f i n
 |0,_=>rfl
 |n+1,hn=>by
  have ih:=Ajn h f i n (by omega)
  have e:=Akr h (a:=i) (b:=n) (by omega)
  unfold anc at e
  rw[own]
  by_cases ha:hat us (i+1) n n=i
  .rw[decide_eq_true ha]at e
   rw[Agn e,if_pos ha,<-ih,List.map_append,List.sum_append_int];simp
  .rw[decide_eq_false ha]at e
   rw[AiC e,if_neg ha,<-ih];omega
def nat0(d:List Int)(j:Nat):Int:=d.getD j 0
def subL(us:List Int)(n:Nat)(d:List Int):List Int:=(List.range n).map fun i=>tot us (nat0 d) i n%18446744073709551616
theorem Ahg(us:List Int)(n:Nat)(d:List Int):(subL us n d).length=n:=by simp[subL]
theorem Alq{us:List Int}{n:Nat}{d:List Int}{i:Nat}(hi:i<n):(subL us n d).getD i 0=tot us (nat0 d) i n%18446744073709551616:=by
 rw[getD_at (by rw[Ahg];exact hi)];simp[subL]
theorem Alr(us:List Int)(n:Nat)(d:List Int):U64 (subL us n d):=fun x hx=>by
 obtain⟨i,_,rfl⟩:=List.mem_map.1 hx
 omega
theorem Akj{f:Nat->Int}{L:List Nat}{k:Nat}(hk:k<L.length):((L.take (k+1)).map f).sum=((L.take k).map f).sum+f L[k]:=by
 rw[List.take_succ_eq_append_getElem hk,List.map_append,List.sum_append_int];simp
def UO(n:Nat)(xs:List Int)(w:World)(e:Ending)(w':World):Prop:=
 ∃(A:Option Addr) (c:Nat),e=.returned (.slice A n c)/\U64 xs/\xs.length=n/\w'.ownsRow w.heap.size 23 1 (.slice A n c) n (ints .u64 xs)/\Below w.heap.size w w'
theorem Aez(A0 A1:Option Addr)(n c0 c1:Nat)(ns:List Nd)(ws:List Int)(hw:U64 ws)(hk:Lk (Go.Proofs.YtmgeheaneohldaaGreat.Old.ups ns))(hn:n<=4096)(w:World)(h0:NRow w A0 n ns)(h1:URow w A1 n ws) :
  Calls Tryz.prog 55 #[.agg #[.slice A0 n c0],.slice A1 n c1] w (UO n (subL (Go.Proofs.YtmgeheaneohldaaGreat.Old.ups ns) n ws) w):=by
 obtain⟨i0,hi0,hz0,hz1,hz2⟩:=info_parts info_u64
 have HI:=bx (show Tryz.prog.info? 23=some i0 from hi0)
 have LW:=bx h1.1
 have HW:=bx hw
 have R1:=bx h1
 have DE:=bx (fun(i:Nat) w1 (hb:Below w.heap.size w w1)=>AiB hk A0 n c0 hn i w1 (h0.below hb))
 have DS:=bx (fun i (hi:i<n)=>(Alq (us:=Go.Proofs.YtmgeheaneohldaaGreat.Old.ups ns) (d:=ws) hi).trans (congrArg (· % 18446744073709551616) (Ajn hk (nat0 ws) i n (by rw[AeO,h0.1];exact Nat.le_refl _)).symm))
 have SL:=bx (Ahg (Go.Proofs.YtmgeheaneohldaaGreat.Old.ups ns) n ws)
 have S64:=bx (Alr (Go.Proofs.YtmgeheaneohldaaGreat.Old.ups ns) n ws)
 have X0:=bx (Has.new w [.slice A0 n c0] 46)
 have B0:=bx (ext_alloc w (.cells #[.slice A0 n c0] 46))
 clear h0 h1 hw hk hi0
 generalize Go.Proofs.YtmgeheaneohldaaGreat.Old.ups ns=us at *
 generalize subL us n ws=R at *
 go_enter Tryz.func55,Tryz.ntmps55
 go_wp2_with fail
 go_loopw [5,6] (fun s i wr=>∃k:Nat,k<=n/\i=.int .i64 k/\wr.ownsRow (w.heap.size+1) 23 1 s k (ints .u64 (R.take k))/\Has wr w.heap.size [.slice A0 n c0]/\Below w.heap.size w wr) (fun _ i _=>n-(intOf i).toNat)
 case atStart=>exact⟨0,Nat.zero_le _,rfl,World.ownsRow_nil _ _ _ _,X0.out,B0.out⟩
 case round=>
  obtain⟨i,hi,rfl,hown,hx,hbel⟩:=hrel
  have OW:=bx hown
  have XR:=bx hx
  have BR:=bx hbel
  clear hown hx hbel X0 B0
  obtain⟨A8,c8,hv⟩:=own_slice OW.out
  subst hv
  have hcb:wr.cell? ⟨w.heap.size,0,none⟩=some (.slice A0 n c0):=XR.out.cell 0
  by_cases hin:i<n
  .have hini:(i:Int)<(n:Int):=by omega
   have HIN:=bx hin
   have HLD:=bx (fun j (hj:j∈descN us i n)=>Ak5 j hj)
   have HLL:=Ago us i n
   have DSI:=bx (DS.out i hin)
   go_wp2_with ((with_reducible refine AbG 46 _ rfl _ [.slice A0 n c0] ?_ ?_ XR.out Tryz.underlying46 rfl ?_ ?_);rfl;rfl;exact Ab7 _)
   refine(DE.out i _ BR.out).mono ?_;rintro e w1 ⟨A12,c12,rfl,ho,hb⟩
   have X1:=bx (XR.out.below hb XR.out.lt)
   have O1:=bx (own_ext OW.out hb)
   have B1:=bx (BR.out.trans (hb.mono BR.out.size))
   have D12:=bx ho
   clear hb ho XR OW BR hcb
   generalize descN us i n=L at *
   go_wp2_with fail
   go_loop [7,9] (fun s j=>∃k:Nat,k<=L.length/\j=.int .i64 k/\s=.int .u64 (((L.take k).map (nat0 ws)).sum%18446744073709551616)) (fun _ j=>L.length-(intOf j).toNat)
   case atStart=>exact⟨0,Nat.zero_le _,rfl,rfl⟩
   case round=>
    obtain⟨k,hk,rfl,rfl⟩:=hrel
    by_cases hkl:k<L.length
    .obtain⟨g12,c12',p12,hv,_,hh⟩:=own_block D12.out (by omega)
     injection hv with hv1 hv2 hv3
     subst hv1;subst hv3
     have hjn:=HLD.out L[k] (List.getElem_mem hkl)
     have hnk:(nats L)[k]? = some ((L[k]:Nat):Int):=by simp[nats,List.getElem?_map,List.getElem?_eq_getElem hkl]
     have hcx:w1.cell? ⟨g12,k,none⟩=some (.int .i64 ((L[k]:Nat):Int)):=by
      rw[hh.cell,List.getElem?_append_left (by rw[ints_len,Akg];exact hkl),ints,List.getElem?_map,hnk];rfl
     obtain⟨g2,p2,rfl,hg2⟩:=(R1.out.below B1.out).2 (by omega)
     have hcu:w1.cell? ⟨g2,L[k],none⟩=some (.int .u64 (nat0 ws L[k])):=URow.cell hg2 (by rw[LW.out];exact hjn)
     have hx:=HW.out.at (k:=L[k]) (by rw[LW.out];exact hjn)
     have MN:=bx (Akj (f:=nat0 ws) hkl)
     have hj0:(0:Int)<=((L[k]:Nat):Int):=by omega
     have hjni:((L[k]:Nat):Int)<(n:Int):=by omega
     have hki:(k:Int)<(L.length:Int):=by omega
     have hk0:(0:Int)<=(k:Int):=by omega
     have HKL:=bx hkl
     change 0<=nat0 ws L[k]/\nat0 ws L[k]<_ at hx
     clear hg2 hh hnk hv2
     generalize nat0 ws L[k]=x at *
     generalize L[k]=j at *
     generalize hS:((L.take k).map (nat0 ws)).sum=S at *
     have SB:0<=S%18446744073709551616/\S%18446744073709551616<18446744073709551616:=by omega
     have SN:Bx ((S%18446744073709551616+x)%18446744073709551616=(S+x)%18446744073709551616):=⟨Int.emod_add_emod _ _ _⟩
     generalize S%18446744073709551616=Sm at *
     go_wp2_with fail
     go_round
     case rel=>exact⟨k+1,HKL.out,by go_num,by rw[MN.out,<-SN.out];rfl⟩
     case measure=>simp[intOf];omega
    .have hkk:k=L.length:=by omega
     subst hkk
     rw[List.take_of_length_le (Nat.le_refl _),<-DSI.out]
     have HRT:Bx (ints .u64 (R.take (i+1))=ints .u64 (R.take i) ++ [.int .u64 (R.getD i 0)]):=⟨by
      rw[List.take_succ_eq_append_getElem (by rw[SL.out];exact HIN.out),ints_push,<-getD_at]⟩
     generalize R.getD i 0=v at *
     have HM1:Bx (i+1<=maxLen):=⟨by unfold maxLen;have:=HIN.out;omega⟩
     have HM2:Bx ((i+1)*8<=140737488355328):=⟨by have:=HIN.out;omega⟩
     have SZ:Bx (w.heap.size+1<=w1.heap.size):=⟨X1.out.lt⟩
     clear DSI
     go_wp2_with (at_builtin;(with_reducible refine Aca rfl (.tmp 35) (.tmp 37) 30 rfl (w.heap.size+1) 23 i0 _ 1 8 Tryz.underlying30 HI.out hz0 hz1 hz2 ?_ (by omega) _ _ _ ?_ O1.out [.int .u64 v] ?_ ?_ (one_u64 v) HM1.out HM2.out SZ.out ?_);rfl;rfl;rfl;rfl;intro v' w' hown' hg' hbel' _;have HOWN3:=bx hown';have HB3:=bx (B1.out.trans (hbel'.mono (Nat.le_succ _)));have X3:=bx (X1.out.below hbel' (Nat.lt_succ_self _));clear hown' hg' hbel')
     go_roundw
     case rel=>exact⟨i+1,HIN.out,by go_num,by rw[HRT.out];exact HOWN3.out,X3.out,HB3.out⟩
     case measure=>simp[intOf];omega
  .have hkk:i=n:=by omega
   subst hkk
   have RT:Bx (R.take i=R):=⟨List.take_of_length_le (by rw[SL.out];exact Nat.le_refl _)⟩
   go_wp2_with fail
   go_ret
   exact⟨A8,c8,rfl,S64.out,SL.out,own_mono (by have:=OW.out;rw[RT.out]at this;exact this) (Nat.le_succ _),BR.out⟩
end Go.Proofs.YtmgeheaneohldaaGreat.Old
namespace Go.Proofs.YtmgeheaneohldaaGreat.Old
open Go.RowKit
def FK(ns:List Nd)(r:List Int)(k:Int):Prop:=(k = -1/\∀x∈ns,x.b.root≠r)\/∃(i:Nat) (hi:i<ns.length),k=i/\ns[i].b.root=r/\∀j (hj:j<i),(ns[j]'(Nat.lt_trans hj hi)).b.root≠r
end Go.Proofs.YtmgeheaneohldaaGreat.Old
namespace Go.Proofs.YtmgeheaneohldaaGreat.Old
open Go.RowKit
def stAt(ns:List Nd)(i:Nat):Int:=(ns.map (·.st)).getD i 0
theorem Als{ns:List Nd}{i:Nat}(h:i<ns.length):stAt ns i=ns[i].st:=by
 unfold stAt;rw[getD_at (by simpa using h)];simp
def boostV(ns:List Nd)(ds:List Int)(r:List Int)(a:Int)(k:Int):List Int:=
 if r=zroot then ds else if 0<=k/\stAt ns k.toNat≠2 then ds.set k.toNat ((ds.getD k.toNat 0+a)%18446744073709551616)else ds
theorem Ahd{ns:List Nd}{ds:List Int}{a k:Int}:boostV ns ds zroot a k=ds:=if_pos rfl
theorem Agu{ns:List Nd}{ds:List Int}{r:List Int}{a:Int}:boostV ns ds r a (-1)=ds:=by
 unfold boostV;split
 .rfl
 .rw[if_neg (by omega)]
theorem Aik{ns:List Nd}{ds:List Int}{r:List Int}{a:Int}{i:Nat}(h:stAt ns i=2):boostV ns ds r a i=ds:=by
 unfold boostV;split
 .rfl
 .rw[if_neg (by rw[Int.toNat_natCast,h];omega)]
theorem Aij{ns:List Nd}{ds:List Int}{r:List Int}{a:Int}{i:Nat}(hr:r≠zroot)(h:stAt ns i≠2):boostV ns ds r a i=ds.set i ((ds.getD i 0+a)%18446744073709551616):=by
 unfold boostV;rw[if_neg hr,if_pos ⟨by omega,by rwa [Int.toNat_natCast]⟩,Int.toNat_natCast]
def BoP(ns:List Nd)(ds:List Int)(r:List Int)(a:Int)(n:Nat)(w:World)(e:Ending)(w':World):Prop:=∃k,FK ns r k/\UP n (boostV ns ds r a k) w e w'
theorem AkV{r:List Int}(hr:r.length=32)(w:World):(binOp .neq 29 (.agg (ints .u8 r).toArray) (.agg (ints .u8 zroot).toArray)).run Tryz.prog w=.ok (.bool (!decide (r=zroot))) w:=by
 rw[run_neq_struct,AdW hr (b:=zroot) (by rfl)];rfl
theorem Ahc(A0 A1:Option Addr)(n c0 c1:Nat)(ns:List Nd)(ws:List Int)(hw:U64 ws)(hn:n<=4096)(hn0:0<n)(r:List Int)(hr:r.length=32)(a:Int)(ha:0<=a)(w:World)(h0:NRow w A0 n ns)(h1:URow w A1 n ws) :
  Calls Tryz.prog 56 #[.agg #[.slice A0 n c0],.slice A1 n c1,.agg (ints .u8 r).toArray,.int .u64 a] w (BoP ns ws r a n w):=by
 obtain⟨i0,hi0,hz0,hz1,hz2⟩:=info_parts info_u64
 have HI:=bx (show Tryz.prog.info? 23=some i0 from hi0)
 obtain⟨g1,p1,rfl,hg1⟩:=h1.2 hn0
 have LW:=bx h1.1
 have LN:=bx h0.1
 have HW:=bx hw
 have HR:=bx hr
 have N0:=bx h0
 have HN0:=bx hn0
 have EA:=bx (((Below.refl w.heap.size w).alloc (Nat.le_refl _) (.cells #[.slice A0 n c0] 46)).alloc (by simp) (.cells (ints .u8 r).toArray 29))
 have XB:=bx ((Has.new w [.slice A0 n c0] 46).alloc (.cells (ints .u8 r).toArray 29))
 have XR:Bx (Has ((w.alloc (.cells #[.slice A0 n c0] 46)).alloc (.cells (ints .u8 r).toArray 29)) (w.heap.size+1) (ints .u8 r)):=⟨by have:=Has.new (w.alloc (.cells #[.slice A0 n c0] 46)) (ints .u8 r) 29;simpa using this⟩
 have G1:=bx (hg1.below EA.out hg1.lt)
 have FI:=bx (fun W (h:NRow W A0 n ns)=>Akz A0 n c0 ns r hr W h hn)
 have hz:=Aip
 have hnq:=AkV hr
 have HL:Bx ((ints .u64 ws).length=n*1):=⟨by rw[ints_len,h1.1,Nat.mul_one]⟩
 have ONE:=bx (one_ints .u64 ws)
 have HM1:Bx (0+n<=maxLen):=⟨by unfold maxLen;omega⟩
 have HM2:Bx ((0+n)*8<=140737488355328):=⟨by omega⟩
 have NIL:=bx (fun W:World=>(apd (World.ownsRow_nil W (w.heap.size+1+1) 23 1):Apd W (w.heap.size+1+1) 23 1 (.slice none 0 0) 0 []))
 have SZ:Bx (w.heap.size+1+1<=((w.alloc (.cells #[.slice A0 n c0] 46)).alloc (.cells (ints .u8 r).toArray 29)).heap.size):=⟨by simp⟩
 clear h1 hw h0 hr hg1 hi0
 have NEWS:Bx (∀j u,(ints .u64 ws)[j]? = some u->((w.alloc (.cells #[.slice A0 n c0] 46)).alloc (.cells (ints .u8 r).toArray 29)).cell? ((⟨g1,0,none⟩:Addr).add j)=some u):=⟨fun j u hu=>by
  rw[Ad9,G1.out.cell,Nat.zero_add,List.getElem?_append_left (List.getElem?_eq_some_iff.1 hu).1];exact hu⟩
 go_enter Tryz.func56,Tryz.ntmps56
 go_wp2_with (first|(at_builtin;(with_reducible refine AcZ rfl (.const (.slice none 0 0)) (.tmp 11) 30 rfl i0 _ 8 Tryz.underlying30 HI.out hz0 hz1 hz2 ?_ ?_ ?_ (NIL.out _) ⟨g1,0,none⟩ n c1 (ints .u64 ws) ?_ HN0.out HL.out NEWS.out ONE.out HM1.out HM2.out SZ.out ?_);rfl;omega;rfl;rfl;intro v' w' hown' _ hbel' _;have HW1:=bx hown';have HB1:=bx hbel';have XB2:=bx (XB.out.below hbel' (by omega));have XR2:=bx (XR.out.below hbel' (by omega));have E2:=bx (EA.out.trans (hbel'.mono (by omega)));clear hown' hbel')|((with_reducible refine AbG 46 _ rfl _ [.slice A0 n c0] ?_ ?_ XB2.out Tryz.underlying46 rfl ?_ ?_);rfl;rfl;exact Ab7 _)|((with_reducible refine AbG 29 _ rfl _ (ints .u8 r) ?_ ?_ XR2.out Tryz.underlying29 rfl ?_ ?_);rfl;rfl;exact cells_root HR.out))
 rename_i v' w2
 refine(FI.out _ (N0.out.below E2.out)).mono ?_;rintro e w4 ⟨⟨k,rfl,hk⟩,hb⟩
 have FKK:Bx (FK ns r k):=⟨hk⟩
 have HW2:=HW1.out
 rw[Nat.zero_add,List.nil_append]at HW2
 obtain⟨go,co,po,hv,hgo,hs⟩:=own_block HW2 HN0.out
 subst hv
 have HGO:=bx hgo
 have O4:=bx (hs.below hb hs.lt)
 have E4:=bx (E2.out.trans (hb.mono E2.out.size))
 have XB4:=bx (XB2.out.below hb XB2.out.lt)
 have XR4:=bx (XR2.out.below hb XR2.out.lt)
 have hcb:w4.cell? ⟨w.heap.size,0,none⟩=some (.slice A0 n c0):=XB4.out.cell 0
 clear hb hs hgo HW1 HW2 HB1 XB2 XR2 E2 XB XR EA NEWS NIL SZ FI
 rcases hk with⟨rfl,_⟩|⟨i,hi,rfl,_,_⟩
 .go_wp2_with fail
  go_ret
  exact⟨-1,FKK.out,_,_,rfl,by rw[Agu];exact HW.out,by rw[Agu];exact⟨LW.out,fun _=>⟨go,po,rfl,O4.out⟩⟩,E4.out⟩
 .have hin:i<n:=by rw[<-LN.out];exact hi
  have hini:(i:Int)<(n:Int):=by omega
  have hi0:(0:Int)<=(i:Int):=by omega
  have hi0':(i:Int)≥0:=hi0
  obtain⟨g0,p0,rfl,hg0⟩:=(N0.out.below E4.out).2.2 HN0.out
  have hcs:=hg0.nodeCell N0.out.2.1 i hi 239 _ (Al7 (N0.out.2.1 _ (List.getElem_mem hi)))
  rw[<-Als hi]at hcs
  have hio:Bx (i<ws.length):=⟨by rw[LW.out];exact hin⟩
  clear hg0
  by_cases hst:stAt ns i=2
  .have HV:=bx (Aik (ds:=ws) (r:=r) (a:=a) hst)
   rw[hst]at hcs
   go_wp2_with fail
   go_ret
   exact⟨i,FKK.out,_,_,rfl,by rw[HV.out];exact HW.out,by rw[HV.out];exact⟨LW.out,fun _=>⟨go,po,rfl,O4.out⟩⟩,E4.out⟩
  .have hne:(stAt ns i != 2)=true:=by rw[bne_iff_ne];exact hst
   by_cases hrz:r=zroot
   .rw[decide_eq_true hrz]at hnq
    have HV:Bx (boostV ns ws r a i=ws):=⟨by rw[hrz];exact Ahd⟩
    clear hrz hst
    generalize stAt ns i=st at *
    go_wp2_with ((with_reducible refine AbG 29 _ rfl _ (ints .u8 r) ?_ ?_ XR4.out Tryz.underlying29 rfl ?_ ?_);rfl;rfl;exact cells_root HR.out)
    go_ret
    exact⟨i,FKK.out,_,_,rfl,by rw[HV.out];exact HW.out,by rw[HV.out];exact⟨LW.out,fun _=>⟨go,po,rfl,O4.out⟩⟩,E4.out⟩
   .rw[decide_eq_false hrz]at hnq
    have HV:=bx (Aij (ds:=ws) (a:=a) hrz hst)
    have hc5:=URow.cell O4.out hio.out
    have hf5:w4.frozen? ⟨go,i,none⟩=false:=O4.out.frozen i
    have SETU:=bx (fun v=>Ana ws po i v hio.out)
    have SET64:=bx (fun v hv=>HW.out.set (v:=v) hv i)
    have HX:=HW.out.at hio.out
    clear hrz hst
    generalize stAt ns i=st at *
    generalize ws.getD i 0=x at *
    have hs0:0<=(x+a)%18446744073709551616/\(x+a)%18446744073709551616<18446744073709551616:=by omega
    have SS:=bx hs0
    have S9:=bx (O4.out.set i (.int .u64 ((x+a)%18446744073709551616)))
    rw[SETU.out]at S9
    have B9:=bx (E4.out.grown (Ab6 w4 go i (.int .u64 ((x+a)%18446744073709551616))) E4.out.size (fun k hk=>by cases hk;have:=HGO.out;omega))
    clear hs0
    go_wp2_with ((with_reducible refine AbG 29 _ rfl _ (ints .u8 r) ?_ ?_ XR4.out Tryz.underlying29 rfl ?_ ?_);rfl;rfl;exact cells_root HR.out)
    go_ret
    exact⟨i,FKK.out,_,_,rfl,by rw[HV.out];exact SET64.out _ SS.out,by rw[HV.out];exact⟨by rw[List.length_set,LW.out],fun _=>⟨go,po,rfl,S9.out⟩⟩,B9.out⟩
end Go.Proofs.YtmgeheaneohldaaGreat.Old
namespace Go.Proofs.YtmgeheaneohldaaGreat
open Go.RowKit
def amtOk(s p t:Int):Prop:=1<=s/\s<=64/\p<=100/\t<=4611686018427387904
instance (s p t:Int):Decidable (amtOk s p t):=inferInstanceAs (Decidable (_/\_))
def amt(s p t:Int):Int:=if amtOk s p t then t / s*p / 100 else 0
def amtE(s p t:Int):Int:=if amtOk s p t then 0 else 3
theorem AkE{s p t:Int}(h:¬amtOk s p t):Ending.returned (.tuple #[.int .u64 0,.int .i64 3])=.returned (.tuple #[.int .u64 (amt s p t),.int .i64 (amtE s p t)]):=by
 unfold amt amtE;rw[if_neg h,if_neg h]
def AmtPost(s p t:Int)(w:World)(e:Ending)(w':World):Prop:=e=.returned (.tuple #[.int .u64 (amt s p t),.int .i64 (amtE s p t)])/\Below w.heap.size w w'
theorem Afd{t s:Int}(ht:0<=t)(hs:1<=s)(h:t<=4611686018427387904):0<=t / s/\t / s<=4611686018427387904:=by
 have h1:=Int.ediv_nonneg ht (show 0<=s by omega)
 have h2:=Int.ediv_le_self s ht
 omega
theorem AhF{x p:Int}(h0:0<=x)(h1:x<=4611686018427387904)(hp0:0<=p)(hp:p<=100):0<=x*p/\x*p<=461168601842738790400:=by
 have:=Int.mul_le_mul_of_nonneg_left hp h0
 exact⟨Int.mul_nonneg h0 hp0,by omega⟩
theorem Alz{x p:Int}(h0:0<=x):x / 100*p+x%100*p / 100=x*p / 100:=by
 have e:x*p=x%100*p+x / 100*p*100:=by
  have h1:x=x%100+x / 100*100:=by omega
  have h2:(x%100+x / 100*100)*p=x%100*p+x / 100*p*100:=by rw[Int.add_mul,Int.mul_right_comm]
  rw[<-h2,<-h1]
 rw[e,Int.add_mul_ediv_right _ _ (by decide)]
 omega
theorem Aff(cs:List Value)(s p t:Int)(w:World)(h6:cs[6]? = some (.int .u64 s))(h7:cs[7]? = some (.int .u64 p))(hs:0<=s)(hsm:s<=18446744073709551615)(hp:0<=p)(hpm:p<=18446744073709551615)(ht:0<=t)(htm:t<=18446744073709551615) :
  Calls Tryz.prog 39 #[.agg cs.toArray,.int .u64 t] w (AmtPost s p t w):=by
 have X:=Has.new w cs 32
 have hc6:(w.alloc (.cells cs.toArray 32)).cell? ⟨w.heap.size,6,none⟩=some (.int .u64 s):=by rw[X.cell,h6]
 have hc7:(w.alloc (.cells cs.toArray 32)).cell? ⟨w.heap.size,7,none⟩=some (.int .u64 p):=by rw[X.cell,h7]
 have BB:=Lib.hid ((Below.refl w.heap.size w).alloc (Nat.le_refl _) (.cells cs.toArray 32))
 clear X h6 h7
 by_cases hok:amtOk s p t
 .obtain⟨g1,g2,g3,g4⟩:=id hok
  have HE:Hid (Ending.returned (.tuple #[.int .u64 (t / s / 100*p+t / s%100*p / 100),.int .i64 0])=.returned (.tuple #[.int .u64 (amt s p t),.int .i64 (amtE s p t)])):=by show _=_;unfold amt amtE;rw[if_pos hok,if_pos hok,Alz (Afd ht g1 g4).1]
  obtain⟨q1,q2⟩:=Afd ht g1 g4
  obtain⟨u1,u2⟩:=AhF (x:=t / s / 100) (by omega) (by omega) hp g3
  have u3:t / s / 100*p<=4611686018427387904:=Int.le_trans (Int.mul_le_mul_of_nonneg_left g3 (show 0<=t / s / 100 by omega)) (by omega)
  obtain⟨v1,v2⟩:=AhF (x:=t / s%100) (by omega) (by omega) hp g3
  have v3:t / s%100*p<=9900:=Int.le_trans (Int.mul_le_mul_of_nonneg_right (show t / s%100<=99 by omega) hp) (by omega)
  have hsz:¬s=0:=by omega
  go_enter Tryz.func39,Tryz.ntmps39
  go_wp2_with fail
  go_ret2
  exact⟨HE.out,BB.out⟩
 .have HE:=Lib.hid (AkE hok)
  by_cases g1:s<1
  .go_enter Tryz.func39,Tryz.ntmps39
   go_wp2_with fail
   go_ret2
   exact⟨HE.out,BB.out⟩
  by_cases g2:s>64
  .go_enter Tryz.func39,Tryz.ntmps39
   go_wp2_with fail
   go_ret2
   exact⟨HE.out,BB.out⟩
  by_cases g3:p>100
  .go_enter Tryz.func39,Tryz.ntmps39
   go_wp2_with fail
   go_ret2
   exact⟨HE.out,BB.out⟩
  have g4:t>4611686018427387904:=by
   unfold amtOk at hok;omega
  go_enter Tryz.func39,Tryz.ntmps39
  go_wp2_with fail
  go_ret2
  exact⟨HE.out,BB.out⟩
end Go.Proofs.YtmgeheaneohldaaGreat
namespace Go.Proofs.YtmgeheaneohldaaGreat
open Go.RowKit Go.Proofs.YtmgeheaneohldaaGreat.Old
def dropZ(z:Zst):Zst:={z with reqs:=knownR z.s.nodes z.reqs,rets:=knownR z.s.nodes z.rets}
theorem Ah8(Γ:Gam)(z:Zst)(x:Zls)(w:World)(ok:Ok Γ w)(h:ZsG Γ x z)(hb:z.reqs.length<=30000)(hb2:z.rets.length<=30000) :
  Calls Tryz.prog 118 #[.agg (fl (zsP z x)).toArray] w (ZsP Γ w (dropZ z)):=by
 have M:=bx (MM.start ok)
 have HG:=bx h
 have K1:Bx (∀(Γ':Gam) w,Ok Γ' w->Le Γ Γ'->Calls Tryz.prog 144 #[.agg (fl (zsP z x)).toArray,x.reqs.v] w (RqsP Γ' w (knownR z.s.nodes z.reqs))):=⟨fun Γ' w ok hl=>by
  have e:x.reqs.v=.slice x.reqs.A z.reqs.length x.reqs.c:=by rw[<-h.reqs.n]
  rw[e]
  have hs:=h.reqs.sl.mono hl
  rw[h.reqs.n]at hs
  exact AfO Γ' z x x.reqs.A x.reqs.c z.reqs w ok (h.mono hl) hs hb⟩
 have K2:Bx (∀(Γ':Gam) w,Ok Γ' w->Le Γ Γ'->Calls Tryz.prog 144 #[.agg (fl (zsP z x)).toArray,x.rets.v] w (RqsP Γ' w (knownR z.s.nodes z.rets))):=⟨fun Γ' w ok hl=>by
  have e:x.rets.v=.slice x.rets.A z.rets.length x.rets.c:=by rw[<-h.rets.n]
  rw[e]
  have hs:=h.rets.sl.mono hl
  rw[h.rets.n]at hs
  exact AfO Γ' z x x.rets.A x.rets.c z.rets w ok (h.mono hl) hs hb2⟩
 have HD:Bx (dropZ z = {z with reqs:=knownR z.s.nodes z.reqs,rets:=knownR z.s.nodes z.rets}):=⟨rfl⟩
 clear ok h hb hb2
 generalize dropZ z=res at *
 generalize knownR z.s.nodes z.reqs=r1 at *
 generalize knownR z.s.nodes z.rets=r2 at *
 rw[HD.out]
 go_enter Tryz.func118,Tryz.ntmps118
 (go_wp2_with (first|go_skip|(refine zBXo ?_;clear M;intro w' g M)|(refine zALo (ztZs) ?_;clear M;intro w' g M)|refine zLAo ?_|fail))
 refine AaE [9,11] (.steps [(0,0),(1,1),(0,2),(0,4),(1,5),(0,6),(2,3),(1,8),(2,7),(3,9),(1,10),(3,11)] .leaf) (by kernel_rfl) (by kernel_rfl) ?_;(simp only[MixT6,MT.steps,stepAt,List.getD_cons_zero,List.getD_cons_succ]);replace M:=bx (M.out.drew)
 refine zNM ?_
 refine zMRo ?_
 refine zMC (K1.out _ _ M.ok M.out.ext.le) Tryz.func144 ?_
 rintro e4 w4 ⟨A4,c4,Γ4,rfl,hc4,hs4,hx4⟩
 refine⟨_,rfl,hx4.bel,?_⟩
 replace M:=bx (M.out.call hx4)
 have HC4:=bx hc4
 have HS4:=bx hs4
 clear hc4 hs4 hx4
 refine zNM ?_
 refine zMRo ?_
 refine zMC (K2.out _ _ M.ok M.out.ext.le) Tryz.func144 ?_
 rintro e5 w5 ⟨A5,c5,Γ5,rfl,hc5,hs5,hx5⟩
 refine⟨_,rfl,hx5.bel,?_⟩
 replace M:=bx (M.out.call hx5)
 have HC5:=bx hc5
 have HS5:=bx hs5
 have HS4':=bx (HS4.out.mono hx5.le)
 clear hc5 hs5 hx5 HS4
 refine zNM ?_
 refine zMRo ?_
 refine AbL M.out 1 (.slice A4 r1.length c4) (zsP {z with reqs:=r1} {x with reqs:=⟨A4,r1.length,c4⟩}) rfl rfl rfl rfl Afi rfl rfl rfl rfl rfl rfl ?_
 intro w7 M'
 simp only[List.set_cons_zero,List.set_cons_succ]at M'
 (replace M:=bx M';clear M')
 refine zNM ?_
 refine zMRo ?_
 refine AbL M.out 1 (.slice A5 r2.length c5) (zsP {z with reqs:=r1,rets:=r2} {x with reqs:=⟨A4,r1.length,c4⟩,rets:=⟨A5,r2.length,c5⟩}) rfl rfl rfl rfl Afi rfl rfl rfl rfl rfl rfl ?_
 intro w8 M'
 simp only[List.set_cons_zero,List.set_cons_succ]at M'
 (replace M:=bx M';clear M')
 refine zNM ?_
 refine zMRo ?_
 refine NoPanic.normal ?_
 (go_wp2_with (first|go_skip|(refine zBXo ?_;clear M;intro w' g M)|(refine zALo (ztZs) ?_;clear M;intro w' g M)|refine zLAo ?_|(refine zSSo M 0 (zsP {z with reqs:=r1,rets:=r2} {x with reqs:=⟨A4,r1.length,c4⟩,rets:=⟨A5,r2.length,c5⟩}) (zsP {z with reqs:=r1,rets:=r2} {x with reqs:=⟨A4,r1.length,c4⟩,rets:=⟨A5,r2.length,c5⟩}) (AaL _ _) (AaS _ _) ?_;clear M;intro w' M)))
 refine zR M.out.at0 ?_
 exact ZsP.mk _ ⟨(HG.out.mono M.out.ext.le).s,⟨rfl,HC4.out,HS4'.out⟩,⟨rfl,HC5.out,HS5.out⟩⟩ M.out.ext
end Go.Proofs.YtmgeheaneohldaaGreat
namespace Go.Proofs.YtmgeheaneohldaaGreat
open Go.RowKit
theorem elU8:ElT Tryz.prog 177 5 1 1:=AcX Tryz.underlying177 (by kernel_rfl) (by decide) (by decide)
def ByP(Γ0:Gam)(w0:World)(Γ:Gam)(L:List Ent)(R:List RowE)(m:Nat)(e:Ending)(w':World):Prop:=∃(A:Option Addr) (n c:Nat) (xs:List Value),e=.returned (.slice A n c)/\n<=m/\MM Γ0 w0 Γ w' L (⟨.slice A n c,5,1,n,xs⟩::R)
theorem AbH{Γ0 Γ:Gam}{w0 w:World}{L:List Ent}{R:List RowE}(A:Option Addr)(n c:Nat)(xs:List Value)(v:U)(hn:n<=1000000)(hM:MM Γ0 w0 Γ w L (⟨.slice A n c,5,1,n,xs⟩::R)) :
  Calls Tryz.prog 134 #[.slice A n c,.int .u64 (v.n:Int)] w (ByP Γ0 w0 Γ L R (n+10)):=by
 have M:=bx hM
 have HV:Bx (v.n<128 ^ 10):=⟨Nat.lt_of_lt_of_le v.lt (by decide)⟩
 clear hM
 go_enter Tryz.func134,Tryz.ntmps134
 go_wp2_with fail
 go_loopw [0,1] (fun s0 s1 wr=>∃(p:Nat) (A:Option Addr) (k c:Nat) (xs:List Value) (u:U),1<=p/\p<=10/\u.n<128 ^ p/\k+p<=n+10/\s0=.slice A k c/\s1=.int .u64 (u.n:Int)/\MM Γ0 w0 Γ wr L (⟨.slice A k c,5,1,k,xs⟩::R)) (fun _ s1 _=>(intOf s1).toNat)
 case atStart=>exact⟨10,A,n,c,xs,v,by omega,by omega,HV.out,by omega,rfl,rfl,M.out⟩
 case round=>
  obtain⟨p,A,k,c,xs,u,hp1,hp2,hu,hk,rfl,rfl,hM⟩:=hrel
  clear M HV
  have M:=bx hM
  have HU:=bx hu
  clear hM hu
  have hu0:(0:Int)<=(u.n:Int):=by omega
  have hk6:k<=1000010:=by omega
  by_cases hb:127<u.n
  .have hbi:(127:Int)<(u.n:Int):=by omega
   have HP:Bx (2<=p/\u.n / 128<128 ^ (p-1)):=⟨by
    have h:=HU.out
    obtain⟨q,rfl⟩:∃q,p=q+1:=⟨p-1,by omega⟩
    refine⟨?_,?_⟩
    .rcases Nat.eq_zero_or_pos q with h0|h0
     .subst h0
      simp at h;omega
     .omega
    .rw[Nat.add_sub_cancel]
     rw[Nat.pow_succ]at h
     exact Nat.div_lt_of_lt_mul (by rw[Nat.mul_comm];exact h)⟩
   obtain⟨u',hu'⟩:∃u':U,u'.n=u.n / 128:=⟨⟨u.n / 128,by have:=u.lt;omega⟩,rfl⟩
   have hsh:(u.n:Int) / 128=(u'.n:Int):=by rw[hu'];simp
   have HDL:Bx (u'.n<u.n):=⟨by rw[hu'];omega⟩
   have HU':=bx hu'
   clear hu'
   go_wp2_with (first|((with_reducible apply Aa6 M.out elU8);rfl;rfl;rfl;rfl;intro w' g M' hb';(replace M:=bx M';clear M');clear hb')|(at_builtin;(with_reducible apply AaW M.out elU8);rfl;exact One.v rfl;(unfold maxLen;omega);omega;rfl;rfl;rfl;rfl;intro A' c' w' M';(replace M:=bx M';clear M')))
   go_roundw
   case rel=>exact⟨p-1,A',k+1,c',_,u',by have:=HP.out.1;omega,by omega,by rw[HU'.out];exact HP.out.2,by have:=HP.out.1;omega,rfl,rfl,M.out⟩
   case measure=>have:=HDL.out;simp[intOf];omega
  .have hbi:¬(127:Int)<(u.n:Int):=by omega
   go_wp2_with (first|((with_reducible apply Aa6 M.out elU8);rfl;rfl;rfl;rfl;intro w' g M' hb';(replace M:=bx M';clear M');clear hb')|(at_builtin;(with_reducible apply AaW M.out elU8);rfl;exact One.v rfl;(unfold maxLen;omega);omega;rfl;rfl;rfl;rfl;intro A' c' w' M';(replace M:=bx M';clear M')))
   go_ret
   exact⟨A',k+1,c',_,rfl,by omega,M.out⟩
theorem Aj9{Γ0 Γ:Gam}{w0 w:World}{L:List Ent}{R:List RowE}(A:Option Addr)(n c:Nat)(xs:List Value)(b:Bool)(hn:n<=1000000)(hM:MM Γ0 w0 Γ w L (⟨.slice A n c,5,1,n,xs⟩::R)) :
  Calls Tryz.prog 161 #[.slice A n c,.bool b] w (ByP Γ0 w0 Γ L R (n+1)):=by
 have M:=bx hM
 clear hM
 cases b<;>go_enter Tryz.func161,Tryz.ntmps161<;>go_wp2_with (first|((with_reducible apply Aa6 M.out elU8);rfl;rfl;rfl;rfl;intro w' g M' hb';(replace M:=bx M';clear M');clear hb')|(at_builtin;(with_reducible apply AaW M.out elU8);rfl;exact One.v rfl;(unfold maxLen;omega);omega;rfl;rfl;rfl;rfl;intro A' c' w' M';(replace M:=bx M';clear M')))
 all_goals
  go_ret
  exact⟨A',n+1,c',_,rfl,Nat.le_refl _,M.out⟩
theorem Abw{Γ0 Γ:Gam}{w0 w:World}{L:List Ent}{R:List RowE}(A:Option Addr)(n c:Nat)(xs:List Value)(r:Rt)(hn:n<=1000000)(hM:MM Γ0 w0 Γ w L (⟨.slice A n c,5,1,n,xs⟩::R)) :
  Calls Tryz.prog 158 #[.slice A n c,.agg (rc r).toArray] w (ByP Γ0 w0 Γ L R (n+32)):=by
 have M:=bx hM
 clear hM
 change Calls Tryz.prog _ #[_,.agg (fl [rc r]).toArray] _ _
 go_enter Tryz.func158,Tryz.ntmps158
 go_wp2_with (first|(refine zBYo (lenR r) ?_;clear M;intro w' g M)|(at_builtin;(with_reducible apply Aa8 M.out elU8 (Aae M.out.at0 (m:=32) (size:=1) rfl));(intro h;cases h);exact Aah r;(unfold maxLen;omega);omega;rfl;rfl;rfl;rfl;intro A' c' w' M';(replace M:=bx M';clear M')))
 go_ret
 exact⟨A',n+32,c',_,rfl,Nat.le_refl _,M.out.tail⟩
end Go.Proofs.YtmgeheaneohldaaGreat
namespace Go.Proofs.YtmgeheaneohldaaGreat
open Go.RowKit Go.Proofs.YtmgeheaneohldaaGreat.Old
theorem Aeo{Γ0 Γ:Gam}{w0 w:World}{L:List Ent}{R:List RowE}(A:Option Addr)(n c:Nat)(xs:List Value)(p:Cp)(hn:n<=900000)(hM:MM Γ0 w0 Γ w L (⟨.slice A n c,5,1,n,xs⟩::R)) :
  Calls Tryz.prog 160 #[.slice A n c,.agg (fl (cpP p)).toArray] w (ByP Γ0 w0 Γ L R (n+42)):=by
 have M:=bx hM
 clear hM
 go_enter Tryz.func160,Tryz.ntmps160
 (go_wp2_with (first|go_skip|(refine zBXo ?_;clear M;intro w' g M)|refine zLAo ?_))
 refine AaH (fun w'=>HL w' g (cpP p) [1,32]) (.steps [(1,0),(1,1),(0,2),(1,4),(0,5),(2,3),(2,6),(1,7)] .leaf) (by kernel_rfl) (by kernel_rfl) M.out.drew.at0 ?_;(simp only[MixT7,MT.steps,stepI,List.getD_cons_zero,List.getD_cons_succ]);replace M:=bx (M.out.drew)
 refine zNM ?_
 (repeat(first|refine zM0 ?_|(go_big_quiet_want;first|(refine zQL (fun _ h=>h) (AaA p) ?_;go_big_quiet_on;refine zNM ?_)|(refine zQO ?_;go_big_quiet_on))))
 refine zMC (AbH _ _ _ _ p.e (by omega) M.out) Tryz.func134 ?_;rintro e1 w1 ⟨A1,n1,c1,xs1,rfl,hn1,M'⟩;refine⟨_,rfl,M'.at0,?_⟩;(replace M:=bx M';clear M');refine zNM ?_
 refine zMR7 ?_
 refine zMC (Abw _ _ _ _ p.r (by omega) M.out) Tryz.func158 ?_;rintro e1 w1 ⟨A1,n1,c1,xs1,rfl,hn1,M'⟩;refine⟨_,rfl,M'.at0,?_⟩;(replace M:=bx M';clear M');refine zNM ?_
 refine zMR7 ?_
 refine NoPanic.normal ?_
 (go_wp2_with (first|go_skip|(refine zBXo ?_;clear M;intro w' g M)|refine zLAo ?_))
 go_ret
 exact⟨A1,n1,c1,xs1,rfl,by omega,M.out.tail⟩
theorem Alj:ZeroT Tryz.prog 28 [List.replicate 32 (.int .u8 0)] [32]:=⟨fun w=>by kernel_rfl,rfl⟩
theorem AkU:RowT Tryz.prog 28 32:=⟨⟨_,Tryz.underlying28,rfl⟩,by kernel_rfl⟩
theorem otU8:OneT Tryz.prog 5:=⟨⟨_,Tryz.underlying5,rfl⟩,by kernel_rfl⟩
theorem AnW(a:Wd)(i:Nat)(hi:i<4):(wc a)[i]? = some (.int .u64 (a.l.getD i 0))/\0<=a.l.getD i 0/\a.l.getD i 0<18446744073709551616:=by
 have h:i<a.l.length:=by rw[a.len];exact hi
 have e:a.l.getD i 0=a.l[i]:=by simp[List.getD,List.getElem?_eq_getElem h]
 refine⟨?_,?_⟩
 .unfold wc ints
  rw[List.getElem?_map,List.getElem?_eq_getElem h,e];rfl
 .rw[e];exact a.rg _ (List.getElem_mem h)
def B32P(Γ:Gam)(w:World)(e:Ending)(w':World):Prop:=∃l:List Int,l.length=32/\e=.returned (.agg (ints .u8 l).toArray)/\Ext Γ w Γ w'
theorem Af5(Γ:Gam)(a:Wd)(w:World)(ok:Ok Γ w) :
  Calls Tryz.prog 183 #[.agg (wc a).toArray] w (B32P Γ w):=by
 have M:=bx (MM.start ok)
 clear ok
 change Calls Tryz.prog _ #[.agg (fl [wc a]).toArray] _ _
 go_enter Tryz.func183,Tryz.ntmps183
 have ZB:Bx (List.replicate 32 (Value.int .u8 0)=ints .u8 (List.replicate 32 0)):=⟨by simp[ints]⟩
 go_upto_region 1 with(first|((refine zBYo (lenW a) ?_;clear M;intro w' g M);(obtain⟨g1,hg1⟩:∃y,y=g:=⟨_,rfl⟩);subst hg1)|((refine zALo (Alj) ?_;clear M;intro w' g M);(obtain⟨g2,hg2⟩:∃y,y=g:=⟨_,rfl⟩);subst hg2))
 go_wp2_with (first|((refine zALo (Alj) ?_;clear M;intro w' g M);(obtain⟨g3,hg3⟩:∃y,y=g:=⟨_,rfl⟩);subst hg3))
 rw[ZB.out]at M
 go_loopw [4] (fun i wr=>∃(k:Nat) (l:List Int),k<=32/\i=.int .i64 k/\l.length=32/\MM Γ w Γ wr [⟨g3,[ints .u8 l],[32]⟩,⟨g2,[ints .u8 (List.replicate 32 0)],[32]⟩,⟨g1,[wc a],[4]⟩] []) (fun i _=>32-(intOf i).toNat)
 case atStart=>exact⟨0,_,Nat.zero_le _,rfl,List.length_replicate,M.out⟩
 case round=>
  obtain⟨k,l,hk,rfl,hl,hM⟩:=hrel
  clear M
  have M:=bx hM
  have HL:=bx hl
  clear hM hl
  by_cases hk32:k<32
  .obtain⟨q1,q2,q3⟩:=AnW a (k / 8) (by omega)
   have hc:wr.cell? ⟨g1,k / 8,none⟩=some (.int .u64 (a.l.getD (k / 8) 0)):=by
    have:=M.out.at2.has.cell (k / 8)
    rw[this];exact q1
   have HLL:Bx (31-k<(ints .u8 l).length):=⟨by rw[ints_len,HL.out];omega⟩
   have hkl:(k:Int)<32:=by omega
   have hk0:(0:Int)<=(k:Int):=by omega
   generalize a.l.getD (k / 8) 0=z at *
   clear q1
   go_wp2_with (first|((with_reducible apply AaV M.out 0 (.int .u8 _) rfl HLL.out);rfl;rfl;rfl;rfl;exact otU8;rfl;rfl;intro w4 M';(simp only[List.set_cons_zero,List.set_cons_succ]at M');(replace M:=bx M';clear M')))
   go_roundw
   case rel=>
    have h:=M.out
    have e:∀(j:Nat) (x:Int),(ints .u8 l).set j (.int .u8 x)=ints .u8 (l.set j x):=fun j x=>by unfold ints;rw[List.map_set]
    rw[e]at h
    exact⟨k+1,_,by omega,by go_num,by rw[List.length_set];exact HL.out,h⟩
   case measure=>simp[intOf];omega
  .obtain rfl:k=32:=by omega
   have OL:Bx (One (ints .u8 l)):=⟨One.ints _ _⟩
   have LL:Bx ([ints .u8 l].map List.length = [32]):=⟨by simp[ints,HL.out]⟩
   go_wp2_with (first|((with_reducible apply Aas M.out.at0);rfl;rfl;rfl;exact AkU;rfl;rfl)|((with_reducible apply Ac0 M.out 1 [ints .u8 l] [ints .u8 l]);rfl;rfl;rfl;rfl;rfl;exact AkU;rfl;exact LL.out;exact OL.out;rfl;intro w' M' hg';(simp only[List.set_cons_zero,List.set_cons_succ]at M');(replace M:=bx M';clear M')))
   (try refine zsm ?_);exact bodyPost_ret (AeS (by rfl) _ M.out.at1 (by exact rfl) AkU rfl) rfl ⟨l,HL.out,rfl,M.out.ext⟩
theorem Af2{Γ0 Γ:Gam}{w0 w:World}{L:List Ent}{R:List RowE}(A:Option Addr)(n c:Nat)(xs:List Value)(a:Wd)(hn:n<=1000000)(hM:MM Γ0 w0 Γ w L (⟨.slice A n c,5,1,n,xs⟩::R)) :
  Calls Tryz.prog 159 #[.slice A n c,.agg (wc a).toArray] w (ByP Γ0 w0 Γ L R (n+32)):=by
 have M:=bx hM
 clear hM
 change Calls Tryz.prog _ #[_,.agg (fl [wc a]).toArray] _ _
 go_enter Tryz.func159,Tryz.ntmps159
 (go_wp2_with (first|go_skip|(refine zBXo ?_;clear M;intro w' g M)|refine zLAo ?_))
 refine(Af5 _ a _ M.ok).mono ?_;rintro e w1 ⟨l,hl,rfl,hx⟩
 replace M:=bx (M.out.call hx)
 clear hx
 have OL:Bx (One (ints .u8 l)):=⟨One.ints _ _⟩
 have LL:Bx ([ints .u8 l].map List.length = [32]):=⟨by simp[ints,hl]⟩
 go_wp2_with (first|(refine zALo (Alj) ?_;clear M;intro w' g M)|((with_reducible apply Ac0 M.out 0 [ints .u8 l] [ints .u8 l]);rfl;rfl;rfl;rfl;rfl;exact AkU;rfl;exact LL.out;exact OL.out;rfl;intro w' M' hg';(simp only[List.set_cons_zero,List.set_cons_succ]at M');(replace M:=bx M';clear M'))|(at_builtin;(with_reducible apply Aa8 M.out elU8 (Aae M.out.at0 (m:=32) (size:=1) rfl));(intro h;cases h);exact OL.out;(unfold maxLen;omega);omega;rfl;rfl;rfl;rfl;intro A' c' w' M';(replace M:=bx M';clear M')))
 go_ret
 exact⟨A',n+32,c',_,rfl,Nat.le_refl _,M.out.tail.tail⟩
theorem Aim{Γ0 Γ:Gam}{w0 w:World}{L:List Ent}{R:List RowE}(A:Option Addr)(n c:Nat)(xs:List Value)(b:Blk)(hn:n<=800000)(hM:MM Γ0 w0 Γ w L (⟨.slice A n c,5,1,n,xs⟩::R)) :
  Calls Tryz.prog 129 #[.slice A n c,.agg (fl (blP b)).toArray] w (ByP Γ0 w0 Γ L R (n+400)):=by
 have M:=bx hM
 clear hM
 go_enter Tryz.func129,Tryz.ntmps129
 (go_wp2_with (first|go_skip|(refine zBXo ?_;clear M;intro w' g M)|refine zLAo ?_))
 refine AaH (fun w'=>HL w' g (blP b) blL) (.steps [(1,0),(1,1),(0,2),(1,4),(0,5),(1,7),(0,8),(1,10),(0,11),(2,3),(2,6),(2,9),(2,12),(1,13)] .leaf) (by kernel_rfl) (by kernel_rfl) M.out.drew.at0 ?_;(simp only[MixT7,MT.steps,stepI,List.getD_cons_zero,List.getD_cons_succ]);replace M:=bx (M.out.drew)
 refine zNM ?_
 (repeat(first|refine zM0 ?_|(go_big_quiet_want;first|(refine zQL (fun _ h=>h) (AaY b) ?_;go_big_quiet_on;refine zNM ?_)|(refine zQO ?_;go_big_quiet_on))))
 refine zMC (AbH _ _ _ _ b.slot (by omega) M.out) Tryz.func134 ?_;rintro e1 w1 ⟨A1,n1,c1,xs1,rfl,hn1,M'⟩;refine⟨_,rfl,M'.at0,?_⟩;(replace M:=bx M';clear M');refine zNM ?_
 refine zMR7 ?_
 refine zMC (Abw _ _ _ _ b.root (by omega) M.out) Tryz.func158 ?_;rintro e1 w1 ⟨A1,n1,c1,xs1,rfl,hn1,M'⟩;refine⟨_,rfl,M'.at0,?_⟩;(replace M:=bx M';clear M');refine zNM ?_
 refine zMR7 ?_
 refine zMC (Abw _ _ _ _ b.parent (by omega) M.out) Tryz.func158 ?_;rintro e1 w1 ⟨A1,n1,c1,xs1,rfl,hn1,M'⟩;refine⟨_,rfl,M'.at0,?_⟩;(replace M:=bx M';clear M');refine zNM ?_
 refine zMR7 ?_
 refine zMC (Abw _ _ _ _ b.payload (by omega) M.out) Tryz.func158 ?_;rintro e1 w1 ⟨A1,n1,c1,xs1,rfl,hn1,M'⟩;refine⟨_,rfl,M'.at0,?_⟩;(replace M:=bx M';clear M');refine zNM ?_
 refine zMR7 ?_
 refine NoPanic.normal ?_
 (go_wp2_with (first|go_skip|(refine zBXo ?_;clear M;intro w' g M)|refine zLAo ?_))
 refine AaH (fun w'=>HL w' g (blP b) blL) (.steps [(1,0),(1,1),(0,2),(1,4),(0,5),(2,3),(2,6),(1,7)] .leaf) (by kernel_rfl) (by kernel_rfl) M.out.drew.at0 ?_;(simp only[MixT7,MT.steps,stepI,List.getD_cons_zero,List.getD_cons_succ]);replace M:=bx (M.out.drew)
 refine zNM ?_
 (repeat(first|refine zM0 ?_|(go_big_quiet_want;first|(refine zQL (fun _ h=>h) (AaY b) ?_;go_big_quiet_on;refine zNM ?_)|(refine zQO ?_;go_big_quiet_on))))
 refine zMC (Af2 _ _ _ _ b.diff (by omega) M.out) Tryz.func159 ?_;rintro e1 w1 ⟨A1,n1,c1,xs1,rfl,hn1,M'⟩;refine⟨_,rfl,M'.at0,?_⟩;(replace M:=bx M';clear M');refine zNM ?_
 refine zMR7 ?_
 refine zMC (Af2 _ _ _ _ b.pdiff (by omega) M.out) Tryz.func159 ?_;rintro e1 w1 ⟨A1,n1,c1,xs1,rfl,hn1,M'⟩;refine⟨_,rfl,M'.at0,?_⟩;(replace M:=bx M';clear M');refine zNM ?_
 refine zMR7 ?_
 refine NoPanic.normal ?_
 (go_wp2_with (first|go_skip|(refine zBXo ?_;clear M;intro w' g M)|refine zLAo ?_))
 refine AaH (fun w'=>HL w' g (blP b) blL) (.steps [(1,0),(1,1),(0,2),(1,4),(0,5),(2,3),(2,6),(1,7)] .leaf) (by kernel_rfl) (by kernel_rfl) M.out.drew.at0 ?_;(simp only[MixT7,MT.steps,stepI,List.getD_cons_zero,List.getD_cons_succ]);replace M:=bx (M.out.drew)
 refine zNM ?_
 (repeat(first|refine zM0 ?_|(go_big_quiet_want;first|(refine zQL (fun _ h=>h) (AaY b) ?_;go_big_quiet_on;refine zNM ?_)|(refine zQO ?_;go_big_quiet_on))))
 refine zMC (Aeo _ _ _ _ b.just (by omega) M.out) Tryz.func160 ?_;rintro e1 w1 ⟨A1,n1,c1,xs1,rfl,hn1,M'⟩;refine⟨_,rfl,M'.at0,?_⟩;(replace M:=bx M';clear M');refine zNM ?_
 refine zMR7 ?_
 refine zMC (Aeo _ _ _ _ b.fin (by omega) M.out) Tryz.func160 ?_;rintro e1 w1 ⟨A1,n1,c1,xs1,rfl,hn1,M'⟩;refine⟨_,rfl,M'.at0,?_⟩;(replace M:=bx M';clear M');refine zNM ?_
 refine zMR7 ?_
 refine NoPanic.normal ?_
 (go_wp2_with (first|go_skip|(refine zBXo ?_;clear M;intro w' g M)|refine zLAo ?_))
 refine AaH (fun w'=>HL w' g (blP b) blL) (.steps [(1,0),(1,1),(1,2),(0,3),(1,5),(1,6),(0,7),(1,9),(0,10),(2,4),(2,8),(2,11),(1,12)] .leaf) (by kernel_rfl) (by kernel_rfl) M.out.drew.at0 ?_;(simp only[MixT7,MT.steps,stepI,List.getD_cons_zero,List.getD_cons_succ]);replace M:=bx (M.out.drew)
 refine zNM ?_
 (repeat(first|refine zM0 ?_|(go_big_quiet_want;first|(refine zQL (fun _ h=>h) (AaY b) ?_;go_big_quiet_on;refine zNM ?_)|(refine zQO ?_;go_big_quiet_on))))
 refine zMC (Aeo _ _ _ _ b.pj (by omega) M.out) Tryz.func160 ?_;rintro e1 w1 ⟨A1,n1,c1,xs1,rfl,hn1,M'⟩;refine⟨_,rfl,M'.at0,?_⟩;(replace M:=bx M';clear M');refine zNM ?_
 refine zMR7 ?_
 refine zMC (Aeo _ _ _ _ b.pf (by omega) M.out) Tryz.func160 ?_;rintro e1 w1 ⟨A1,n1,c1,xs1,rfl,hn1,M'⟩;refine⟨_,rfl,M'.at0,?_⟩;(replace M:=bx M';clear M');refine zNM ?_
 refine zMR7 ?_
 refine zMC (Aj9 _ _ _ _ b.timely (by omega) M.out) Tryz.func161 ?_;rintro e1 w1 ⟨A1,n1,c1,xs1,rfl,hn1,M'⟩;refine⟨_,rfl,M'.at0,?_⟩;(replace M:=bx M';clear M');refine zNM ?_
 refine zMR7 ?_
 refine NoPanic.normal ?_
 (go_wp2_with (first|go_skip|(refine zBXo ?_;clear M;intro w' g M)|refine zLAo ?_))
 go_ret
 exact⟨A1,n1,c1,xs1,rfl,by omega,M.out.tail⟩
theorem Ame(x:Int):∃v:U,IntKind.u64.wrap x=(v.n:Int):=by
 have h:IntKind.u64.wrap x=x%18446744073709551616:=rfl
 have h0:0<=x%18446744073709551616:=Int.emod_nonneg _ (by decide)
 have h1:x%18446744073709551616<18446744073709551616:=Int.emod_lt_of_pos _ (by decide)
 exact⟨⟨(x%18446744073709551616).toNat,by omega⟩,by rw[h];exact(Int.toNat_of_nonneg h0).symm⟩
theorem Ac5{Γ0 Γ:Gam}{w0 w:World}{L:List Ent}{R:List RowE}(A:Option Addr)(n c:Nat)(xs:List Value)(x:Int)(hn:n<=1000000)(hM:MM Γ0 w0 Γ w L (⟨.slice A n c,5,1,n,xs⟩::R)) :
  Calls Tryz.prog 134 #[.slice A n c,.int .u64 (IntKind.u64.wrap x)] w (ByP Γ0 w0 Γ L R (n+10)):=by
 obtain⟨v,hv⟩:=Ame x
 rw[hv]
 exact AbH A n c xs v hn hM
theorem AeI{Γ:Gam}{A:Option Addr}{l:List Int}(h:SlG Γ A l.length (ints .i64 l)){w:World}(ok:Ok Γ w){k:Nat}(hk:k<l.length):∃g,A=some ⟨g,0,none⟩/\∀j (hj:j<l.length) (w':World),Below w.heap.size w w'->w'.cell? ⟨g,j,none⟩=some (.int .i64 l[j]):=by
 obtain⟨g,post,e,hg⟩:=h (by omega)
 refine⟨g,e,fun j hj w' hb=>?_⟩
 obtain⟨p2,hh⟩:=(ok.below hb) g _ hg
 rw[hh.cell,List.getElem?_append_left (by simp[ints];omega),List.getElem?_append_left (by simp[ints];omega)]
 unfold ints
 rw[List.getElem?_map,List.getElem?_eq_getElem hj];rfl
theorem AgX{Γ0 Γ:Gam}{w0 w:World}{L:List Ent}{R:List RowE}(A:Option Addr)(n c:Nat)(xs:List Value)(l:List Int)(A2:Option Addr)(c2:Nat)(hn:n<=700000)(hl:l.length<=4000)(hs:SlG Γ A2 l.length (ints .i64 l))(hM:MM Γ0 w0 Γ w L (⟨.slice A n c,5,1,n,xs⟩::R)) :
  Calls Tryz.prog 163 #[.slice A n c,.slice A2 l.length c2] w (ByP Γ0 w0 Γ L R (n+10+10*l.length)):=by
 have M:=bx hM
 have HS:=bx hs
 clear hM hs
 go_enter Tryz.func163,Tryz.ntmps163
 go_upto_region 2 with(first|go_skip)
 refine(AbH A n c xs ⟨l.length,by omega⟩ (by omega) M.out).mono ?_;rintro e w1 ⟨A1,n1,c1,xs1,rfl,hn1,hM1⟩
 clear M
 have M:=bx hM1
 have HN1:=bx hn1
 clear hM1 hn1
 go_wp2_with fail
 go_loopw [0,5] (fun sv i wr=>∃(k:Nat) (A3:Option Addr) (n3 c3:Nat) (xs3:List Value),k<=l.length/\i=.int .i64 k/\sv=.slice A3 n3 c3/\n3<=n+10+10*k/\MM Γ0 w0 Γ wr L (⟨.slice A3 n3 c3,5,1,n3,xs3⟩::R)) (fun _ i _=>l.length-(intOf i).toNat)
 case atStart=>exact⟨0,A1,n1,c1,xs1,Nat.zero_le _,rfl,rfl,by have:=HN1.out;omega,M.out⟩
 case round=>
  obtain⟨k,A3,n3,c3,xs3,hk,rfl,rfl,hn3,hM⟩:=hrel
  clear M
  have M:=bx hM
  clear hM
  by_cases hkn:k<l.length
  .have hki:(k:Int)<(l.length:Int):=by omega
   have hk0:(0:Int)<=(k:Int):=by omega
   obtain⟨g2,rfl,hcell⟩:=AeI HS.out M.ok hkn
   cases k with
   |zero=>
    have hca:=hcell 0 hkn wr (Below.refl _ _)
    clear hcell
    generalize l[0]=z at *
    have hz:((0:Nat):Int)=0:=rfl
    rw[hz]
    go_wp2_with fail
    refine(Ac5 A3 n3 c3 xs3 z (by omega) M.out).mono ?_;rintro e w2 ⟨A4,n4,c4,xs4,rfl,hn4,hM4⟩
    clear M
    have M:=bx hM4
    clear hM4
    go_wp2_with fail
    go_roundw
    case rel=>exact⟨1,A4,n4,c4,xs4,by omega,by go_num,rfl,by omega,M.out⟩
    case measure=>simp[intOf];omega
   |succ j=>
    have hj1:j<l.length:=by omega
    have HCE:=bx (fun(w':World) (ok':Ok Γ w')=>AeI HS.out ok' hkn)
    have C1:=bx (fun w' hb=>hcell (j+1) hkn w' hb)
    have C2:=bx (fun w' hb=>hcell j hj1 w' hb)
    clear hcell
    obtain⟨z1,hg1⟩:∃z,l[j+1]=z:=⟨_,rfl⟩
    obtain⟨z2,hg2⟩:∃z,l[j]=z:=⟨_,rfl⟩
    rw[hg1]at C1
    rw[hg2]at C2
    have hz:((j+1:Nat):Int)=(j:Int)+1:=by omega
    have hne:((j:Int)+1==0)=false:=by simp;omega
    have hsb:(j:Int)+1-1=(j:Int):=by omega
    have hji:(j:Int)<(l.length:Int):=by omega
    have hj0:(0:Int)<=(j:Int):=by omega
    go_wp2_with fail
    refine AaH (fun w'=>(w'.cell? ⟨g2,j+1,none⟩=some (.int .i64 z1)/\w'.cell? ⟨g2,j,none⟩=some (.int .i64 z2))) (.steps [(1,0),(1,1),(1,2),(1,3),(0,4),(1,5),(1,6),(1,7),(1,8),(0,9),(1,10),(1,11),(1,12),(2,13),(1,14)] .leaf) (by kernel_rfl) (by kernel_rfl) ⟨C1.out _ (Below.refl _ _).drew,C2.out _ (Below.refl _ _).drew⟩ ?_;(simp only[MixT7,MT.steps,stepI,List.getD_cons_zero,List.getD_cons_succ]);replace M:=bx (M.out.drew)
    refine zNM ?_
    (repeat(first|refine zM0 ?_|(go_big_quiet_want;first|((refine Aa1 rfl rfl AhM (fun w' hw=>hw.1) ?_);go_big_quiet_on;refine zNM ?_)|((refine Aa1 rfl rfl AhM (fun w' hw=>hw.2) ?_);go_big_quiet_on;refine zNM ?_)|(refine zQO ?_;go_big_quiet_on))))
    refine zMC (Ac5 A3 n3 c3 xs3 _ (by omega) M.out) Tryz.func134 ?_
    rintro e w2 ⟨A4,n4,c4,xs4,rfl,hn4,hM4⟩
    clear M
    have M:=bx hM4
    obtain⟨g5,e5,hcell5⟩:=HCE.out w2 hM4.ext.ok
    injection e5 with e5
    injection e5 with e5
    subst e5
    have c1':=hcell5 (j+1) hkn w2 (Below.refl _ _)
    have c2':=hcell5 j hj1 w2 (Below.refl _ _)
    rw[hg1]at c1'
    rw[hg2]at c2'
    refine⟨_,rfl,⟨c1',c2'⟩,?_⟩
    clear hM4 hcell5 c1' c2'
    refine zNM ?_
    refine zMR7 ?_
    refine NoPanic.normal ?_
    go_wp2_with fail
    go_roundw
    case rel=>exact⟨j+1+1,A4,n4,c4,xs4,by omega,by go_num,rfl,by omega,M.out⟩
    case measure=>simp[intOf];omega
  .obtain rfl:k=l.length:=by omega
   go_wp2_with fail
   go_ret
   exact⟨A3,n3,c3,xs3,rfl,hn3,M.out⟩
def EncP(w:World)(e:Ending)(w':World):Prop:=∃(A:Option Addr) (n c:Nat) (x:Int),e=.returned (.tuple #[.slice A n c,.int .i64 x])/\Below w.heap.size w w'
theorem Aif(Γ:Gam)(a:Att)(A:Option Addr)(c:Nat)(hl:a.l.length<=4000)(hs:SlG Γ A a.l.length (ints .i64 a.l))(w:World)(ok:Ok Γ w) :
  Calls Tryz.prog 130 #[.agg (fl (atP a ⟨A,a.l.length,c⟩)).toArray] w (EncP w):=by
 have M:=bx (MM.start ok)
 have HS:=bx hs
 have VL4:=bx (fun w' ok'=>AcO Γ A c a.l 1024 w' ok' hs (by omega))
 clear ok hs
 go_enter Tryz.func130,Tryz.ntmps130
 (go_wp2_with (first|go_skip|(refine zBXo ?_;clear M;intro w' g M)|refine zLAo ?_))
 refine(VL4.out _ M.ok).mono ?_;rintro e w1 ⟨er,rfl,hiff,hx⟩
 clear hiff
 replace M:=bx (M.out.call hx)
 clear hx
 by_cases he:er=0
 .subst he
  (go_wp2_with (first|go_skip|(refine zBXo ?_;clear M;intro w' g M)|refine zLAo ?_))
  refine AaH (fun w'=>HL w' g (atP a ⟨A,a.l.length,c⟩) [1,32,1,32,1]) (.steps [(1,0),(0,1),(1,3),(0,4),(1,6),(0,7),(1,9),(0,10),(2,2),(2,5),(2,8),(2,11),(1,12),(1,13)] .leaf) (by kernel_rfl) (by kernel_rfl) M.out.drew.at0 ?_;(simp only[MixT7,MT.steps,stepI,List.getD_cons_zero,List.getD_cons_succ]);replace M:=bx (M.out.drew)
  refine zNM ?_
  (repeat(first|refine zM0 ?_|(go_big_quiet_want;first|(refine zQL (fun _ h=>h) (AbY _ _) ?_;go_big_quiet_on;refine zNM ?_)|(refine zQO ?_;go_big_quiet_on))))
  refine zMC (AbH none 0 0 [] a.slot (by omega) (M.out.row0 5 1)) Tryz.func134 ?_;rintro e1 w1 ⟨A1,n1,c1,xs1,rfl,hn1,M'⟩;refine⟨_,rfl,M'.at0,?_⟩;(replace M:=bx M';clear M');refine zNM ?_
  refine zMR7 ?_
  refine zMC (Abw _ _ _ _ a.r (by omega) M.out) Tryz.func158 ?_;rintro e1 w1 ⟨A1,n1,c1,xs1,rfl,hn1,M'⟩;refine⟨_,rfl,M'.at0,?_⟩;(replace M:=bx M';clear M');refine zNM ?_
  refine zMR7 ?_
  refine zMC (Aeo _ _ _ _ a.t (by omega) M.out) Tryz.func160 ?_;rintro e1 w1 ⟨A1,n1,c1,xs1,rfl,hn1,M'⟩;refine⟨_,rfl,M'.at0,?_⟩;(replace M:=bx M';clear M');refine zNM ?_
  refine zMR7 ?_
  refine zMC (AgX _ _ _ _ a.l A c (by omega) hl HS.out M.out) Tryz.func163 ?_;rintro e1 w1 ⟨A1,n1,c1,xs1,rfl,hn1,M'⟩;refine⟨_,rfl,M'.at0,?_⟩;(replace M:=bx M';clear M');refine zNM ?_
  refine zMR7 ?_
  refine NoPanic.normal ?_
  (go_wp2_with (first|go_skip|(refine zBXo ?_;clear M;intro w' g M)|refine zLAo ?_))
  go_ret2
  exact⟨_,_,_,_,rfl,M.bel⟩
 ·(go_wp2_with (first|go_skip|(refine zBXo ?_;clear M;intro w' g M)|refine zLAo ?_))
  go_ret2
  exact⟨_,_,_,_,rfl,M.bel⟩
theorem AfR{Γ0 Γ:Gam}{w0 w:World}{L:List Ent}{R:List RowE}(A:Option Addr)(n c:Nat)(xs:List Value)(a:Clm)(A2:Option Addr)(c2:Nat)(hn:n<=400000)(hl:a.l.length<=4000)(hs:SlG Γ A2 a.l.length (ints .i64 a.l))(hM:MM Γ0 w0 Γ w L (⟨.slice A n c,5,1,n,xs⟩::R)) :
  Calls Tryz.prog 164 #[.slice A n c,.agg (fl (clP a ⟨A2,a.l.length,c2⟩)).toArray] w (ByP Γ0 w0 Γ L R (n+70+10*a.l.length)):=by
 have M:=bx hM
 have HS:=bx hs
 clear hM hs
 go_enter Tryz.func164,Tryz.ntmps164
 (go_wp2_with (first|go_skip|(refine zBXo ?_;clear M;intro w' g M)|refine zLAo ?_))
 refine AaH (fun w'=>HL w' g (clP a ⟨A2,a.l.length,c2⟩) [1,1,32,1]) (.steps [(1,0),(1,1),(0,2),(1,4),(0,5),(1,7),(0,8),(1,10),(0,11),(2,3),(2,6),(2,9),(2,12),(1,13)] .leaf) (by kernel_rfl) (by kernel_rfl) M.out.drew.at0 ?_;(simp only[MixT7,MT.steps,stepI,List.getD_cons_zero,List.getD_cons_succ]);replace M:=bx (M.out.drew)
 refine zNM ?_
 (repeat(first|refine zM0 ?_|(go_big_quiet_want;first|(refine zQL (fun _ h=>h) (Acw _ _) ?_;go_big_quiet_on;refine zNM ?_)|(refine zQO ?_;go_big_quiet_on))))
 refine zMC (AbH _ _ _ _ a.src (by omega) M.out) Tryz.func134 ?_;rintro e1 w1 ⟨A1,n1,c1,xs1,rfl,hn1,M'⟩;refine⟨_,rfl,M'.at0,?_⟩;(replace M:=bx M';clear M');refine zNM ?_
 refine zMR7 ?_
 refine zMC (AbH _ _ _ _ a.tgt (by omega) M.out) Tryz.func134 ?_;rintro e1 w1 ⟨A1,n1,c1,xs1,rfl,hn1,M'⟩;refine⟨_,rfl,M'.at0,?_⟩;(replace M:=bx M';clear M');refine zNM ?_
 refine zMR7 ?_
 refine zMC (Abw _ _ _ _ a.r (by omega) M.out) Tryz.func158 ?_;rintro e1 w1 ⟨A1,n1,c1,xs1,rfl,hn1,M'⟩;refine⟨_,rfl,M'.at0,?_⟩;(replace M:=bx M';clear M');refine zNM ?_
 refine zMR7 ?_
 refine zMC (AgX _ _ _ _ a.l A2 c2 (by omega) hl HS.out M.out) Tryz.func163 ?_;rintro e1 w1 ⟨A1,n1,c1,xs1,rfl,hn1,M'⟩;refine⟨_,rfl,M'.at0,?_⟩;(replace M:=bx M';clear M');refine zNM ?_
 refine zMR7 ?_
 refine NoPanic.normal ?_
 (go_wp2_with (first|go_skip|(refine zBXo ?_;clear M;intro w' g M)|refine zLAo ?_))
 go_ret
 exact⟨A1,n1,c1,xs1,rfl,by omega,M.out.tail⟩
theorem Agj(Γ:Gam)(x:Slh)(A A2:Option Addr)(c c2:Nat)(hl:x.a.l.length<=4000)(hl2:x.b.l.length<=4000)(hs:SlG Γ A x.a.l.length (ints .i64 x.a.l))(hs2:SlG Γ A2 x.b.l.length (ints .i64 x.b.l))(w:World)(ok:Ok Γ w) :
  Calls Tryz.prog 131 #[.agg (fl (slP x ⟨A,x.a.l.length,c⟩ ⟨A2,x.b.l.length,c2⟩)).toArray] w (EncP w):=by
 have M:=bx (MM.start ok)
 have HS:=bx hs
 have HS2:=bx hs2
 have V1:=bx (fun w' ok'=>AcO Γ A c x.a.l 1024 w' ok' hs (by omega))
 have V2:=bx (fun w' ok'=>AcO Γ A2 c2 x.b.l 1024 w' ok' hs2 (by omega))
 clear ok hs hs2
 go_enter Tryz.func131,Tryz.ntmps131
 (go_wp2_with (first|go_skip|(refine zBXo ?_;clear M;intro w' g M)|refine zLAo ?_))
 refine(V1.out _ M.ok).mono ?_;rintro e w1 ⟨er,rfl,hiff,hx⟩
 clear hiff
 replace M:=bx (M.out.call hx)
 clear hx
 by_cases he:er=0
 .subst he
  (go_wp2_with (first|go_skip|(refine zBXo ?_;clear M;intro w' g M)|refine zLAo ?_))
  refine(V2.out _ M.ok).mono ?_;rintro e w1 ⟨er,rfl,hiff,hx⟩
  clear hiff
  replace M:=bx (M.out.call hx)
  clear hx
  by_cases he:er=0
  .subst he
   (go_wp2_with (first|go_skip|(refine zBXo ?_;clear M;intro w' g M)|refine zLAo ?_))
   refine AaH (fun w'=>HL w' g (slP x ⟨A,x.a.l.length,c⟩ ⟨A2,x.b.l.length,c2⟩) [1,1,32,1,1,1,32,1]) (.steps [(1,0),(0,1),(1,3),(0,4),(2,2),(2,5),(1,6),(1,7)] .leaf) (by kernel_rfl) (by kernel_rfl) M.out.drew.at0 ?_;(simp only[MixT7,MT.steps,stepI,List.getD_cons_zero,List.getD_cons_succ]);replace M:=bx (M.out.drew)
   refine zNM ?_
   (repeat(first|refine zM0 ?_|(go_big_quiet_want;first|(refine zQL (fun _ h=>h) (Acm _ _ _) ?_;go_big_quiet_on;refine zNM ?_)|(refine zQO ?_;go_big_quiet_on))))
   refine zMC (AfR none 0 0 [] x.a A c (by omega) hl HS.out (M.out.row0 5 1)) Tryz.func164 ?_;rintro e1 w1 ⟨A1,n1,c1,xs1,rfl,hn1,M'⟩;refine⟨_,rfl,M'.at0,?_⟩;(replace M:=bx M';clear M');refine zNM ?_
   refine zMR7 ?_
   refine zMC (AfR _ _ _ _ x.b A2 c2 (by omega) hl2 HS2.out M.out) Tryz.func164 ?_;rintro e1 w1 ⟨A1,n1,c1,xs1,rfl,hn1,M'⟩;refine⟨_,rfl,M'.at0,?_⟩;(replace M:=bx M';clear M');refine zNM ?_
   refine zMR7 ?_
   refine NoPanic.normal ?_
   (go_wp2_with (first|go_skip|(refine zBXo ?_;clear M;intro w' g M)|refine zLAo ?_))
   go_ret2
   exact⟨_,_,_,_,rfl,M.bel⟩
  ·(go_wp2_with (first|go_skip|(refine zBXo ?_;clear M;intro w' g M)|refine zLAo ?_))
   go_ret2
   exact⟨_,_,_,_,rfl,M.bel⟩
 ·(go_wp2_with (first|go_skip|(refine zBXo ?_;clear M;intro w' g M)|refine zLAo ?_))
  go_ret2
  exact⟨_,_,_,_,rfl,M.bel⟩
theorem Ai0{Γ:Gam}{A:Option Addr}{b:List U}(h:SlG Γ A b.length (us b)){w:World}(ok:Ok Γ w){k:Nat}(hk:k<b.length):∃g,A=some ⟨g,0,none⟩/\w.cell? ⟨g,k,none⟩=some (.int .u64 (b[k].n:Int)):=by
 obtain⟨g,post,e,hg⟩:=h (by omega)
 refine⟨g,e,?_⟩
 obtain⟨p2,hh⟩:=ok g _ hg
 rw[hh.cell,List.getElem?_append_left (by simp[AdH];omega),List.getElem?_append_left (by rw[AdH];exact hk)]
 unfold us
 rw[List.getElem?_map,List.getElem?_eq_getElem hk];rfl
theorem Agi(Γ:Gam)(p:Cp)(b:List U)(A:Option Addr)(c:Nat)(hl:b.length<=4000)(hs:SlG Γ A b.length (us b))(w:World)(ok:Ok Γ w) :
  Calls Tryz.prog 132 #[.agg (fl (tbP p (.slice A b.length c))).toArray] w (EncP w):=by
 have M:=bx (MM.start ok)
 have HS:=bx hs
 clear ok hs
 by_cases hbig:1024<b.length
 .have hbi:(1024:Int)<(b.length:Int):=by omega
  go_enter Tryz.func132,Tryz.ntmps132
  (go_wp2_with (first|go_skip|(refine zBXo ?_;clear M;intro w' g M)|refine zLAo ?_))
  go_ret2
  exact⟨_,_,_,_,rfl,M.bel⟩
 .have hbi:¬(1024:Int)<(b.length:Int):=by omega
  go_enter Tryz.func132,Tryz.ntmps132
  (go_wp2_with (first|go_skip|(refine zBXo ?_;clear M;intro w' g M)|refine zLAo ?_))
  refine AaH (fun w'=>HL w' g (tbP p (.slice A b.length c)) [1,32,1]) (.steps [(1,0),(1,1),(0,2),(1,4),(1,5),(0,6),(1,8),(0,9),(1,10),(1,11),(2,3),(2,7),(2,12),(1,13)] .leaf) (by kernel_rfl) (by kernel_rfl) M.out.drew.at0 ?_;(simp only[MixT7,MT.steps,stepI,List.getD_cons_zero,List.getD_cons_succ]);replace M:=bx (M.out.drew)
  refine zNM ?_
  (repeat(first|refine zM0 ?_|(go_big_quiet_want;first|(refine zQL (fun _ h=>h) (Aaf _ _) ?_;go_big_quiet_on;refine zNM ?_)|(refine zQO ?_;go_big_quiet_on))))
  refine zMC (AbH none 0 0 [] p.e (by omega) (M.out.row0 5 1)) Tryz.func134 ?_;rintro e1 w1 ⟨A1,n1,c1,xs1,rfl,hn1,M'⟩;refine⟨_,rfl,M'.at0,?_⟩;(replace M:=bx M';clear M');refine zNM ?_
  refine zMR7 ?_
  refine zMC (Abw _ _ _ _ p.r (by omega) M.out) Tryz.func158 ?_;rintro e1 w1 ⟨A1,n1,c1,xs1,rfl,hn1,M'⟩;refine⟨_,rfl,M'.at0,?_⟩;(replace M:=bx M';clear M');refine zNM ?_
  refine zMR7 ?_
  first|(refine zMC (AbH _ _ _ _ ⟨b.length,by omega⟩ (by omega) M.out) Tryz.func134 ?_;rintro e1 w1 ⟨A1,n1,c1,xs1,rfl,hn1,M'⟩;refine⟨_,rfl,M'.at0,?_⟩;(replace M:=bx M';clear M');refine zNM ?_)|(refine zMC (Ac5 _ _ _ _ _ (by omega) M.out) Tryz.func134 ?_;rintro e1 w1 ⟨A1,n1,c1,xs1,rfl,hn1,M'⟩;refine⟨_,rfl,M'.at0,?_⟩;(replace M:=bx M';clear M');refine zNM ?_)
  refine zMR7 ?_
  refine NoPanic.normal ?_
  (go_wp2_with (first|go_skip|(refine zBXo ?_;clear M;intro w' g M)|refine zLAo ?_))
  obtain⟨m,hm⟩:∃m,n1=m:=⟨_,rfl⟩
  have hm1:m<=100:=by omega
  subst hm
  go_loopw [4,5] (fun sv i wr=>∃(k:Nat) (A3:Option Addr) (n3 c3:Nat) (xs3:List Value),k<=b.length/\i=.int .i64 k/\sv=.slice A3 n3 c3/\n3<=100+10*k/\MM Γ w Γ wr [⟨g,tbP p (.slice A b.length c),[1,32,1]⟩] [⟨.slice A3 n3 c3,5,1,n3,xs3⟩]) (fun _ i _=>b.length-(intOf i).toNat)
  case atStart=>exact⟨0,A1,n1,c1,xs1,Nat.zero_le _,rfl,rfl,by omega,M.out⟩
  case round=>
   obtain⟨k,A3,n3,c3,xs3,hk,rfl,rfl,hn3,hM⟩:=hrel
   clear M
   have M:=bx hM
   clear hM
   by_cases hkn:k<b.length
   .have hki:(k:Int)<(b.length:Int):=by omega
    have hk0:(0:Int)<=(k:Int):=by omega
    obtain⟨g2,rfl,hca⟩:=Ai0 HS.out M.ok hkn
    obtain⟨u,hu⟩:∃u,b[k]=u:=⟨_,rfl⟩
    rw[hu]at hca
    clear hu
    (go_wp2_with (first|go_skip|(refine zBXo ?_;clear M;intro w' g M)|refine zLAo ?_))
    refine(AbH A3 n3 c3 xs3 u (by omega) M.out).mono ?_;rintro e w2 ⟨A4,n4,c4,xs4,rfl,hn4,hM4⟩
    clear M
    have M:=bx hM4
    clear hM4
    (go_wp2_with (first|go_skip|(refine zBXo ?_;clear M;intro w' g M)|refine zLAo ?_))
    go_roundw
    case rel=>exact⟨k+1,A4,n4,c4,xs4,by omega,by go_num,rfl,by omega,M.out⟩
    case measure=>simp[intOf];omega
   .obtain rfl:k=b.length:=by omega
    (go_wp2_with (first|go_skip|(refine zBXo ?_;clear M;intro w' g M)|refine zLAo ?_))
    go_ret2
    exact⟨_,_,_,_,rfl,M.bel⟩
theorem AhV(Γ:Gam)(v:Vd)(w:World)(ok:Ok Γ w) :
  Calls Tryz.prog 133 #[.agg (fl (vdP v)).toArray] w (EncP w):=by
 have M:=bx (MM.start ok)
 clear ok
 by_cases h1:v.kind<1
 .have d1:decide (v.kind<1)=true:=decide_eq_true h1
  go_enter Tryz.func133,Tryz.ntmps133
  (go_wp2_with (first|go_skip|(refine zBXo ?_;clear M;intro w' g M)|refine zLAo ?_))
  go_ret2
  exact⟨_,_,_,_,rfl,M.bel⟩
 .have d1:decide (v.kind<1)=false:=decide_eq_false h1
  by_cases h2:4<v.kind
  .have d2:decide (4<v.kind)=true:=decide_eq_true h2
   go_enter Tryz.func133,Tryz.ntmps133
   (go_wp2_with (first|go_skip|(refine zBXo ?_;clear M;intro w' g M)|refine zLAo ?_))
   go_ret2
   exact⟨_,_,_,_,rfl,M.bel⟩
  .have d2:decide (4<v.kind)=false:=decide_eq_false h2
   go_enter Tryz.func133,Tryz.ntmps133
   (go_wp2_with (first|go_skip|(refine zBXo ?_;clear M;intro w' g M)|refine zLAo ?_))
   refine AaH (fun w'=>HL w' g (vdP v) [1,1,32]) (.steps [(1,0),(1,1),(0,2),(1,4),(0,5),(1,6),(1,8),(0,9),(2,3),(2,7),(2,10),(1,11),(1,12)] .leaf) (by kernel_rfl) (by kernel_rfl) M.out.drew.at0 ?_;(simp only[MixT7,MT.steps,stepI,List.getD_cons_zero,List.getD_cons_succ]);replace M:=bx (M.out.drew)
   refine zNM ?_
   (repeat(first|refine zM0 ?_|(go_big_quiet_want;first|(refine zQL (fun _ h=>h) (Abc _) ?_;go_big_quiet_on;refine zNM ?_)|(refine zQO ?_;go_big_quiet_on))))
   refine zMC (AbH none 0 0 [] v.tag (by omega) (M.out.row0 5 1)) Tryz.func134 ?_;rintro e1 w1 ⟨A1,n1,c1,xs1,rfl,hn1,M'⟩;refine⟨_,rfl,M'.at0,?_⟩;(replace M:=bx M';clear M');refine zNM ?_
   refine zMR7 ?_
   obtain⟨u,hu⟩:∃u:U,v.kind=(u.n:Int):=⟨⟨v.kind.toNat,by omega⟩,by show v.kind=(v.kind.toNat:Int);omega⟩
   first|(refine zMC (Ac5 _ _ _ _ _ (by omega) M.out) Tryz.func134 ?_;rintro e1 w1 ⟨A1,n1,c1,xs1,rfl,hn1,M'⟩;refine⟨_,rfl,M'.at0,?_⟩;(replace M:=bx M';clear M');refine zNM ?_)|(rw[hu];refine zMC (AbH _ _ _ _ u (by omega) M.out) Tryz.func134 ?_;rintro e1 w1 ⟨A1,n1,c1,xs1,rfl,hn1,M'⟩;refine⟨_,rfl,M'.at0,?_⟩;(replace M:=bx M';clear M');refine zNM ?_)
   refine zMR7 ?_
   refine zMC (Abw _ _ _ _ v.latest (by omega) M.out) Tryz.func158 ?_;rintro e1 w1 ⟨A1,n1,c1,xs1,rfl,hn1,M'⟩;refine⟨_,rfl,M'.at0,?_⟩;(replace M:=bx M';clear M');refine zNM ?_
   refine zMR7 ?_
   refine NoPanic.normal ?_
   (go_wp2_with (first|go_skip|(refine zBXo ?_;clear M;intro w' g M)|refine zLAo ?_))
   go_ret2
   exact⟨_,_,_,_,rfl,M.bel⟩
structure OpR(Γ:Gam)(o:OpD)(x:OpS):Prop where
 a:∃A c,x.a=⟨A,o.a.l.length,c⟩/\SlG Γ A o.a.l.length (ints .i64 o.a.l)/\o.a.l.length<=4000
 s1:∃A c,x.s1=⟨A,o.s.a.l.length,c⟩/\SlG Γ A o.s.a.l.length (ints .i64 o.s.a.l)/\o.s.a.l.length<=4000
 s2:∃A c,x.s2=⟨A,o.s.b.l.length,c⟩/\SlG Γ A o.s.b.l.length (ints .i64 o.s.b.l)/\o.s.b.l.length<=4000
 t:∃A c,x.t=⟨A,o.t.b.length,c⟩/\SlG Γ A o.t.b.length (us o.t.b)/\o.t.b.length<=4000
theorem Ajk(Γ:Gam)(o:OpD)(x:OpS)(hk:1<=o.kind/\o.kind<=6)(h:OpR Γ o x)(w:World)(ok:Ok Γ w) :
  Calls Tryz.prog 114 #[.agg (fl (opP o x)).toArray] w (EncP w):=by
 have M:=bx (MM.start ok)
 obtain⟨⟨A1,c1,e1,q1,l1⟩,⟨A2,c2,e2,q2,l2⟩,⟨A3,c3,e3,q3,l3⟩,⟨A4,c4,e4,q4,l4⟩⟩:=h
 obtain⟨x1,x2,x3,x4⟩:=x
 simp only at e1 e2 e3 e4
 subst e1 e2 e3 e4
 have EA:=bx (fun w' ok'=>Aif Γ o.a A1 c1 l1 q1 w' ok')
 have ES:=bx (fun w' ok'=>Agj Γ o.s A2 A3 c2 c3 l2 l3 q2 q3 w' ok')
 have ET:=bx (fun w' ok'=>Agi Γ o.t.c o.t.b A4 c4 l4 q4 w' ok')
 have EV:=bx (fun w' ok'=>AhV Γ o.v w' ok')
 clear ok q1 q2 q3 q4 l1 l2 l3 l4
 obtain⟨kd,b,a,s,t,v,wr,kp⟩:=o
 simp only at hk EA ES ET EV
 rcases(by omega:kd=1\/kd=2\/kd=3\/kd=4\/kd=5\/kd=6)with rfl|rfl|rfl|rfl|rfl|rfl
 .go_enter Tryz.func114,Tryz.ntmps114
  (go_wp2_with (first|go_skip|(refine zBXo ?_;clear M;intro w' g M)|refine zLAo ?_))
  go_ret2
  exact⟨_,_,_,_,rfl,M.bel⟩
 .go_enter Tryz.func114,Tryz.ntmps114
  (go_wp2_with (first|go_skip|(refine zBXo ?_;clear M;intro w' g M)|refine zLAo ?_))
  refine(Aim none 0 0 [] b (by omega) (M.out.row0 5 1)).mono ?_;rintro e w1 ⟨A1,n1,c1,xs,rfl,hn,hM⟩
  clear M
  have M:=bx hM
  clear hM
  (go_wp2_with (first|go_skip|(refine zBXo ?_;clear M;intro w' g M)|refine zLAo ?_))
  go_ret2
  exact⟨_,_,_,_,rfl,M.bel⟩
 .go_enter Tryz.func114,Tryz.ntmps114
  (go_wp2_with (first|go_skip|(refine zBXo ?_;clear M;intro w' g M)|refine zLAo ?_))
  (refine(EA.out _ M.ok).mono ?_;rintro e w1 ⟨A1,n1,c1,er,rfl,hb⟩;replace M:=bx (M.out.below hb);clear hb;(go_wp2_with (first|go_skip|(refine zBXo ?_;clear M;intro w' g M)|refine zLAo ?_));go_ret2;exact⟨_,_,_,_,rfl,M.bel⟩)
 .go_enter Tryz.func114,Tryz.ntmps114
  (go_wp2_with (first|go_skip|(refine zBXo ?_;clear M;intro w' g M)|refine zLAo ?_))
  (refine(ES.out _ M.ok).mono ?_;rintro e w1 ⟨A1,n1,c1,er,rfl,hb⟩;replace M:=bx (M.out.below hb);clear hb;(go_wp2_with (first|go_skip|(refine zBXo ?_;clear M;intro w' g M)|refine zLAo ?_));go_ret2;exact⟨_,_,_,_,rfl,M.bel⟩)
 .go_enter Tryz.func114,Tryz.ntmps114
  (go_wp2_with (first|go_skip|(refine zBXo ?_;clear M;intro w' g M)|refine zLAo ?_))
  (refine(ET.out _ M.ok).mono ?_;rintro e w1 ⟨A1,n1,c1,er,rfl,hb⟩;replace M:=bx (M.out.below hb);clear hb;(go_wp2_with (first|go_skip|(refine zBXo ?_;clear M;intro w' g M)|refine zLAo ?_));go_ret2;exact⟨_,_,_,_,rfl,M.bel⟩)
 .go_enter Tryz.func114,Tryz.ntmps114
  (go_wp2_with (first|go_skip|(refine zBXo ?_;clear M;intro w' g M)|refine zLAo ?_))
  (refine(EV.out _ M.ok).mono ?_;rintro e w1 ⟨A1,n1,c1,er,rfl,hb⟩;replace M:=bx (M.out.below hb);clear hb;(go_wp2_with (first|go_skip|(refine zBXo ?_;clear M;intro w' g M)|refine zLAo ?_));go_ret2;exact⟨_,_,_,_,rfl,M.bel⟩)
def SmB(w:World)(e:Ending)(w':World):Prop:=∃b:Bool,e=.returned (.bool b)/\Below w.heap.size w w'
theorem Ad2(Γ:Gam)(A A':Option Addr)(c c':Nat)(l l':List Int)(hl:l.length<=4000)(hl':l'.length<=4000)(h:SlG Γ A l.length (ints .i64 l))(h':SlG Γ A' l'.length (ints .i64 l'))(w:World)(ok:Ok Γ w) :
  Calls Tryz.prog 29 #[.slice A l.length c,.slice A' l'.length c'] w (SmB w):=by
 have M:=bx (MM.start ok)
 have H:=bx h
 have H':=bx h'
 clear ok h h'
 by_cases hne:l.length=l'.length
 .rw[<-hne]
  go_enter Tryz.func29,Tryz.ntmps29
  go_wp2_with fail
  go_loopw [5] (fun i wr=>∃k:Nat,k<=l.length/\i=.int .i64 k/\MM Γ w Γ wr [] []) (fun i _=>l.length-(intOf i).toNat)
  case atStart=>exact⟨0,Nat.zero_le _,rfl,M.out⟩
  case round=>
   obtain⟨k,hk,rfl,hM⟩:=hrel
   clear M
   have M:=bx hM
   clear hM
   by_cases hkn:k<l.length
   .have hki:(k:Int)<(l.length:Int):=by omega
    have hk0:(0:Int)<=(k:Int):=by omega
    obtain⟨g1,rfl,q1⟩:=AeI H.out M.ok hkn
    obtain⟨g2,rfl,q2⟩:=AeI H'.out M.ok (show k<l'.length by omega)
    have C1:=bx (q1 k hkn)
    have C2:=bx (q2 k (by omega))
    clear q1 q2
    obtain⟨z1,e1⟩:∃z,l[k]=z:=⟨_,rfl⟩
    obtain⟨z2,e2⟩:∃z,l'[k]=z:=⟨_,rfl⟩
    rw[e1]at C1
    rw[e2]at C2
    clear e1 e2
    go_wp2_with fail
    refine AaH (fun w'=>(w'.cell? ⟨g1,k,none⟩=some (.int .i64 z1)/\w'.cell? ⟨g2,k,none⟩=some (.int .i64 z2))) (.steps [(1,0),(1,1),(1,2),(0,3),(1,4),(1,5),(1,6),(0,7),(1,8)] .leaf) (by kernel_rfl) (by kernel_rfl) ⟨C1.out _ (Below.refl _ _).drew,C2.out _ (Below.refl _ _).drew⟩ ?_;(simp only[MixT7,MT.steps,stepI,List.getD_cons_zero,List.getD_cons_succ]);replace M:=bx (M.out.drew)
    try refine zNM ?_
    (repeat(first|refine zM0 ?_|(go_big_quiet_want;first|((refine Aa1 rfl rfl AhM (fun w' hw=>hw.1) ?_);go_big_quiet_on;refine zNM ?_)|((refine Aa1 rfl rfl AhM (fun w' hw=>hw.2) ?_);go_big_quiet_on;refine zNM ?_)|(refine zQO ?_;go_big_quiet_on))))
    refine NoPanic.normal ?_
    by_cases he:z1=z2
    .subst he
     go_wp2_with fail
     go_roundw
     case rel=>exact⟨k+1,by omega,by go_num,M.out⟩
     case measure=>simp[intOf];omega
    .have he':(z1 != z2)=true:=by simp[he]
     go_wp2_with fail
     go_ret
     exact⟨_,rfl,M.bel⟩
   .obtain rfl:k=l.length:=by omega
    go_wp2_with fail
    go_ret
    exact⟨_,rfl,M.bel⟩
 .have hne':((l.length:Int) != (l'.length:Int))=true:=by simp;omega
  go_enter Tryz.func29,Tryz.ntmps29
  go_wp2_with fail
  go_ret
  exact⟨_,rfl,M.bel⟩
theorem Ag8(Γ:Gam)(a b:Att)(A A':Option Addr)(c c':Nat)(hl:a.l.length<=4000)(hl':b.l.length<=4000)(h:SlG Γ A a.l.length (ints .i64 a.l))(h':SlG Γ A' b.l.length (ints .i64 b.l))(w:World)(ok:Ok Γ w) :
  Calls Tryz.prog 135 #[.agg (fl (atP a ⟨A,a.l.length,c⟩)).toArray,.agg (fl (atP b ⟨A',b.l.length,c'⟩)).toArray] w (SmB w):=by
 have M:=bx (MM.start ok)
 have SI:=bx (fun w' ok'=>Ad2 Γ A A' c c' a.l b.l hl hl' h h' w' ok')
 clear ok h h' hl hl'
 have hq:=AbC a.r b.r
 generalize decide (a.r=b.r)=q at *
 have hp:=AdS a.t b.t
 generalize decide (a.t=b.t)=p at *
 by_cases h0:(a.slot.n:Int)=(b.slot.n:Int)
 .have d0:((a.slot.n:Int)==(b.slot.n:Int))=true:=by simp[h0]
  cases q with
  |false=>(go_enter Tryz.func135,Tryz.ntmps135;(go_wp2_with (first|go_skip|(refine zBXo ?_;clear M;intro w' g M)|refine zLAo ?_));go_ret;exact⟨_,rfl,M.bel⟩)
  |true=>
   cases p with
   |false=>(go_enter Tryz.func135,Tryz.ntmps135;(go_wp2_with (first|go_skip|(refine zBXo ?_;clear M;intro w' g M)|refine zLAo ?_));go_ret;exact⟨_,rfl,M.bel⟩)
   |true=>(go_enter Tryz.func135,Tryz.ntmps135;(go_wp2_with (first|go_skip|(refine zBXo ?_;clear M;intro w' g M)|refine zLAo ?_));refine(SI.out _ M.ok).mono ?_;rintro e w1 ⟨bb,rfl,hb⟩;replace M:=bx (M.out.below hb);clear hb;(go_wp2_with (first|go_skip|(refine zBXo ?_;clear M;intro w' g M)|refine zLAo ?_));go_ret;exact⟨_,rfl,M.bel⟩)
 .have d0:((a.slot.n:Int)==(b.slot.n:Int))=false:=by simp[h0]
  (go_enter Tryz.func135,Tryz.ntmps135;(go_wp2_with (first|go_skip|(refine zBXo ?_;clear M;intro w' g M)|refine zLAo ?_));go_ret;exact⟨_,rfl,M.bel⟩)
theorem AdU(Γ:Gam)(a b:Clm)(A A':Option Addr)(c c':Nat)(hl:a.l.length<=4000)(hl':b.l.length<=4000)(h:SlG Γ A a.l.length (ints .i64 a.l))(h':SlG Γ A' b.l.length (ints .i64 b.l))(w:World)(ok:Ok Γ w) :
  Calls Tryz.prog 165 #[.agg (fl (clP a ⟨A,a.l.length,c⟩)).toArray,.agg (fl (clP b ⟨A',b.l.length,c'⟩)).toArray] w (SmB w):=by
 have M:=bx (MM.start ok)
 have SI:=bx (fun w' ok'=>Ad2 Γ A A' c c' a.l b.l hl hl' h h' w' ok')
 clear ok h h' hl hl'
 have hq:=AbC a.r b.r
 generalize decide (a.r=b.r)=q at *
 by_cases h0:(a.src.n:Int)=(b.src.n:Int)
 .have d0:((a.src.n:Int)==(b.src.n:Int))=true:=by simp[h0]
  by_cases h1:(a.tgt.n:Int)=(b.tgt.n:Int)
  .have d1:((a.tgt.n:Int)==(b.tgt.n:Int))=true:=by simp[h1]
   cases q with
   |false=>(go_enter Tryz.func165,Tryz.ntmps165;(go_wp2_with (first|go_skip|(refine zBXo ?_;clear M;intro w' g M)|refine zLAo ?_));go_ret;exact⟨_,rfl,M.bel⟩)
   |true=>(go_enter Tryz.func165,Tryz.ntmps165;(go_wp2_with (first|go_skip|(refine zBXo ?_;clear M;intro w' g M)|refine zLAo ?_));refine(SI.out _ M.ok).mono ?_;rintro e w1 ⟨bb,rfl,hb⟩;replace M:=bx (M.out.below hb);clear hb;(go_wp2_with (first|go_skip|(refine zBXo ?_;clear M;intro w' g M)|refine zLAo ?_));go_ret;exact⟨_,rfl,M.bel⟩)
  .have d1:((a.tgt.n:Int)==(b.tgt.n:Int))=false:=by simp[h1]
   (go_enter Tryz.func165,Tryz.ntmps165;(go_wp2_with (first|go_skip|(refine zBXo ?_;clear M;intro w' g M)|refine zLAo ?_));go_ret;exact⟨_,rfl,M.bel⟩)
 .have d0:((a.src.n:Int)==(b.src.n:Int))=false:=by simp[h0]
  (go_enter Tryz.func165,Tryz.ntmps165;(go_wp2_with (first|go_skip|(refine zBXo ?_;clear M;intro w' g M)|refine zLAo ?_));go_ret;exact⟨_,rfl,M.bel⟩)
theorem Afb(Γ:Gam)(x y:Slh)(A1 A2 A3 A4:Option Addr)(c1 c2 c3 c4:Nat)(l1:x.a.l.length<=4000)(l2:x.b.l.length<=4000)(l3:y.a.l.length<=4000)(l4:y.b.l.length<=4000)
  (h1:SlG Γ A1 x.a.l.length (ints .i64 x.a.l)) (h2:SlG Γ A2 x.b.l.length (ints .i64 x.b.l)) (h3:SlG Γ A3 y.a.l.length (ints .i64 y.a.l)) (h4:SlG Γ A4 y.b.l.length (ints .i64 y.b.l)) (w:World) (ok:Ok Γ w) :
  Calls Tryz.prog 136 #[.agg (fl (slP x ⟨A1,x.a.l.length,c1⟩ ⟨A2,x.b.l.length,c2⟩)).toArray,.agg (fl (slP y ⟨A3,y.a.l.length,c3⟩ ⟨A4,y.b.l.length,c4⟩)).toArray] w (SmB w):=by
 have M:=bx (MM.start ok)
 have S1:=bx (fun w' ok'=>AdU Γ x.a y.a A1 A3 c1 c3 l1 l3 h1 h3 w' ok')
 have S2:=bx (fun w' ok'=>AdU Γ x.b y.b A2 A4 c2 c4 l2 l4 h2 h4 w' ok')
 clear ok h1 h2 h3 h4 l1 l2 l3 l4
 go_enter Tryz.func136,Tryz.ntmps136
 (go_wp2_with (first|go_skip|(refine zBXo ?_;clear M;intro w' g M)|refine zLAo ?_))
 refine(S1.out _ M.ok).mono ?_;rintro e w1 ⟨bb,rfl,hb⟩
 replace M:=bx (M.out.below hb)
 clear hb
 cases bb with
 |false=>
  (go_wp2_with (first|go_skip|(refine zBXo ?_;clear M;intro w' g M)|refine zLAo ?_))
  go_ret
  exact⟨_,rfl,M.bel⟩
 |true=>
  (go_wp2_with (first|go_skip|(refine zBXo ?_;clear M;intro w' g M)|refine zLAo ?_))
  refine(S2.out _ M.ok).mono ?_;rintro e w2 ⟨bb,rfl,hb⟩
  replace M:=bx (M.out.below hb)
  clear hb
  (go_wp2_with (first|go_skip|(refine zBXo ?_;clear M;intro w' g M)|refine zLAo ?_))
  go_ret
  exact⟨_,rfl,M.bel⟩
end Go.Proofs.YtmgeheaneohldaaGreat
namespace Go.Proofs.YtmgeheaneohldaaGreat
open Go.RowKit
def kVd:List Value:=.int .u64 0 :: .int .i64 0::(List.replicate 32 [Value.int .u8 0]).flatten
theorem eqTg:EqT Tryz.prog 2 126 [.int .u64 0]:=by
 refine EqT.struct Tryz.underlying126 (by kernel_rfl) (by kernel_rfl) (by kernel_rfl) ?_
 exact⟨[.int .u64 0],[],rfl,by decide,rfl,EqT.int Tryz.underlying23 (by kernel_rfl),rfl⟩
theorem eqVd:EqT Tryz.prog 3 128 kVd:=by
 refine EqT.struct Tryz.underlying128 (by kernel_rfl) (by kernel_rfl) (by kernel_rfl) ?_
 refine⟨[.int .u64 0],_,rfl,by decide,rfl,eqTg,?_⟩
 refine⟨[.int .i64 0],_,rfl,by decide,rfl,(EqT.int Tryz.underlying3 (by kernel_rfl)).mono' (by omega),?_⟩
 exact⟨(List.replicate 32 [Value.int .u8 0]).flatten,[],by simp,by decide,rfl,Adi,rfl⟩
theorem Ajg(a:Vd):Fits kVd (fl (vdP a)):=show Fits (.int .u64 0 :: .int .i64 0::_) (.int .u64 (a.tag.n:Int) :: .int .i64 a.kind::ints .u8 a.latest.l)from⟨rfl,rfl,Ab2 a.latest.len⟩
theorem AmZ{a b:Vd}:fl (vdP a)=fl (vdP b)↔a=b:=by
 constructor
 .intro h
  simp only[vdP,fl,List.cons_append,List.nil_append,List.cons.injEq,Value.int.injEq,true_and]at h
  obtain⟨h1,h2,h3⟩:=h
  obtain⟨t,k,r⟩:=a
  obtain⟨t',k',r'⟩:=b
  have:=AeV.1 h3
  simp only at this h1 h2
  rw[this,h2,U.ext' (Int.ofNat.inj h1)]
 .rintro rfl;rfl
theorem All(a b:Vd)(w:World):(Op.equalIn 10000 128 (.agg (fl (vdP a)).toArray) (.agg (fl (vdP b)).toArray)).run Tryz.prog w=.ok (decide (a=b)) w:=
 eqVd.same (by omega) (AbV Tryz.underlying128) (Aad Tryz.underlying128) (Ajg a) (Ajg b) (AbA (Abc a)) (AbA (Abc b)) (by simp[AmZ]) w
end Go.Proofs.YtmgeheaneohldaaGreat
namespace Go.Proofs.YtmgeheaneohldaaGreat
open Go.RowKit Go.Proofs.YtmgeheaneohldaaGreat.Old
theorem Abu{N:List Nod}(h:Lk (upsN N)):Ahead N:=fun k hk=>by
 rcases AdE h hk with⟨_,e⟩|⟨u,hu,e⟩<;>rw[e]<;>omega
theorem Aln{N:List Nod}(h:Lk (upsN N)):∀n∈N,-1<=n.up:=fun n hn=>by
 obtain⟨i,hi,rfl⟩:=List.getElem_of_mem hn
 rcases AdE h hi with⟨_,e⟩|⟨u,hu,e⟩<;>rw[e]<;>omega
theorem Akh{N:List Nod}{u m:Nat}(hu:u<N.length)(hm:m<N.length)(e:N[m].up=(u:Int)):m∈kids N (u:Int):=by
 unfold kids
 rw[AcB (by omega) (by omega),if_pos rfl]
 unfold kidsTo
 rw[List.mem_filter]
 exact⟨List.mem_range.2 hm,by rw[nget hm];simpa using e⟩
theorem Amv{s:Sto}(h:Lk (upsN s.nodes)){m u:Nat}(hm:m<s.nodes.length)(e:s.nodes[m].up=(u:Int))(hl:s.lv m=true):s.lv u=true:=by
 have hu:u<m:=by
  rcases AdE h hm with⟨_,e'⟩|⟨v,hv,e'⟩<;>rw[e']at e<;>omega
 rw[AjO (Abu h) u (by omega),Bool.or_eq_true,List.any_eq_true]
 exact .inr ⟨m,Akh (by omega) hm e,hl⟩
theorem Amw{s:Sto}(h:Lk (upsN s.nodes)){i:Nat}:∀m,m<s.nodes.length->ancI s.nodes (i:Int) (m:Int)=true->s.lv m=true->s.lv i=true:=by
 intro m
 induction m using Nat.strongRecOn with
 |ind m ih=>
  intro hm ha hl
  rcases AdE h hm with⟨h0,_⟩|⟨u,hu,e⟩
  .subst h0
   rw[Adk h (by omega) ha]
   exact hl
  .rcases(AcF h hm e).1 ha with h1|h1
   .rw[h1];exact hl
   .exact ih u hu (by omega) h1 (Amv h hm e hl)
theorem AjN{s:Sto}(h:Lk (upsN s.nodes)):∀(f i:Nat),s.nodes.length<=i+f->i<s.nodes.length->s.lv i=true->∃k,k<s.nodes.length/\ancI s.nodes (i:Int) (k:Int)=true/\s.qual (k:Int)=true
 |0,i,hf,hi,_=>absurd hi (by omega)
 |f+1,i,hf,hi,hl=>by
  rw[AjO (Abu h) i hi,Bool.or_eq_true,List.any_eq_true]at hl
  rcases hl with hq|⟨k,hk,hl⟩
  .exact⟨i,hi,AdD h hi,hq⟩
  .obtain⟨hk1,hk2⟩:=Abt hk
   have hki:i<k:=by have:=Abu h k hk1;omega
   obtain⟨m,hm,ha,hq⟩:=AjN h f k (by omega) hk1 hl
   exact⟨m,hm,Agz h hm ((AcF h hk1 hk2).2 (.inr (AdD h hi))) ha,hq⟩
theorem Afm{N:List Nod}{i k:Nat}:k∈descI N i↔k<N.length/\isAnc (upsN N) i k=true:=by
 unfold descI descN
 rw[List.mem_filter,List.mem_range]
theorem Aga{N:List Nod}{i k:Nat}(hk:k<N.length):isAnc (upsN N) i k=true↔ancI N (i:Int) (k:Int)=true:=by
 rw[Adz hk]
 unfold isAnc nats
 rw[decide_eq_true_iff,List.mem_map]
 constructor
 .rintro⟨x,hx,e⟩
  obtain rfl:x=i:=by omega
  exact hx
 .intro h
  exact⟨i,h,rfl⟩
theorem Al9{s:Sto}(h:Lk (upsN s.nodes)){i:Nat}(hi:i<s.nodes.length):(descI s.nodes i).any (fun k=>s.qual (k:Int))=s.lv i:=by
 rw[Bool.eq_iff_iff,List.any_eq_true]
 constructor
 .rintro⟨k,hk,hq⟩
  obtain⟨h1,h2⟩:=Afm.1 hk
  refine Amw h k h1 ((Aga h1).1 h2) ?_
  rw[AjO (Abu h) k h1,hq]
  rfl
 .intro hl
  obtain⟨k,hk,ha,hq⟩:=AjN h s.nodes.length i (by omega) hi hl
  exact⟨k,Afm.2 ⟨hk,(Aga hk).2 ha⟩,hq⟩
theorem Alb{s:Sto}(t:TI s.nodes):∀(f i:Nat) (hi:i<s.nodes.length),s.nodes.length<=i+f->s.nodes[i].st=2->s.lv i=false
 |0,i,hi,hf,_=>absurd hi (by omega)
 |f+1,i,hi,hf,h2=>by
  rw[AjO (Abu t.lk) i hi,Bool.or_eq_false_iff]
  refine⟨?_,?_⟩
  .unfold Sto.qual
   rw[AeZ hi]
   exact AdZ h2
  .rw[List.any_eq_false]
   intro k hk
   obtain⟨hk1,hk2⟩:=Abt hk
   have hki:i<k:=by have:=Abu t.lk k hk1;omega
   rw[Alb t f k hk1 (by omega) (t.cl2 k i hk1 hi hk2 h2)]
   simp
theorem AjQ{s:Sto}{i:Nat}(h:i<s.lives.length):s.lives[i]=s.lv i:=by simp[Sto.lives,Sto.lv]
end Go.Proofs.YtmgeheaneohldaaGreat
