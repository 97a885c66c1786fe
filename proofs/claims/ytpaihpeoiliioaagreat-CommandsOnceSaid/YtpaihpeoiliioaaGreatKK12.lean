/- Texts joined: what the walks of this claim stand on (part 12). -/
import Derived.Test.YtpaihpeoiliioaaGreatKK10
import Derived.Test.YtpaihpeoiliioaaGreatKK11
set_option linter.all false
set_option maxRecDepth 20000
set_option maxHeartbeats 40000000
namespace Go.Proofs.YtpaihpeoiliioaaGreat
open Go.RowKit
theorem Aq4{l:List Bool}{k:Nat}(h:k<l.length):(bls l)[k]? = some (.bool l[k]):=by simp[bls,List.getElem?_map,List.getElem?_eq_getElem h]
theorem Adk(l:List Bool)(k:Nat)(b:Bool):(bls l).set k (.bool b)=bls (l.set k b):=by simp[bls,List.map_set]
theorem Ap5(l:List Bool):(bls l).length=l.length:=by simp[bls]
theorem Akr(Γ:Gam)(s:Sto)(v:Sls)(hs:SpeOk s)(ha:Ahead s.nodes)(hu0:∀n∈s.nodes,-1<=n.up)(h1:0<s.nodes.length)(hb:s.nodes.length<=65535)(w:World)(ok:Ok Γ w)(h:StG Γ v s) :
  Calls Tryz.prog 62 #[.agg (fl (stP s v)).toArray] w (BlsP Γ w s.lives):=by
 have M:=bx (MM.start ok)
 have LN:=bx h.nodes.n
 have QU:=bx (fun(k:Nat) w1 (o:Ok Γ w1)=>AgI Γ s v (k:Int) hs w1 o h)
 have HG:=bx h.nodes
 have HA0:=bx ha
 have HU:=bx hu0
 have HB:=bx hb
 have hn1:1*s.nodes.length<=281474976710656:=by omega
 have hn2:s.nodes.length<=9223372036854775807:=by omega
 have hn3:v.nodes.n=s.nodes.length:=LN.o
 have E0:Bx (reps s.nodes.length [Value.bool false]=bls (s.marks s.nodes.length)):=⟨by rw[Ajq,AmD];simp[bls]⟩
 have EZ:=bx (AlD s)
 have hwr:IntKind.i64.wrap ((s.nodes.length:Int)-1)=((s.nodes.length:Int)-1):=IntWalk.i64_in _ (by omega)
 clear h hs ha hu0 ok hb
 have HV:=bx (Aei (s:=v.nodes) rfl)
 rw[hn3]at HV
 go_enter Tryz.func62,Tryz.ntmps62
 go_wp2_with (first|(refine zBYo (AaD s v) ?_;clear M;intro w' g M)|refine zLE M.o.at0 (HV.o) ?_|((with_reducible apply AdU M.o Aqj s.nodes.length hn1 hn2);rfl;rfl;rfl;rfl;intro w' g M' hb';(replace M:=bx M';clear M');clear hb'))
 rename_i g1 _ _
 have EZ0:=E0.o
 rw[EZ0]at M
 clear EZ0 E0 hn1 hn2
 go_loopw [4,5] (fun i u wr=>∃m:Nat,m<=s.nodes.length/\i=.int .i64 ((m:Int)-1)/\MM Γ w Γ wr [⟨g,[bls (s.marks m)],[s.nodes.length*1]⟩,⟨g1,stP s v,stL⟩] []) (fun i _ _=>(intOf i+1).toNat)
 case atStart=>exact⟨s.nodes.length,Nat.le_refl _,by first|rfl|(rw[hwr];rfl),M.o⟩
 case round=>
  obtain⟨m,hm,rfl,hM⟩:=hrel
  clear M
  have M:=bx hM
  clear hM
  rcases Nat.eq_zero_or_pos m with h0|h0
  .subst h0
   go_wp2_with fail
   go_ret
   rw[EZ.o]at M
   obtain⟨Γ',h1,h2,h3⟩:=(M.o.frzS s.nodes.length)
   have hl:s.nodes.length=s.lives.length:=by simp[Sto.lives]
   refine⟨some ⟨g,0,none⟩,s.nodes.length,Γ',by rw[hl];rfl,?_,?_,h3.ext⟩
   .rw[<-hl];exact⟨Nat.le_refl _,by have:=HB.o;unfold maxLen;omega,fun h=>by cases h⟩
   .rw[<-hl];exact h1
  .obtain⟨k,rfl⟩:∃k,m=k+1:=⟨m-1,by omega⟩
   have hkk:((k+1:Nat):Int)-1=(k:Int):=by omega
   rw[hkk]
   have hkl:k<s.nodes.length:=by omega
   obtain⟨gn,hA,hc⟩:=HG.o.at (fun x _=>AbH x) k hkl
   have HA:=bx (Aei hA)
   have HC:=bx hc
   have Q1:=bx (QU.o k)
   have hki:(k:Int)<(s.nodes.length:Int):=by omega
   have hk0:0<=(k:Int):=by omega
   have MH:=bx (AmE HA0.o hkl)
   have MN:=bx (An4 (s:=s) hkl)
   have MY:=bx (fun u=>AmC HA0.o (u:=u) hkl)
   have UA:=bx (HA0.o k hkl)
   have UL:=bx (HU.o _ (List.getElem_mem hkl))
   have hlm:k<(s.marks (k+1)).length:=by rw[Ab6];exact hkl
   have HK:=bx (Aq4 hlm)
   rw[Acw]at HK
   have hlb:k<(bls (s.marks (k+1))).length:=by rw[Ap5,Ab6];exact hkl
   have hkv:(k:Int)<(v.nodes.n:Int):=by rw[hn3];exact hki
   have hwk:IntKind.i64.wrap ((k:Int)-1)=(k:Int)-1:=IntWalk.i64_in _ (by have:=HB.o;omega)
   have hl2:∀x:Value,(((bls (s.marks (k+1))).set k x))[k]? = some x:=fun x=>by rw[List.getElem?_set_self hlb]
   have HK2:=bx hl2
   clear hA hc HV QU HU HA0 EZ hkk hwr hm h0 hl2 hlm
   cases hb0:s.mark (k+1) k with
   |true=>
    rw[hb0]at HK MH
    have VT:Bx (s.lv k=true):=⟨by rw[<-MH.o];rfl⟩
    clear MH
    by_cases hup:0<=s.nodes[k].up
    .obtain⟨u,hu⟩:∃u:Nat,s.nodes[k].up=(u:Int):=⟨s.nodes[k].up.toNat,by omega⟩
     have MY':=bx (MY.o u hu VT.o)
     have huk:(u:Int)<(k:Int):=by rw[<-hu];exact UA.o
     have hun:(u:Int)<(s.nodes.length:Int):=by omega
     have hu0:0<=(u:Int):=by omega
     have hlu:∀x:Value,u<((bls (s.marks (k+1))).set k x).length:=fun x=>by rw[List.length_set];omega
     clear MN MY UA UL
     generalize s.nodes[k]=x at *
     go_wp2_with (first|go_skip|((with_reducible apply AaQ M.o.at0 HK.o);rfl;rfl;rfl;exact zots)|((with_reducible apply AaQ M.o.at0 (HK2.o _));rfl;rfl;rfl;exact zots)|refine zLE M.o.at1 (HA.o) ?_|refine zLDo (M.o.at1) ?_|((with_reducible apply AaX M.o 0 (.bool true));rfl;exact hlb;rfl;rfl;rfl;rfl;exact zots;rfl;rfl;intro w' M';(simp only[List.set_cons_zero,List.set_cons_succ]at M');(replace M:=bx M';clear M'))|((with_reducible apply AaX M.o 0 (.bool true));rfl;exact hlu _;rfl;rfl;rfl;rfl;exact zots;rfl;rfl;intro w' M';(simp only[List.set_cons_zero,List.set_cons_succ]at M');(replace M:=bx M';clear M'))|refine zRD (CL.of HC.o (AaK _) M.ok) ?_)
     go_roundw
     case rel=>exact⟨k,by omega,by go_num,by rw[<-MY'.o,<-Adk,<-Adk];exact M.o⟩
     case measure=>simp[intOf]
    .have MN':=bx (MN.o (.inl (by omega)))
     have hlu:True:=trivial
     have hup':decide (0<=s.nodes[k].up)=false:=by simp;omega
     clear MN MY UA UL
     rw[VT.o]at MN'
     generalize s.nodes[k]=x at *
     go_wp2_with (first|go_skip|((with_reducible apply AaQ M.o.at0 HK.o);rfl;rfl;rfl;exact zots)|((with_reducible apply AaQ M.o.at0 (HK2.o _));rfl;rfl;rfl;exact zots)|refine zLE M.o.at1 (HA.o) ?_|refine zLDo (M.o.at1) ?_|((with_reducible apply AaX M.o 0 (.bool true));rfl;exact hlb;rfl;rfl;rfl;rfl;exact zots;rfl;rfl;intro w' M';(simp only[List.set_cons_zero,List.set_cons_succ]at M');(replace M:=bx M';clear M'))|((with_reducible apply AaX M.o 0 (.bool true));rfl;exact hlu _;rfl;rfl;rfl;rfl;exact zots;rfl;rfl;intro w' M';(simp only[List.set_cons_zero,List.set_cons_succ]at M');(replace M:=bx M';clear M'))|refine zRD (CL.of HC.o (AaK _) M.ok) ?_)
     go_roundw
     case rel=>exact⟨k,by omega,by go_num,by rw[<-MN'.o,<-Adk];exact M.o⟩
     case measure=>simp[intOf]
   |false=>
    rw[hb0]at HK MH
    cases hq:s.qual (k:Int)with
    |true=>
     rw[hq]at MH Q1
     have VT:Bx (s.lv k=true):=⟨by rw[<-MH.o];rfl⟩
     clear MH
     by_cases hup:0<=s.nodes[k].up
     .obtain⟨u,hu⟩:∃u:Nat,s.nodes[k].up=(u:Int):=⟨s.nodes[k].up.toNat,by omega⟩
      have MY':=bx (MY.o u hu VT.o)
      have huk:(u:Int)<(k:Int):=by rw[<-hu];exact UA.o
      have hun:(u:Int)<(s.nodes.length:Int):=by omega
      have hu0:0<=(u:Int):=by omega
      have hlu:∀x:Value,u<((bls (s.marks (k+1))).set k x).length:=fun x=>by rw[List.length_set];omega
      clear MN MY UA UL
      generalize s.nodes[k]=x at *
      go_wp2_with (first|go_skip|((with_reducible apply AaQ M.o.at0 HK.o);rfl;rfl;rfl;exact zots)|((with_reducible apply AaQ M.o.at0 (HK2.o _));rfl;rfl;rfl;exact zots)|refine zLE M.o.at1 (HA.o) ?_|refine zLDo (M.o.at1) ?_|((with_reducible apply AaX M.o 0 (.bool true));rfl;exact hlb;rfl;rfl;rfl;rfl;exact zots;rfl;rfl;intro w' M';(simp only[List.set_cons_zero,List.set_cons_succ]at M');(replace M:=bx M';clear M'))|((with_reducible apply AaX M.o 0 (.bool true));rfl;exact hlu _;rfl;rfl;rfl;rfl;exact zots;rfl;rfl;intro w' M';(simp only[List.set_cons_zero,List.set_cons_succ]at M');(replace M:=bx M';clear M'))|refine zRD (CL.of HC.o (AaK _) M.ok) ?_)
      refine zCA M (Q1.o _ M.ok) ?_;clear M;intro w1 M
      go_wp2_with (first|go_skip|((with_reducible apply AaQ M.o.at0 HK.o);rfl;rfl;rfl;exact zots)|((with_reducible apply AaQ M.o.at0 (HK2.o _));rfl;rfl;rfl;exact zots)|refine zLE M.o.at1 (HA.o) ?_|refine zLDo (M.o.at1) ?_|((with_reducible apply AaX M.o 0 (.bool true));rfl;exact hlb;rfl;rfl;rfl;rfl;exact zots;rfl;rfl;intro w' M';(simp only[List.set_cons_zero,List.set_cons_succ]at M');(replace M:=bx M';clear M'))|((with_reducible apply AaX M.o 0 (.bool true));rfl;exact hlu _;rfl;rfl;rfl;rfl;exact zots;rfl;rfl;intro w' M';(simp only[List.set_cons_zero,List.set_cons_succ]at M');(replace M:=bx M';clear M'))|refine zRD (CL.of HC.o (AaK _) M.ok) ?_)
      go_roundw
      case rel=>exact⟨k,by omega,by go_num,by rw[<-MY'.o,<-Adk,<-Adk];exact M.o⟩
      case measure=>simp[intOf]
     .have MN':=bx (MN.o (.inl (by omega)))
      have hlu:True:=trivial
      have hup':decide (0<=s.nodes[k].up)=false:=by simp;omega
      clear MN MY UA UL
      rw[VT.o]at MN'
      generalize s.nodes[k]=x at *
      go_wp2_with (first|go_skip|((with_reducible apply AaQ M.o.at0 HK.o);rfl;rfl;rfl;exact zots)|((with_reducible apply AaQ M.o.at0 (HK2.o _));rfl;rfl;rfl;exact zots)|refine zLE M.o.at1 (HA.o) ?_|refine zLDo (M.o.at1) ?_|((with_reducible apply AaX M.o 0 (.bool true));rfl;exact hlb;rfl;rfl;rfl;rfl;exact zots;rfl;rfl;intro w' M';(simp only[List.set_cons_zero,List.set_cons_succ]at M');(replace M:=bx M';clear M'))|((with_reducible apply AaX M.o 0 (.bool true));rfl;exact hlu _;rfl;rfl;rfl;rfl;exact zots;rfl;rfl;intro w' M';(simp only[List.set_cons_zero,List.set_cons_succ]at M');(replace M:=bx M';clear M'))|refine zRD (CL.of HC.o (AaK _) M.ok) ?_)
      refine zCA M (Q1.o _ M.ok) ?_;clear M;intro w1 M
      go_wp2_with (first|go_skip|((with_reducible apply AaQ M.o.at0 HK.o);rfl;rfl;rfl;exact zots)|((with_reducible apply AaQ M.o.at0 (HK2.o _));rfl;rfl;rfl;exact zots)|refine zLE M.o.at1 (HA.o) ?_|refine zLDo (M.o.at1) ?_|((with_reducible apply AaX M.o 0 (.bool true));rfl;exact hlb;rfl;rfl;rfl;rfl;exact zots;rfl;rfl;intro w' M';(simp only[List.set_cons_zero,List.set_cons_succ]at M');(replace M:=bx M';clear M'))|((with_reducible apply AaX M.o 0 (.bool true));rfl;exact hlu _;rfl;rfl;rfl;rfl;exact zots;rfl;rfl;intro w' M';(simp only[List.set_cons_zero,List.set_cons_succ]at M');(replace M:=bx M';clear M'))|refine zRD (CL.of HC.o (AaK _) M.ok) ?_)
      go_roundw
      case rel=>exact⟨k,by omega,by go_num,by rw[<-MN'.o,<-Adk];exact M.o⟩
      case measure=>simp[intOf]
    |false=>
     rw[hq]at MH Q1
     have VT:Bx (s.lv k=false):=⟨by rw[<-MH.o];rfl⟩
     have MN':=bx (MN.o (.inr VT.o))
     rw[VT.o]at MN'
     clear MH MN MY UA UL
     have hlu:True:=trivial
     generalize s.nodes[k]=x at *
     by_cases hup:0<=x.up
     focus have hup':decide (0<=x.up)=true:=by simpa using hup
     rotate_left
     focus(have hup':decide (0<=x.up)=false:=by simp;omega)
     all_goals
      go_wp2_with (first|go_skip|((with_reducible apply AaQ M.o.at0 HK.o);rfl;rfl;rfl;exact zots)|((with_reducible apply AaQ M.o.at0 (HK2.o _));rfl;rfl;rfl;exact zots)|refine zLE M.o.at1 (HA.o) ?_|refine zLDo (M.o.at1) ?_|((with_reducible apply AaX M.o 0 (.bool false));rfl;exact hlb;rfl;rfl;rfl;rfl;exact zots;rfl;rfl;intro w' M';(simp only[List.set_cons_zero,List.set_cons_succ]at M');(replace M:=bx M';clear M'))|((with_reducible apply AaX M.o 0 (.bool true));rfl;exact hlu _;rfl;rfl;rfl;rfl;exact zots;rfl;rfl;intro w' M';(simp only[List.set_cons_zero,List.set_cons_succ]at M');(replace M:=bx M';clear M'))|refine zRD (CL.of HC.o (AaK _) M.ok) ?_)
      refine zCA M (Q1.o _ M.ok) ?_;clear M;intro w1 M
      go_wp2_with (first|go_skip|((with_reducible apply AaQ M.o.at0 HK.o);rfl;rfl;rfl;exact zots)|((with_reducible apply AaQ M.o.at0 (HK2.o _));rfl;rfl;rfl;exact zots)|refine zLE M.o.at1 (HA.o) ?_|refine zLDo (M.o.at1) ?_|((with_reducible apply AaX M.o 0 (.bool false));rfl;exact hlb;rfl;rfl;rfl;rfl;exact zots;rfl;rfl;intro w' M';(simp only[List.set_cons_zero,List.set_cons_succ]at M');(replace M:=bx M';clear M'))|((with_reducible apply AaX M.o 0 (.bool true));rfl;exact hlu _;rfl;rfl;rfl;rfl;exact zots;rfl;rfl;intro w' M';(simp only[List.set_cons_zero,List.set_cons_succ]at M');(replace M:=bx M';clear M'))|refine zRD (CL.of HC.o (AaK _) M.ok) ?_)
      go_roundw
      case rel=>exact⟨k,by omega,by go_num,by rw[<-MN'.o,<-Adk];exact M.o⟩
      case measure=>simp[intOf]
end Go.Proofs.YtpaihpeoiliioaaGreat
