/- Texts joined: what the walks of this claim stand on (part 35). -/
import Derived.Test.YtpaihpeoiliioaaGreatKK6
set_option linter.all false
set_option maxRecDepth 20000
set_option maxHeartbeats 40000000
namespace Go.Proofs.YtpaihpeoiliioaaGreat
open Go.RowKit Old
def puP(p:Cp × Cp):List (List Value):=[[.int .u64 (p.1.e.n:Int)],rc p.1.r,[.int .u64 (p.2.e.n:Int)],rc p.2.r]
abbrev puL:List Nat:=[1,32,1,32]
theorem Ai9(p:Cp × Cp):(puP p).map List.length=puL:=by simp[puP,Aav]
theorem Aox(p:Cp × Cp):One (fl (puP p)):=One.cons (Abk _ _) (One.cons (Aac _) (One.cons (Abk _ _) (Aac _)))
theorem rtPu:RowT Tryz.prog 76 66:=⟨⟨_,Tryz.underlying76,rfl⟩,by kernel_rfl⟩
theorem ztPu:ZeroT Tryz.prog 76 (puP (cp0,cp0)) puL:=⟨fun w=>by kernel_rfl,Ai9 _⟩
theorem AkX(p:Cp × Cp):List.take 4 (puP p)=puP p:=rfl
def pendS(s:Bool × (Cp × Cp))(n:Nod):Bool × (Cp × Cp):=if n.st=2 then s else(true,(if s.1=false\/s.2.1.e.n<n.b.pj.e.n then n.b.pj else s.2.1),(if s.1=false\/s.2.2.e.n<n.b.pf.e.n then n.b.pf else s.2.2))
def pendTo(N:List Nod)(k:Nat):Bool × (Cp × Cp):=(N.take k).foldl pendS (false,(cp0,cp0))
def Sto.pend(s:Sto):Cp × Cp:=(s.nodes.foldl pendS (false,(cp0,cp0))).2
theorem AjF(Γ:Gam)(s:Sto)(v:Sls)(w:World)(ok:Ok Γ w)(h:StG Γ v s)(hb:s.nodes.length<=4096) :
  Calls Tryz.prog 156 #[.agg (fl (stP s v)).toArray] w fun e w'=>e=.returned (.agg (fl (puP s.pend)).toArray)/\Ext Γ w Γ w':=by
 have M:=bx (MM.start ok)
 have HG:=bx h
 have LN:=bx h.nodes.n
 have PT:Bx (∀k (hk:k<s.nodes.length),pendTo s.nodes (k+1)=pendS (pendTo s.nodes k) s.nodes[k]):=⟨fun k hk=>Abi pendS _ hk⟩
 have PE:Bx ((pendTo s.nodes s.nodes.length).2=s.pend):=⟨by unfold pendTo Sto.pend;rw[List.take_of_length_le (Nat.le_refl _)]⟩
 have HB:=bx hb
 clear ok h hb
 generalize s.pend=res at *
 go_enter Tryz.func156,Tryz.ntmps156
 (go_wp2_with (first|((first|refine zBYo (AaD _ _) ?_|refine zALo (ztPu) ?_);clear M;intro w' g M)))
 rename_i gs _ gr _ _
 go_loopw [4,5] (fun b j wr=>∃k:Nat,k<=s.nodes.length/\j=.int .i64 k/\b=.bool (pendTo s.nodes k).1/\MM Γ w Γ wr [⟨g,puP (pendTo s.nodes k).2,puL⟩,⟨gr,puP (cp0,cp0),puL⟩,⟨gs,stP s v,stL⟩] []) (fun _ j _=>s.nodes.length-(intOf j).toNat)
 case atStart=>exact⟨0,Nat.zero_le _,rfl,rfl,M.o⟩
 case round=>
  obtain⟨k,hk,rfl,rfl,hM⟩:=hrel
  clear M
  have M:=bx hM
  clear hM
  have hbb:=HB.o
  by_cases hkn:k<s.nodes.length
  .obtain⟨gn,hA,hf⟩:=HG.o.nodeAt k hkn
   have HA:=bx hA
   have F1:=bx hf
   have PT':=bx (PT.o k hkn)
   have hki:(k:Int)<(v.nodes.n:Int):=by rw[LN.o];omega
   have hk0:0<=(k:Int):=by omega
   clear hA hf
   generalize pendTo s.nodes k=p at *
   generalize s.nodes[k]=y at *
   obtain⟨b,j,f⟩:=p
   simp only[pendS]at PT'
   dsimp only at M |-
   by_cases hs:y.st=2
   .have b1:(y.st==2)=true:=by rw[hs];rfl
    rw[if_pos hs]at PT'
    clear hs
    (go_wp2_with (first|(refine zALo (ztNo) ?_;clear M;intro w' g M)|refine zLHo HA ?_|refine zRFo F1 ?_|refine zLAo ?_|(refine zSSo M 0 (noP y) (noP y) (AaK _) (AbX _) ?_;clear M;intro w' M)))
    go_roundw;(case rel=>exact⟨k+1,by omega,by go_num,by rw[PT'.o],by rw[PT'.o];exact M.o.tail⟩);(case measure=>simp[intOf]<;>omega)
   .have b1:(y.st==2)=false:=beq_eq_false_iff_ne.2 hs
    rw[if_neg hs]at PT'
    clear hs
    cases b
    .replace PT':=bx (PT'.o.trans (by simp:_=((true,(y.b.pj,y.b.pf)):Bool × (Cp × Cp))))
     go_upto_region 8 with(first|(refine zALo (ztNo) ?_;clear M;intro w' g M)|refine zLHo HA ?_|refine zRFo F1 ?_|refine zLAo ?_|(refine zSSo M 0 (noP y) (noP y) (AaK _) (AbX _) ?_;clear M;intro w' M))
     go_upto_region 9 with fail
     go_upto_region 10 with(first|refine zLAo ?_|(refine zSSo M 1 (cpP y.b.pj) (puP (y.b.pj,f)) (AaC _) (AaO _) ?_;clear M;intro w' M))
     go_upto_region 11 with fail
     (go_wp2_with (first|refine zLAo ?_|(refine zSSo M 1 (cpP y.b.pf) (puP (y.b.pj,y.b.pf)) (AaC _) (AaO _) ?_;clear M;intro w' M)))
     go_roundw;(case rel=>exact⟨k+1,by omega,by go_num,by rw[PT'.o],by rw[PT'.o];exact M.o.tail⟩);(case measure=>simp[intOf]<;>omega)
    .rcases two2 j.e.n y.b.pj.e.n with⟨a1,a2⟩|⟨a1,a2⟩
     .rcases two2 f.e.n y.b.pf.e.n with⟨c1,c2⟩|⟨c1,c2⟩
      .replace PT':=bx (PT'.o.trans (by simp[a1,c1]:_=((true,(y.b.pj,y.b.pf)):Bool × (Cp × Cp))))
       (go_wp2_with (first|(refine zALo (ztNo) ?_;clear M;intro w' g M)|refine zLHo HA ?_|refine zRFo F1 ?_|refine zLAo ?_|((first|refine zSSo M 0 (noP y) (noP y) (AaK _) (AbX _) ?_|refine zSSo M 1 (cpP y.b.pj) (puP (y.b.pj,f)) (AaC _) (AaO _) ?_|refine zSSo M 1 (cpP y.b.pf) (puP (y.b.pj,y.b.pf)) (AaC _) (AaO _) ?_);clear M;intro w' M)))
       go_roundw;(case rel=>exact⟨k+1,by omega,by go_num,by rw[PT'.o],by rw[PT'.o];exact M.o.tail⟩);(case measure=>simp[intOf]<;>omega)
      .replace PT':=bx (PT'.o.trans (by simp[a1,c1]:_=((true,(y.b.pj,f)):Bool × (Cp × Cp))))
       (go_wp2_with (first|(refine zALo (ztNo) ?_;clear M;intro w' g M)|refine zLHo HA ?_|refine zRFo F1 ?_|refine zLAo ?_|((first|refine zSSo M 0 (noP y) (noP y) (AaK _) (AbX _) ?_|refine zSSo M 1 (cpP y.b.pj) (puP (y.b.pj,f)) (AaC _) (AaO _) ?_);clear M;intro w' M)))
       go_roundw;(case rel=>exact⟨k+1,by omega,by go_num,by rw[PT'.o],by rw[PT'.o];exact M.o.tail⟩);(case measure=>simp[intOf]<;>omega)
     .rcases two2 f.e.n y.b.pf.e.n with⟨c1,c2⟩|⟨c1,c2⟩
      .replace PT':=bx (PT'.o.trans (by simp[a1,c1]:_=((true,(j,y.b.pf)):Bool × (Cp × Cp))))
       (go_wp2_with (first|(refine zALo (ztNo) ?_;clear M;intro w' g M)|refine zLHo HA ?_|refine zRFo F1 ?_|refine zLAo ?_|((first|refine zSSo M 0 (noP y) (noP y) (AaK _) (AbX _) ?_|refine zSSo M 1 (cpP y.b.pf) (puP (j,y.b.pf)) (AaC _) (AaO _) ?_);clear M;intro w' M)))
       go_roundw;(case rel=>exact⟨k+1,by omega,by go_num,by rw[PT'.o],by rw[PT'.o];exact M.o.tail⟩);(case measure=>simp[intOf]<;>omega)
      .replace PT':=bx (PT'.o.trans (by simp[a1,c1]:_=((true,(j,f)):Bool × (Cp × Cp))))
       (go_wp2_with (first|(refine zALo (ztNo) ?_;clear M;intro w' g M)|refine zLHo HA ?_|refine zRFo F1 ?_|refine zLAo ?_|(refine zSSo M 0 (noP y) (noP y) (AaK _) (AbX _) ?_;clear M;intro w' M)))
       go_roundw;(case rel=>exact⟨k+1,by omega,by go_num,by rw[PT'.o],by rw[PT'.o];exact M.o.tail⟩);(case measure=>simp[intOf]<;>omega)
  .have hki:(v.nodes.n:Int)<=(k:Int):=by rw[LN.o];omega
   obtain rfl:k=s.nodes.length:=by omega
   rw[PE.o]at M
   (go_wp2_with (first|refine zLAo ?_|(refine zSSo M 1 (puP res) (puP res) (Ai9 _) (Aox _) ?_;clear M;intro w' M)))
   exact zR M.o.at1 ⟨rfl,M.o.ext⟩
end Go.Proofs.YtpaihpeoiliioaaGreat
