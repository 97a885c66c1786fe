/- Texts joined: what the walks of this claim stand on (part 60). -/
import Derived.Test.YtmgeheaneohldaaGreatJK57
import Derived.Test.YtmgeheaneohldaaGreatJK59
set_option linter.all false
set_option maxRecDepth 20000
set_option maxHeartbeats 40000000
namespace Go.Proofs.YtmgeheaneohldaaGreat
open Go.RowKit Old
theorem protoarrayNew_walk(a0:Option Addr)(n0 c0:Nat)(l0:List Int)(w:World)(_:Fit .i64 l0)(_:l0.length=n0)(hr0:Row w w.heap.size 1 a0 n0 (ints .i64 l0))(hnc0:n0<=c0)(hcm0:c0<=maxLen) :
  Calls Tryz.prog 11 #[.slice a0 n0 c0] w fun e w'=>e=.returned (.bool true)/\Below w.heap.size w w':=by
 have M:=bx (MM.start (Acy w))
 have ST:=bx (Ab9 g0 a0 n0 c0 l0 w (Acy w) hr0 (Nat.le_trans hnc0 hcm0))
 clear hr0 hnc0 hcm0
 go_enter Tryz.func11,Tryz.ntmps11
 (go_wp2_with (first|go_skip|(refine zBXd ?_;clear M;intro w' g M)|(refine zALd (ztSt) ?_;clear M;intro w' g M)|fail|refine zLAd ?_))
 refine ST.o.mono ?_
 rintro e1 w1 ⟨x,z,Γ1,rfl,hz,hg,hx⟩
 replace M:=bx (M.o.call hx)
 have H:=bx (HOk.mk hz.s (by decide) hg.s)
 clear hx hz hg ST
 go_upto_region 2 with(first|go_skip|((with_reducible apply Ab7 Aj7);rfl;rfl;rfl;exact AaJ _ _;exact zrts;rfl;refine zCT ?_)|((refine zALd (ztSt) ?_;clear M;intro w' g M);(obtain⟨g5,hg0⟩:∃y,y=g:=⟨_,rfl⟩);subst hg0)|(refine zSSd M 0 (stP z.s x.s) (stP z.s x.s) (AaD _ _) (AaX _ _) ?_;clear M;intro w' M)|refine zLAd ?_)
 generalize z.s=s at *
 generalize x.s=v at *
 (go_wp2_with (first|go_skip|(refine zBXd ?_;clear M;intro w' g M)|(refine zALd (ztSt) ?_;clear M;intro w' g M)|fail|refine zLAd ?_))
 refine(AhU Γ1 s v _ H.o _ M.ok).mono ?_
 rintro e1 w1 ⟨g,B,D,cb,cd,y,di,A2,c2,Γ2,rfl,hg,ha,hx⟩
 replace M:=bx (M.o.call hx)
 have H2:=bx (H.o.mono hx.le)
 have AG:=bx (fun w ok=>Al2 Γ2 s v _ H2.o g 0 B D cb cd y di A2 c2 w ok (Aqb hg) ha)
 clear hg ha hx H H2
 (go_wp2_with (first|go_skip|(refine zBXd ?_;clear M;intro w' g M)|(refine zALd (ztSt) ?_;clear M;intro w' g M)|fail|refine zLAd ?_))
 refine(AG.o _ M.ok).mono ?_
 rintro e1 w1 ⟨rfl,hx⟩
 replace M:=bx (M.o.below hx)
 clear hx AG
 (go_wp2_with (first|go_skip|(refine zBXd ?_;clear M;intro w' g M)|(refine zALd (ztSt) ?_;clear M;intro w' g M)|fail|refine zLAd ?_))
 refine(AeV _).mono ?_
 rintro e1 w1 ⟨rfl,hx⟩
 replace M:=bx (M.o.below hx)
 clear hx
 (go_wp2_with (first|go_skip|(refine zBXd ?_;clear M;intro w' g M)|(refine zALd (ztSt) ?_;clear M;intro w' g M)|fail|refine zLAd ?_))
 go_ret
 exact⟨rfl,M.bel⟩
end Go.Proofs.YtmgeheaneohldaaGreat
