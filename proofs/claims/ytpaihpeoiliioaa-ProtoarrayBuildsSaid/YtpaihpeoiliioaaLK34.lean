/- Texts joined: what the walks of this claim stand on (part 34). -/
import Derived.Test.YtpaihpeoiliioaaLK33
set_option linter.all false
set_option maxRecDepth 20000
set_option maxHeartbeats 40000000
namespace Go.Proofs.Ytpaihpeoiliioaa
open Go.RowKit Old
theorem AkW(c:Cf)(bal:List U)(h:CfB c bal):fndI (newS c bal).nodes (newS c bal).just.r=0:=by
 obtain⟨j,hj,ej,_⟩:=AkS (Ahl h)
 have hj':j<1:=hj
 obtain rfl:j=0:=by omega
 exact ej
theorem Akm(c:Cf)(bal:List U)(W:List U)(L:List Bool):bstL (newS c bal).nodes W L = [-1]:=by
 have e:bstL (newS c bal).nodes W L = [bestI (newS c bal).nodes W L 0]:=rfl
 rw[e,Agt]
theorem Akd(c:Cf)(bal:List U)(W:List U)(L:List Bool):dscL (newS c bal).nodes W L = [-1]:=by
 have e:dscL (newS c bal).nodes W L = [dsc (newS c bal).nodes W L 0]:=rfl
 rw[e]
 unfold dsc
 rw[Agt,if_pos (by decide)]
theorem Akq(w:World):Calls Try.prog 9 #[] w fun e w'=>e=.returned (.bool true)/\Below w.heap.size w w':=by
 have M:=bx (MM.start (AkK w))
 go_enter Try.func9,Try.ntmps9
 (go_wp2_with (first|go_skip|((first|refine zBXd ?_|refine zALd (ztSt) ?_);clear M;intro w' g M)|fail|refine zLAd ?_))
 refine(Af3 g0 none 0 0 [] _ M.ok (Row.nil ..) (Nat.zero_le _)).mono ?_
 rintro e1 w1 ⟨cf,sb,bal,Γ1,rfl,hcb,hsb,hx⟩
 replace M:=bx (M.o.call hx)
 have HCB:=bx hcb
 have HSB:=bx hsb
 clear hx hcb hsb
 (go_wp2_with (first|go_skip|((first|refine zBXd ?_|refine zALd (ztSt) ?_);clear M;intro w' g M)|fail|refine zLAd ?_))
 refine(new_any Γ1 cf sb bal HCB.o.ok _ M.ok HSB.o).mono ?_
 rintro e1 w1 ⟨v,Γ2,rfl,hg,hx⟩
 replace M:=bx (M.o.call hx)
 have H:Bx (HOk Γ2 (newS cf bal) v 0):=⟨⟨Ahl HCB.o,by decide,hg⟩⟩
 have HF:=bx (AkW cf bal HCB.o)
 have HB:=bx (Akm cf bal (newS cf bal).wts (newS cf bal).lives)
 have HD:=bx (Akd cf bal (newS cf bal).wts (newS cf bal).lives)
 have HL:Bx ((newS cf bal).nodes.length=1):=⟨rfl⟩
 have HW:=bx (AhQ (newS cf bal))
 clear hx hg HSB HCB
 generalize newS cf bal=s at *
 (go_wp2_with (first|go_skip|((first|refine zBXd ?_|refine zALd (ztSt) ?_);clear M;intro w' g M)|(refine zSSd M 0 (stP s v) (stP s v) (AaL _ _) (Acc _ _) ?_;clear M;intro w' M)|refine zLAd ?_))
 refine(Aih Γ2 s v 0 H.o _ M.ok).mono ?_
 rintro e1 w1 ⟨g,B,D,cb,cd,y,di,A2,c2,Γ3,rfl,hg,ha,hx⟩
 replace M:=bx (M.o.call hx)
 rw[HF.o,HL.o]at hg
 have F:=bx (AnJ hg)
 have SB:Bx (SlG Γ3 B ([-1]:List Int).length (ints .i64 [-1])):=⟨by have:=ha.b;rwa [HB.o,HL.o]at this⟩
 have SD:Bx (SlG Γ3 D ([-1]:List Int).length (ints .i64 [-1])):=⟨by have:=ha.d;rwa [HD.o,HL.o]at this⟩
 have hWL:s.wts.length=1:=by rw[HW.o,HL.o]
 have SW:Bx (SlG Γ3 A2 s.wts.length (us s.wts)):=⟨by have:=ha.w;rwa [<-HW.o]at this⟩
 have BO:=bx (fun w ok=>Ad7 Γ3 g 0 B D cb cd y.v di (.slice A2 1 c2) 0 [-1] [-1] rfl 0 w ok F.o SB.o SD.o)
 have HE:=bx (fun w ok=>Aif Γ3 g 0 B D cb cd y.v di (.slice A2 1 c2) 0 [-1] [-1] rfl w ok F.o SB.o SD.o)
 have WE:=bx (fun w ok=>Af8 Γ3 g 0 (.slice B 1 cb) (.slice D 1 cd) y.v di A2 c2 0 s.wts 5 w ok (by rw[hWL];exact F.o) SW.o)
 have z1:nthI ([-1]:List Int) (-1) 0 = -1:=rfl
 have z3:(if 0<=(5:Int)/\(5:Int)<(s.wts.length:Int)then((s.wts.getD (5:Int).toNat u0).n:Int)else 0)=0:=by rw[hWL];rfl
 rw[z3]at WE
 rw[z1]at BO HE
 rw[show(if 0<=(-1:Int)then(-1:Int)else 0)=0 from rfl]at HE
 clear hg ha hx H HF HB HD HL HW SB SD SW hWL z1 z3
 (go_wp2_with (first|go_skip|((first|refine zBXd ?_|refine zALd (ztSt) ?_);clear M;intro w' g M)|fail|refine zLAd ?_))
 refine(BO.o _ M.ok).mono ?_
 rintro e1 w1 ⟨rfl,hx⟩
 replace M:=bx (M.o.call hx)
 clear hx BO
 (go_wp2_with (first|go_skip|((first|refine zBXd ?_|refine zALd (ztSt) ?_);clear M;intro w' g M)|fail|refine zLAd ?_))
 refine(HE.o _ M.ok).mono ?_
 rintro e1 w1 ⟨rfl,hx⟩
 replace M:=bx (M.o.call hx)
 clear hx HE
 (go_wp2_with (first|go_skip|((first|refine zBXd ?_|refine zALd (ztSt) ?_);clear M;intro w' g M)|refine zRFd F ?_|refine zLAd ?_))
 refine(WE.o _ M.ok).mono ?_
 rintro e1 w1 ⟨rfl,hx⟩
 replace M:=bx (M.o.call hx)
 clear hx WE
 (go_wp2_with (first|go_skip|((first|refine zBXd ?_|refine zALd (ztSt) ?_);clear M;intro w' g M)|fail|refine zLAd ?_))
 go_ret
 exact⟨rfl,M.bel⟩
end Go.Proofs.Ytpaihpeoiliioaa
