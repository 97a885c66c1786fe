/- Texts joined: what the walks of this claim stand on (part 51). -/
import Derived.Test.YtpaihpeoiliioaaGreatKK29
import Derived.Test.YtpaihpeoiliioaaGreatKK50
set_option linter.all false
set_option maxRecDepth 20000
set_option maxHeartbeats 40000000
namespace Go.Proofs.YtpaihpeoiliioaaGreat
open Go.RowKit Old
theorem HOk.refWeights{Γ:Gam}{s:Sto}{v:Sls}{k:Nat}(h:HOk Γ s v k)(w:World)(ok:Ok Γ w):Calls Tryz.prog 37 #[.agg (fl (stP s v)).toArray] w (WtvP Γ w s):=
 (ApE Γ s v (h.si.wok h.k) w ok h.g).mono fun _ _ ⟨A,c,Γ',h1,_,h3,h4,h5⟩=>⟨A,c,Γ',h1,h3,h4,h5⟩
theorem HOk.refLive{Γ:Gam}{s:Sto}{v:Sls}{k:Nat}(h:HOk Γ s v k)(w:World)(ok:Ok Γ w):Calls Tryz.prog 39 #[.agg (fl (stP s v)).toArray] w (BlsP Γ w s.lives):=
 AiJ Γ s v h.si.spe.lo (AcJ h.si.t.lk) (by have:=h.nb;omega) w ok h.g
theorem HOk.refHead{Γ:Gam}{s:Sto}{v:Sls}{k:Nat}(h:HOk Γ s v k)(w:World)(ok:Ok Γ w):Calls Tryz.prog 41 #[.agg (fl (stP s v)).toArray] w fun e w'=>e=.returned (.int .i64 s.head)/\Ext Γ w Γ w':=
 Ao3 Γ s v (h.si.wok h.k) w ok h.g
theorem An8(c:Cf)(bal:List U):kids (newS c bal).nodes 0 = []:=rfl
theorem Akk(c:Cf)(bal:List U)(W:List U)(L:List Bool):bestI (newS c bal).nodes W L 0 = -1:=by
 unfold bestI;rw[An8];rfl
end Go.Proofs.YtpaihpeoiliioaaGreat
