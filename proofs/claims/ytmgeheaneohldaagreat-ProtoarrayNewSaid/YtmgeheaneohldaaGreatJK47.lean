/- Texts joined: what the walks of this claim stand on (part 47). -/
import Derived.Test.YtmgeheaneohldaaGreatJK30
import Derived.Test.YtmgeheaneohldaaGreatJK46
set_option linter.all false
set_option maxRecDepth 20000
set_option maxHeartbeats 40000000
namespace Go.Proofs.YtmgeheaneohldaaGreat
open Go.RowKit Old
theorem HOk.refWeights{Γ:Gam}{s:Sto}{v:Sls}{k:Nat}(h:HOk Γ s v k)(w:World)(ok:Ok Γ w):Calls Tryz.prog 24 #[.agg (fl (stP s v)).toArray] w (WtvP Γ w s):=
 (Apj Γ s v (h.si.wok h.k) w ok h.g).mono fun _ _ ⟨A,c,Γ',h1,_,h3,h4,h5⟩=>⟨A,c,Γ',h1,h3,h4,h5⟩
theorem HOk.refLive{Γ:Gam}{s:Sto}{v:Sls}{k:Nat}(h:HOk Γ s v k)(w:World)(ok:Ok Γ w):Calls Tryz.prog 15 #[.agg (fl (stP s v)).toArray] w (BlsP Γ w s.lives):=
 Ai0 Γ s v h.si.spe.lo (AbH h.si.t.lk) (by have:=h.nb;omega) w ok h.g
theorem HOk.refHead{Γ:Gam}{s:Sto}{v:Sls}{k:Nat}(h:HOk Γ s v k)(w:World)(ok:Ok Γ w):Calls Tryz.prog 27 #[.agg (fl (stP s v)).toArray] w fun e w'=>e=.returned (.int .i64 s.head)/\Ext Γ w Γ w':=
 ApY Γ s v (h.si.wok h.k) w ok h.g
theorem Aoe(c:Cf)(bal:List U):kids (newS c bal).nodes 0 = []:=rfl
theorem Afr(c:Cf)(bal:List U)(W:List U)(L:List Bool):bestI (newS c bal).nodes W L 0 = -1:=by
 unfold bestI;rw[Aoe];rfl
end Go.Proofs.YtmgeheaneohldaaGreat
