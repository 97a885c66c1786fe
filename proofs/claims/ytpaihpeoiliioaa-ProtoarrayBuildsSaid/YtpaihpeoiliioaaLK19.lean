/- Texts joined: what the walks of this claim stand on (part 19). -/
import Derived.Test.YtpaihpeoiliioaaLK12
set_option linter.all false
set_option maxRecDepth 20000
set_option maxHeartbeats 40000000
namespace Go.Proofs.Ytpaihpeoiliioaa
open Go.RowKit Old
theorem AhT(Γ:Gam)(x:Sl)(N:List Nod)(r:Rt)(w:World)(ok:Ok Γ w)(h:NG Γ x N)(hb:N.length<=4096) :
  Calls Try.prog 45 #[.agg [x.v].toArray,.agg (rc r).toArray] w fun e w'=>e=.returned (.int .i64 (fndI N r))/\Ext Γ w Γ w':=by
 refine(AeW x.A x.n x.c (N.map toNd) r.l r.len w (h.nrow ok) (by rw[h.n];exact hb)).mono ?_
 rintro e w' ⟨⟨k,rfl,hk⟩,hb⟩
 rw[Ah5 hk (Ah6 N r)]
 exact⟨rfl,Ext.below ok hb⟩
end Go.Proofs.Ytpaihpeoiliioaa
