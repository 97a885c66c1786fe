/- Texts joined: what the walks of this claim stand on (part 28). -/
import Derived.Test.YtpaihpeoiliioaaGreatKK14
set_option linter.all false
set_option maxRecDepth 20000
set_option maxHeartbeats 40000000
namespace Go.Proofs.YtpaihpeoiliioaaGreat
open Go.RowKit Old
theorem AfP(Γ:Gam)(x:Sl)(N:List Nod)(r:Rt)(w:World)(ok:Ok Γ w)(h:NG Γ x N)(hb:N.length<=4096) :
  Calls Tryz.prog 43 #[.agg [x.v].toArray,.agg (rc r).toArray] w fun e w'=>e=.returned (.int .i64 (fndI N r))/\Ext Γ w Γ w':=by
 refine(Agq x.A x.n x.c (N.map toNd) r.l r.len w (h.nrow ok) (by rw[h.n];exact hb)).mono ?_
 rintro e w' ⟨⟨k,rfl,hk⟩,hb⟩
 rw[Amb hk (Amc N r)]
 exact⟨rfl,Ext.below ok hb⟩
end Go.Proofs.YtpaihpeoiliioaaGreat
