/- Texts joined: what the walks of this claim stand on (part 29). -/
import Derived.Test.YtpaihpeoiliioaaLK25
set_option linter.all false
set_option maxRecDepth 20000
set_option maxHeartbeats 40000000
namespace Go.Proofs.Ytpaihpeoiliioaa
open Go.RowKit Old
def VerP(Γ:Gam)(w:World)(k:Nat)(e:Ending)(w':World):Prop:=∃(z':Zst) (x':Zls) (Γ':Gam) (er:Int),e=.returned (.tuple #[.agg (fl (zsP z' x')).toArray,.int .i64 er])/\ZsG Γ' x' z'/\(er=0\/er=21->ZI k z')/\Ext Γ w Γ' w'
theorem Ald{N M:List Nod}{i:Int}{v:Vd}{keep:List Int}(h:judgeN N i v keep=(0,M)):∃k:Nat,k<N.length/\i=(k:Int):=by
 unfold judgeN at h
 split at h
 .injection h with h;omega
 .rename_i hi
  have h':isI i N.length=true:=by simpa using hi
  unfold isI at h'
  simp only[Bool.and_eq_true,decide_eq_true_eq]at h'
  exact⟨i.toNat,by omega,by omega⟩
theorem AmL(j f:Int):Try.prog.builtSlice 3 2 [(0,.int .i64 j),(1,.int .i64 f)]=some (ints .i64 [j,f]).toArray:=by kernel_rfl
end Go.Proofs.Ytpaihpeoiliioaa
