/- Texts joined: what the walks of this claim stand on (part 31). -/
import Derived.Test.YtpaihpeoiliioaaLK25
set_option linter.all false
set_option maxRecDepth 20000
set_option maxHeartbeats 40000000
namespace Go.Proofs.Ytpaihpeoiliioaa
open Go.RowKit Old
def SmE(w:World)(e:Ending)(w':World):Prop:=∃er:Int,e=.returned (.int .i64 er)/\Below w.heap.size w w'
theorem slr0(Γ:Gam)(l:List Value):SlG Γ none 0 l:=fun h=>absurd h (Nat.lt_irrefl _)
theorem opR0(Γ:Gam)(k:Int):OpR Γ (op0 k) os0:=⟨⟨none,0,rfl,slr0 _ _,Nat.zero_le _⟩,⟨none,0,rfl,slr0 _ _,Nat.zero_le _⟩,⟨none,0,rfl,slr0 _ _,Nat.zero_le _⟩,⟨none,0,rfl,slr0 _ _,Nat.zero_le _⟩⟩
end Go.Proofs.Ytpaihpeoiliioaa
