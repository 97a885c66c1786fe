/- Texts joined: what the walks of this claim stand on (part 24). -/
import Derived.Test.YtmgeheaneohldaaGreatJK5
set_option linter.all false
set_option maxRecDepth 20000
set_option maxHeartbeats 40000000
namespace Go.Proofs.YtmgeheaneohldaaGreat
open Go.RowKit
def addV(a b:Int):Int:=if a+b<18446744073709551616 then a+b else 0
def addE(a b:Int):Int:=if a+b<18446744073709551616 then 0 else 4
theorem ref_add(a b:Int)(ha:0<=a)(ha':a<18446744073709551616)(hb:0<=b)(hb':b<18446744073709551616)(w:World) :
  Calls Tryz.prog 63 #[.int .u64 a,.int .u64 b] w fun e w'=>e=.returned (.tuple #[.int .u64 (addV a b),.int .i64 (addE a b)])/\w=w':=by
 go_enter Tryz.func63,Tryz.ntmps63
 go_wp2
 .have h:18446744073709551615-b<a:=by assumption
  go_ret2
  unfold addV addE
  rw[if_neg (by omega),if_neg (by omega)]
  exact⟨rfl,rfl⟩
 .have h:a<=18446744073709551615-b:=by assumption
  go_ret2
  unfold addV addE
  rw[if_pos (by omega),if_pos (by omega)]
  exact⟨rfl,rfl⟩
end Go.Proofs.YtmgeheaneohldaaGreat
