/- Part Mbq. No condition of its own. -/
import Derived.Test.YtmajkjjjfodhlaaGreatDoorRows
import Derived.SevenTiedAt
import Derived.Test.YtmajkjjjfodhlaaGreatDoorMaa
namespace Go.Proofs.YtmajkjjjfodhlaaGreatDoor
open Go.RowKit Go.Proofs.Tryz
set_option linter.all false
set_option maxRecDepth 100000
set_option maxHeartbeats 8000000
theorem X1:true=prog.looks []:=by kernel_rfl
theorem X2:([9].all λu=> !prog.wantsStandIn u)=true:=by kernel_rfl
end Go.Proofs.YtmajkjjjfodhlaaGreatDoor
