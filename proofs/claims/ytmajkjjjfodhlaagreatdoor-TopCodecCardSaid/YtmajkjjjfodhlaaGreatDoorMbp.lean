/- Part Mbp. No condition of its own. -/
import Derived.Test.YtmajkjjjfodhlaaGreatDoorMbo
namespace Go.Proofs.YtmajkjjjfodhlaaGreatDoor
open Go.RowKit Go.Proofs.Tryz
set_option linter.all false
set_option maxRecDepth 100000
set_option maxHeartbeats 8000000
theorem YD:prog.funcNamed Rows.topCodecRow.func=some 3:=by kernel_rfl
theorem pA:(Tryz.f3).isInstance prog Rows.topCodecRow.origin Rows.topCodecRow.targs:=M1 (by kernel_rfl)
theorem pB:(Tryz.f3).isWrapper prog Rows.topCodecRow.wrapper Rows.topCodecRow.mainSum:=by
 unfold Func.isWrapper;first|(rw[A4 (by decide+kernel)];kernel_rfl)|(rw[A3 (by decide+kernel)];exact⟨rfl,rfl⟩)
theorem pC:Rows.TopCodecSaid:=
 OpenClaim.holds_of_wide 3 Tryz.f3 rfl rfl rfl rfl rfl rfl rfl ⟨rfl,rfl,rfl,rfl,rfl⟩ rfl rfl rfl rfl rfl YD func3 pz
  pA pB
  (λos a H enc _=>py os a H enc)
end Go.Proofs.YtmajkjjjfodhlaaGreatDoor
