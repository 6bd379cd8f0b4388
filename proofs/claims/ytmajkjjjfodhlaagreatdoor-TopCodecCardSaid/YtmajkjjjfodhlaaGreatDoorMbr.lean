/- Part Mbr. No condition of its own. -/
import Derived.Test.YtmajkjjjfodhlaaGreatDoorRows
import Derived.SevenTiedAt
import Derived.Test.YtmajkjjjfodhlaaGreatDoorMaa
namespace Go.Proofs.YtmajkjjjfodhlaaGreatDoor
open Go.RowKit Go.Proofs.Tryz
set_option linter.all false
set_option maxRecDepth 100000
set_option maxHeartbeats 8000000
theorem X4{P:Program}(H:P.funcs.any Func.goes=false)(c:OpenClaim):false=c.goesBy P:=by
 have h:∀f,P.goes f=false:=by
  intro f;unfold Program.goes;rw[H,Bool.and_false,Bool.or_false];apply List.any_eq_false.2;intro g _ a;cases b:P.funcs[g]? with
  |none=>rw[b] at a;exact absurd a (by simp)
  |some i=>
   rw[b] at a;obtain⟨hl,e⟩:=HO.1 b;have d:P.funcs.any Func.goes=true:=Array.any_eq_true.2 ⟨g,hl,by rw[e];exact a⟩;rw[H] at d;cases d
 have h2:P.goes=λ_=>false:=funext h;unfold OpenClaim.goesBy Program.goesAt Program.goesFrom;rw[h2];cases c.start<;>cases P.funcNamed c.func<;>simp
theorem X5:prog.funcs.any Func.goes=false:=by kernel_rfl
theorem X3:false=Rows.topCodecRow.goesBy prog:=X4 X5 _
end Go.Proofs.YtmajkjjjfodhlaaGreatDoor
