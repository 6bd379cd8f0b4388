/- Lifted: the walk of TreeWalks gives the statement TreeWalksSaid: for every input the call returns true, and each argument reads behind it as it read. No condition. -/
import Derived.Test.YtdlgpcjdaaeliaaTreZg
import Derived.Test.YtdlgpcjdaaeliaaRows
import Derived.Test.YtdlgpcjdaaeliaaOpen
import Derived.Test.YtdlgpcjdaaeliaaOpenNode
import Derived.WalkKit
import Derived.ProofKit
import Derived.OpenShut
import Derived.ShutString
import Derived.ChangeOld
import Derived.Below
import Derived.SizedLaws
import Derived.Lib.SmallJoins
import Derived.Deep.Slices
import Derived.Deep.Strs
namespace Go.Proofs.Ytdlgpcjdaaeliaa.treeWalks
open Go.ChangeShapes Go.WideShapes Go.ChangeAt Go.RowKit Go.Joins
open Go.ChangeMaps (open_string shut_string)
set_option linter.unusedVariables false

theorem own : ownKnob Try.prog.godebug = none := by kernel_rfl
theorem laidOut : laidOutB Try.prog = true := by kernel_rfl
theorem Try.cells3 : Try.prog.cellsOf 3 = 1 := by kernel_rfl
theorem Try.cells22 : Try.prog.cellsOf 22 = 1 := by kernel_rfl
theorem Try.cells23 : Try.prog.cellsOf 23 = 1 := by kernel_rfl
theorem Try.cells25 : Try.prog.cellsOf 25 = 3 := by kernel_rfl
theorem Try.cells27 : Try.prog.cellsOf 27 = 3 := by kernel_rfl

set_option maxRecDepth 100000 in
theorem lifted (os : Os) (started : os.Started) (H : Type) (enc : TypeId × Value → H) :
    ReturnsInHanded {} Try.checked os 6 .any (Rows.treeWalksSpec.pre6 enc Try.prog Try.f6 Rows.treeWalksRow.domain false) (Rows.treeWalksSpec.post enc Try.prog Try.f6 false true false false) := by
  refine returnsInHanded_of_change_sized (C := Try.checked) own started (by kernel_rfl) Try.func6
    (ChangeSpec.witness6 (enc := enc) (C := Try.checked) false ⟨#[], #[.agg #[.slice none 0 0, .slice none 0 0, .slice none 0 0], .agg #[.int .i64 0, .int .i64 0, .int .i64 0]], []⟩ 8 (by kernel_rfl) (by kernel_rfl) (by kernel_rfl) (by kernel_rfl)) ?_
  intro W base args ds gs before hval0 hW hcnd hsz0 _
  have hval : ∀ (j : Nat) t v, Try.f6.params[j]? = some t → args[j]? = some v → Value.okWide Try.prog W .any base t v := hval0
  have hsz : (DataW.weightsEach Try.prog (Try.f6.params.toList ++ Rows.treeWalksSpec.plain.varTypes Try.prog) (ds ++ gs)).all (· ≤ reachBytes) = true := hsz0
  have hW' := hW
  obtain ⟨p, q, hA0, hV, rfl, hfz, hnd⟩ := hW
  have hA : DataW.TrodAll enc Try.prog W 0 (fun _ => true) true Try.f6.params.toList args.toList ds p := hA0
  rw [Try.params6] at hA hval hsz
  obtain ⟨v0, vs0, d0, ds0, p0, q0, hargs, rfl, rfl, h0, r0⟩ := trodAll_cons hA
  obtain ⟨v1, vs1, d1, ds1, p1, q1, rfl, rfl, rfl, h1, r1⟩ := trodAll_cons r0
  obtain ⟨rfl, rfl, rfl⟩ := trodAll_nil r1
  obtain rfl : args = #[v0, v1] := by cases args; simp_all
  obtain ⟨rfl, rfl⟩ := trodVars_none hV
  have k0 := h0
  have lt0 : ∀ x ∈ p0, x.block < W.heap.size := by obtain ⟨m, hm⟩ := k0; exact DataW.trod_lt m _ _ _ hm
  have k1 := h1
  have lt1 : ∀ x ∈ p1, x.block < W.heap.size := by obtain ⟨m, hm⟩ := k1; exact DataW.trod_lt m _ _ _ hm
  obtain ⟨n0, t0, rfl, nd0⟩ := node_par Try.underlying25 Try.cells25 rfl rfl rfl rfl rfl rfl Try.underlying22 Try.cells22 Try.cells3 Try.underlying3 Try.underlying23 Try.cells23 (hval 0 25 v0 rfl rfl) h0
  obtain ⟨c1_0, c1_1, c1_2, y1_0, y1_1, y1_2, m1, rfl, _, _, hy1_0, hy1_1, hy1_2⟩ := open_agg3 Try.underlying27 (by kernel_rfl) Try.cells27 (hval 1 27 v1 rfl rfl) h1
  obtain ⟨n1_0, e1_0, _, w1_0⟩ := DataW.trod_int Try.underlying3 hy1_0
  have bd1_0 := bd_i64 w1_0
  obtain rfl := List.singleton_inj.1 e1_0
  obtain ⟨n1_1, e1_1, _, w1_1⟩ := DataW.trod_int Try.underlying3 hy1_1
  have bd1_1 := bd_i64 w1_1
  obtain rfl := List.singleton_inj.1 e1_1
  obtain ⟨n1_2, e1_2, _, w1_2⟩ := DataW.trod_int Try.underlying3 hy1_2
  have bd1_2 := bd_i64 w1_2
  obtain rfl := List.singleton_inj.1 e1_2
  clear hA0 hval0 hsz0
  refine (walks_any nd0 n1_0 n1_1 n1_2).mono fun e W' ⟨he, bel⟩ => ?_
  subst he
  exact ⟨_, rfl, _, _, _, [], _, [], hW', trodAll_mk1 (shut_bool Try.underlying4 _), (trodAll_cons_mk (Below.trod laidOut (by kernel_rfl) (of_decide_eq_true (by kernel_rfl)) k0 bel lt0) (trodAll_cons_mk (Below.trod laidOut (by kernel_rfl) (of_decide_eq_true (by kernel_rfl)) k1 bel lt1) trodAll_mk0)), rfl, bel.frame _, fun h => by cases h⟩

theorem over : Rows.treeWalksRow.holds Try.pinned (OpenSpec.ofChange Rows.treeWalksSpec) :=
  OpenClaim.holds_of_wide 6 Try.f6 rfl rfl rfl rfl rfl rfl rfl ⟨rfl, rfl, rfl, rfl, rfl⟩ rfl rfl rfl rfl rfl (by kernel_rfl) Try.func6 (by kernel_rfl)
    (of_decide_eq_true (by kernel_rfl)) (by unfold Func.isWrapper; first | (rw [if_pos (by decide +kernel)]; kernel_rfl) | (rw [if_neg (by decide +kernel)]; exact ⟨rfl, rfl⟩))
    (fun os started H enc _ => lifted os started H enc)
end Go.Proofs.Ytdlgpcjdaaeliaa.treeWalks
namespace Go.Proofs.Ytdlgpcjdaaeliaa
/-- For every input the call of TreeWalks returns true; each argument reads behind the call as it read before. -/
theorem tree_walks : Rows.TreeWalksSaid := treeWalks.over
#print axioms tree_walks
end Go.Proofs.Ytdlgpcjdaaeliaa
