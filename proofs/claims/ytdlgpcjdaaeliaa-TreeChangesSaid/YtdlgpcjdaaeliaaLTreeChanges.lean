/- Lifted: the walk of TreeChanges gives the statement TreeChangesSaid: for every input the call returns true, and each argument reads behind it as it read. No condition. -/
import Derived.Test.YtdlgpcjdaaeliaaTreZh
import Derived.Test.YtdlgpcjdaaeliaaRows
import Derived.Test.YtdlgpcjdaaeliaaOpen
import Derived.Test.YtdlgpcjdaaeliaaOpenNode
import Derived.WalkKit
import Derived.ProofKit
import Derived.OpenShut
import Derived.ShutString
import Derived.ChangeOld
import Derived.Below
import Derived.SizedLaws
import Derived.Lib.SmallJoins
import Derived.Deep.Slices
import Derived.Deep.Strs
namespace Go.Proofs.Ytdlgpcjdaaeliaa.treeChanges
open Go.ChangeShapes Go.WideShapes Go.ChangeAt Go.RowKit Go.Joins
open Go.ChangeMaps (open_string shut_string)
set_option linter.unusedVariables false

theorem own : ownKnob Try.prog.godebug = none := by kernel_rfl
theorem laidOut : laidOutB Try.prog = true := by kernel_rfl
theorem Try.cells3 : Try.prog.cellsOf 3 = 1 := by kernel_rfl
theorem Try.cells22 : Try.prog.cellsOf 22 = 1 := by kernel_rfl
theorem Try.cells23 : Try.prog.cellsOf 23 = 1 := by kernel_rfl
theorem Try.cells25 : Try.prog.cellsOf 25 = 3 := by kernel_rfl
theorem Try.cells43 : Try.prog.cellsOf 43 = 3 := by kernel_rfl
theorem Try.bytes43 : Try.prog.bytesOf 43 = 24 := by kernel_rfl
abbrev E43 : (Int × Int × Bool) → List Value := fun x => [.int .i64 x.1, .int .i64 x.2.1, .bool x.2.2]
abbrev Ok43 : (Int × Int × Bool) → Prop := fun x => (Lit.int .i64 (x.1)).wf = true ∧ (Lit.int .i64 (x.2.1)).wf = true
theorem enc43 {H : Type} {enc : TypeId × Value → H} {W : World} : ∀ (n : Nat) (cs : List Value) (y : DataW H × List MemPlace), DataW.trod enc Try.prog W 0 (fun _ => true) true n 43 cs = some y → cs.length = 3 → ∃ x, cs = E43 x ∧ Ok43 x := by
  intro n cs y h hl
  obtain ⟨c0, c1, c2, rfl⟩ : ∃ c0 c1 c2, cs = [c0, c1, c2] := by
    match cs, hl with
    | [c0, c1, c2], _ => exact ⟨c0, c1, c2, rfl⟩
  obtain ⟨y0, y1, y2, m, _, _, t0, t1, t2⟩ := Go.Deep.trod_struct3 Try.underlying43 h
  have u0 : ∃ m y, DataW.trod enc Try.prog W 0 (fun _ => true) true m 3 [c0] = some y := ⟨m, y0, by simpa [show Try.prog.cellsOf 3 = 1 from by kernel_rfl] using t0⟩
  obtain ⟨_, _, s0⟩ := u0
  obtain ⟨b0, e0, _, wb0⟩ := DataW.trod_int Try.underlying3 s0
  obtain rfl := List.singleton_inj.1 e0
  have u1 : ∃ m y, DataW.trod enc Try.prog W 0 (fun _ => true) true m 3 [c1] = some y := ⟨m, y1, by simpa [show Try.prog.cellsOf 3 = 1 from by kernel_rfl] using t1⟩
  obtain ⟨_, _, s1⟩ := u1
  obtain ⟨b1, e1, _, wb1⟩ := DataW.trod_int Try.underlying3 s1
  obtain rfl := List.singleton_inj.1 e1
  have u2 : ∃ m y, DataW.trod enc Try.prog W 0 (fun _ => true) true m 4 [c2] = some y := ⟨m, y2, by simpa [show Try.prog.cellsOf 4 = 1 from by kernel_rfl] using t2⟩
  obtain ⟨_, _, s2⟩ := u2
  obtain ⟨b2, e2, _⟩ := DataW.trod_bool Try.underlying4 s2
  obtain rfl := List.singleton_inj.1 e2
  exact ⟨(b0, b1, b2), rfl, wb0, wb1⟩

set_option maxRecDepth 100000 in
theorem lifted (os : Os) (started : os.Started) (H : Type) (enc : TypeId × Value → H) :
    ReturnsInHanded {} Try.checked os 4 .any (Rows.treeChangesSpec.pre6 enc Try.prog Try.f4 Rows.treeChangesRow.domain false) (Rows.treeChangesSpec.post enc Try.prog Try.f4 false true false false) := by
  refine returnsInHanded_of_change_sized (C := Try.checked) own started (by kernel_rfl) Try.func4
    (ChangeSpec.witness6 (enc := enc) (C := Try.checked) false ⟨#[], #[.agg #[.slice none 0 0, .slice none 0 0, .slice none 0 0], .slice none 0 0], []⟩ 8 (by kernel_rfl) (by kernel_rfl) (by kernel_rfl) (by kernel_rfl)) ?_
  intro W base args ds gs before hval0 hW hcnd hsz0 _
  have hval : ∀ (j : Nat) t v, Try.f4.params[j]? = some t → args[j]? = some v → Value.okWide Try.prog W .any base t v := hval0
  have hsz : (DataW.weightsEach Try.prog (Try.f4.params.toList ++ Rows.treeChangesSpec.plain.varTypes Try.prog) (ds ++ gs)).all (· ≤ reachBytes) = true := hsz0
  have hW' := hW
  obtain ⟨p, q, hA0, hV, rfl, hfz, hnd⟩ := hW
  have hA : DataW.TrodAll enc Try.prog W 0 (fun _ => true) true Try.f4.params.toList args.toList ds p := hA0
  rw [Try.params4] at hA hval hsz
  obtain ⟨v0, vs0, d0, ds0, p0, q0, hargs, rfl, rfl, h0, r0⟩ := trodAll_cons hA
  obtain ⟨v1, vs1, d1, ds1, p1, q1, rfl, rfl, rfl, h1, r1⟩ := trodAll_cons r0
  obtain ⟨rfl, rfl, rfl⟩ := trodAll_nil r1
  obtain rfl : args = #[v0, v1] := by cases args; simp_all
  obtain ⟨rfl, rfl⟩ := trodVars_none hV
  have k0 := h0
  have lt0 : ∀ x ∈ p0, x.block < W.heap.size := by obtain ⟨m, hm⟩ := k0; exact DataW.trod_lt m _ _ _ hm
  have k1 := h1
  have lt1 : ∀ x ∈ p1, x.block < W.heap.size := by obtain ⟨m, hm⟩ := k1; exact DataW.trod_lt m _ _ _ hm
  obtain ⟨n0, t0, rfl, nd0⟩ := node_par Try.underlying25 Try.cells25 rfl rfl rfl rfl rfl rfl Try.underlying22 Try.cells22 Try.cells3 Try.underlying3 Try.underlying23 Try.cells23 (hval 0 25 v0 rfl rfl) h0
  obtain ⟨n1, sl1, ok1, rc1⟩ := sl_open (j := 1) (k := 3) E43 Ok43 Try.underlying41 Try.cells43 (by decide) enc43 hsz rfl rfl (hval 1 41 v1 rfl rfl) h1
  rw [Try.bytes43] at rc1; simp only [reachBytes] at rc1
  clear hA0 hval0 hsz0
  refine (changes_any nd0 _ _ sl1).mono fun e W' ⟨he, bel⟩ => ?_
  subst he
  exact ⟨_, rfl, _, _, _, [], _, [], hW', trodAll_mk1 (shut_bool Try.underlying4 _), (trodAll_cons_mk (Below.trod laidOut (by kernel_rfl) (of_decide_eq_true (by kernel_rfl)) k0 bel lt0) (trodAll_cons_mk (Below.trod laidOut (by kernel_rfl) (of_decide_eq_true (by kernel_rfl)) k1 bel lt1) trodAll_mk0)), rfl, bel.frame _, fun h => by cases h⟩

theorem over : Rows.treeChangesRow.holds Try.pinned (OpenSpec.ofChange Rows.treeChangesSpec) :=
  OpenClaim.holds_of_wide 4 Try.f4 rfl rfl rfl rfl rfl rfl rfl ⟨rfl, rfl, rfl, rfl, rfl⟩ rfl rfl rfl rfl rfl (by kernel_rfl) Try.func4 (by kernel_rfl)
    (of_decide_eq_true (by kernel_rfl)) (by unfold Func.isWrapper; first | (rw [if_pos (by decide +kernel)]; kernel_rfl) | (rw [if_neg (by decide +kernel)]; exact ⟨rfl, rfl⟩))
    (fun os started H enc _ => lifted os started H enc)
end Go.Proofs.Ytdlgpcjdaaeliaa.treeChanges
namespace Go.Proofs.Ytdlgpcjdaaeliaa
/-- For every input the call of TreeChanges returns true; each argument reads behind the call as it read before. -/
theorem tree_changes : Rows.TreeChangesSaid := treeChanges.over
#print axioms tree_changes
end Go.Proofs.Ytdlgpcjdaaeliaa
