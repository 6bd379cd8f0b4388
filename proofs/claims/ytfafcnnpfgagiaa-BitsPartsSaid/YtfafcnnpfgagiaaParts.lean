/- Lifted: the walk of BitsParts gives the statement BitsPartsSaid: for every input the call returns true, and each argument reads behind it as it read. No condition. -/
import Derived.Test.YtfafcnnpfgagiaaBitsH
import Derived.Test.YtfafcnnpfgagiaaRows
import Derived.Test.YtfafcnnpfgagiaaOpen
import Derived.WalkKit
import Derived.ProofKit
import Derived.OpenShut
import Derived.ShutString
import Derived.ChangeOld
import Derived.Below
import Derived.SizedLaws
import Derived.Lib.SmallJoins
import Derived.Deep.Slices
import Derived.Deep.Strs
namespace Go.Proofs.Ytfafcnnpfgagiaa.bitsParts
open Go.ChangeShapes Go.WideShapes Go.ChangeAt Go.RowKit Go.Joins
open Go.ChangeMaps (open_string shut_string)
set_option linter.unusedVariables false

theorem own : ownKnob Try.prog.godebug = none := by kernel_rfl
theorem laidOut : laidOutB Try.prog = true := by kernel_rfl
theorem Try.cells34 : Try.prog.cellsOf 34 = 3 := by kernel_rfl

set_option maxRecDepth 100000 in
theorem lifted (os : Os) (started : os.Started) (H : Type) (enc : TypeId × Value → H) :
    ReturnsInHanded {} Try.checked os 8 .any (Rows.bitsPartsSpec.pre6 enc Try.prog Try.f8 Rows.bitsPartsRow.domain false) (Rows.bitsPartsSpec.post enc Try.prog Try.f8 false true false false) := by
  refine returnsInHanded_of_change_sized (C := Try.checked) own started (by kernel_rfl) Try.func8
    (ChangeSpec.witness6 (enc := enc) (C := Try.checked) false ⟨#[], #[.agg #[.int .i64 0, .int .i64 0, .int .i64 0], .string ByteArray.empty], []⟩ 8 (by kernel_rfl) (by kernel_rfl) (by kernel_rfl) (by kernel_rfl)) ?_
  intro W base args ds gs before hval0 hW hcnd hsz0 _
  have hval : ∀ (j : Nat) t v, Try.f8.params[j]? = some t → args[j]? = some v → Value.okWide Try.prog W .any base t v := hval0
  have hsz : (DataW.weightsEach Try.prog (Try.f8.params.toList ++ Rows.bitsPartsSpec.plain.varTypes Try.prog) (ds ++ gs)).all (· ≤ reachBytes) = true := hsz0
  have hW' := hW
  obtain ⟨p, q, hA0, hV, rfl, hfz, hnd⟩ := hW
  have hA : DataW.TrodAll enc Try.prog W 0 (fun _ => true) true Try.f8.params.toList args.toList ds p := hA0
  rw [Try.params8] at hA hval hsz
  obtain ⟨v0, vs0, d0, ds0, p0, q0, hargs, rfl, rfl, h0, r0⟩ := trodAll_cons hA
  obtain ⟨v1, vs1, d1, ds1, p1, q1, rfl, rfl, rfl, h1, r1⟩ := trodAll_cons r0
  obtain ⟨rfl, rfl, rfl⟩ := trodAll_nil r1
  obtain rfl : args = #[v0, v1] := by cases args; simp_all
  obtain ⟨rfl, rfl⟩ := trodVars_none hV
  have k0 := h0
  have lt0 : ∀ x ∈ p0, x.block < W.heap.size := by obtain ⟨m, hm⟩ := k0; exact DataW.trod_lt m _ _ _ hm
  have k1 := h1
  have lt1 : ∀ x ∈ p1, x.block < W.heap.size := by obtain ⟨m, hm⟩ := k1; exact DataW.trod_lt m _ _ _ hm
  obtain ⟨c0_0, c0_1, c0_2, y0_0, y0_1, y0_2, m0, rfl, _, _, hy0_0, hy0_1, hy0_2⟩ := open_agg3 Try.underlying34 (by kernel_rfl) Try.cells34 (hval 0 34 v0 rfl rfl) h0
  obtain ⟨n0_0, e0_0, _, w0_0⟩ := DataW.trod_int Try.underlying3 hy0_0
  have bd0_0 := bd_i64 w0_0
  obtain rfl := List.singleton_inj.1 e0_0
  obtain ⟨n0_1, e0_1, _, w0_1⟩ := DataW.trod_int Try.underlying3 hy0_1
  have bd0_1 := bd_i64 w0_1
  obtain rfl := List.singleton_inj.1 e0_1
  obtain ⟨n0_2, e0_2, _, w0_2⟩ := DataW.trod_int Try.underlying3 hy0_2
  have bd0_2 := bd_i64 w0_2
  obtain rfl := List.singleton_inj.1 e0_2
  obtain ⟨n1, e1, rfl, rfl, bd1⟩ := open_string Try.underlying9 (hval 1 9 v1 rfl rfl) h1
  subst e1
  clear hA0 hval0 hsz0
  refine (parts_walk n0_0 n0_1 n0_2 n1 W (by have := sized_string hsz (j := 1) rfl rfl; simp only [reachBytes] at this; simp at this; omega) bd0_0.2).mono fun e W' ⟨he, bel⟩ => ?_
  subst he
  exact ⟨_, rfl, _, _, _, [], _, [], hW', trodAll_mk1 (shut_bool Try.underlying4 _), (trodAll_cons_mk (Below.trod laidOut (by kernel_rfl) (of_decide_eq_true (by kernel_rfl)) k0 bel lt0) (trodAll_cons_mk (Below.trod laidOut (by kernel_rfl) (of_decide_eq_true (by kernel_rfl)) k1 bel lt1) trodAll_mk0)), rfl, bel.frame _, fun h => by cases h⟩

theorem over : Rows.bitsPartsRow.holds Try.pinned (OpenSpec.ofChange Rows.bitsPartsSpec) :=
  OpenClaim.holds_of_wide 8 Try.f8 rfl rfl rfl rfl rfl rfl rfl ⟨rfl, rfl, rfl, rfl, rfl⟩ rfl rfl rfl rfl rfl (by kernel_rfl) Try.func8 (by kernel_rfl)
    (of_decide_eq_true (by kernel_rfl)) (by unfold Func.isWrapper; first | (rw [if_pos (by decide +kernel)]; kernel_rfl) | (rw [if_neg (by decide +kernel)]; exact ⟨rfl, rfl⟩))
    (fun os started H enc _ => lifted os started H enc)
end Go.Proofs.Ytfafcnnpfgagiaa.bitsParts
namespace Go.Proofs.Ytfafcnnpfgagiaa
/-- For every input the call of BitsParts returns true; each argument reads behind the call as it read before. -/
theorem bits_parts : Rows.BitsPartsSaid := bitsParts.over
#print axioms bits_parts
end Go.Proofs.Ytfafcnnpfgagiaa
