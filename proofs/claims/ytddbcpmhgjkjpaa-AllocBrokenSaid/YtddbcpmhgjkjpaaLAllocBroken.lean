/- Lifted: the walk of AllocBroken gives the statement AllocBrokenSaid: for every input the call returns true, and each argument reads behind it as it read. No condition. -/
import Derived.Test.YtddbcpmhgjkjpaaAlcV
import Derived.Test.YtddbcpmhgjkjpaaRows
import Derived.Test.YtddbcpmhgjkjpaaOpen
import Derived.Test.YtddbcpmhgjkjpaaOpenTab
import Derived.WalkKit
import Derived.ProofKit
import Derived.OpenShut
import Derived.ShutString
import Derived.ChangeOld
import Derived.Below
import Derived.SizedLaws
import Derived.Lib.SmallJoins
import Derived.Deep.Slices
import Derived.Deep.Strs
namespace Go.Proofs.Ytddbcpmhgjkjpaa.allocBroken
open Go.ChangeShapes Go.WideShapes Go.ChangeAt Go.RowKit Go.Joins
open Go.ChangeMaps (open_string shut_string)
set_option linter.unusedVariables false

theorem own : ownKnob Try.prog.godebug = none := by kernel_rfl
theorem laidOut : laidOutB Try.prog = true := by kernel_rfl
theorem Try.cells22 : Try.prog.cellsOf 22 = 1 := by kernel_rfl
theorem Try.cells41 : Try.prog.cellsOf 41 = 4 := by kernel_rfl
theorem Try.bytes22 : Try.prog.bytesOf 22 = 24 := by kernel_rfl
abbrev E41 : (Int × Int × Int × Bool) → List Value := fun x => [.int .i64 x.1, .int .i64 x.2.1, .int .i64 x.2.2.1, .bool x.2.2.2]
abbrev Ok41 : (Int × Int × Int × Bool) → Prop := fun x => (Lit.int .i64 (x.1)).wf = true ∧ (Lit.int .i64 (x.2.1)).wf = true ∧ (Lit.int .i64 (x.2.2.1)).wf = true
theorem enc41 {H : Type} {enc : TypeId × Value → H} {W : World} : ∀ (n : Nat) (cs : List Value) (y : DataW H × List MemPlace), DataW.trod enc Try.prog W 0 (fun _ => true) true n 41 cs = some y → cs.length = 4 → ∃ x, cs = E41 x ∧ Ok41 x := by
  intro n cs y h hl
  obtain ⟨c0, c1, c2, c3, rfl⟩ : ∃ c0 c1 c2 c3, cs = [c0, c1, c2, c3] := by
    match cs, hl with
    | [c0, c1, c2, c3], _ => exact ⟨c0, c1, c2, c3, rfl⟩
  obtain ⟨y0, y1, y2, y3, m, _, _, t0, t1, t2, t3⟩ := trod_struct4 Try.underlying41 h
  have u0 : ∃ m y, DataW.trod enc Try.prog W 0 (fun _ => true) true m 3 [c0] = some y := ⟨m, y0, by simpa [show Try.prog.cellsOf 3 = 1 from by kernel_rfl] using t0⟩
  obtain ⟨_, _, s0⟩ := u0
  obtain ⟨b0, e0, _, wb0⟩ := DataW.trod_int Try.underlying3 s0
  obtain rfl := List.singleton_inj.1 e0
  have u1 : ∃ m y, DataW.trod enc Try.prog W 0 (fun _ => true) true m 3 [c1] = some y := ⟨m, y1, by simpa [show Try.prog.cellsOf 3 = 1 from by kernel_rfl] using t1⟩
  obtain ⟨_, _, s1⟩ := u1
  obtain ⟨b1, e1, _, wb1⟩ := DataW.trod_int Try.underlying3 s1
  obtain rfl := List.singleton_inj.1 e1
  have u2 : ∃ m y, DataW.trod enc Try.prog W 0 (fun _ => true) true m 3 [c2] = some y := ⟨m, y2, by simpa [show Try.prog.cellsOf 3 = 1 from by kernel_rfl] using t2⟩
  obtain ⟨_, _, s2⟩ := u2
  obtain ⟨b2, e2, _, wb2⟩ := DataW.trod_int Try.underlying3 s2
  obtain rfl := List.singleton_inj.1 e2
  have u3 : ∃ m y, DataW.trod enc Try.prog W 0 (fun _ => true) true m 4 [c3] = some y := ⟨m, y3, by simpa [show Try.prog.cellsOf 4 = 1 from by kernel_rfl] using t3⟩
  obtain ⟨_, _, s3⟩ := u3
  obtain ⟨b3, e3, _⟩ := DataW.trod_bool Try.underlying4 s3
  obtain rfl := List.singleton_inj.1 e3
  exact ⟨(b0, b1, b2, b3), rfl, wb0, wb1, wb2⟩

set_option maxRecDepth 100000 in
theorem lifted (os : Os) (started : os.Started) (H : Type) (enc : TypeId × Value → H) :
    ReturnsInHanded {} Try.checked os 10 .any (Rows.allocBrokenSpec.pre6 enc Try.prog Try.f10 Rows.allocBrokenRow.domain false) (Rows.allocBrokenSpec.post enc Try.prog Try.f10 false true false false) := by
  refine returnsInHanded_of_change_sized (C := Try.checked) own started (by kernel_rfl) Try.func10
    (ChangeSpec.witness6 (enc := enc) (C := Try.checked) false ⟨#[], #[.slice none 0 0], []⟩ 8 (by kernel_rfl) (by kernel_rfl) (by kernel_rfl) (by kernel_rfl)) ?_
  intro W base args ds gs before hval0 hW hcnd hsz0 _
  have hval : ∀ (j : Nat) t v, Try.f10.params[j]? = some t → args[j]? = some v → Value.okWide Try.prog W .any base t v := hval0
  have hsz : (DataW.weightsEach Try.prog (Try.f10.params.toList ++ Rows.allocBrokenSpec.plain.varTypes Try.prog) (ds ++ gs)).all (· ≤ reachBytes) = true := hsz0
  have hW' := hW
  obtain ⟨p, q, hA0, hV, rfl, hfz, hnd⟩ := hW
  have hA : DataW.TrodAll enc Try.prog W 0 (fun _ => true) true Try.f10.params.toList args.toList ds p := hA0
  rw [Try.params10] at hA hval hsz
  obtain ⟨v0, vs0, d0, ds0, p0, q0, hargs, rfl, rfl, h0, r0⟩ := trodAll_cons hA
  obtain ⟨rfl, rfl, rfl⟩ := trodAll_nil r0
  obtain rfl : args = #[v0] := by cases args; simp_all
  obtain ⟨rfl, rfl⟩ := trodVars_none hV
  have k0 := h0
  have lt0 : ∀ x ∈ p0, x.block < W.heap.size := by obtain ⟨m, hm⟩ := k0; exact DataW.trod_lt m _ _ _ hm
  obtain ⟨n0, sl0, ok0, rc0⟩ := tab_open (j := 0) Ok41 Try.underlying46 Try.underlying22 Try.cells22 Try.cells41 enc41 hsz rfl rfl (hval 0 46 v0 rfl rfl) h0
  rw [Try.bytes22] at rc0; simp only [reachBytes] at rc0
  clear hA0 hval0 hsz0
  refine (abroken_walk _ n0 W sl0 (by omega) ok0).mono fun e W' ⟨he, bel⟩ => ?_
  subst he
  exact ⟨_, rfl, _, _, _, [], _, [], hW', trodAll_mk1 (shut_bool Try.underlying4 _), (trodAll_cons_mk (Below.trod laidOut (by kernel_rfl) (of_decide_eq_true (by kernel_rfl)) k0 bel lt0) trodAll_mk0), rfl, bel.frame _, fun h => by cases h⟩

theorem over : Rows.allocBrokenRow.holds Try.pinned (OpenSpec.ofChange Rows.allocBrokenSpec) :=
  OpenClaim.holds_of_wide 10 Try.f10 rfl rfl rfl rfl rfl rfl rfl ⟨rfl, rfl, rfl, rfl, rfl⟩ rfl rfl rfl rfl rfl (by kernel_rfl) Try.func10 (by kernel_rfl)
    (of_decide_eq_true (by kernel_rfl)) (by unfold Func.isWrapper; first | (rw [if_pos (by decide +kernel)]; kernel_rfl) | (rw [if_neg (by decide +kernel)]; exact ⟨rfl, rfl⟩))
    (fun os started H enc _ => lifted os started H enc)
end Go.Proofs.Ytddbcpmhgjkjpaa.allocBroken
namespace Go.Proofs.Ytddbcpmhgjkjpaa
/-- For every input the call of AllocBroken returns true; each argument reads behind the call as it read before. -/
theorem alloc_broken : Rows.AllocBrokenSaid := allocBroken.over
#print axioms alloc_broken
end Go.Proofs.Ytddbcpmhgjkjpaa
