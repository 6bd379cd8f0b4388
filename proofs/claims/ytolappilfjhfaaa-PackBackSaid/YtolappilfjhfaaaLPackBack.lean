/- Lifted: the walk of PackBack gives the statement PackBackSaid: for every input the call returns true, and each argument reads behind it as it read. No condition. -/
import Derived.Test.YtolappilfjhfaaaWm
import Derived.Test.YtolappilfjhfaaaRows
import Derived.Test.YtolappilfjhfaaaWa
import Derived.WalkKit
import Derived.ProofKit
import Derived.OpenShut
import Derived.ShutString
import Derived.ChangeOld
import Derived.Below
import Derived.SizedLaws
import Derived.Lib.SmallJoins
import Derived.Deep.Slices
import Derived.Deep.Strs
namespace Go.Proofs.Ytolappilfjhfaaa.packBack
open Go.ChangeShapes Go.WideShapes Go.ChangeAt Go.RowKit Go.Joins
open Go.ChangeMaps (open_string shut_string)
set_option linter.unusedVariables false

theorem own : ownKnob Try.prog.godebug = none := by kernel_rfl
theorem laidOut : laidOutB Try.prog = true := by kernel_rfl
theorem Try.cells4 : Try.prog.cellsOf 4 = 1 := by kernel_rfl
theorem Try.cells30 : Try.prog.cellsOf 30 = 3 := by kernel_rfl
theorem Try.bytes4 : Try.prog.bytesOf 4 = 1 := by kernel_rfl
theorem Try.bytes30 : Try.prog.bytesOf 30 = 24 := by kernel_rfl
abbrev E4 : Bool → List Value := fun b => [.bool b]
abbrev Ok4 : Bool → Prop := fun _ => True
theorem enc4 {H : Type} {enc : TypeId × Value → H} {W : World} : ∀ (n : Nat) (cs : List Value) (y : DataW H × List MemPlace), DataW.trod enc Try.prog W 0 (fun _ => true) true n 4 cs = some y → cs.length = 1 → ∃ x, cs = E4 x ∧ Ok4 x := by
  intro n cs y h _
  obtain ⟨b, rfl, _⟩ := DataW.trod_bool Try.underlying4 h
  exact ⟨b, rfl, trivial⟩
abbrev E30 : (Int × Int × Int) → List Value := fun x => [.int .i64 x.1, .int .i64 x.2.1, .int .i64 x.2.2]
abbrev Ok30 : (Int × Int × Int) → Prop := fun x => (Lit.int .i64 (x.1)).wf = true ∧ (Lit.int .i64 (x.2.1)).wf = true ∧ (Lit.int .i64 (x.2.2)).wf = true
theorem enc30 {H : Type} {enc : TypeId × Value → H} {W : World} : ∀ (n : Nat) (cs : List Value) (y : DataW H × List MemPlace), DataW.trod enc Try.prog W 0 (fun _ => true) true n 30 cs = some y → cs.length = 3 → ∃ x, cs = E30 x ∧ Ok30 x := by
  intro n cs y h hl
  obtain ⟨c0, c1, c2, rfl⟩ : ∃ c0 c1 c2, cs = [c0, c1, c2] := by
    match cs, hl with
    | [c0, c1, c2], _ => exact ⟨c0, c1, c2, rfl⟩
  obtain ⟨y0, y1, y2, m, _, _, t0, t1, t2⟩ := Go.Deep.trod_struct3 Try.underlying30 h
  have u0 : ∃ m y, DataW.trod enc Try.prog W 0 (fun _ => true) true m 3 [c0] = some y := ⟨m, y0, by simpa [show Try.prog.cellsOf 3 = 1 from by kernel_rfl] using t0⟩
  obtain ⟨_, _, s0⟩ := u0
  obtain ⟨b0, e0, _, wb0⟩ := DataW.trod_int Try.underlying3 s0
  obtain rfl := List.singleton_inj.1 e0
  have u1 : ∃ m y, DataW.trod enc Try.prog W 0 (fun _ => true) true m 3 [c1] = some y := ⟨m, y1, by simpa [show Try.prog.cellsOf 3 = 1 from by kernel_rfl] using t1⟩
  obtain ⟨_, _, s1⟩ := u1
  obtain ⟨b1, e1, _, wb1⟩ := DataW.trod_int Try.underlying3 s1
  obtain rfl := List.singleton_inj.1 e1
  have u2 : ∃ m y, DataW.trod enc Try.prog W 0 (fun _ => true) true m 3 [c2] = some y := ⟨m, y2, by simpa [show Try.prog.cellsOf 3 = 1 from by kernel_rfl] using t2⟩
  obtain ⟨_, _, s2⟩ := u2
  obtain ⟨b2, e2, _, wb2⟩ := DataW.trod_int Try.underlying3 s2
  obtain rfl := List.singleton_inj.1 e2
  exact ⟨(b0, b1, b2), rfl, wb0, wb1, wb2⟩

set_option maxRecDepth 100000 in
theorem lifted (os : Os) (started : os.Started) (H : Type) (enc : TypeId × Value → H) :
    ReturnsInHanded {} Try.checked os 5 .any (Rows.packBackSpec.pre6 enc Try.prog Try.f5 Rows.packBackRow.domain false) (Rows.packBackSpec.post enc Try.prog Try.f5 false true false false) := by
  refine returnsInHanded_of_change_sized (C := Try.checked) own started (by kernel_rfl) Try.func5
    (ChangeSpec.witness6 (enc := enc) (C := Try.checked) false ⟨#[], #[.slice none 0 0, .slice none 0 0], []⟩ 8 (by kernel_rfl) (by kernel_rfl) (by kernel_rfl) (by kernel_rfl)) ?_
  intro W base args ds gs before hval0 hW hcnd hsz0 _
  have hval : ∀ (j : Nat) t v, Try.f5.params[j]? = some t → args[j]? = some v → Value.okWide Try.prog W .any base t v := hval0
  have hsz : (DataW.weightsEach Try.prog (Try.f5.params.toList ++ Rows.packBackSpec.plain.varTypes Try.prog) (ds ++ gs)).all (· ≤ reachBytes) = true := hsz0
  have hW' := hW
  obtain ⟨p, q, hA0, hV, rfl, hfz, hnd⟩ := hW
  have hA : DataW.TrodAll enc Try.prog W 0 (fun _ => true) true Try.f5.params.toList args.toList ds p := hA0
  rw [Try.params5] at hA hval hsz
  obtain ⟨v0, vs0, d0, ds0, p0, q0, hargs, rfl, rfl, h0, r0⟩ := trodAll_cons hA
  obtain ⟨v1, vs1, d1, ds1, p1, q1, rfl, rfl, rfl, h1, r1⟩ := trodAll_cons r0
  obtain ⟨rfl, rfl, rfl⟩ := trodAll_nil r1
  obtain rfl : args = #[v0, v1] := by cases args; simp_all
  obtain ⟨rfl, rfl⟩ := trodVars_none hV
  have k0 := h0
  have lt0 : ∀ x ∈ p0, x.block < W.heap.size := by obtain ⟨m, hm⟩ := k0; exact DataW.trod_lt m _ _ _ hm
  have k1 := h1
  have lt1 : ∀ x ∈ p1, x.block < W.heap.size := by obtain ⟨m, hm⟩ := k1; exact DataW.trod_lt m _ _ _ hm
  obtain ⟨n0, sl0, ok0, rc0⟩ := sl_open (j := 0) (k := 3) E30 Ok30 Try.underlying22 Try.cells30 (by decide) enc30 hsz rfl rfl (hval 0 22 v0 rfl rfl) h0
  rw [Try.bytes30] at rc0; simp only [reachBytes] at rc0
  obtain ⟨n1, sl1, ok1, rc1⟩ := sl_open (j := 1) (k := 1) E4 Ok4 Try.underlying25 Try.cells4 (by decide) enc4 hsz rfl rfl (hval 1 25 v1 rfl rfl) h1
  rw [Try.bytes4] at rc1; simp only [reachBytes] at rc1
  clear hA0 hval0 hsz0
  refine (pback_walk _ _ n0 n1 W sl0 sl1 (by omega) (by omega)).mono fun e W' ⟨he, bel⟩ => ?_
  subst he
  exact ⟨_, rfl, _, _, _, [], _, [], hW', trodAll_mk1 (shut_bool Try.underlying4 _), (trodAll_cons_mk (Below.trod laidOut (by kernel_rfl) (of_decide_eq_true (by kernel_rfl)) k0 bel lt0) (trodAll_cons_mk (Below.trod laidOut (by kernel_rfl) (of_decide_eq_true (by kernel_rfl)) k1 bel lt1) trodAll_mk0)), rfl, bel.frame _, fun h => by cases h⟩

theorem over : Rows.packBackRow.holds Try.pinned (OpenSpec.ofChange Rows.packBackSpec) :=
  OpenClaim.holds_of_wide 5 Try.f5 rfl rfl rfl rfl rfl rfl rfl ⟨rfl, rfl, rfl, rfl, rfl⟩ rfl rfl rfl rfl rfl (by kernel_rfl) Try.func5 (by kernel_rfl)
    (of_decide_eq_true (by kernel_rfl)) (by unfold Func.isWrapper; first | (rw [if_pos (by decide +kernel)]; kernel_rfl) | (rw [if_neg (by decide +kernel)]; exact ⟨rfl, rfl⟩))
    (fun os started H enc _ => lifted os started H enc)
end Go.Proofs.Ytolappilfjhfaaa.packBack
namespace Go.Proofs.Ytolappilfjhfaaa
/-- For every input the call of PackBack returns true; each argument reads behind the call as it read before. -/
theorem pack_back : Rows.PackBackSaid := packBack.over
#print axioms pack_back
end Go.Proofs.Ytolappilfjhfaaa
