/- Lifted: the walk of AllocTells gives the statement AllocTellsSaid: for every input the call returns true, and each argument reads behind it as it read. No condition. -/
import Derived.Test.YtddbcpmhgjkjpaaAlcU
import Derived.Test.YtddbcpmhgjkjpaaRows
import Derived.Test.YtddbcpmhgjkjpaaOpen
import Derived.Test.YtddbcpmhgjkjpaaOpenTab
import Derived.WalkKit
import Derived.ProofKit
import Derived.OpenShut
import Derived.ShutString
import Derived.ChangeOld
import Derived.Below
import Derived.SizedLaws
import Derived.Lib.SmallJoins
import Derived.Deep.Slices
import Derived.Deep.Strs
namespace Go.Proofs.Ytddbcpmhgjkjpaa.allocTells
open Go.ChangeShapes Go.WideShapes Go.ChangeAt Go.RowKit Go.Joins
open Go.ChangeMaps (open_string shut_string)
set_option linter.unusedVariables false

theorem own : ownKnob Try.prog.godebug = none := by kernel_rfl
theorem laidOut : laidOutB Try.prog = true := by kernel_rfl
theorem Try.cells22 : Try.prog.cellsOf 22 = 1 := by kernel_rfl
theorem Try.cells41 : Try.prog.cellsOf 41 = 4 := by kernel_rfl
theorem Try.cells48 : Try.prog.cellsOf 48 = 2 := by kernel_rfl
theorem Try.cells53 : Try.prog.cellsOf 53 = 4 := by kernel_rfl
theorem Try.bytes22 : Try.prog.bytesOf 22 = 24 := by kernel_rfl
abbrev E41 : (Int × Int × Int × Bool) → List Value := fun x => [.int .i64 x.1, .int .i64 x.2.1, .int .i64 x.2.2.1, .bool x.2.2.2]
abbrev Ok41 : (Int × Int × Int × Bool) → Prop := fun x => (Lit.int .i64 (x.1)).wf = true ∧ (Lit.int .i64 (x.2.1)).wf = true ∧ (Lit.int .i64 (x.2.2.1)).wf = true
theorem enc41 {H : Type} {enc : TypeId × Value → H} {W : World} : ∀ (n : Nat) (cs : List Value) (y : DataW H × List MemPlace), DataW.trod enc Try.prog W 0 (fun _ => true) true n 41 cs = some y → cs.length = 4 → ∃ x, cs = E41 x ∧ Ok41 x := by
  intro n cs y h hl
  obtain ⟨c0, c1, c2, c3, rfl⟩ : ∃ c0 c1 c2 c3, cs = [c0, c1, c2, c3] := by
    match cs, hl with
    | [c0, c1, c2, c3], _ => exact ⟨c0, c1, c2, c3, rfl⟩
  obtain ⟨y0, y1, y2, y3, m, _, _, t0, t1, t2, t3⟩ := trod_struct4 Try.underlying41 h
  have u0 : ∃ m y, DataW.trod enc Try.prog W 0 (fun _ => true) true m 3 [c0] = some y := ⟨m, y0, by simpa [show Try.prog.cellsOf 3 = 1 from by kernel_rfl] using t0⟩
  obtain ⟨_, _, s0⟩ := u0
  obtain ⟨b0, e0, _, wb0⟩ := DataW.trod_int Try.underlying3 s0
  obtain rfl := List.singleton_inj.1 e0
  have u1 : ∃ m y, DataW.trod enc Try.prog W 0 (fun _ => true) true m 3 [c1] = some y := ⟨m, y1, by simpa [show Try.prog.cellsOf 3 = 1 from by kernel_rfl] using t1⟩
  obtain ⟨_, _, s1⟩ := u1
  obtain ⟨b1, e1, _, wb1⟩ := DataW.trod_int Try.underlying3 s1
  obtain rfl := List.singleton_inj.1 e1
  have u2 : ∃ m y, DataW.trod enc Try.prog W 0 (fun _ => true) true m 3 [c2] = some y := ⟨m, y2, by simpa [show Try.prog.cellsOf 3 = 1 from by kernel_rfl] using t2⟩
  obtain ⟨_, _, s2⟩ := u2
  obtain ⟨b2, e2, _, wb2⟩ := DataW.trod_int Try.underlying3 s2
  obtain rfl := List.singleton_inj.1 e2
  have u3 : ∃ m y, DataW.trod enc Try.prog W 0 (fun _ => true) true m 4 [c3] = some y := ⟨m, y3, by simpa [show Try.prog.cellsOf 4 = 1 from by kernel_rfl] using t3⟩
  obtain ⟨_, _, s3⟩ := u3
  obtain ⟨b3, e3, _⟩ := DataW.trod_bool Try.underlying4 s3
  obtain rfl := List.singleton_inj.1 e3
  exact ⟨(b0, b1, b2, b3), rfl, wb0, wb1, wb2⟩

set_option maxRecDepth 100000 in
theorem lifted (os : Os) (started : os.Started) (H : Type) (enc : TypeId × Value → H) :
    ReturnsInHanded {} Try.checked os 12 .any (Rows.allocTellsSpec.pre6 enc Try.prog Try.f12 Rows.allocTellsRow.domain false) (Rows.allocTellsSpec.post enc Try.prog Try.f12 false true false false) := by
  refine returnsInHanded_of_change_sized (C := Try.checked) own started (by kernel_rfl) Try.func12
    (ChangeSpec.witness6 (enc := enc) (C := Try.checked) false ⟨#[], #[.slice none 0 0, .agg #[.int .i64 0, .int .i64 0, .int .i64 0, .bool false], .agg #[.int .i64 0, .int .i64 0]], []⟩ 8 (by kernel_rfl) (by kernel_rfl) (by kernel_rfl) (by kernel_rfl)) ?_
  intro W base args ds gs before hval0 hW hcnd hsz0 _
  have hval : ∀ (j : Nat) t v, Try.f12.params[j]? = some t → args[j]? = some v → Value.okWide Try.prog W .any base t v := hval0
  have hsz : (DataW.weightsEach Try.prog (Try.f12.params.toList ++ Rows.allocTellsSpec.plain.varTypes Try.prog) (ds ++ gs)).all (· ≤ reachBytes) = true := hsz0
  have hW' := hW
  obtain ⟨p, q, hA0, hV, rfl, hfz, hnd⟩ := hW
  have hA : DataW.TrodAll enc Try.prog W 0 (fun _ => true) true Try.f12.params.toList args.toList ds p := hA0
  rw [Try.params12] at hA hval hsz
  obtain ⟨v0, vs0, d0, ds0, p0, q0, hargs, rfl, rfl, h0, r0⟩ := trodAll_cons hA
  obtain ⟨v1, vs1, d1, ds1, p1, q1, rfl, rfl, rfl, h1, r1⟩ := trodAll_cons r0
  obtain ⟨v2, vs2, d2, ds2, p2, q2, rfl, rfl, rfl, h2, r2⟩ := trodAll_cons r1
  obtain ⟨rfl, rfl, rfl⟩ := trodAll_nil r2
  obtain rfl : args = #[v0, v1, v2] := by cases args; simp_all
  obtain ⟨rfl, rfl⟩ := trodVars_none hV
  have k0 := h0
  have lt0 : ∀ x ∈ p0, x.block < W.heap.size := by obtain ⟨m, hm⟩ := k0; exact DataW.trod_lt m _ _ _ hm
  have k1 := h1
  have lt1 : ∀ x ∈ p1, x.block < W.heap.size := by obtain ⟨m, hm⟩ := k1; exact DataW.trod_lt m _ _ _ hm
  have k2 := h2
  have lt2 : ∀ x ∈ p2, x.block < W.heap.size := by obtain ⟨m, hm⟩ := k2; exact DataW.trod_lt m _ _ _ hm
  obtain ⟨n0, sl0, ok0, rc0⟩ := tab_open (j := 0) Ok41 Try.underlying46 Try.underlying22 Try.cells22 Try.cells41 enc41 hsz rfl rfl (hval 0 46 v0 rfl rfl) h0
  rw [Try.bytes22] at rc0; simp only [reachBytes] at rc0
  obtain ⟨c1_0, c1_1, c1_2, c1_3, y1_0, y1_1, y1_2, y1_3, m1, rfl, _, _, hy1_0, hy1_1, hy1_2, hy1_3⟩ := open_agg4 Try.underlying53 (by kernel_rfl) Try.cells53 (hval 1 53 v1 rfl rfl) h1
  obtain ⟨n1_0, e1_0, _, w1_0⟩ := DataW.trod_int Try.underlying3 hy1_0
  have bd1_0 := bd_i64 w1_0
  obtain rfl := List.singleton_inj.1 e1_0
  obtain ⟨n1_1, e1_1, _, w1_1⟩ := DataW.trod_int Try.underlying3 hy1_1
  have bd1_1 := bd_i64 w1_1
  obtain rfl := List.singleton_inj.1 e1_1
  obtain ⟨n1_2, e1_2, _, w1_2⟩ := DataW.trod_int Try.underlying3 hy1_2
  have bd1_2 := bd_i64 w1_2
  obtain rfl := List.singleton_inj.1 e1_2
  obtain ⟨n1_3, e1_3, _⟩ := DataW.trod_bool Try.underlying4 hy1_3
  obtain rfl := List.singleton_inj.1 e1_3
  obtain ⟨c2_0, c2_1, y2_0, y2_1, m2, rfl, _, _, hy2_0, hy2_1⟩ := open_agg2 Try.underlying48 (by kernel_rfl) Try.cells48 (hval 2 48 v2 rfl rfl) h2
  obtain ⟨n2_0, e2_0, _, w2_0⟩ := DataW.trod_int Try.underlying3 hy2_0
  have bd2_0 := bd_i64 w2_0
  obtain rfl := List.singleton_inj.1 e2_0
  obtain ⟨n2_1, e2_1, _, w2_1⟩ := DataW.trod_int Try.underlying3 hy2_1
  have bd2_1 := bd_i64 w2_1
  obtain rfl := List.singleton_inj.1 e2_1
  clear hA0 hval0 hsz0
  refine (atells_walk _ n0 n1_0 n1_1 n1_2 n1_3 n2_0 n2_1 W sl0 (by omega) ok0).mono fun e W' ⟨he, bel⟩ => ?_
  subst he
  exact ⟨_, rfl, _, _, _, [], _, [], hW', trodAll_mk1 (shut_bool Try.underlying4 _), (trodAll_cons_mk (Below.trod laidOut (by kernel_rfl) (of_decide_eq_true (by kernel_rfl)) k0 bel lt0) (trodAll_cons_mk (Below.trod laidOut (by kernel_rfl) (of_decide_eq_true (by kernel_rfl)) k1 bel lt1) (trodAll_cons_mk (Below.trod laidOut (by kernel_rfl) (of_decide_eq_true (by kernel_rfl)) k2 bel lt2) trodAll_mk0))), rfl, bel.frame _, fun h => by cases h⟩

theorem over : Rows.allocTellsRow.holds Try.pinned (OpenSpec.ofChange Rows.allocTellsSpec) :=
  OpenClaim.holds_of_wide 12 Try.f12 rfl rfl rfl rfl rfl rfl rfl ⟨rfl, rfl, rfl, rfl, rfl⟩ rfl rfl rfl rfl rfl (by kernel_rfl) Try.func12 (by kernel_rfl)
    (of_decide_eq_true (by kernel_rfl)) (by unfold Func.isWrapper; first | (rw [if_pos (by decide +kernel)]; kernel_rfl) | (rw [if_neg (by decide +kernel)]; exact ⟨rfl, rfl⟩))
    (fun os started H enc _ => lifted os started H enc)
end Go.Proofs.Ytddbcpmhgjkjpaa.allocTells
namespace Go.Proofs.Ytddbcpmhgjkjpaa
/-- For every input the call of AllocTells returns true; each argument reads behind the call as it read before. -/
theorem alloc_tells : Rows.AllocTellsSaid := allocTells.over
#print axioms alloc_tells
end Go.Proofs.Ytddbcpmhgjkjpaa
