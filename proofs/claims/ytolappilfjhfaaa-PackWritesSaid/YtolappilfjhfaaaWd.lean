/- Trees in memory; the methods of a forest: Len, Less, Swap. Conditions: numbers fit. The methods of a forest through heap.Interface; Swap, Push, Pop. Conditions: numbers fit. up, down of container/heap, at a forest. Conditions: numbers fit. down of container/heap, at a forest. Conditions: numbers fit. Push, Pop of a forest; heap.Push, heap.Pop. Conditions: numbers fit. heap.Push, heap.Pop at a forest; mark. Conditions: numbers fit. The contract of depths. Conditions: numbers fit. -/
import Derived.Test.YtolappilfjhfaaaChecked
import Derived.WalkKit
import Derived.Handy
import Derived.WalkLawsBesides
import Derived.WalkSpells
import Derived.Outline
import Derived.OwnWalk
import Derived.IntWalk
import Derived.Lib.Hide
import Derived.Deep.QuietTactic
import Derived.BigQuiet
import Derived.Deep.RegionHeld3
import Derived.Deep.LoopGhost
import Derived.Deep.DeepFit
import Derived.LoopTactic
import Derived.RegionTactic
import Derived.ChangeAlike
import Derived.BigRegion
import Derived.Below
import Derived.Laws.Rows
import Derived.Deep.RegionLaw
import Derived.Deep.AppendLies
import Derived.Laws.MakeOwn
import Derived.Test.YtolappilfjhfaaaWa
import Derived.Test.YtolappilfjhfaaaW0
namespace Go.Proofs.Ytolappilfjhfaaa
open Go.RowKit

abbrev ptrV (a : Nat) : Value := .pointer (some ⟨a, 0, none⟩)
/-- The tree t stands in w, at the block p. -/
def Rep (w : World) : Nat → HT → Prop
  | p, .leaf x n => w.heap[p]? = some (.cells #[.int .i64 x, .int .i64 n, .pointer none, .pointer none] 94 (0, 0))
  | p, .node l r => ∃ pl pr, w.heap[p]? = some (.cells #[.int .i64 (wt l + wt r), .int .i64 (min (nm l) (nm r) : Nat), ptrV pl, ptrV pr] 94 (0, 0)) ∧ Rep w pl l ∧ Rep w pr r
/-- The first two cells. -/
theorem rep_head {w : World} {p : Nat} {t : HT} (h : Rep w p t) : w.cell? ⟨p, 0, none⟩ = some (.int .i64 (wt t)) ∧ w.cell? ⟨p, 1, none⟩ = some (.int .i64 (nm t)) := by
  cases t with
  | leaf x n => exact ⟨by rw [cell_of_row w p 0 _ _ (0, 0) h]; rfl, by rw [cell_of_row w p 1 _ _ (0, 0) h]; rfl⟩
  | node l r =>
    obtain ⟨pl, pr, h, _, _⟩ := h
    exact ⟨by rw [cell_of_row w p 0 _ _ (0, 0) h]; rfl, by rw [cell_of_row w p 1 _ _ (0, 0) h]; rfl⟩
/-- All blocks but forests and their rows are as they were. -/
structure Kp (B : Nat) (w w' : World) : Prop where
  below : Below B w w'
  keep : ∀ (b : Nat) (cs : Array Value) (t : TypeId), w.heap[b]? = some (Obj.cells cs t (0, 0)) → t ≠ 89 → t ≠ 91 → w'.heap[b]? = w.heap[b]?
theorem Kp.refl (B : Nat) (w : World) : Kp B w w := ⟨Below.refl _ _, fun _ _ _ _ _ _ => rfl⟩
theorem Kp.trans {B : Nat} {a b c : World} (h : Kp B a b) (k : Kp B b c) : Kp B a c :=
  ⟨h.below.trans k.below, fun g cs t hg h1 h2 => by rw [k.keep g cs t (by rw [h.keep g cs t hg h1 h2]; exact hg) h1 h2, h.keep g cs t hg h1 h2]⟩
theorem rep_kp {B : Nat} {w w' : World} (h : Kp B w w') : ∀ {t : HT} {p : Nat}, Rep w p t → Rep w' p t := by
  intro t
  induction t with
  | leaf x n => intro p hr; exact (h.keep p _ _ hr (by decide) (by decide)).trans hr
  | node l r ihl ihr =>
    intro p hr
    obtain ⟨pl, pr, hh, hl, hr⟩ := hr
    exact ⟨pl, pr, (h.keep p _ _ hh (by decide) (by decide)).trans hh, ihl hl, ihr hr⟩
theorem Kp.drewN {B : Nat} {w w' : World} (h : Kp B w w') (n : Nat) : Kp B w (w'.drewN n) := ⟨h.below.trans ⟨rfl, rfl, rfl, Nat.le_refl _, fun _ _ => rfl⟩, h.keep⟩
theorem Kp.alloc {B : Nat} {w w' : World} (h : Kp B w w') (hB : B ≤ w'.heap.size) (o : Obj) : Kp B w (w'.alloc o) :=
  ⟨h.below.alloc hB o, fun b cs t hb h1 h2 => by
    have e := h.keep b cs t hb h1 h2
    rw [← e]
    have hlt : b < w'.heap.size := by
      rcases Nat.lt_or_ge b w'.heap.size with q | q
      · exact q
      · rw [hb, Array.getElem?_eq_none q] at e; cases e
    exact Below.heap_alloc _ _ _ hlt⟩

/-- The row of pointers v holds the trees A. -/
def Row (B : Nat) (w : World) (v : Value) (ps : List Nat) (A : List HT) : Prop := w.ownsRow B 91 1 v A.length (ps.map ptrV) ∧ ps.length = A.length ∧ ∀ i (h : i < A.length) (h' : i < ps.length), Rep w ps[i] A[i]
/-- The forest at the block F holds the trees A. -/
def ForS (B F : Nat) (w : World) (A : List HT) : Prop := ∃ v ps, B ≤ F ∧ w.heap[F]? = some (.cells #[v] 89 (0, 0)) ∧ Row B w v ps A

theorem row_kp {B : Nat} {w w' : World} {v : Value} {ps : List Nat} {A : List HT} (h : Row B w v ps A) (hk : Kp B w w') (hb : ∀ g, v.ownBlock = some g → w'.heap[g]? = w.heap[g]?) : Row B w' v ps A := by
  obtain ⟨h1, h2, h3⟩ := h
  refine ⟨?_, h2, fun i h h' => rep_kp hk (h3 i h h')⟩
  obtain ⟨hl, h⟩ := h1
  refine ⟨hl, ?_⟩
  rcases h with h | ⟨g, cap, cur, rfl, hg, hc, rest⟩
  · exact Or.inl h
  · exact Or.inr ⟨g, cap, cur, rfl, hg, by rw [hb g rfl]; exact hc, rest⟩
theorem row_drewN {B : Nat} {w : World} {v : Value} {ps : List Nat} {A : List HT} (h : Row B w v ps A) (n : Nat) : Row B (w.drewN n) v ps A := row_kp h ((Kp.refl B w).drewN n) fun _ _ => rfl
theorem fs_drewN {B F : Nat} {w : World} {A : List HT} (h : ForS B F w A) (n : Nat) : ForS B F (w.drewN n) A := by
  obtain ⟨v, ps, h1, h2, h3⟩ := h
  exact ⟨v, ps, h1, h2, row_drewN h3 n⟩

/-- The cells that Less reads. -/
theorem row_cells {B : Nat} {w : World} {v : Value} {ps : List Nat} {A : List HT} (h : Row B w v ps A) (hp : 0 < A.length) :
    ∃ g cap, v = .slice (some ⟨g, 0, none⟩) A.length cap ∧ A.length ≤ cap ∧ B ≤ g ∧ ∀ i (hi : i < A.length), ∃ hi' : i < ps.length, w.cell? ⟨g, i, none⟩ = some (ptrV ps[i]) ∧ w.frozen? ⟨g, i, none⟩ = false ∧ Rep w ps[i] A[i] := by
  obtain ⟨h1, h2, h3⟩ := h
  have h1' := h1
  obtain ⟨hl, h⟩ := h1
  rcases h with ⟨_, h0⟩ | ⟨g, cap, cur, rfl, hg, hc, hn, _⟩
  · omega
  · refine ⟨g, cap, rfl, hn, hg, fun i hi => ⟨by omega, ?_, h1'.frozenAt i, h3 i hi (by omega)⟩⟩
    rw [h1'.cellAt i (by omega)]
    simp [List.getElem?_eq_getElem (show i < ps.length by omega)]

set_option maxRecDepth 100000 in
theorem len_any (v : Value) (n : Nat) (w : World) (a : Option Addr) (cap : Nat) (hv : v = .slice a n cap) :
    Calls Try.prog 71 #[v] w fun e w' => e = .returned (.int .i64 n) ∧ w = w' := by
  subst hv
  go_enter Try.func71, Try.ntmps71
  go_wp2
  go_ret
  exact ⟨rfl, rfl⟩

set_option maxRecDepth 100000 in
set_option maxHeartbeats 2000000 in
theorem less_any (B : Nat) (v : Value) (ps : List Nat) (A : List HT) (i j : Nat) (w : World) (h : Row B w v ps A) (hi : i < A.length) (hj : j < A.length) (hl : A.length ≤ 1000000) :
    Calls Try.prog 102 #[v, .int .i64 i, .int .i64 j] w fun e w' => e = .returned (.bool (ltT (atT A i) (atT A j))) ∧ ∃ n, w' = w.drewN n := by
  obtain ⟨g, cap, rfl, hc, _, hcell⟩ := row_cells h (by omega)
  obtain ⟨hi', ci, _, ri⟩ := hcell i hi
  obtain ⟨hj', cj, _, rj⟩ := hcell j hj
  obtain ⟨wi, ni⟩ := rep_head ri
  obtain ⟨wj, nj⟩ := rep_head rj
  rw [atT_get hi, atT_get hj]
  have Hlt : Hid (ltT A[i] A[j] = decide (wt A[i] < wt A[j] ∨ (wt A[i] = wt A[j] ∧ nm A[i] < nm A[j]))) := rfl
  have g0 : (i : Int) < (A.length : Int) := by omega
  have g1 : (j : Int) < (A.length : Int) := by omega
  have g2 : (0 : Int) ≤ (i : Int) := by omega
  have g3 : (0 : Int) ≤ (j : Int) := by omega
  clear hcell h ri rj
  generalize ltT A[i] A[j] = r at *
  generalize wt A[i] = x at *
  generalize wt A[j] = y at *
  generalize nm A[i] = m at *
  generalize nm A[j] = k at *
  generalize ps[i] = pi at *
  generalize ps[j] = pj at *
  clear hi' hj'
  by_cases hxy : x = y
  · have d1 : (x != y) = false := by simp [hxy]
    have hr : r = decide ((m : Int) < (k : Int)) := by rw [Hlt.out]; simp [hxy]
    have Hr := Lib.hid hr
    clear hr hxy Hlt
    go_enter Try.func102, Try.ntmps102
    go_wp2_with fail
    go_quiet (fail)
    go_wp2_with fail
    go_quiet (fail)
    go_wp2_with fail
    go_ret
    exact ⟨by rw [Hr.out]; first | rfl | simp, _, World.drewN_drewN _ _ _⟩
  · have d1 : (x != y) = true := by simp [hxy]
    have hr : r = decide (x < y) := by rw [Hlt.out]; simp [hxy]
    have Hr := Lib.hid hr
    clear hr hxy Hlt
    go_enter Try.func102, Try.ntmps102
    go_wp2_with fail
    go_quiet (fail)
    go_wp2_with fail
    go_quiet (fail)
    go_wp2_with fail
    go_ret
    exact ⟨by rw [Hr.out]; first | rfl | simp, _, World.drewN_drewN _ _ _⟩
end Go.Proofs.Ytolappilfjhfaaa
namespace Go.Proofs.Ytolappilfjhfaaa
open Go.RowKit

theorem load_forest (F : Nat) (w : World) (v : Value) (h : w.cell? ⟨F, 0, none⟩ = some v) : (loadVar 89 ⟨F, 0, none⟩).run Try.prog w = .ok v w := by
  have ha : (isAgg 89).run Try.prog w = .ok false w := by kernel_rfl
  simp [loadVar, Sem.run_bind, ha, go_sem, h]
/-- A method of a value, found through a pointer to it. -/
theorem meth_val (F : Nat) (w : World) (v : Value) (h : w.cell? ⟨F, 0, none⟩ = some v) (name : String) (f : FuncId)
    (hm : (Try.prog.info? 87).map (fun i => (i.methods.find? (·.name == name)).map fun m => (m.path.size, m.func)) = some (some (0, some (f, false)))) :
    (Go.method 234 87 (.pointer (some ⟨F, 0, none⟩)) name).run Try.prog w = .ok (f, v) w := by
  cases hq : Try.prog.info? 87 with
  | none => simp [hq] at hm
  | some ti =>
    rw [hq] at hm
    simp only [Option.map_some, Option.some.injEq] at hm
    cases hf : ti.methods.find? (·.name == name) with
    | none => rw [hf] at hm; cases hm
    | some m =>
      rw [hf] at hm
      simp only [Option.map_some, Option.some.injEq, Prod.mk.injEq] at hm
      obtain ⟨hp, hfn⟩ := hm
      have hp' : m.path.toList = [] := List.length_eq_zero_iff.1 (by rw [Array.length_toList]; exact hp)
      have hp'' : m.path.isEmpty = true := by rw [Array.isEmpty_iff]; exact Array.size_eq_zero_iff.1 hp
      have hl := load_forest F w v h
      have e1 : (typeInfo 87).run Try.prog w = .ok ti w := by simp [typeInfo, hq]
      have e2 : (underlying 87).run Try.prog w = .ok (.pointer 89) w := run_underlying Try.underlying87 w
      have e3 : ∀ n : String, (Builtin.ssaWrapNilChk_ #[87] 87 #[.pointer (some ⟨F, 0, none⟩), strVal "", strVal n]).run Try.prog w = .ok (.pointer (some ⟨F, 0, none⟩)) w := fun n => rfl
      rw [method]
      simp only [Sem.run_bind, e1, Result.andThen_ok, hf, hp', hfn, follow, Sem.run_pure, receiverAt, e2, hp'', Place.get, if_true, e3, asAddr, hl]
theorem meth_len (F : Nat) (w : World) (v : Value) (h : w.cell? ⟨F, 0, none⟩ = some v) : (Go.method 234 87 (.pointer (some ⟨F, 0, none⟩)) "Len").run Try.prog w = .ok (71, v) w :=
  meth_val F w v h "Len" 71 (by kernel_rfl)
theorem meth_less (F : Nat) (w : World) (v : Value) (h : w.cell? ⟨F, 0, none⟩ = some v) : (Go.method 234 87 (.pointer (some ⟨F, 0, none⟩)) "Less").run Try.prog w = .ok (102, v) w :=
  meth_val F w v h "Less" 102 (by kernel_rfl)
theorem meth_swap (F : Nat) (w : World) (v : Value) (h : w.cell? ⟨F, 0, none⟩ = some v) : (Go.method 234 87 (.pointer (some ⟨F, 0, none⟩)) "Swap").run Try.prog w = .ok (105, v) w :=
  meth_val F w v h "Swap" 105 (by kernel_rfl)
theorem meth_push (a : Addr) (w : World) : (Go.method 234 87 (.pointer (some a)) "Push").run Try.prog w = .ok (104, .pointer (some a)) w := by kernel_rfl
theorem meth_pop (a : Addr) (w : World) : (Go.method 234 87 (.pointer (some a)) "Pop").run Try.prog w = .ok (103, .pointer (some a)) w := by kernel_rfl

theorem kp_row {B g : Nat} {w w' : World} {cur : Array Value} (hg : w.heap[g]? = some (.cells cur 91 (0, 0))) (hb : Below B w w') (h : ∀ b, b ≠ g → b < w.heap.size → w'.heap[b]? = w.heap[b]?) : Kp B w w' :=
  ⟨hb, fun b cs t hc _ h2 => by
    by_cases e : b = g
    · subst e
      rw [hg] at hc
      injection hc with hc
      injection hc with _ hc _
      exact absurd hc.symm h2
    · refine h b e ?_
      rcases Nat.lt_or_ge b w.heap.size with q | q
      · exact q
      · rw [Array.getElem?_eq_none q] at hc; cases hc⟩

set_option maxRecDepth 100000 in
set_option maxHeartbeats 2000000 in
theorem swap_any (B : Nat) (v : Value) (ps : List Nat) (A : List HT) (i j : Nat) (w : World) (h : Row B w v ps A) (hi : i < A.length) (hj : j < A.length) (hl : A.length ≤ 1000000) :
    Calls Try.prog 105 #[v, .int .i64 i, .int .i64 j] w fun e w' => e = .returned (.tuple #[]) ∧ (∃ ps', Row B w' v ps' (swapT A i j)) ∧ Kp B w w' ∧ w'.heap.size = w.heap.size ∧ ∀ b, v.ownBlock ≠ some b → w'.heap[b]? = w.heap[b]? := by
  obtain ⟨g, cap, rfl, hc, hBg, hcell⟩ := row_cells h (by omega)
  obtain ⟨hi', ci, fi, ri⟩ := hcell i hi
  obtain ⟨hj', cj, fj, rj⟩ := hcell j hj
  obtain ⟨hown, hpl, hrep⟩ := h
  have g0 : (i : Int) < (A.length : Int) := by omega
  have g1 : (j : Int) < (A.length : Int) := by omega
  have g2 : (0 : Int) ≤ (i : Int) := by omega
  have g3 : (0 : Int) ≤ (j : Int) := by omega
  have fin : Hid (∀ w', w' = ((w.setCell ⟨g, i, none⟩ (ptrV ps[j])).setCell ⟨g, j, none⟩ (ptrV ps[i])).drew → (∃ ps', Row B w' (.slice (some ⟨g, 0, none⟩) A.length cap) ps' (swapT A i j)) ∧ Kp B w w' ∧ w'.heap.size = w.heap.size ∧ ∀ b, (Value.slice (some ⟨g, 0, none⟩) A.length cap).ownBlock ≠ some b → w'.heap[b]? = w.heap[b]?) := by
    unfold Hid
    rintro w' rfl
    have hoth : ∀ b, b ≠ g → (((w.setCell ⟨g, i, none⟩ (ptrV ps[j])).setCell ⟨g, j, none⟩ (ptrV ps[i])).drew).heap[b]? = w.heap[b]? := fun b hb => by
      show ((w.setCell ⟨g, i, none⟩ (ptrV ps[j])).setCell ⟨g, j, none⟩ (ptrV ps[i])).heap[b]? = _
      rw [Below.heap_setCell _ _ _ _ hb, Below.heap_setCell _ _ _ _ hb]
    have hbl : Below B w ((w.setCell ⟨g, i, none⟩ (ptrV ps[j])).setCell ⟨g, j, none⟩ (ptrV ps[i])).drew := ((Below.refl B w).setCell (p := ⟨g, i, none⟩) hBg _ |>.setCell (p := ⟨g, j, none⟩) hBg _).drew
    obtain ⟨cur, hcur⟩ : ∃ cur, w.heap[g]? = some (.cells cur 91 (0, 0)) := by
      obtain ⟨_, h⟩ := hown
      rcases h with ⟨h, _⟩ | ⟨g', cap', cur, hv, _, hc', _⟩
      · cases h
      · injection hv with hv _ _
        injection hv with hv
        injection hv with hv
        subst hv
        exact ⟨cur, hc'⟩
    have hkp := kp_row hcur hbl (fun b hb _ => hoth b hb)
    refine ⟨⟨(ps.set i ps[j]).set j ps[i], ?_, ?_, ?_⟩, hkp, by simp, fun b hb => hoth b (fun e => hb (by rw [e]; rfl))⟩
    · have h1 := ((hown.stored i (ptrV ps[j])).1.stored j (ptrV ps[i])).1
      rw [← List.map_set, ← List.map_set] at h1
      rw [swapT_length]
      exact h1
    · simp [swapT_length, hpl]
    · intro k hk hk'
      have hkA : k < A.length := by rwa [swapT_length] at hk
      have hsw := swapT_at hi hj k
      rw [atT_get hk] at hsw
      rw [hsw, List.getElem_set]
      by_cases e : j = k
      · subst e
        rw [if_pos rfl, if_pos rfl, atT_get hi]
        exact rep_kp hkp ri
      · rw [if_neg e, if_neg (Ne.symm e), List.getElem_set]
        by_cases e2 : i = k
        · subst e2
          rw [if_pos rfl, if_pos rfl, atT_get hj]
          exact rep_kp hkp rj
        · rw [if_neg e2, if_neg (Ne.symm e2), atT_get hkA]
          exact rep_kp hkp (hrep k hkA (by omega))
  by_cases hij : i = j
  · subst hij
    have c2 : (w.setCell ⟨g, i, none⟩ (ptrV ps[i])).drew.cell? ⟨g, i, none⟩ = some (ptrV ps[i]) := set_cell_same ci
    clear hown hrep hcell ri rj
    generalize ps[i] = pi at *
    go_enter Try.func105, Try.ntmps105
    go_wp2_with fail
    go_region
    all_goals
      go_wp2_with fail
      go_end0
      exact ⟨rfl, fin.out _ rfl⟩
  · obtain ⟨v', hv'⟩ := cell?_setCell_some (w := w.drew) (p := ⟨g, i, none⟩) (x := ptrV ps[j]) (q := ⟨g, j, none⟩) (v := ptrV ps[j]) cj
    clear hown hrep hcell ri rj
    generalize ps[i] = pi at *
    generalize ps[j] = pj at *
    go_enter Try.func105, Try.ntmps105
    go_wp2_with fail
    go_region
    all_goals
      go_wp2_with fail
      go_end0
      exact ⟨rfl, fin.out _ rfl⟩
end Go.Proofs.Ytolappilfjhfaaa
namespace Go.Proofs.Ytolappilfjhfaaa
open Go.RowKit

abbrev forestV (F : Nat) : Value := .iface 87 (.pointer (some ⟨F, 0, none⟩))
theorem fs_cell {F : Nat} {w : World} {v : Value} (h : w.heap[F]? = some (.cells #[v] 89 (0, 0))) : w.cell? ⟨F, 0, none⟩ = some v := by
  rw [cell_of_row w F 0 _ _ (0, 0) h]; rfl
theorem row_ne {B F : Nat} {w : World} {v x : Value} {ps : List Nat} {A : List HT} (h : Row B w v ps A) (hF : w.heap[F]? = some (.cells #[x] 89 (0, 0))) : v.ownBlock ≠ some F := by
  intro e
  obtain ⟨⟨_, h⟩, _⟩ := h
  rcases h with ⟨rfl, _⟩ | ⟨g, cap, cur, rfl, _, hc, _⟩
  · cases e
  · injection e with e
    subst e
    rw [hF] at hc
    injection hc with hc
    injection hc with _ hc _
    cases hc
/-- What a call of Less, of Swap through the interface comes to. -/
theorem swap_fs {B F : Nat} {w : World} {A : List HT} {v : Value} {ps : List Nat} (hB : B ≤ F) (hF : w.heap[F]? = some (.cells #[v] 89 (0, 0))) (hr : Row B w v ps A) (i j : Nat) (hi : i < A.length) (hj : j < A.length) (hl : A.length ≤ 1000000) :
    Calls Try.prog 105 #[v, .int .i64 i, .int .i64 j] w fun e w' => e = .returned (.tuple #[]) ∧ ForS B F w' (swapT A i j) ∧ Kp B w w' :=
  (swap_any B v ps A i j w hr hi hj hl).mono fun e w' ⟨he, ⟨ps', hr'⟩, hk, _, hoth⟩ => ⟨he, ⟨v, ps', hB, by rw [hoth F (row_ne hr hF)]; exact hF, hr'⟩, hk⟩
theorem less_fs {B F : Nat} {w : World} {A : List HT} {v : Value} {ps : List Nat} (hB : B ≤ F) (hF : w.heap[F]? = some (.cells #[v] 89 (0, 0))) (hr : Row B w v ps A) (i j : Nat) (hi : i < A.length) (hj : j < A.length) (hl : A.length ≤ 1000000) :
    Calls Try.prog 102 #[v, .int .i64 i, .int .i64 j] w fun e w' => e = .returned (.bool (ltT (atT A i) (atT A j))) ∧ ForS B F w' A ∧ Kp B w w' :=
  (less_any B v ps A i j w hr hi hj hl).mono fun e w' ⟨he, n, hw⟩ => by
    subst hw
    exact ⟨he, ⟨v, ps, hB, hF, row_drewN hr n⟩, (Kp.refl B w).drewN n⟩

set_option maxRecDepth 100000 in
set_option maxHeartbeats 4000000 in
theorem up_any (B F : Nat) (A : List HT) (j : Nat) (w : World) (h : ForS B F w A) (hj : j < A.length) (hl : A.length ≤ 1000000) (hh : HeapUp A A.length j) :
    Calls Try.prog 83 #[forestV F, .int .i64 j] w fun e w' => e = .returned (.tuple #[]) ∧ ∃ A', ForS B F w' A' ∧ A'.Perm A ∧ Heap A' A'.length ∧ Kp B w w' := by
  have H := Lib.hid h
  have HH := Lib.hid hh
  clear h hh
  go_enter Try.func83, Try.ntmps83
  go_wp2_with fail
  go_loopw [1] (fun i wr => ∃ (k : Nat) (A1 : List HT), i = .int .i64 k ∧ k < A.length ∧ ForS B F wr A1 ∧ A1.Perm A ∧ HeapUp A1 A.length k ∧ Kp B w wr) (fun i _ => (intOf i).toNat)
  case atStart => exact ⟨j, A, rfl, hj, H.out, List.Perm.refl _, HH.out, Kp.refl _ _⟩
  case round =>
    obtain ⟨k, A1, rfl, hk, hfs, hp, hup, hkp⟩ := hrel
    have hlen := hp.length_eq
    obtain ⟨v, ps, hB, hF, hr⟩ := hfs
    have Hp := Lib.hid hp
    have Hup := Lib.hid hup
    have Hkp := Lib.hid hkp
    have HF := Lib.hid hF
    have Hr := Lib.hid hr
    have HB := Lib.hid hB
    have hcell := fs_cell hF
    have m1 := meth_less F wr v hcell
    clear hp hup hkp hF hr H HH hB
    by_cases h0 : k = 0
    · subst h0
      have d1 : (IntKind.i64.wrap ((0 : Int) - 1)).tdiv 2 = 0 := by decide
      go_wp2_with fail
      go_end0
      exact ⟨rfl, A1, ⟨v, ps, HB.out, HF.out, Hr.out⟩, Hp.out, by rw [Hp.out.length_eq]; exact up_end Hup.out (Or.inl rfl), Hkp.out⟩
    · obtain ⟨m, rfl⟩ : ∃ m, k = m + 1 := ⟨k - 1, by omega⟩
      have hpar : par (m + 1) = m / 2 := by unfold par; rw [Nat.add_sub_cancel]
      have hless := less_fs HB.out HF.out Hr.out (m + 1) (m / 2) (by omega) (by omega) (by omega)
      rw [← hpar] at hless
      rw [show (((m + 1 : Nat)) : Int) = (m : Int) + 1 by omega] at hless
      rw [hpar, show ((m / 2 : Nat) : Int) = (m : Int) / 2 by omega, ← hpar] at hless
      have hne : ((m : Int) / 2 == (m : Int) + 1) = false := by simp; omega
      go_wp2_with fail
      refine hless.mono ?_
      rintro e w1 ⟨rfl, hfs1, hkp1⟩
      have Hkp1 := Lib.hid (Hkp.out.trans hkp1)
      clear hless hcell m1 HF Hr HB hkp1
      cases hlt : ltT (atT A1 (m + 1)) (atT A1 (par (m + 1))) with
      | false =>
        have Hlt := Lib.hid hlt
        clear hlt
        go_wp2_with fail
        go_end0
        exact ⟨rfl, A1, hfs1, Hp.out, by rw [Hp.out.length_eq]; exact up_end Hup.out (Or.inr Hlt.out), Hkp1.out⟩
      | true =>
        have Hlt := Lib.hid hlt
        obtain ⟨v2, ps2, hB2, hF2, hr2⟩ := hfs1
        have hcell2 := fs_cell hF2
        have m2 := meth_swap F w1 v2 hcell2
        have hswap := swap_fs hB2 hF2 hr2 (m / 2) (m + 1) (by omega) (by omega) (by omega)
        rw [show (((m + 1 : Nat)) : Int) = (m : Int) + 1 by omega, show ((m / 2 : Nat) : Int) = (m : Int) / 2 by omega, ← hpar] at hswap
        clear hlt hB2 hF2 hr2 hcell2
        go_wp2_with fail
        refine hswap.mono ?_
        rintro e w2 ⟨rfl, hfs2, hkp2⟩
        go_wp2_with fail
        refine ⟨⟨par (m + 1), swapT A1 (par (m + 1)) (m + 1), ?_, by omega, hfs2, ?_, ?_, Hkp1.out.trans hkp2⟩, by simp [intOf]; omega⟩
        · rw [hpar]; congr 1
        · exact (swapT_perm (by omega) (by omega)).trans Hp.out
        · exact up_step (by omega) hk (by omega) Hup.out Hlt.out
end Go.Proofs.Ytolappilfjhfaaa
namespace Go.Proofs.Ytolappilfjhfaaa
open Go.RowKit

theorem child_left_min {A : List HT} {n k : Nat} (h : ¬ 2 * k + 2 < n) : ∀ i, 0 < i → i < n → par i = k → leT (atT A (2 * k + 1)) (atT A i) := fun i h0 hi hp => by
  rcases par_child h0 hp with rfl | rfl
  · exact leT_refl _
  · omega
theorem child_min {A : List HT} {n k c d : Nat} (hcd : (c = 2 * k + 1 ∧ d = 2 * k + 2) ∨ (c = 2 * k + 2 ∧ d = 2 * k + 1)) (h : leT (atT A c) (atT A d)) : ∀ i, 0 < i → i < n → par i = k → leT (atT A c) (atT A i) := fun i h0 _ hp => by
  rcases par_child h0 hp with rfl | rfl <;> rcases hcd with ⟨rfl, rfl⟩ | ⟨rfl, rfl⟩
  · exact leT_refl _
  · exact h
  · exact h
  · exact leT_refl _

set_option maxRecDepth 100000 in
set_option maxHeartbeats 8000000 in
theorem down_any (B F : Nat) (A : List HT) (n : Nat) (w : World) (h : ForS B F w A) (hn : A.length = n + 1) (hl : A.length ≤ 1000000) (hh : HeapDn A n 0) :
    Calls Try.prog 84 #[forestV F, .int .i64 0, .int .i64 n] w fun e w' => (∃ b, e = .returned (.bool b)) ∧ ∃ A', ForS B F w' A' ∧ A'.Perm A ∧ Heap A' n ∧ atT A' n = atT A n ∧ Kp B w w' := by
  have H := Lib.hid h
  have HH := Lib.hid hh
  clear h hh
  go_enter Try.func84, Try.ntmps84
  go_wp2_with fail
  go_loopw [7] (fun i wr => ∃ (k : Nat) (A1 : List HT), i = .int .i64 k ∧ k ≤ n ∧ ForS B F wr A1 ∧ A1.Perm A ∧ HeapDn A1 n k ∧ atT A1 n = atT A n ∧ Kp B w wr) (fun i _ => n - (intOf i).toNat)
  case atStart => exact ⟨0, A, rfl, Nat.zero_le _, H.out, List.Perm.refl _, HH.out, rfl, Kp.refl _ _⟩
  case round =>
    obtain ⟨k, A1, rfl, hk, hfs, hp, hdn, hlast, hkp⟩ := hrel
    have hlen := hp.length_eq
    have Hp := Lib.hid hp
    have Hdn := Lib.hid hdn
    have Hkp := Lib.hid hkp
    have Hlast := Lib.hid hlast
    have Hfs := Lib.hid hfs
    clear hp hdn hkp hfs hlast H HH
    have g0 : (0 : Int) ≤ 2 * (k : Int) + 1 := by omega
    by_cases h1 : 2 * k + 1 < n
    · have hkn : k < n := by omega
      have g1 : 2 * (k : Int) + 1 < (n : Int) := by omega
      have d1 : decide ((n : Int) ≤ 2 * (k : Int) + 1) = false := by simp; omega
      have d2 : decide (2 * (k : Int) + 1 < 0) = false := by simp; omega
      obtain ⟨v, ps, hB, hF, hr⟩ := Hfs.out
      have hcell := fs_cell hF
      have m1 := meth_less F wr v hcell
      by_cases h2 : 2 * k + 2 < n
      · have g2 : 2 * (k : Int) + 1 + 1 < (n : Int) := by omega
        have d3 : decide (2 * (k : Int) + 1 + 1 < (n : Int)) = true := by simp; omega
        have hless := less_fs hB hF hr (2 * k + 2) (2 * k + 1) (by omega) (by omega) (by omega)
        rw [show (((2 * k + 2 : Nat)) : Int) = 2 * (k : Int) + 1 + 1 by omega, show (((2 * k + 1 : Nat)) : Int) = 2 * (k : Int) + 1 by omega] at hless
        clear hB hF hr hcell
        go_wp2_with fail
        refine hless.mono ?_
        rintro e wX ⟨rfl, hfsX, hkpX⟩
        have HkpX := Lib.hid (Hkp.out.trans hkpX)
        have HfsX := Lib.hid hfsX
        clear hless m1 hkpX hfsX
        cases hl2 : ltT (atT A1 (2 * k + 2)) (atT A1 (2 * k + 1)) with
        | true =>
          have Hl2 := Lib.hid hl2
          clear hl2
          have hcn : 2 * k + 2 < n := by omega
          obtain ⟨v3, ps3, hB3, hF3, hr3⟩ := HfsX.out
          have hcell3 := fs_cell hF3
          have m3 := meth_less F wX v3 hcell3
          have hless3 := less_fs hB3 hF3 hr3 (2 * k + 2) k (by omega) (by omega) (by omega)
          rw [show (((2 * k + 2 : Nat)) : Int) = 2 * (k : Int) + 1 + 1 by omega] at hless3
          clear hB3 hF3 hr3 hcell3
          go_wp2_with fail
          refine hless3.mono ?_
          rintro e w4 ⟨rfl, hfs4, hkp4⟩
          have Hkp4 := Lib.hid (HkpX.out.trans hkp4)
          clear hless3 m3 hkp4
          cases hlt : ltT (atT A1 (2 * k + 2)) (atT A1 k) with
          | false =>
            have Hlt := Lib.hid hlt
            have Hmin := Lib.hid (show ∀ i, 0 < i → i < n → par i = k → leT (atT A1 (2 * k + 2)) (atT A1 i) from child_min (Or.inr ⟨rfl, rfl⟩) (leT_of_lt Hl2.out))
            clear hlt
            go_wp2_with fail
            go_ret
            exact ⟨⟨_, rfl⟩, A1, hfs4, Hp.out, dn_end Hdn.out (fun i q1 q2 q3 => leT_trans Hlt.out (Hmin.out i q1 q2 q3)), Hlast.out, Hkp4.out⟩
          | true =>
            have Hlt := Lib.hid hlt
            have Hmin := Lib.hid (show ∀ i, 0 < i → i < n → par i = k → leT (atT A1 (2 * k + 2)) (atT A1 i) from child_min (Or.inr ⟨rfl, rfl⟩) (leT_of_lt Hl2.out))
            obtain ⟨v5, ps5, hB5, hF5, hr5⟩ := hfs4
            have hcell5 := fs_cell hF5
            have m5 := meth_swap F w4 v5 hcell5
            have hswap := swap_fs hB5 hF5 hr5 k (2 * k + 2) (by omega) (by omega) (by omega)
            rw [show (((2 * k + 2 : Nat)) : Int) = 2 * (k : Int) + 1 + 1 by omega] at hswap
            clear hlt hB5 hF5 hr5 hcell5
            go_wp2_with fail
            refine hswap.mono ?_
            rintro e w6 ⟨rfl, hfs6, hkp6⟩
            go_wp2_with fail
            refine ⟨⟨2 * k + 2, swapT A1 k (2 * k + 2), by congr 1, by omega, hfs6, (swapT_perm (by omega) (by omega)).trans Hp.out, dn_step (by omega) hkn hcn (par_right k) (by omega) Hdn.out Hmin.out Hlt.out, ?_, Hkp4.out.trans hkp6⟩, by simp [intOf]; omega⟩
            rw [swapT_at (by omega) (by omega), if_neg (by omega), if_neg (by omega)]
            exact Hlast.out
        | false =>
          have Hl2 := Lib.hid hl2
          clear hl2
          have hcn : 2 * k + 1 < n := by omega
          obtain ⟨v3, ps3, hB3, hF3, hr3⟩ := HfsX.out
          have hcell3 := fs_cell hF3
          have m3 := meth_less F wX v3 hcell3
          have hless3 := less_fs hB3 hF3 hr3 (2 * k + 1) k (by omega) (by omega) (by omega)
          rw [show (((2 * k + 1 : Nat)) : Int) = 2 * (k : Int) + 1 by omega] at hless3
          clear hB3 hF3 hr3 hcell3
          go_wp2_with fail
          refine hless3.mono ?_
          rintro e w4 ⟨rfl, hfs4, hkp4⟩
          have Hkp4 := Lib.hid (HkpX.out.trans hkp4)
          clear hless3 m3 hkp4
          cases hlt : ltT (atT A1 (2 * k + 1)) (atT A1 k) with
          | false =>
            have Hlt := Lib.hid hlt
            have Hmin := Lib.hid (show ∀ i, 0 < i → i < n → par i = k → leT (atT A1 (2 * k + 1)) (atT A1 i) from child_min (Or.inl ⟨rfl, rfl⟩) Hl2.out)
            clear hlt
            go_wp2_with fail
            go_ret
            exact ⟨⟨_, rfl⟩, A1, hfs4, Hp.out, dn_end Hdn.out (fun i q1 q2 q3 => leT_trans Hlt.out (Hmin.out i q1 q2 q3)), Hlast.out, Hkp4.out⟩
          | true =>
            have Hlt := Lib.hid hlt
            have Hmin := Lib.hid (show ∀ i, 0 < i → i < n → par i = k → leT (atT A1 (2 * k + 1)) (atT A1 i) from child_min (Or.inl ⟨rfl, rfl⟩) Hl2.out)
            obtain ⟨v5, ps5, hB5, hF5, hr5⟩ := hfs4
            have hcell5 := fs_cell hF5
            have m5 := meth_swap F w4 v5 hcell5
            have hswap := swap_fs hB5 hF5 hr5 k (2 * k + 1) (by omega) (by omega) (by omega)
            rw [show (((2 * k + 1 : Nat)) : Int) = 2 * (k : Int) + 1 by omega] at hswap
            clear hlt hB5 hF5 hr5 hcell5
            go_wp2_with fail
            refine hswap.mono ?_
            rintro e w6 ⟨rfl, hfs6, hkp6⟩
            go_wp2_with fail
            refine ⟨⟨2 * k + 1, swapT A1 k (2 * k + 1), by congr 1, by omega, hfs6, (swapT_perm (by omega) (by omega)).trans Hp.out, dn_step (by omega) hkn hcn (par_left k) (by omega) Hdn.out Hmin.out Hlt.out, ?_, Hkp4.out.trans hkp6⟩, by simp [intOf]; omega⟩
            rw [swapT_at (by omega) (by omega), if_neg (by omega), if_neg (by omega)]
            exact Hlast.out
      · have g2 : ¬ (2 * (k : Int) + 1 + 1 < (n : Int)) := by omega
        have d3 : decide (2 * (k : Int) + 1 + 1 < (n : Int)) = false := by simp; omega
        have HkpX := Hkp
        have HfsX := Hfs
        obtain ⟨wX, hwX⟩ : ∃ wX : World, wX = wr := ⟨_, rfl⟩
        subst hwX
        clear hB hF hr hcell m1
        have hcn : 2 * k + 1 < n := by omega
        obtain ⟨v3, ps3, hB3, hF3, hr3⟩ := HfsX.out
        have hcell3 := fs_cell hF3
        have m3 := meth_less F wX v3 hcell3
        have hless3 := less_fs hB3 hF3 hr3 (2 * k + 1) k (by omega) (by omega) (by omega)
        rw [show (((2 * k + 1 : Nat)) : Int) = 2 * (k : Int) + 1 by omega] at hless3
        clear hB3 hF3 hr3 hcell3
        go_wp2_with fail
        refine hless3.mono ?_
        rintro e w4 ⟨rfl, hfs4, hkp4⟩
        have Hkp4 := Lib.hid (HkpX.out.trans hkp4)
        clear hless3 m3 hkp4
        cases hlt : ltT (atT A1 (2 * k + 1)) (atT A1 k) with
        | false =>
          have Hlt := Lib.hid hlt
          have Hmin := Lib.hid (show ∀ i, 0 < i → i < n → par i = k → leT (atT A1 (2 * k + 1)) (atT A1 i) from child_left_min h2)
          clear hlt
          go_wp2_with fail
          go_ret
          exact ⟨⟨_, rfl⟩, A1, hfs4, Hp.out, dn_end Hdn.out (fun i q1 q2 q3 => leT_trans Hlt.out (Hmin.out i q1 q2 q3)), Hlast.out, Hkp4.out⟩
        | true =>
          have Hlt := Lib.hid hlt
          have Hmin := Lib.hid (show ∀ i, 0 < i → i < n → par i = k → leT (atT A1 (2 * k + 1)) (atT A1 i) from child_left_min h2)
          obtain ⟨v5, ps5, hB5, hF5, hr5⟩ := hfs4
          have hcell5 := fs_cell hF5
          have m5 := meth_swap F w4 v5 hcell5
          have hswap := swap_fs hB5 hF5 hr5 k (2 * k + 1) (by omega) (by omega) (by omega)
          rw [show (((2 * k + 1 : Nat)) : Int) = 2 * (k : Int) + 1 by omega] at hswap
          clear hlt hB5 hF5 hr5 hcell5
          go_wp2_with fail
          refine hswap.mono ?_
          rintro e w6 ⟨rfl, hfs6, hkp6⟩
          go_wp2_with fail
          refine ⟨⟨2 * k + 1, swapT A1 k (2 * k + 1), by congr 1, by omega, hfs6, (swapT_perm (by omega) (by omega)).trans Hp.out, dn_step (by omega) hkn hcn (par_left k) (by omega) Hdn.out Hmin.out Hlt.out, ?_, Hkp4.out.trans hkp6⟩, by simp [intOf]; omega⟩
          rw [swapT_at (by omega) (by omega), if_neg (by omega), if_neg (by omega)]
          exact Hlast.out
    · have g1 : (n : Int) ≤ 2 * (k : Int) + 1 := by omega
      have d1 : decide ((n : Int) ≤ 2 * (k : Int) + 1) = true := by simp; omega
      go_wp2_with fail
      go_ret
      exact ⟨⟨_, rfl⟩, A1, Hfs.out, Hp.out, dn_end Hdn.out (fun i q1 q2 q3 => by rcases par_child q1 q3 with h | h <;> omega), Hlast.out, Hkp.out⟩
end Go.Proofs.Ytolappilfjhfaaa
namespace Go.Proofs.Ytolappilfjhfaaa
open Go.RowKit

theorem info_ptr : (Try.prog.info? 91).map (fun i => (i.zero, i.size, i.bytes)) = some (some (.pointer none), 1, 8) := by kernel_rfl
theorem cell_one_new' (w : World) (v : Value) (t : TypeId) : ∀ j u, [v][j]? = some u → (w.alloc (.cells #[v] t)).cell? ((⟨w.heap.size, 0, none⟩ : Addr).add j) = some u := cell_one_new w v t

theorem assert_tree (p : Nat) (w : World) : (Instr.typeAssert (.iface 91 (ptrV p)) 20 91 false).run Try.prog w = .ok (ptrV p) w := by kernel_rfl

/-- Behind an append the forest's row is longer by one. -/
theorem fs_append {B F : Nat} {w w1 : World} {A : List HT} {v v1 : Value} {ps : List Nat} {p : Nat} {t : HT} {o : Obj} (hB : B ≤ F) (hF : w.heap[F]? = some (.cells #[v] 89 (0, 0))) (hr : Row B w v ps A) (hrep : Rep w p t)
    (hown : w1.ownsRow B 91 1 v1 (A.length + 1) (ps.map ptrV ++ [ptrV p])) (hg : (w.alloc o).grownBy w1 v.ownBlock) :
    (w1.heap[F]? = some (.cells #[v] 89 (0, 0))) ∧ ForS B F (w1.setCell ⟨F, 0, none⟩ v1) (A ++ [t]) ∧ Kp B w (w1.setCell ⟨F, 0, none⟩ v1) := by
  have hFlt : F < w.heap.size := by
    rcases Nat.lt_or_ge F w.heap.size with q | q
    · exact q
    · rw [Array.getElem?_eq_none q] at hF; cases hF
  have hne := row_ne hr hF
  have hBw : B ≤ w.heap.size := by omega
  have hF1 : w1.heap[F]? = some (.cells #[v] 89 (0, 0)) := by
    rw [hg.block F (by simp; omega) (fun e => hne e.symm), Below.heap_alloc _ _ _ hFlt]; exact hF
  have hbl : Below B w w1 := ((Below.refl B w).alloc hBw o).grown hg (by simp; omega) (fun k hk => owns_block hr.1 k hk)
  have hkp1 : Kp B w w1 := ⟨hbl, fun b cs ty hb h1 h2 => by
    have hblt : b < w.heap.size := by
      rcases Nat.lt_or_ge b w.heap.size with q | q
      · exact q
      · rw [Array.getElem?_eq_none q] at hb; cases hb
    have hbne : some b ≠ v.ownBlock := fun e => by
      obtain ⟨⟨_, h⟩, _⟩ := hr
      rcases h with ⟨rfl, _⟩ | ⟨g, cap, cur, rfl, _, hc, _⟩
      · cases e
      · injection e with e
        subst e
        rw [hb] at hc
        injection hc with hc
        injection hc with _ hc _
        exact h2 hc
    rw [hg.block b (by simp; omega) hbne, Below.heap_alloc _ _ _ hblt]⟩
  have hset : (w1.setCell ⟨F, 0, none⟩ v1).heap[F]? = some (.cells #[v1] 89 (0, 0)) := by
    rw [heap_setCell_same w1 F 0 _ _ v1 hF1]; rfl
  have hkp2 : Kp B w1 (w1.setCell ⟨F, 0, none⟩ v1) := ⟨(Below.refl B w1).setCell (p := ⟨F, 0, none⟩) hB v1, fun b cs ty hb h1 h2 => by
    refine Below.heap_setCell _ _ _ _ fun e => ?_
    have e : b = F := e
    subst e
    rw [hF1] at hb
    injection hb with hb
    injection hb with _ hb _
    exact h1 hb.symm⟩
  refine ⟨hF1, ⟨v1, ps ++ [p], hB, hset, ?_⟩, hkp1.trans hkp2⟩
  have hrow1 : Row B w1 v1 (ps ++ [p]) (A ++ [t]) := by
    refine ⟨by rw [List.length_append, List.map_append]; exact hown, by simp [hr.2.1], fun i h h' => ?_⟩
    have hpl := hr.2.1
    by_cases hi : i < A.length
    · rw [List.getElem_append_left (by omega), List.getElem_append_left hi]
      exact rep_kp hkp1 (hr.2.2 i hi (by omega))
    · have : i = A.length := by simp at h; omega
      subst this
      rw [List.getElem_append_right (by omega), List.getElem_append_right (by omega)]
      simp only [hpl, Nat.sub_self, List.getElem_cons_zero]
      exact rep_kp hkp1 hrep
  refine row_kp hrow1 hkp2 fun g hg' => Below.heap_setCell _ _ _ _ fun e => ?_
  have e : g = F := e
  subst e
  exact row_ne hrow1 hF1 hg'

set_option maxRecDepth 100000 in
set_option maxHeartbeats 4000000 in
theorem pushM_any (B F : Nat) (A : List HT) (p : Nat) (t : HT) (w : World) (h : ForS B F w A) (hrep : Rep w p t) (hl : A.length < 1000000) :
    Calls Try.prog 104 #[.pointer (some ⟨F, 0, none⟩), .iface 91 (ptrV p)] w fun e w' => e = .returned (.tuple #[]) ∧ ForS B F w' (A ++ [t]) ∧ Kp B w w' := by
  obtain ⟨i0, hi, hz0, hz1, hz2⟩ := info_parts info_ptr
  obtain ⟨v, ps, hB, hF, hr⟩ := h
  have hFlt : F < w.heap.size := by
    rcases Nat.lt_or_ge F w.heap.size with q | q
    · exact q
    · rw [Array.getElem?_eq_none q] at hF; cases hF
  have hcell := fs_cell hF
  have hfr := frozen_of_row w F 0 _ _ hF
  have hta := assert_tree p
  obtain ⟨a0, c0, rfl, _⟩ := owns_shape hr.1
  have HF := Lib.hid hF
  have Hr := Lib.hid hr
  have Hrep := Lib.hid hrep
  have HB := Lib.hid hB
  clear hF hr hrep
  go_enter Try.func104, Try.ntmps104
  go_wp2_with fail
  have hownD : ((w.alloc (.cells #[ptrV p] 91)).drew).ownsRow B 91 1 (.slice a0 A.length c0) A.length (ps.map ptrV) := Hr.out.1.alloc _
  have HownD := Lib.hid hownD
  have HnewsD := Lib.hid (show ∀ j u, [ptrV p][j]? = some u → ((w.alloc (.cells #[ptrV p] 91)).drew).cell? ((⟨w.heap.size, 0, none⟩ : Addr).add j) = some u from cell_one_new w (ptrV p) 91)
  have HbaseD : Hid (B ≤ ((w.alloc (.cells #[ptrV p] 91)).drew).heap.size) := by unfold Hid; have := HB.out; simp; omega
  have H63 : Hid (A.length + 1 ≤ maxLen) := by unfold Hid; simp [maxLen]; omega
  have Hby : Hid ((A.length + 1) * 8 ≤ 140737488355328) := by unfold Hid; omega
  have Hone : Hid (∀ u ∈ [ptrV p], u.oneCell' = true) := by unfold Hid; simp [Value.oneCell']
  clear hownD
  go_region_law ((refine step_append_lies _ (by rfl) _ _ 89 (by rfl) B 91 i0 (.pointer none) 1 8 Try.underlying89 hi hz0 hz1 hz2 rfl (by decide) (.slice a0 A.length c0) A.length (ps.map ptrV) (by rfl) HownD.out ⟨w.heap.size, 0, none⟩ 1 1 [ptrV p] (by rfl) rfl HnewsD.out Hone.out (by decide) H63.out Hby.out HbaseD.out _ rfl ?_; intro g cap w1 hown1 hgrow hat hlt; have hg2 : (w.alloc (.cells #[ptrV p] 91)).grownBy w1 (Value.slice a0 A.length c0).ownBlock := ⟨hgrow.os, hgrow.tape, hgrow.output, hgrow.size, hgrow.block⟩; have hfs := fs_append HB.out HF.out Hr.out Hrep.out hown1 hg2; have hc1 := fs_cell hfs.1; have hf1 := frozen_of_row w1 F 0 _ _ hfs.1; have Hfs := Lib.hid hfs; clear hown1 hgrow hg2 hat hlt hfs))
  all_goals
    go_wp2_with fail
    go_end0
    exact ⟨rfl, Hfs.out.2.1, Hfs.out.2.2⟩

theorem owns_take {w : World} {base e n m cap : Nat} {a : Option Addr} {cs : List Value} (h : w.ownsRow base e 1 (.slice a n cap) n cs) (hm : m ≤ n) : w.ownsRow base e 1 (.slice a m cap) m (cs.take m) := by
  obtain ⟨hl, h⟩ := h
  refine ⟨by rw [List.length_take]; omega, ?_⟩
  rcases h with ⟨h, rfl⟩ | ⟨g, cap', cur, hv, hg, hc, hn, hm', hs, ht⟩
  · obtain rfl : m = 0 := by omega
    injection h with h1 h2 h3
    subst h1 h3
    exact Or.inl ⟨rfl, rfl⟩
  · injection hv with h1 _ h3
    subst h1 h3
    refine Or.inr ⟨g, cap, cur, rfl, hg, hc, by omega, hm', hs, ?_⟩
    rw [← ht, List.take_take]
    congr 1
    omega

set_option maxRecDepth 100000 in
set_option maxHeartbeats 4000000 in
theorem popM_any (B F : Nat) (A : List HT) (n : Nat) (w : World) (h : ForS B F w A) (hn : A.length = n + 1) (hl : A.length ≤ 1000000) :
    Calls Try.prog 103 #[.pointer (some ⟨F, 0, none⟩)] w fun e w' => ∃ p, e = .returned (.iface 91 (ptrV p)) ∧ Rep w' p (atT A n) ∧ ForS B F w' (A.take n) ∧ Kp B w w' := by
  obtain ⟨v, ps, hB, hF, hr⟩ := h
  have hcell := fs_cell hF
  have hfr := frozen_of_row w F 0 _ _ hF
  obtain ⟨g, cap, rfl, hc, _, hcl⟩ := row_cells hr (by omega)
  obtain ⟨hi', c1, _, r1⟩ := hcl n (by omega)
  have hkp : Kp B w (w.setCell ⟨F, 0, none⟩ (.slice (some ⟨g, 0, none⟩) n cap)) := ⟨(Below.refl B w).setCell (p := ⟨F, 0, none⟩) hB _, fun b cs ty hb h1 _ => by
    refine Below.heap_setCell _ _ _ _ fun e => ?_
    have e : b = F := e
    subst e
    rw [hF] at hb
    injection hb with hb
    injection hb with _ hb _
    exact h1 hb.symm⟩
  have hset : (w.setCell ⟨F, 0, none⟩ (.slice (some ⟨g, 0, none⟩) n cap)).heap[F]? = some (.cells #[.slice (some ⟨g, 0, none⟩) n cap] 89 (0, 0)) := by
    rw [heap_setCell_same w F 0 _ _ _ hF]; rfl
  have hgF : g ≠ F := fun e => row_ne hr hF (by rw [← e]; rfl)
  have htl : (A.take n).length = n := by rw [List.length_take]; omega
  have hrow : Row B w (.slice (some ⟨g, 0, none⟩) n cap) (ps.take n) (A.take n) := by
    refine ⟨?_, by rw [List.length_take, List.length_take, hr.2.1], fun i h h' => ?_⟩
    · rw [htl, List.map_take]
      have := hr.1
      rw [hn] at this
      exact owns_take this (by omega)
    · rw [List.getElem_take, List.getElem_take]
      exact hr.2.2 i (by rw [htl] at h; omega) (by rw [List.length_take] at h'; omega)
  have hfs : ForS B F (w.setCell ⟨F, 0, none⟩ (.slice (some ⟨g, 0, none⟩) n cap)) (A.take n) :=
    ⟨_, _, hB, hset, row_kp hrow hkp fun g' hg' => Below.heap_setCell _ _ _ _ fun e => by
      have e : g' = F := e
      injection hg' with hg'
      exact hgF (by rw [← e, ← hg'])⟩
  have hrep := rep_kp hkp r1
  rw [← atT_get (by omega)] at hrep
  have Hfs := Lib.hid hfs
  have Hkp := Lib.hid hkp
  have Hrep := Lib.hid hrep
  have g0 : (n : Int) < (A.length : Int) := by omega
  rw [hn] at hcell hc
  clear hfs hkp hrep hrow hset htl hcl hF hr r1
  generalize ps[n] = p at *
  clear hi'
  have x1 : (((n + 1 : Nat) : Int) - 1) = (n : Int) := by omega
  have g1 : (n : Int) < ((n + 1 : Nat) : Int) := by omega
  have g2 : (n : Int) ≤ (cap : Int) := by omega
  go_enter Try.func103, Try.ntmps103
  go_wp2_with fail
  go_ret
  exact ⟨p, rfl, Hrep.out, Hfs.out, Hkp.out⟩
end Go.Proofs.Ytolappilfjhfaaa
namespace Go.Proofs.Ytolappilfjhfaaa
open Go.RowKit

set_option maxRecDepth 100000 in
set_option maxHeartbeats 4000000 in
theorem push_any (B F : Nat) (A : List HT) (p : Nat) (t : HT) (w : World) (h : ForS B F w A) (hrep : Rep w p t) (hl : A.length < 1000000) (hh : Heap A A.length) :
    Calls Try.prog 70 #[forestV F, .iface 91 (ptrV p)] w fun e w' => e = .returned (.tuple #[]) ∧ ∃ A', ForS B F w' A' ∧ A'.Perm (t :: A) ∧ Heap A' A'.length ∧ Kp B w w' := by
  have H := Lib.hid h
  have Hrep := Lib.hid hrep
  have HH := Lib.hid hh
  clear h hrep hh
  have m1 := fun wx => meth_push ⟨F, 0, none⟩ wx
  go_enter Try.func70, Try.ntmps70
  go_wp2_with fail
  refine (pushM_any B F A p t w H.out Hrep.out hl).mono ?_
  rintro e w1 ⟨rfl, hfs1, hkp1⟩
  have Hfs1 := Lib.hid hfs1
  have Hkp1 := Lib.hid hkp1
  obtain ⟨v, ps, hB, hF, hr⟩ := hfs1
  have hcell := fs_cell hF
  have m2 := meth_len F w1 v hcell
  have hlen : (A ++ [t]).length = A.length + 1 := by simp
  obtain ⟨a0, c0, rfl, _⟩ := owns_shape hr.1
  have hln := len_any _ (A ++ [t]).length w1 a0 c0 rfl
  rw [hlen] at hln
  rw [hlen] at hcell m2
  clear hB hF hr m1 hkp1 hcell
  go_wp2_with fail
  refine hln.mono ?_
  rintro e w2 ⟨rfl, rfl⟩
  have hup := up_any B F (A ++ [t]) A.length w1 Hfs1.out (by simp) (by simp; omega) (by rw [hlen]; exact up_start HH.out)
  have x1 : (((A.length + 1 : Nat) : Int) - 1) = (A.length : Int) := by omega
  clear hln m2
  go_wp2_with fail
  refine hup.mono ?_
  rintro e w3 ⟨rfl, A', hfs3, hp3, hh3, hkp3⟩
  go_wp2_with fail
  go_end0
  exact ⟨rfl, A', hfs3, hp3.trans (List.perm_append_comm (l₁ := A) (l₂ := [t])), hh3, Hkp1.out.trans hkp3⟩

theorem take_at {A : List HT} {n i : Nat} (hi : i < n) : atT (A.take n) i = atT A i := by
  unfold atT; rw [List.getElem?_take_of_lt hi]

set_option maxRecDepth 100000 in
set_option maxHeartbeats 4000000 in
theorem pop_any (B F : Nat) (A : List HT) (n : Nat) (w : World) (h : ForS B F w A) (hn : A.length = n + 1) (hl : A.length ≤ 1000000) (hh : Heap A A.length) :
    Calls Try.prog 72 #[forestV F] w fun e w' => ∃ p t A', e = .returned (.iface 91 (ptrV p)) ∧ Rep w' p t ∧ ForS B F w' A' ∧ (t :: A').Perm A ∧ (∀ x ∈ A', leT t x) ∧ Heap A' A'.length ∧ Kp B w w' := by
  have H := Lib.hid h
  have HH := Lib.hid hh
  obtain ⟨v, ps, hB, hF, hr⟩ := h
  have hcell := fs_cell hF
  have m1 := meth_len F w v hcell
  have m2 := meth_swap F w v hcell
  have hsw := swap_fs hB hF hr 0 n (by omega) (by omega) hl
  obtain ⟨a0, c0, rfl, _⟩ := owns_shape hr.1
  have hln := len_any _ A.length w a0 c0 rfl
  rw [hn] at hln m1 m2 hsw
  have x1 : (((n + 1 : Nat) : Int) - 1) = (n : Int) := by omega
  clear hB hF hr hcell hh
  go_enter Try.func72, Try.ntmps72
  go_wp2_with fail
  refine hln.mono ?_
  rintro e w1 ⟨rfl, rfl⟩
  clear m1 hln
  go_wp2_with fail
  refine hsw.mono ?_
  rintro e w2 ⟨rfl, hfs2, hkp2⟩
  have Hkp2 := Lib.hid hkp2
  have hdn := down_any B F (swapT A 0 n) n w2 hfs2 (by rw [swapT_length]; exact hn) (by rw [swapT_length]; exact hl) (dn_start hn (by have := HH.out; rwa [hn] at this))
  clear hsw m2 hkp2 hfs2
  go_wp2_with fail
  refine hdn.mono ?_
  rintro e w3 ⟨⟨b, rfl⟩, A3, hfs3, hp3, hh3, hlast, hkp3⟩
  have Hkp3 := Lib.hid (Hkp2.out.trans hkp3)
  have hlen3 : A3.length = n + 1 := by rw [hp3.length_eq, swapT_length]; exact hn
  have m3 := meth_pop ⟨F, 0, none⟩ w3
  have hpm := popM_any B F A3 n w3 hfs3 hlen3 (by omega)
  have Hp3 := Lib.hid (hp3.trans (swapT_perm (by omega) (by omega)))
  have Hh3 := Lib.hid hh3
  have Hlast : Hid (atT A3 n = atT A 0) := by
    unfold Hid
    rw [hlast, swapT_at (by omega) (by omega), if_pos rfl]
  have Hlen3 := Lib.hid hlen3
  clear hdn hfs3 hp3 hh3 hlast hkp3 hlen3
  go_wp2_with fail
  refine hpm.mono ?_
  rintro e w4 ⟨p, rfl, hrep4, hfs4, hkp4⟩
  have Hrep4 := Lib.hid hrep4
  have Hfs4 := Lib.hid hfs4
  have Hkp4 := Lib.hid (Hkp3.out.trans hkp4)
  clear hpm m3 hrep4 hfs4 hkp4
  go_wp2_with fail
  go_ret
  have htl : (A3.take n).length = n := by rw [List.length_take, Hlen3.out]; omega
  have hperm : (atT A3 n :: A3.take n).Perm A := by
    have hlt : n < A3.length := by rw [Hlen3.out]; omega
    have e : A3 = A3.take n ++ [atT A3 n] := by
      rw [atT_get hlt, ← List.take_succ_eq_append_getElem hlt, List.take_of_length_le (by rw [Hlen3.out]; exact Nat.le_refl _)]
    have h1 : (atT A3 n :: A3.take n).Perm (A3.take n ++ [atT A3 n]) := List.perm_append_comm (l₁ := [atT A3 n]) (l₂ := A3.take n)
    rw [← e] at h1
    exact h1.trans Hp3.out
  refine ⟨p, _, _, rfl, Hrep4.out, Hfs4.out, hperm, fun x hx => ?_, fun i h0 hi => ?_, Hkp4.out⟩
  · rw [Hlast.out]
    have hxA := hperm.mem_iff.1 (List.mem_cons_of_mem _ hx)
    obtain ⟨j, hj, rfl⟩ := List.getElem_of_mem hxA
    rw [← atT_get hj]
    exact heap_min HH.out j hj
  · rw [htl] at hi
    have := par_lt h0
    rw [take_at (by omega), take_at hi]
    exact Hh3.out i h0 hi

/-- All blocks but those of integers are as they were. -/
structure Km (B : Nat) (w w' : World) : Prop where
  below : Below B w w'
  keep : ∀ (b : Nat) (cs : Array Value) (t : TypeId), w.heap[b]? = some (Obj.cells cs t (0, 0)) → t ≠ 3 → w'.heap[b]? = w.heap[b]?
theorem rep_km {B : Nat} {w w' : World} (h : Km B w w') : ∀ {t : HT} {p : Nat}, Rep w p t → Rep w' p t := by
  intro t
  induction t with
  | leaf x n => intro p hr; exact (h.keep p _ _ hr (by decide)).trans hr
  | node l r ihl ihr =>
    intro p hr
    obtain ⟨pl, pr, hh, hl, hr⟩ := hr
    exact ⟨pl, pr, (h.keep p _ _ hh (by decide)).trans hh, ihl hl, ihr hr⟩
theorem Km.trans {B : Nat} {a b c : World} (h : Km B a b) (k : Km B b c) : Km B a c :=
  ⟨h.below.trans k.below, fun g cs t hg h1 => by rw [k.keep g cs t (by rw [h.keep g cs t hg h1]; exact hg) h1, h.keep g cs t hg h1]⟩
/-- The row of depths. -/
abbrev Lens (B : Nat) (w : World) (v : Value) (L : List Int) : Prop := w.ownsRow B 3 1 v L.length (L.map (Value.int .i64))
def height : HT → Nat
  | .leaf _ _ => 0
  | .node l r => max (height l) (height r) + 1

set_option maxRecDepth 100000 in
set_option maxHeartbeats 4000000 in
theorem mark_any (B : Nat) (t : HT) : ∀ (p d : Nat) (v : Value) (L : List Int) (w : World), Rep w p t → Lens B w v L → (∀ s ∈ syms t, s < L.length) → L.length ≤ 1000000 → d + height t ≤ 1000000 →
    Calls Try.prog 73 #[ptrV p, .int .i64 d, v] w fun e w' => e = .returned (.tuple #[]) ∧ Lens B w' v (markL t d L) ∧ Km B w w' := by
  induction t with
  | leaf x n =>
    intro p d v L w hrep hown hs hl hd
    have hn : n < L.length := hs n (by simp [syms])
    have c2 : w.cell? ⟨p, 2, none⟩ = some (.pointer none) := by rw [cell_of_row w p 2 _ _ (0, 0) hrep]; rfl
    have c1 : w.cell? ⟨p, 1, none⟩ = some (.int .i64 n) := by rw [cell_of_row w p 1 _ _ (0, 0) hrep]; rfl
    obtain ⟨g, cap, rfl, hBg, _⟩ := hown.form (by omega)
    have e1 : w.cell? ⟨g, n, none⟩ = some (.int .i64 L[n]) := by
      rw [hown.cellAt n (by omega), List.getElem?_map, List.getElem?_eq_getElem hn]; rfl
    have e2 := hown.frozenAt n
    have hst := (hown.stored n (.int .i64 (d : Int))).1
    rw [← List.map_set] at hst
    have Hst := Lib.hid hst
    have hgi : ∃ cur, w.heap[g]? = some (.cells cur 3 (0, 0)) := by
      obtain ⟨_, h⟩ := hown
      rcases h with ⟨h, _⟩ | ⟨g', cap', cur, hv, _, hc', _⟩
      · cases h
      · injection hv with hv _ _
        injection hv with hv
        injection hv with hv
        subst hv
        exact ⟨cur, hc'⟩
    obtain ⟨cur, hcur⟩ := hgi
    have hkm : Km B w (w.setCell ⟨g, n, none⟩ (.int .i64 (d : Int))) := ⟨(Below.refl B w).setCell (p := ⟨g, n, none⟩) hBg _, fun b cs ty hb h1 => by
      refine Below.heap_setCell _ _ _ _ fun e => ?_
      have e : b = g := e
      subst e
      rw [hcur] at hb
      injection hb with hb
      injection hb with _ hb _
      exact h1 hb.symm⟩
    have Hkm := Lib.hid hkm
    have g0 : (n : Int) < (L.length : Int) := by omega
    have g1 : (0 : Int) ≤ (n : Int) := by omega
    clear hst hkm hown hcur hrep hs
    go_enter Try.func73, Try.ntmps73
    go_wp2_with fail
    first | go_end0 | refine bodyPost_ret (results_none rfl _ _ _) rfl ?_
    exact ⟨rfl, by show Lens B _ _ (L.set n d); unfold Lens; rw [List.length_set]; exact Hst.out, Hkm.out⟩
  | node l r ihl ihr =>
    intro p d v L w hrep hown hs hl hd
    obtain ⟨pl, pr, hh, hl', hr'⟩ := hrep
    have c2 : w.cell? ⟨p, 2, none⟩ = some (ptrV pl) := by rw [cell_of_row w p 2 _ _ (0, 0) hh]; rfl
    have c3 : w.cell? ⟨p, 3, none⟩ = some (ptrV pr) := by rw [cell_of_row w p 3 _ _ (0, 0) hh]; rfl
    rw [height] at hd
    have i0 : ∀ wx, (Instr.index 92 (.agg #[ptrV pl, ptrV pr]) (.int .i64 0)).run Try.prog wx = .ok (ptrV pl) wx := fun _ => by kernel_rfl
    have i1 : ∀ wx, (Instr.index 92 (.agg #[ptrV pl, ptrV pr]) (.int .i64 1)).run Try.prog wx = .ok (ptrV pr) wx := fun _ => by kernel_rfl
    have h1 := ihl pl (d + 1) v L w hl' hown (fun s h => hs s (by rw [syms]; exact List.mem_append_left _ h)) hl (by omega)
    have Hown := Lib.hid hown
    have Hr := Lib.hid hr'
    have Hs := Lib.hid hs
    clear hown hr' hl' hh hs
    go_enter Try.func73, Try.ntmps73
    go_wp2_with fail
    refine wp_loop_rounds 3 ?_
    rw [rounds_succ]
    go_wp2_with fail
    refine h1.mono ?_
    rintro e w1 ⟨rfl, hown1, hkm1⟩
    have Hkm1 := Lib.hid hkm1
    have h2 := ihr pr (d + 1) v (markL l (d + 1 : Nat) L) w1 (rep_km hkm1 Hr.out) hown1 (fun s h => by rw [markL_length]; exact Hs.out s (by rw [syms]; exact List.mem_append_right _ h)) (by rw [markL_length]; exact hl) (by omega)
    clear h1 hown1 hkm1
    go_wp2_with fail
    rw [rounds_succ]
    go_wp2_with fail
    refine h2.mono ?_
    rintro e w2 ⟨rfl, hown2, hkm2⟩
    go_wp2_with fail
    rw [rounds_succ]
    go_wp2_with fail
    go_end0
    exact ⟨rfl, hown2, Hkm1.out.trans hkm2⟩
end Go.Proofs.Ytolappilfjhfaaa
namespace Go.Proofs.Ytolappilfjhfaaa
open Go.RowKit

theorem height_lt (t : HT) : height t + 1 ≤ (syms t).length := by
  induction t with
  | leaf w n => simp [height, syms]
  | node l r ihl ihr => rw [height, syms, List.length_append]; omega
/-- All the weight. -/
def wtSum (F : List HT) : Int := (F.map wt).sum
theorem wtSum_cons (t : HT) (F : List HT) : wtSum (t :: F) = wt t + wtSum F := by simp [wtSum]
theorem wtSum_perm {F G : List HT} (h : F.Perm G) : wtSum F = wtSum G := by
  induction h with
  | nil => rfl
  | cons x _ ih => rw [wtSum_cons, wtSum_cons, ih]
  | swap x y l => rw [wtSum_cons, wtSum_cons, wtSum_cons, wtSum_cons]; omega
  | trans _ _ ih1 ih2 => exact ih1.trans ih2
theorem owns_none (w : World) (e size : Nat) : (w.alloc (.cells #[] e)).ownsRow w.heap.size e size (.slice (some ⟨w.heap.size, 0, none⟩) 0 0) 0 [] :=
  ⟨by simp, Or.inr ⟨w.heap.size, 0, #[], rfl, Nat.le_refl _, heap_alloc_new w _, Nat.le_refl _, by simp [maxLen], by simp, by simp⟩⟩
def Pos (F : List HT) : Prop := ∀ t ∈ F, 0 < wt t
theorem pos_perm {F G : List HT} (h : F.Perm G) (hp : Pos F) : Pos G := fun t ht => hp t (h.mem_iff.2 ht)
theorem wtSum_nonneg {F : List HT} (h : Pos F) : 0 ≤ wtSum F := by
  induction F with
  | nil => exact Int.le_refl _
  | cons t F ih =>
    have := h t (List.mem_cons_self ..)
    have := ih fun x hx => h x (List.mem_cons_of_mem _ hx)
    rw [wtSum_cons]; omega
theorem apart_wt {F : List HT} (h : Pos F) {t : HT} (ht : t ∈ F) : wt t ≤ wtSum F := by
  induction F with
  | nil => cases ht
  | cons x F ih =>
    have hx := h x (List.mem_cons_self ..)
    have hF : Pos F := fun y hy => h y (List.mem_cons_of_mem _ hy)
    have := wtSum_nonneg hF
    rw [wtSum_cons]
    rcases List.mem_cons.1 ht with rfl | ht
    · omega
    · have := ih hF ht; omega
theorem initT_pos (f : List Int) : Pos (initT f) := fun t ht => by
  obtain ⟨i, _, h, rfl⟩ := initT_mem.1 ht
  exact h
theorem initTo_sum (f : List Int) {m : Int} (hm : 0 ≤ m) (hf : ∀ x ∈ f, x ≤ m) : ∀ k, k ≤ f.length → wtSum (initTo f k) ≤ m * k := by
  intro k
  induction k with
  | zero => intro _; rw [initTo_zero]; simp [wtSum]
  | succ k ih =>
    intro hk
    have hlt : k < f.length := by omega
    have h1 := ih (by omega)
    have e : m * ((k + 1 : Nat) : Int) = m * k + m := by rw [show ((k + 1 : Nat) : Int) = (k : Int) + 1 by omega, Int.mul_add, Int.mul_one]
    by_cases h : 0 < f[k]
    · have h2 := hf f[k] (List.getElem_mem hlt)
      rw [initTo_yes hlt h, e]
      have : wtSum (initTo f k ++ [.leaf f[k] k]) = wtSum (initTo f k) + f[k] := by simp [wtSum, wt, List.sum_append]
      rw [this]; omega
    · rw [initTo_no hlt h, e]; omega

theorem kp_alloc {B : Nat} {w : World} (hB : B ≤ w.heap.size) (o : Obj) : Kp B w (w.alloc o) := (Kp.refl B w).alloc hB o
theorem fs_lt {B F : Nat} {w : World} {A : List HT} (h : ForS B F w A) : F < w.heap.size := by
  obtain ⟨v, ps, _, hF, _⟩ := h
  rcases Nat.lt_or_ge F w.heap.size with q | q
  · exact q
  · rw [Array.getElem?_eq_none q] at hF; cases hF
theorem fs_alloc {B F : Nat} {w : World} {A : List HT} (h : ForS B F w A) (o : Obj) : ForS B F (w.alloc o) A := by
  have hlt := fs_lt h
  obtain ⟨v, ps, hB, hF, hr⟩ := h
  refine ⟨v, ps, hB, by rw [Below.heap_alloc _ _ _ hlt]; exact hF, row_kp hr (kp_alloc (by omega) o) fun g hg => Below.heap_alloc _ _ _ (hr.1.lt g hg).2⟩
theorem rep_alloc {w : World} {p : Nat} {t : HT} (h : Rep w p t) (o : Obj) : Rep (w.alloc o) p t := rep_kp (kp_alloc (Nat.zero_le _) o) h
/-- A block that has just been laid holds a symbol; two trees. -/
theorem rep_leaf (w : World) (x : Int) (n : Nat) : Rep (w.alloc (.cells #[.int .i64 x, .int .i64 n, .pointer none, .pointer none] 94)) w.heap.size (.leaf x n) := heap_alloc_new w _
theorem rep_node {w : World} {p q : Nat} {a b : HT} (hp : Rep w p a) (hq : Rep w q b) : Rep (w.alloc (.cells #[.int .i64 (wt a + wt b), .int .i64 (min (nm a) (nm b) : Nat), ptrV p, ptrV q] 94)) w.heap.size (.node a b) :=
  ⟨p, q, heap_alloc_new w _, rep_alloc hp _, rep_alloc hq _⟩
theorem wtSum_node (a b : HT) (R : List HT) : wtSum (.node a b :: R) = wtSum (a :: b :: R) := by
  rw [wtSum_cons, wtSum_cons, wtSum_cons, wt]; omega
theorem rep_lt {w : World} {p : Nat} {t : HT} (h : Rep w p t) : p < w.heap.size := by
  rcases Nat.lt_or_ge p w.heap.size with q | q
  · exact q
  · cases t with
    | leaf x n => have h : w.heap[p]? = _ := h; rw [Array.getElem?_eq_none q] at h; cases h
    | node l r => obtain ⟨_, _, h, _⟩ := h; rw [Array.getElem?_eq_none q] at h; cases h
theorem heads {w : World} {p q : Nat} {a b : HT} (h : Rep w p a) (k : Rep w q b) : w.cell? ⟨p, 0, none⟩ = some (.int .i64 (wt a)) ∧ w.cell? ⟨p, 1, none⟩ = some (.int .i64 (nm a)) ∧ w.cell? ⟨q, 0, none⟩ = some (.int .i64 (wt b)) ∧ w.cell? ⟨q, 1, none⟩ = some (.int .i64 (nm b)) :=
  ⟨(rep_head h).1, (rep_head h).2, (rep_head k).1, (rep_head k).2⟩
theorem fs_drew {B F : Nat} {w : World} {A : List HT} (h : ForS B F w A) : ForS B F w.drew A := fs_drewN h 1
theorem rep_drew {w : World} {p : Nat} {t : HT} (h : Rep w p t) : Rep w.drew p t := rep_kp ((Kp.refl 0 w).drewN 1) h
theorem held_alloc {W a : World} {o : Obj} (h : Held W a) : Held W (a.alloc o) := held_of (h.2.alloc h.2.size o)
theorem lens_kp {B B' : Nat} {w w' : World} {v : Value} {L : List Int} (h : Lens B w v L) (hk : Kp B' w w') : Lens B w' v L := by
  obtain ⟨hl, h⟩ := h
  refine ⟨hl, ?_⟩
  rcases h with h | ⟨g, cap, cur, rfl, hg, hc, rest⟩
  · exact Or.inl h
  · exact Or.inr ⟨g, cap, cur, rfl, hg, (hk.keep g _ _ hc (by decide) (by decide)).trans hc, rest⟩
theorem info_int : (Try.prog.info? 3).map (fun i => (i.zero, i.size, i.bytes)) = some (some (.int .i64 0), 1, 8) := by kernel_rfl
theorem made_zero (n : Nat) : (madeCells #[Value.int .i64 0] n).toList = (List.replicate n (0 : Int)).map (Value.int .i64) := by
  apply List.ext_getElem
  · simp [madeCells]
  · intro i h1 h2
    simp [madeCells, Nat.mod_one]
/-- How many trees a forest's slice has. -/
def lenOf : Option Value → Nat
  | some (.slice _ n _) => n
  | _ => 0
theorem fs_len {B F : Nat} {w : World} {A : List HT} (h : ForS B F w A) : lenOf (w.cell? ⟨F, 0, none⟩) = A.length := by
  obtain ⟨v, ps, _, hF, hr⟩ := h
  obtain ⟨a, c, rfl, _⟩ := owns_shape hr.1
  rw [fs_cell hF]; rfl
/-- The forest's slice, and its cell. -/
theorem fs_slice {B F : Nat} {w : World} {A : List HT} (h : ForS B F w A) : ∃ a c, w.cell? ⟨F, 0, none⟩ = some (.slice a A.length c) := by
  obtain ⟨v, ps, _, hF, hr⟩ := h
  obtain ⟨a, c, rfl, _⟩ := owns_shape hr.1
  exact ⟨a, c, fs_cell hF⟩
/-- The first tree. -/
theorem fs_first {B F : Nat} {w : World} {A : List HT} (h : ForS B F w A) (hp : 0 < A.length) : ∃ g c p, w.cell? ⟨F, 0, none⟩ = some (.slice (some ⟨g, 0, none⟩) A.length c) ∧ w.cell? ⟨g, 0, none⟩ = some (ptrV p) ∧ Rep w p A[0] := by
  obtain ⟨v, ps, _, hF, hr⟩ := h
  obtain ⟨g, cap, rfl, _, _, hc⟩ := row_cells hr hp
  obtain ⟨hi, c0, _, r0⟩ := hc 0 hp
  exact ⟨g, cap, _, fs_cell hF, c0, r0⟩

/-- What follows under a name: a region at the end of a round is then left by one way. -/
theorem wp_abs {P : Program} {c : Code} {Q : Exit → Act → World → Prop} {a : Act} {w : World} (h : ∀ Q', Hid (Q' = Q) → c.wp P Q' a w) : c.wp P Q a w := h Q rfl

set_option maxRecDepth 100000 in
set_option maxHeartbeats 8000000 in
theorem depths_any (v : Value) (f : List Int) (w : World) (hv : SlOf w v 1 (fun x => [.int .i64 x]) f) (hl : f.length ≤ 1000) (hf : ∀ x ∈ f, x ≤ 1000000) :
    Calls Try.prog 55 #[v] w fun e w' => ∃ v' L, e = .returned v' ∧ Lens w.heap.size w' v' L ∧ OnceR f L ∧ Below w.heap.size w w' := by
  obtain ⟨i0, hi, hz0, hz1, hz2⟩ := info_parts info_int
  have HV := Lib.hid hv
  obtain ⟨aX, cX, rfl, hcX, hnX, hcellX⟩ := hv
  clear hcellX hnX
  go_enter Try.func55, Try.ntmps55
  go_wp2_with (first
    | (at_make; refine wpList_make_full _ rfl _ _ 50 rfl w.heap.size 3 i0 (.int .i64 0) 1 Try.underlying50 hi hz0 hz1 .i64 .i64 _ _ f.length rfl rfl rfl rfl (by rw [hz2]; omega) (by simp [maxLen]; omega) (Nat.le_refl _) ?_
       intro w1 hown1 hg1
       have hb1 := (Below.refl w.heap.size w).grown hg1 (Nat.le_refl _) (fun k hk => by cases hk)
       have hs1 : w.heap.size < w1.heap.size := owns_lt hown1 _ rfl
       have Hown1 : Hid (Lens w.heap.size w1 (.slice (some ⟨w.heap.size, 0, none⟩) f.length f.length) (List.replicate f.length 0)) := by
         unfold Hid Lens
         rw [List.length_replicate, ← made_zero]
         rw [Nat.mul_one] at hown1
         exact hown1
       have Hb1 := Lib.hid hb1
       clear hown1 hg1 hb1)
    | fail)
  have hFS0 : ForS w.heap.size (w1.heap.size + 1) ((w1.alloc (.cells #[] 91)).alloc (.cells #[.slice (some ⟨w1.heap.size, 0, none⟩) 0 0] 89)) [] := by
    refine ⟨.slice (some ⟨w1.heap.size, 0, none⟩) 0 0, [], by omega, ?_, ?_⟩
    · have h := heap_alloc_new (w1.alloc (.cells #[] 91)) (.cells #[.slice (some ⟨w1.heap.size, 0, none⟩) 0 0] 89)
      have e : (w1.alloc (.cells #[] 91)).heap.size = w1.heap.size + 1 := by simp
      rw [e] at h
      exact h
    · exact ⟨owns_base ((owns_none w1 91 1).alloc _) (by omega), rfl, fun i h => by simp at h⟩
  have hL0 : Lens w.heap.size ((w1.alloc (.cells #[] 91)).alloc (.cells #[.slice (some ⟨w1.heap.size, 0, none⟩) 0 0] 89)) (.slice (some ⟨w.heap.size, 0, none⟩) f.length f.length) (List.replicate f.length 0) := (Hown1.out.alloc _).alloc _
  have hB2 : Below w.heap.size w ((w1.alloc (.cells #[] 91)).alloc (.cells #[.slice (some ⟨w1.heap.size, 0, none⟩) 0 0] 89)) := (Hb1.out.alloc (by omega) _).alloc (by simp; omega) _
  have hsz2 : w.heap.size ≤ ((w1.alloc (.cells #[] 91)).alloc (.cells #[.slice (some ⟨w1.heap.size, 0, none⟩) 0 0] 89)).heap.size := by simp; omega
  have HFS0 := Lib.hid hFS0
  have HL0 := Lib.hid hL0
  have HB2 := Lib.hid hB2
  clear hFS0 hL0 hB2 Hown1 Hb1
  generalize (w1.alloc (.cells #[] 91)).alloc (.cells #[.slice (some ⟨w1.heap.size, 0, none⟩) 0 0] 89) = w2 at *
  obtain ⟨F, hF⟩ : ∃ F, F = w1.heap.size + 1 := ⟨_, rfl⟩
  rw [← hF] at HFS0 ⊢
  have hFB : w.heap.size ≤ F := by omega
  clear hF hs1
  have hsum := initTo_sum f (m := 1000000) (by omega) hf f.length (Nat.le_refl _)
  go_loopw [16] (fun i wr => ∃ (k : Nat) (A : List HT), i = .int .i64 k ∧ k ≤ f.length ∧ ForS w.heap.size F wr A ∧ A.Perm (initTo f k) ∧ Heap A A.length ∧ Kp w.heap.size w2 wr) (fun i _ => f.length - (intOf i).toNat)
  case atStart => exact ⟨0, [], rfl, Nat.zero_le _, HFS0.out, List.Perm.refl _, fun i _ h => by simp at h, Kp.refl _ _⟩
  case round =>
    obtain ⟨k, A, rfl, hk, hfs, hp, hh, hkp⟩ := hrel
    have Hfs := Lib.hid hfs
    have Hp := Lib.hid hp
    have Hh := Lib.hid hh
    have Hkp := Lib.hid hkp
    have hle := initTo_le f k
    have hAl : A.length ≤ k := by rw [hp.length_eq]; exact hle
    clear hfs hp hh hkp HFS0 hle
    by_cases hlt : k < f.length
    · rcases sl_one HV.out with ⟨rfl, _⟩ | ⟨_, bX, oX, cX', hveq, _, hbX, cellX⟩
      · simp at hlt
      injection hveq with q1 q2 q3
      subst q1 q3
      have hbX2 := Nat.lt_of_lt_of_le hbX hsz2
      have e0 : wr.cell? ⟨bX, oX + k, none⟩ = some (.int .i64 f[k]) := by
        rw [Hkp.out.below.cell (p := ⟨bX, oX + k, none⟩) hbX, HB2.out.cell (p := ⟨bX, oX + k, none⟩) hbX]; exact cellX k hlt
      have g0 : (k : Int) < (f.length : Int) := by omega
      have g1 : (0 : Int) ≤ (k : Int) := by omega
      have Hyes := Lib.hid (fun h => initTo_yes (f := f) hlt h)
      have Hno := Lib.hid (fun h => initTo_no (f := f) hlt h)
      have Hsz := Lib.hid (Nat.le_trans hsz2 Hkp.out.below.size)
      clear cellX q2 hbX hbX2
      generalize f[k] = x at *
      by_cases hx : 0 < x
      · have hpush := push_any w.heap.size F A wr.heap.size (.leaf x k) _ (fs_alloc Hfs.out (.cells #[.int .i64 x, .int .i64 k, .pointer none, .pointer none] 94)) (rep_leaf wr x k) (by omega) Hh.out
        go_wp2_with fail
        refine hpush.mono ?_
        rintro e w4 ⟨rfl, A', hfs4, hp4, hh4, hkp4⟩
        go_wp2_with fail
        refine ⟨⟨k + 1, A', by go_num, by omega, hfs4, ?_, hh4, Hkp.out.trans ((kp_alloc Hsz.out _).trans hkp4)⟩, by simp [intOf]; omega⟩
        rw [Hyes.out hx]
        exact hp4.trans ((Hp.out.cons _).trans (List.perm_append_comm (l₁ := [HT.leaf x k]) (l₂ := initTo f k)))
      · go_wp2_with fail
        exact ⟨⟨k + 1, A, by go_num, by omega, Hfs.out, by rw [Hno.out hx]; exact Hp.out, Hh.out, Hkp.out⟩, by simp [intOf]; omega⟩
    · obtain rfl : k = f.length := by omega
      rw [initTo_all] at Hp
      obtain ⟨aF, cF, hcF⟩ := fs_slice Hfs.out
      have hln := len_any (.slice aF A.length cF) A.length wr aF cF rfl
      have HL := Lib.hid (lens_kp HL0.out Hkp.out)
      have HB := Lib.hid (HB2.out.trans Hkp.out.below)
      by_cases h0 : A.length = 0
      · have hA : A = [] := List.length_eq_zero_iff.1 h0
        have hi0 : initT f = [] := by have := Hp.out; rw [hA] at this; exact List.nil_perm.1 this
        have Hi0 := Lib.hid hi0
        rw [h0] at hcF hln
        clear hA hi0
        go_wp2_with fail
        refine hln.mono ?_
        rintro e w4 ⟨rfl, rfl⟩
        go_wp2_with fail
        go_ret
        exact ⟨_, _, rfl, HL.out, Or.inl ⟨Hi0.out, rfl⟩, HB.out⟩
      · obtain ⟨g, c, p, hcF2, hc0, hrep⟩ := fs_first Hfs.out (by omega)
        rw [hcF] at hcF2
        injection hcF2 with hcF2
        injection hcF2 with q1 _ q3
        subst q1 q3
        by_cases h1 : A.length = 1
        · obtain ⟨t, hA⟩ : ∃ t, A = [t] := List.length_eq_one_iff.1 h1
          subst hA
          have hi1 : initT f = [t] := List.perm_singleton.1 Hp.out.symm
          obtain ⟨j, hj, hjp, rfl⟩ := initT_mem.1 (show t ∈ initT f by rw [hi1]; exact List.mem_singleton.2 rfl)
          have Hi1 := Lib.hid hi1
          have hn1 := (rep_head hrep).2
          replace hn1 : wr.cell? ⟨p, 1, none⟩ = some (.int .i64 (j : Nat)) := hn1
          have hl1 := HL.out
          have e1 : wr.cell? ⟨w.heap.size, j, none⟩ = some (.int .i64 0) := by
            unfold Lens at hl1
            rw [List.length_replicate] at hl1
            rw [hl1.cellAt j (by omega), List.getElem?_map, List.getElem?_replicate, if_pos hj]; rfl
          have e2 : wr.frozen? ⟨w.heap.size, j, none⟩ = false := by
            unfold Lens at hl1
            rw [List.length_replicate] at hl1
            exact hl1.frozenAt j
          have hst : Lens w.heap.size (wr.setCell ⟨w.heap.size, j, none⟩ (.int .i64 1)) (.slice (some ⟨w.heap.size, 0, none⟩) f.length f.length) ((List.replicate f.length 0).set j 1) := by
            unfold Lens at hl1 ⊢
            rw [List.length_replicate] at hl1
            rw [List.length_set, List.length_replicate, List.map_set]
            exact (hl1.stored j (.int .i64 1)).1
          have Hst := Lib.hid hst
          have Hbs := Lib.hid (HB.out.setCell (p := ⟨w.heap.size, j, none⟩) (Nat.le_refl _) (.int .i64 1))
          have g0 : (j : Int) < (f.length : Int) := by omega
          have g1 : (0 : Int) ≤ (j : Int) := by omega
          have hcF' : wr.cell? ⟨F, 0, none⟩ = some (.slice (some ⟨g, 0, none⟩) 1 cF) := hcF
          have hln' := hln
          clear hst hl1 hi1 hrep hjp hcF
          go_wp2_with fail
          refine hln.mono ?_
          rintro e w4 ⟨rfl, rfl⟩
          go_wp2_with fail
          refine hln'.mono ?_
          rintro e w4 ⟨rfl, rfl⟩
          go_wp2_with fail
          go_ret
          exact ⟨_, _, rfl, Hst.out, Or.inr (Or.inl ⟨_, _, Hi1.out, rfl⟩), Hbs.out⟩
        · have h2 : 2 ≤ A.length := by omega
          have hln' := hln
          have Hsy := Lib.hid (flat_perm Hp.out)
          have Hpos := Lib.hid (pos_perm Hp.out.symm (initT_pos f))
          have Hws : Hid (wtSum A ≤ 1000000000) := by
            unfold Hid
            rw [wtSum_perm Hp.out, ← initTo_all]
            omega
          have HL2 : Hid (2 ≤ (initT f).length) := by unfold Hid; rw [← Hp.out.length_eq]; exact h2
          have d0 : ((A.length : Int) == 0) = false := by simpa using h0
          have d1 : ((A.length : Int) == 1) = false := by simp; omega
          clear hrep hc0
          go_wp2_with fail
          refine hln.mono ?_
          rintro e w4 ⟨rfl, rfl⟩
          go_wp2_with fail
          refine hln'.mono ?_
          rintro e w4 ⟨rfl, rfl⟩
          clear hln hln' hcF
          go_wp2_with fail
          have Hred : Hid (∀ T, Red A T → Red (initT f) T) := fun T h => red_perm h Hp.out.symm
          have hal : A.length ≤ 1000 := by omega
          clear d0 d1 hAl hsum
          obtain ⟨wo, hwo⟩ : ∃ wo : World, wo = wr := ⟨_, rfl⟩
          subst hwo
          go_loopw [7] (fun _ wr => ∃ A : List HT, 1 ≤ A.length ∧ A.length ≤ 1000 ∧ ForS w.heap.size F wr A ∧ Heap A A.length ∧ (∀ T, Red A T → Red (initT f) T) ∧ (A.flatMap syms).Perm ((initT f).flatMap syms) ∧ Pos A ∧ wtSum A ≤ 1000000000 ∧ Kp w.heap.size w2 wr) (fun _ wr => lenOf (wr.cell? ⟨F, 0, none⟩))
          case atStart => exact ⟨A, by omega, hal, Hfs.out, Hh.out, Hred.out, Hsy.out, Hpos.out, Hws.out, Hkp.out⟩
          case round =>
            clear Hfs Hp Hh Hkp HL HB Hsy Hpos Hws Hred h0 h1 h2 hal
            obtain ⟨G, hA1, hA2, hfs, hh, hred, hsy, hpos, hws, hkp⟩ := hrel
            have Hfs := Lib.hid hfs
            have Hh := Lib.hid hh
            have Hkp := Lib.hid hkp
            have Hred := Lib.hid hred
            have Hsy := Lib.hid hsy
            have Hpos := Lib.hid hpos
            have Hws := Lib.hid hws
            obtain ⟨aF, cF, hcF⟩ := fs_slice hfs
            have hln := len_any (.slice aF G.length cF) G.length wr aF cF rfl
            clear hfs hh hred hsy hpos hws hkp
            by_cases h2 : 2 ≤ G.length
            · have g1 : (1 : Int) < (G.length : Int) := by omega
              obtain ⟨n, hn⟩ : ∃ n, G.length = n + 1 := ⟨G.length - 1, by omega⟩
              have hpop := pop_any w.heap.size F G n wr Hfs.out hn (by omega) Hh.out
              have Hn := Lib.hid hn
              clear hn
              go_wp2_with fail
              refine hln.mono ?_
              rintro e w4 ⟨rfl, rfl⟩
              clear hln hcF
              go_wp2_with fail
              refine hpop.mono ?_
              rintro e w5 ⟨p1, t1, A1, rfl, hr1, hfs1, hp1, hm1, hh1, hkp1⟩
              have ha1 := assert_tree p1
              have Hl1 : Hid (A1.length = n) := by show A1.length = n; have := hp1.length_eq; have := Hn.out; simp at *; omega
              obtain ⟨m, rfl⟩ : ∃ m, n = m + 1 := ⟨n - 1, by have := Hn.out; omega⟩
              have hpop2 := pop_any w.heap.size F A1 m w5 hfs1 Hl1.out (by have := Hl1.out; have := Hn.out; omega) hh1
              have Hr1 := Lib.hid hr1
              have Hp1 := Lib.hid hp1
              have Hm1 := Lib.hid hm1
              have Hkp1 := Lib.hid (Hkp.out.trans hkp1)
              clear hpop hr1 hfs1 hp1 hm1 hh1 hkp1
              go_wp2_with fail
              refine hpop2.mono ?_
              rintro e w6 ⟨p2, t2, A2, rfl, hr2, hfs2, hp2, hm2, hh2, hkp2⟩
              have ha2 := assert_tree p2
              have Hl2 : Hid (A2.length = m) := by show A2.length = m; have := hp2.length_eq; have := Hl1.out; simp at *; omega
              have hr1' := rep_kp hkp2 Hr1.out
              have HpA : Hid (G.Perm (t1 :: t2 :: A2)) := Hp1.out.symm.trans (hp2.symm.cons t1)
              have Hm1' : Hid (∀ x ∈ t2 :: A2, leT t1 x) := fun x hx => Hm1.out x (hp2.mem_iff.1 hx)
              have Hm2 := Lib.hid hm2
              have Hkp2 := Lib.hid (Hkp1.out.trans hkp2)
              have hws2 : wtSum (t1 :: t2 :: A2) ≤ 1000000000 := by rw [← wtSum_perm HpA.out]; exact Hws.out
              have hps2 : Pos (t1 :: t2 :: A2) := pos_perm HpA.out Hpos.out
              have hps3 : Pos A2 := fun x hx => hps2 x (List.mem_cons_of_mem _ (List.mem_cons_of_mem _ hx))
              have hn2 := wtSum_nonneg hps3
              have hw1 := hps2 t1 (List.mem_cons_self ..)
              have hw2 := hps2 t2 (List.mem_cons_of_mem _ (List.mem_cons_self ..))
              have hwsum : wt t1 + wt t2 ≤ 1000000000 := by rw [wtSum_cons, wtSum_cons] at hws2; omega
              have x1 : IntKind.i64.wrap (wt t1 + wt t2) = wt t1 + wt t2 := IntWalk.i64_in _ (by omega)
              have hlt1 := rep_lt hr1'
              have hlt2 := rep_lt hr2
              have HR1 := Lib.hid hr1'
              have HR2 := Lib.hid hr2
              obtain ⟨e10, e11⟩ := rep_head hr1'
              obtain ⟨e20, e21⟩ := rep_head hr2
              have hpush := push_any w.heap.size F A2 w6.heap.size (.node t1 t2) _ (fs_drew (fs_alloc hfs2 (.cells #[.int .i64 (wt t1 + wt t2), .int .i64 (min (nm t1) (nm t2) : Nat), ptrV p1, ptrV p2] 94))) (rep_drew (rep_node hr1' hr2)) (by have := Hl2.out; have := Hn.out; omega) hh2
              rcases (show (min (nm t1) (nm t2) = nm t2 ∧ nm t2 < nm t1) ∨ (min (nm t1) (nm t2) = nm t1 ∧ ¬ nm t2 < nm t1) by omega) with ⟨hmin, hmn⟩ | ⟨hmin, hmn⟩
              all_goals
                rw [hmin] at hpush
                clear hmin
                have Hpush := Lib.hid hpush
                have Hsz := Lib.hid (Nat.le_trans hsz2 Hkp2.out.below.size)
                have HN : Hid (wtSum (.node t1 t2 :: A2) ≤ 1000000000) := by unfold Hid; rw [wtSum_node]; exact hws2
                have HPs : Hid (Pos (.node t1 t2 :: A2)) := fun x hx => by
                  rcases List.mem_cons.1 hx with rfl | hx
                  · show 0 < wt t1 + wt t2; omega
                  · exact hps3 x hx
                clear hpop2 hr2 hfs2 hp2 hm2 hh2 hkp2 hr1' hws2 hps2 hps3 hn2 hpush
                go_wp2_with fail
                refine wp_abs fun Q9 HQ9 => ?_
                go_region_held3 (fun w' => w'.cell? ⟨p1, 0, none⟩ = some (.int .i64 (wt t1)) ∧ w'.cell? ⟨p1, 1, none⟩ = some (.int .i64 (nm t1)) ∧ w'.cell? ⟨p2, 0, none⟩ = some (.int .i64 (wt t2)) ∧ w'.cell? ⟨p2, 1, none⟩ = some (.int .i64 (nm t2))) (first | exact ⟨e10, e11, e20, e21⟩ | exact heads (rep_drew (rep_alloc HR1.out _)) (rep_drew (rep_alloc HR2.out _)) | exact heads (rep_alloc (rep_drew HR1.out) _) (rep_alloc (rep_drew HR2.out) _) | exact heads (rep_kp hkp3 (rep_drew (rep_alloc HR1.out _))) (rep_kp hkp3 (rep_drew (rep_alloc HR2.out _)))) (first | (go_at_call 70; refine Hpush.out.mono ?_; rintro e w7 ⟨rfl, A3, hfs3, hp3, hh3, hkp3⟩))
                all_goals
                  rw [HQ9.out]
                  have h3l := hp3.length_eq
                  simp only [List.length_cons] at h3l
                  have Hfs3 := Lib.hid hfs3
                  have Hp3 := Lib.hid hp3
                  have Hh3 := Lib.hid hh3
                  have Hkp3 := Lib.hid hkp3
                  have H3l := Lib.hid h3l
                  clear hfs3 hp3 hh3 hkp3 h3l
                  go_wp2_with fail
                  refine ⟨⟨A3, by have := H3l.out; omega, by have := H3l.out; have := Hl2.out; have := Hn.out; omega, Hfs3.out, Hh3.out, fun T hT => Hred.out T (.step HpA.out Hm1'.out Hm2.out (red_perm hT Hp3.out.symm)), ?_, pos_perm Hp3.out.symm HPs.out, by rw [wtSum_perm Hp3.out]; exact HN.out, Hkp2.out.trans (((kp_alloc Hsz.out _).drewN 1).trans Hkp3.out)⟩, ?_⟩
                  · have h := flat_perm Hp3.out
                    rw [flat_node] at h
                    exact h.trans ((flat_perm HpA.out).symm.trans Hsy.out)
                  · rw [fs_len Hfs3.out, fs_len Hfs.out]
                    have := H3l.out; have := Hl2.out; have := Hn.out; omega
            · have g1 : ¬ (1 : Int) < (G.length : Int) := by omega
              obtain ⟨T, hT⟩ : ∃ T, G = [T] := List.length_eq_one_iff.1 (by omega)
              subst hT
              obtain ⟨g, c, p, hcF2, hc0, hrep⟩ := fs_first Hfs.out (by simp)
              rw [hcF] at hcF2
              injection hcF2 with hcF2
              injection hcF2 with q1 _ q3
              subst q1 q3
              have hsyT : (syms T).Perm ((initT f).flatMap syms) := by have := Hsy.out; simpa using this
              have hsl : ∀ s ∈ syms T, s < f.length := fun s hs => (initT_syms f).2 s (hsyT.mem_iff.1 hs)
              have hht := height_lt T
              have hsyl : (syms T).length ≤ f.length := by
                have h1 := hsyT.length_eq
                rw [← initT_nm, List.length_map] at h1
                have h2 := initTo_le f f.length
                rw [initTo_all] at h2
                omega
              have hmk := mark_any w.heap.size T p 0 (.slice (some ⟨w.heap.size, 0, none⟩) f.length f.length) (List.replicate f.length 0) wr hrep (lens_kp HL0.out Hkp.out) (by rw [List.length_replicate]; exact hsl) (by rw [List.length_replicate]; omega) (by omega)
              have Hmk := Lib.hid hmk
              have hcF' : wr.cell? ⟨F, 0, none⟩ = some (.slice (some ⟨g, 0, none⟩) 1 cF) := hcF
              have HB := Lib.hid (HB2.out.trans Hkp.out.below)
              clear hmk hrep hsyT hsl hht hsyl hcF
              go_wp2_with fail
              refine hln.mono ?_
              rintro e w4 ⟨rfl, rfl⟩
              go_wp2_with fail
              refine Hmk.out.mono ?_
              rintro e w5 ⟨rfl, hl5, hkm5⟩
              go_wp2_with fail
              go_ret
              exact ⟨_, _, rfl, hl5, Or.inr (Or.inr ⟨HL2.out, T, Hred.out T (.one T), rfl⟩), HB.out.trans hkm5.below⟩
end Go.Proofs.Ytolappilfjhfaaa
