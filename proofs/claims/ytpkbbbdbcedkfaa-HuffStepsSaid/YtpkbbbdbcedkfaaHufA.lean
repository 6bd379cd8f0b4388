/- Trees in memory; the methods of a forest: Len, Less, Swap. Conditions: numbers fit. -/
import Derived.Test.YtpkbbbdbcedkfaaChecked
import Derived.WalkKit
import Derived.Handy
import Derived.WalkLawsBesides
import Derived.WalkSpells
import Derived.Outline
import Derived.OwnWalk
import Derived.IntWalk
import Derived.Lib.Hide
import Derived.Deep.QuietTactic
import Derived.BigQuiet
import Derived.Deep.RegionHeld3
import Derived.Deep.LoopGhost
import Derived.Deep.DeepFit
import Derived.LoopTactic
import Derived.RegionTactic
import Derived.ChangeAlike
import Derived.BigRegion
import Derived.Below
import Derived.Laws.Rows
import Derived.Test.YtpkbbbdbcedkfaaHeld
import Derived.Test.YtpkbbbdbcedkfaaSl2
import Derived.Test.YtpkbbbdbcedkfaaHufH
namespace Go.Proofs.Ytpkbbbdbcedkfaa
open Go.RowKit

abbrev ptrV (a : Nat) : Value := .pointer (some ⟨a, 0, none⟩)
/-- The tree t stands in w, at the block p. -/
def Rep (w : World) : Nat → HT → Prop
  | p, .leaf x n => w.heap[p]? = some (.cells #[.int .i64 x, .int .i64 n, .pointer none, .pointer none] 39 (0, 0))
  | p, .node l r => ∃ pl pr, w.heap[p]? = some (.cells #[.int .i64 (wt l + wt r), .int .i64 (min (nm l) (nm r) : Nat), ptrV pl, ptrV pr] 39 (0, 0)) ∧ Rep w pl l ∧ Rep w pr r
/-- The first two cells. -/
theorem rep_head {w : World} {p : Nat} {t : HT} (h : Rep w p t) : w.cell? ⟨p, 0, none⟩ = some (.int .i64 (wt t)) ∧ w.cell? ⟨p, 1, none⟩ = some (.int .i64 (nm t)) := by
  cases t with
  | leaf x n => exact ⟨by rw [cell_of_row w p 0 _ _ (0, 0) h]; rfl, by rw [cell_of_row w p 1 _ _ (0, 0) h]; rfl⟩
  | node l r =>
    obtain ⟨pl, pr, h, _, _⟩ := h
    exact ⟨by rw [cell_of_row w p 0 _ _ (0, 0) h]; rfl, by rw [cell_of_row w p 1 _ _ (0, 0) h]; rfl⟩
/-- All blocks but forests and their rows are as they were. -/
structure Kp (B : Nat) (w w' : World) : Prop where
  below : Below B w w'
  keep : ∀ (b : Nat) (cs : Array Value) (t : TypeId), w.heap[b]? = some (Obj.cells cs t (0, 0)) → t ≠ 34 → t ≠ 36 → w'.heap[b]? = w.heap[b]?
theorem Kp.refl (B : Nat) (w : World) : Kp B w w := ⟨Below.refl _ _, fun _ _ _ _ _ _ => rfl⟩
theorem Kp.trans {B : Nat} {a b c : World} (h : Kp B a b) (k : Kp B b c) : Kp B a c :=
  ⟨h.below.trans k.below, fun g cs t hg h1 h2 => by rw [k.keep g cs t (by rw [h.keep g cs t hg h1 h2]; exact hg) h1 h2, h.keep g cs t hg h1 h2]⟩
theorem rep_kp {B : Nat} {w w' : World} (h : Kp B w w') : ∀ {t : HT} {p : Nat}, Rep w p t → Rep w' p t := by
  intro t
  induction t with
  | leaf x n => intro p hr; exact (h.keep p _ _ hr (by decide) (by decide)).trans hr
  | node l r ihl ihr =>
    intro p hr
    obtain ⟨pl, pr, hh, hl, hr⟩ := hr
    exact ⟨pl, pr, (h.keep p _ _ hh (by decide) (by decide)).trans hh, ihl hl, ihr hr⟩
theorem Kp.drewN {B : Nat} {w w' : World} (h : Kp B w w') (n : Nat) : Kp B w (w'.drewN n) := ⟨h.below.trans ⟨rfl, rfl, rfl, Nat.le_refl _, fun _ _ => rfl⟩, h.keep⟩
theorem Kp.alloc {B : Nat} {w w' : World} (h : Kp B w w') (hB : B ≤ w'.heap.size) (o : Obj) : Kp B w (w'.alloc o) :=
  ⟨h.below.alloc hB o, fun b cs t hb h1 h2 => by
    have e := h.keep b cs t hb h1 h2
    rw [← e]
    have hlt : b < w'.heap.size := by
      rcases Nat.lt_or_ge b w'.heap.size with q | q
      · exact q
      · rw [hb, Array.getElem?_eq_none q] at e; cases e
    exact Below.heap_alloc _ _ _ hlt⟩

/-- The row of pointers v holds the trees A. -/
def Row (B : Nat) (w : World) (v : Value) (ps : List Nat) (A : List HT) : Prop := w.ownsRow B 36 1 v A.length (ps.map ptrV) ∧ ps.length = A.length ∧ ∀ i (h : i < A.length) (h' : i < ps.length), Rep w ps[i] A[i]
/-- The forest at the block F holds the trees A. -/
def ForS (B F : Nat) (w : World) (A : List HT) : Prop := ∃ v ps, B ≤ F ∧ w.heap[F]? = some (.cells #[v] 34 (0, 0)) ∧ Row B w v ps A

theorem row_kp {B : Nat} {w w' : World} {v : Value} {ps : List Nat} {A : List HT} (h : Row B w v ps A) (hk : Kp B w w') (hb : ∀ g, v.ownBlock = some g → w'.heap[g]? = w.heap[g]?) : Row B w' v ps A := by
  obtain ⟨h1, h2, h3⟩ := h
  refine ⟨?_, h2, fun i h h' => rep_kp hk (h3 i h h')⟩
  obtain ⟨hl, h⟩ := h1
  refine ⟨hl, ?_⟩
  rcases h with h | ⟨g, cap, cur, rfl, hg, hc, rest⟩
  · exact Or.inl h
  · exact Or.inr ⟨g, cap, cur, rfl, hg, by rw [hb g rfl]; exact hc, rest⟩
theorem row_drewN {B : Nat} {w : World} {v : Value} {ps : List Nat} {A : List HT} (h : Row B w v ps A) (n : Nat) : Row B (w.drewN n) v ps A := row_kp h ((Kp.refl B w).drewN n) fun _ _ => rfl
theorem fs_drewN {B F : Nat} {w : World} {A : List HT} (h : ForS B F w A) (n : Nat) : ForS B F (w.drewN n) A := by
  obtain ⟨v, ps, h1, h2, h3⟩ := h
  exact ⟨v, ps, h1, h2, row_drewN h3 n⟩

/-- The cells that Less reads. -/
theorem row_cells {B : Nat} {w : World} {v : Value} {ps : List Nat} {A : List HT} (h : Row B w v ps A) (hp : 0 < A.length) :
    ∃ g cap, v = .slice (some ⟨g, 0, none⟩) A.length cap ∧ A.length ≤ cap ∧ B ≤ g ∧ ∀ i (hi : i < A.length), ∃ hi' : i < ps.length, w.cell? ⟨g, i, none⟩ = some (ptrV ps[i]) ∧ w.frozen? ⟨g, i, none⟩ = false ∧ Rep w ps[i] A[i] := by
  obtain ⟨h1, h2, h3⟩ := h
  have h1' := h1
  obtain ⟨hl, h⟩ := h1
  rcases h with ⟨_, h0⟩ | ⟨g, cap, cur, rfl, hg, hc, hn, _⟩
  · omega
  · refine ⟨g, cap, rfl, hn, hg, fun i hi => ⟨by omega, ?_, h1'.frozenAt i, h3 i hi (by omega)⟩⟩
    rw [h1'.cellAt i (by omega)]
    simp [List.getElem?_eq_getElem (show i < ps.length by omega)]

theorem len_any (v : Value) (n : Nat) (w : World) (a : Option Addr) (cap : Nat) (hv : v = .slice a n cap) :
    Calls Try.prog 22 #[v] w fun e w' => e = .returned (.int .i64 n) ∧ w = w' := by
  subst hv
  go_enter Try.func22, Try.ntmps22
  go_wp2
  go_ret
  exact ⟨rfl, rfl⟩

set_option maxHeartbeats 2000000 in
theorem less_any (B : Nat) (v : Value) (ps : List Nat) (A : List HT) (i j : Nat) (w : World) (h : Row B w v ps A) (hi : i < A.length) (hj : j < A.length) (hl : A.length ≤ 1000000) :
    Calls Try.prog 45 #[v, .int .i64 i, .int .i64 j] w fun e w' => e = .returned (.bool (ltT (atT A i) (atT A j))) ∧ ∃ n, w' = w.drewN n := by
  obtain ⟨g, cap, rfl, hc, _, hcell⟩ := row_cells h (by omega)
  obtain ⟨hi', ci, _, ri⟩ := hcell i hi
  obtain ⟨hj', cj, _, rj⟩ := hcell j hj
  obtain ⟨wi, ni⟩ := rep_head ri
  obtain ⟨wj, nj⟩ := rep_head rj
  rw [atT_get hi, atT_get hj]
  have Hlt : Hid (ltT A[i] A[j] = decide (wt A[i] < wt A[j] ∨ (wt A[i] = wt A[j] ∧ nm A[i] < nm A[j]))) := rfl
  have g0 : (i : Int) < (A.length : Int) := by omega
  have g1 : (j : Int) < (A.length : Int) := by omega
  have g2 : (0 : Int) ≤ (i : Int) := by omega
  have g3 : (0 : Int) ≤ (j : Int) := by omega
  clear hcell h ri rj
  generalize ltT A[i] A[j] = r at *
  generalize wt A[i] = x at *
  generalize wt A[j] = y at *
  generalize nm A[i] = m at *
  generalize nm A[j] = k at *
  generalize ps[i] = pi at *
  generalize ps[j] = pj at *
  clear hi' hj'
  by_cases hxy : x = y
  · have d1 : (x != y) = false := by simp [hxy]
    have hr : r = decide ((m : Int) < (k : Int)) := by rw [Hlt.out]; simp [hxy]
    have Hr := Lib.hid hr
    clear hr hxy Hlt
    go_enter Try.func45, Try.ntmps45
    go_wp2_with fail
    go_quiet (fail)
    go_wp2_with fail
    go_quiet (fail)
    go_wp2_with fail
    go_ret
    exact ⟨by rw [Hr.out]; first | rfl | simp, _, World.drewN_drewN _ _ _⟩
  · have d1 : (x != y) = true := by simp [hxy]
    have hr : r = decide (x < y) := by rw [Hlt.out]; simp [hxy]
    have Hr := Lib.hid hr
    clear hr hxy Hlt
    go_enter Try.func45, Try.ntmps45
    go_wp2_with fail
    go_quiet (fail)
    go_wp2_with fail
    go_quiet (fail)
    go_wp2_with fail
    go_ret
    exact ⟨by rw [Hr.out]; first | rfl | simp, _, World.drewN_drewN _ _ _⟩
end Go.Proofs.Ytpkbbbdbcedkfaa
