/- Contracts of ref's functions on places (May, Len), the program's and the document's. Conditions: numbers fit. -/
import Derived.Test.YtddbcpmhgjkjpaaChecked
import Derived.Test.YtddbcpmhgjkjpaaHeld
import Derived.WalkSpells
import Derived.Outline
import Derived.BigQuiet
import Derived.Deep.QuietTactic
import Derived.Deep.DeepFit
import Derived.Deep.RegionHeld3
import Derived.IntWalk
import Derived.Lib.Hide
namespace Go.Proofs.Ytddbcpmhgjkjpaa
open Go.RowKit

theorem below_drewN9x {B : Nat} {a w : World} (h : Below B a w) (n : Nat) : Below B a (w.drewN n) := h.trans ⟨rfl, rfl, rfl, Nat.le_refl _, fun _ _ => rfl⟩


def sectors (n : Int) : Int := if n ≤ 0 then 0 else (n - 1) / 32 + 1

set_option maxRecDepth 100000 in
theorem xSec_any (n : Int) (w : World) (h : n ≤ 9223372036854775807) :
    Calls Try.prog 94 #[.int .i64 n] w fun e w' => e = .returned (.int .i64 (sectors n)) ∧ w = w' := by
  by_cases h0 : n ≤ 0
  · go_enter Try.func94, Try.ntmps94
    go_wp2
    go_ret
    exact ⟨by simp [sectors, h0], rfl⟩
  · go_enter Try.func94, Try.ntmps94
    go_wp2
    go_ret
    exact ⟨by simp; rw [sectors, if_neg (by omega)], rfl⟩

set_option maxRecDepth 100000 in
theorem xLen_any (c a s : Int) (p : Bool) (w : World) (h : s ≤ 9223372036854775807) :
    Calls Try.prog 88 #[.agg #[.int .i64 c, .int .i64 a, .int .i64 s, .bool p]] w fun e w' => e = .returned (.int .i64 (sectors s)) ∧ Below w.heap.size w w' := by
  go_enter Try.func88, Try.ntmps88
  go_wp2_with (go_at_call 94; refine (xSec_any _ _ h).mono ?_; rintro e w' ⟨rfl, rfl⟩)
  go_ret
  exact ⟨rfl, (Below.refl _ _).alloc (Nat.le_refl _) _⟩

def mayB (c a s : Int) (p : Bool) : Bool := decide (0 ≤ c ∧ c < 1000 ∧ 1 ≤ s ∧ s ≤ 256 ∧ 0 ≤ a ∧ a + sectors s ≤ 16 ∧ (p = true ∨ s = 256))

theorem sectors_le (s : Int) (h : s ≤ 256) : 0 ≤ sectors s ∧ sectors s ≤ 8 := by
  unfold sectors; split <;> omega

set_option maxRecDepth 100000 in
set_option maxHeartbeats 400000 in
theorem xMay_any (c a s : Int) (p : Bool) (w : World) :
    Calls Try.prog 87 #[.agg #[.int .i64 c, .int .i64 a, .int .i64 s, .bool p]] w fun e w' => e = .returned (.bool (mayB c a s p)) ∧ Below w.heap.size w w' := by
  have fin : ∀ w', Below w.heap.size w w' → mayB c a s p = false → ((Ending.returned (.bool false)) = .returned (.bool (mayB c a s p)) ∧ Below w.heap.size w w') := by
    intro w' hb h; rw [h]; exact ⟨rfl, hb⟩
  by_cases h1 : c < 0
  · go_enter Try.func87, Try.ntmps87
    go_wp2
    go_ret
    exact fin _ ((Below.refl _ _).alloc (Nat.le_refl _) _) (by simp [mayB]; omega)
  by_cases h2 : 1000 ≤ c
  · go_enter Try.func87, Try.ntmps87
    go_wp2
    go_ret
    exact fin _ ((Below.refl _ _).alloc (Nat.le_refl _) _) (by simp [mayB]; omega)
  by_cases h3 : s < 1
  · go_enter Try.func87, Try.ntmps87
    go_wp2
    go_ret
    exact fin _ ((Below.refl _ _).alloc (Nat.le_refl _) _) (by simp [mayB]; omega)
  by_cases h4 : 256 < s
  · go_enter Try.func87, Try.ntmps87
    go_wp2
    go_ret
    exact fin _ ((Below.refl _ _).alloc (Nat.le_refl _) _) (by simp [mayB]; omega)
  by_cases h5 : a < 0
  · have hd : decide (a < 0) = true := by simpa using h5
    go_enter Try.func87, Try.ntmps87
    go_wp2
    go_quiet (fail)
    go_wp2
    go_ret
    exact fin _ (below_drewN9x ((Below.refl _ _).alloc (Nat.le_refl _) _) _) (by simp [mayB]; omega)
  have hd : decide (a < 0) = false := by simpa using h5
  go_enter Try.func87, Try.ntmps87
  go_wp2
  generalize hO : Obj.cells #[Value.int IntKind.i64 c, Value.int IntKind.i64 a, Value.int IntKind.i64 s, Value.bool p] 53 = O
  generalize hW : w.alloc O = W1
  have e0 : W1.cell? ⟨w.heap.size, 0, none⟩ = some (.int .i64 c) := by rw [← hW, ← hO]; simp
  have e1 : W1.cell? ⟨w.heap.size, 1, none⟩ = some (.int .i64 a) := by rw [← hW, ← hO]; simp
  have e2 : W1.cell? ⟨w.heap.size, 2, none⟩ = some (.int .i64 s) := by rw [← hW, ← hO]; simp
  have e3 : W1.cell? ⟨w.heap.size, 3, none⟩ = some (.bool p) := by rw [← hW, ← hO]; simp
  have hs1 : w.heap.size < W1.heap.size := by rw [← hW]; simp
  have hb0 : Below w.heap.size w W1 := by rw [← hW]; exact (Below.refl _ _).alloc (Nat.le_refl _) _
  have hss := sectors_le s h4
  have hsz : s ≤ 9223372036854775807 := by omega
  have hwr : IntKind.i64.wrap (16 - sectors s) = 16 - sectors s := IntWalk.i64_in _ (by omega)
  clear hW hO
  go_region_held3 (Held W1) (first | exact held_start | exact held_call (by assumption) (by assumption)) (first | (go_at_call 88; refine (xLen_any c a s p _ hsz).mono ?_; rintro e w' ⟨rfl, hb⟩))
  clear hwr
  have hh : Held W1 w' := by assumption
  have hh1 := hh.1
  by_cases h6 : 16 - sectors s < a
  · go_wp2
    go_ret
    exact fin _ (hb0.trans (hh.2.mono (by omega))) (by simp [mayB]; omega)
  · cases p
    · by_cases h7 : s = 256
      · subst h7
        go_wp2
        go_ret
        exact ⟨by simp [mayB]; omega, hb0.trans (hh.2.mono (by omega))⟩
      · have h7' : (s == 256) = false := by simpa using h7
        go_wp2
        go_ret
        exact fin _ (hb0.trans (hh.2.mono (by omega))) (by simp [mayB]; omega)
    · go_wp2
      go_ret
      exact ⟨by simp [mayB]; omega, hb0.trans (hh.2.mono (by omega))⟩

theorem bcell {n : Nat} {W w1 : World} (hb : Below n W w1) : (∀ b o, b < n → w1.cell? ⟨b, o, none⟩ = W.cell? ⟨b, o, none⟩) ∧ (∀ b o, b < n → w1.frozen? ⟨b, o, none⟩ = W.frozen? ⟨b, o, none⟩) :=
  ⟨fun b o h => hb.cell (p := ⟨b, o, none⟩) h, fun b o h => hb.frozen (p := ⟨b, o, none⟩) h⟩

theorem mayB_iff {c a s : Int} {p : Bool} (h : mayB c a s p = true) : 0 ≤ c ∧ c < 1000 ∧ 1 ≤ s ∧ s ≤ 256 ∧ 0 ≤ a ∧ a + sectors s ≤ 16 ∧ (p = true ∨ s = 256) := by
  simpa [mayB] using h

theorem may_bd {c a s : Int} {p : Bool} (h : mayB c a s p = true) : 0 ≤ c ∧ c < 1000 ∧ 1 ≤ s ∧ s ≤ 256 ∧ 0 ≤ a ∧ a ≤ 16 := by
  have := mayB_iff h
  have := sectors_le s (by omega)
  omega

set_option maxRecDepth 100000 in
theorem rxSec_any (n : Int) (w : World) (h : n ≤ 9223372036854775807) :
    Calls Try.prog 90 #[.int .i64 n] w fun e w' => e = .returned (.int .i64 (sectors n)) ∧ w = w' := by
  by_cases h0 : n ≤ 0
  · go_enter Try.func90, Try.ntmps90
    go_wp2
    go_ret
    exact ⟨by simp [sectors, h0], rfl⟩
  · go_enter Try.func90, Try.ntmps90
    go_wp2
    go_ret
    exact ⟨by simp; rw [sectors, if_neg (by omega)], rfl⟩

set_option maxRecDepth 100000 in
theorem rxLen_any (c a s : Int) (p : Bool) (w : World) (h : s ≤ 9223372036854775807) :
    Calls Try.prog 71 #[.agg #[.int .i64 c, .int .i64 a, .int .i64 s, .bool p]] w fun e w' => e = .returned (.int .i64 (sectors s)) ∧ Below w.heap.size w w' := by
  go_enter Try.func71, Try.ntmps71
  go_wp2_with (go_at_call 90; refine (rxSec_any _ _ h).mono ?_; rintro e w' ⟨rfl, rfl⟩)
  go_ret
  exact ⟨rfl, (Below.refl _ _).alloc (Nat.le_refl _) _⟩

/-- One walk of the reference's May up to the region's end, the tests decided. -/
theorem boxed4 (w : World) (v0 v1 v2 v3 : Value) (t : TypeId) : ∃ W1, w.alloc (.cells #[v0, v1, v2, v3] t) = W1 ∧ W1.cell? ⟨w.heap.size, 0, none⟩ = some v0 ∧ W1.cell? ⟨w.heap.size, 1, none⟩ = some v1 ∧ W1.cell? ⟨w.heap.size, 2, none⟩ = some v2 ∧
    W1.cell? ⟨w.heap.size, 3, none⟩ = some v3 ∧ w.heap.size < W1.heap.size ∧ Below w.heap.size w W1 :=
  ⟨_, rfl, by simp, by simp, by simp, by simp, by simp, (Below.refl _ _).alloc (Nat.le_refl _) _⟩

set_option maxRecDepth 100000 in
set_option maxHeartbeats 1000000 in
theorem rxMay_any (c a s : Int) (p : Bool) (w : World) :
    Calls Try.prog 70 #[.agg #[.int .i64 c, .int .i64 a, .int .i64 s, .bool p]] w fun e w' => e = .returned (.bool (mayB c a s p)) ∧ Below w.heap.size w w' := by
  have fin : ∀ w', Below w.heap.size w w' → mayB c a s p = false → ((Ending.returned (.bool false)) = .returned (.bool (mayB c a s p)) ∧ Below w.heap.size w w') := by
    intro w' hb h; rw [h]; exact ⟨rfl, hb⟩
  by_cases h1 : c < 0
  · have hd : decide (c < 0) = true := by simpa using h1
    go_enter Try.func70, Try.ntmps70
    go_wp2
    go_quiet (fail)
    go_wp2
    go_ret
    exact fin _ (below_drewN9x ((Below.refl _ _).alloc (Nat.le_refl _) _) _) (by simp [mayB]; omega)
  have hd1 : decide (c < 0) = false := by simpa using h1
  by_cases h2 : 999 < c
  · have hd : decide (999 < c) = true := by simpa using h2
    go_enter Try.func70, Try.ntmps70
    go_wp2
    go_quiet (fail)
    go_wp2
    go_ret
    exact fin _ (below_drewN9x ((Below.refl _ _).alloc (Nat.le_refl _) _) _) (by simp [mayB]; omega)
  have hd2 : decide (999 < c) = false := by simpa using h2
  by_cases h3 : s < 1
  · have hd : decide (s < 1) = true := by simpa using h3
    go_enter Try.func70, Try.ntmps70
    go_wp2
    go_quiet (fail)
    go_wp2
    go_ret
    exact fin _ (below_drewN9x ((Below.refl _ _).alloc (Nat.le_refl _) _) _) (by simp [mayB]; omega)
  have hd3 : decide (s < 1) = false := by simpa using h3
  by_cases h4 : 256 < s
  · have hd : decide (256 < s) = true := by simpa using h4
    go_enter Try.func70, Try.ntmps70
    go_wp2
    go_quiet (fail)
    go_wp2
    go_ret
    exact fin _ (below_drewN9x ((Below.refl _ _).alloc (Nat.le_refl _) _) _) (by simp [mayB]; omega)
  have hd4 : decide (256 < s) = false := by simpa using h4
  have hss := sectors_le s (by omega)
  by_cases h5 : a < 0
  · have hd : decide (a < 0) = true := by simpa using h5
    go_enter Try.func70, Try.ntmps70
    go_wp2
    go_quiet (fail)
    go_wp2
    go_ret
    exact fin _ (below_drewN9x ((Below.refl _ _).alloc (Nat.le_refl _) _) _) (by simp [mayB]; omega)
  have hd5 : decide (a < 0) = false := by simpa using h5
  by_cases h6 : 16 < a
  · have hd : decide (16 < a) = true := by simpa using h6
    go_enter Try.func70, Try.ntmps70
    go_wp2
    go_quiet (fail)
    go_wp2
    go_ret
    exact fin _ (below_drewN9x ((Below.refl _ _).alloc (Nat.le_refl _) _) _) (by simp [mayB]; omega)
  have hd6 : decide (16 < a) = false := by simpa using h6
  go_enter Try.func70, Try.ntmps70
  go_wp2
  obtain ⟨W1, hW, e0, e1, e2, e3, hs1, hb0⟩ := boxed4 w (.int .i64 c) (.int .i64 a) (.int .i64 s) (.bool p) 53
  rw [hW]
  have hsz : s ≤ 9223372036854775807 := by omega
  have hwr : IntKind.i64.wrap (a + sectors s) = a + sectors s := IntWalk.i64_in _ (by omega)
  clear hW
  go_region_held3 (Held W1) (first | exact held_start | exact held_call (by assumption) (by assumption)) (first | (go_at_call 71; refine (rxLen_any c a s p _ hsz).mono ?_; rintro e w' ⟨rfl, hb⟩))
  clear hwr
  have hh : Held W1 w' := by assumption
  have hh1 := hh.1
  by_cases h6 : 16 < a + sectors s
  · go_wp2
    go_ret
    exact fin _ (hb0.trans (hh.2.mono (by omega))) (by simp [mayB]; omega)
  · cases p
    · by_cases h7 : s = 256
      · subst h7
        go_wp2
        go_ret
        exact ⟨by simp [mayB]; omega, hb0.trans (hh.2.mono (by omega))⟩
      · have h7' : (s == 256) = false := by simpa using h7
        go_wp2
        go_ret
        exact fin _ (hb0.trans (hh.2.mono (by omega))) (by simp [mayB]; omega)
    · go_wp2
      go_ret
      exact ⟨by simp [mayB]; omega, hb0.trans (hh.2.mono (by omega))⟩

end Go.Proofs.Ytddbcpmhgjkjpaa
