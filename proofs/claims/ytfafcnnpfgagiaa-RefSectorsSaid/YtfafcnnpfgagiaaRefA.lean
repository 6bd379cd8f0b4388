/- Contracts of ref's functions. -/
import Derived.Test.YtfafcnnpfgagiaaChecked
import Derived.WalkKit
import Derived.WalkLawsBesides
import Derived.WalkSpells
import Derived.Below
import Derived.Outline
import Derived.Lib.Hide
import Derived.Deep.QuietTactic
import Derived.BigQuiet
import Derived.IntWalk
import Derived.Deep.RegionHeld3
import Derived.Deep.DeepFit
import Derived.Test.YtfafcnnpfgagiaaHeld
namespace Go.Proofs.Ytfafcnnpfgagiaa
open Go.RowKit

def sectors (n : Int) : Int := if n ≤ 0 then 0 else (n - 1) / 32 + 1

theorem sectors_any (n : Int) (w : World) (h : n ≤ 9223372036854775807) :
    Calls Try.prog 27 #[.int .i64 n] w fun e w' => e = .returned (.int .i64 (sectors n)) ∧ w = w' := by
  by_cases h0 : n ≤ 0
  · go_enter Try.func27, Try.ntmps27
    go_wp2
    go_ret
    exact ⟨by simp [sectors, h0], rfl⟩
  · go_enter Try.func27, Try.ntmps27
    go_wp2
    go_ret
    exact ⟨by simp; rw [sectors, if_neg (by omega)], rfl⟩

theorem len_any (c a s : Int) (p : Bool) (w : World) (h : s ≤ 9223372036854775807) :
    Calls Try.prog 18 #[.agg #[.int .i64 c, .int .i64 a, .int .i64 s, .bool p]] w fun e w' => e = .returned (.int .i64 (sectors s)) ∧ Below w.heap.size w w' := by
  go_enter Try.func18, Try.ntmps18
  go_wp2_with (go_at_call 27; refine (sectors_any _ _ h).mono ?_; rintro e w' ⟨rfl, rfl⟩)
  go_ret
  exact ⟨rfl, (Below.refl _ _).alloc (Nat.le_refl _) _⟩

def mayB (c a s : Int) (p : Bool) : Bool := decide (0 ≤ c ∧ c < 1000 ∧ 1 ≤ s ∧ s ≤ 256 ∧ 0 ≤ a ∧ a + sectors s ≤ 16 ∧ (p = true ∨ s = 256))

theorem sectors_le (s : Int) (h : s ≤ 256) : 0 ≤ sectors s ∧ sectors s ≤ 8 := by
  unfold sectors; split <;> omega

set_option maxHeartbeats 400000 in
theorem may_any (c a s : Int) (p : Bool) (w : World) :
    Calls Try.prog 14 #[.agg #[.int .i64 c, .int .i64 a, .int .i64 s, .bool p]] w fun e w' => e = .returned (.bool (mayB c a s p)) ∧ Below w.heap.size w w' := by
  have fin : ∀ w', Below w.heap.size w w' → mayB c a s p = false → ((Ending.returned (.bool false)) = .returned (.bool (mayB c a s p)) ∧ Below w.heap.size w w') := by
    intro w' hb h; rw [h]; exact ⟨rfl, hb⟩
  by_cases h1 : c < 0
  · go_enter Try.func14, Try.ntmps14
    go_wp2
    go_ret
    exact fin _ ((Below.refl _ _).alloc (Nat.le_refl _) _) (by simp [mayB]; omega)
  by_cases h2 : 1000 ≤ c
  · go_enter Try.func14, Try.ntmps14
    go_wp2
    go_ret
    exact fin _ ((Below.refl _ _).alloc (Nat.le_refl _) _) (by simp [mayB]; omega)
  by_cases h3 : s < 1
  · go_enter Try.func14, Try.ntmps14
    go_wp2
    go_ret
    exact fin _ ((Below.refl _ _).alloc (Nat.le_refl _) _) (by simp [mayB]; omega)
  by_cases h4 : 256 < s
  · go_enter Try.func14, Try.ntmps14
    go_wp2
    go_ret
    exact fin _ ((Below.refl _ _).alloc (Nat.le_refl _) _) (by simp [mayB]; omega)
  by_cases h5 : a < 0
  · have hd : decide (a < 0) = true := by simpa using h5
    go_enter Try.func14, Try.ntmps14
    go_wp2
    go_quiet (fail)
    go_wp2
    go_ret
    exact fin _ (below_drewN ((Below.refl _ _).alloc (Nat.le_refl _) _) _) (by simp [mayB]; omega)
  have hd : decide (a < 0) = false := by simpa using h5
  go_enter Try.func14, Try.ntmps14
  go_wp2
  generalize hO : Obj.cells #[Value.int IntKind.i64 c, Value.int IntKind.i64 a, Value.int IntKind.i64 s, Value.bool p] 23 = O
  generalize hW : w.alloc O = W1
  have e0 : W1.cell? ⟨w.heap.size, 0, none⟩ = some (.int .i64 c) := by rw [← hW, ← hO]; simp
  have e1 : W1.cell? ⟨w.heap.size, 1, none⟩ = some (.int .i64 a) := by rw [← hW, ← hO]; simp
  have e2 : W1.cell? ⟨w.heap.size, 2, none⟩ = some (.int .i64 s) := by rw [← hW, ← hO]; simp
  have e3 : W1.cell? ⟨w.heap.size, 3, none⟩ = some (.bool p) := by rw [← hW, ← hO]; simp
  have hs1 : w.heap.size < W1.heap.size := by rw [← hW]; simp
  have hb0 : Below w.heap.size w W1 := by rw [← hW]; exact (Below.refl _ _).alloc (Nat.le_refl _) _
  have hss := sectors_le s h4
  have hsz : s ≤ 9223372036854775807 := by omega
  have hwr : IntKind.i64.wrap (16 - sectors s) = 16 - sectors s := IntWalk.i64_in _ (by omega)
  clear hW hO
  go_region_held3 (Held W1) (first | exact held_start | exact held_call (by assumption) (by assumption)) (first | (go_at_call 18; refine (len_any c a s p _ hsz).mono ?_; rintro e w' ⟨rfl, hb⟩))
  clear hwr
  have hh : Held W1 w' := by assumption
  have hh1 := hh.1
  by_cases h6 : 16 - sectors s < a
  · go_wp2
    go_ret
    exact fin _ (hb0.trans (hh.2.mono (by omega))) (by simp [mayB]; omega)
  · cases p
    · by_cases h7 : s = 256
      · subst h7
        go_wp2
        go_ret
        exact ⟨by simp [mayB]; omega, hb0.trans (hh.2.mono (by omega))⟩
      · have h7' : (s == 256) = false := by simpa using h7
        go_wp2
        go_ret
        exact fin _ (hb0.trans (hh.2.mono (by omega))) (by simp [mayB]; omega)
    · go_wp2
      go_ret
      exact ⟨by simp [mayB]; omega, hb0.trans (hh.2.mono (by omega))⟩
end Go.Proofs.Ytfafcnnpfgagiaa
