/- The walks of the two Mays. No condition. -/
import Derived.Test.YtdbhmffiojchcaaMatA
import Derived.Test.YtdbhmffiojchcaaMatQ
namespace Go.Proofs.Ytdbhmffiojchcaa
open Go.RowKit

theorem may_other {b d n : Int} (h : ¬ (d = 0 ∧ n = 0)) : mayT (b, d, n) = (decide (b = 0) && decide (1 ≤ d) && decide (d ≤ 255) && decide (3 ≤ n) && decide (n ≤ 18)) := if_neg h

set_option maxHeartbeats 4000000 in
theorem may_any (b d n : Int) (w : World) :
    Calls Try.prog 14 #[.agg #[.int .i64 b, .int .i64 d, .int .i64 n]] w fun e w' => e = .returned (.bool (mayT (b, d, n))) ∧ Below w.heap.size w w' := by
  have fin : ∀ (w' : World) (r : Bool), Below w.heap.size w w' → r = mayT (b, d, n) → ((Ending.returned (.bool r)) = .returned (.bool (mayT (b, d, n))) ∧ Below w.heap.size w w') := fun w' r hb h => by rw [h]; exact ⟨rfl, hb⟩
  by_cases hx : d = 0
  · by_cases hy : n = 0
    · subst hx hy
      by_cases h1 : b < 0
      · go_enter Try.func14, Try.ntmps14
        go_wp2
        go_ret
        refine fin _ _ ((Below.refl _ _).alloc (Nat.le_refl _) _) ?_
        simp [mayT]; omega
      · go_enter Try.func14, Try.ntmps14
        go_wp2
        go_ret
        refine fin _ _ ((Below.refl _ _).alloc (Nat.le_refl _) _) ?_
        rw [mayT, if_pos ⟨rfl, rfl⟩, show decide ((0 : Int) ≤ b) = true by simp; omega]; rfl
    · subst hx
      have hmo := Lib.hid (may_other (b := b) (d := 0) (n := n) (by omega))
      by_cases h1 : b = 0
      · subst h1
        go_enter Try.func14, Try.ntmps14
        go_wp2
        go_ret
        refine fin _ _ ((Below.refl _ _).alloc (Nat.le_refl _) _) ?_
        rw [hmo.out]; simp
      · go_enter Try.func14, Try.ntmps14
        go_wp2
        go_ret
        refine fin _ _ ((Below.refl _ _).alloc (Nat.le_refl _) _) ?_
        rw [hmo.out]; simp [h1]
  · have hmo := Lib.hid (may_other (b := b) (d := d) (n := n) (by omega))
    by_cases h1 : b = 0
    · subst h1
      by_cases h2 : d < 1
      · go_enter Try.func14, Try.ntmps14
        go_wp2
        go_ret
        refine fin _ _ ((Below.refl _ _).alloc (Nat.le_refl _) _) ?_
        rw [hmo.out]; simp; omega
      by_cases h3 : 255 < d
      · go_enter Try.func14, Try.ntmps14
        go_wp2
        go_ret
        refine fin _ _ ((Below.refl _ _).alloc (Nat.le_refl _) _) ?_
        rw [hmo.out]; simp; omega
      by_cases h4 : n < 3
      · go_enter Try.func14, Try.ntmps14
        go_wp2
        go_ret
        refine fin _ _ ((Below.refl _ _).alloc (Nat.le_refl _) _) ?_
        rw [hmo.out]; simp; omega
      go_enter Try.func14, Try.ntmps14
      go_wp2
      go_ret
      refine fin _ _ ((Below.refl _ _).alloc (Nat.le_refl _) _) ?_
      rw [hmo.out, show decide (1 ≤ d) = true by simp; omega, show decide (d ≤ 255) = true by simp; omega, show decide (3 ≤ n) = true by simp; omega]; rfl
    · go_enter Try.func14, Try.ntmps14
      go_wp2
      go_ret
      refine fin _ _ ((Below.refl _ _).alloc (Nat.le_refl _) _) ?_
      rw [hmo.out]; simp [h1]

set_option maxHeartbeats 4000000 in
theorem mayR_any (b d n : Int) (w : World) :
    Calls Try.prog 15 #[.agg #[.int .i64 b, .int .i64 d, .int .i64 n]] w fun e w' => e = .returned (.bool (mayT (b, d, n))) ∧ Below w.heap.size w w' := by
  have fin : ∀ (w' : World) (r : Bool), Below w.heap.size w w' → r = mayT (b, d, n) → ((Ending.returned (.bool r)) = .returned (.bool (mayT (b, d, n))) ∧ Below w.heap.size w w') := fun w' r hb h => by rw [h]; exact ⟨rfl, hb⟩
  by_cases hx : n = 0
  · by_cases hy : d = 0
    · subst hx hy
      by_cases h1 : b < 0
      · go_enter Try.func15, Try.ntmps15
        go_wp2
        go_ret
        refine fin _ _ ((Below.refl _ _).alloc (Nat.le_refl _) _) ?_
        simp [mayT]; omega
      · go_enter Try.func15, Try.ntmps15
        go_wp2
        go_ret
        refine fin _ _ ((Below.refl _ _).alloc (Nat.le_refl _) _) ?_
        rw [mayT, if_pos ⟨rfl, rfl⟩, show decide ((0 : Int) ≤ b) = true by simp; omega]; rfl
    · subst hx
      have hmo := Lib.hid (may_other (b := b) (d := d) (n := 0) (by omega))
      by_cases h1 : b = 0
      · subst h1
        by_cases h2 : d < 1
        · go_enter Try.func15, Try.ntmps15
          go_wp2
          go_ret
          refine fin _ _ ((Below.refl _ _).alloc (Nat.le_refl _) _) ?_
          rw [hmo.out]; simp
        by_cases h3 : 255 < d
        · go_enter Try.func15, Try.ntmps15
          go_wp2
          go_ret
          refine fin _ _ ((Below.refl _ _).alloc (Nat.le_refl _) _) ?_
          rw [hmo.out]; simp
        go_enter Try.func15, Try.ntmps15
        go_wp2
        go_ret
        refine fin _ _ ((Below.refl _ _).alloc (Nat.le_refl _) _) ?_
        rw [hmo.out]; simp
      · go_enter Try.func15, Try.ntmps15
        go_wp2
        go_ret
        refine fin _ _ ((Below.refl _ _).alloc (Nat.le_refl _) _) ?_
        rw [hmo.out]; simp [h1]
  · have hmo := Lib.hid (may_other (b := b) (d := d) (n := n) (by omega))
    by_cases h1 : b = 0
    · subst h1
      by_cases h2 : d < 1
      · go_enter Try.func15, Try.ntmps15
        go_wp2
        go_ret
        refine fin _ _ ((Below.refl _ _).alloc (Nat.le_refl _) _) ?_
        rw [hmo.out]; simp; omega
      by_cases h3 : 255 < d
      · go_enter Try.func15, Try.ntmps15
        go_wp2
        go_ret
        refine fin _ _ ((Below.refl _ _).alloc (Nat.le_refl _) _) ?_
        rw [hmo.out]; simp; omega
      by_cases h4 : n < 3
      · go_enter Try.func15, Try.ntmps15
        go_wp2
        go_ret
        refine fin _ _ ((Below.refl _ _).alloc (Nat.le_refl _) _) ?_
        rw [hmo.out]; simp; omega
      go_enter Try.func15, Try.ntmps15
      go_wp2
      go_ret
      refine fin _ _ ((Below.refl _ _).alloc (Nat.le_refl _) _) ?_
      rw [hmo.out, show decide (1 ≤ d) = true by simp; omega, show decide (d ≤ 255) = true by simp; omega, show decide (3 ≤ n) = true by simp; omega]; rfl
    · go_enter Try.func15, Try.ntmps15
      go_wp2
      go_ret
      refine fin _ _ ((Below.refl _ _).alloc (Nat.le_refl _) _) ?_
      rw [hmo.out]; simp [h1]
end Go.Proofs.Ytdbhmffiojchcaa
