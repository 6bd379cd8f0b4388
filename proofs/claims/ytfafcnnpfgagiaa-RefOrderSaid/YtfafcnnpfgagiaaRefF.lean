/- The walk of RefOrder. No condition. -/
import Derived.Test.YtfafcnnpfgagiaaRefE
namespace Go.Proofs.Ytfafcnnpfgagiaa
open Go.RowKit

theorem may_bd' {c a s : Int} {p : Bool} (h : mayB c a s p = true) : 0 ≤ c ∧ c < 1000 ∧ 1 ≤ s ∧ s ≤ 256 ∧ 0 ≤ a ∧ a ≤ 15 := by
  have h1 := mayB_iff h
  have := sectors_enough h1.2.2.1 h1.2.2.2.1
  omega

theorem num_lt {c a s c' a' s' : Int} {p p' : Bool} (h : mayB c a s p = true) (h' : mayB c' a' s' p' = true) (hl : c < c' ∨ (c = c' ∧ a < a')) : numI c a s p < numI c' a' s' p' := by
  have b := may_bd' h
  have b' := may_bd' h'
  rw [num_yes h, num_yes h']
  split <;> split <;> omega

set_option maxHeartbeats 4000000 in
theorem order_walk (c a s : Int) (p : Bool) (c' a' s' : Int) (p' : Bool) (w : World) :
    Calls Try.prog 6 #[.agg #[.int .i64 c, .int .i64 a, .int .i64 s, .bool p], .agg #[.int .i64 c', .int .i64 a', .int .i64 s', .bool p']] w fun e w' => e = .returned (.bool true) ∧ Below w.heap.size w w' := by
  go_enter Try.func6, Try.ntmps6
  go_wp2_with fail
  obtain ⟨W2, hW2, e0, e1, e2, e3, f0, f1, f2, f3, hs2, hw0, hbw⟩ := boxed44 w (.int .i64 c) (.int .i64 a) (.int .i64 s) (.bool p) (.int .i64 c') (.int .i64 a') (.int .i64 s') (.bool p') 23
  rw [hW2]
  clear hW2
  refine (fixed15_any _).mono ?_
  rintro e w1 ⟨rfl, hb1⟩
  have hh1 := held_call hb1 (held_refl _)
  have hc1 := hh1.1
  cases hm : mayB c a s p
  · go_wp2_with fail
    refine (may_any _ _ _ _ _).mono ?_
    rintro e w2 ⟨rfl, hb2⟩
    have hh2 := held_call hb2 hh1
    go_wp2_with fail
    refine (fixed15_any _).mono ?_
    rintro e w3 ⟨rfl, hb3⟩
    have hh3 := held_call hb3 hh2
    go_wp2_with fail
    go_ret
    exact ⟨rfl, hbw.trans (hh3.2.mono (by omega))⟩
  · go_wp2_with fail
    refine (may_any _ _ _ _ _).mono ?_
    rintro e w2 ⟨rfl, hb2⟩
    have hh2 := held_call hb2 hh1
    have hc2 := hh2.1
    cases hm' : mayB c' a' s' p'
    · go_wp2_with fail
      refine (may_any _ _ _ _ _).mono ?_
      rintro e w3 ⟨rfl, hb3⟩
      have hh3 := held_call hb3 hh2
      go_wp2_with fail
      refine (fixed15_any _).mono ?_
      rintro e w4 ⟨rfl, hb4⟩
      have hh4 := held_call hb4 hh3
      go_wp2_with fail
      go_ret
      exact ⟨rfl, hbw.trans (hh4.2.mono (by omega))⟩
    · go_wp2_with fail
      refine (may_any _ _ _ _ _).mono ?_
      rintro e w3 ⟨rfl, hb3⟩
      have hh3 := held_call hb3 hh2
      have hc3 := hh3.1
      have r0 : w3.cell? ⟨w.heap.size, 0, none⟩ = some (.int .i64 c) := by rw [hc3 _ _ hw0, e0]
      have r1 : w3.cell? ⟨w.heap.size, 1, none⟩ = some (.int .i64 a) := by rw [hc3 _ _ hw0, e1]
      have r2 : w3.cell? ⟨w.heap.size, 2, none⟩ = some (.int .i64 s) := by rw [hc3 _ _ hw0, e2]
      have r3 : w3.cell? ⟨w.heap.size, 3, none⟩ = some (.bool p) := by rw [hc3 _ _ hw0, e3]
      have t0 : w3.cell? ⟨w.heap.size + 1, 0, none⟩ = some (.int .i64 c') := by rw [hc3 _ _ hs2, f0]
      have t1 : w3.cell? ⟨w.heap.size + 1, 1, none⟩ = some (.int .i64 a') := by rw [hc3 _ _ hs2, f1]
      have t2 : w3.cell? ⟨w.heap.size + 1, 2, none⟩ = some (.int .i64 s') := by rw [hc3 _ _ hs2, f2]
      have t3 : w3.cell? ⟨w.heap.size + 1, 3, none⟩ = some (.bool p') := by rw [hc3 _ _ hs2, f3]
      have z0 : w.heap.size < w3.heap.size := by have := hh3.2.size; omega
      have z1 : w.heap.size + 1 < w3.heap.size := by have := hh3.2.size; omega
      have fin0 : Below w.heap.size w w3 := hbw.trans (hh3.2.mono (by omega))
      clear hc1 hc2 hc3 hh1 hh2 hh3 e0 e1 e2 e3 f0 f1 f2 f3 hb1 hb2 hb3
      go_wp2_with fail
      have HM := Lib.hid hm
      have HM' := Lib.hid hm'
      clear hm hm'
      go_region_held3 (Held w3) (first | exact held_start | exact held_call (by assumption) (by assumption)) (first | (go_at_call 16; refine (num_any _ _ _ _ _).mono ?_; rintro e w' ⟨rfl, hb⟩))
      have hh : Held w3 w' := by assumption
      have hh1 := hh.1
      have fin : Below w.heap.size w w' := fin0.trans (hh.2.mono (by omega))
      clear hb
      rcases Int.lt_trichotomy c c' with q | rfl | q
      · have g := num_lt HM.out HM'.out (Or.inl q)
        have g1 : (c != c') = true := by simp; omega
        go_wp2_with fail
        go_ret
        exact ⟨rfl, fin⟩
      · rcases Int.lt_trichotomy a a' with r | rfl | r
        · have g := num_lt HM.out HM'.out (Or.inr ⟨rfl, r⟩)
          have g1 : (a == a') = false := by simp; omega
          go_wp2_with fail
          go_ret
          exact ⟨rfl, fin⟩
        · go_wp2_with fail
          go_ret
          exact ⟨rfl, fin⟩
        · have g := num_lt HM'.out HM.out (Or.inr ⟨rfl, r⟩)
          have d1 : decide (numI c a s p < numI c a' s' p') = false := decide_eq_false (by omega)
          have d2 : decide (a < a') = false := decide_eq_false (by omega)
          have g1 : (a == a') = false := by simp; omega
          go_wp2_with fail
          go_ret
          exact ⟨rfl, fin⟩
      · have g := num_lt HM'.out HM.out (Or.inl q)
        have d1 : decide (numI c a s p < numI c' a' s' p') = false := decide_eq_false (by omega)
        have d2 : decide (c < c') = false := decide_eq_false (by omega)
        have g1 : (c != c') = true := by simp; omega
        go_wp2_with fail
        go_ret
        exact ⟨rfl, fin⟩
end Go.Proofs.Ytfafcnnpfgagiaa
