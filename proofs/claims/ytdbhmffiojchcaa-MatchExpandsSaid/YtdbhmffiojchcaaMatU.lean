/- The walk of MatchExpands. Conditions: numbers fit. -/
import Derived.Test.YtdbhmffiojchcaaMatT
namespace Go.Proofs.Ytdbhmffiojchcaa
open Go.RowKit

set_option maxRecDepth 100000 in
set_option maxHeartbeats 8000000 in
theorem expands_walk (v : Value) (l : List TokT) (most : Int) (w : World) (hv : ToksR w v l) (hl : l.length ≤ 140737488355328) :
    Calls Try.prog 3 #[v, .int .i64 most] w fun e w' => e = .returned (.bool true) ∧ Below w.heap.size w w' := by
  obtain ⟨a0, c0, rfl, _⟩ := id hv
  by_cases hbad : 1000 < l.length
  · go_enter Try.func3, Try.ntmps3
    go_wp2_with fail
    refine (fixed04_any _).mono ?_
    rintro e w1 ⟨rfl, hb1⟩
    go_wp2_with fail
    go_ret
    exact ⟨rfl, hb1⟩
  go_enter Try.func3, Try.ntmps3
  go_wp2_with fail
  refine (expand_any _ _ most _ hv (by omega)).mono ?_
  rintro e w1 ⟨rfl, hb1⟩
  have hv1 := sl_below hv hb1
  go_wp2_with fail
  refine (expandR_any _ _ most _ hv1 (by omega)).mono ?_
  rintro e w2 ⟨rfl, hb2⟩
  have hv2 := sl_below hv1 hb2
  have HB2 := Lib.hid (below_stepB hb1 hb2)
  clear hb1 hb2 hv1 hv
  generalize toldS (exl most l []) = ts at *
  generalize toldB (exl most l []) = tb at *
  have hse : (ts.toList == ts.toList) = true := by simp
  by_cases h0 : l = []
  · subst h0
    go_wp2_with fail
    go_quiet (fail)
    go_wp2_with fail
    refine (fixed04_any _).mono ?_
    rintro e w3 ⟨rfl, hb3⟩
    go_wp2_with fail
    go_ret
    exact ⟨by simp, below_stepB (belowDrewN HB2.out _) hb3⟩
  · obtain ⟨b, off, cap, hv', hlc, hbl, hcell⟩ := toks_cells hv2 (List.length_pos_iff.2 h0)
    injection hv' with q1 q2 q3
    subst q1 q3
    obtain ⟨e0, e1, e2⟩ := hcell 0 (List.length_pos_iff.2 h0)
    rw [Nat.zero_mul, Nat.add_zero] at e0 e1 e2
    generalize l[0]'(List.length_pos_iff.2 h0) = t at *
    obtain ⟨t0, t1, t2⟩ := t
    dsimp only at e0 e1 e2
    have hpos : 0 < l.length := List.length_pos_iff.2 h0
    have Hcell := Lib.hid hcell
    have hz : ((l.length : Int) == 0) = false := by simp [h0]
    clear hcell h0
    go_wp2_with fail
    go_region_held3 (Held w2) (first | exact held_start | exact held_call (by assumption) (by assumption)) (first | (go_at_call 14; refine (may_any _ _ _ _).mono ?_; rintro e w' ⟨rfl, hb⟩) | (go_at_call 15; refine (mayR_any _ _ _ _).mono ?_; rintro e w' ⟨rfl, hb⟩))
    all_goals
      have hb9 := And.right (by assumption : Held w2 _)
      go_wp2_with fail
      refine (fixed04_any _).mono ?_
      rintro e w3 ⟨rfl, hb3⟩
      go_wp2_with fail
      go_ret
      exact ⟨by simp, below_stepB (HB2.out.trans (hb9.mono HB2.out.size)) hb3⟩
end Go.Proofs.Ytdbhmffiojchcaa
