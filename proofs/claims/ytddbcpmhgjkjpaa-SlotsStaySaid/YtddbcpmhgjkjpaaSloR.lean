/- The fixed calls of layer 14. Conditions: none. -/
import Derived.Test.YtddbcpmhgjkjpaaSloO
namespace Go.Proofs.Ytddbcpmhgjkjpaa
open Go.RowKit

theorem fx1 : takeU [] 2 = [((0 : Int), (2 : Int), (1 : Int), false)] ∧ takeP [] 2 = 0 ∧ takeOk [] 2 = true := by decide
theorem fx2 : turnU [((0 : Int), (2 : Int), (1 : Int), false)] 0 (-1) = [] ∧ turnOk [((0 : Int), (2 : Int), (1 : Int), false)] 0 (-1) = true := by decide
theorem fx3 : commitU [((0 : Int), (2 : Int), (1 : Int), false)] = [((0 : Int), (2 : Int), (1 : Int), true)] := by decide
theorem fx4 : turnU [((0 : Int), (2 : Int), (1 : Int), true)] 0 (-1) = [((0 : Int), (2 : Int), (0 : Int), true)] ∧ turnOk [((0 : Int), (2 : Int), (1 : Int), true)] 0 (-1) = true := by decide
theorem fx5 : turnU [((0 : Int), (2 : Int), (1 : Int), false)] 0 1 = [((0 : Int), (2 : Int), (2 : Int), false)] ∧ turnOk [((0 : Int), (2 : Int), (1 : Int), false)] 0 1 = true := by decide
theorem fx6 : commitU [((0 : Int), (2 : Int), (0 : Int), true)] = [] := by decide
theorem fx7 : countU [((0 : Int), (2 : Int), (2 : Int), false)] 0 = 2 := by decide
theorem fx8 : mayU [((0 : Int), (2 : Int), (1 : Int), false)] = true := by decide
def fxL : List Bool := [true, true, false, false, false, false, false, false, false, false, false, false, false, false, false, false]
theorem fx9 : usedU [((0 : Int), (2 : Int), (1 : Int), false)] = fxL := by decide
theorem use_new (w : World) (u : Us) : UseV (w.alloc (.cells #[.int .i64 u.1, .int .i64 u.2.1, .int .i64 u.2.2.1, .bool u.2.2.2] 41)) (.slice (some ⟨w.heap.size, 0, none⟩) 1 1) [u] := by
  refine ⟨_, 1, rfl, Nat.le_refl _, nofun, Or.inr ⟨w.heap.size, 0, rfl, by simp, fun i hi j hj => ?_⟩⟩
  obtain rfl : i = 0 := by simpa using hi
  rw [World.cell?_alloc_new]
  rcases j with _ | _ | _ | _ | j
  · rfl
  · rfl
  · rfl
  · rfl
  · omega

set_option maxRecDepth 100000 in
set_option maxHeartbeats 8000000 in
theorem fixed14_any (w : World) : Calls Try.prog 14 #[] w fun e w' => e = .returned (.bool true) ∧ Below w.heap.size w w' := by
  go_enter Try.func14, Try.ntmps14
  have hc := take_any (.slice none 0 0) [] 2 w (sl_nil fun _ => rfl) (by decide)
  unfold TakeV at hc
  rw [fx1.1, fx1.2.1, fx1.2.2] at hc
  simp only [List.length_cons, List.length_nil, Nat.zero_add] at hc
  go_wp2_with fail
  refine hc.mono ?_
  rintro e w1 ⟨a1, c1, rfl, hs, hb⟩
  have H1 := Lib.hid (hb)
  have S1 := Lib.hid hs
  clear hs
  clear hc hb
  have hc := dec_any _ [((0 : Int), (2 : Int), (1 : Int), false)] 0 w1 S1.out (by decide)
  unfold TurnV at hc
  rw [fx2.1, fx2.2] at hc
  simp only [List.length_nil] at hc
  go_wp2_with fail
  refine hc.mono ?_
  rintro e w2 ⟨a2, c2, rfl, hs, hb⟩
  have H2 := Lib.hid (hb)
  have S2 := Lib.hid hs
  clear hs
  clear hc hb
  have hc := commit_any _ [((0 : Int), (2 : Int), (1 : Int), false)] w2 (sl_below S1.out H2.out) (by decide)
  rw [fx3] at hc
  simp only [List.length_cons, List.length_nil, Nat.zero_add] at hc
  go_wp2_with fail
  refine hc.mono ?_
  rintro e w3 ⟨a3, c3, rfl, hs, hb⟩
  have H3 := Lib.hid (hb)
  have S3 := Lib.hid hs
  clear hs
  clear hc hb
  have hc := dec_any _ [((0 : Int), (2 : Int), (1 : Int), true)] 0 w3 S3.out (by decide)
  unfold TurnV at hc
  rw [fx4.1, fx4.2] at hc
  simp only [List.length_cons, List.length_nil, Nat.zero_add] at hc
  go_wp2_with fail
  refine hc.mono ?_
  rintro e w4 ⟨a4, c4, rfl, hs, hb⟩
  have H4 := Lib.hid (hb)
  have S4 := Lib.hid hs
  clear hs
  clear hc hb
  have hc := inc_any _ [((0 : Int), (2 : Int), (1 : Int), false)] 0 w4 (sl_below S1.out (below_step9 (below_step9 H2.out H3.out) H4.out)) (by decide)
  unfold TurnV at hc
  rw [fx5.1, fx5.2] at hc
  simp only [List.length_cons, List.length_nil, Nat.zero_add] at hc
  go_wp2_with fail
  refine hc.mono ?_
  rintro e w5 ⟨a5, c5, rfl, hs, hb⟩
  have H5 := Lib.hid (hb)
  have S5 := Lib.hid hs
  clear hs
  clear hc hb
  have hc := same_use _ _ [((0 : Int), (2 : Int), (1 : Int), false)] _ (sl_below (sl_below S1.out (below_step9 (below_step9 (below_step9 H2.out H3.out) H4.out) H5.out)) ((Below.refl _ _).alloc (Nat.le_refl _) (.cells #[.int .i64 0, .int .i64 2, .int .i64 1, .bool false] 41))) (use_new w5 (0, 2, 1, false)) (by decide)
  go_wp2_with fail
  refine hc.mono ?_
  rintro e w6 ⟨rfl, hb⟩
  have H6 := Lib.hid (below_step9 ((Below.refl _ _).alloc (Nat.le_refl _) _) hb)
  clear hc hb
  have hc := same_use _ _ [((0 : Int), (2 : Int), (0 : Int), true)] _ (sl_below (sl_below S4.out (below_step9 H5.out H6.out)) ((Below.refl _ _).alloc (Nat.le_refl _) (.cells #[.int .i64 0, .int .i64 2, .int .i64 0, .bool true] 41))) (use_new w6 (0, 2, 0, true)) (by decide)
  go_wp2_with fail
  refine hc.mono ?_
  rintro e w7 ⟨rfl, hb⟩
  have H7 := Lib.hid (below_step9 ((Below.refl _ _).alloc (Nat.le_refl _) _) hb)
  clear hc hb
  have hc := commit_any _ [((0 : Int), (2 : Int), (0 : Int), true)] w7 (sl_below S4.out (below_step9 (below_step9 H5.out H6.out) H7.out)) (by decide)
  rw [fx6] at hc
  simp only [List.length_nil] at hc
  go_wp2_with fail
  refine hc.mono ?_
  rintro e w8 ⟨a8, c8, rfl, hs, hb⟩
  have H8 := Lib.hid (hb)
  clear hs
  clear hc hb
  have hc := count_any _ [((0 : Int), (2 : Int), (2 : Int), false)] 0 w8 (sl_below S5.out (below_step9 (below_step9 H6.out H7.out) H8.out)) (by decide)
  rw [fx7] at hc
  go_wp2_with fail
  refine hc.mono ?_
  rintro e w9 ⟨rfl, hb⟩
  have H9 := Lib.hid (hb)
  clear hc hb
  have hc := may_any _ [((0 : Int), (2 : Int), (1 : Int), false)] w9 (sl_below S1.out (below_step9 (below_step9 (below_step9 (below_step9 (below_step9 (below_step9 (below_step9 H2.out H3.out) H4.out) H5.out) H6.out) H7.out) H8.out) H9.out)) (by decide)
  rw [fx8] at hc
  go_wp2_with fail
  refine hc.mono ?_
  rintro e w10 ⟨rfl, hb⟩
  have H10 := Lib.hid (hb)
  clear hc hb
  have hc := used_any _ [((0 : Int), (2 : Int), (1 : Int), false)] w10 (sl_below S1.out (below_step9 (below_step9 (below_step9 (below_step9 (below_step9 (below_step9 (below_step9 (below_step9 H2.out H3.out) H4.out) H5.out) H6.out) H7.out) H8.out) H9.out) H10.out)) (by decide)
  rw [fx9] at hc
  rw [show fxL.length = 16 from rfl] at hc
  go_wp2_with fail
  refine hc.mono ?_
  rintro e w11 ⟨a11, c11, rfl, hs, hb⟩
  have H11 := Lib.hid (hb)
  clear hs
  clear hc hb
  have hc := used_any _ [((0 : Int), (2 : Int), (1 : Int), false)] w11 (sl_below S1.out (below_step9 (below_step9 (below_step9 (below_step9 (below_step9 (below_step9 (below_step9 (below_step9 (below_step9 H2.out H3.out) H4.out) H5.out) H6.out) H7.out) H8.out) H9.out) H10.out) H11.out)) (by decide)
  rw [fx9] at hc
  rw [show fxL.length = 16 from rfl] at hc
  go_wp2_with fail
  refine hc.mono ?_
  rintro e w12 ⟨a12, c12, rfl, hs, hb⟩
  have H12 := Lib.hid (hb)
  obtain ⟨b12, o12, hq, hcell⟩ : ∃ b o, a12 = some ⟨b, o, none⟩ ∧ w12.cell? ⟨b, o + 1, none⟩ = some (.bool true) := by
    rcases sl_one hs with ⟨h, _⟩ | ⟨_, b, o, cap, hv, _, _, hcl⟩
    · cases h
    · injection hv with h1 _ _
      exact ⟨b, o, h1, hcl 1 (by decide)⟩
  subst hq
  clear hs
  clear hc hb
  go_wp2_with fail
  go_ret
  exact ⟨rfl, (below_step9 (below_step9 (below_step9 (below_step9 (below_step9 (below_step9 (below_step9 (below_step9 (below_step9 (below_step9 (below_step9 H1.out H2.out) H3.out) H4.out) H5.out) H6.out) H7.out) H8.out) H9.out) H10.out) H11.out) H12.out)⟩
end Go.Proofs.Ytddbcpmhgjkjpaa
