/- The fixed calls of layer 17. Conditions: none. -/
import Derived.Test.YtddbcpmhgjkjpaaAlcH
import Derived.Test.YtddbcpmhgjkjpaaAlcG
namespace Go.Proofs.Ytddbcpmhgjkjpaa
open Go.RowKit

def gx0 : List (List Us) := [[], []]
def gx1 : List (List Us) := [[], [((0 : Int), (3 : Int), (1 : Int), false)]]
def gx2 : List (List Us) := [[], [((0 : Int), (3 : Int), (2 : Int), false)]]
theorem gf1 : takeTR gx0 3 0 = (gx1, 1, 0, true) := by decide
theorem gf2 : chanOk gx1 1 0 70 true 1 = true ∧ chanR gx1 1 0 70 true 1 = gx2 := by decide
theorem gf3 : chanOk gx1 1 0 70 true (-1) = true ∧ chanR gx1 1 0 70 true (-1) = gx0 := by decide
theorem gf4 : chanOk gx1 1 0 30 true (-1) = false ∧ chanR gx1 1 0 30 true (-1) = [] := by decide
theorem gf5 : freeTn gx1 = 29 ∧ wholeTn gx1 = 1 := by decide
theorem gf6 : mayT gx0 = true ∧ mayT [] = false := by decide
theorem tab_two (w : World) (w1 : World) (h : w.alloc (.cells #[.slice none 0 0, .slice none 0 0] 22) = w1) : TabV w1 (.slice (some ⟨w.heap.size, 0, none⟩) 2 2) gx0 := by
  subst h
  refine ⟨[.slice none 0 0, .slice none 0 0], ⟨_, 2, rfl, Nat.le_refl _, nofun, Or.inr ⟨w.heap.size, 0, rfl, by simp, fun i hi j hj => ?_⟩⟩, rfl, fun i hi hj => ?_⟩
  · obtain rfl : j = 0 := by omega
    rw [World.cell?_alloc_new]
    rcases i with _ | _ | i
    · rfl
    · rfl
    · simp only [List.length_cons, List.length_nil] at hi; omega
  · rcases i with _ | _ | i
    · exact sl_nil fun _ => rfl
    · exact sl_nil fun _ => rfl
    · simp only [List.length_cons, List.length_nil] at hi; omega

set_option maxRecDepth 100000 in
set_option maxHeartbeats 8000000 in
theorem fixed17_any (w : World) : Calls Try.prog 35 #[] w fun e w' => e = .returned (.bool true) ∧ Below w.heap.size w w' := by
  obtain ⟨W1, hW1⟩ : ∃ W1, w.alloc (.cells #[.slice none 0 0, .slice none 0 0] 22) = W1 := ⟨_, rfl⟩
  have HT0 := Lib.hid (tab_two w W1 hW1)
  have HB0 : Hid (Below w.heap.size w W1) := by subst hW1; exact (Below.refl _ _).alloc (Nat.le_refl _) _
  have few0 : FewT gx0 := ⟨by decide, by decide⟩
  have few1 : FewT gx1 := ⟨by decide, by decide⟩
  have few2 : FewT gx2 := ⟨by decide, by decide⟩
  have fewn : FewT [] := ⟨by decide, by decide⟩
  have hc := takeTP_any _ gx0 3 0 W1 HT0.out few0
  unfold TakeTV at hc
  rw [gf1] at hc
  dsimp only at hc
  rw [show gx1.length = 2 from rfl] at hc
  go_enter Try.func35, Try.ntmps35
  go_wp2_with fail
  refine hc.mono ?_
  rintro e w2 ⟨a2, c2, rfl, ht2, hb2⟩
  have HT2 := Lib.hid ht2
  have H2 := Lib.hid hb2
  clear hc ht2 hb2
  obtain ⟨W3, hW3, e0, e1, e2, e3, hs3, hb3⟩ := boxed4 w2 (.int .i64 1) (.int .i64 0) (.int .i64 70) (.bool true) 53
  have H3 := Lib.hid hb3
  have HT3 := Lib.hid (tab_below HT2.out hb3)
  clear hb3
  have hc := incT_any _ gx1 1 0 70 true W3 HT3.out few1
  unfold ChanV at hc
  rw [gf2.1, gf2.2, show gx2.length = 2 from rfl] at hc
  go_wp2_with fail
  refine hc.mono ?_
  rintro e w4 ⟨a4, c4, rfl, ht4, hb4⟩
  have HT4 := Lib.hid ht4
  have H4 := Lib.hid hb4
  have f0 := (hb4.cell (p := ⟨w2.heap.size, 0, none⟩) hs3).trans e0
  have f1 := (hb4.cell (p := ⟨w2.heap.size, 1, none⟩) hs3).trans e1
  have f2 := (hb4.cell (p := ⟨w2.heap.size, 2, none⟩) hs3).trans e2
  have f3 := (hb4.cell (p := ⟨w2.heap.size, 3, none⟩) hs3).trans e3
  clear hc ht4 hb4 e0 e1 e2 e3
  have hc := decT_any _ gx1 1 0 70 true w4 (tab_below HT3.out H4.out) few1
  unfold ChanV at hc
  rw [gf3.1, gf3.2, show gx0.length = 2 from rfl] at hc
  go_wp2_with fail
  refine hc.mono ?_
  rintro e w5 ⟨a5, c5, rfl, ht5, hb5⟩
  have HT5 := Lib.hid ht5
  have H5 := Lib.hid hb5
  clear hc ht5 hb5 f0 f1 f2 f3
  have hc := decT_any _ gx1 1 0 30 true w5 (tab_below HT3.out (below_step9 H4.out H5.out)) few1
  unfold ChanV at hc
  rw [gf4.1, gf4.2, show ([] : List (List Us)).length = 0 from rfl] at hc
  go_wp2_with fail
  refine hc.mono ?_
  rintro e w6 ⟨a6, c6, rfl, _, hb6⟩
  have H6 := Lib.hid hb6
  clear hc hb6
  have hc := freeTP_any _ gx1 w6 (tab_below HT3.out (below_step9 (below_step9 H4.out H5.out) H6.out)) few1
  rw [gf5.1, gf5.2] at hc
  go_wp2_with fail
  refine hc.mono ?_
  rintro e w7 ⟨rfl, hb7⟩
  have H7 := Lib.hid hb7
  clear hc hb7
  have ht7 := tab_below HT4.out (below_step9 (below_step9 H5.out H6.out) H7.out)
  obtain ⟨b8, off8, au8, cu8, hveq, hb8, hcell8, hu8⟩ := tab_at ht7 (k := 1) (by decide)
  subst hveq
  rw [show (gx2[1]).length = 1 from rfl] at hcell8 hu8
  obtain ⟨b9, off9, hveq, hb9, _, _, q2, _⟩ := use_at hu8 (k := 0) (by decide)
  subst hveq
  have q2' : w7.cell? ⟨b9, off9 + 2, none⟩ = some (.int .i64 2) := by simpa [gx2] using q2
  clear q2
  clear ht7 hu8
  have hb71 := below_step9 HB0.out (below_step9 (below_step9 H2.out H3.out) (below_step9 (below_step9 H4.out H5.out) (below_step9 H6.out H7.out)))
  have HB7 := Lib.hid hb71
  have ht0 := tab_below HT0.out (below_step9 (below_step9 H2.out H3.out) (below_step9 (below_step9 H4.out H5.out) (below_step9 H6.out H7.out)))
  have hc := sameT_any _ _ gx0 w7 (tab_below HT5.out (below_step9 H6.out H7.out)) ht0 few0
  have Ht0 := Lib.hid ht0
  clear ht0 hb71
  go_wp2_with fail
  refine hc.mono ?_
  rintro e w8 ⟨rfl, hb8⟩
  have H8 := Lib.hid hb8
  clear hc hb8
  have hc := broken2_any _ w8 (tab_below Ht0.out H8.out)
  go_wp2_with fail
  refine hc.mono ?_
  rintro e w9 ⟨rfl, hb9⟩
  have H9 := Lib.hid hb9
  clear hc hb9
  have hc := text0_any w9
  go_wp2_with fail
  refine hc.mono ?_
  rintro e w10 ⟨rfl, hb10⟩
  have H10 := Lib.hid hb10
  clear hc hb10
  have hc := mayTP_any _ gx0 w10 (tab_below Ht0.out (below_step9 (below_step9 H8.out H9.out) H10.out)) few0
  rw [gf6.1] at hc
  go_wp2_with fail
  refine hc.mono ?_
  rintro e w11 ⟨rfl, hb11⟩
  have H11 := Lib.hid hb11
  clear hc hb11
  have hc := mayTP_any (.slice none 0 0) [] w11 (tab_nil fun _ => rfl) fewn
  rw [gf6.2] at hc
  go_wp2_with fail
  refine hc.mono ?_
  rintro e w12 ⟨rfl, hb12⟩
  have H12 := Lib.hid hb12
  clear hc hb12
  go_wp2_with fail
  go_ret
  exact ⟨rfl, below_step9 HB7.out (below_step9 (below_step9 H8.out H9.out) (below_step9 (below_step9 H10.out H11.out) H12.out))⟩
end Go.Proofs.Ytddbcpmhgjkjpaa
