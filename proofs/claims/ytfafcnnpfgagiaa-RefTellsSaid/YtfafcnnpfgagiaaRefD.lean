/- The walks of the four statements of layer 15. No condition but that numbers fit. -/
import Derived.Test.YtfafcnnpfgagiaaRefC
namespace Go.Proofs.Ytfafcnnpfgagiaa
open Go.RowKit

theorem ofV_agg (n : Int) : ∃ c a s p, ofV n = .agg #[.int .i64 c, .int .i64 a, .int .i64 s, .bool p] ∧ (ofOk n = true → numI c a s p = n) := by
  cases h : ofOk n
  · exact ⟨0, 0, 0, false, ofV_no h, fun h' => by cases h'⟩
  · exact ⟨_, _, _, _, ofV_yes h, fun _ => num_of h⟩

/-- A new box of four behind worlds in which all is as it was. -/
theorem held_alloc {W a : World} (h : Held W a) (o : Obj) : Held W (a.alloc o) := held_of (h.2.alloc h.2.size _)

set_option maxHeartbeats 2000000 in
theorem tells_walk (c a s : Int) (p : Bool) (n : Int) (w : World) (hs : s ≤ 9223372036854775807) (hn : n ≤ 9223372036854775807) :
    Calls Try.prog 3 #[.agg #[.int .i64 c, .int .i64 a, .int .i64 s, .bool p], .int .i64 n] w fun e w' => e = .returned (.bool true) ∧ Below w.heap.size w w' := by
  obtain ⟨c1, a1, s1, p1, h1, _⟩ := ofV_agg n
  go_enter Try.func3, Try.ntmps3
  go_wp2_with fail
  refine (of_any _ _ (by omega)).mono ?_
  rintro e w1 ⟨rfl, hb1⟩
  go_wp2_with fail
  refine (rof_any _ _ (by omega)).mono ?_
  rintro e w2 ⟨rfl, hb2⟩
  have hz2 := hb2.size
  have hz1 := hb1.size
  simp only [World.size_alloc] at hz2 hz1
  go_wp2_with fail
  obtain ⟨W3, hW3, e0, e1, e2, e3, hs3, hb3⟩ := boxed4 w2 (.int .i64 c1) (.int .i64 a1) (.int .i64 s1) (.bool p1) 23
  rw [hW3]
  have hx : ∀ o, W3.cell? ⟨w.heap.size, o, none⟩ = (#[Value.int .i64 c, .int .i64 a, .int .i64 s, .bool p] : Array Value)[o]? := fun o => by
    rw [(bcell hb3).1 _ _ (by omega), (bcell hb2).1 _ _ (by simp; omega), World.cell?_alloc_lt _ _ _ (by show w.heap.size < w1.heap.size; omega), (bcell hb1).1 _ _ (by simp)]; exact World.cell?_alloc_new _ _ _ _
  have hy : ∀ o, W3.cell? ⟨w1.heap.size, o, none⟩ = (#[Value.int .i64 c1, .int .i64 a1, .int .i64 s1, .bool p1] : Array Value)[o]? := fun o => by
    rw [(bcell hb3).1 _ _ (by omega), (bcell hb2).1 _ _ (by simp)]; exact World.cell?_alloc_new _ _ _ _
  have hbw : Below w.heap.size w W3 := (((((Below.refl _ _).alloc (Nat.le_refl _) _).trans (hb1.mono (by simp))).alloc (by omega) _).trans (hb2.mono (by simp; omega))).trans (hb3.mono (by omega))
  have hs1 : w1.heap.size < W3.heap.size := by omega
  have hs0 : w.heap.size < W3.heap.size := by omega
  clear hW3 hb1 hb2 hb3 hz1 hz2 h1
  go_region_held3 (Held W3) (first | exact held_start | exact held_call (by assumption) (by assumption)) (first | (go_at_call 13; refine (fixed15_any _).mono ?_; rintro e w' ⟨rfl, hb⟩) | (go_at_call 14; refine (may_any _ _ _ _ _).mono ?_; rintro e w' ⟨rfl, hb⟩) | (go_at_call 15; refine (rmay_any _ _ _ _ _).mono ?_; rintro e w' ⟨rfl, hb⟩) | (go_at_call 16; refine (num_any _ _ _ _ _).mono ?_; rintro e w' ⟨rfl, hb⟩) | (go_at_call 17; refine (rnum_any _ _ _ _ _).mono ?_; rintro e w' ⟨rfl, hb⟩) | (go_at_call 18; refine (len_any _ _ _ _ _ hs).mono ?_; rintro e w' ⟨rfl, hb⟩) | (go_at_call 19; refine (rlen_any _ _ _ _ _ hs).mono ?_; rintro e w' ⟨rfl, hb⟩))
  have hh : Held W3 w' := by assumption
  go_wp2
  go_ret
  exact ⟨rfl, hbw.trans (hh.2.mono (by omega))⟩
end Go.Proofs.Ytfafcnnpfgagiaa
