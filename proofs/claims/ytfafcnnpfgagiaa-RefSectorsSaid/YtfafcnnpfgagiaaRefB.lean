/- Contracts of ref's functions, and of the reference's, of layer 15. No condition but that numbers fit. -/
import Derived.Test.YtfafcnnpfgagiaaRefA
namespace Go.Proofs.Ytfafcnnpfgagiaa
open Go.RowKit

theorem bcell {n : Nat} {W w1 : World} (hb : Below n W w1) : (∀ b o, b < n → w1.cell? ⟨b, o, none⟩ = W.cell? ⟨b, o, none⟩) ∧ (∀ b o, b < n → w1.frozen? ⟨b, o, none⟩ = W.frozen? ⟨b, o, none⟩) :=
  ⟨fun b o h => hb.cell (p := ⟨b, o, none⟩) h, fun b o h => hb.frozen (p := ⟨b, o, none⟩) h⟩

theorem mayB_iff {c a s : Int} {p : Bool} (h : mayB c a s p = true) : 0 ≤ c ∧ c < 1000 ∧ 1 ≤ s ∧ s ≤ 256 ∧ 0 ≤ a ∧ a + sectors s ≤ 16 ∧ (p = true ∨ s = 256) := by
  simpa [mayB] using h

def numI (c a s : Int) (p : Bool) : Int := if mayB c a s p = true then ((c * 16 + a) * 257 + s) * 2 + (if p = true then 1 else 0) else -1

theorem num_yes {c a s : Int} {p : Bool} (h : mayB c a s p = true) : numI c a s p = ((c * 16 + a) * 257 + s) * 2 + (if p = true then 1 else 0) := by
  rw [numI, if_pos h]
theorem num_no {c a s : Int} {p : Bool} (h : mayB c a s p = false) : numI c a s p = -1 := by
  rw [numI, if_neg (by simp [h])]

theorem may_bd {c a s : Int} {p : Bool} (h : mayB c a s p = true) : 0 ≤ c ∧ c < 1000 ∧ 1 ≤ s ∧ s ≤ 256 ∧ 0 ≤ a ∧ a ≤ 16 := by
  have := mayB_iff h
  have := sectors_le s (by omega)
  omega

set_option maxHeartbeats 400000 in
theorem num_any (c a s : Int) (p : Bool) (w : World) :
    Calls Try.prog 16 #[.agg #[.int .i64 c, .int .i64 a, .int .i64 s, .bool p]] w fun e w' => e = .returned (.int .i64 (numI c a s p)) ∧ Below w.heap.size w w' := by
  cases hm : mayB c a s p
  · have hn := num_no hm
    have Hn := Lib.hid hn
    clear hn
    go_enter Try.func16, Try.ntmps16
    go_wp2_with (go_at_call 14; refine (may_any _ _ _ _ _).mono ?_; rintro e w' ⟨rfl, hb⟩)
    go_ret
    exact ⟨by rw [Hn.out]; simp, ((Below.refl _ _).alloc (Nat.le_refl _) _).trans (hb.mono (by simp))⟩
  · have hn := num_yes hm
    have Hn := Lib.hid hn
    have hbd := may_bd hm
    clear hn
    go_enter Try.func16, Try.ntmps16
    go_wp2_with fail
    refine (may_any _ _ _ _ _).mono ?_
    rintro e w' ⟨rfl, hb⟩
    obtain ⟨hc, hf⟩ := bcell hb
    cases p
    · go_wp2_with fail
      go_ret
      exact ⟨by rw [Hn.out]; simp, ((Below.refl _ _).alloc (Nat.le_refl _) _).trans (hb.mono (by simp))⟩
    · go_wp2_with fail
      go_ret
      exact ⟨by rw [Hn.out]; simp, ((Below.refl _ _).alloc (Nat.le_refl _) _).trans (hb.mono (by simp))⟩

theorem rsectors_any (n : Int) (w : World) (h : n ≤ 9223372036854775807) :
    Calls Try.prog 28 #[.int .i64 n] w fun e w' => e = .returned (.int .i64 (sectors n)) ∧ w = w' := by
  by_cases h0 : n ≤ 0
  · go_enter Try.func28, Try.ntmps28
    go_wp2
    go_ret
    exact ⟨by simp [sectors, h0], rfl⟩
  · go_enter Try.func28, Try.ntmps28
    go_wp2
    go_ret
    exact ⟨by simp; rw [sectors, if_neg (by omega)], rfl⟩

theorem rlen_any (c a s : Int) (p : Bool) (w : World) (h : s ≤ 9223372036854775807) :
    Calls Try.prog 19 #[.agg #[.int .i64 c, .int .i64 a, .int .i64 s, .bool p]] w fun e w' => e = .returned (.int .i64 (sectors s)) ∧ Below w.heap.size w w' := by
  go_enter Try.func19, Try.ntmps19
  go_wp2_with (go_at_call 28; refine (rsectors_any _ _ h).mono ?_; rintro e w' ⟨rfl, rfl⟩)
  go_ret
  exact ⟨rfl, (Below.refl _ _).alloc (Nat.le_refl _) _⟩

/-- One walk of the reference's May up to the region's end, the tests decided. -/
theorem boxed4 (w : World) (v0 v1 v2 v3 : Value) (t : TypeId) : ∃ W1, w.alloc (.cells #[v0, v1, v2, v3] t) = W1 ∧ W1.cell? ⟨w.heap.size, 0, none⟩ = some v0 ∧ W1.cell? ⟨w.heap.size, 1, none⟩ = some v1 ∧ W1.cell? ⟨w.heap.size, 2, none⟩ = some v2 ∧
    W1.cell? ⟨w.heap.size, 3, none⟩ = some v3 ∧ w.heap.size < W1.heap.size ∧ Below w.heap.size w W1 :=
  ⟨_, rfl, by simp, by simp, by simp, by simp, by simp, (Below.refl _ _).alloc (Nat.le_refl _) _⟩

set_option maxHeartbeats 1000000 in
theorem rmay_any (c a s : Int) (p : Bool) (w : World) :
    Calls Try.prog 15 #[.agg #[.int .i64 c, .int .i64 a, .int .i64 s, .bool p]] w fun e w' => e = .returned (.bool (mayB c a s p)) ∧ Below w.heap.size w w' := by
  have fin : ∀ w', Below w.heap.size w w' → mayB c a s p = false → ((Ending.returned (.bool false)) = .returned (.bool (mayB c a s p)) ∧ Below w.heap.size w w') := by
    intro w' hb h; rw [h]; exact ⟨rfl, hb⟩
  by_cases h1 : c < 0
  · have hd : decide (c < 0) = true := by simpa using h1
    go_enter Try.func15, Try.ntmps15
    go_wp2
    go_quiet (fail)
    go_wp2
    go_ret
    exact fin _ (below_drewN ((Below.refl _ _).alloc (Nat.le_refl _) _) _) (by simp [mayB]; omega)
  have hd1 : decide (c < 0) = false := by simpa using h1
  by_cases h2 : 999 < c
  · have hd : decide (999 < c) = true := by simpa using h2
    go_enter Try.func15, Try.ntmps15
    go_wp2
    go_quiet (fail)
    go_wp2
    go_ret
    exact fin _ (below_drewN ((Below.refl _ _).alloc (Nat.le_refl _) _) _) (by simp [mayB]; omega)
  have hd2 : decide (999 < c) = false := by simpa using h2
  by_cases h3 : s < 1
  · have hd : decide (s < 1) = true := by simpa using h3
    go_enter Try.func15, Try.ntmps15
    go_wp2
    go_quiet (fail)
    go_wp2
    go_ret
    exact fin _ (below_drewN ((Below.refl _ _).alloc (Nat.le_refl _) _) _) (by simp [mayB]; omega)
  have hd3 : decide (s < 1) = false := by simpa using h3
  by_cases h4 : 256 < s
  · have hd : decide (256 < s) = true := by simpa using h4
    go_enter Try.func15, Try.ntmps15
    go_wp2
    go_quiet (fail)
    go_wp2
    go_ret
    exact fin _ (below_drewN ((Below.refl _ _).alloc (Nat.le_refl _) _) _) (by simp [mayB]; omega)
  have hd4 : decide (256 < s) = false := by simpa using h4
  have hss := sectors_le s (by omega)
  by_cases h5 : a < 0
  · have hd : decide (a < 0) = true := by simpa using h5
    go_enter Try.func15, Try.ntmps15
    go_wp2
    go_quiet (fail)
    go_wp2
    go_ret
    exact fin _ (below_drewN ((Below.refl _ _).alloc (Nat.le_refl _) _) _) (by simp [mayB]; omega)
  have hd5 : decide (a < 0) = false := by simpa using h5
  by_cases h6 : 16 < a
  · have hd : decide (16 < a) = true := by simpa using h6
    go_enter Try.func15, Try.ntmps15
    go_wp2
    go_quiet (fail)
    go_wp2
    go_ret
    exact fin _ (below_drewN ((Below.refl _ _).alloc (Nat.le_refl _) _) _) (by simp [mayB]; omega)
  have hd6 : decide (16 < a) = false := by simpa using h6
  go_enter Try.func15, Try.ntmps15
  go_wp2
  obtain ⟨W1, hW, e0, e1, e2, e3, hs1, hb0⟩ := boxed4 w (.int .i64 c) (.int .i64 a) (.int .i64 s) (.bool p) 23
  rw [hW]
  have hsz : s ≤ 9223372036854775807 := by omega
  have hwr : IntKind.i64.wrap (a + sectors s) = a + sectors s := IntWalk.i64_in _ (by omega)
  clear hW
  go_region_held3 (Held W1) (first | exact held_start | exact held_call (by assumption) (by assumption)) (first | (go_at_call 19; refine (rlen_any c a s p _ hsz).mono ?_; rintro e w' ⟨rfl, hb⟩))
  clear hwr
  have hh : Held W1 w' := by assumption
  have hh1 := hh.1
  by_cases h6 : 16 < a + sectors s
  · go_wp2
    go_ret
    exact fin _ (hb0.trans (hh.2.mono (by omega))) (by simp [mayB]; omega)
  · cases p
    · by_cases h7 : s = 256
      · subst h7
        go_wp2
        go_ret
        exact ⟨by simp [mayB]; omega, hb0.trans (hh.2.mono (by omega))⟩
      · have h7' : (s == 256) = false := by simpa using h7
        go_wp2
        go_ret
        exact fin _ (hb0.trans (hh.2.mono (by omega))) (by simp [mayB]; omega)
    · go_wp2
      go_ret
      exact ⟨by simp [mayB]; omega, hb0.trans (hh.2.mono (by omega))⟩

set_option maxHeartbeats 400000 in
theorem rnum_any (c a s : Int) (p : Bool) (w : World) :
    Calls Try.prog 17 #[.agg #[.int .i64 c, .int .i64 a, .int .i64 s, .bool p]] w fun e w' => e = .returned (.int .i64 (numI c a s p)) ∧ Below w.heap.size w w' := by
  cases hm : mayB c a s p
  · have hn := num_no hm
    have Hn := Lib.hid hn
    clear hn
    go_enter Try.func17, Try.ntmps17
    go_wp2_with (go_at_call 15; refine (rmay_any _ _ _ _ _).mono ?_; rintro e w' ⟨rfl, hb⟩)
    go_ret
    exact ⟨by rw [Hn.out]; simp, ((Below.refl _ _).alloc (Nat.le_refl _) _).trans (hb.mono (by simp))⟩
  · have hn := num_yes hm
    have Hn := Lib.hid hn
    have hbd := may_bd hm
    clear hn
    go_enter Try.func17, Try.ntmps17
    go_wp2_with fail
    refine (rmay_any _ _ _ _ _).mono ?_
    rintro e w' ⟨rfl, hb⟩
    obtain ⟨hc, hf⟩ := bcell hb
    cases p
    · go_wp2_with fail
      go_ret
      exact ⟨by rw [Hn.out]; simp; omega, ((Below.refl _ _).alloc (Nat.le_refl _) _).trans (hb.mono (by simp))⟩
    · go_wp2_with fail
      go_ret
      exact ⟨by rw [Hn.out]; simp; omega, ((Below.refl _ _).alloc (Nat.le_refl _) _).trans (hb.mono (by simp))⟩
end Go.Proofs.Ytfafcnnpfgagiaa
