/- The walks of RefBack, RefSectors, RefOrder. No condition but that numbers fit. -/
import Derived.Test.YtfafcnnpfgagiaaRefC
namespace Go.Proofs.Ytfafcnnpfgagiaa
open Go.RowKit

/-- What has a number is told by it. -/
theorem of_num {c a s : Int} {p : Bool} (h : mayB c a s p = true) : ofOk (numI c a s p) = true ∧ ofV (numI c a s p) = .agg #[.int .i64 c, .int .i64 a, .int .i64 s, .bool p] := by
  have hb := mayB_iff h
  have hs := sectors_le s (by omega)
  have hss : 1 ≤ sectors s := by unfold sectors; rw [if_neg (by omega)]; omega
  have hn := num_yes h
  cases p
  · have hn' : numI c a s false = ((c * 16 + a) * 257 + s) * 2 := by rw [hn]; simp
    have q1 : numI c a s false / 2 / 257 / 16 = c := by rw [hn']; omega
    have q2 : numI c a s false / 2 / 257 % 16 = a := by rw [hn']; omega
    have q3 : numI c a s false / 2 % 257 = s := by rw [hn']; omega
    have q4 : (numI c a s false % 2 == 1) = false := by rw [hn']; simp
    have h0 : 0 ≤ numI c a s false := by rw [hn']; omega
    have hk : ofOk (numI c a s false) = true := by rw [ofOk_pos h0, q1, q2, q3, q4]; exact h
    exact ⟨hk, by rw [ofV_yes hk, q1, q2, q3, q4]⟩
  · have hn' : numI c a s true = ((c * 16 + a) * 257 + s) * 2 + 1 := by rw [hn]; simp
    have q1 : numI c a s true / 2 / 257 / 16 = c := by rw [hn']; omega
    have q2 : numI c a s true / 2 / 257 % 16 = a := by rw [hn']; omega
    have q3 : numI c a s true / 2 % 257 = s := by rw [hn']; omega
    have q4 : (numI c a s true % 2 == 1) = true := by rw [hn']; simp
    have h0 : 0 ≤ numI c a s true := by rw [hn']; omega
    have hk : ofOk (numI c a s true) = true := by rw [ofOk_pos h0, q1, q2, q3, q4]; exact h
    exact ⟨hk, by rw [ofV_yes hk, q1, q2, q3, q4]⟩

theorem num_inj {c a s c' a' s' : Int} {p p' : Bool} (h : mayB c a s p = true) (h' : mayB c' a' s' p' = true) (e : numI c a s p = numI c' a' s' p') : c = c' ∧ a = a' ∧ s = s' ∧ p = p' := by
  have h1 := (of_num h).2
  rw [e, (of_num h').2] at h1
  simp at h1
  obtain ⟨r1, r2, r3, r4⟩ := h1
  exact ⟨r1.symm, r2.symm, r3.symm, r4.symm⟩

theorem ofV_agg' (n : Int) : ∃ c a s p, ofV n = .agg #[.int .i64 c, .int .i64 a, .int .i64 s, .bool p] ∧ (ofOk n = true → numI c a s p = n) := by
  cases h : ofOk n
  · exact ⟨0, 0, 0, false, ofV_no h, fun h' => by cases h'⟩
  · exact ⟨_, _, _, _, ofV_yes h, fun _ => num_of h⟩

/-- Up to the last statement: x's number is a, y's is b. -/
theorem num_bd (c a s : Int) (p : Bool) : numI c a s p ≤ 9223372036854775807 := by
  cases h : mayB c a s p
  · rw [num_no h]; omega
  · have := may_bd h; rw [num_yes h]; split <;> omega

theorem ofOk_m1 : ofOk (-1) = false := by decide

/-- Two boxes of four, one behind the other. -/
theorem boxed44 (w : World) (v0 v1 v2 v3 u0 u1 u2 u3 : Value) (t : TypeId) : ∃ W2, (w.alloc (.cells #[v0, v1, v2, v3] t)).alloc (.cells #[u0, u1, u2, u3] t) = W2 ∧
    W2.cell? ⟨w.heap.size, 0, none⟩ = some v0 ∧ W2.cell? ⟨w.heap.size, 1, none⟩ = some v1 ∧ W2.cell? ⟨w.heap.size, 2, none⟩ = some v2 ∧ W2.cell? ⟨w.heap.size, 3, none⟩ = some v3 ∧
    W2.cell? ⟨w.heap.size + 1, 0, none⟩ = some u0 ∧ W2.cell? ⟨w.heap.size + 1, 1, none⟩ = some u1 ∧ W2.cell? ⟨w.heap.size + 1, 2, none⟩ = some u2 ∧ W2.cell? ⟨w.heap.size + 1, 3, none⟩ = some u3 ∧
    w.heap.size + 1 < W2.heap.size ∧ w.heap.size < W2.heap.size ∧ Below w.heap.size w W2 := by
  obtain ⟨W1, hW1, e0, e1, e2, e3, hs1, hb1⟩ := boxed4 w v0 v1 v2 v3 t
  have hz : W1.heap.size = w.heap.size + 1 := by rw [← hW1]; simp
  obtain ⟨W2, hW2, f0, f1, f2, f3, hs2, hb2⟩ := boxed4 W1 u0 u1 u2 u3 t
  rw [hz] at f0 f1 f2 f3 hs2
  have hc := (bcell hb2).1
  exact ⟨W2, by rw [hW1, hW2], by rw [hc _ _ (by omega), e0], by rw [hc _ _ (by omega), e1], by rw [hc _ _ (by omega), e2], by rw [hc _ _ (by omega), e3], f0, f1, f2, f3, hs2, by omega, hb1.trans (hb2.mono (by omega))⟩

/-- A new box of four behind worlds in which all is as it was. -/
theorem held_alloc {W a : World} (h : Held W a) (o : Obj) : Held W (a.alloc o) := held_of (h.2.alloc h.2.size _)

set_option maxHeartbeats 4000000 in
theorem back_walk (c a s : Int) (p : Bool) (c' a' s' : Int) (p' : Bool) (n : Int) (w : World) (hn : n ≤ 9223372036854775807) :
    Calls Try.prog 4 #[.agg #[.int .i64 c, .int .i64 a, .int .i64 s, .bool p], .agg #[.int .i64 c', .int .i64 a', .int .i64 s', .bool p'], .int .i64 n] w fun e w' => e = .returned (.bool true) ∧ Below w.heap.size w w' := by
  obtain ⟨c1, a1, s1, p1, h1, h2⟩ := ofV_agg' n
  have B1 := num_bd c a s p
  go_enter Try.func4, Try.ntmps4
  go_wp2_with fail
  obtain ⟨W2, hW2, e0, e1, e2, e3, f0, f1, f2, f3, hs2, hw0, hbw⟩ := boxed44 w (.int .i64 c) (.int .i64 a) (.int .i64 s) (.bool p) (.int .i64 c') (.int .i64 a') (.int .i64 s') (.bool p') 23
  rw [hW2]
  clear hW2
  go_region_held3 (Held W2) (first | exact held_start | exact held_call (by assumption) (by assumption)) (first | (go_at_call 16; refine (num_any _ _ _ _ _).mono ?_; rintro e w' ⟨rfl, hb⟩))
  have hh : Held W2 w' := by assumption
  have hh1 := hh.1
  have hz2 := hh.2.size
  clear hb
  go_wp2_with fail
  refine (of_any _ _ (by omega)).mono ?_
  rintro e w3 ⟨rfl, hb3⟩
  have hh3 := held_call hb3 hh
  cases hm : mayB c a s p
  · rw [num_no hm, ofOk_m1, ofV_no ofOk_m1]
    go_wp2_with fail
    refine (of_any _ _ (by omega)).mono ?_
    rintro e w4 ⟨rfl, hb4⟩
    have hh4 := held_call hb4 (held_alloc hh3 _)
    have hh5 := held_call hb4 (held_alloc (held_refl w3) _)
    go_wp2_with fail
    refine (fixed15_any _).mono ?_
    rintro e w5 ⟨rfl, hb5⟩
    have hh6 := held_call hb5 (held_alloc hh4 _)
    have hc6 := hh6.1
    go_wp2_with fail
    refine (may_any _ _ _ _ _).mono ?_
    rintro e w6 ⟨rfl, hb6⟩
    have hh7 := held_call hb6 hh6
    have hc7 := (held_call hb6 (held_call hb5 (held_refl _))).1
    simp only [World.size_alloc] at hc7
    cases hk : ofOk n
    · go_wp2_with fail
      go_ret
      exact ⟨rfl, hbw.trans (hh7.2.mono (by omega))⟩
    · have h2' := h2 hk
      have h2n : (numI c1 a1 s1 p1 != n) = false := by simp [h2']
      clear h2 h2'
      go_wp2_with fail
      refine (num_any _ _ _ _ _).mono ?_
      rintro e w7 ⟨rfl, hb7⟩
      have hh8 := held_call hb7 hh7
      go_wp2_with fail
      go_ret
      exact ⟨rfl, hbw.trans (hh8.2.mono (by omega))⟩
  · rw [(of_num hm).1, (of_num hm).2]
    have g1 : (numI c a s p == -1) = false := by have := may_bd hm; rw [num_yes hm]; split <;> simp <;> omega
    go_wp2_with fail
    refine (of_any _ _ (by omega)).mono ?_
    rintro e w4 ⟨rfl, hb4⟩
    have hh4 := held_call hb4 (held_alloc hh3 _)
    have hz3 := hh3.2.size
    have hz4 := hb4.size
    have hz34 : w3.heap.size < w4.heap.size := by simp at hz4; omega
    have hw3 : w.heap.size < w3.heap.size := by omega
    have hw4 : w.heap.size < w4.heap.size := by omega
    have hc4 := (bcell hb4).1
    simp only [World.size_alloc] at hc4
    go_wp2_with fail
    refine (fixed15_any _).mono ?_
    rintro e w5 ⟨rfl, hb5⟩
    have hh6 := held_call hb5 (held_alloc hh4 _)
    have hc6 := hh6.1
    have hc6' := (bcell hb5).1
    simp only [World.size_alloc] at hc6'
    have hw45 := hb5.size
    simp only [World.size_alloc] at hw45
    go_wp2_with fail
    refine (may_any _ _ _ _ _).mono ?_
    rintro e w6 ⟨rfl, hb6⟩
    have hh7 := held_call hb6 hh6
    have k0 : ∀ o, w6.cell? ⟨w.heap.size, o, none⟩ = W2.cell? ⟨w.heap.size, o, none⟩ := fun o => hh7.1 _ _ hw0
    have k1 : ∀ o, w6.cell? ⟨w3.heap.size, o, none⟩ = (#[Value.int .i64 c, .int .i64 a, .int .i64 s, .bool p] : Array Value)[o]? := fun o => by
      rw [(bcell hb6).1 _ _ (by omega), hc6' _ _ (by omega), World.cell?_alloc_lt _ _ _ hz34, hc4 _ _ (by omega)]; exact World.cell?_alloc_new _ _ _ _
    have k2 : ∀ o, w6.cell? ⟨w4.heap.size, o, none⟩ = (#[Value.int .i64 c1, .int .i64 a1, .int .i64 s1, .bool p1] : Array Value)[o]? := fun o => by
      rw [(bcell hb6).1 _ _ (by omega), hc6' _ _ (by omega)]; exact World.cell?_alloc_new _ _ _ _
    clear hc4 hc6' hc6
    cases hm' : mayB c' a' s' p'
    · have g2 : (numI c' a' s' p' == -1) = true := by rw [num_no hm']; rfl
      cases hk : ofOk n
      · go_wp2_with fail
        go_ret
        exact ⟨rfl, hbw.trans (hh7.2.mono (by omega))⟩
      · have h2' := h2 hk
        have h2n : (numI c1 a1 s1 p1 != n) = false := by simp [h2']
        clear h2 h2'
        go_wp2_with fail
        refine (num_any _ _ _ _ _).mono ?_
        rintro e w7 ⟨rfl, hb7⟩
        have hh8 := held_call hb7 hh7
        go_wp2_with fail
        go_ret
        exact ⟨rfl, hbw.trans (hh8.2.mono (by omega))⟩
    · have g2 : (numI c' a' s' p' == -1) = false := by have := may_bd hm'; rw [num_yes hm']; split <;> simp <;> omega
      by_cases heq : numI c a s p = numI c' a' s' p'
      · obtain ⟨rfl, rfl, rfl, rfl⟩ := num_inj hm hm' heq
        clear heq
        cases hk : ofOk n
        · go_wp2_with fail
          go_ret
          exact ⟨rfl, hbw.trans (hh7.2.mono (by omega))⟩
        · have h2' := h2 hk
          have h2n : (numI c1 a1 s1 p1 != n) = false := by simp [h2']
          clear h2 h2'
          go_wp2_with fail
          refine (num_any _ _ _ _ _).mono ?_
          rintro e w7 ⟨rfl, hb7⟩
          have hh8 := held_call hb7 hh7
          have hc8 := (bcell hb7).1
          have z6 : w.heap.size < w6.heap.size := by have := hh7.2.size; omega
          go_wp2_with fail
          go_ret
          exact ⟨rfl, hbw.trans (hh8.2.mono (by omega))⟩
      · have g3 : (numI c a s p == numI c' a' s' p') = false := by simpa using heq
        cases hk : ofOk n
        · go_wp2_with fail
          all_goals first
            | (go_ret; exact ⟨rfl, hbw.trans (hh7.2.mono (by omega))⟩)
            | (exfalso; exact heq (by simp only [*]))
        · have h2' := h2 hk
          have h2n : (numI c1 a1 s1 p1 != n) = false := by simp [h2']
          clear h2 h2'
          go_wp2_with fail
          refine (num_any _ _ _ _ _).mono ?_
          rintro e w7 ⟨rfl, hb7⟩
          have hh8 := held_call hb7 hh7
          have hc8 := (bcell hb7).1
          have z6 : w.heap.size < w6.heap.size := by have := hh7.2.size; omega
          have k3 : ∀ o, w7.cell? ⟨w.heap.size, o, none⟩ = W2.cell? ⟨w.heap.size, o, none⟩ := fun o => hh8.1 _ _ hw0
          have k4 : ∀ o, w7.cell? ⟨w.heap.size + 1, o, none⟩ = W2.cell? ⟨w.heap.size + 1, o, none⟩ := fun o => hh8.1 _ _ hs2
          clear hc8
          go_wp2_with fail
          all_goals first
            | (go_ret; exact ⟨rfl, hbw.trans (hh8.2.mono (by omega))⟩)
            | (exfalso; exact heq (by simp only [*]))

theorem sectors_enough {s : Int} (h1 : 1 ≤ s) (h2 : s ≤ 256) : 1 ≤ sectors s ∧ sectors s ≤ 8 ∧ s ≤ 32 * sectors s ∧ 32 * sectors s < s + 32 ∧ (s = 256 → sectors s = 8) := by
  have h : sectors s = (s - 1) / 32 + 1 := by rw [sectors, if_neg (by omega)]
  omega

set_option maxHeartbeats 2000000 in
theorem sectors_walk (c a s : Int) (p : Bool) (w : World) :
    Calls Try.prog 5 #[.agg #[.int .i64 c, .int .i64 a, .int .i64 s, .bool p]] w fun e w' => e = .returned (.bool true) ∧ Below w.heap.size w w' := by
  cases hm : mayB c a s p
  · go_enter Try.func5, Try.ntmps5
    go_wp2_with fail
    refine (fixed15_any _).mono ?_
    rintro e w1 ⟨rfl, hb1⟩
    have hc1 := (bcell hb1).1
    go_wp2_with fail
    refine (may_any _ _ _ _ _).mono ?_
    rintro e w2 ⟨rfl, hb2⟩
    go_wp2_with fail
    refine (fixed15_any _).mono ?_
    rintro e w3 ⟨rfl, hb3⟩
    have z1 := hb1.size
    have z2 := hb2.size
    simp only [World.size_alloc] at z1 z2
    go_wp2_with fail
    go_ret
    exact ⟨rfl, ((((Below.refl _ _).alloc (Nat.le_refl _) _).trans (hb1.mono (by simp))).trans (hb2.mono (by omega))).trans (hb3.mono (by omega))⟩
  · have hb := mayB_iff hm
    obtain ⟨g1, g2, g3, g4, g5⟩ := sectors_enough hb.2.2.1 hb.2.2.2.1
    have g5 := Lib.hid g5
    have hz : s ≤ 9223372036854775807 := by omega
    have ha : a + sectors s ≤ 16 := hb.2.2.2.2.2.1
    have ha0 : 0 ≤ a := hb.2.2.2.2.1
    have hp := Lib.hid hb.2.2.2.2.2.2
    have hs2 : s ≤ 256 := by omega
    have hs1 : 1 ≤ s := by omega
    clear hb
    go_enter Try.func5, Try.ntmps5
    go_wp2_with fail
    refine (fixed15_any _).mono ?_
    rintro e w1 ⟨rfl, hb1⟩
    have hc1 := (bcell hb1).1
    simp only [World.size_alloc] at hc1
    go_wp2_with fail
    refine (may_any _ _ _ _ _).mono ?_
    rintro e w2 ⟨rfl, hb2⟩
    have hc2 := (bcell hb2).1
    have z1 := hb1.size
    have z2 := hb2.size
    simp only [World.size_alloc] at z1 z2
    have zz1 : w.heap.size < w1.heap.size := by omega
    have zz2 : w.heap.size < w2.heap.size := by omega
    go_wp2_with fail
    refine (len_any _ _ _ _ _ hz).mono ?_
    rintro e w3 ⟨rfl, hb3⟩
    have hc3 := (bcell hb3).1
    cases p
    · have g6 : sectors s = 8 := g5.out (by simpa using hp.out)
      have g7 : (sectors s == 8) = true := by rw [g6]; rfl
      clear g6
      go_wp2_with fail
      go_ret
      exact ⟨rfl, ((((Below.refl _ _).alloc (Nat.le_refl _) _).trans (hb1.mono (by simp))).trans (hb2.mono (by omega))).trans (hb3.mono (by omega))⟩
    · go_wp2_with fail
      go_ret
      exact ⟨rfl, ((((Below.refl _ _).alloc (Nat.le_refl _) _).trans (hb1.mono (by simp))).trans (hb2.mono (by omega))).trans (hb3.mono (by omega))⟩
end Go.Proofs.Ytfafcnnpfgagiaa
