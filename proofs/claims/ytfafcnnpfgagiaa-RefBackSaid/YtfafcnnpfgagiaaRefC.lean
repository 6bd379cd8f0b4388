/- Contracts of ref.Of, of the reference's Of, and of the fixed calls of layer 15. No condition but that numbers fit. -/
import Derived.Test.YtfafcnnpfgagiaaRefB
namespace Go.Proofs.Ytfafcnnpfgagiaa
open Go.RowKit

/-- What Of tells. -/
def ofOk (n : Int) : Bool := decide (0 ≤ n) && mayB (n / 2 / 257 / 16) (n / 2 / 257 % 16) (n / 2 % 257) (n % 2 == 1)
def ofV (n : Int) : Value := if ofOk n = true then .agg #[.int .i64 (n / 2 / 257 / 16), .int .i64 (n / 2 / 257 % 16), .int .i64 (n / 2 % 257), .bool (n % 2 == 1)] else .agg #[.int .i64 0, .int .i64 0, .int .i64 0, .bool false]
theorem ofV_no {n : Int} (h : ofOk n = false) : ofV n = .agg #[.int .i64 0, .int .i64 0, .int .i64 0, .bool false] := by rw [ofV, if_neg (by simp [h])]
theorem ofV_yes {n : Int} (h : ofOk n = true) : ofV n = .agg #[.int .i64 (n / 2 / 257 / 16), .int .i64 (n / 2 / 257 % 16), .int .i64 (n / 2 % 257), .bool (n % 2 == 1)] := by rw [ofV, if_pos h]
theorem ofOk_neg {n : Int} (h : n < 0) : ofOk n = false := by simp [ofOk]; omega
theorem ofOk_pos {n : Int} (h : 0 ≤ n) : ofOk n = mayB (n / 2 / 257 / 16) (n / 2 / 257 % 16) (n / 2 % 257) (n % 2 == 1) := by simp [ofOk, h]

/-- The number of what Of tells. -/
theorem num_of {n : Int} (h : ofOk n = true) : numI (n / 2 / 257 / 16) (n / 2 / 257 % 16) (n / 2 % 257) (n % 2 == 1) = n := by
  have h0 : 0 ≤ n := by
    by_cases h0 : 0 ≤ n
    · exact h0
    · rw [ofOk_neg (by omega)] at h; cases h
  rw [ofOk_pos h0] at h
  rw [num_yes h]
  by_cases h1 : n % 2 = 1
  · simp [h1]; omega
  · simp [h1]; omega

set_option maxHeartbeats 400000 in
theorem of_any (n : Int) (w : World) (hn : n ≤ 9223372036854775807) :
    Calls Try.prog 11 #[.int .i64 n] w fun e w' => e = .returned (.tuple #[ofV n, .bool (ofOk n)]) ∧ Below w.heap.size w w' := by
  by_cases h0 : n < 0
  · have h1 := ofOk_neg h0
    have h2 := ofV_no h1
    have H2 := Lib.hid h2
    have H1 := Lib.hid h1
    clear h1 h2
    go_enter Try.func11, Try.ntmps11
    go_wp2
    rw [H2.out, H1.out]
    exact bodyPost_ret (v := .tuple #[.agg #[.int .i64 0, .int .i64 0, .int .i64 0, .bool false], .bool false]) (by simp [results, Try.results11, go_sem]) rfl ⟨rfl, (Below.refl _ _).alloc (Nat.le_refl _) _⟩
  · have h3 := ofOk_pos (n := n) (by omega)
    cases hm : mayB (n / 2 / 257 / 16) (n / 2 / 257 % 16) (n / 2 % 257) (n % 2 == 1)
    · rw [hm] at h3
      have h2 := ofV_no h3
      have H2 := Lib.hid h2
      have H1 := Lib.hid h3
      clear h3 h2
      go_enter Try.func11, Try.ntmps11
      go_wp2_with fail
      refine (may_any _ _ _ _ _).mono ?_
      rintro e w' ⟨rfl, hb⟩
      obtain ⟨hc, hf⟩ := bcell hb
      have hz := hb.size
      simp only [World.size_alloc] at hz hc hf
      go_wp2_with fail
      obtain ⟨wf, hwf, q0, q1, q2, q3, hbf⟩ := put4 (w := w') (b := w.heap.size) (.int .i64 0) (.int .i64 0) (.int .i64 0) (.bool false) (Option.eq_some_of_isSome (by rw [hc _ _ (by omega)]; simp)) (Option.eq_some_of_isSome (by rw [hc _ _ (by omega)]; simp)) (Option.eq_some_of_isSome (by rw [hc _ _ (by omega)]; simp)) (Option.eq_some_of_isSome (by rw [hc _ _ (by omega)]; simp))
      rw [hwf, H2.out, H1.out]
      exact bodyPost_ret (v := .tuple #[.agg #[.int .i64 0, .int .i64 0, .int .i64 0, .bool false], .bool false]) (by simp [results, Try.results11, go_sem, q0, q1, q2, q3]) rfl ⟨rfl, ((((Below.refl _ _).alloc (Nat.le_refl _) _).alloc (by simp) _).trans (hb.mono (by simp; omega))).trans hbf⟩
    · rw [hm] at h3
      have h2 := ofV_yes h3
      have H2 := Lib.hid h2
      have H1 := Lib.hid h3
      clear h3 h2
      go_enter Try.func11, Try.ntmps11
      go_wp2_with fail
      refine (may_any _ _ _ _ _).mono ?_
      rintro e w' ⟨rfl, hb⟩
      obtain ⟨hc, hf⟩ := bcell hb
      have hz := hb.size
      simp only [World.size_alloc] at hz hc hf
      go_wp2_with fail
      obtain ⟨wf, hwf, q0, q1, q2, q3, hbf⟩ := put4 (w := w') (b := w.heap.size) (.int .i64 (n / 2 / 257 / 16)) (.int .i64 (n / 2 / 257 % 16)) (.int .i64 (n / 2 % 257)) (.bool (n % 2 == 1)) (Option.eq_some_of_isSome (by rw [hc _ _ (by omega)]; simp)) (Option.eq_some_of_isSome (by rw [hc _ _ (by omega)]; simp)) (Option.eq_some_of_isSome (by rw [hc _ _ (by omega)]; simp)) (Option.eq_some_of_isSome (by rw [hc _ _ (by omega)]; simp))
      rw [hwf, H2.out, H1.out]
      exact bodyPost_ret (v := .tuple #[.agg #[.int .i64 (n / 2 / 257 / 16), .int .i64 (n / 2 / 257 % 16), .int .i64 (n / 2 % 257), .bool (n % 2 == 1)], .bool true]) (by simp [results, Try.results11, go_sem, q0, q1, q2, q3]) rfl ⟨rfl, ((((Below.refl _ _).alloc (Nat.le_refl _) _).alloc (by simp) _).trans (hb.mono (by simp; omega))).trans hbf⟩

/-- What the reference's Of tells is what Of tells. -/
theorem rof_parts {n : Int} : n / 8224 = n / 2 / 257 / 16 ∧ n / 514 % 16 = n / 2 / 257 % 16 := by omega

theorem ofOk_num {n : Int} (h : 0 ≤ n) : ofOk n = (numI (n / 2 / 257 / 16) (n / 2 / 257 % 16) (n / 2 % 257) (n % 2 == 1) == n) := by
  cases hm : ofOk n
  · have h1 := ofOk_pos h
    rw [hm] at h1
    rw [num_no h1.symm]
    have : ¬ ((-1 : Int) = n) := by omega
    simp [this]
  · rw [num_of hm]; simp

set_option maxHeartbeats 400000 in
theorem rof_any (n : Int) (w : World) (hn : n ≤ 9223372036854775807) :
    Calls Try.prog 12 #[.int .i64 n] w fun e w' => e = .returned (.tuple #[ofV n, .bool (ofOk n)]) ∧ Below w.heap.size w w' := by
  by_cases h0 : n < 0
  · have h1 := ofOk_neg h0
    have h2 := ofV_no h1
    have H2 := Lib.hid h2
    have H1 := Lib.hid h1
    clear h1 h2
    go_enter Try.func12, Try.ntmps12
    go_wp2
    rw [H2.out, H1.out]
    exact bodyPost_ret (v := .tuple #[.agg #[.int .i64 0, .int .i64 0, .int .i64 0, .bool false], .bool false]) (by simp [results, Try.results12, go_sem]) rfl ⟨rfl, (Below.refl _ _).alloc (Nat.le_refl _) _⟩
  · have h3 := ofOk_num (n := n) (by omega)
    obtain ⟨r1, r2⟩ := rof_parts (n := n)
    cases hm : ofOk n
    · rw [hm] at h3
      have h2 := ofV_no hm
      rw [h2]
      have h4 : (numI (n / 8224) (n / 514 % 16) (n / 2 % 257) (n % 2 == 1) != n) = true := by rw [bne, r1, r2, ← h3]; rfl
      clear h3 h2 hm r1 r2
      go_enter Try.func12, Try.ntmps12
      go_wp2_with fail
      refine (rnum_any _ _ _ _ _).mono ?_
      rintro e w' ⟨rfl, hb⟩
      obtain ⟨hc, hf⟩ := bcell hb
      have hz := hb.size
      simp only [World.size_alloc] at hz hc hf
      go_wp2_with fail
      obtain ⟨wf, hwf, q0, q1, q2, q3, hbf⟩ := put4 (w := w') (b := w.heap.size) (.int .i64 0) (.int .i64 0) (.int .i64 0) (.bool false) (Option.eq_some_of_isSome (by rw [hc _ _ (by omega)]; simp)) (Option.eq_some_of_isSome (by rw [hc _ _ (by omega)]; simp)) (Option.eq_some_of_isSome (by rw [hc _ _ (by omega)]; simp)) (Option.eq_some_of_isSome (by rw [hc _ _ (by omega)]; simp))
      rw [hwf]
      exact bodyPost_ret (v := .tuple #[.agg #[.int .i64 0, .int .i64 0, .int .i64 0, .bool false], .bool false]) (by simp [results, Try.results12, go_sem, q0, q1, q2, q3]) rfl ⟨rfl, ((((Below.refl _ _).alloc (Nat.le_refl _) _).alloc (by simp) _).trans (hb.mono (by simp; omega))).trans hbf⟩
    · rw [hm] at h3
      have h2 := ofV_yes hm
      rw [h2]
      have h4 : (numI (n / 8224) (n / 514 % 16) (n / 2 % 257) (n % 2 == 1) != n) = false := by rw [bne, r1, r2, ← h3]; rfl
      have R1 := Lib.hid r1
      have R2 := Lib.hid r2
      clear h3 h2 hm r1 r2
      go_enter Try.func12, Try.ntmps12
      go_wp2_with fail
      refine (rnum_any _ _ _ _ _).mono ?_
      rintro e w' ⟨rfl, hb⟩
      obtain ⟨hc, hf⟩ := bcell hb
      have hz := hb.size
      simp only [World.size_alloc] at hz hc hf
      go_wp2_with fail
      obtain ⟨wf, hwf, q0, q1, q2, q3, hbf⟩ := put4 (w := w') (b := w.heap.size) (.int .i64 (n / 8224)) (.int .i64 (n / 514 % 16)) (.int .i64 (n / 2 % 257)) (.bool (n % 2 == 1)) (Option.eq_some_of_isSome (by rw [hc _ _ (by omega)]; simp)) (Option.eq_some_of_isSome (by rw [hc _ _ (by omega)]; simp)) (Option.eq_some_of_isSome (by rw [hc _ _ (by omega)]; simp)) (Option.eq_some_of_isSome (by rw [hc _ _ (by omega)]; simp))
      rw [hwf, ← R1.out, ← R2.out]
      exact bodyPost_ret (v := .tuple #[.agg #[.int .i64 (n / 8224), .int .i64 (n / 514 % 16), .int .i64 (n / 2 % 257), .bool (n % 2 == 1)], .bool true]) (by simp [results, Try.results12, go_sem, q0, q1, q2, q3]) rfl ⟨rfl, ((((Below.refl _ _).alloc (Nat.le_refl _) _).alloc (by simp) _).trans (hb.mono (by simp; omega))).trans hbf⟩

theorem num_fixed : numI 0 0 1 true = 3 ∧ numI 0 0 1 false = -1 ∧ ofOk 3 = true ∧ ofOk 1 = false ∧ sectors 33 = 2 ∧ mayB 0 0 1 true = true := by
  refine ⟨by decide, by decide, by decide, by decide, by decide, by decide⟩
theorem of_fixed : ofV 3 = .agg #[.int .i64 0, .int .i64 0, .int .i64 1, .bool true] ∧ ofV 1 = .agg #[.int .i64 0, .int .i64 0, .int .i64 0, .bool false] :=
  ⟨(ofV_yes num_fixed.2.2.1).trans rfl, ofV_no num_fixed.2.2.2.1⟩

set_option maxHeartbeats 1000000 in
theorem fixed15_any (w : World) :
    Calls Try.prog 13 #[] w fun e w' => e = .returned (.bool true) ∧ Below w.heap.size w w' := by
  obtain ⟨n1, n2, n3, n4, n5, n6⟩ := num_fixed
  obtain ⟨n7, n8⟩ := of_fixed
  go_enter Try.func13, Try.ntmps13
  go_wp2_with fail
  refine (of_any _ _ (by omega)).mono ?_
  rintro e w1 ⟨rfl, hb1⟩
  go_wp2_with fail
  refine (of_any _ _ (by omega)).mono ?_
  rintro e w2 ⟨rfl, hb2⟩
  obtain ⟨hc2, hf2⟩ := bcell hb2
  have hz2 := hb2.size
  simp only [World.size_alloc] at hc2 hf2 hz2
  go_wp2_with fail
  refine (num_any _ _ _ _ _).mono ?_
  rintro e w3 ⟨rfl, hb3⟩
  obtain ⟨hc3, hf3⟩ := bcell hb3
  have hz3 := hb3.size
  simp only [World.size_alloc] at hc3 hf3 hz3
  have hq : ∀ o, w3.cell? ⟨w1.heap.size, o, none⟩ = (#[Value.int .i64 0, .int .i64 0, .int .i64 1, .bool true] : Array Value)[o]? := fun o => by
    rw [hc3 _ _ (by omega), World.cell?_alloc_lt _ _ _ (by show w1.heap.size < w2.heap.size; omega), hc2 _ _ (by omega)]; exact World.cell?_alloc_new _ _ _ _
  clear hc3 hc2
  go_wp2_with fail
  refine (len_any _ _ _ _ _ (by omega)).mono ?_
  rintro e w4 ⟨rfl, hb4⟩
  obtain ⟨hc4, hf4⟩ := bcell hb4
  have hz4 := hb4.size
  go_wp2_with fail
  refine (num_any _ _ _ _ _).mono ?_
  rintro e w5 ⟨rfl, hb5⟩
  obtain ⟨hc5, hf5⟩ := bcell hb5
  have hz5 := hb5.size
  have hw1 : w1.heap.size < w3.heap.size := by omega
  have hw2 : w1.heap.size < w4.heap.size := by omega
  go_wp2_with fail
  refine (may_any _ _ _ _ _).mono ?_
  rintro e w6 ⟨rfl, hb6⟩
  go_wp2_with fail
  go_ret
  exact ⟨rfl, (((((((hb1.alloc hb1.size _).trans (hb2.mono (by have := hb1.size; simp; omega)))).alloc (by have := hb1.size; simp; omega) _).trans (hb3.mono (by have := hb1.size; simp; omega))).trans (hb4.mono (by have := hb1.size; omega))).trans (hb5.mono (by have := hb1.size; omega))).trans (hb6.mono (by have := hb1.size; omega))⟩
end Go.Proofs.Ytfafcnnpfgagiaa
