/- The walk of AllocRoom. Conditions: numbers fit. -/
import Derived.Test.YtddbcpmhgjkjpaaAlcJ
namespace Go.Proofs.Ytddbcpmhgjkjpaa
open Go.RowKit

theorem boxed2 (w : World) (v0 v1 : Value) (t : TypeId) : ∃ W1, w.alloc (.cells #[v0, v1] t) = W1 ∧ W1.cell? ⟨w.heap.size, 0, none⟩ = some v0 ∧ W1.cell? ⟨w.heap.size, 1, none⟩ = some v1 ∧ w.heap.size < W1.heap.size ∧ Below w.heap.size w W1 :=
  ⟨_, rfl, by simp, by simp, by simp, (Below.refl _ _).alloc (Nat.le_refl _) _⟩
/-- Is there a chunk without slots, but one? -/
def roomT (ls : List (List Us)) (nt : Int) (k : Nat) : Bool := (List.range k).any fun i => decide ((ls.getD i []).length = 0) && decide ((i : Int) ≠ nt)
theorem roomT_next {ls : List (List Us)} {nt : Int} {k : Nat} (hk : k < ls.length) : roomT ls nt (k + 1) = (roomT ls nt k || (decide (ls[k].length = 0) && decide ((k : Int) ≠ nt))) := by
  unfold roomT
  rw [List.range_succ, List.any_append, List.any_cons, List.any_nil, Bool.or_false]
  simp only [List.getD_eq_getElem?_getD, List.getElem?_eq_getElem hk, Option.getD_some]
theorem room_none {ls : List (List Us)} {n nt : Int} (hm : mayT ls = true) (h1 : 1 ≤ n) (h8 : n ≤ 8) (h : slotT ls n nt = none) : roomT ls nt ls.length = false := by
  unfold roomT
  rw [List.any_eq_false]
  intro i hi
  have hi' : i < ls.length := by simpa using hi
  unfold slotT at h
  rw [List.find?_eq_none] at h
  have h2 := h i hi
  simp only [List.getD_eq_getElem?_getD, List.getElem?_eq_getElem hi', Option.getD_some] at h2 ⊢
  intro hc
  rw [Bool.and_eq_true, decide_eq_true_eq, decide_eq_true_eq] at hc
  obtain ⟨hc1, hc2⟩ := hc
  apply h2
  rw [Bool.and_eq_true, decide_eq_true_eq]
  refine ⟨hc2, ?_⟩
  cases ht : takeOk ls[i] n with
  | true => rfl
  | false =>
    have := (first_no ((mayT_iff.1 hm).1 _ (List.getElem_mem hi')) h1 h8 ht).2
    exact absurd (List.length_eq_zero_iff.1 hc1) this
theorem sum_set_nat (f : List Us → Nat) (x : List Us) : ∀ (ls : List (List Us)) (k : Nat) (hk : k < ls.length), ((ls.set k x).map f).sum + f ls[k] = (ls.map f).sum + f x := by
  intro ls
  induction ls with
  | nil => intro k hk; simp at hk
  | cons l ls ih =>
    intro k hk
    rcases k with _ | k
    · simp only [List.set_cons_zero, List.map_cons, List.sum_cons, List.getElem_cons_zero]; omega
    · have := ih k (by simpa using hk)
      simp only [List.set_cons_succ, List.map_cons, List.sum_cons, List.getElem_cons_succ]; omega
theorem mayT_set {ls : List (List Us)} {k : Nat} {x : List Us} (h : mayT ls = true) (hx : mayU x = true) : mayT (ls.set k x) = true := by
  obtain ⟨h1, h2, h3⟩ := mayT_iff.1 h
  refine mayT_iff.2 ⟨fun l hl => ?_, by simpa using h2, by simpa using h3⟩
  rcases List.mem_or_eq_of_mem_set hl with hl | rfl
  · exact h1 l hl
  · exact hx
theorem few_set {ls : List (List Us)} {k : Nat} {x : List Us} (h : FewT ls) (hx : x.length ≤ 100) : FewT (ls.set k x) := by
  refine ⟨fun l hl => ?_, by simpa using h.2⟩
  rcases List.mem_or_eq_of_mem_set hl with hl | rfl
  · exact h.1 l hl
  · exact hx
theorem sectors32 {n : Int} (h1 : 1 ≤ n) : sectors (32 * n) = n := by unfold sectors; rw [if_neg (by omega)]; omega
theorem room_some {ls : List (List Us)} {n nt : Int} (hm : mayT ls = true) (hf : smallT ls = true) (h1 : 1 ≤ n) (h8 : n ≤ 8) {k : Nat} (h : slotT ls n nt = some k) (hk : k < ls.length) :
    (k : Int) ≠ nt ∧ mayT (ls.set k (takeU ls[k] n)) = true ∧ FewT (ls.set k (takeU ls[k] n)) ∧ (freeTn (ls.set k (takeU ls[k] n)) : Int) = (freeTn ls : Int) - n ∧
    chanOk (ls.set k (takeU ls[k] n)) k (takeP ls[k] n) (32 * n) true (-1) = true ∧ chanR (ls.set k (takeU ls[k] n)) k (takeP ls[k] n) (32 * n) true (-1) = ls ∧ hasT ls k (takeP ls[k] n) (32 * n) true = false := by
  obtain ⟨_, hne, ht⟩ := slotT_parts h
  rw [List.getD_eq_getElem?_getD, List.getElem?_eq_getElem hk, Option.getD_some] at ht
  have hmk := (mayT_iff.1 hm).1 _ (List.getElem_mem hk)
  have hmt := take_may ht
  have hms : mayT (ls.set k (takeU ls[k] n)) = true := mayT_set hm hmt
  have hlen : (takeU ls[k] n).length ≤ 100 := by have := take_len ht; have := mayU_len hmk; omega
  have hp : takeP ls[k] n = takeAt ls[k] n := by unfold takeP; rw [if_pos ht]
  have hu : takeU ls[k] n = insU ls[k] (takeAt ls[k] n, n, 1, false) := by unfold takeU; rw [if_pos ht]
  obtain ⟨_, _, _, a, ha, _, hfit⟩ := takeOk_parts ht
  have hroom := fits_room hfit
  have hb := take_back ht
  have hkl : k < 1000 := by have := (mayT_iff.1 hm).2.2; omega
  have hget : (ls.set k (takeU ls[k] n)).getD k [] = takeU ls[k] n := by
    rw [List.getD_eq_getElem?_getD, List.getElem?_eq_getElem (by simpa using hk)]; simp
  have hok : chanOk (ls.set k (takeU ls[k] n)) k (takeP ls[k] n) (32 * n) true (-1) = true := by
    unfold chanOk
    rw [Int.toNat_natCast, hget, hms, hb.1]
    have hmb : mayB k (takeP ls[k] n) (32 * n) true = true := by
      unfold mayB
      rw [decide_eq_true_eq, sectors32 h1, hp, ha]
      refine ⟨by omega, by omega, by omega, by omega, by omega, by omega, Or.inl rfl⟩
    have hnb : noBad (takeU ls[k] n) (takeP ls[k] n) (32 * n) = true := by
      unfold noBad
      rw [List.all_eq_true]
      intro u hum
      rw [hu] at hum
      rw [sectors32 h1, hp]
      rcases insU_mem.1 hum with rfl | hum
      · simp
      · have := take_ne ht u hum
        simp [this]
    rw [hmb, hnb]
    simpa using hk
  refine ⟨hne, hms, few_set (few_small hf) hlen, ?_, hok, ?_, ?_⟩
  · unfold freeTn
    rw [if_pos hms, if_pos hm]
    have h2 := sum_set_nat freeN (takeU ls[k] n) ls k hk
    have h3 := free_take ht
    have h4 : freeN ls[k] = freeP (usedL ls[k]) := by unfold freeN usedU; rw [if_pos hmk]
    have h5 : freeN (takeU ls[k] n) = freeP (usedL (takeU ls[k] n)) := by unfold freeN usedU; rw [if_pos hmt]
    omega
  · unfold chanR
    rw [if_pos hok, Int.toNat_natCast, hget, hb.2, List.set_set, List.set_getElem_self]
  · unfold hasT
    rw [Int.toNat_natCast, List.getD_eq_getElem?_getD, List.getElem?_eq_getElem hk, Option.getD_some]
    have : hasL ls[k] (takeP ls[k] n) (32 * n) = false := by
      unfold hasL
      rw [List.any_eq_false]
      intro u hum
      have := take_ne ht u hum
      rw [hp]
      simp [this]
    rw [this, Bool.and_false]
theorem takeTR_cases {ls : List (List Us)} {n nt : Int} (hm : mayT ls = true) : (slotT ls n nt = none ∧ takeTR ls n nt = ([], 0, 0, false)) ∨ ∃ (k : Nat) (hk : k < ls.length), slotT ls n nt = some k ∧ takeTR ls n nt = (ls.set k (takeU ls[k] n), (k : Int), takeP ls[k] n, true) := by
  cases h : slotT ls n nt with
  | none => exact Or.inl ⟨rfl, takeTR_none h⟩
  | some k =>
    have hk := (slotT_parts h).1
    exact Or.inr ⟨k, hk, rfl, takeTR_some hm hk h⟩
end Go.Proofs.Ytddbcpmhgjkjpaa
