/- Plain laws of tables of slots, more of them: how much is free. No program in sight. -/
import Derived.Test.YtddbcpmhgjkjpaaSloN
namespace Go.Proofs.Ytddbcpmhgjkjpaa

theorem hasU_ins (l : List Us) (u : Us) (s : Nat) : hasU (insU l u) s = (hasU l s || inU u s) := by
  induction l with
  | nil => simp [insU, hasU]
  | cons y l ih =>
    rw [insU]
    split
    · unfold hasU at ih ⊢
      rw [List.any_cons, ih, List.any_cons, Bool.or_assoc]
    · unfold hasU
      rw [List.any_cons, Bool.or_comm]
theorem used_take {l : List Us} {n : Int} (h : takeOk l n = true) : ∃ a m : Nat, n = m ∧ fits (usedL l) a m = true ∧ usedL (takeU l n) = markP (usedL l) a m := by
  obtain ⟨h1, h2, h3, a, h4, h5, h6⟩ := takeOk_parts h
  refine ⟨a, n.toNat, by omega, h6, ?_⟩
  have hr := fits_room h6
  refine getD_ext ?_ fun i => ?_
  · rw [usedL_length, markP_length (by rw [usedL_length]; exact hr), usedL_length]
  · rw [markP_get (by rw [usedL_length]; exact hr)]
    by_cases hi : i < 16
    · rw [usedL_get _ hi, usedL_get _ hi, (take_yes h).1, hasU_ins, h4]
      unfold inU
      simp only
      by_cases hc : a ≤ i ∧ i < a + n.toNat
      · rw [if_pos hc]
        have : decide ((a : Int) ≤ (i : Int) ∧ (i : Int) < (a : Int) + n) = true := by simp; omega
        rw [this, Bool.or_true]
      · rw [if_neg hc]
        have : decide ((a : Int) ≤ (i : Int) ∧ (i : Int) < (a : Int) + n) = false := by simp; omega
        rw [this, Bool.or_false]
    · rw [List.getD_eq_getElem?_getD, List.getElem?_eq_none (by rw [usedL_length]; omega), List.getD_eq_getElem?_getD, List.getElem?_eq_none (by rw [usedL_length]; omega)]
      split <;> rfl
theorem free_take {l : List Us} {n : Int} (h : takeOk l n = true) : (freeP (usedL (takeU l n)) : Int) = (freeP (usedL l) : Int) - n := by
  obtain ⟨a, m, rfl, hf, hu⟩ := used_take h
  rw [hu]
  have := free_mark hf
  omega
theorem take_len {l : List Us} {n : Int} (h : takeOk l n = true) : (takeU l n).length = l.length + 1 := by
  rw [(take_yes h).1, insU_length]
theorem first_no {l : List Us} {n : Int} (hm : mayU l = true) (h1 : 1 ≤ n) (h8 : n ≤ 8) (h : takeOk l n = false) : (longP (usedL l) : Int) < n ∧ l ≠ [] := by
  have hneg : ¬ (0 : Int) ≤ firstP (usedL l) n := by
    unfold takeOk at h
    rw [takeAt_in ⟨hm, h1, h8⟩] at h
    simpa using h
  constructor
  · have hl := first_long (bs := usedL l) (k := (n - 1).toNat)
    rw [show (((n - 1).toNat : Nat) : Int) + 1 = n by omega] at hl
    have : ¬ (n - 1).toNat < longP (usedL l) := fun q => hneg (hl.2 q)
    omega
  · rintro rfl
    rw [usedL_nil, first_none 16 h1, if_pos (by omega)] at hneg
    omega
theorem freeP_le {a b : List Bool} (hl : a.length = b.length) (h : ∀ i, i < a.length → a.getD i true = true → b.getD i true = true) : freeP b ≤ freeP a := by
  induction a generalizing b with
  | nil => rw [List.length_eq_zero_iff.1 hl.symm]; exact Nat.le_refl _
  | cons x a ih =>
    cases b with
    | nil => simp at hl
    | cons y b =>
      have h0 := h 0 (by simp)
      have := ih (b := b) (by simpa using hl) (fun i hi hq => by have := h (i + 1) (by simpa using hi) (by simpa using hq); simpa using this)
      simp only [List.getD_cons_zero] at h0
      unfold freeP at this ⊢
      cases x <;> cases y <;> simp_all <;> omega
theorem free_commit (l : List Us) : freeP (usedL l) ≤ freeP (usedL (commitL l)) := by
  refine freeP_le (by rw [usedL_length, usedL_length]) fun i hi hq => ?_
  rw [usedL_length] at hi
  rw [usedL_get _ hi] at hq ⊢
  unfold hasU at hq ⊢
  rw [List.any_eq_true] at hq ⊢
  obtain ⟨u, hu, hin⟩ := hq
  obtain ⟨x, hx, rfl⟩ := List.mem_map.1 hu
  exact ⟨x, (List.mem_filter.1 hx).1, hin⟩
theorem commit_twice (l : List Us) : commitL (commitL l) = commitL l := by
  unfold commitL
  rw [List.filter_map, List.map_map, List.filter_filter]
  have e : (l.filter fun u => ((fun u : Us => decide (0 < u.2.2.1)) ∘ oldU) u && decide (0 < u.2.2.1)) = l.filter fun u => decide (0 < u.2.2.1) := by
    refine List.filter_congr fun u _ => ?_
    show (decide (0 < u.2.2.1) && decide (0 < u.2.2.1)) = _
    rw [Bool.and_self]
  rw [e]
  refine List.map_congr_left fun u _ => ?_
  rfl
theorem commit_has {l : List Us} {k : Nat} (hk : k < l.length) (h : 0 < l[k].2.2.1) : hasOld (commitL l) l[k] = true :=
  hasOld_iff.2 ⟨oldU l[k], List.mem_map.2 ⟨l[k], List.mem_filter.2 ⟨List.getElem_mem hk, by simpa using h⟩, rfl⟩, rfl, rfl, rfl⟩
theorem commit_count {l : List Us} (hm : mayU l = true) {k : Nat} (hk : k < l.length) (h : 0 < l[k].2.2.1) : countU (commitL l) l[k].1 = l[k].2.2.1 :=
  countU_mem (commit_may hm) (u := oldU l[k]) (List.mem_map.2 ⟨l[k], List.mem_filter.2 ⟨List.getElem_mem hk, by simpa using h⟩, rfl⟩)
theorem hasOld_self {l : List Us} {u : Us} (hu : u ∈ l) (ho : u.2.2.2 = true) : hasOld l u = true := hasOld_iff.2 ⟨u, hu, rfl, rfl, ho⟩
end Go.Proofs.Ytddbcpmhgjkjpaa
