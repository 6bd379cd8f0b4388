/- Plain laws of the longest copy: by places, by distances. No program in sight. -/
import GoSem.Claim
namespace Go.Proofs.Ytdbhmffiojchcaa

/-- How far P holds from n on, at most f further. -/
def runF (P : Nat → Bool) : Nat → Nat → Nat
  | 0, n => n
  | f + 1, n => if P n then runF P f (n + 1) else n

theorem runF_eq {P : Nat → Bool} {k : Nat} : ∀ f n, n ≤ k → k ≤ n + f → (∀ i, n ≤ i → i < k → P i = true) → (k = n + f ∨ P k = false) → runF P f n = k
  | 0, n, h1, h2, _, _ => by simp only [runF]; omega
  | f + 1, n, h1, h2, h3, h4 => by
    unfold runF
    by_cases hn : n = k
    · subst hn
      rcases h4 with h4 | h4
      · omega
      · simp [h4]
    · rw [h3 n (Nat.le_refl _) (by omega), if_pos rfl]
      exact runF_eq f (n + 1) (by omega) (by omega) (fun i hi hk => h3 i (by omega) hk) (by rcases h4 with h | h; exact Or.inl (by omega); exact Or.inr h)
theorem runF_spec {P : Nat → Bool} : ∀ f n, n ≤ runF P f n ∧ runF P f n ≤ n + f ∧ (∀ i, n ≤ i → i < runF P f n → P i = true) ∧ (runF P f n = n + f ∨ P (runF P f n) = false)
  | 0, n => ⟨Nat.le_refl _, Nat.le_refl _, fun i h1 h2 => by simp only [runF] at h2; omega, Or.inl rfl⟩
  | f + 1, n => by
    unfold runF
    by_cases hp : P n = true
    · rw [if_pos hp]
      obtain ⟨h1, h2, h3, h4⟩ := runF_spec (P := P) f (n + 1)
      refine ⟨by omega, by omega, fun i hi hk => ?_, by rcases h4 with h | h; exact Or.inl (by omega); exact Or.inr h⟩
      by_cases e : i = n
      · subst e; exact hp
      · exact h3 i (by omega) hk
    · rw [if_neg hp]
      exact ⟨Nat.le_refl _, by omega, fun i h1 h2 => by omega, Or.inr (by simpa using hp)⟩

/-- The byte i. -/
def bt (L : List UInt8) (i : Nat) : UInt8 := L.getD i 0
/-- May the copy from d ahead go on at n? -/
def goesOn (L : List UInt8) (at' d n : Nat) : Bool := decide (at' + n < L.length) && (bt L (at' + n) == bt L (at' + n - d))
/-- How many bytes from at on are the ones d ahead. -/
def com (L : List UInt8) (at' d : Nat) : Nat := runF (goesOn L at' d) 18 0
theorem com_le (L : List UInt8) (at' d : Nat) : com L at' d ≤ 18 := by have := (runF_spec (P := goesOn L at' d) 18 0).2.1; unfold com; omega
theorem com_on {L : List UInt8} {at' d i : Nat} (h : i < com L at' d) : at' + i < L.length ∧ bt L (at' + i) = bt L (at' + i - d) := by
  have := (runF_spec (P := goesOn L at' d) 18 0).2.2.1 i (Nat.zero_le _) h
  unfold goesOn at this
  simpa using this
theorem com_eq {L : List UInt8} {at' d k : Nat} (hk : k ≤ 18) (h : ∀ i, i < k → at' + i < L.length ∧ bt L (at' + i) = bt L (at' + i - d)) (he : k = 18 ∨ ¬ (at' + k < L.length ∧ bt L (at' + k) = bt L (at' + k - d))) : com L at' d = k :=
  runF_eq 18 0 (Nat.zero_le _) (by omega) (fun i _ hi => by have := h i hi; simp [goesOn, this]) (by
    rcases he with h | h
    · exact Or.inl (by omega)
    · right; unfold goesOn; simpa using h)
theorem com_len (L : List UInt8) (at' d : Nat) (h : at' ≤ L.length) : at' + com L at' d ≤ L.length := by
  by_cases h0 : com L at' d = 0
  · omega
  · have := (com_on (L := L) (at' := at') (d := d) (i := com L at' d - 1) (by omega)).1
    omega
/-- One more distance tried. -/
def upd (L : List UInt8) (at' d : Nat) (acc : Nat × Nat) : Nat × Nat := if d ≤ at' ∧ d ≤ 255 ∧ 3 ≤ com L at' d ∧ acc.1 < com L at' d then (com L at' d, d) else acc
def best (L : List UInt8) (at' : Nat) : Nat → Nat × Nat
  | 0 => (0, 0)
  | D + 1 => upd L at' (D + 1) (best L at' D)
def longP (L : List UInt8) (at' : Nat) : Nat × Nat := best L at' 255

theorem best_le (L : List UInt8) (at' : Nat) : ∀ D, (best L at' D).1 ≤ 18
  | 0 => by simp [best]
  | D + 1 => by
    unfold best upd
    split
    · exact com_le _ _ _
    · exact best_le L at' D
/-- What the best is. -/
theorem best_is (L : List UInt8) (at' : Nat) : ∀ D, best L at' D = (0, 0) ∨ (3 ≤ (best L at' D).1 ∧ 1 ≤ (best L at' D).2 ∧ (best L at' D).2 ≤ D ∧ (best L at' D).2 ≤ 255 ∧ (best L at' D).2 ≤ at' ∧ com L at' (best L at' D).2 = (best L at' D).1)
  | 0 => Or.inl rfl
  | D + 1 => by
    unfold best upd
    split
    · rename_i h; exact Or.inr ⟨h.2.2.1, by simp, by simp, h.2.1, h.1, rfl⟩
    · rcases best_is L at' D with h | h
      · exact Or.inl h
      · exact Or.inr ⟨h.1, h.2.1, by omega, h.2.2.2⟩
theorem best_stays {L : List UInt8} {at' D : Nat} : ∀ E, D ≤ E → (∀ d, D < d → d ≤ E → d ≤ at' → d ≤ 255 → 3 ≤ com L at' d → com L at' d ≤ (best L at' D).1) → best L at' E = best L at' D
  | 0, h, _ => by obtain rfl : D = 0 := by omega
                  rfl
  | E + 1, h, hc => by
    by_cases e : D = E + 1
    · subst e; rfl
    · have ih := best_stays (L := L) (at' := at') (D := D) E (by omega) fun d h1 h2 h3 h4 h5 => hc d h1 (by omega) h3 h4 h5
      rw [best, ih, upd, if_neg]
      rintro ⟨h1, h2, h3, h4⟩
      have := hc (E + 1) (by omega) (Nat.le_refl _) h1 h2 h3
      omega
theorem best_all {L : List UInt8} {at' : Nat} : ∀ D d, 1 ≤ d → d ≤ D → d ≤ at' → d ≤ 255 → 3 ≤ com L at' d → com L at' d ≤ (best L at' D).1
  | 0, d, h1, h2, _, _, _ => by omega
  | D + 1, d, h1, h2, h3, h4, h5 => by
    rw [best]
    unfold upd
    by_cases e : d = D + 1
    · subst e
      split
      · exact Nat.le_refl _
      · rename_i hn
        omega
    · have ih := best_all (L := L) (at' := at') D d h1 (by omega) h3 h4 h5
      split
      · rename_i hn; simp only; omega
      · exact ih
theorem best_wide {L : List UInt8} {at' D : Nat} (h : 255 ≤ D ∨ at' ≤ D) : best L at' D = longP L at' := by
  unfold longP
  by_cases h1 : D ≤ 255
  · exact (best_stays 255 h1 fun d a b c e _ => by omega).symm
  · exact best_stays D (by omega) fun d a b c e _ => by omega
theorem best_18 {L : List UInt8} {at' D : Nat} (h : (best L at' D).1 = 18) (hD : D ≤ 255) : best L at' D = longP L at' :=
  (best_stays 255 hD fun d _ _ _ _ _ => by rw [h]; exact com_le _ _ _).symm
theorem long_short {L : List UInt8} {at' : Nat} (h : L.length < at' + 3) : longP L at' = (0, 0) := by
  rcases best_is L at' 255 with h1 | h1
  · exact h1
  · have h2 := (com_on (L := L) (at' := at') (d := (best L at' 255).2) (i := 2) (by rw [h1.2.2.2.2.2]; omega)).1
    omega
theorem long_le (L : List UInt8) (at' : Nat) : (longP L at').1 ≤ 18 ∧ (longP L at').2 ≤ 255 := by
  refine ⟨best_le L at' 255, ?_⟩
  rcases best_is L at' 255 with h1 | h1
  · unfold longP; rw [h1]; simp
  · exact h1.2.2.1

/-- The loop over the places that are left, the last first. -/
def lp (L : List UInt8) (at' : Nat) : List Nat → Nat × Nat → Nat × Nat
  | [], acc => acc
  | x :: xs, acc => if 255 < at' - x then acc else
    let acc' := if acc.1 < com L at' (at' - x) then (com L at' (at' - x), at' - x) else acc
    if acc'.1 = 18 then acc' else lp L at' xs acc'
/-- The row of three at j. -/
def row3 (L : List UInt8) (j : Nat) : List UInt8 := (L.drop j).take 3
/-- The places from lo on, c of them tried, where the row key stands. -/
def plc (L : List UInt8) (key : List UInt8) (lo c : Nat) : List Nat := (List.range' lo c).filter fun j => row3 L j == key
theorem plc_succ (L : List UInt8) (key : List UInt8) (lo c : Nat) : plc L key lo (c + 1) = plc L key lo c ++ if row3 L (lo + c) = key then [lo + c] else [] := by
  unfold plc
  rw [List.range'_concat, List.filter_append]
  congr 1
  by_cases h : row3 L (lo + c) = key <;> simp [h]
theorem plc_length (L : List UInt8) (key : List UInt8) (lo c : Nat) : (plc L key lo c).length ≤ c := by
  unfold plc
  exact Nat.le_trans (List.length_filter_le _ _) (by simp)
theorem plc_lt {L : List UInt8} {key : List UInt8} {lo c j : Nat} (h : j ∈ plc L key lo c) : lo ≤ j ∧ j < lo + c ∧ row3 L j = key := by
  unfold plc at h
  rw [List.mem_filter, List.mem_range'_1] at h
  exact ⟨h.1.1, h.1.2, by simpa using h.2⟩
theorem row3_get (L : List UInt8) (j : Nat) (h : j + 3 ≤ L.length) : row3 L j = [bt L j, bt L (j + 1), bt L (j + 2)] := by
  unfold row3 bt
  apply List.ext_getElem
  · simp; omega
  · intro i h1 h2
    simp only [List.length_cons, List.length_nil] at h2
    rw [List.getElem_take, List.getElem_drop]
    match i, h2 with
    | 0, _ => simp [List.getD, List.getElem?_eq_getElem (show j < L.length by omega)]
    | 1, _ => simp [List.getD, List.getElem?_eq_getElem (show j + 1 < L.length by omega)]
    | 2, _ => simp [List.getD, List.getElem?_eq_getElem (show j + 2 < L.length by omega)]
theorem row3_short (L : List UInt8) (j : Nat) (h : L.length < j + 3) : (row3 L j).length ≠ 3 := by simp [row3]; omega
theorem row3_com {L : List UInt8} {at' j : Nat} (h3 : at' + 3 ≤ L.length) (hj : j < at') : row3 L j = row3 L at' ↔ 3 ≤ com L at' (at' - j) := by
  rw [row3_get L j (by omega), row3_get L at' h3]
  constructor
  · intro h
    simp only [List.cons.injEq, and_true] at h
    refine Classical.byContradiction fun hlt => ?_
    have hc := (runF_spec (P := goesOn L at' (at' - j)) 18 0).2.2.2
    change com L at' (at' - j) = 0 + 18 ∨ goesOn L at' (at' - j) (com L at' (at' - j)) = false at hc
    rcases hc with hc | hc
    · omega
    · generalize com L at' (at' - j) = m at *
      unfold goesOn at hc
      have : m = 0 ∨ m = 1 ∨ m = 2 := by omega
      rcases this with rfl | rfl | rfl
      · rw [show at' + 0 - (at' - j) = j by omega, Nat.add_zero, h.1] at hc
        simp at hc; omega
      · rw [show at' + 1 - (at' - j) = j + 1 by omega, h.2.1] at hc
        simp at hc; omega
      · rw [show at' + 2 - (at' - j) = j + 2 by omega, h.2.2] at hc
        simp at hc; omega
  · intro h
    have a0 := (com_on (L := L) (at' := at') (d := at' - j) (i := 0) (by omega)).2
    have a1 := (com_on (L := L) (at' := at') (d := at' - j) (i := 1) (by omega)).2
    have a2 := (com_on (L := L) (at' := at') (d := at' - j) (i := 2) (by omega)).2
    rw [show at' + 0 - (at' - j) = j by omega, Nat.add_zero] at a0
    rw [show at' + 1 - (at' - j) = j + 1 by omega] at a1
    rw [show at' + 2 - (at' - j) = j + 2 by omega] at a2
    rw [a0, a1, a2]
theorem lp_best {L : List UInt8} {at' lo : Nat} (h3 : at' + 3 ≤ L.length) (hlo : lo ≤ at' - 255) : ∀ c, lo + c ≤ at' → lp L at' (plc L (row3 L at') lo c).reverse (best L at' (at' - lo - c)) = longP L at'
  | 0, h => by
    simp only [plc, List.range'_zero, List.filter_nil, List.reverse_nil, lp]
    exact best_wide (by omega)
  | c + 1, h => by
    have ih := lp_best h3 hlo c (by omega)
    rw [plc_succ, List.reverse_append]
    have e1 : at' - lo - c = (at' - lo - (c + 1)) + 1 := by omega
    have e2 : at' - (lo + c) = (at' - lo - (c + 1)) + 1 := by omega
    by_cases hr : row3 L (lo + c) = row3 L at'
    · rw [if_pos hr, List.reverse_singleton, List.singleton_append, lp]
      have hc := (row3_com h3 (by omega)).1 hr
      by_cases hf : 255 < at' - (lo + c)
      · rw [if_pos hf]
        exact best_wide (by omega)
      · rw [if_neg hf]
        have hb : (if (best L at' (at' - lo - (c + 1))).1 < com L at' (at' - (lo + c)) then (com L at' (at' - (lo + c)), at' - (lo + c)) else best L at' (at' - lo - (c + 1))) = best L at' (at' - lo - c) := by
          rw [e1, best, upd, ← e2]
          by_cases hlt : (best L at' (at' - lo - (c + 1))).1 < com L at' (at' - (lo + c))
          · rw [if_pos hlt, if_pos ⟨by omega, by omega, hc, hlt⟩]
          · rw [if_neg hlt, if_neg (fun h => hlt h.2.2.2)]
        simp only [hb]
        split
        · rename_i h18; exact best_18 h18 (by omega)
        · exact ih
    · rw [if_neg hr, List.reverse_nil, List.nil_append]
      have hb : best L at' (at' - lo - (c + 1)) = best L at' (at' - lo - c) := by
        rw [e1, best, upd, if_neg]
        rintro ⟨_, _, h, _⟩
        rw [← e2] at h
        exact hr ((row3_com h3 (by omega)).2 h)
      rw [hb]
      exact ih
theorem lp_all {L : List UInt8} {at' lo c : Nat} (h3 : at' + 3 ≤ L.length) (hlo : lo ≤ at' - 255) (hc : lo + c = at') : lp L at' (plc L (row3 L at') lo c).reverse (0, 0) = longP L at' := by
  have := lp_best h3 hlo c (by omega)
  rw [show at' - lo - c = 0 by omega] at this
  exact this
end Go.Proofs.Ytdbhmffiojchcaa
