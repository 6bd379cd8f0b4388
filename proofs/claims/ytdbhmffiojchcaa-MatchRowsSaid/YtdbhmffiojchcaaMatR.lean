/- Plain law of a byte, many times. No program in sight. -/
import Derived.Test.YtdbhmffiojchcaaMatQ
namespace Go.Proofs.Ytdbhmffiojchcaa

theorem bt_rep (n i : Nat) (c : UInt8) (h : i < n) : bt (List.replicate n c) i = c := by
  unfold bt
  simp [List.getD, h]
theorem com_rep (n i : Nat) (c : UInt8) (h1 : 1 ≤ i) (h2 : i ≤ n) : com (List.replicate n c) i 1 = min 18 (n - i) := by
  refine com_eq (Nat.min_le_left _ _) (fun j hj => ?_) ?_
  · rw [List.length_replicate, bt_rep n _ c (by omega), bt_rep n _ c (by omega)]
    exact ⟨by omega, rfl⟩
  · by_cases h : 18 ≤ n - i
    · left; omega
    · right
      rw [List.length_replicate]
      intro h'
      omega
theorem long_rep_none (n i : Nat) (c : UInt8) (h : i = 0 ∨ n < i + 3) : longP (List.replicate n c) i = (0, 0) := by
  rcases h with rfl | h
  · rcases long_cases (List.replicate n c) 0 with h | h
    · exact h
    · omega
  · exact long_short (by rw [List.length_replicate]; exact h)
theorem long_rep (n i : Nat) (c : UInt8) (h1 : 1 ≤ i) (h2 : i + 3 ≤ n) : longP (List.replicate n c) i = (min 18 (n - i), 1) := by
  have hc := com_rep n i c h1 (by omega)
  have hb : best (List.replicate n c) i 1 = (min 18 (n - i), 1) := by
    have e : best (List.replicate n c) i 1 = upd (List.replicate n c) i 1 (0, 0) := rfl
    have h0 : 3 ≤ min 18 (n - i) := by omega
    rw [e, upd, hc, if_pos ⟨h1, by omega, h0, Nat.lt_of_lt_of_le (by decide) h0⟩]
  unfold longP
  rw [best_stays (D := 1) 255 (by omega) (fun d _ _ _ _ _ => ?_), hb]
  rw [hb]
  have h3 := com_le (List.replicate n c) i d
  have h4 := com_len (List.replicate n c) i d (by rw [List.length_replicate]; omega)
  rw [List.length_replicate] at h4
  show _ ≤ min 18 (n - i)
  omega
/-- How many tokens for m bytes behind the first. -/
def cntR (m : Nat) : Nat := m / 18 + if 3 ≤ m % 18 then 1 else m % 18
theorem spl_rep (n : Nat) (c : UInt8) : ∀ f i, 1 ≤ i → i ≤ n → n ≤ i + f → (spl (List.replicate n c) f i).length = cntR (n - i)
  | 0, i, h1, h2, h3 => by
    obtain rfl : i = n := by omega
    simp [spl, cntR]
  | f + 1, i, h1, h2, h3 => by
    rw [spl, List.length_replicate]
    by_cases hi : i < n
    · rw [if_pos hi]
      by_cases hs : n < i + 3
      · rw [long_rep_none n i c (Or.inr hs)]
        simp only [if_true, List.length_cons]
        rw [spl_rep n c f (i + 1) (by omega) (by omega) (by omega)]
        unfold cntR
        rw [if_neg (by omega), if_neg (by omega)]
        omega
      · rw [long_rep n i c h1 (by omega)]
        simp only
        rw [if_neg (by omega), List.length_cons, spl_rep n c f _ (by omega) (by omega) (by omega)]
        unfold cntR
        by_cases h18 : 18 ≤ n - i
        · rw [Nat.min_eq_left h18, show n - i = (n - (i + 18)) + 18 by omega]
          generalize n - (i + 18) = m
          rw [show (m + 18) / 18 = m / 18 + 1 by omega, show (m + 18) % 18 = m % 18 by omega]
          omega
        · rw [Nat.min_eq_right (by omega), show n - (i + (n - i)) = 0 by omega, if_neg (by omega), if_pos (by omega)]
          omega
    · rw [if_neg hi]
      obtain rfl : i = n := by omega
      simp [cntR]
/-- THE LAW: as many as there must be. -/
theorem rows_count (n : Nat) (c : UInt8) : (spl (List.replicate n c) n 0).length = if n = 0 then 0 else 1 + cntR (n - 1) := by
  cases n with
  | zero => rfl
  | succ m =>
    rw [spl, List.length_replicate, if_pos (by omega), long_rep_none _ 0 c (Or.inl rfl)]
    simp only [if_true, List.length_cons]
    rw [spl_rep (m + 1) c m (0 + 1) (by omega) (by omega) (by omega), if_neg (by omega), show m + 1 - (0 + 1) = m + 1 - 1 by omega]
    omega
theorem rows_second (n : Nat) (c : UInt8) (h : 4 ≤ n) (h1 : 1 < (spl (List.replicate n c) n 0).length) : ((spl (List.replicate n c) n 0)[1]).2.1 = 1 := by
  have e : ∃ t, (spl (List.replicate n c) n 0)[1]? = some t ∧ t.2.1 = 1 := by
    obtain ⟨m, rfl⟩ : ∃ m, n = m + 2 := ⟨n - 2, by omega⟩
    rw [spl, List.length_replicate, if_pos (by omega), long_rep_none _ 0 c (Or.inl rfl)]
    simp only [if_true, List.getElem?_cons_succ]
    rw [spl, List.length_replicate, if_pos (by omega), long_rep _ _ c (by omega) (by omega)]
    simp only
    rw [if_neg (by omega)]
    exact ⟨_, rfl, rfl⟩
  obtain ⟨t, ht, h2⟩ := e
  rw [List.getElem?_eq_getElem h1] at ht
  injection ht with ht
  rw [ht]
  exact h2
end Go.Proofs.Ytdbhmffiojchcaa
