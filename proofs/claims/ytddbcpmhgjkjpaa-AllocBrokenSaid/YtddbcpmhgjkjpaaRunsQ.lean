/- Plain laws of runs, more of them. No program in sight. -/
import Derived.Test.YtddbcpmhgjkjpaaRunsC
import Derived.Test.YtddbcpmhgjkjpaaRunsD
namespace Go.Proofs.Ytddbcpmhgjkjpaa

theorem free_append (a b : List Bool) : freeP (a ++ b) = freeP a + freeP b := by simp [freeP]
theorem free_true (n : Nat) : freeP (List.replicate n true) = 0 := by
  induction n with
  | zero => rfl
  | succ n ih => rw [List.replicate_succ]; simp [freeP]
theorem free_false (n : Nat) : freeP (List.replicate n false) = n := by
  induction n with
  | zero => rfl
  | succ n ih => rw [List.replicate_succ]; simp [freeP] at ih ⊢
theorem fits_mid {l : List Bool} {p n : Nat} (h : fits l p n = true) : (l.drop p).take n = List.replicate n false := by
  have h1 := (fits_iff.1 h).1
  apply List.ext_getElem
  · simp; omega
  · intro i g1 g2
    have := (fits_iff.1 h).2 i (by simpa using g2)
    rw [List.getD_eq_getElem?_getD, List.getElem?_eq_getElem (by simp at g2; omega)] at this
    simpa using this
theorem split_at (l : List Bool) (p n : Nat) : l = l.take p ++ (l.drop p).take n ++ l.drop (p + n) := by
  rw [List.append_assoc, ← List.drop_drop, List.take_append_drop, List.take_append_drop]
theorem free_mark {l : List Bool} {p n : Nat} (h : fits l p n = true) : freeP (markP l p n) + n = freeP l := by
  have e := congrArg freeP (split_at l p n)
  rw [free_append, free_append, fits_mid h, free_false] at e
  rw [markP, free_append, free_append, free_true]
  omega
theorem long_free (l : List Bool) : longP l ≤ freeP l := by
  by_cases h : 1 ≤ longP l
  · obtain ⟨q, hq⟩ := (long_iff l h).1 (Nat.le_refl _)
    have e := congrArg freeP (split_at l q (longP l))
    rw [free_append, free_append, fits_mid hq, free_false] at e
    omega
  · omega
/-- What is marked cannot be marked again. -/
theorem fitsI_mark {l : List Bool} {p n : Nat} (hn : 1 ≤ n) (h : p + n ≤ l.length) : fitsI (markP l p n) p n = false := by
  cases hf : fitsI (markP l p n) p n with
  | false => rfl
  | true =>
    obtain ⟨P, M, h1, h2, h3, h4, h5⟩ := fitsI_nats hf
    obtain rfl : p = P := by omega
    obtain rfl : n = M := by omega
    have := (fits_iff.1 h5).2 0 (by omega)
    rw [markP_get h, if_pos (by omega)] at this
    cases this
theorem getD_ext {a b : List Bool} (hl : a.length = b.length) (h : ∀ i, a.getD i true = b.getD i true) : a = b := by
  apply List.ext_getElem hl
  intro i h1 h2
  have := h i
  rw [List.getD_eq_getElem?_getD, List.getD_eq_getElem?_getD, List.getElem?_eq_getElem h1, List.getElem?_eq_getElem h2] at this
  exact this
theorem mark_parts {l : List Bool} {p n k : Nat} (hk : k ≤ n) (h : p + n ≤ l.length) : markP (markP l p k) (p + k) (n - k) = markP l p n := by
  have e1 : (markP l p k).length = l.length := markP_length (by omega)
  refine getD_ext (by rw [markP_length (by omega), e1, markP_length h]) fun i => ?_
  rw [markP_get (by omega), markP_get (by omega), markP_get h]
  by_cases c : p ≤ i ∧ i < p + n
  · rw [if_pos c]
    by_cases d : p + k ≤ i ∧ i < p + k + (n - k)
    · rw [if_pos d]
    · rw [if_neg d, if_pos (by omega)]
  · rw [if_neg c, if_neg (by omega), if_neg (by omega)]
theorem fits_parts {l : List Bool} {p n k : Nat} (hk : k ≤ n) (h : fits l p n = true) : fits (markP l p k) (p + k) (n - k) = true := by
  have h1 := (fits_iff.1 h).1
  refine fits_iff.2 ⟨by rw [markP_length (by omega)]; omega, fun i hi => ?_⟩
  rw [markP_get (by omega), if_neg (by omega)]
  have := (fits_iff.1 h).2 (k + i) (by omega)
  rwa [← Nat.add_assoc] at this
theorem fitsI_of {l : List Bool} {p n : Nat} (hn : 1 ≤ n) (h : fits l p n = true) : fitsI l p n = true := by
  rw [fitsI_nat, Bool.and_eq_true, decide_eq_true_eq]
  exact ⟨by omega, by simpa using h⟩

/-- Used places ahead. -/
theorem fits_shift (l : List Bool) (k q n : Nat) (hn : 1 ≤ n) : fits (List.replicate k true ++ l) q n = true ↔ k ≤ q ∧ fits l (q - k) n = true := by
  rw [fits_iff, fits_iff]
  have g : ∀ i, (List.replicate k true ++ l).getD i true = if i < k then true else l.getD (i - k) true := by
    intro i
    simp only [List.getD_eq_getElem?_getD]
    by_cases h : i < k
    · rw [if_pos h, List.getElem?_append_left (by simpa using h), List.getElem?_replicate, if_pos h]; rfl
    · rw [if_neg h, List.getElem?_append_right (by simp; omega), List.length_replicate]
  rw [List.length_append, List.length_replicate]
  constructor
  · rintro ⟨h1, h2⟩
    have hq : k ≤ q := by
      rcases Nat.lt_or_ge q k with h | h
      · have := h2 0 (by omega); rw [g, if_pos (by omega)] at this; cases this
      · exact h
    refine ⟨hq, by omega, fun i hi => ?_⟩
    have := h2 i hi
    rw [g, if_neg (by omega)] at this
    rwa [show q + i - k = q - k + i by omega] at this
  · rintro ⟨hq, h1, h2⟩
    refine ⟨by omega, fun i hi => ?_⟩
    rw [g, if_neg (by omega), show q + i - k = q - k + i by omega]
    exact h2 i hi
theorem first_shift (l : List Bool) (k : Nat) {n : Int} (hn : 1 ≤ n) : firstP (List.replicate k true ++ l) n = if 0 ≤ firstP l n then firstP l n + k else -1 := by
  rcases firstP_cases l hn with ⟨e, h⟩ | ⟨a, e, h1, h2⟩
  · rw [e, if_neg (by omega)]
    refine firstP_none hn fun b => ?_
    cases hb : fits (List.replicate k true ++ l) b n.toNat with
    | false => rfl
    | true => have := ((fits_shift l k b n.toNat (by omega)).1 hb).2; rw [h] at this; cases this
  · rw [e, if_pos (by omega)]
    have := firstP_some (l := List.replicate k true ++ l) (a := a + k) hn ((fits_shift l k _ _ (by omega)).2 ⟨by omega, by rw [Nat.add_sub_cancel]; exact h1⟩) (fun b hb => by
      cases hbf : fits (List.replicate k true ++ l) b n.toNat with
      | false => rfl
      | true =>
        have := (fits_shift l k b n.toNat (by omega)).1 hbf
        rw [h2 (b - k) (by omega)] at this
        cases this.2)
    rw [this]; omega
theorem long_shift (l : List Bool) (k : Nat) : longP (List.replicate k true ++ l) = longP l := by
  have key : ∀ n, 1 ≤ n → (n ≤ longP (List.replicate k true ++ l) ↔ n ≤ longP l) := by
    intro n hn
    rw [long_iff _ hn, long_iff _ hn]
    constructor
    · rintro ⟨q, hq⟩; exact ⟨q - k, ((fits_shift l k q n hn).1 hq).2⟩
    · rintro ⟨q, hq⟩; exact ⟨q + k, (fits_shift l k _ n hn).2 ⟨by omega, by rw [Nat.add_sub_cancel]; exact hq⟩⟩
  rcases Nat.lt_trichotomy (longP (List.replicate k true ++ l)) (longP l) with h | h | h
  · have := (key (longP l) (by omega)).2 (Nat.le_refl _); omega
  · exact h
  · have := (key (longP (List.replicate k true ++ l)) (by omega)).1 (Nat.le_refl _); omega

theorem fits_free (m q n : Nat) : fits (List.replicate m false) q n = true ↔ q + n ≤ m := by
  rw [fits_iff, List.length_replicate]
  constructor
  · exact fun h => h.1
  · intro h
    refine ⟨h, fun i hi => ?_⟩
    rw [List.getD_eq_getElem?_getD, List.getElem?_replicate, if_pos (by omega)]; rfl
theorem first_all (m : Nat) {n : Int} (hn : 1 ≤ n) : firstP (List.replicate m true) n = -1 := by
  have := first_shift [] m hn
  rw [List.append_nil] at this
  rw [this]
  rw [firstP_none hn (fun b => by
    cases hb : fits [] b n.toNat with
    | false => rfl
    | true => have := (fits_iff.1 hb).1; simp at this; omega)]
  rfl
theorem long_all (m : Nat) : longP (List.replicate m true) = 0 := by
  have := long_shift [] m
  rw [List.append_nil] at this
  rw [this]; rfl
theorem first_none (m : Nat) {n : Int} (hn : 1 ≤ n) : firstP (List.replicate m false) n = if n ≤ m then 0 else -1 := by
  by_cases h : n ≤ m
  · rw [if_pos h]
    exact firstP_some (a := 0) hn ((fits_free _ _ _).2 (by omega)) (fun b hb => by omega)
  · rw [if_neg h]
    refine firstP_none hn fun b => ?_
    cases hb : fits (List.replicate m false) b n.toNat with
    | false => rfl
    | true => have := (fits_free _ _ _).1 hb; omega
theorem long_none (m : Nat) : longP (List.replicate m false) = m := by
  have h1 := long_le (List.replicate m false)
  rw [List.length_replicate] at h1
  by_cases h : 1 ≤ m
  · have := (long_iff (List.replicate m false) h).2 ⟨0, (fits_free _ _ _).2 (by omega)⟩; omega
  · omega
end Go.Proofs.Ytddbcpmhgjkjpaa
