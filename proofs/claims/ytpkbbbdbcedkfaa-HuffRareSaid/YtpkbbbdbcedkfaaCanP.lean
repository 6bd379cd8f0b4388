/- The plain law of codes by lengths. No program in sight. -/
import Derived.Test.YtpkbbbdbcedkfaaBitsP
namespace Go.Proofs.Ytpkbbbdbcedkfaa

/-- How many of the lengths are n. -/
def cntL (l : List Int) (n : Nat) : Nat := (l.filter (· == (n : Int))).length
/-- The first code of n bits. -/
def firstC (l : List Int) : Nat → Int
  | 0 => 0
  | n + 1 => (firstC l n + (if n = 0 then 0 else (cntL l n : Int))) * 2
theorem firstC_succ (l : List Int) (n : Nat) : firstC l (n + 1) = (firstC l n + (if n = 0 then 0 else (cntL l n : Int))) * 2 := rfl
/-- What one length takes of all there is. -/
def oneK (n : Int) : Int := if 0 < n ∧ n < 16 then p2 (15 - n.toNat) else 0
def kraftL (l : List Int) : Int := (l.map oneK).sum
/-- The code of the symbol s. -/
def codeC (l : List Int) (s : Nat) : Int := firstC l (l[s]?.getD 0).toNat + cntL (l.take s) (l[s]?.getD 0).toNat
/-- Lengths that may be. -/
def lensOk (l : List Int) : Bool := decide (l.length ≤ 300) && l.all (fun n => decide (0 ≤ n ∧ n ≤ 15)) && decide (kraftL l ≤ 32768)

theorem cntL_nil (n : Nat) : cntL [] n = 0 := rfl
theorem cntL_append (a b : List Int) (n : Nat) : cntL (a ++ b) n = cntL a n + cntL b n := by simp [cntL]
theorem cntL_one (x : Int) (n : Nat) : cntL [x] n = if x = n then 1 else 0 := by
  unfold cntL
  by_cases h : x = n <;> simp [h]
theorem cntL_snoc (a : List Int) (x : Int) (n : Nat) : cntL (a ++ [x]) n = cntL a n + if x = n then 1 else 0 := by rw [cntL_append, cntL_one]
theorem cntL_take_le (l : List Int) (s n : Nat) : cntL (l.take s) n ≤ cntL l n := by
  have : cntL l n = cntL (l.take s) n + cntL (l.drop s) n := by rw [← cntL_append, List.take_append_drop]
  omega
theorem cntL_take_lt (l : List Int) (s n : Nat) (hs : s < l.length) (h : l[s] = (n : Int)) : cntL (l.take s) n < cntL l n := by
  have h1 := cntL_take_le l (s + 1) n
  rw [List.take_succ_eq_append_getElem hs, cntL_snoc, if_pos h] at h1
  omega
theorem cntL_le (l : List Int) (n : Nat) : cntL l n ≤ l.length := List.length_filter_le _ _
theorem cntL_mono (l : List Int) {s t n : Nat} (h : s ≤ t) : cntL (l.take s) n ≤ cntL (l.take t) n := by
  have := cntL_take_le (l.take t) s n
  rwa [List.take_take, Nat.min_eq_left h] at this

theorem kraftL_snoc (a : List Int) (x : Int) : kraftL (a ++ [x]) = kraftL a + oneK x := by simp [kraftL, List.sum_append]
theorem oneK_bd (x : Int) : 0 ≤ oneK x ∧ oneK x ≤ 16384 := by
  unfold oneK
  by_cases h : 0 < x ∧ x < 16
  · rw [if_pos h]
    have h1 := p2_pos (15 - x.toNat)
    have h2 := p2_mono (m := 15 - x.toNat) (n := 14) (by omega)
    have h3 : p2 14 = 16384 := by decide
    omega
  · rw [if_neg h]; omega
theorem kraftL_bd (l : List Int) : 0 ≤ kraftL l ∧ kraftL l ≤ 16384 * l.length := by
  unfold kraftL
  induction l with
  | nil => simp
  | cons x l ih =>
    have := oneK_bd x
    simp only [List.map_cons, List.sum_cons, List.length_cons]
    omega

/-- What the lengths of at most n bits take, of what there is for 15 bits. -/
def kraftTo (l : List Int) : Nat → Int
  | 0 => 0
  | n + 1 => kraftTo l n + cntL l (n + 1) * p2 (15 - (n + 1))
theorem kraftTo_succ (l : List Int) (n : Nat) : kraftTo l (n + 1) = kraftTo l n + cntL l (n + 1) * p2 (15 - (n + 1)) := rfl
theorem kraftTo_nil (n : Nat) : kraftTo [] n = 0 := by
  induction n with
  | zero => rfl
  | succ n ih => rw [kraftTo_succ, ih, cntL_nil]; simp
theorem kraftTo_snoc (a : List Int) (x : Int) (n : Nat) : kraftTo (a ++ [x]) n = kraftTo a n + if 0 < x ∧ x ≤ n then p2 (15 - x.toNat) else 0 := by
  induction n with
  | zero =>
    have : ¬ (0 < x ∧ x ≤ ((0 : Nat) : Int)) := by omega
    rw [if_neg this]; rfl
  | succ n ih =>
    rw [kraftTo_succ, kraftTo_succ, ih, cntL_snoc]
    by_cases h : x = ((n + 1 : Nat) : Int)
    · subst h
      have h1 : ¬ (0 < ((n + 1 : Nat) : Int) ∧ ((n + 1 : Nat) : Int) ≤ (n : Int)) := by omega
      have h2 : (0 < ((n + 1 : Nat) : Int) ∧ ((n + 1 : Nat) : Int) ≤ ((n + 1 : Nat) : Int)) := by omega
      rw [if_neg h1, if_pos h2, if_pos rfl, Int.toNat_natCast]
      rw [show (((cntL a (n + 1) + 1 : Nat)) : Int) = (cntL a (n + 1) : Int) + 1 by omega, Int.add_mul]
      omega
    · rw [if_neg h]
      by_cases h1 : 0 < x ∧ x ≤ (n : Int)
      · rw [if_pos h1, if_pos (by omega)]
        simp only [Nat.add_zero]
        omega
      · rw [if_neg h1, if_neg (by omega)]
        simp only [Nat.add_zero]
        omega
theorem kraftTo_15 (l : List Int) (h : ∀ x ∈ l, 0 ≤ x ∧ x ≤ 15) : kraftTo l 15 = kraftL l := by
  have : ∀ k, k ≤ l.length → kraftTo (l.take k) 15 = kraftL (l.take k) := by
    intro k
    induction k with
    | zero => intro _; rw [List.take_zero, kraftTo_nil]; rfl
    | succ k ih =>
      intro hk
      have hlt : k < l.length := by omega
      have := h l[k] (List.getElem_mem hlt)
      rw [List.take_succ_eq_append_getElem hlt, kraftTo_snoc, kraftL_snoc, ih (by omega)]
      unfold oneK
      by_cases h0 : 0 < l[k]
      · rw [if_pos (by omega), if_pos (by omega)]
      · rw [if_neg (by omega), if_neg (by omega)]
  have := this l.length (Nat.le_refl _)
  rwa [List.take_length] at this
theorem kraftTo_mono (l : List Int) {m n : Nat} (h : m ≤ n) : kraftTo l m ≤ kraftTo l n := by
  induction n with
  | zero => obtain rfl : m = 0 := by omega
            exact Int.le_refl _
  | succ n ih =>
    by_cases e : m = n + 1
    · subst e; exact Int.le_refl _
    · have := ih (by omega)
      have := p2_pos (15 - (n + 1))
      have : 0 ≤ (cntL l (n + 1) : Int) * p2 (15 - (n + 1)) := Int.mul_nonneg (by omega) (by omega)
      rw [kraftTo_succ]; omega
/-- The first code of n + 1 bits stands behind all shorter ones. -/
theorem firstC_kraft (l : List Int) : ∀ n, n < 15 → firstC l (n + 1) * p2 (15 - (n + 1)) = kraftTo l n := by
  intro n
  induction n with
  | zero => intro _; simp [firstC, kraftTo]
  | succ n ih =>
    intro hn
    rw [firstC_succ, if_neg (by omega), kraftTo_succ, ← ih (by omega)]
    have e : p2 (15 - (n + 1)) = 2 * p2 (15 - (n + 1 + 1)) := by
      rw [← p2_succ]; congr 1; omega
    rw [e, Int.add_mul, Int.add_mul]
    have a1 : ∀ x p : Int, x * 2 * p = x * (2 * p) := fun x p => Int.mul_assoc x 2 p
    rw [a1, a1]

section
variable {l : List Int} (hr : ∀ x ∈ l, 0 ≤ x ∧ x ≤ 15)

/-- Where the symbol s begins, of what there is for 15 bits. -/
def baseC (l : List Int) (s : Nat) : Int := codeC l s * p2 (15 - (l[s]?.getD 0).toNat)
/-- Behind what it ends. -/
def endC (l : List Int) (s : Nat) : Int := (codeC l s + 1) * p2 (15 - (l[s]?.getD 0).toNat)

theorem firstC_nonneg (l : List Int) (n : Nat) : 0 ≤ firstC l n := by
  induction n with
  | zero => exact Int.le_refl _
  | succ n ih => rw [firstC_succ]; split <;> omega
theorem codeC_nonneg (l : List Int) (s : Nat) : 0 ≤ codeC l s := by
  have := firstC_nonneg l (l[s]?.getD 0).toNat
  unfold codeC; omega

/-- The codes of n bits: first, one behind the other, from where the shorter ones end. -/
theorem base_eq {s n : Nat} (hs : s < l.length) (h : l[s] = ((n + 1 : Nat) : Int)) (hn : n < 15) : baseC l s = kraftTo l n + cntL (l.take s) (n + 1) * p2 (15 - (n + 1)) := by
  have e : (l[s]?.getD 0).toNat = n + 1 := by rw [List.getElem?_eq_getElem hs, Option.getD_some, h, Int.toNat_natCast]
  unfold baseC codeC
  rw [e, Int.add_mul, firstC_kraft l n hn]
theorem end_eq {s n : Nat} (hs : s < l.length) (h : l[s] = ((n + 1 : Nat) : Int)) : endC l s = baseC l s + p2 (15 - (n + 1)) := by
  have e : (l[s]?.getD 0).toNat = n + 1 := by rw [List.getElem?_eq_getElem hs, Option.getD_some, h, Int.toNat_natCast]
  unfold endC baseC
  rw [e, Int.add_mul, Int.one_mul]
theorem base_ge {s n : Nat} (hs : s < l.length) (h : l[s] = ((n + 1 : Nat) : Int)) (hn : n < 15) : kraftTo l n ≤ baseC l s := by
  have := p2_pos (15 - (n + 1))
  have : 0 ≤ (cntL (l.take s) (n + 1) : Int) * p2 (15 - (n + 1)) := Int.mul_nonneg (by omega) (by omega)
  rw [base_eq hs h hn]; omega
theorem mul_le_r {a b p : Int} (h : a ≤ b) (hp : 0 ≤ p) : a * p ≤ b * p := Int.mul_le_mul_of_nonneg_right h hp
theorem end_le {s n : Nat} (hs : s < l.length) (h : l[s] = ((n + 1 : Nat) : Int)) (hn : n < 15) : endC l s ≤ kraftTo l (n + 1) := by
  have hp := p2_pos (15 - (n + 1))
  have h1 := cntL_take_lt l s (n + 1) hs h
  rw [end_eq hs h, base_eq hs h hn, kraftTo_succ]
  have h2 := mul_le_r (a := (cntL (l.take s) (n + 1) : Int) + 1) (b := (cntL l (n + 1) : Int)) (p := p2 (15 - (n + 1))) (by omega) (by omega)
  rw [Int.add_mul, Int.one_mul] at h2
  omega
/-- Of two symbols with codes, one ends ahead of the other one's beginning. -/
theorem apart {s t m n : Nat} (hs : s < l.length) (ht : t < l.length) (hm : l[s] = ((m + 1 : Nat) : Int)) (hn : l[t] = ((n + 1 : Nat) : Int)) (hm15 : m < 15) (hn15 : n < 15) (hlt : m < n ∨ (m = n ∧ s < t)) : endC l s ≤ baseC l t := by
  rcases hlt with hlt | ⟨rfl, hlt⟩
  · exact Int.le_trans (end_le hs hm hm15) (Int.le_trans (kraftTo_mono l hlt) (base_ge ht hn hn15))
  · have hp := p2_pos (15 - (m + 1))
    rw [end_eq hs hm, base_eq hs hm hm15, base_eq ht hn hn15]
    have h1 := cntL_take_lt (l.take t) s (m + 1) (by rw [List.length_take]; omega) (by rw [List.getElem_take]; exact hm)
    rw [List.take_take, Nat.min_eq_left (by omega)] at h1
    have h2 := mul_le_r (a := (cntL (l.take s) (m + 1) : Int) + 1) (b := (cntL (l.take t) (m + 1) : Int)) (p := p2 (15 - (m + 1))) (by omega) (by omega)
    rw [Int.add_mul, Int.one_mul] at h2
    omega
end
end Go.Proofs.Ytpkbbbdbcedkfaa
