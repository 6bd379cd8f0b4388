/- Plain numbers in bits: powers of two; the bits of a number; the number of bits. No program in sight. -/
namespace Go.Proofs.Ytpkbbbdbcedkfaa

/-- Two to a power. -/
def p2 : Nat → Int
  | 0 => 1
  | n + 1 => 2 * p2 n
theorem p2_succ (n : Nat) : p2 (n + 1) = 2 * p2 n := rfl
theorem p2_pos (n : Nat) : 1 ≤ p2 n := by
  induction n with
  | zero => decide
  | succ n ih => rw [p2_succ]; omega
theorem p2_mono {m n : Nat} (h : m ≤ n) : p2 m ≤ p2 n := by
  induction n with
  | zero => obtain rfl : m = 0 := by omega
            exact Int.le_refl _
  | succ n ih =>
    by_cases e : m = n + 1
    · subst e; exact Int.le_refl _
    · have := ih (by omega); have := p2_pos n; rw [p2_succ]; omega
theorem p2_add (m n : Nat) : p2 (m + n) = p2 m * p2 n := by
  induction n with
  | zero => simp [p2]
  | succ n ih => rw [← Nat.add_assoc, p2_succ, p2_succ, ih]; rw [Int.mul_left_comm]
theorem p2_pow (n : Nat) : p2 n = 2 ^ n := by
  induction n with
  | zero => rfl
  | succ n ih => rw [p2_succ, ih, Int.pow_succ]; omega
theorem p2_62 : p2 62 = 4611686018427387904 := by decide
theorem p2_le {n : Nat} (h : n ≤ 62) : p2 n ≤ 4611686018427387904 := by rw [← p2_62]; exact p2_mono h

/-- The bit i of n (0: the lowest). -/
def bitAt (n : Int) (i : Nat) : Bool := n / p2 i % 2 == 1
/-- n in width bits, the highest one first. -/
def putL (n : Int) (width : Nat) : List Bool := (List.range width).map fun j => bitAt n (width - 1 - j)
theorem putL_length (n : Int) (width : Nat) : (putL n width).length = width := by simp [putL]
/-- The number that bits are. -/
def takeN (l : List Bool) : Int := l.foldl (fun n b => 2 * n + (if b then 1 else 0)) 0
theorem foldl_takeN (l : List Bool) (a : Int) : l.foldl (fun n b => 2 * n + (if b then 1 else 0)) a = a * p2 l.length + takeN l := by
  unfold takeN
  induction l generalizing a with
  | nil => simp [p2]
  | cons b l ih =>
    rw [List.foldl_cons, ih, List.foldl_cons, ih (2 * 0 + _), List.length_cons, p2_succ]
    rw [Int.add_mul, Int.add_mul]
    have : 2 * a * p2 l.length = a * (2 * p2 l.length) := by rw [Int.mul_comm 2 a, Int.mul_assoc]
    omega
theorem takeN_append (l m : List Bool) : takeN (l ++ m) = takeN l * p2 m.length + takeN m := by
  rw [takeN, List.foldl_append, ← takeN, foldl_takeN]
theorem takeN_snoc (l : List Bool) (b : Bool) : takeN (l ++ [b]) = takeN l * 2 + (if b then 1 else 0) := by
  rw [takeN_append]; simp [p2, takeN]
theorem takeN_cons (b : Bool) (l : List Bool) : takeN (b :: l) = (if b then 1 else 0) * p2 l.length + takeN l := by
  rw [takeN, List.foldl_cons, foldl_takeN]; simp
theorem takeN_bd (l : List Bool) : 0 ≤ takeN l ∧ takeN l < p2 l.length := by
  induction l with
  | nil => exact ⟨by decide, by decide⟩
  | cons b l ih =>
    have := p2_pos l.length
    rw [takeN_cons, List.length_cons, p2_succ]
    cases b <;> simp <;> omega
theorem div_p2_succ (n : Int) (m : Nat) : n / p2 (m + 1) = n / p2 m / 2 := by
  rw [p2_succ, Int.mul_comm, Int.ediv_ediv_of_nonneg (by have := p2_pos m; omega)]
theorem takeN_put_to (n : Int) (w : Nat) (h0 : 0 ≤ n) (h1 : n < p2 w) : ∀ k, k ≤ w → takeN ((putL n w).take k) = n / p2 (w - k) := by
  intro k
  induction k with
  | zero => intro _; rw [List.take_zero]; exact (Int.ediv_eq_zero_of_lt h0 (by simpa using h1)).symm
  | succ k ih =>
    intro hk
    have hlt : k < (putL n w).length := by rw [putL_length]; omega
    rw [List.take_succ_eq_append_getElem hlt, takeN_snoc, ih (by omega)]
    have e : w - k = (w - (k + 1)) + 1 := by omega
    have g : (putL n w)[k] = bitAt n (w - (k + 1)) := by simp [putL]; congr 1; omega
    rw [e, div_p2_succ, g]
    unfold bitAt
    by_cases hb : n / p2 (w - (k + 1)) % 2 = 1 <;> simp [hb] <;> omega
theorem takeN_put {n : Int} {w : Nat} (h0 : 0 ≤ n) (h1 : n < p2 w) : takeN (putL n w) = n := by
  have := takeN_put_to n w h0 h1 w (Nat.le_refl _)
  rw [List.take_of_length_le (by rw [putL_length]; exact Nat.le_refl _), Nat.sub_self] at this
  rw [this]; simp [p2]
/-- Bits are told by their number. -/
theorem put_takeN (l : List Bool) : putL (takeN l) l.length = l := by
  induction l with
  | nil => rfl
  | cons b l ih =>
    have hb := takeN_bd l
    have hp := p2_pos l.length
    rw [List.length_cons, takeN_cons]
    have q : ∀ m : Nat, m < l.length → bitAt ((if b then 1 else 0) * p2 l.length + takeN l) m = bitAt (takeN l) m := by
      intro m hm
      have e : p2 l.length = p2 m * (2 * p2 (l.length - m - 1)) := by
        rw [← p2_succ, ← p2_add]; congr 1; omega
      unfold bitAt
      cases b
      · simp
      · simp only [if_true, Int.one_mul]
        rw [e, Int.add_comm, Int.add_mul_ediv_left _ _ (by have := p2_pos m; omega)]
        congr 1
        omega
    have q0 : bitAt ((if b then 1 else 0) * p2 l.length + takeN l) l.length = b := by
      unfold bitAt
      cases b
      · simp [Int.ediv_eq_zero_of_lt hb.1 hb.2]
      · simp only [if_true, Int.one_mul]
        rw [Int.add_comm, show takeN l + p2 l.length = takeN l + p2 l.length * 1 by omega, Int.add_mul_ediv_left _ _ (by omega), Int.ediv_eq_zero_of_lt hb.1 hb.2]
        rfl
    apply List.ext_getElem
    · rw [putL_length]; rfl
    · intro i h1 h2
      simp only [putL, List.getElem_map, List.getElem_range]
      cases i with
      | zero => simpa using q0
      | succ i =>
        rw [show l.length + 1 - 1 - (i + 1) = l.length - 1 - i by omega, q _ (by simp at h2; omega)]
        have hi : i < l.length := by simpa using h2
        have : (putL (takeN l) l.length)[i]'(by rw [putL_length]; exact hi) = l[i] := by simp only [ih]
        simpa [putL] using this
end Go.Proofs.Ytpkbbbdbcedkfaa
