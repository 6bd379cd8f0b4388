/- Plain numbers in bits: powers of two; the bits of a number; the number of bits. No program in sight. The plain law of codes by lengths. No program in sight. The plain law of codes by lengths: what is read, that no code begins with another one. No program in sight. The plain law of trees that are put together: two least ones at a time. No program in sight. The plain law of heaps: a tree is put in, the least one is taken out. No program in sight. The plain law of depths: how high a tree is; halving comes to an end. No program in sight. The plain law of costs: no lengths cost less; what the lengths take of all there is. No program in sight. The plain law of costs: no lengths cost less. No program in sight. The plain law of costs: depths cost least; even symbols. No program in sight. The plain law of the document's Once: each putting together adds one to the depth of each symbol of it. No program in sight. -/
namespace Go.Proofs.Ytolappilfjhfaaa

/-- Two to a power. -/
def p2 : Nat → Int
  | 0 => 1
  | n + 1 => 2 * p2 n
theorem p2_succ (n : Nat) : p2 (n + 1) = 2 * p2 n := rfl
theorem p2_pos (n : Nat) : 1 ≤ p2 n := by
  induction n with
  | zero => decide
  | succ n ih => rw [p2_succ]; omega
theorem p2_mono {m n : Nat} (h : m ≤ n) : p2 m ≤ p2 n := by
  induction n with
  | zero => obtain rfl : m = 0 := by omega
            exact Int.le_refl _
  | succ n ih =>
    by_cases e : m = n + 1
    · subst e; exact Int.le_refl _
    · have := ih (by omega); have := p2_pos n; rw [p2_succ]; omega
theorem p2_add (m n : Nat) : p2 (m + n) = p2 m * p2 n := by
  induction n with
  | zero => simp [p2]
  | succ n ih => rw [← Nat.add_assoc, p2_succ, p2_succ, ih]; rw [Int.mul_left_comm]
theorem p2_pow (n : Nat) : p2 n = 2 ^ n := by
  induction n with
  | zero => rfl
  | succ n ih => rw [p2_succ, ih, Int.pow_succ]; omega
theorem p2_62 : p2 62 = 4611686018427387904 := by decide
theorem p2_le {n : Nat} (h : n ≤ 62) : p2 n ≤ 4611686018427387904 := by rw [← p2_62]; exact p2_mono h

/-- The bit i of n (0: the lowest). -/
def bitAt (n : Int) (i : Nat) : Bool := n / p2 i % 2 == 1
/-- n in width bits, the highest one first. -/
def putL (n : Int) (width : Nat) : List Bool := (List.range width).map fun j => bitAt n (width - 1 - j)
theorem putL_length (n : Int) (width : Nat) : (putL n width).length = width := by simp [putL]
/-- The number that bits are. -/
def takeN (l : List Bool) : Int := l.foldl (fun n b => 2 * n + (if b then 1 else 0)) 0
theorem foldl_takeN (l : List Bool) (a : Int) : l.foldl (fun n b => 2 * n + (if b then 1 else 0)) a = a * p2 l.length + takeN l := by
  unfold takeN
  induction l generalizing a with
  | nil => simp [p2]
  | cons b l ih =>
    rw [List.foldl_cons, ih, List.foldl_cons, ih (2 * 0 + _), List.length_cons, p2_succ]
    rw [Int.add_mul, Int.add_mul]
    have : 2 * a * p2 l.length = a * (2 * p2 l.length) := by rw [Int.mul_comm 2 a, Int.mul_assoc]
    omega
theorem takeN_append (l m : List Bool) : takeN (l ++ m) = takeN l * p2 m.length + takeN m := by
  rw [takeN, List.foldl_append, ← takeN, foldl_takeN]
theorem takeN_snoc (l : List Bool) (b : Bool) : takeN (l ++ [b]) = takeN l * 2 + (if b then 1 else 0) := by
  rw [takeN_append]; simp [p2, takeN]
theorem takeN_cons (b : Bool) (l : List Bool) : takeN (b :: l) = (if b then 1 else 0) * p2 l.length + takeN l := by
  rw [takeN, List.foldl_cons, foldl_takeN]; simp
theorem takeN_bd (l : List Bool) : 0 ≤ takeN l ∧ takeN l < p2 l.length := by
  induction l with
  | nil => exact ⟨by decide, by decide⟩
  | cons b l ih =>
    have := p2_pos l.length
    rw [takeN_cons, List.length_cons, p2_succ]
    cases b <;> simp <;> omega
theorem div_p2_succ (n : Int) (m : Nat) : n / p2 (m + 1) = n / p2 m / 2 := by
  rw [p2_succ, Int.mul_comm, Int.ediv_ediv_of_nonneg (by have := p2_pos m; omega)]
theorem takeN_put_to (n : Int) (w : Nat) (h0 : 0 ≤ n) (h1 : n < p2 w) : ∀ k, k ≤ w → takeN ((putL n w).take k) = n / p2 (w - k) := by
  intro k
  induction k with
  | zero => intro _; rw [List.take_zero]; exact (Int.ediv_eq_zero_of_lt h0 (by simpa using h1)).symm
  | succ k ih =>
    intro hk
    have hlt : k < (putL n w).length := by rw [putL_length]; omega
    rw [List.take_succ_eq_append_getElem hlt, takeN_snoc, ih (by omega)]
    have e : w - k = (w - (k + 1)) + 1 := by omega
    have g : (putL n w)[k] = bitAt n (w - (k + 1)) := by simp [putL]; congr 1; omega
    rw [e, div_p2_succ, g]
    unfold bitAt
    by_cases hb : n / p2 (w - (k + 1)) % 2 = 1 <;> simp [hb] <;> omega
theorem takeN_put {n : Int} {w : Nat} (h0 : 0 ≤ n) (h1 : n < p2 w) : takeN (putL n w) = n := by
  have := takeN_put_to n w h0 h1 w (Nat.le_refl _)
  rw [List.take_of_length_le (by rw [putL_length]; exact Nat.le_refl _), Nat.sub_self] at this
  rw [this]; simp [p2]
/-- Bits are told by their number. -/
theorem put_takeN (l : List Bool) : putL (takeN l) l.length = l := by
  induction l with
  | nil => rfl
  | cons b l ih =>
    have hb := takeN_bd l
    have hp := p2_pos l.length
    rw [List.length_cons, takeN_cons]
    have q : ∀ m : Nat, m < l.length → bitAt ((if b then 1 else 0) * p2 l.length + takeN l) m = bitAt (takeN l) m := by
      intro m hm
      have e : p2 l.length = p2 m * (2 * p2 (l.length - m - 1)) := by
        rw [← p2_succ, ← p2_add]; congr 1; omega
      unfold bitAt
      cases b
      · simp
      · simp only [if_true, Int.one_mul]
        rw [e, Int.add_comm, Int.add_mul_ediv_left _ _ (by have := p2_pos m; omega)]
        congr 1
        omega
    have q0 : bitAt ((if b then 1 else 0) * p2 l.length + takeN l) l.length = b := by
      unfold bitAt
      cases b
      · simp [Int.ediv_eq_zero_of_lt hb.1 hb.2]
      · simp only [if_true, Int.one_mul]
        rw [Int.add_comm, show takeN l + p2 l.length = takeN l + p2 l.length * 1 by omega, Int.add_mul_ediv_left _ _ (by omega), Int.ediv_eq_zero_of_lt hb.1 hb.2]
        rfl
    apply List.ext_getElem
    · rw [putL_length]; rfl
    · intro i h1 h2
      simp only [putL, List.getElem_map, List.getElem_range]
      cases i with
      | zero => simpa using q0
      | succ i =>
        rw [show l.length + 1 - 1 - (i + 1) = l.length - 1 - i by omega, q _ (by simp at h2; omega)]
        have hi : i < l.length := by simpa using h2
        have : (putL (takeN l) l.length)[i]'(by rw [putL_length]; exact hi) = l[i] := by simp only [ih]
        simpa [putL] using this
end Go.Proofs.Ytolappilfjhfaaa
namespace Go.Proofs.Ytolappilfjhfaaa

/-- How many of the lengths are n. -/
def cntL (l : List Int) (n : Nat) : Nat := (l.filter (· == (n : Int))).length
/-- The first code of n bits. -/
def firstC (l : List Int) : Nat → Int
  | 0 => 0
  | n + 1 => (firstC l n + (if n = 0 then 0 else (cntL l n : Int))) * 2
theorem firstC_succ (l : List Int) (n : Nat) : firstC l (n + 1) = (firstC l n + (if n = 0 then 0 else (cntL l n : Int))) * 2 := rfl
/-- What one length takes of all there is. -/
def oneK (n : Int) : Int := if 0 < n ∧ n < 16 then p2 (15 - n.toNat) else 0
def kraftL (l : List Int) : Int := (l.map oneK).sum
/-- The code of the symbol s. -/
def codeC (l : List Int) (s : Nat) : Int := firstC l (l[s]?.getD 0).toNat + cntL (l.take s) (l[s]?.getD 0).toNat
/-- Lengths that may be. -/
def lensOk (l : List Int) : Bool := decide (l.length ≤ 300) && l.all (fun n => decide (0 ≤ n ∧ n ≤ 15)) && decide (kraftL l ≤ 32768)

theorem cntL_nil (n : Nat) : cntL [] n = 0 := rfl
theorem cntL_append (a b : List Int) (n : Nat) : cntL (a ++ b) n = cntL a n + cntL b n := by simp [cntL]
theorem cntL_one (x : Int) (n : Nat) : cntL [x] n = if x = n then 1 else 0 := by
  unfold cntL
  by_cases h : x = n <;> simp [h]
theorem cntL_snoc (a : List Int) (x : Int) (n : Nat) : cntL (a ++ [x]) n = cntL a n + if x = n then 1 else 0 := by rw [cntL_append, cntL_one]
theorem cntL_take_le (l : List Int) (s n : Nat) : cntL (l.take s) n ≤ cntL l n := by
  have : cntL l n = cntL (l.take s) n + cntL (l.drop s) n := by rw [← cntL_append, List.take_append_drop]
  omega
theorem cntL_take_lt (l : List Int) (s n : Nat) (hs : s < l.length) (h : l[s] = (n : Int)) : cntL (l.take s) n < cntL l n := by
  have h1 := cntL_take_le l (s + 1) n
  rw [List.take_succ_eq_append_getElem hs, cntL_snoc, if_pos h] at h1
  omega
theorem cntL_le (l : List Int) (n : Nat) : cntL l n ≤ l.length := List.length_filter_le _ _
theorem cntL_mono (l : List Int) {s t n : Nat} (h : s ≤ t) : cntL (l.take s) n ≤ cntL (l.take t) n := by
  have := cntL_take_le (l.take t) s n
  rwa [List.take_take, Nat.min_eq_left h] at this

theorem kraftL_snoc (a : List Int) (x : Int) : kraftL (a ++ [x]) = kraftL a + oneK x := by simp [kraftL, List.sum_append]
theorem oneK_bd (x : Int) : 0 ≤ oneK x ∧ oneK x ≤ 16384 := by
  unfold oneK
  by_cases h : 0 < x ∧ x < 16
  · rw [if_pos h]
    have h1 := p2_pos (15 - x.toNat)
    have h2 := p2_mono (m := 15 - x.toNat) (n := 14) (by omega)
    have h3 : p2 14 = 16384 := by decide
    omega
  · rw [if_neg h]; omega
theorem kraftL_bd (l : List Int) : 0 ≤ kraftL l ∧ kraftL l ≤ 16384 * l.length := by
  unfold kraftL
  induction l with
  | nil => simp
  | cons x l ih =>
    have := oneK_bd x
    simp only [List.map_cons, List.sum_cons, List.length_cons]
    omega

/-- What the lengths of at most n bits take, of what there is for 15 bits. -/
def kraftTo (l : List Int) : Nat → Int
  | 0 => 0
  | n + 1 => kraftTo l n + cntL l (n + 1) * p2 (15 - (n + 1))
theorem kraftTo_succ (l : List Int) (n : Nat) : kraftTo l (n + 1) = kraftTo l n + cntL l (n + 1) * p2 (15 - (n + 1)) := rfl
theorem kraftTo_nil (n : Nat) : kraftTo [] n = 0 := by
  induction n with
  | zero => rfl
  | succ n ih => rw [kraftTo_succ, ih, cntL_nil]; simp
theorem kraftTo_snoc (a : List Int) (x : Int) (n : Nat) : kraftTo (a ++ [x]) n = kraftTo a n + if 0 < x ∧ x ≤ n then p2 (15 - x.toNat) else 0 := by
  induction n with
  | zero =>
    have : ¬ (0 < x ∧ x ≤ ((0 : Nat) : Int)) := by omega
    rw [if_neg this]; rfl
  | succ n ih =>
    rw [kraftTo_succ, kraftTo_succ, ih, cntL_snoc]
    by_cases h : x = ((n + 1 : Nat) : Int)
    · subst h
      have h1 : ¬ (0 < ((n + 1 : Nat) : Int) ∧ ((n + 1 : Nat) : Int) ≤ (n : Int)) := by omega
      have h2 : (0 < ((n + 1 : Nat) : Int) ∧ ((n + 1 : Nat) : Int) ≤ ((n + 1 : Nat) : Int)) := by omega
      rw [if_neg h1, if_pos h2, if_pos rfl, Int.toNat_natCast]
      rw [show (((cntL a (n + 1) + 1 : Nat)) : Int) = (cntL a (n + 1) : Int) + 1 by omega, Int.add_mul]
      omega
    · rw [if_neg h]
      by_cases h1 : 0 < x ∧ x ≤ (n : Int)
      · rw [if_pos h1, if_pos (by omega)]
        simp only [Nat.add_zero]
        omega
      · rw [if_neg h1, if_neg (by omega)]
        simp only [Nat.add_zero]
        omega
theorem kraftTo_15 (l : List Int) (h : ∀ x ∈ l, 0 ≤ x ∧ x ≤ 15) : kraftTo l 15 = kraftL l := by
  have : ∀ k, k ≤ l.length → kraftTo (l.take k) 15 = kraftL (l.take k) := by
    intro k
    induction k with
    | zero => intro _; rw [List.take_zero, kraftTo_nil]; rfl
    | succ k ih =>
      intro hk
      have hlt : k < l.length := by omega
      have := h l[k] (List.getElem_mem hlt)
      rw [List.take_succ_eq_append_getElem hlt, kraftTo_snoc, kraftL_snoc, ih (by omega)]
      unfold oneK
      by_cases h0 : 0 < l[k]
      · rw [if_pos (by omega), if_pos (by omega)]
      · rw [if_neg (by omega), if_neg (by omega)]
  have := this l.length (Nat.le_refl _)
  rwa [List.take_length] at this
theorem kraftTo_mono (l : List Int) {m n : Nat} (h : m ≤ n) : kraftTo l m ≤ kraftTo l n := by
  induction n with
  | zero => obtain rfl : m = 0 := by omega
            exact Int.le_refl _
  | succ n ih =>
    by_cases e : m = n + 1
    · subst e; exact Int.le_refl _
    · have := ih (by omega)
      have := p2_pos (15 - (n + 1))
      have : 0 ≤ (cntL l (n + 1) : Int) * p2 (15 - (n + 1)) := Int.mul_nonneg (by omega) (by omega)
      rw [kraftTo_succ]; omega
/-- The first code of n + 1 bits stands behind all shorter ones. -/
theorem firstC_kraft (l : List Int) : ∀ n, n < 15 → firstC l (n + 1) * p2 (15 - (n + 1)) = kraftTo l n := by
  intro n
  induction n with
  | zero => intro _; simp [firstC, kraftTo]
  | succ n ih =>
    intro hn
    rw [firstC_succ, if_neg (by omega), kraftTo_succ, ← ih (by omega)]
    have e : p2 (15 - (n + 1)) = 2 * p2 (15 - (n + 1 + 1)) := by
      rw [← p2_succ]; congr 1; omega
    rw [e, Int.add_mul, Int.add_mul]
    have a1 : ∀ x p : Int, x * 2 * p = x * (2 * p) := fun x p => Int.mul_assoc x 2 p
    rw [a1, a1]

section
variable {l : List Int} (hr : ∀ x ∈ l, 0 ≤ x ∧ x ≤ 15)

/-- Where the symbol s begins, of what there is for 15 bits. -/
def baseC (l : List Int) (s : Nat) : Int := codeC l s * p2 (15 - (l[s]?.getD 0).toNat)
/-- Behind what it ends. -/
def endC (l : List Int) (s : Nat) : Int := (codeC l s + 1) * p2 (15 - (l[s]?.getD 0).toNat)

theorem firstC_nonneg (l : List Int) (n : Nat) : 0 ≤ firstC l n := by
  induction n with
  | zero => exact Int.le_refl _
  | succ n ih => rw [firstC_succ]; split <;> omega
theorem codeC_nonneg (l : List Int) (s : Nat) : 0 ≤ codeC l s := by
  have := firstC_nonneg l (l[s]?.getD 0).toNat
  unfold codeC; omega

/-- The codes of n bits: first, one behind the other, from where the shorter ones end. -/
theorem base_eq {s n : Nat} (hs : s < l.length) (h : l[s] = ((n + 1 : Nat) : Int)) (hn : n < 15) : baseC l s = kraftTo l n + cntL (l.take s) (n + 1) * p2 (15 - (n + 1)) := by
  have e : (l[s]?.getD 0).toNat = n + 1 := by rw [List.getElem?_eq_getElem hs, Option.getD_some, h, Int.toNat_natCast]
  unfold baseC codeC
  rw [e, Int.add_mul, firstC_kraft l n hn]
theorem end_eq {s n : Nat} (hs : s < l.length) (h : l[s] = ((n + 1 : Nat) : Int)) : endC l s = baseC l s + p2 (15 - (n + 1)) := by
  have e : (l[s]?.getD 0).toNat = n + 1 := by rw [List.getElem?_eq_getElem hs, Option.getD_some, h, Int.toNat_natCast]
  unfold endC baseC
  rw [e, Int.add_mul, Int.one_mul]
theorem base_ge {s n : Nat} (hs : s < l.length) (h : l[s] = ((n + 1 : Nat) : Int)) (hn : n < 15) : kraftTo l n ≤ baseC l s := by
  have := p2_pos (15 - (n + 1))
  have : 0 ≤ (cntL (l.take s) (n + 1) : Int) * p2 (15 - (n + 1)) := Int.mul_nonneg (by omega) (by omega)
  rw [base_eq hs h hn]; omega
theorem mul_le_r {a b p : Int} (h : a ≤ b) (hp : 0 ≤ p) : a * p ≤ b * p := Int.mul_le_mul_of_nonneg_right h hp
theorem end_le {s n : Nat} (hs : s < l.length) (h : l[s] = ((n + 1 : Nat) : Int)) (hn : n < 15) : endC l s ≤ kraftTo l (n + 1) := by
  have hp := p2_pos (15 - (n + 1))
  have h1 := cntL_take_lt l s (n + 1) hs h
  rw [end_eq hs h, base_eq hs h hn, kraftTo_succ]
  have h2 := mul_le_r (a := (cntL (l.take s) (n + 1) : Int) + 1) (b := (cntL l (n + 1) : Int)) (p := p2 (15 - (n + 1))) (by omega) (by omega)
  rw [Int.add_mul, Int.one_mul] at h2
  omega
/-- Of two symbols with codes, one ends ahead of the other one's beginning. -/
theorem apart {s t m n : Nat} (hs : s < l.length) (ht : t < l.length) (hm : l[s] = ((m + 1 : Nat) : Int)) (hn : l[t] = ((n + 1 : Nat) : Int)) (hm15 : m < 15) (hn15 : n < 15) (hlt : m < n ∨ (m = n ∧ s < t)) : endC l s ≤ baseC l t := by
  rcases hlt with hlt | ⟨rfl, hlt⟩
  · exact Int.le_trans (end_le hs hm hm15) (Int.le_trans (kraftTo_mono l hlt) (base_ge ht hn hn15))
  · have hp := p2_pos (15 - (m + 1))
    rw [end_eq hs hm, base_eq hs hm hm15, base_eq ht hn hn15]
    have h1 := cntL_take_lt (l.take t) s (m + 1) (by rw [List.length_take]; omega) (by rw [List.getElem_take]; exact hm)
    rw [List.take_take, Nat.min_eq_left (by omega)] at h1
    have h2 := mul_le_r (a := (cntL (l.take s) (m + 1) : Int) + 1) (b := (cntL (l.take t) (m + 1) : Int)) (p := p2 (15 - (m + 1))) (by omega) (by omega)
    rw [Int.add_mul, Int.one_mul] at h2
    omega
end
end Go.Proofs.Ytolappilfjhfaaa
namespace Go.Proofs.Ytolappilfjhfaaa

theorem p2_15 : p2 15 = 32768 := by decide
theorem lensOk_parts {l : List Int} (h : lensOk l = true) : l.length ≤ 300 ∧ (∀ x ∈ l, 0 ≤ x ∧ x ≤ 15) ∧ kraftL l ≤ 32768 := by
  simp only [lensOk, Bool.and_eq_true, decide_eq_true_eq, List.all_eq_true] at h
  exact ⟨h.1.1, h.1.2, h.2⟩
theorem lensOk_of {l : List Int} (h1 : l.length ≤ 300) (h2 : ∀ x ∈ l, 0 ≤ x ∧ x ≤ 15) (h3 : kraftL l ≤ 32768) : lensOk l = true := by
  simp only [lensOk, Bool.and_eq_true, decide_eq_true_eq, List.all_eq_true]
  exact ⟨⟨h1, h2⟩, h3⟩
theorem lens_get {l : List Int} (h : lensOk l = true) {s : Nat} (hs : s < l.length) (h0 : l[s] ≠ 0) : ∃ n : Nat, n < 15 ∧ l[s] = ((n + 1 : Nat) : Int) := by
  have := (lensOk_parts h).2.1 l[s] (List.getElem_mem hs)
  exact ⟨l[s].toNat - 1, by omega, by omega⟩
theorem kraftTo_le {l : List Int} (h : lensOk l = true) (n : Nat) (hn : n ≤ 15) : kraftTo l n ≤ 32768 := by
  have h1 := lensOk_parts h
  have := kraftTo_mono l hn
  rw [kraftTo_15 l h1.2.1] at this
  omega
theorem getD_get {l : List Int} {s n : Nat} (hs : s < l.length) (h : l[s] = (n : Int)) : (l[s]?.getD 0).toNat = n := by rw [List.getElem?_eq_getElem hs, Option.getD_some, h, Int.toNat_natCast]

theorem of_mul_lt {a b p : Int} (hp : 0 < p) (h : a * p < b * p) : a < b := by
  by_cases q : a < b
  · exact q
  · have := mul_le_r (a := b) (b := a) (p := p) (by omega) (by omega); omega
theorem of_mul_le {a b p : Int} (hp : 0 < p) (h : a * p ≤ b * p) : a ≤ b := by
  by_cases q : b < a
  · have h2 := mul_le_r (a := b + 1) (b := a) (p := p) (by omega) (by omega)
    rw [Int.add_mul, Int.one_mul] at h2; omega
  · omega

/-- A first code of n bits, and how many there are, fit into n bits. -/
theorem first_cnt_le {l : List Int} (h : lensOk l = true) {n : Nat} (hn : n < 15) : firstC l (n + 1) + cntL l (n + 1) ≤ p2 (n + 1) := by
  have h1 := kraftTo_le h (n + 1) (by omega)
  rw [kraftTo_succ, ← firstC_kraft l n hn, ← Int.add_mul] at h1
  have h2 : p2 (n + 1) * p2 (15 - (n + 1)) = 32768 := by rw [← p2_add, ← p2_15]; congr 1; omega
  exact of_mul_le (p := p2 (15 - (n + 1))) (by have := p2_pos (15 - (n + 1)); omega) (by rw [h2]; exact h1)
theorem code_lt {l : List Int} (h : lensOk l = true) {s n : Nat} (hs : s < l.length) (hl : l[s] = ((n + 1 : Nat) : Int)) (hn : n < 15) : codeC l s < p2 (n + 1) := by
  have h1 := first_cnt_le h hn
  have h2 := cntL_take_lt l s (n + 1) hs hl
  unfold codeC
  rw [getD_get hs hl]; omega

/-- The bits of the symbol s. -/
def bitsC (l : List Int) (s : Nat) : List Bool := putL (codeC l s) (l[s]?.getD 0).toNat
theorem bitsC_length (l : List Int) (s : Nat) : (bitsC l s).length = (l[s]?.getD 0).toNat := putL_length _ _
theorem takeN_bitsC {l : List Int} (h : lensOk l = true) {s : Nat} (hs : s < l.length) (h0 : l[s] ≠ 0) : takeN (bitsC l s) = codeC l s := by
  obtain ⟨n, hn, hl⟩ := lens_get h hs h0
  unfold bitsC
  rw [getD_get hs hl]
  exact takeN_put (codeC_nonneg l s) (code_lt h hs hl hn)

/-- Does the code of the symbol s stand at p? -/
def hit (l : List Int) (b : List Bool) (p s : Nat) : Bool :=
  decide (0 < (l[s]?.getD 0).toNat ∧ p + (l[s]?.getD 0).toNat ≤ b.length ∧ takeN ((b.drop p).take (l[s]?.getD 0).toNat) = codeC l s)
theorem hit_iff {l : List Int} {b : List Bool} {p s : Nat} : hit l b p s = true ↔ 0 < (l[s]?.getD 0).toNat ∧ p + (l[s]?.getD 0).toNat ≤ b.length ∧ takeN ((b.drop p).take (l[s]?.getD 0).toNat) = codeC l s := by simp [hit]
theorem hit_in {l : List Int} {b : List Bool} {p s : Nat} (h : hit l b p s = true) : ∃ hs : s < l.length, 0 < l[s] := by
  have h1 := (hit_iff.1 h).1
  rcases Nat.lt_or_ge s l.length with q | q
  · refine ⟨q, ?_⟩
    rw [List.getElem?_eq_getElem q, Option.getD_some] at h1
    omega
  · rw [List.getElem?_eq_none q] at h1; simp at h1

/-- A code that stands at a place of fewer bits lies around what stands there of more. -/
theorem hit_base {l : List Int} {b : List Bool} {p s n : Nat} (hs : s < l.length) (hl : l[s] = ((n + 1 : Nat) : Int)) (hn : n < 15) (h : hit l b p s = true) (m : Nat) (hm : n + 1 ≤ m) (hm15 : m ≤ 15) (hb : p + m ≤ b.length) :
    baseC l s ≤ takeN ((b.drop p).take m) * p2 (15 - m) ∧ takeN ((b.drop p).take m) * p2 (15 - m) < endC l s := by
  have h1 := (hit_iff.1 h).2.2
  rw [getD_get hs hl] at h1
  have e : (b.drop p).take m = (b.drop p).take (n + 1) ++ (((b.drop p).take m).drop (n + 1)) := by
    have := (List.take_append_drop (n + 1) ((b.drop p).take m)).symm
    rwa [List.take_take, Nat.min_eq_left hm] at this
  have hlen : (((b.drop p).take m).drop (n + 1)).length = m - (n + 1) := by
    rw [List.length_drop, List.length_take, List.length_drop]; omega
  have hbd := takeN_bd (((b.drop p).take m).drop (n + 1))
  rw [hlen] at hbd
  have hv : takeN ((b.drop p).take m) = codeC l s * p2 (m - (n + 1)) + takeN (((b.drop p).take m).drop (n + 1)) := by
    rw [e, takeN_append, h1, ← e, hlen]
  have hp : p2 (m - (n + 1)) * p2 (15 - m) = p2 (15 - (n + 1)) := by rw [← p2_add]; congr 1; omega
  have hpos := p2_pos (15 - m)
  unfold baseC endC
  rw [getD_get hs hl, hv, Int.add_mul, Int.mul_assoc, hp, Int.add_mul, Int.one_mul]
  have q1 : 0 ≤ takeN (((b.drop p).take m).drop (n + 1)) * p2 (15 - m) := Int.mul_nonneg hbd.1 (by omega)
  have q2 := mul_le_r (a := takeN (((b.drop p).take m).drop (n + 1)) + 1) (b := p2 (m - (n + 1))) (p := p2 (15 - m)) (by omega) (by omega)
  rw [Int.add_mul, Int.one_mul, hp] at q2
  omega
/-- At one place stands the code of one symbol at most. -/
theorem hit_one {l : List Int} (hok : lensOk l = true) {b : List Bool} {p s t : Nat} (hs : hit l b p s = true) (ht : hit l b p t = true) : s = t := by
  have key : ∀ s t m n : Nat, (hsl : s < l.length) → (htl : t < l.length) → l[s] = ((m + 1 : Nat) : Int) → l[t] = ((n + 1 : Nat) : Int) → m < 15 → n < 15 → hit l b p s = true → hit l b p t = true → (m < n ∨ (m = n ∧ s < t)) → False := by
    intro s t m n hsl htl hm hn hm15 hn15 hs ht hlt
    have h1 := apart hsl htl hm hn hm15 hn15 hlt
    have hb := (hit_iff.1 ht).2.1
    rw [getD_get htl hn] at hb
    have h2 := hit_base hsl hm hm15 hs (n + 1) (by omega) (by omega) hb
    have h3 := hit_base htl hn hn15 ht (n + 1) (by omega) (by omega) hb
    have h4 := (hit_iff.1 ht).2.2
    rw [getD_get htl hn] at h4
    have h5 : takeN ((b.drop p).take (n + 1)) * p2 (15 - (n + 1)) = baseC l t := by
      unfold baseC; rw [getD_get htl hn, h4]
    omega
  obtain ⟨hsl, hs0⟩ := hit_in hs
  obtain ⟨htl, ht0⟩ := hit_in ht
  obtain ⟨m, hm15, hm⟩ := lens_get hok hsl (by omega)
  obtain ⟨n, hn15, hn⟩ := lens_get hok htl (by omega)
  rcases Nat.lt_trichotomy s t with q | q | q
  · rcases Nat.lt_or_ge n m with r | r
    · exact (key t s n m htl hsl hn hm hn15 hm15 ht hs (Or.inl r)).elim
    · exact (key s t m n hsl htl hm hn hm15 hn15 hs ht (by omega)).elim
  · exact q
  · rcases Nat.lt_or_ge m n with r | r
    · exact (key s t m n hsl htl hm hn hm15 hn15 hs ht (Or.inl r)).elim
    · exact (key t s n m htl hsl hn hm hn15 hm15 ht hs (by omega)).elim

/-- What is read at a place. -/
def readO (l : List Int) (b : List Bool) (p : Int) : Option Nat := if lensOk l = true ∧ 0 ≤ p then (List.range l.length).find? (hit l b p.toNat) else none
theorem readO_hit {l : List Int} (hok : lensOk l = true) {b : List Bool} {p s : Nat} (h : hit l b p s = true) : readO l b p = some s := by
  unfold readO
  rw [if_pos ⟨hok, by omega⟩, Int.toNat_natCast]
  cases hf : (List.range l.length).find? (hit l b p) with
  | none =>
    have := List.find?_eq_none.1 hf s (List.mem_range.2 (hit_in h).1)
    exact absurd h this
  | some t =>
    have := List.find?_some hf
    rw [hit_one hok this h]
theorem readO_none {l : List Int} {b : List Bool} {p : Nat} (h : ∀ s, hit l b p s = false) : readO l b p = none := by
  unfold readO
  split
  · rw [Int.toNat_natCast]
    exact List.find?_eq_none.2 fun s _ => by rw [h s]; decide
  · rfl
theorem readO_some {l : List Int} {b : List Bool} {p : Int} {s : Nat} (h : readO l b p = some s) : lensOk l = true ∧ 0 ≤ p ∧ hit l b p.toNat s = true := by
  unfold readO at h
  split at h
  · rename_i q; exact ⟨q.1, q.2, List.find?_some h⟩
  · cases h

/-- The i-th of the lengths n. -/
theorem nth_there (l : List Int) (n : Nat) : ∀ i, i < cntL l n → ∃ s, ∃ hs : s < l.length, l[s] = (n : Int) ∧ cntL (l.take s) n = i := by
  have : ∀ k, k ≤ l.length → ∀ i, i < cntL (l.take k) n → ∃ s, ∃ hs : s < l.length, l[s] = (n : Int) ∧ cntL (l.take s) n = i := by
    intro k
    induction k with
    | zero => intro _ i hi; rw [List.take_zero, cntL_nil] at hi; omega
    | succ k ih =>
      intro hk i hi
      have hlt : k < l.length := by omega
      rw [List.take_succ_eq_append_getElem hlt, cntL_snoc] at hi
      by_cases h : i < cntL (l.take k) n
      · exact ih (by omega) i h
      · by_cases hx : l[k] = (n : Int)
        · rw [if_pos hx] at hi
          exact ⟨k, hlt, hx, by omega⟩
        · rw [if_neg hx] at hi; omega
  intro i hi
  exact this l.length (Nat.le_refl _) i (by rwa [List.take_length])

/-- The symbol whose code of n bits stands behind the first one by i. -/
theorem hit_nth {l : List Int} {b : List Bool} {p n i : Nat} (hi : i < cntL l (n + 1)) (hb : p + (n + 1) ≤ b.length) (hc : takeN ((b.drop p).take (n + 1)) = firstC l (n + 1) + i) :
    ∃ s, ∃ hs : s < l.length, l[s] = ((n + 1 : Nat) : Int) ∧ cntL (l.take s) (n + 1) = i ∧ hit l b p s = true := by
  obtain ⟨s, hs, hl, hcn⟩ := nth_there l (n + 1) i hi
  refine ⟨s, hs, hl, hcn, hit_iff.2 ?_⟩
  unfold codeC
  rw [getD_get hs hl, hcn]
  exact ⟨by omega, hb, hc⟩
theorem hit_range {l : List Int} {b : List Bool} {p s n : Nat} (hs : s < l.length) (hl : l[s] = ((n + 1 : Nat) : Int)) (h : hit l b p s = true) :
    firstC l (n + 1) ≤ takeN ((b.drop p).take (n + 1)) ∧ takeN ((b.drop p).take (n + 1)) < firstC l (n + 1) + cntL l (n + 1) := by
  have h1 := (hit_iff.1 h).2.2
  have h2 := cntL_take_lt l s (n + 1) hs hl
  unfold codeC at h1
  rw [getD_get hs hl] at h1
  omega

/-- What is written is read. -/
theorem hit_written {l : List Int} (hok : lensOk l = true) {s : Nat} (hs : s < l.length) (h0 : l[s] ≠ 0) (pre more : List Bool) : hit l (pre ++ (bitsC l s ++ more)) pre.length s = true := by
  obtain ⟨n, hn, hl⟩ := lens_get hok hs h0
  have e : (l[s]?.getD 0).toNat = (bitsC l s).length := (bitsC_length l s).symm
  refine hit_iff.2 ⟨by rw [getD_get hs hl]; omega, by simp only [List.length_append, e]; omega, ?_⟩
  rw [List.drop_left, e, List.take_left]
  exact takeN_bitsC hok hs h0
/-- No code begins with another one. -/
theorem no_prefix {l : List Int} (hok : lensOk l = true) {s t : Nat} (hs : s < l.length) (h0 : l[s] ≠ 0) (ht : t < l.length) (h1 : l[t] ≠ 0) (hp : (bitsC l t).take (bitsC l s).length = bitsC l s) : s = t := by
  have a := hit_written hok ht h1 [] []
  rw [List.append_nil, List.nil_append] at a
  have b := hit_written hok hs h0 [] ((bitsC l t).drop (bitsC l s).length)
  rw [List.nil_append] at b
  have e : bitsC l s ++ (bitsC l t).drop (bitsC l s).length = bitsC l t := by
    have := List.take_append_drop (bitsC l s).length (bitsC l t)
    rwa [hp] at this
  rw [e] at b
  exact hit_one hok b a

/-- If the codes fill all there is, each row of 15 bits begins with one. -/
theorem full_hit {l : List Int} (hok : lensOk l = true) (hk : kraftL l = 32768) (b : List Bool) (hb : b.length = 15) : ∃ s, ∃ hs : s < l.length, hit l b 0 s = true ∧ 0 < l[s] ∧ l[s] ≤ 15 := by
  have hv := takeN_bd b
  rw [hb, p2_15] at hv
  have h15 : kraftTo l 15 = 32768 := by rw [kraftTo_15 l (lensOk_parts hok).2.1, hk]
  have key : ∀ n, n ≤ 15 → takeN b < kraftTo l n → ∃ m, m < n ∧ kraftTo l m ≤ takeN b ∧ takeN b < kraftTo l (m + 1) := by
    intro n
    induction n with
    | zero => intro _ h; have : kraftTo l 0 = 0 := rfl; omega
    | succ n ih =>
      intro hn h
      by_cases q : takeN b < kraftTo l n
      · obtain ⟨m, h1, h2⟩ := ih (by omega) q
        exact ⟨m, by omega, h2⟩
      · exact ⟨n, by omega, by omega, h⟩
  obtain ⟨m, hm, h1, h2⟩ := key 15 (Nat.le_refl _) (by omega)
  rw [kraftTo_succ, ← firstC_kraft l m hm, ← Int.add_mul] at h2
  rw [← firstC_kraft l m hm] at h1
  have e : b = b.take (m + 1) ++ b.drop (m + 1) := (List.take_append_drop _ _).symm
  have hlen : (b.drop (m + 1)).length = 15 - (m + 1) := by rw [List.length_drop, hb]
  have hvv : takeN b = takeN (b.take (m + 1)) * p2 (15 - (m + 1)) + takeN (b.drop (m + 1)) := by
    have := takeN_append (b.take (m + 1)) (b.drop (m + 1))
    rwa [← e, hlen] at this
  have hbd := takeN_bd (b.drop (m + 1))
  rw [hlen] at hbd
  have hp := p2_pos (15 - (m + 1))
  have q1 : firstC l (m + 1) ≤ takeN (b.take (m + 1)) := by
    have : firstC l (m + 1) * p2 (15 - (m + 1)) < (takeN (b.take (m + 1)) + 1) * p2 (15 - (m + 1)) := by rw [Int.add_mul, Int.one_mul]; omega
    have := of_mul_lt (by omega) this
    omega
  have q2 : takeN (b.take (m + 1)) < firstC l (m + 1) + cntL l (m + 1) := by
    exact of_mul_lt (p := p2 (15 - (m + 1))) (by omega) (by omega)
  obtain ⟨s, hs, hl, _, hh⟩ := hit_nth (l := l) (b := b) (p := 0) (n := m) (i := (takeN (b.take (m + 1)) - firstC l (m + 1)).toNat) (by omega) (by omega) (by rw [List.drop_zero]; omega)
  exact ⟨s, hs, hh, by omega, by omega⟩
theorem takeN_ones (n : Nat) : takeN (List.replicate n true) = p2 n - 1 := by
  induction n with
  | zero => rfl
  | succ n ih => rw [List.replicate_succ, takeN_cons, ih, List.length_replicate, p2_succ]; simp; omega
/-- Else 15 bits 1 begin with none. -/
theorem ones_none {l : List Int} (hok : lensOk l = true) (hk : kraftL l ≠ 32768) (s : Nat) : hit l (List.replicate 15 true) 0 s = false := by
  cases hh : hit l (List.replicate 15 true) 0 s with
  | false => rfl
  | true =>
    exfalso
    obtain ⟨hs, h0⟩ := hit_in hh
    obtain ⟨n, hn, hl⟩ := lens_get hok hs (by omega)
    have h1 := (hit_iff.1 hh).2.2
    rw [getD_get hs hl, List.drop_zero, List.take_replicate, Nat.min_eq_left (by omega), takeN_ones] at h1
    have h2 := end_le hs hl hn
    unfold endC at h2
    rw [getD_get hs hl, ← h1, show p2 (n + 1) - 1 + 1 = p2 (n + 1) by omega, ← p2_add, show n + 1 + (15 - (n + 1)) = 15 by omega, p2_15] at h2
    have h3 := kraftTo_mono l (show n + 1 ≤ 15 by omega)
    rw [kraftTo_15 l (lensOk_parts hok).2.1] at h3
    have := (lensOk_parts hok).2.2
    omega

/-- Codes of one length rise with the symbols. -/
theorem code_rises {l : List Int} {s t n : Nat} (hs : s < l.length) (ht : t < l.length) (hm : l[s] = ((n + 1 : Nat) : Int)) (hn : l[t] = ((n + 1 : Nat) : Int)) : codeC l s < codeC l t ↔ s < t := by
  have key : ∀ s t : Nat, (hs : s < l.length) → l[s] = ((n + 1 : Nat) : Int) → s < t → cntL (l.take s) (n + 1) < cntL (l.take t) (n + 1) := by
    intro s t hs hm hlt
    have h1 := cntL_mono l (show s + 1 ≤ t from hlt) (n := n + 1)
    rw [List.take_succ_eq_append_getElem hs, cntL_snoc, if_pos hm] at h1
    omega
  unfold codeC
  rw [getD_get hs hm, getD_get ht hn]
  constructor
  · intro h
    rcases Nat.lt_trichotomy s t with q | q | q
    · exact q
    · subst q; omega
    · have := key t s ht hn q; omega
  · intro h
    have := key s t hs hm h
    omega
/-- A longer code, cut, is above. -/
theorem code_above {l : List Int} {s t m n : Nat} (hs : s < l.length) (ht : t < l.length) (hm : l[s] = ((m + 1 : Nat) : Int)) (hn : l[t] = ((n + 1 : Nat) : Int)) (hm15 : m < 15) (hn15 : n < 15) (hlt : m < n) : codeC l s < codeC l t / p2 (n - m) := by
  have h1 := apart hs ht hm hn hm15 hn15 (Or.inl hlt)
  unfold endC baseC at h1
  rw [getD_get hs hm, getD_get ht hn, show 15 - (m + 1) = (n - m) + (15 - (n + 1)) by omega, p2_add, ← Int.mul_assoc] at h1
  have h2 := of_mul_le (p := p2 (15 - (n + 1))) (by have := p2_pos (15 - (n + 1)); omega) h1
  have h3 := (Int.le_ediv_iff_mul_le (by have := p2_pos (n - m); omega)).2 h2
  omega
end Go.Proofs.Ytolappilfjhfaaa
namespace Go.Proofs.Ytolappilfjhfaaa

/-- A symbol, or two trees that were put together. -/
inductive HT where
  | leaf (w : Int) (n : Nat)
  | node (l r : HT)

def wt : HT → Int
  | .leaf w _ => w
  | .node l r => wt l + wt r
def nm : HT → Nat
  | .leaf _ n => n
  | .node l r => min (nm l) (nm r)
def syms : HT → List Nat
  | .leaf _ n => [n]
  | .node l r => syms l ++ syms r
/-- Is a ahead of b? -/
def ltT (a b : HT) : Bool := decide (wt a < wt b ∨ (wt a = wt b ∧ nm a < nm b))
theorem ltT_iff {a b : HT} : ltT a b = true ↔ (wt a < wt b ∨ (wt a = wt b ∧ nm a < nm b)) := by simp [ltT]
theorem ltT_not {a b : HT} : ltT a b = false ↔ (wt b < wt a ∨ (wt a = wt b ∧ nm b ≤ nm a)) := by
  rw [ltT, decide_eq_false_iff_not]; omega
/-- b is not ahead of a. -/
def leT (a b : HT) : Prop := ltT b a = false
theorem leT_refl (a : HT) : leT a a := ltT_not.2 (by omega)
theorem leT_trans {a b c : HT} (h : leT a b) (k : leT b c) : leT a c := by
  have h1 := ltT_not.1 h
  have h2 := ltT_not.1 k
  exact ltT_not.2 (by omega)
theorem leT_of_lt {a b : HT} (h : ltT a b = true) : leT a b := by
  have := ltT_iff.1 h
  exact ltT_not.2 (by omega)
theorem leT_wt {a b : HT} (h : leT a b) : wt a ≤ wt b := by
  have := ltT_not.1 h; omega
theorem leT_antisymm {a b : HT} (h : leT a b) (k : leT b a) : nm a = nm b := by
  have h1 := ltT_not.1 h
  have h2 := ltT_not.1 k
  omega

/-- The trees F are put together to T. -/
inductive Red : List HT → HT → Prop where
  | one (t : HT) : Red [t] t
  | step {F : List HT} {a b : HT} {R : List HT} {T : HT} (hp : F.Perm (a :: b :: R)) (ha : ∀ x ∈ b :: R, leT a x) (hb : ∀ x ∈ R, leT b x) (h : Red (.node a b :: R) T) : Red F T

/-- No two trees have one number. -/
def Apart (F : List HT) : Prop := (F.map nm).Nodup
theorem apart_perm {F G : List HT} (h : F.Perm G) : Apart F → Apart G := (h.map nm).nodup_iff.1
theorem apart_node {a b : HT} {R : List HT} (h : Apart (a :: b :: R)) : Apart (.node a b :: R) := by
  unfold Apart at *
  simp only [List.map_cons, List.nodup_cons, List.mem_cons, not_or] at h ⊢
  obtain ⟨⟨h1, h2⟩, h3, h4⟩ := h
  refine ⟨?_, h4⟩
  rcases Nat.le_total (nm a) (nm b) with q | q
  · rw [show nm (.node a b) = nm a from Nat.min_eq_left q]; exact h2
  · rw [show nm (.node a b) = nm b from Nat.min_eq_right q]; exact h3
theorem apart_eq {F : List HT} (h : Apart F) {a b : HT} (ha : a ∈ F) (hb : b ∈ F) (e : nm a = nm b) : a = b := by
  unfold Apart at h
  induction F with
  | nil => cases ha
  | cons x F ih =>
    simp only [List.map_cons, List.nodup_cons, List.mem_map, not_exists, not_and] at h
    rcases List.mem_cons.1 ha with ha1 | ha1 <;> rcases List.mem_cons.1 hb with hb1 | hb1
    · rw [ha1, hb1]
    · rw [ha1] at e; exact absurd e.symm (h.1 _ hb1)
    · rw [hb1] at e; exact absurd e (h.1 _ ha1)
    · exact ih h.2 ha1 hb1
theorem least_eq {F : List HT} (h : Apart F) {a b : HT} (ha : a ∈ F) (hb : b ∈ F) (la : ∀ x ∈ F, leT a x) (lb : ∀ x ∈ F, leT b x) : a = b :=
  apart_eq h ha hb (leT_antisymm (la b hb) (lb a ha))

theorem least_all {a : HT} {G : List HT} (h : ∀ x ∈ G, leT a x) : ∀ x ∈ a :: G, leT a x := fun x hx => by
  rcases List.mem_cons.1 hx with rfl | hx
  · exact leT_refl _
  · exact h x hx
/-- What trees are put together to is told by the trees, in whatever order. -/
theorem red_det {F : List HT} {T : HT} (h : Red F T) : ∀ {G : List HT} {T' : HT}, F.Perm G → Apart F → Red G T' → T = T' := by
  induction h with
  | one t =>
    intro G T' hp _ h'
    obtain rfl := List.perm_singleton.1 hp.symm
    cases h' with
    | one => rfl
    | step hp2 => have := hp2.length_eq; simp at this
  | @step F a b R T hp ha hb h ih =>
    intro G T' hpg hap h'
    cases h' with
    | one t => have := (hp.symm.trans hpg).length_eq; simp at this
    | @step _ a' b' R' _ hp' ha' hb' h'' =>
      have hpp : (a :: b :: R).Perm (a' :: b' :: R') := hp.symm.trans (hpg.trans hp')
      have hA := apart_perm hp hap
      have hA' := apart_perm hpp hA
      have e1 : a = a' := least_eq hA (List.mem_cons_self ..) (hpp.mem_iff.2 (List.mem_cons_self ..)) (least_all ha) (fun x hx => least_all ha' x (hpp.mem_iff.1 hx))
      subst e1
      have hpp2 := hpp.cons_inv
      have hA2 : Apart (b :: R) := (List.nodup_cons.1 (show ((nm a) :: (b :: R).map nm).Nodup from hA)).2
      have e2 : b = b' := least_eq hA2 (List.mem_cons_self ..) (hpp2.mem_iff.2 (List.mem_cons_self ..)) (least_all hb) (fun x hx => least_all hb' x (hpp2.mem_iff.1 hx))
      subst e2
      exact ih (hpp2.cons_inv.cons _) (apart_node hA) h''
theorem red_perm {F G : List HT} {T : HT} (h : Red F T) (hp : G.Perm F) : Red G T := by
  cases h with
  | one t => obtain rfl := List.perm_singleton.1 hp; exact .one _
  | step hp2 ha hb h => exact .step (hp.trans hp2) ha hb h

/-- The depth of each symbol, laid into a list. -/
def markL : HT → Int → List Int → List Int
  | .leaf _ n, d, L => L.set n d
  | .node l r, d, L => markL r (d + 1) (markL l (d + 1) L)
theorem markL_length (t : HT) : ∀ d L, (markL t d L).length = L.length := by
  induction t with
  | leaf w n => intro d L; simp [markL]
  | node l r ihl ihr => intro d L; rw [markL, ihr, ihl]
theorem markL_other (t : HT) : ∀ d L s, s ∉ syms t → (markL t d L)[s]? = L[s]? := by
  induction t with
  | leaf w n =>
    intro d L s hs
    rw [markL, List.getElem?_set_ne]
    intro e; exact hs (by rw [syms, e]; exact List.mem_singleton.2 rfl)
  | node l r ihl ihr =>
    intro d L s hs
    rw [syms, List.mem_append, not_or] at hs
    rw [markL, ihr _ _ _ hs.2, ihl _ _ _ hs.1]

/-- Symbols that are there, as trees. -/
def initT (f : List Int) : List HT := (List.range f.length).filterMap fun i => if 0 < f[i]?.getD 0 then some (.leaf (f[i]?.getD 0) i) else none
theorem initT_mem {f : List Int} {t : HT} : t ∈ initT f ↔ ∃ i, ∃ hi : i < f.length, 0 < f[i] ∧ t = .leaf f[i] i := by
  unfold initT
  rw [List.mem_filterMap]
  constructor
  · rintro ⟨i, hi, h⟩
    have hi' := List.mem_range.1 hi
    rw [List.getElem?_eq_getElem hi', Option.getD_some] at h
    split at h
    · rename_i h0; injection h with h; exact ⟨i, hi', h0, h.symm⟩
    · cases h
  · rintro ⟨i, hi, h0, rfl⟩
    exact ⟨i, List.mem_range.2 hi, by rw [List.getElem?_eq_getElem hi, Option.getD_some, if_pos h0]⟩
/-- .. of the first k. -/
def initTo (f : List Int) (k : Nat) : List HT := (List.range k).filterMap fun i => if 0 < f[i]?.getD 0 then some (.leaf (f[i]?.getD 0) i) else none
theorem initTo_zero (f : List Int) : initTo f 0 = [] := rfl
theorem initTo_all (f : List Int) : initTo f f.length = initT f := rfl
theorem initTo_yes {f : List Int} {k : Nat} (hk : k < f.length) (h : 0 < f[k]) : initTo f (k + 1) = initTo f k ++ [.leaf f[k] k] := by
  unfold initTo
  rw [List.range_succ, List.filterMap_append]
  simp [List.getElem?_eq_getElem hk, h]
theorem initTo_no {f : List Int} {k : Nat} (hk : k < f.length) (h : ¬ 0 < f[k]) : initTo f (k + 1) = initTo f k := by
  unfold initTo
  rw [List.range_succ, List.filterMap_append]
  simp [List.getElem?_eq_getElem hk, h]
theorem initTo_le (f : List Int) (k : Nat) : (initTo f k).length ≤ k := by
  unfold initTo
  have := List.length_filterMap_le (fun i => if 0 < f[i]?.getD 0 then some (HT.leaf (f[i]?.getD 0) i) else none) (List.range k)
  rwa [List.length_range] at this
theorem initTo_syms (f : List Int) : ∀ k, ((initTo f k).flatMap syms).Nodup ∧ ∀ s ∈ (initTo f k).flatMap syms, s < k := by
  intro k
  induction k with
  | zero => exact ⟨List.nodup_nil, fun s hs => by cases hs⟩
  | succ k ih =>
    have e : initTo f (k + 1) = initTo f k ++ (if 0 < f[k]?.getD 0 then [.leaf (f[k]?.getD 0) k] else []) := by
      unfold initTo
      rw [List.range_succ, List.filterMap_append]
      by_cases h : 0 < f[k]?.getD 0 <;> simp [h]
    rw [e, List.flatMap_append]
    by_cases h : 0 < f[k]?.getD 0
    · rw [if_pos h]
      have e2 : ([HT.leaf (f[k]?.getD 0) k]).flatMap syms = [k] := rfl
      rw [e2]
      refine ⟨List.nodup_append.2 ⟨ih.1, by simp, fun a ha b hb => ?_⟩, fun s hs => ?_⟩
      · rw [List.mem_singleton.1 hb]; have := ih.2 a ha; omega
      · rcases List.mem_append.1 hs with h | h
        · have := ih.2 s h; omega
        · rw [List.mem_singleton.1 h]; omega
    · rw [if_neg h]
      simp only [List.flatMap_nil, List.append_nil]
      exact ⟨ih.1, fun s hs => by have := ih.2 s hs; omega⟩
theorem initT_syms (f : List Int) : ((initT f).flatMap syms).Nodup ∧ ∀ s ∈ (initT f).flatMap syms, s < f.length := initTo_syms f f.length
theorem initT_nm (f : List Int) : (initT f).map nm = (initT f).flatMap syms := by
  have : ∀ G : List HT, (∀ t ∈ G, ∃ w n, t = .leaf w n) → G.map nm = G.flatMap syms := by
    intro G
    induction G with
    | nil => intro _; rfl
    | cons t G ih =>
      intro h
      obtain ⟨w, n, rfl⟩ := h t (List.mem_cons_self ..)
      rw [List.map_cons, List.flatMap_cons, ih (fun t ht => h t (List.mem_cons_of_mem _ ht))]
      rfl
  exact this _ fun t ht => by obtain ⟨i, _, _, rfl⟩ := initT_mem.1 ht; exact ⟨_, _, rfl⟩
theorem initT_apart (f : List Int) : Apart (initT f) := by
  unfold Apart; rw [initT_nm]; exact (initT_syms f).1

theorem flat_perm {F G : List HT} (h : F.Perm G) : (F.flatMap syms).Perm (G.flatMap syms) := h.flatMap_right syms
theorem flat_node (a b : HT) (R : List HT) : (HT.node a b :: R).flatMap syms = (a :: b :: R).flatMap syms := by simp [syms]
/-- The symbols of what is put together are those of the trees. -/
theorem red_syms {F : List HT} {T : HT} (h : Red F T) : (syms T).Perm (F.flatMap syms) := by
  induction h with
  | one t => simp
  | step hp _ _ _ ih =>
    rw [flat_node] at ih
    exact ih.trans (flat_perm hp).symm
theorem red_node {F : List HT} {T : HT} (h : Red F T) (h2 : 2 ≤ F.length) : ∃ l r, T = .node l r := by
  have key : ∀ {F : List HT} {T : HT}, Red F T → (∀ t ∈ F, True) → (2 ≤ F.length ∨ ∃ l r, F = [.node l r]) → ∃ l r, T = .node l r := by
    intro F T h
    induction h with
    | one t =>
      intro _ h
      rcases h with h | ⟨l, r, h⟩
      · simp at h
      · injection h with h _; exact ⟨l, r, h⟩
    | @step F a b R T hp _ _ _ ih =>
      intro _ _
      apply ih (fun _ _ => trivial)
      rcases R with _ | ⟨c, R⟩
      · right; exact ⟨a, b, rfl⟩
      · left; simp
  exact key h (fun _ _ => trivial) (Or.inl h2)

/-- What f, put together once, gives: the depths of the symbols. -/
def OnceR (f L : List Int) : Prop :=
  (initT f = [] ∧ L = List.replicate f.length 0) ∨ (∃ w n, initT f = [.leaf w n] ∧ L = (List.replicate f.length 0).set n 1) ∨
  (2 ≤ (initT f).length ∧ ∃ T, Red (initT f) T ∧ L = markL T 0 (List.replicate f.length 0))
theorem onceR_length {f L : List Int} (h : OnceR f L) : L.length = f.length := by
  rcases h with ⟨_, rfl⟩ | ⟨_, _, _, rfl⟩ | ⟨_, _, _, rfl⟩
  · simp
  · simp
  · rw [markL_length]; simp
theorem onceR_det {f L L' : List Int} (h : OnceR f L) (h' : OnceR f L') : L = L' := by
  rcases h with ⟨h1, rfl⟩ | ⟨w, n, h1, rfl⟩ | ⟨h1, T, hT, rfl⟩ <;> rcases h' with ⟨k1, rfl⟩ | ⟨w', n', k1, rfl⟩ | ⟨k1, T', hT', rfl⟩
  · rfl
  · rw [h1] at k1; cases k1
  · rw [h1] at k1; simp at k1
  · rw [h1] at k1; cases k1
  · rw [h1] at k1; injection k1 with k1 _; injection k1 with _ k2; rw [k2]
  · rw [h1] at k1; simp at k1
  · rw [k1] at h1; simp at h1
  · rw [k1] at h1; simp at h1
  · rw [red_det hT (List.Perm.refl _) (initT_apart f) hT']
end Go.Proofs.Ytolappilfjhfaaa
namespace Go.Proofs.Ytolappilfjhfaaa

/-- The place above. -/
def par (i : Nat) : Nat := (i - 1) / 2
theorem par_lt {i : Nat} (h : 0 < i) : par i < i := by unfold par; omega
/-- The tree at a place (any one where there is none). -/
def atT (A : List HT) (i : Nat) : HT := A[i]?.getD (.leaf 0 0)
theorem atT_get {A : List HT} {i : Nat} (h : i < A.length) : atT A i = A[i] := by unfold atT; rw [List.getElem?_eq_getElem h, Option.getD_some]
/-- The first n trees stand as a heap. -/
def Heap (A : List HT) (n : Nat) : Prop := ∀ i, 0 < i → i < n → leT (atT A (par i)) (atT A i)
/-- .. but for the one at j, which may be too far down. -/
def HeapUp (A : List HT) (n j : Nat) : Prop := (∀ i, 0 < i → i < n → i ≠ j → leT (atT A (par i)) (atT A i)) ∧ (∀ i, 0 < i → i < n → par i = j → 0 < j → leT (atT A (par j)) (atT A i))
/-- .. but for the one at j, which may be too far up. -/
def HeapDn (A : List HT) (n j : Nat) : Prop := (∀ i, 0 < i → i < n → par i ≠ j → leT (atT A (par i)) (atT A i)) ∧ (∀ i, 0 < i → i < n → par i = j → 0 < j → leT (atT A (par j)) (atT A i))

/-- Two trees change places. -/
def swapT (A : List HT) (i j : Nat) : List HT := (A.set i (atT A j)).set j (atT A i)
theorem swapT_length (A : List HT) (i j : Nat) : (swapT A i j).length = A.length := by simp [swapT]
theorem swapT_at {A : List HT} {i j : Nat} (hi : i < A.length) (hj : j < A.length) (k : Nat) : atT (swapT A i j) k = if k = j then atT A i else if k = i then atT A j else atT A k := by
  have e : ∀ (B : List HT) (x : Nat) (t : HT), x < B.length → atT (B.set x t) k = if k = x then t else atT B k := by
    intro B x t hx
    unfold atT
    by_cases h : k = x
    · subst h; rw [if_pos rfl, List.getElem?_set_self hx, Option.getD_some]
    · rw [if_neg h, List.getElem?_set_ne (by omega)]
  unfold swapT
  rw [e _ _ _ (by simpa using hj), e _ _ _ hi]
theorem swapT_perm {A : List HT} {i j : Nat} (hi : i < A.length) (hj : j < A.length) : (swapT A i j).Perm A := by
  have h := List.set_set_perm (i := i) (j := j) hi hj
  unfold swapT
  rw [atT_get hi, atT_get hj]
  exact h
theorem up_step {A : List HT} {n j : Nat} (hn : n ≤ A.length) (hj : j < n) (hj0 : 0 < j) (h : HeapUp A n j) (hl : ltT (atT A j) (atT A (par j)) = true) : HeapUp (swapT A (par j) j) n (par j) := by
  have hp := par_lt hj0
  have at' := swapT_at (A := A) (i := par j) (j := j) (by omega) (by omega)
  have hlt := leT_of_lt hl
  constructor
  · intro i h0 hi hne
    rw [at' i, at' (par i)]
    by_cases e : i = j
    · subst e
      rw [if_pos rfl, if_neg (by omega), if_pos rfl]
      exact hlt
    · rw [if_neg e, if_neg hne]
      by_cases e2 : par i = j
      · rw [if_pos e2]
        have := h.2 i h0 hi e2 hj0
        exact this
      · rw [if_neg e2]
        by_cases e3 : par i = par j
        · rw [if_pos e3]
          have := h.1 i h0 hi e
          rw [e3] at this
          exact leT_trans hlt this
        · rw [if_neg e3]
          exact h.1 i h0 hi e
  · intro i h0 hi hpi hj'
    rw [at' i, at' (par (par j))]
    have hpp := par_lt hj'
    rw [if_neg (by omega), if_neg (by omega)]
    have hpar := h.1 (par j) hj' (by omega) (by omega)
    by_cases e : i = j
    · subst e
      rw [if_pos rfl]
      exact hpar
    · have hip := par_lt h0
      rw [if_neg e, if_neg (by omega)]
      have := h.1 i h0 hi e
      rw [hpi] at this
      exact leT_trans hpar this
theorem up_end {A : List HT} {n j : Nat} (h : HeapUp A n j) (hl : j = 0 ∨ ltT (atT A j) (atT A (par j)) = false) : Heap A n := by
  intro i h0 hi
  by_cases e : i = j
  · subst e
    rcases hl with hl | hl
    · omega
    · exact hl
  · exact h.1 i h0 hi e
theorem up_start {A : List HT} {t : HT} (h : Heap A A.length) : HeapUp (A ++ [t]) (A.length + 1) A.length := by
  have e : ∀ k, k < A.length → atT (A ++ [t]) k = atT A k := fun k hk => by unfold atT; rw [List.getElem?_append_left hk]
  constructor
  · intro i h0 hi hne
    have := par_lt h0
    rw [e i (by omega), e (par i) (by omega)]
    exact h i h0 (by omega)
  · intro i h0 hi hp _
    have := par_lt h0
    omega

/-- The children of a place. -/
theorem par_child {i j : Nat} (h : 0 < i) (hp : par i = j) : i = 2 * j + 1 ∨ i = 2 * j + 2 := by unfold par at hp; omega
theorem par_left (j : Nat) : par (2 * j + 1) = j := by unfold par; omega
theorem par_right (j : Nat) : par (2 * j + 2) = j := by unfold par; omega
theorem dn_step {A : List HT} {n j c : Nat} (hn : n ≤ A.length) (hj : j < n) (hc : c < n) (hpc : par c = j) (hc0 : 0 < c) (h : HeapDn A n j) (hmin : ∀ i, 0 < i → i < n → par i = j → leT (atT A c) (atT A i)) (hl : ltT (atT A c) (atT A j) = true) : HeapDn (swapT A j c) n c := by
  have hlt := leT_of_lt hl
  have hpl := par_lt hc0
  have at' := swapT_at (A := A) (i := j) (j := c) (by omega) (by omega)
  constructor
  · intro i h0 hi hne
    rw [at' i, at' (par i), if_neg (by omega : par i ≠ c)]
    by_cases e : i = c
    · subst e
      rw [if_pos rfl, if_pos hpc]
      exact hlt
    · rw [if_neg e]
      by_cases e2 : par i = j
      · rw [if_pos e2]
        have hip := par_lt h0
        rw [if_neg (by omega)]
        exact hmin i h0 hi e2
      · rw [if_neg e2]
        by_cases e3 : i = j
        · subst e3
          rw [if_pos rfl]
          exact h.2 c hc0 hc hpc h0
        · rw [if_neg e3]
          exact h.1 i h0 hi e2
  · intro i h0 hi hp _
    have hip := par_lt h0
    rw [at' i, at' (par c), hpc, if_neg (by omega : ¬ j = c), if_pos rfl, if_neg (by omega), if_neg (by omega)]
    have := h.1 i h0 hi (by omega)
    rw [hp] at this
    exact this
theorem dn_end {A : List HT} {n j : Nat} (h : HeapDn A n j) (hl : ∀ i, 0 < i → i < n → par i = j → leT (atT A j) (atT A i)) : Heap A n := by
  intro i h0 hi
  by_cases e : par i = j
  · rw [e]; exact hl i h0 hi e
  · exact h.1 i h0 hi e
/-- The first one of a heap is least. -/
theorem heap_min {A : List HT} {n : Nat} (h : Heap A n) : ∀ i, i < n → leT (atT A 0) (atT A i) := by
  intro i
  induction i using Nat.strongRecOn with
  | ind i ih =>
    intro hi
    by_cases h0 : i = 0
    · subst h0; exact leT_refl _
    · have := par_lt (by omega : 0 < i)
      exact leT_trans (ih (par i) this (by omega)) (h i (by omega) hi)
theorem dn_start {A : List HT} {n : Nat} (hA : A.length = n + 1) (h : Heap A (n + 1)) : HeapDn (swapT A 0 n) n 0 := by
  have at' := swapT_at (A := A) (i := 0) (j := n) (by omega) (by omega)
  constructor
  · intro i h0 hi hne
    have := par_lt h0
    rw [at' i, at' (par i), if_neg (by omega : ¬ par i = n), if_neg hne, if_neg (by omega : ¬ i = n), if_neg (by omega : ¬ i = 0)]
    exact h i h0 (by omega)
  · intro i _ _ _ h; omega
end Go.Proofs.Ytolappilfjhfaaa
namespace Go.Proofs.Ytolappilfjhfaaa

def heightT : HT → Nat
  | .leaf _ _ => 0
  | .node l r => max (heightT l) (heightT r) + 1
def fb : Nat → Int
  | 0 => 1
  | 1 => 2
  | n + 2 => fb (n + 1) + fb n
theorem fb_pos : ∀ n, 1 ≤ fb n ∧ fb n ≤ fb (n + 1) := by
  intro n
  induction n with
  | zero => decide
  | succ n ih => exact ⟨by omega, by show fb (n + 1) ≤ fb (n + 1) + fb n; omega⟩
theorem fb_mono {m n : Nat} (h : m ≤ n) : fb m ≤ fb n := by
  induction n with
  | zero => obtain rfl : m = 0 := by omega
            exact Int.le_refl _
  | succ n ih =>
    by_cases e : m = n + 1
    · subst e; exact Int.le_refl _
    · have := ih (by omega); have := (fb_pos n).2; omega
theorem fb_16 : fb 16 = 2584 := by decide
/-- The weight of the heavier part. -/
def mc : HT → Int
  | .leaf _ _ => 0
  | .node l r => max (wt l) (wt r)
def OkT (t : HT) : Prop := 0 < wt t ∧ fb (heightT t) ≤ wt t ∧ (1 ≤ heightT t → fb (heightT t - 1) ≤ mc t)
def Far (t u : HT) : Prop := mc t ≤ wt u ∧ mc u ≤ wt t
def OkF (F : List HT) : Prop := (∀ t ∈ F, OkT t) ∧ F.Pairwise Far
theorem okF_perm {F G : List HT} (h : F.Perm G) (hF : OkF F) : OkF G :=
  ⟨fun t ht => hF.1 t (h.mem_iff.2 ht), (h.pairwise_iff fun hab => ⟨hab.2, hab.1⟩).1 hF.2⟩
theorem okT_node {a b : HT} (ha : OkT a) (hb : OkT b) (hf : Far a b) : OkT (.node a b) := by
  obtain ⟨a1, a2, a3⟩ := ha
  obtain ⟨b1, b2, b3⟩ := hb
  have key : ∀ x y : HT, 0 < wt x → fb (heightT x) ≤ wt x → (1 ≤ heightT x → fb (heightT x - 1) ≤ mc x) → 0 < wt y → mc x ≤ wt y → fb (heightT x + 1) ≤ wt x + wt y := by
    intro x y x1 x2 x3 y1 hxy
    cases hh : heightT x with
    | zero => have : fb (0 + 1) = 2 := rfl; omega
    | succ n =>
      have h3 := x3 (by omega)
      rw [hh, Nat.add_sub_cancel] at h3
      rw [hh] at x2
      show fb (n + 1) + fb n ≤ _
      omega
  refine ⟨by show 0 < wt a + wt b; omega, ?_, fun _ => ?_⟩
  · show fb (max (heightT a) (heightT b) + 1) ≤ wt a + wt b
    rcases Nat.le_total (heightT a) (heightT b) with h | h
    · rw [Nat.max_eq_right h]
      have := key b a b1 b2 b3 a1 hf.2; omega
    · rw [Nat.max_eq_left h]
      exact key a b a1 a2 a3 b1 hf.1
  · show fb (max (heightT a) (heightT b) + 1 - 1) ≤ max (wt a) (wt b)
    rw [Nat.add_sub_cancel]
    rcases Nat.le_total (heightT a) (heightT b) with h | h
    · rw [Nat.max_eq_right h]; omega
    · rw [Nat.max_eq_left h]; omega
theorem red_ok {F : List HT} {T : HT} (h : Red F T) : OkF F → OkT T := by
  induction h with
  | one t => intro h; exact h.1 t (List.mem_singleton.2 rfl)
  | @step F a b R T hp ha hb _ ih =>
    intro hF
    have hG := okF_perm hp hF
    obtain ⟨h1, h2⟩ := hG
    have oa := h1 a (List.mem_cons_self ..)
    have ob := h1 b (List.mem_cons_of_mem _ (List.mem_cons_self ..))
    have p1 := List.pairwise_cons.1 h2
    have p2 := List.pairwise_cons.1 p1.2
    apply ih
    refine ⟨fun t ht => ?_, List.pairwise_cons.2 ⟨fun u hu => ?_, p2.2⟩⟩
    · rcases List.mem_cons.1 ht with rfl | ht
      · exact okT_node oa ob (p1.1 b (List.mem_cons_self ..))
      · exact h1 t (List.mem_cons_of_mem _ (List.mem_cons_of_mem _ ht))
    · have q1 := leT_wt (ha u (List.mem_cons_of_mem _ hu))
      have q2 := leT_wt (hb u hu)
      have q3 := (p1.1 u (List.mem_cons_of_mem _ hu)).2
      have := oa.1
      have := ob.1
      exact ⟨by show max (wt a) (wt b) ≤ wt u; omega, by show mc u ≤ wt a + wt b; omega⟩
theorem initT_ok (f : List Int) : OkF (initT f) := by
  have hl : ∀ t ∈ initT f, 0 < wt t ∧ heightT t = 0 ∧ mc t = 0 := fun t ht => by
    obtain ⟨i, _, h, rfl⟩ := initT_mem.1 ht
    exact ⟨h, rfl, rfl⟩
  refine ⟨fun t ht => ?_, ?_⟩
  · obtain ⟨h1, h2, h3⟩ := hl t ht
    refine ⟨h1, by rw [h2]; show 1 ≤ wt t; omega, fun h => by omega⟩
  · have : ∀ G : List HT, (∀ t ∈ G, 0 < wt t ∧ heightT t = 0 ∧ mc t = 0) → G.Pairwise Far := by
      intro G
      induction G with
      | nil => intro _; exact List.Pairwise.nil
      | cons t G ih =>
        intro h
        refine List.pairwise_cons.2 ⟨fun u hu => ?_, ih fun x hx => h x (List.mem_cons_of_mem _ hx)⟩
        obtain ⟨a1, _, a3⟩ := h t (List.mem_cons_self ..)
        obtain ⟨b1, _, b3⟩ := h u (List.mem_cons_of_mem _ hu)
        exact ⟨by omega, by omega⟩
    exact this _ hl

/-- Depths are no more than the height. -/
theorem markL_le (t : HT) : ∀ (d : Int) L, ∀ x ∈ markL t d L, x ∈ L ∨ (d ≤ x ∧ x ≤ d + heightT t) := by
  induction t with
  | leaf w n =>
    intro d L x hx
    rcases List.mem_or_eq_of_mem_set hx with h | h
    · exact Or.inl h
    · right; subst h; simp [heightT]
  | node l r ihl ihr =>
    intro d L x hx
    have hh : ((heightT (.node l r) : Nat) : Int) = max (heightT l : Int) (heightT r) + 1 := by show (((max (heightT l) (heightT r) + 1 : Nat)) : Int) = _; omega
    rcases ihr _ _ x hx with h | h
    · rcases ihl _ _ x h with h | h
      · exact Or.inl h
      · right; omega
    · right; omega
theorem red_wt {F : List HT} {T : HT} (h : Red F T) : wt T = (F.map wt).sum := by
  have hs : ∀ {F G : List HT}, F.Perm G → (F.map wt).sum = (G.map wt).sum := by
    intro F G h
    induction h with
    | nil => rfl
    | cons x _ ih => simp only [List.map_cons, List.sum_cons, ih]
    | swap x y l => simp only [List.map_cons, List.sum_cons]; omega
    | trans _ _ ih1 ih2 => exact ih1.trans ih2
  induction h with
  | one t => simp
  | step hp _ _ _ ih =>
    rw [ih, hs hp]
    simp only [List.map_cons, List.sum_cons, wt]; omega
theorem initTo_wt (f : List Int) (hf : ∀ x ∈ f, 0 ≤ x) : ∀ k, k ≤ f.length → ((initTo f k).map wt).sum = (f.take k).sum := by
  intro k
  induction k with
  | zero => intro _; simp [initTo_zero]
  | succ k ih =>
    intro hk
    have hlt : k < f.length := by omega
    have h0 := hf f[k] (List.getElem_mem hlt)
    rw [List.take_succ_eq_append_getElem hlt, List.sum_append, ← ih (by omega)]
    by_cases h : 0 < f[k]
    · rw [initTo_yes hlt h, List.map_append, List.sum_append]; simp [wt]
    · rw [initTo_no hlt h]; simp; omega
theorem initT_wt (f : List Int) (hf : ∀ x ∈ f, 0 ≤ x) : ((initT f).map wt).sum = f.sum := by
  have := initTo_wt f hf f.length (Nat.le_refl _)
  rwa [initTo_all, List.take_length] at this

def maxOk (L : List Int) : Prop := ∀ x ∈ L, x ≤ 15
def halve (f : List Int) : List Int := f.map fun n => (n + 1) / 2
theorem halve_length (f : List Int) : (halve f).length = f.length := by simp [halve]
theorem halve_nonneg {f : List Int} (hf : ∀ x ∈ f, 0 ≤ x) : ∀ x ∈ halve f, 0 ≤ x := fun x hx => by
  obtain ⟨n, hn, rfl⟩ := List.mem_map.1 hx
  have := hf n hn; omega
theorem halve_le {f : List Int} {m : Int} (hm : 1 ≤ m) (hf : ∀ x ∈ f, x ≤ m) : ∀ x ∈ halve f, x ≤ m := fun x hx => by
  obtain ⟨n, hn, rfl⟩ := List.mem_map.1 hx
  have := hf n hn; omega
theorem halve_sum (f : List Int) (hf : ∀ x ∈ f, 0 ≤ x) : (halve f).sum ≤ f.sum ∧ ((halve f).sum = f.sum → f.sum ≤ f.length) := by
  induction f with
  | nil => simp [halve]
  | cons x f ih =>
    obtain ⟨h1, h2⟩ := ih fun y hy => hf y (List.mem_cons_of_mem _ hy)
    have hx := hf x (List.mem_cons_self ..)
    have e : halve (x :: f) = (x + 1) / 2 :: halve f := rfl
    rw [e]
    simp only [List.sum_cons, List.length_cons]
    refine ⟨by omega, fun h => ?_⟩
    have h3 := h2 (by omega)
    omega
/-- If a code is too long, halving makes all together less. -/
theorem halve_lt {f L : List Int} (h : OnceR f L) (hf : ∀ x ∈ f, 0 ≤ x) (hl : f.length ≤ 1000) (hd : ¬ maxOk L) : (halve f).sum < f.sum := by
  have hsum := halve_sum f hf
  have hbig : 2584 ≤ f.sum := by
    have hx : ∃ x ∈ L, 15 < x := by
      unfold maxOk at hd
      simp only [Classical.not_forall] at hd
      obtain ⟨x, hx, h⟩ := hd
      exact ⟨x, hx, by omega⟩
    obtain ⟨x, hx, hx15⟩ := hx
    rcases h with ⟨_, rfl⟩ | ⟨_, _, _, rfl⟩ | ⟨_, T, hT, rfl⟩
    · have := List.eq_of_mem_replicate hx; omega
    · rcases List.mem_or_eq_of_mem_set hx with h | h
      · have := List.eq_of_mem_replicate h; omega
      · omega
    · rcases markL_le T 0 _ x hx with h | h
      · have := List.eq_of_mem_replicate h; omega
      · have h1 := (red_ok hT (initT_ok f)).2.1
        rw [red_wt hT, initT_wt f hf] at h1
        have h2 := fb_mono (m := 16) (n := heightT T) (by omega)
        rw [fb_16] at h2
        omega
  have : f.sum ≠ (halve f).sum := fun e => by
    have := hsum.2 e.symm; omega
  omega
/-- What f gives: halved as often as a code is too long. -/
inductive LensR : List Int → List Int → Prop where
  | stop {f L : List Int} (h : OnceR f L) (hm : maxOk L) : LensR f L
  | halve {f L0 L : List Int} (h : OnceR f L0) (hd : ¬ maxOk L0) (hr : LensR (halve f) L) : LensR f L
theorem lensR_det {f L : List Int} (h : LensR f L) : ∀ {L'}, LensR f L' → L = L' := by
  induction h with
  | stop h hm =>
    intro L' h'
    cases h' with
    | stop h2 _ => exact onceR_det h h2
    | halve h2 hd _ => obtain rfl := onceR_det h h2; exact absurd hm hd
  | halve h hd _ ih =>
    intro L' h'
    cases h' with
    | stop h2 hm => obtain rfl := onceR_det h h2; exact absurd hm hd
    | halve _ _ hr => exact ih hr
theorem lensR_length {f L : List Int} (h : LensR f L) : L.length = f.length := by
  induction h with
  | stop h _ => exact onceR_length h
  | halve _ _ _ ih => rw [ih, halve_length]
/-- Just the symbols that are there are there behind a halving. -/
theorem halve_there {f : List Int} {i : Nat} (hi : i < f.length) (h0 : 0 ≤ f[i]) : 0 < (halve f)[i]'(by rw [halve_length]; exact hi) ↔ 0 < f[i] := by
  simp only [halve, List.getElem_map]; omega
/-- Lengths come of depths that are not too great. -/
theorem lensR_once {f L : List Int} (h : LensR f L) : ∃ g, OnceR g L ∧ maxOk L ∧ g.length = f.length ∧ ((∀ x ∈ f, 0 ≤ x) → (∀ x ∈ g, 0 ≤ x) ∧ ∀ i (hi : i < f.length) (hi' : i < g.length), 0 < g[i] ↔ 0 < f[i]) := by
  induction h with
  | @stop f L h hm => exact ⟨f, h, hm, rfl, fun hf => ⟨hf, fun i hi hi' => Iff.rfl⟩⟩
  | @halve f L0 L h hd _ ih =>
    obtain ⟨g, h1, h2, h3, h4⟩ := ih
    refine ⟨g, h1, h2, by rw [h3, halve_length], fun hf => ?_⟩
    obtain ⟨k1, k2⟩ := h4 (halve_nonneg hf)
    refine ⟨k1, fun i hi hi' => ?_⟩
    have := k2 i (by rw [halve_length]; exact hi) hi'
    rw [this]
    exact halve_there hi (hf _ (List.getElem_mem hi))
end Go.Proofs.Ytolappilfjhfaaa
namespace Go.Proofs.Ytolappilfjhfaaa

/-- A sum over a list, by places. -/
def sumG (g : Nat → Int → Int) : Nat → List Int → Int
  | _, [] => 0
  | k, x :: L => g k x + sumG g (k + 1) L
theorem sumG_set (g : Nat → Int → Int) (d : Int) : ∀ (L : List Int) (k n : Nat) (hn : n < L.length), sumG g k (L.set n d) = sumG g k L + g (k + n) d - g (k + n) L[n] := by
  intro L
  induction L with
  | nil => intro k n hn; simp at hn
  | cons x L ih =>
    intro k n hn
    cases n with
    | zero => simp only [List.set_cons_zero, sumG, Nat.add_zero, List.getElem_cons_zero]; omega
    | succ n =>
      have := ih (k + 1) n (by simpa using hn)
      simp only [List.set_cons_succ, sumG, List.getElem_cons_succ]
      rw [this, show k + 1 + n = k + (n + 1) by omega]; omega
/-- What a tree adds to such a sum. -/
def gT (g : Nat → Int → Int) : HT → Int → Int
  | .leaf _ n, d => g n d - g n 0
  | .node l r, d => gT g l (d + 1) + gT g r (d + 1)
theorem sumG_mark (g : Nat → Int → Int) (t : HT) : ∀ (d : Int) (L : List Int), (syms t).Nodup → (∀ s ∈ syms t, L[s]? = some 0) → sumG g 0 (markL t d L) = sumG g 0 L + gT g t d := by
  induction t with
  | leaf w n =>
    intro d L _ h
    have h0 := h n (by simp [syms])
    obtain ⟨hn, h0⟩ := List.getElem?_eq_some_iff.1 h0
    rw [markL, sumG_set g d L 0 n hn, h0, Nat.zero_add, gT]; omega
  | node l r ihl ihr =>
    intro d L hnd h
    have hnd' := List.nodup_append.1 (show (syms l ++ syms r).Nodup from hnd)
    have hl := ihl (d + 1) L hnd'.1 fun s hs => h s (by rw [syms]; exact List.mem_append_left _ hs)
    have hr := ihr (d + 1) (markL l (d + 1) L) hnd'.2.1 fun s hs => by
      rw [markL_other l _ _ s (fun hsl => hnd'.2.2 s hsl s hs rfl)]
      exact h s (by rw [syms]; exact List.mem_append_right _ hs)
    rw [markL, hr, hl, gT]; omega

/-- Where no symbol lies deeper than 15. -/
def D15 : HT → Int → Prop
  | .leaf _ _, d => d ≤ 15
  | .node l r, d => D15 l (d + 1) ∧ D15 r (d + 1)
theorem d15_le {t : HT} : ∀ {d : Int}, D15 t d → d ≤ 15 := by
  induction t with
  | leaf w n => intro d h; exact h
  | node l r ihl _ => intro d h; have := ihl h.1; omega
theorem mark_d15 (t : HT) : ∀ (d : Int) (L : List Int), (syms t).Nodup → (∀ s ∈ syms t, s < L.length) → (∀ s ∈ syms t, (markL t d L)[s]?.getD 0 ≤ 15) → D15 t d := by
  induction t with
  | leaf w n =>
    intro d L _ hs h
    have := h n (by simp [syms])
    rw [markL, List.getElem?_set_self (hs n (by simp [syms])), Option.getD_some] at this
    exact this
  | node l r ihl ihr =>
    intro d L hnd hs h
    have hnd' := List.nodup_append.1 (show (syms l ++ syms r).Nodup from hnd)
    refine ⟨ihl (d + 1) L hnd'.1 (fun s q => hs s (by rw [syms]; exact List.mem_append_left _ q)) fun s q => ?_, ihr (d + 1) (markL l (d + 1) L) hnd'.2.1 (fun s q => by rw [markL_length]; exact hs s (by rw [syms]; exact List.mem_append_right _ q)) fun s q => ?_⟩
    · have := h s (by rw [syms]; exact List.mem_append_left _ q)
      rw [markL, markL_other r _ _ s (fun hr => hnd'.2.2 s q s hr rfl)] at this
      exact this
    · exact h s (by rw [syms]; exact List.mem_append_right _ q)
theorem mark_ge (t : HT) : ∀ (d : Int) (L : List Int), (∀ s ∈ syms t, s < L.length) → ∀ s ∈ syms t, d ≤ (markL t d L)[s]?.getD 0 := by
  induction t with
  | leaf w n =>
    intro d L hs s h
    obtain rfl := List.mem_singleton.1 (show s ∈ [n] from h)
    rw [markL, List.getElem?_set_self (hs s h), Option.getD_some]; omega
  | node l r ihl ihr =>
    intro d L hs s h
    by_cases hr : s ∈ syms r
    · have := ihr (d + 1) (markL l (d + 1) L) (fun s q => by rw [markL_length]; exact hs s (by rw [syms]; exact List.mem_append_right _ q)) s hr
      rw [markL]; omega
    · have hl : s ∈ syms l := by
        rcases List.mem_append.1 (show s ∈ syms l ++ syms r from h) with q | q
        · exact q
        · exact absurd q hr
      have := ihl (d + 1) L (fun s q => hs s (by rw [syms]; exact List.mem_append_left _ q)) s hl
      rw [markL, markL_other r _ _ s hr]; omega
theorem kraft_sumG (L : List Int) : ∀ k, sumG (fun _ x => oneK x) k L = kraftL L := by
  induction L with
  | nil => intro k; rfl
  | cons x L ih =>
    intro k
    have e : kraftL (x :: L) = oneK x + kraftL L := by simp [kraftL]
    rw [sumG, ih, e]
theorem oneK_0 : oneK 0 = 0 := by decide
theorem gT_kraft (t : HT) : ∀ (d : Nat), 1 ≤ d → D15 t d → gT (fun _ x => oneK x) t d = p2 (15 - d) := by
  induction t with
  | leaf w n =>
    intro d hd h
    have h : (d : Int) ≤ 15 := h
    rw [gT, oneK_0]
    unfold oneK
    rw [if_pos (by omega), Int.toNat_natCast]; omega
  | node l r ihl ihr =>
    intro d hd h
    have h15 := d15_le h.1
    rw [gT, show ((d : Int) + 1) = ((d + 1 : Nat) : Int) by omega, ihl (d + 1) (by omega) h.1, ihr (d + 1) (by omega) h.2]
    have e : p2 (15 - d) = 2 * p2 (15 - (d + 1)) := by rw [← p2_succ]; congr 1; omega
    omega
theorem kraft_zeros (n : Nat) : kraftL (List.replicate n 0) = 0 := by
  induction n with
  | zero => rfl
  | succ n ih =>
    have e : kraftL ((0 : Int) :: List.replicate n 0) = oneK 0 + kraftL (List.replicate n 0) := by simp [kraftL]
    rw [List.replicate_succ, e, ih, oneK_0]; rfl
theorem initT_syms_mem {f : List Int} {s : Nat} : s ∈ (initT f).flatMap syms ↔ ∃ hs : s < f.length, 0 < f[s] := by
  rw [List.mem_flatMap]
  constructor
  · rintro ⟨t, ht, h⟩
    obtain ⟨i, hi, h0, rfl⟩ := initT_mem.1 ht
    obtain rfl := List.mem_singleton.1 (show s ∈ [i] from h)
    exact ⟨hi, h0⟩
  · rintro ⟨hs, h0⟩
    exact ⟨_, initT_mem.2 ⟨s, hs, h0, rfl⟩, by simp [syms]⟩
/-- What is told of depths that are not too great: just symbols that are there have codes; two or more fill all there is. -/
theorem once_full {f L : List Int} (h : OnceR f L) (hm : maxOk L) (_hf : ∀ x ∈ f, 0 ≤ x) :
    (∀ i (hi : i < f.length) (hi' : i < L.length), (0 < L[i] ↔ 0 < f[i]) ∧ 0 ≤ L[i]) ∧ (2 ≤ (initT f).length → kraftL L = 32768) ∧ ((initT f).length < 2 → kraftL L = 16384 * (initT f).length) := by
  rcases h with ⟨h1, rfl⟩ | ⟨w, n, h1, rfl⟩ | ⟨h1, T, hT, rfl⟩
  · refine ⟨fun i hi hi' => ?_, fun h => by rw [h1] at h; simp at h, fun _ => by rw [h1, kraft_zeros]; rfl⟩
    have : ¬ 0 < f[i] := fun h0 => by
      have := initT_mem.2 ⟨i, hi, h0, rfl⟩
      rw [h1] at this; cases this
    simp; omega
  · obtain ⟨j, hj, h0, he⟩ := initT_mem.1 (show HT.leaf w n ∈ initT f by rw [h1]; exact List.mem_singleton.2 rfl)
    injection he with e1 e2
    subst e2
    refine ⟨fun i hi hi' => ?_, fun h => by rw [h1] at h; simp at h, fun _ => ?_⟩
    · rw [List.getElem_set]
      by_cases e : n = i
      · subst e; simp [h0]
      · rw [if_neg e, List.getElem_replicate]
        refine ⟨⟨fun h => by omega, fun hp => ?_⟩, by omega⟩
        have := initT_mem.2 ⟨i, hi, hp, rfl⟩
        rw [h1, List.mem_singleton] at this
        injection this with _ this
        exact absurd this.symm e
    · have hs := sumG_set (fun _ x => oneK x) 1 (List.replicate f.length 0) 0 n (by simpa using hj)
      rw [kraft_sumG, kraft_sumG, kraft_zeros, List.getElem_replicate, oneK_0] at hs
      rw [hs, h1]
      have : oneK 1 = 16384 := by decide
      rw [this]; rfl
  · have hsy := red_syms hT
    have hnd : (syms T).Nodup := hsy.nodup_iff.2 (initT_syms f).1
    have hmem : ∀ s, s ∈ syms T ↔ ∃ hs : s < f.length, 0 < f[s] := fun s => by rw [hsy.mem_iff]; exact initT_syms_mem
    have hlt : ∀ s ∈ syms T, s < (List.replicate f.length (0 : Int)).length := fun s hs => by rw [List.length_replicate]; exact ((hmem s).1 hs).1
    obtain ⟨l, r, rfl⟩ := red_node hT h1
    refine ⟨fun i hi hi' => ?_, fun _ => ?_, fun h => by omega⟩
    · by_cases hin : i ∈ syms (.node l r)
      · have hge : 1 ≤ (markL (.node l r) 0 (List.replicate f.length 0))[i]?.getD 0 := by
          rcases List.mem_append.1 (show i ∈ syms l ++ syms r from hin) with q | q
          · by_cases q2 : i ∈ syms r
            · have := mark_ge r (0 + 1) (markL l (0 + 1) (List.replicate f.length 0)) (fun s h => by rw [markL_length]; exact hlt s (by rw [syms]; exact List.mem_append_right _ h)) i q2
              rw [markL]; omega
            · have := mark_ge l (0 + 1) (List.replicate f.length 0) (fun s h => hlt s (by rw [syms]; exact List.mem_append_left _ h)) i q
              rw [markL, markL_other r _ _ i q2]; omega
          · have := mark_ge r (0 + 1) (markL l (0 + 1) (List.replicate f.length 0)) (fun s h => by rw [markL_length]; exact hlt s (by rw [syms]; exact List.mem_append_right _ h)) i q
            rw [markL]; omega
        rw [List.getElem?_eq_getElem hi', Option.getD_some] at hge
        obtain ⟨_, h0⟩ := (hmem i).1 hin
        exact ⟨⟨fun _ => h0, fun _ => by omega⟩, by omega⟩
      · have ho := markL_other (.node l r) 0 (List.replicate f.length 0) i hin
        rw [List.getElem?_eq_getElem hi', List.getElem?_replicate, if_pos hi] at ho
        injection ho with ho
        have hn : ¬ 0 < f[i] := fun h0 => hin ((hmem i).2 ⟨hi, h0⟩)
        rw [ho]
        exact ⟨⟨fun h => by omega, fun h => absurd h hn⟩, by omega⟩
    · have hz : ∀ s ∈ syms (.node l r), (List.replicate f.length (0 : Int))[s]? = some 0 := fun s hs => by
        rw [List.getElem?_replicate, if_pos ((hmem s).1 hs).1]
      have hd := mark_d15 (.node l r) 0 (List.replicate f.length 0) hnd hlt fun s hs => by
        have hsl : s < (markL (.node l r) 0 (List.replicate f.length 0)).length := by rw [markL_length]; exact hlt s hs
        rw [List.getElem?_eq_getElem hsl, Option.getD_some]
        exact hm _ (List.getElem_mem hsl)
      have hk := sumG_mark (fun _ x => oneK x) (.node l r) 0 (List.replicate f.length 0) hnd hz
      rw [kraft_sumG, kraft_sumG, kraft_zeros, gT] at hk
      have k1 := gT_kraft l 1 (by omega) hd.1
      have k2 := gT_kraft r 1 (by omega) hd.2
      have e14 : p2 (15 - 1) = 16384 := by decide
      rw [e14] at k1 k2
      rw [hk]
      have e : ((0 : Int) + 1) = ((1 : Nat) : Int) := by omega
      rw [e, k1, k2]; rfl
end Go.Proofs.Ytolappilfjhfaaa
namespace Go.Proofs.Ytolappilfjhfaaa

/-- Trees with lengths: what they take; what they cost. -/
def krP (P : List (HT × Nat)) : Int := (P.map fun q => p2 (15 - q.2)).sum
def coP (P : List (HT × Nat)) : Int := (P.map fun q => wt q.1 * q.2).sum
theorem krP_cons (q : HT × Nat) (P : List (HT × Nat)) : krP (q :: P) = p2 (15 - q.2) + krP P := by simp [krP]
theorem coP_cons (q : HT × Nat) (P : List (HT × Nat)) : coP (q :: P) = wt q.1 * q.2 + coP P := by simp [coP]
theorem sum_perm {l m : List Int} (h : l.Perm m) : l.sum = m.sum := by
  induction h with
  | nil => rfl
  | cons x _ ih => simp only [List.sum_cons, ih]
  | swap x y l => simp only [List.sum_cons]; omega
  | trans _ _ ih1 ih2 => exact ih1.trans ih2
theorem krP_perm {P Q : List (HT × Nat)} (h : P.Perm Q) : krP P = krP Q := sum_perm (h.map _)
theorem coP_perm {P Q : List (HT × Nat)} (h : P.Perm Q) : coP P = coP Q := sum_perm (h.map _)
theorem krP_nonneg (P : List (HT × Nat)) : 0 ≤ krP P := by
  induction P with
  | nil => exact Int.le_refl _
  | cons q P ih => have := p2_pos (15 - q.2); rw [krP_cons]; omega
/-- A list in another order, with what hangs on it. -/
theorem perm_lift {α β : Type} {f : α → β} {l m : List β} (h : l.Perm m) : ∀ {P : List α}, P.map f = l → ∃ Q : List α, P.Perm Q ∧ Q.map f = m := by
  induction h with
  | nil => intro P hP; exact ⟨P, List.Perm.refl _, hP⟩
  | cons x _ ih =>
    intro P hP
    cases P with
    | nil => cases hP
    | cons q P =>
      injection hP with h1 h2
      obtain ⟨Q, hQ, hm⟩ := ih h2
      exact ⟨q :: Q, hQ.cons q, by rw [List.map_cons, h1, hm]⟩
  | swap x y l =>
    intro P hP
    cases P with
    | nil => cases hP
    | cons q P =>
      injection hP with h1 h2
      cases P with
      | nil => cases h2
      | cons r P =>
        injection h2 with h2 h3
        exact ⟨r :: q :: P, List.Perm.swap _ _ _, by rw [List.map_cons, List.map_cons, h1, h2, h3]⟩
  | trans _ _ ih1 ih2 =>
    intro P hP
    obtain ⟨Q, hQ, hm⟩ := ih1 hP
    obtain ⟨R, hR, hn⟩ := ih2 hm
    exact ⟨R, hQ.trans hR, hn⟩

theorem swap_cost {x y a b : Int} (hxy : x ≤ y) (hab : a ≤ b) : x * b + y * a ≤ x * a + y * b := by
  have h : 0 ≤ (y - x) * (b - a) := Int.mul_nonneg (by omega) (by omega)
  have e : (y - x) * (b - a) = y * b - y * a - x * b + x * a := by
    rw [Int.sub_mul, Int.mul_sub, Int.mul_sub]; omega
  omega
/-- The lightest one may have the greatest length. -/
theorem swap_max (x : Int) : ∀ (Q : List (HT × Nat)) (e : Nat), (∀ q ∈ Q, x ≤ wt q.1) →
    ∃ (e' : Nat) (Q' : List (HT × Nat)), Q'.map Prod.fst = Q.map Prod.fst ∧ (∀ q ∈ Q', q.2 ≤ e') ∧ p2 (15 - e') + krP Q' = p2 (15 - e) + krP Q ∧ x * e' + coP Q' ≤ x * e + coP Q ∧ (∀ M, e ≤ M → (∀ q ∈ Q, q.2 ≤ M) → e' ≤ M) := by
  intro Q
  induction Q with
  | nil => intro e _; exact ⟨e, [], rfl, fun q hq => (by cases hq), rfl, Int.le_refl _, fun M h _ => h⟩
  | cons q Q ih =>
    intro e hx
    obtain ⟨e1, Q1, h1, h2, h3, h4, h5⟩ := ih e fun r hr => hx r (List.mem_cons_of_mem _ hr)
    have hq := hx q (List.mem_cons_self ..)
    rw [krP_cons, coP_cons]
    by_cases h : q.2 ≤ e1
    · refine ⟨e1, q :: Q1, by rw [List.map_cons, List.map_cons, h1], fun r hr => ?_, by rw [krP_cons]; omega, by rw [coP_cons]; omega, fun M hM hQ => h5 M hM fun r hr => hQ r (List.mem_cons_of_mem _ hr)⟩
      rcases List.mem_cons.1 hr with rfl | hr
      · exact h
      · exact h2 r hr
    · refine ⟨q.2, (q.1, e1) :: Q1, by rw [List.map_cons, List.map_cons, h1], fun r hr => ?_, by rw [krP_cons]; show p2 (15 - q.2) + (p2 (15 - e1) + krP Q1) = _; omega, ?_, fun M _ hQ => hQ q (List.mem_cons_self ..)⟩
      · rcases List.mem_cons.1 hr with rfl | hr
        · show e1 ≤ q.2; omega
        · have := h2 r hr; omega
      · rw [coP_cons]
        have := swap_cost (x := x) (y := wt q.1) (a := (e1 : Int)) (b := (q.2 : Int)) hq (by omega)
        show x * (q.2 : Int) + (wt q.1 * (e1 : Int) + coP Q1) ≤ _
        omega
/-- A multiple of a power. -/
theorem kr_mult (e : Nat) : ∀ (P : List (HT × Nat)), e ≤ 15 → (∀ q ∈ P, q.2 ≤ e) → ∃ m : Int, krP P = m * p2 (15 - e) := by
  intro P
  induction P with
  | nil => intro _ _; exact ⟨0, by simp [krP]⟩
  | cons q P ih =>
    intro he hP
    obtain ⟨m, hm⟩ := ih he fun r hr => hP r (List.mem_cons_of_mem _ hr)
    have hq := hP q (List.mem_cons_self ..)
    refine ⟨p2 (e - q.2) + m, ?_⟩
    rw [krP_cons, hm, Int.add_mul, ← p2_add]
    congr 2
    omega
theorem p2_15' : p2 15 = 32768 := by decide
/-- Two least ones put together: lengths for what is then there, that cost so much less. -/
theorem merge_len {a b : HT} {PR : List (HT × Nat)} {ea eb : Nat} (ha : ∀ q ∈ PR, wt a ≤ wt q.1) (hab : wt a ≤ wt b) (hb : ∀ q ∈ PR, wt b ≤ wt q.1) (ha0 : 0 ≤ wt a) (he : ea ≤ 15 ∧ eb ≤ 15 ∧ ∀ q ∈ PR, q.2 ≤ 15)
    (hk : p2 (15 - ea) + (p2 (15 - eb) + krP PR) ≤ 32768) :
    ∃ (c : Nat) (PR' : List (HT × Nat)), PR'.map Prod.fst = PR.map Prod.fst ∧ c ≤ 15 ∧ (∀ q ∈ PR', q.2 ≤ 15) ∧ p2 (15 - c) + krP PR' ≤ 32768 ∧ (wt a + wt b) * c + coP PR' + wt a + wt b ≤ wt a * ea + (wt b * eb + coP PR) := by
  obtain ⟨ea1, Q1, f1, m1, k1, c1, b1⟩ := swap_max (wt a) ((b, eb) :: PR) ea (fun q hq => by
    rcases List.mem_cons.1 hq with rfl | hq
    · exact hab
    · exact ha q hq)
  rw [krP_cons] at k1; rw [coP_cons] at c1
  have hea1 := b1 15 he.1 (fun q hq => by
    rcases List.mem_cons.1 hq with rfl | hq
    · exact he.2.1
    · exact he.2.2 q hq)
  cases Q1 with
  | nil => cases f1
  | cons q1 Q1 =>
    injection f1 with g1 g2
    obtain ⟨q1a, eb1⟩ := q1
    simp only at g1
    subst g1
    rw [krP_cons] at k1; rw [coP_cons] at c1
    have hw : ∀ q ∈ Q1, wt q1a ≤ wt q.1 := fun q hq => by
      have h1 : q.1 ∈ Q1.map Prod.fst := List.mem_map_of_mem hq
      rw [g2] at h1
      obtain ⟨r, hr, e⟩ := List.mem_map.1 h1
      rw [← e]; exact hb r hr
    obtain ⟨eb2, Q2, f2, m2, k2, c2, b2⟩ := swap_max (wt q1a) Q1 eb1 hw
    have heb2 : eb2 ≤ ea1 := b2 ea1 (m1 _ (List.mem_cons_self ..)) fun q hq => m1 q (List.mem_cons_of_mem _ hq)
    simp only at k1 c1
    have hkk : p2 (15 - ea1) + (p2 (15 - eb2) + krP Q2) ≤ 32768 := by omega
    have pa := p2_pos (15 - ea1)
    have hn := krP_nonneg Q2
    have h0 : 1 ≤ eb2 := by
      rcases Nat.eq_zero_or_pos eb2 with h | h
      · rw [h] at hkk
        have : p2 (15 - 0) = 32768 := by decide
        omega
      · exact h
    obtain ⟨mm, hm⟩ := kr_mult eb2 Q2 (by omega) m2
    have pb := p2_pos (15 - eb2)
    have e15 : (32768 : Int) = p2 eb2 * p2 (15 - eb2) := by rw [← p2_add, ← p2_15']; congr 1; omega
    have hlt : (1 + mm) * p2 (15 - eb2) < p2 eb2 * p2 (15 - eb2) := by
      rw [Int.add_mul, Int.one_mul, ← hm, ← e15]; omega
    have hle : 1 + mm < p2 eb2 := by
      by_cases q : 1 + mm < p2 eb2
      · exact q
      · have := Int.mul_le_mul_of_nonneg_right (c := p2 (15 - eb2)) (by omega : p2 eb2 ≤ 1 + mm) (by omega); omega
    have hfin : (1 + (1 + mm)) * p2 (15 - eb2) ≤ p2 eb2 * p2 (15 - eb2) := Int.mul_le_mul_of_nonneg_right (by omega) (by omega)
    rw [Int.add_mul, Int.add_mul, Int.one_mul, ← hm, ← e15] at hfin
    have e2 : p2 (15 - (eb2 - 1)) = 2 * p2 (15 - eb2) := by rw [← p2_succ]; congr 1; omega
    refine ⟨eb2 - 1, Q2, by rw [f2, g2], by omega, fun q hq => by have := m2 q hq; omega, by rw [e2]; omega, ?_⟩
    have hmulA : wt a * (eb2 : Int) ≤ wt a * (ea1 : Int) := Int.mul_le_mul_of_nonneg_left (by omega) ha0
    have ec : ((eb2 - 1 : Nat) : Int) = (eb2 : Int) - 1 := by omega
    rw [ec, Int.mul_sub, Int.mul_one, Int.add_mul]
    omega

/-- What the trees' parts cost. -/
def inC : HT → Int
  | .leaf _ _ => 0
  | .node l r => inC l + inC r + (wt l + wt r)
def inCs (F : List HT) : Int := (F.map inC).sum
theorem inCs_cons (t : HT) (F : List HT) : inCs (t :: F) = inC t + inCs F := by simp [inCs]
theorem opt_red {F : List HT} {T : HT} (h : Red F T) : (∀ t ∈ F, 0 ≤ wt t) → ∀ P : List (HT × Nat), P.map Prod.fst = F → (∀ q ∈ P, q.2 ≤ 15) → krP P ≤ 32768 → inC T ≤ coP P + inCs F := by
  induction h with
  | one t =>
    intro hw P hP _ _
    cases P with
    | nil => cases hP
    | cons q P =>
      injection hP with h1 h2
      have : P = [] := List.map_eq_nil_iff.1 h2
      subst this
      have h3 := hw t (List.mem_singleton.2 rfl)
      have h4 : 0 ≤ wt q.1 * (q.2 : Int) := Int.mul_nonneg (by rw [h1]; exact h3) (by omega)
      simp [coP, inCs]; omega
  | @step F a b R T hp ha hb _ ih =>
    intro hw P hP h15 hk
    obtain ⟨Q, hQ, hm⟩ := perm_lift hp hP
    have hw' : ∀ t ∈ a :: b :: R, 0 ≤ wt t := fun t ht => hw t (hp.mem_iff.2 ht)
    cases Q with
    | nil => cases hm
    | cons qa Q =>
      injection hm with g1 hm
      cases Q with
      | nil => cases hm
      | cons qb PR =>
        injection hm with g2 g3
        obtain ⟨a', ea⟩ := qa
        obtain ⟨b', eb⟩ := qb
        simp only at g1 g2
        subst g1 g2
        have hmem : ∀ q ∈ PR, q.1 ∈ R := fun q hq => by rw [← g3]; exact List.mem_map_of_mem hq
        have hq15 : ∀ q ∈ (a', ea) :: (b', eb) :: PR, q.2 ≤ 15 := fun q hq => h15 q (hQ.mem_iff.2 hq)
        rw [krP_perm hQ, krP_cons, krP_cons] at hk
        have hc := coP_perm hQ
        rw [coP_cons, coP_cons] at hc
        obtain ⟨c, PR', f1, f2, f3, f4, f5⟩ := merge_len (a := a') (b := b') (PR := PR) (ea := ea) (eb := eb) (fun q hq => leT_wt (ha _ (List.mem_cons_of_mem _ (hmem q hq)))) (leT_wt (ha _ (List.mem_cons_self ..))) (fun q hq => leT_wt (hb _ (hmem q hq))) (hw' _ (List.mem_cons_self ..))
          ⟨hq15 _ (List.mem_cons_self ..), hq15 _ (List.mem_cons_of_mem _ (List.mem_cons_self ..)), fun q hq => hq15 q (List.mem_cons_of_mem _ (List.mem_cons_of_mem _ hq))⟩ hk
        have hI := ih (fun t ht => by
            rcases List.mem_cons.1 ht with rfl | ht
            · have := hw' a' (List.mem_cons_self ..); have := hw' b' (List.mem_cons_of_mem _ (List.mem_cons_self ..)); show 0 ≤ wt a' + wt b'; omega
            · exact hw' t (List.mem_cons_of_mem _ (List.mem_cons_of_mem _ ht))) ((.node a' b', c) :: PR') (by rw [List.map_cons, f1, g3]) (fun q hq => by
            rcases List.mem_cons.1 hq with rfl | hq
            · exact f2
            · exact f3 q hq) (by rw [krP_cons]; exact f4)
        rw [coP_cons, inCs_cons, inC] at hI
        simp only [wt] at hI
        have hci : inCs F = inC a' + (inC b' + inCs R) := by
          have e : inCs F = inCs (a' :: b' :: R) := sum_perm (hp.map _)
          rw [e, inCs_cons, inCs_cons]
        simp only at hc
        rw [hc, hci]
        omega
end Go.Proofs.Ytolappilfjhfaaa
namespace Go.Proofs.Ytolappilfjhfaaa

/-- What lengths cost. -/
def costL (f l : List Int) : Int := sumG (fun i x => f[i]?.getD 0 * x) 0 l
theorem sumG_take (g : Nat → Int → Int) : ∀ (l : List Int) (j k : Nat) (hk : k < l.length), sumG g j (l.take (k + 1)) = sumG g j (l.take k) + g (j + k) l[k] := by
  intro l
  induction l with
  | nil => intro j k hk; simp at hk
  | cons x l ih =>
    intro j k hk
    cases k with
    | zero => simp [sumG]
    | succ k =>
      have := ih (j + 1) k (by simpa using hk)
      simp only [List.take_succ_cons, sumG, List.getElem_cons_succ]
      rw [this, show j + 1 + k = j + (k + 1) by omega]; omega
theorem costL_zeros (f : List Int) : ∀ (n j : Nat), sumG (fun i x => f[i]?.getD 0 * x) j (List.replicate n 0) = 0 := by
  intro n
  induction n with
  | zero => intro j; rfl
  | succ n ih => intro j; rw [List.replicate_succ, sumG, ih]; simp
/-- Each symbol's weight is as often as it is there. -/
def Lv (f : List Int) : HT → Prop
  | .leaf w n => f[n]?.getD 0 = w
  | .node l r => Lv f l ∧ Lv f r
theorem red_lv {f : List Int} {F : List HT} {T : HT} (h : Red F T) : (∀ t ∈ F, Lv f t) → Lv f T := by
  induction h with
  | one t => intro h; exact h t (List.mem_singleton.2 rfl)
  | @step F a b R T hp _ _ _ ih =>
    intro h
    apply ih
    intro t ht
    rcases List.mem_cons.1 ht with rfl | ht
    · exact ⟨h a (hp.mem_iff.2 (List.mem_cons_self ..)), h b (hp.mem_iff.2 (List.mem_cons_of_mem _ (List.mem_cons_self ..)))⟩
    · exact h t (hp.mem_iff.2 (List.mem_cons_of_mem _ (List.mem_cons_of_mem _ ht)))
theorem initT_lv (f : List Int) : ∀ t ∈ initT f, Lv f t := fun t ht => by
  obtain ⟨i, hi, _, rfl⟩ := initT_mem.1 ht
  show f[i]?.getD 0 = f[i]
  rw [List.getElem?_eq_getElem hi, Option.getD_some]
theorem gT_cost {f : List Int} (t : HT) : ∀ d : Int, Lv f t → gT (fun i x => f[i]?.getD 0 * x) t d = inC t + wt t * d := by
  induction t with
  | leaf w n =>
    intro d h
    have h : f[n]?.getD 0 = w := h
    simp only [gT, inC, wt, h]; omega
  | node l r ihl ihr =>
    intro d h
    rw [gT, ihl (d + 1) h.1, ihr (d + 1) h.2, inC, wt, Int.mul_add, Int.mul_add, Int.add_mul]; omega
theorem inCs_init (f : List Int) : inCs (initT f) = 0 := by
  have : ∀ G : List HT, (∀ t ∈ G, inC t = 0) → inCs G = 0 := by
    intro G
    induction G with
    | nil => intro _; rfl
    | cons t G ih => intro h; rw [inCs_cons, h t (List.mem_cons_self ..), ih fun x hx => h x (List.mem_cons_of_mem _ hx)]; rfl
  exact this _ fun t ht => by obtain ⟨i, _, _, rfl⟩ := initT_mem.1 ht; rfl

/-- The symbols that are there, with lengths. -/
def pairsTo (f l : List Int) (k : Nat) : List (HT × Nat) := (List.range k).filterMap fun i => if 0 < f[i]?.getD 0 then some (.leaf (f[i]?.getD 0) i, (l[i]?.getD 0).toNat) else none
theorem pairsTo_yes {f l : List Int} {k : Nat} (hk : k < f.length) (h : 0 < f[k]) : pairsTo f l (k + 1) = pairsTo f l k ++ [(.leaf f[k] k, (l[k]?.getD 0).toNat)] := by
  unfold pairsTo
  rw [List.range_succ, List.filterMap_append]
  simp [List.getElem?_eq_getElem hk, h]
theorem pairsTo_no {f l : List Int} {k : Nat} (hk : k < f.length) (h : ¬ 0 < f[k]) : pairsTo f l (k + 1) = pairsTo f l k := by
  unfold pairsTo
  rw [List.range_succ, List.filterMap_append]
  simp [List.getElem?_eq_getElem hk, h]
/-- Lengths that may stand for f. -/
def Fits (f l : List Int) : Prop := l.length = f.length ∧ (∀ x ∈ l, 0 ≤ x ∧ x ≤ 15) ∧ (∀ i (hi : i < f.length) (hi' : i < l.length), 0 < f[i] → 0 < l[i]) ∧ kraftL l ≤ 32768
theorem pairs_law {f l : List Int} (hf : ∀ x ∈ f, 0 ≤ x) (h : Fits f l) : ∀ k, k ≤ f.length →
    (pairsTo f l k).map Prod.fst = initTo f k ∧ (∀ q ∈ pairsTo f l k, q.2 ≤ 15) ∧ krP (pairsTo f l k) ≤ kraftL (l.take k) ∧ coP (pairsTo f l k) = costL f (l.take k) := by
  obtain ⟨hlen, hr, hp, _⟩ := h
  intro k
  induction k with
  | zero => intro _; exact ⟨rfl, fun q hq => absurd hq (by simp [pairsTo]), Int.le_refl _, rfl⟩
  | succ k ih =>
    intro hk
    have hlt : k < f.length := by omega
    have hlt2 : k < l.length := by omega
    obtain ⟨h1, h2, h3, h4⟩ := ih (by omega)
    have hx := hr l[k] (List.getElem_mem hlt2)
    have hok := oneK_bd l[k]
    have hc : costL f (l.take (k + 1)) = costL f (l.take k) + f[k] * l[k] := by
      unfold costL
      rw [sumG_take _ l 0 k hlt2, Nat.zero_add, List.getElem?_eq_getElem hlt, Option.getD_some]
    have hkr : kraftL (l.take (k + 1)) = kraftL (l.take k) + oneK l[k] := by rw [List.take_succ_eq_append_getElem hlt2, kraftL_snoc]
    have hgd : l[k]?.getD 0 = l[k] := by rw [List.getElem?_eq_getElem hlt2, Option.getD_some]
    by_cases h0 : 0 < f[k]
    · have hpos := hp k hlt hlt2 h0
      rw [pairsTo_yes hlt h0, initTo_yes hlt h0]
      refine ⟨by rw [List.map_append, h1]; rfl, fun q hq => ?_, ?_, ?_⟩
      · rcases List.mem_append.1 hq with hq | hq
        · exact h2 q hq
        · rw [List.mem_singleton.1 hq]; show (l[k]?.getD 0).toNat ≤ 15; rw [hgd]; omega
      · have e : krP (pairsTo f l k ++ [(HT.leaf f[k] k, (l[k]?.getD 0).toNat)]) = krP (pairsTo f l k) + p2 (15 - (l[k]?.getD 0).toNat) := by simp [krP, List.sum_append]
        have e2 : oneK l[k] = p2 (15 - l[k].toNat) := by unfold oneK; rw [if_pos (by omega)]
        rw [e, hkr, hgd, e2]; omega
      · have e : coP (pairsTo f l k ++ [(HT.leaf f[k] k, (l[k]?.getD 0).toNat)]) = coP (pairsTo f l k) + f[k] * ((l[k]?.getD 0).toNat : Int) := by simp [coP, List.sum_append, wt]
        rw [e, hc, h4, hgd, show (l[k].toNat : Int) = l[k] by omega]
    · have hz : f[k] = 0 := by have := hf f[k] (List.getElem_mem hlt); omega
      rw [pairsTo_no hlt h0, initTo_no hlt h0]
      refine ⟨h1, h2, by rw [hkr]; omega, by rw [hc, h4, hz]; simp⟩
/-- No lengths that may stand for f cost less. -/
theorem once_least {f L l : List Int} (h : OnceR f L) (hf : ∀ x ∈ f, 0 ≤ x) (hl : Fits f l) : costL f L ≤ costL f l := by
  obtain ⟨p1, p2', p3, p4⟩ := pairs_law hf hl f.length (Nat.le_refl _)
  have hlen := hl.1
  have htk : l.take f.length = l := by rw [← hlen, List.take_length]
  rw [htk] at p3 p4
  rw [initTo_all] at p1
  have hk32 := hl.2.2.2
  rw [← p4]
  rcases h with ⟨h1, rfl⟩ | ⟨w, n, h1, rfl⟩ | ⟨h1, T, hT, rfl⟩
  · unfold costL
    rw [costL_zeros]
    have : ∀ P : List (HT × Nat), P.map Prod.fst = [] → coP P = 0 := fun P hP => by rw [List.map_eq_nil_iff.1 hP]; rfl
    rw [this _ (p1.trans h1)]; exact Int.le_refl _
  · obtain ⟨j, hj, h0, he⟩ := initT_mem.1 (show HT.leaf w n ∈ initT f by rw [h1]; exact List.mem_singleton.2 rfl)
    injection he with e1 e2
    subst e2
    have hs := sumG_set (fun i x => f[i]?.getD 0 * x) 1 (List.replicate f.length 0) 0 n (by simpa using hj)
    rw [costL_zeros, List.getElem_replicate, Nat.zero_add, List.getElem?_eq_getElem hj, Option.getD_some] at hs
    unfold costL
    rw [hs]
    rw [h1] at p1
    have hpl : (pairsTo f l f.length).length = 1 := by have := congrArg List.length p1; simpa using this
    obtain ⟨q, hq⟩ := List.length_eq_one_iff.1 hpl
    have hqm : q ∈ pairsTo f l f.length := by rw [hq]; exact List.mem_singleton.2 rfl
    rw [hq] at p1 ⊢
    injection p1 with p1 _
    have hq2 : q.2 = (l[n]?.getD 0).toNat := by
      unfold pairsTo at hqm
      obtain ⟨i, hi, hie⟩ := List.mem_filterMap.1 hqm
      split at hie
      · injection hie with hie
        rw [← hie] at p1 ⊢
        injection p1 with _ p1
        rw [p1]
      · cases hie
    have hpos := hl.2.2.1 n hj (by omega) h0
    rw [List.getElem?_eq_getElem (by omega), Option.getD_some] at hq2
    have hge : f[n] * 1 ≤ f[n] * (q.2 : Int) := Int.mul_le_mul_of_nonneg_left (by omega) (by omega)
    have hco : coP [q] = f[n] * (q.2 : Int) := by rw [coP_cons, p1, e1]; simp [coP, wt]
    rw [hco]; omega
  · have hsy := red_syms hT
    have hnd : (syms T).Nodup := hsy.nodup_iff.2 (initT_syms f).1
    have hz : ∀ s ∈ syms T, (List.replicate f.length (0 : Int))[s]? = some 0 := fun s hs => by
      have := (initT_syms f).2 s (hsy.mem_iff.1 hs)
      rw [List.getElem?_replicate, if_pos this]
    have hc := sumG_mark (fun i x => f[i]?.getD 0 * x) T 0 (List.replicate f.length 0) hnd hz
    rw [costL_zeros, gT_cost T 0 (red_lv hT (initT_lv f))] at hc
    unfold costL
    rw [hc]
    have ho := opt_red hT (fun t ht => by obtain ⟨i, _, h, rfl⟩ := initT_mem.1 ht; show 0 ≤ f[i]; omega) _ p1 p2' (Int.le_trans p3 hk32)
    rw [inCs_init] at ho
    omega
end Go.Proofs.Ytolappilfjhfaaa
namespace Go.Proofs.Ytolappilfjhfaaa

def dep : HT → Nat → Int
  | .leaf _ _, _ => 0
  | .node l r, s => if s ∈ syms l then dep l s + 1 else if s ∈ syms r then dep r s + 1 else 0
theorem dep_zero {t : HT} {s : Nat} (h : s ∉ syms t) : dep t s = 0 := by
  cases t with
  | leaf w n => rfl
  | node l r =>
    rw [syms, List.mem_append, not_or] at h
    rw [dep, if_neg h.1, if_neg h.2]
theorem dep_node {a b : HT} (hnd : (syms a ++ syms b).Nodup) (s : Nat) : dep (.node a b) s = dep a s + dep b s + if s ∈ syms a ++ syms b then 1 else 0 := by
  have h := List.nodup_append.1 hnd
  rw [dep]
  by_cases ha : s ∈ syms a
  · have hb : s ∉ syms b := fun hb => h.2.2 s ha s hb rfl
    rw [if_pos ha, dep_zero hb, if_pos (List.mem_append_left _ ha)]; omega
  · rw [if_neg ha, dep_zero ha]
    by_cases hb : s ∈ syms b
    · rw [if_pos hb, if_pos (List.mem_append_right _ hb)]; omega
    · rw [if_neg hb, dep_zero hb, if_neg (by rw [List.mem_append]; exact fun q => q.elim ha hb)]; omega
theorem mark_dep (t : HT) : ∀ (d : Int) (L : List Int), (syms t).Nodup → (∀ s ∈ syms t, s < L.length) → ∀ s ∈ syms t, (markL t d L)[s]? = some (d + dep t s) := by
  induction t with
  | leaf w n =>
    intro d L _ hs s h
    obtain rfl := List.mem_singleton.1 (show s ∈ [n] from h)
    rw [markL, List.getElem?_set_self (hs s h)]
    show _ = some (d + 0); rw [Int.add_zero]
  | node l r ihl ihr =>
    intro d L hnd hs s h
    have hnd' := List.nodup_append.1 (show (syms l ++ syms r).Nodup from hnd)
    rw [markL]
    by_cases hr : s ∈ syms r
    · have hl : s ∉ syms l := fun hl => hnd'.2.2 s hl s hr rfl
      rw [ihr (d + 1) _ hnd'.2.1 (fun s q => by rw [markL_length]; exact hs s (by rw [syms]; exact List.mem_append_right _ q)) s hr, dep, if_neg hl, if_pos hr]
      congr 1; omega
    · have hl : s ∈ syms l := by
        rcases List.mem_append.1 (show s ∈ syms l ++ syms r from h) with q | q
        · exact q
        · exact absurd q hr
      rw [markL_other r _ _ s hr, ihl (d + 1) _ hnd'.1 (fun s q => hs s (by rw [syms]; exact List.mem_append_left _ q)) s hl, dep, if_pos hl]
      congr 1; omega
/-- The depths of all symbols, in a list of trees. -/
def depF (F : List HT) (s : Nat) : Int := (F.map fun t => dep t s).sum
theorem depF_cons (t : HT) (F : List HT) (s : Nat) : depF (t :: F) s = dep t s + depF F s := by simp [depF]
theorem depF_perm {F G : List HT} (h : F.Perm G) (s : Nat) : depF F s = depF G s := by
  induction h with
  | nil => rfl
  | cons x _ ih => rw [depF_cons, depF_cons, ih]
  | swap x y l => rw [depF_cons, depF_cons, depF_cons, depF_cons]; omega
  | trans _ _ ih1 ih2 => exact ih1.trans ih2
theorem depF_init (f : List Int) (s : Nat) : depF (initT f) s = 0 := by
  have : ∀ G : List HT, (∀ t ∈ G, dep t s = 0) → depF G s = 0 := by
    intro G
    induction G with
    | nil => intro _; rfl
    | cons t G ih => intro h; rw [depF_cons, h t (List.mem_cons_self ..), ih fun x hx => h x (List.mem_cons_of_mem _ hx)]; rfl
  exact this _ fun t ht => by obtain ⟨i, _, _, rfl⟩ := initT_mem.1 ht; rfl
/-- The list of depths of a list of trees. -/
def depsL (F : List HT) (n : Nat) : List Int := (List.range n).map (depF F)
theorem depsL_length (F : List HT) (n : Nat) : (depsL F n).length = n := by simp [depsL]
theorem depsL_init (f : List Int) (n : Nat) : depsL (initT f) n = List.replicate n 0 := by
  apply List.ext_getElem
  · simp [depsL]
  · intro i h1 h2; simp [depsL, depF_init]
theorem depsL_perm {F G : List HT} (h : F.Perm G) (n : Nat) : depsL F n = depsL G n := List.map_congr_left fun s _ => depF_perm h s
/-- One tree: its depths. -/
theorem depsL_one {T : HT} {n : Nat} (hnd : (syms T).Nodup) (hs : ∀ s ∈ syms T, s < n) : depsL [T] n = markL T 0 (List.replicate n 0) := by
  apply List.ext_getElem?
  intro s
  by_cases hsn : s < n
  · have e : (depsL [T] n)[s]? = some (dep T s) := by simp [depsL, hsn, depF]
    rw [e]
    by_cases h : s ∈ syms T
    · rw [mark_dep T 0 _ hnd (fun s q => by rw [List.length_replicate]; exact hs s q) s h, Int.zero_add]
    · rw [markL_other T 0 _ s h, List.getElem?_replicate, if_pos hsn, dep_zero h]
  · rw [List.getElem?_eq_none (by rw [depsL_length]; omega), List.getElem?_eq_none (by rw [markL_length, List.length_replicate]; omega)]
/-- One more for each of the symbols. -/
def incTo (L : List Int) : List Nat → List Int
  | [] => L
  | s :: ss => incTo (L.set s (L[s]?.getD 0 + 1)) ss
theorem incTo_snoc (ss : List Nat) : ∀ (L : List Int) (s : Nat), incTo L (ss ++ [s]) = (incTo L ss).set s ((incTo L ss)[s]?.getD 0 + 1) := by
  induction ss with
  | nil => intro L s; rfl
  | cons x ss ih => intro L s; rw [List.cons_append, incTo, ih, incTo]
theorem incTo_length (ss : List Nat) : ∀ L : List Int, (incTo L ss).length = L.length := by
  induction ss with
  | nil => intro L; rfl
  | cons x ss ih => intro L; rw [incTo, ih, List.length_set]
theorem incTo_at (ss : List Nat) : ∀ (L : List Int), ss.Nodup → ∀ s, s < L.length → (incTo L ss)[s]?.getD 0 = L[s]?.getD 0 + if s ∈ ss then 1 else 0 := by
  induction ss with
  | nil => intro L _ s _; simp [incTo]
  | cons x ss ih =>
    intro L hnd s hs
    obtain ⟨h1, h2⟩ := List.nodup_cons.1 hnd
    rw [incTo, ih _ h2 s (by rw [List.length_set]; exact hs)]
    by_cases e : x = s
    · subst e
      rw [List.getElem?_set_self hs, Option.getD_some, if_neg h1, if_pos (List.mem_cons_self ..)]; omega
    · rw [List.getElem?_set_ne e]
      by_cases hm : s ∈ ss
      · rw [if_pos hm, if_pos (List.mem_cons_of_mem _ hm)]
      · rw [if_neg hm, if_neg (by rw [List.mem_cons]; exact fun q => q.elim (fun q => e q.symm) hm)]
theorem depsL_node {a b : HT} {R : List HT} {n : Nat} (hnd : (syms a ++ syms b).Nodup) : incTo (depsL (a :: b :: R) n) (syms a ++ syms b) = depsL (.node a b :: R) n := by
  apply List.ext_getElem?
  intro s
  by_cases hsn : s < n
  · have h := incTo_at (syms a ++ syms b) (depsL (a :: b :: R) n) hnd s (by rw [depsL_length]; exact hsn)
    have hl : s < (incTo (depsL (a :: b :: R) n) (syms a ++ syms b)).length := by rw [incTo_length, depsL_length]; exact hsn
    have e1 : (depsL (a :: b :: R) n)[s]? = some (dep a s + (dep b s + depF R s)) := by
      simp only [depsL, List.getElem?_map, List.getElem?_range hsn, Option.map_some, depF_cons]
    have e2 : (depsL (.node a b :: R) n)[s]? = some (dep (.node a b) s + depF R s) := by
      simp only [depsL, List.getElem?_map, List.getElem?_range hsn, Option.map_some, depF_cons]
    rw [e1, Option.getD_some, List.getElem?_eq_getElem hl, Option.getD_some] at h
    rw [e2, List.getElem?_eq_getElem hl, h, dep_node hnd]
    congr 1; omega
  · rw [List.getElem?_eq_none (by rw [incTo_length, depsL_length]; omega), List.getElem?_eq_none (by rw [depsL_length]; omega)]
end Go.Proofs.Ytolappilfjhfaaa
