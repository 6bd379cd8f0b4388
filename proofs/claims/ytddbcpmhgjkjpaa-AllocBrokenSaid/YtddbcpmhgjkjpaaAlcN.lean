/- One less a part, as floats: between 0 and 1, and 0 just where the part is whole. No condition; no program. -/
import Derived.Test.YtddbcpmhgjkjpaaAlcR
namespace Go.Proofs.Ytddbcpmhgjkjpaa

theorem least_f : FloatKind.f64.format.leastPlace = -1074 := by decide
theorem frac_f : FloatKind.f64.format.fractionBits = 52 := by decide
theorem binade_f : FloatKind.f64.format.binade = 4503599627370496 := by decide
theorem inf_f : FloatKind.f64.format.infRung = 9218868437227405312 := by decide
theorem sign_f : FloatKind.f64.format.signWeight = 9223372036854775808 := by decide

/-- The word nearest to a number whose highest digit is known. -/
theorem nearest_raw (f : Ieee.Format) (B I : Nat) (hl : f.leastPlace = -1074) (hf : f.fractionBits = 52) (hb : f.binade = B) (hi : f.infRung = I) {mag L : Nat} {place : Int} (h1 : 2 ^ L ≤ mag) (h2 : mag < 2 ^ (L + 1)) (hp : -1022 ≤ place + L) :
    f.nearest false mag place = min ((place + L + 1022).toNat * B + Ieee.Toward.even.cut false (mag <<< (52 - L)) (L - 52)) I := by
  have hpos : 0 < 2 ^ L := Nat.two_pow_pos _
  have h0 : mag ≠ 0 := by omega
  have hlog : mag.log2 = L := (Nat.log2_eq_iff h0).2 ⟨h1, h2⟩
  have hlast : max (place + (L : Int) - ((52 : Nat) : Int)) (-1074) = place + L - 52 := by omega
  have e1 : (place + (L : Int) - 52 - -1074).toNat = (place + L + 1022).toNat := by congr 1; omega
  have e2 : (place - (place + (L : Int) - 52)).toNat = 52 - L := by omega
  have e3 : (place + (L : Int) - 52 - place).toNat = L - 52 := by omega
  unfold Ieee.Format.nearest
  rw [if_neg h0]
  simp only [hlog, hl, hf, hb, hi, hlast, e1, e2, e3, Ieee.Format.word, Bool.false_eq_true, if_false]
theorem cut_at {n drop : Nat} (hd : drop ≤ n.log2 + 2) : n / 2 ^ drop ≤ Ieee.Toward.even.cut false n drop ∧ Ieee.Toward.even.cut false n drop ≤ n / 2 ^ drop + 1 := by
  unfold Ieee.Toward.cut
  simp only [Nat.min_eq_left hd, Nat.one_shiftLeft]
  have h := Bool.toNat_le (decide (2 ^ drop < 2 * (n % 2 ^ drop)) || (2 ^ drop == 2 * (n % 2 ^ drop) && n / 2 ^ drop % 2 == 1))
  omega
theorem cut_zero (n : Nat) : Ieee.Toward.even.cut false n 0 = n := by
  unfold Ieee.Toward.cut
  simp [Nat.mod_one]
theorem p52 : (2 : Nat) ^ 52 = 4503599627370496 := by decide
theorem p53 : (2 : Nat) ^ 53 = 9007199254740992 := by decide
theorem cut_bounds {mag L : Nat} (h1 : 2 ^ L ≤ mag) (h2 : mag < 2 ^ (L + 1)) :
    2 ^ 52 ≤ Ieee.Toward.even.cut false (mag <<< (52 - L)) (L - 52) ∧ Ieee.Toward.even.cut false (mag <<< (52 - L)) (L - 52) ≤ 2 ^ 53 ∧ (L ≤ 52 → Ieee.Toward.even.cut false (mag <<< (52 - L)) (L - 52) < 2 ^ 53) ∧ (52 ≤ L → Ieee.Toward.even.cut false (mag <<< (52 - L)) (L - 52) ≤ mag / 2 ^ (L - 52) + 1) := by
  have hpos : 0 < 2 ^ L := Nat.two_pow_pos _
  have h0 : mag ≠ 0 := by omega
  have hlog : mag.log2 = L := (Nat.log2_eq_iff h0).2 ⟨h1, h2⟩
  by_cases hL : L ≤ 52
  · have hz : L - 52 = 0 := by omega
    rw [hz, cut_zero, Nat.shiftLeft_eq]
    have q1 : 2 ^ L * 2 ^ (52 - L) = 2 ^ 52 := by rw [← Nat.pow_add]; congr 1; omega
    have q2 : 2 ^ (L + 1) * 2 ^ (52 - L) = 2 ^ 53 := by rw [← Nat.pow_add]; congr 1; omega
    have hp : 0 < 2 ^ (52 - L) := Nat.two_pow_pos _
    have r1 := Nat.mul_le_mul_right (2 ^ (52 - L)) h1
    have r2 := Nat.mul_lt_mul_of_pos_right h2 hp
    rw [q1] at r1
    rw [q2] at r2
    refine ⟨r1, Nat.le_of_lt r2, fun _ => r2, fun hl => ?_⟩
    obtain rfl : L = 52 := by omega
    simp
  · have hz : 52 - L = 0 := by omega
    rw [hz, Nat.shiftLeft_zero]
    obtain ⟨c1, c2⟩ := cut_at (n := mag) (drop := L - 52) (by rw [hlog]; omega)
    have hp : 0 < 2 ^ (L - 52) := Nat.two_pow_pos _
    have q1 : 2 ^ 52 * 2 ^ (L - 52) = 2 ^ L := by rw [← Nat.pow_add]; congr 1; omega
    have q2 : 2 ^ 53 * 2 ^ (L - 52) = 2 ^ (L + 1) := by rw [← Nat.pow_add]; congr 1; omega
    have r1 : 2 ^ 52 ≤ mag / 2 ^ (L - 52) := by rw [Nat.le_div_iff_mul_le hp, q1]; exact h1
    have r2 : mag / 2 ^ (L - 52) < 2 ^ 53 := by rw [Nat.div_lt_iff_lt_mul hp, q2]; exact h2
    exact ⟨Nat.le_trans r1 c1, Nat.le_trans c2 r2, fun h => absurd h hL, fun _ => c2⟩
theorem nearest64 {mag L : Nat} {place : Int} (h1 : 2 ^ L ≤ mag) (h2 : mag < 2 ^ (L + 1)) (hp : -1022 ≤ place + L) :
    ∃ kept, 4503599627370496 ≤ kept ∧ kept ≤ 9007199254740992 ∧ (L ≤ 52 → kept < 9007199254740992) ∧ (52 ≤ L → kept ≤ mag / 2 ^ (L - 52) + 1) ∧
      FloatKind.f64.format.nearest false mag place = min ((place + L + 1022).toNat * 4503599627370496 + kept) 9218868437227405312 := by
  have h := cut_bounds h1 h2
  rw [p52, p53] at h
  exact ⟨_, h.1, h.2.1, h.2.2.1, h.2.2.2, nearest_raw _ _ _ least_f frac_f binade_f inf_f h1 h2 hp⟩

/-- The words of the numbers that there can be. -/
theorem ints_read : (List.range 640).all (fun k => match FloatKind.f64.format.read (floatOfInt .f64 ((k + 1 : Nat) : Int)) with | .number false m i => decide (4503599627370496 ≤ m ∧ m < 9007199254740992 ∧ -52 ≤ i ∧ i ≤ -43 ∧ m * 2 ^ (i + 52).toNat = (k + 1) * 4503599627370496) | _ => false) = true := by decide +kernel
theorem int_read {n : Nat} (h1 : 1 ≤ n) (h : n ≤ 640) : ∃ m e : Nat, FloatKind.f64.format.read (floatOfInt .f64 n) = .number false m ((e : Int) - 52) ∧ 4503599627370496 ≤ m ∧ m < 9007199254740992 ∧ e ≤ 9 ∧ m * 2 ^ e = n * 4503599627370496 := by
  have h2 := List.all_eq_true.1 ints_read (n - 1) (by simpa using (by omega : n - 1 < 640))
  rw [show n - 1 + 1 = n by omega] at h2
  cases hd : FloatKind.f64.format.read (floatOfInt .f64 n) with
  | nan s t => rw [hd] at h2; cases h2
  | infinity s => rw [hd] at h2; cases h2
  | number s m i =>
    rw [hd] at h2
    cases s with
    | true => cases h2
    | false =>
      have h3 := of_decide_eq_true h2
      refine ⟨m, (i + 52).toNat, ?_, h3.1, h3.2.1, by omega, h3.2.2.2.2⟩
      congr 1
      omega
theorem quo_mag {D st g : Nat} (hg : g ≤ 9) (hst : st ≤ 1) (h1 : 2 ^ 53 ≤ D) (h2 : D + 2 ^ 40 < 2 ^ (54 + g)) (h3 : D < 2 ^ 55) :
    4557642822898941952 ≤ FloatKind.f64.format.nearest false (2 * D + st) (-(g : Int) - 55) ∧ FloatKind.f64.format.nearest false (2 * D + st) (-(g : Int) - 55) < 4607182418800017408 := by
  by_cases h4 : D < 2 ^ 54
  · obtain ⟨kept, k1, k2, k3, k4, hn⟩ := nearest64 (mag := 2 * D + st) (L := 54) (place := -(g : Int) - 55) (by omega) (by omega) (by omega)
    have k5 := k4 (by omega)
    rw [hn]
    by_cases hg0 : g = 0
    · subst hg0
      rw [Nat.add_zero] at h2
      omega
    · omega
  · obtain ⟨kept, k1, k2, k3, k4, hn⟩ := nearest64 (mag := 2 * D + st) (L := 55) (place := -(g : Int) - 55) (by omega) (by omega) (by omega)
    have k5 := k4 (by omega)
    rw [hn]
    by_cases hg0 : g = 0
    · subst hg0
      rw [Nat.add_zero] at h2
      omega
    · by_cases hg1 : g = 1
      · subst hg1
        omega
      · omega
theorem quo_key {A B e f n m : Nat} (a1 : 4503599627370496 ≤ A) (a2 : A < 9007199254740992) (a3 : e ≤ 9) (a4 : A * 2 ^ e = n * 4503599627370496) (b1 : 4503599627370496 ≤ B) (b2 : B < 9007199254740992) (b3 : f ≤ 9) (b4 : B * 2 ^ f = m * 4503599627370496) (hnm : n < m) :
    e ≤ f ∧ A * 2 ^ 54 + 2 ^ 40 * B < 2 ^ (54 + (f - e)) * B := by
  have he : e = 0 ∨ e = 1 ∨ e = 2 ∨ e = 3 ∨ e = 4 ∨ e = 5 ∨ e = 6 ∨ e = 7 ∨ e = 8 ∨ e = 9 := by omega
  have hf : f = 0 ∨ f = 1 ∨ f = 2 ∨ f = 3 ∨ f = 4 ∨ f = 5 ∨ f = 6 ∨ f = 7 ∨ f = 8 ∨ f = 9 := by omega
  clear a3 b3
  rcases he with rfl | rfl | rfl | rfl | rfl | rfl | rfl | rfl | rfl | rfl <;> rcases hf with rfl | rfl | rfl | rfl | rfl | rfl | rfl | rfl | rfl | rfl <;> simp only [Nat.reducePow, Nat.reduceAdd, Nat.reduceSub] at a4 b4 ⊢ <;> omega
theorem log52 {A : Nat} (a1 : 4503599627370496 ≤ A) (a2 : A < 9007199254740992) : A.log2 = 52 := (Nat.log2_eq_iff (by omega)).2 ⟨by omega, by omega⟩
theorem quo_read {A B : Nat} {i j : Int} (a1 : 4503599627370496 ≤ A) (a2 : A < 9007199254740992) (b1 : 4503599627370496 ≤ B) (b2 : B < 9007199254740992) :
    Ieee.Datum.quotient 54 (.number false A i) (.number false B j) = some (.number false (2 * (A * 2 ^ 54 / B) + (A * 2 ^ 54 % B != 0).toNat) (i - j - 55)) := by
  unfold Ieee.Datum.quotient
  dsimp only
  rw [if_neg (by omega), log52 a1 a2, log52 b1 b2, Nat.shiftLeft_eq]
  congr 2
  omega
theorem quo_div {n m : Nat} {A B : Nat} {i j : Int} (hA : FloatKind.f64.format.read (floatOfInt .f64 n) = .number false A i) (hB : FloatKind.f64.format.read (floatOfInt .f64 m) = .number false B j) (a1 : 4503599627370496 ≤ A) (a2 : A < 9007199254740992) (b1 : 4503599627370496 ≤ B) (b2 : B < 9007199254740992) :
    floatBits .quo .f64 (floatOfInt .f64 n) (floatOfInt .f64 m) = some (FloatKind.f64.format.nearest false (2 * (A * 2 ^ 54 / B) + (A * 2 ^ 54 % B != 0).toNat) (i - j - 55)) := by
  have h : floatBits .quo .f64 (floatOfInt .f64 n) (floatOfInt .f64 m) = ((FloatKind.f64.format.read (floatOfInt .f64 n)).quotient (FloatKind.f64.format.fractionBits + 2) (FloatKind.f64.format.read (floatOfInt .f64 m))).map FloatKind.f64.format.write := rfl
  rw [h, hA, hB, frac_f, quo_read a1 a2 b1 b2]
  rfl
theorem quo_word {n m : Nat} (h1 : 1 ≤ n) (hnm : n < m) (hm : m ≤ 640) : ∃ q, floatBits .quo .f64 (floatOfInt .f64 n) (floatOfInt .f64 m) = some q ∧ 4557642822898941952 ≤ q ∧ q < 4607182418800017408 := by
  obtain ⟨A, e, hA, a1, a2, a3, a4⟩ := int_read h1 (by omega)
  obtain ⟨B, f, hB, b1, b2, b3, b4⟩ := int_read (n := m) (by omega) hm
  obtain ⟨hef, hk⟩ := quo_key a1 a2 a3 a4 b1 b2 b3 b4 hnm
  refine ⟨_, quo_div hA hB a1 a2 b1 b2, ?_⟩
  have hpl : ((e : Int) - 52) - ((f : Int) - 52) - 55 = -((f - e : Nat) : Int) - 55 := by omega
  rw [hpl]
  have hB0 : 0 < B := by omega
  refine quo_mag (by omega) (Bool.toNat_le _) ?_ ?_ ?_
  · rw [Nat.le_div_iff_mul_le hB0]; omega
  · have hD := Nat.div_mul_le_self (A * 2 ^ 54) B
    refine Nat.lt_of_mul_lt_mul_right (a := B) ?_
    rw [Nat.add_mul]
    omega
  · rw [Nat.div_lt_iff_lt_mul hB0]
    clear hk a4 b4 hA hB hpl hef a3 b3
    simp only [Nat.reducePow]
    omega
theorem quo_self {n : Nat} (h1 : 1 ≤ n) (hm : n ≤ 640) : floatBits .quo .f64 (floatOfInt .f64 n) (floatOfInt .f64 n) = some 4607182418800017408 := by
  obtain ⟨A, e, hA, a1, a2, a3, a4⟩ := int_read h1 hm
  rw [quo_div hA hA a1 a2 a1 a2]
  have hA0 : 0 < A := by omega
  have e1 : A * 2 ^ 54 / A = 2 ^ 54 := Nat.mul_div_cancel_left _ hA0
  have e2 : A * 2 ^ 54 % A = 0 := Nat.mul_mod_right _ _
  have e3 : ((e : Int) - 52) - ((e : Int) - 52) - 55 = -55 := by omega
  rw [e1, e2, e3]
  exact congrArg some (by decide +kernel)
/-- What the words between stand for. -/
theorem read_mid {q : Nat} (h1 : 4557642822898941952 ≤ q) (h2 : q < 4607182418800017408) : ∃ (K s : Nat), FloatKind.f64.format.read q = .number false K (-(s : Int)) ∧ 4503599627370496 ≤ K ∧ K < 9007199254740992 ∧ 53 ≤ s ∧ s ≤ 63 := by
  unfold Ieee.Format.read
  simp only [sign_f, binade_f, inf_f, least_f]
  have e1 : q % 9223372036854775808 = q := by omega
  have e2 : (q / 9223372036854775808 % 2 == 1) = false := by
    have : q / 9223372036854775808 = 0 := by omega
    rw [this]; rfl
  rw [e1, e2, if_neg (by omega), if_pos (by omega)]
  refine ⟨4503599627370496 + q % 4503599627370496, 1075 - q / 4503599627370496, ?_, by omega, by omega, by omega, by omega⟩
  congr 1
  omega
theorem sub_mag {K s : Nat} (k1 : 4503599627370496 ≤ K) (k2 : K < 9007199254740992) (s1 : 53 ≤ s) (s2 : s ≤ 63) :
    0 < FloatKind.f64.format.nearest false (2 ^ s - K) (-(s : Int)) ∧ FloatKind.f64.format.nearest false (2 ^ s - K) (-(s : Int)) < 4607182418800017408 := by
  have hle : 2 ^ 53 ≤ 2 ^ s := Nat.pow_le_pow_right (by decide) s1
  have h0 : 2 ^ s - K ≠ 0 := by omega
  obtain ⟨L, hL⟩ : ∃ L, L = (2 ^ s - K).log2 := ⟨_, rfl⟩
  obtain ⟨l1, l2⟩ := (Nat.log2_eq_iff h0).1 hL.symm
  have hLs : L < s := by
    rw [hL, Nat.log2_lt h0]; omega
  obtain ⟨kept, q1, q2, q3, q4, hn⟩ := nearest64 (mag := 2 ^ s - K) (L := L) (place := -(s : Int)) l1 l2 (by omega)
  rw [hn]
  refine ⟨by omega, ?_⟩
  by_cases hc : L + 1 = s
  · by_cases h53 : s = 53
    · subst h53
      obtain rfl : L = 52 := by omega
      have := q3 (by omega)
      omega
    · have hs : s = 54 ∨ s = 55 ∨ s = 56 ∨ s = 57 ∨ s = 58 ∨ s = 59 ∨ s = 60 ∨ s = 61 ∨ s = 62 ∨ s = 63 := by omega
      have q5 := q4 (by omega)
      clear hL l1 l2 hle h0 q3 q4 hn s1 s2 hLs
      rcases hs with rfl | rfl | rfl | rfl | rfl | rfl | rfl | rfl | rfl | rfl <;> obtain rfl := Nat.succ.inj hc <;> simp only [Nat.reducePow, Nat.reduceSub] at q5 <;> omega
  · omega
theorem sub_word {q : Nat} (h1 : 4557642822898941952 ≤ q) (h2 : q < 4607182418800017408) : ∃ r, floatBits .sub .f64 4607182418800017408 q = some r ∧ 0 < r ∧ r < 4607182418800017408 := by
  obtain ⟨K, s, hr, k1, k2, s1, s2⟩ := read_mid h1 h2
  have hle : 2 ^ 53 ≤ 2 ^ s := Nat.pow_le_pow_right (by decide) s1
  have hsum : Ieee.Datum.sum (.number false 4503599627370496 (-52)) (Ieee.Datum.opposite (.number false K (-(s : Int)))) = some (.number false (2 ^ s - K) (-(s : Int))) := by
    have hmin : min (-52 : Int) (-(s : Int)) = -(s : Int) := by omega
    have e1 : (-52 - -(s : Int)).toNat = s - 52 := by omega
    have e2 : (-(s : Int) - -(s : Int)).toNat = 0 := by omega
    have e3 : 4503599627370496 <<< (s - 52) = 2 ^ s := by
      rw [Nat.shiftLeft_eq, ← p52, ← Nat.pow_add]; congr 1; omega
    unfold Ieee.Datum.opposite Ieee.Datum.sum
    dsimp only
    rw [hmin, e1, e2]
    unfold Ieee.signed
    rw [e3, Nat.shiftLeft_zero]
    simp only [Bool.false_eq_true, if_false, Bool.not_false, if_true]
    have e4 : ((2 ^ s : Nat) : Int) + -(K : Int) = ((2 ^ s - K : Nat) : Int) := by omega
    rw [e4]
    have hpos : 0 < 2 ^ s - K := by omega
    rw [if_neg (by omega), Int.natAbs_natCast]
    have e5 : decide (((2 ^ s - K : Nat) : Int) < 0) = false := by simp
    rw [e5]
  have h := sub_mag k1 k2 s1 s2
  refine ⟨_, ?_, h.1, h.2⟩
  have hd : floatBits .sub .f64 4607182418800017408 q = ((FloatKind.f64.format.read 4607182418800017408).sum (FloatKind.f64.format.read q).opposite).map FloatKind.f64.format.write := rfl
  rw [hd, read_one, hr, hsum]
  rfl
theorem order_pos {r : Nat} (h1 : 0 < r) (h2 : r < 4607182418800017408) : FloatKind.f64.format.order r 0 = some .gt ∧ FloatKind.f64.format.order r 4607182418800017408 = some .lt := by
  have h0 : FloatKind.f64.format.read 0 = .number false 0 (-1074) := by decide +kernel
  have hr : ∃ (K : Nat) (p : Int), FloatKind.f64.format.read r = .number false K p ∧ 0 < K ∧ K < 9007199254740992 ∧ -1074 ≤ p ∧ p ≤ -53 := by
    unfold Ieee.Format.read
    simp only [sign_f, binade_f, inf_f, least_f]
    have e1 : r % 9223372036854775808 = r := by omega
    have e2 : (r / 9223372036854775808 % 2 == 1) = false := by
      have : r / 9223372036854775808 = 0 := by omega
      rw [this]; rfl
    rw [e1, e2]
    by_cases hb : r < 4503599627370496
    · rw [if_pos hb]
      exact ⟨r, -1074, rfl, h1, by omega, by omega, by omega⟩
    · rw [if_neg hb, if_pos (by omega)]
      exact ⟨_, _, rfl, by omega, by omega, by omega, by omega⟩
  obtain ⟨K, p, hr, k1, k2, p1, p2⟩ := hr
  have o : ∀ x, FloatKind.f64.format.order r x = (FloatKind.f64.format.read r).order (FloatKind.f64.format.read x) := fun _ => rfl
  rw [o, o, hr, h0, read_one]
  unfold Ieee.Datum.order Ieee.signed
  dsimp only
  simp only [Bool.false_eq_true, if_false]
  have m1 : min p (-1074) = -1074 := by omega
  have m2 : min p (-52) = p := by omega
  have m3 : (p - p).toNat = 0 := by omega
  rw [m1, m2, m3, Nat.shiftLeft_zero, Nat.zero_shiftLeft]
  constructor
  · have hp : 0 < K <<< (p - -1074).toNat := by
      rw [Nat.shiftLeft_eq]; exact Nat.mul_pos k1 (Nat.two_pow_pos _)
    generalize K <<< (p - -1074).toNat = x at *
    have : compare ((x : Nat) : Int) ((0 : Nat) : Int) = .gt := by
      show compareOfLessAndEq _ _ = _
      unfold compareOfLessAndEq
      rw [if_neg (by omega), if_neg (by omega)]
    rw [this]
  · have hp : K < 4503599627370496 <<< (-52 - p).toNat := by
      rw [Nat.shiftLeft_eq]
      have : 2 ^ 1 ≤ 2 ^ (-52 - p).toNat := Nat.pow_le_pow_right (by decide) (by omega)
      omega
    generalize 4503599627370496 <<< (-52 - p).toNat = x at *
    have : compare ((K : Nat) : Int) ((x : Nat) : Int) = .lt := by
      show compareOfLessAndEq _ _ = _
      unfold compareOfLessAndEq
      rw [if_pos (by omega)]
    rw [this]
/-- One less a part lies between 0 and 1, and is 0 just where the part is whole. -/
theorem brk_law {n m r : Nat} (h1 : 1 ≤ n) (hnm : n ≤ m) (hm : m ≤ 640) (h : brk n m = some r) : (n = m ∧ r = 0) ∨ (n < m ∧ FloatKind.f64.format.order r 0 = some .gt ∧ FloatKind.f64.format.order r 4607182418800017408 = some .lt) := by
  by_cases he : n = m
  · subst he
    unfold brk at h
    rw [quo_self h1 hm] at h
    have h3 := fl3
    dsimp only at h
    rw [h3] at h
    injection h with h
    exact Or.inl ⟨rfl, h.symm⟩
  · obtain ⟨q, hq, q1, q2⟩ := quo_word h1 (by omega) hm
    obtain ⟨r', hr, r1, r2⟩ := sub_word q1 q2
    unfold brk at h
    rw [hq] at h
    dsimp only at h
    rw [hr] at h
    injection h with h
    subst h
    exact Or.inr ⟨by omega, order_pos r1 r2⟩
end Go.Proofs.Ytddbcpmhgjkjpaa
