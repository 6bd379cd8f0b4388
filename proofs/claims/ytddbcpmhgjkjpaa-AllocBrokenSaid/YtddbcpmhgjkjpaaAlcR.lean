/- Parts as floats: what one less a part is, or that it is no number; the order of floats. Conditions: numbers fit. -/
import Derived.Test.YtddbcpmhgjkjpaaAlcH
import Derived.Test.YtddbcpmhgjkjpaaRunsQ
namespace Go.Proofs.Ytddbcpmhgjkjpaa
open Go.RowKit

/-- No number. -/
def NaNB (r : Nat) : Prop := ∃ s t, FloatKind.f64.format.read r = .nan s t
def NumB (r : Nat) : Prop := ∀ s t, FloatKind.f64.format.read r ≠ .nan s t
theorem nan_order {r : Nat} (h : NaNB r) (x : Nat) : FloatKind.f64.format.order r x = none := by
  obtain ⟨s, t, h⟩ := h
  unfold Ieee.Format.order
  rw [h]; rfl
theorem cmp_self (x : Int) : compare x x = .eq := by simp [compare, compareOfLessAndEq]
theorem order_self {r : Nat} (h : NumB r) : FloatKind.f64.format.order r r = some .eq := by
  unfold Ieee.Format.order
  cases hd : FloatKind.f64.format.read r with
  | nan s t => exact absurd hd (h s t)
  | infinity s =>
    exact congrArg some (show compare s.toNat s.toNat = .eq by simp [compare, compareOfLessAndEq])
  | number s m i =>
    exact congrArg some (cmp_self _)
theorem nan_cut (x y t : Nat) : NaNB (Question.cut (.nanBits .f64 x y) t) := by
  unfold NaNB Ieee.Format.read
  have h : Question.cut (.nanBits .f64 x y) t = (t % 2) * 2 ^ 63 + 0x7ff0000000000000 + 1 + (t / 2) % (2 ^ 52 - 1) := rfl
  have h2 : (FloatKind.f64.format.signWeight) = 2 ^ 63 := by decide
  have h3 : FloatKind.f64.format.binade = 2 ^ 52 := by decide
  have h4 : FloatKind.f64.format.infRung = 0x7ff0000000000000 := by decide
  have h5 : Question.cut (.nanBits .f64 x y) t % 2 ^ 63 = 0x7ff0000000000000 + 1 + (t / 2) % (2 ^ 52 - 1) := by rw [h]; omega
  simp only [h2, h3, h4, h5]
  rw [if_neg (by omega), if_neg (by omega), if_neg (by omega)]
  exact ⟨_, _, rfl⟩
theorem nan_sub {r : Nat} (h : NaNB r) (x : Nat) : floatBits .sub .f64 x r = none := by
  obtain ⟨s, t, h⟩ := h
  show Ieee.Format.sub _ _ _ = none
  unfold Ieee.Format.sub
  rw [h]
  cases FloatKind.f64.format.read x <;> rfl
/-- What is written is a number. -/
theorem num_write (d : Ieee.Datum) (hd : ∀ s t, d ≠ .nan s t) : NumB (FloatKind.f64.format.write d) := by
  have h2 : (FloatKind.f64.format.signWeight) = 2 ^ 63 := by decide
  have h3 : FloatKind.f64.format.binade = 2 ^ 52 := by decide
  have h4 : FloatKind.f64.format.infRung = 0x7ff0000000000000 := by decide
  have key : ∀ (neg : Bool) (rung : Nat), rung ≤ 0x7ff0000000000000 → NumB (FloatKind.f64.format.word neg rung) := by
    intro neg rung hr s t
    have h5 : FloatKind.f64.format.word neg rung % 2 ^ 63 = rung := by
      unfold Ieee.Format.word
      rw [h2]
      split <;> omega
    unfold Ieee.Format.read
    simp only [h2, h3, h4, h5]
    split
    · nofun
    · split
      · nofun
      · rw [if_pos (by omega)]; nofun
  cases d with
  | nan s t => exact absurd rfl (hd s t)
  | infinity neg => exact key neg _ (by rw [h4]; exact Nat.le_refl _)
  | number neg mag place =>
    show NumB (FloatKind.f64.format.nearest neg mag place)
    unfold Ieee.Format.nearest
    dsimp only
    split
    · exact key neg 0 (by omega)
    · exact key neg _ (by rw [h4]; exact Nat.min_le_right _ _)
theorem num_map {d : Option Ieee.Datum} {r : Nat} (hd : ∀ s t, d ≠ some (.nan s t)) (h : d.map FloatKind.f64.format.write = some r) : NumB r := by
  cases d with
  | none => cases h
  | some d =>
    cases h
    exact num_write d fun s t e => hd s t (by rw [e])
/-- The numbers that there can be, as floats. -/
theorem ints_num : (List.range 641).all (fun n => match FloatKind.f64.format.read (floatOfInt .f64 n) with | .number _ m _ => decide (m = 0 → n = 0) | _ => false) = true := by decide +kernel
theorem int_num {n : Nat} (h : n ≤ 640) : ∃ s m i, FloatKind.f64.format.read (floatOfInt .f64 n) = .number s m i ∧ (m = 0 → n = 0) := by
  have h1 := List.all_eq_true.1 ints_num n (by simpa using (by omega : n < 641))
  cases hd : FloatKind.f64.format.read (floatOfInt .f64 n) with
  | nan s t => rw [hd] at h1; cases h1
  | infinity s => rw [hd] at h1; cases h1
  | number s m i =>
    rw [hd] at h1
    exact ⟨s, m, i, rfl, of_decide_eq_true h1⟩
theorem read_one : FloatKind.f64.format.read 4607182418800017408 = .number false 4503599627370496 (-52) := by decide +kernel
/-- One less the part, as floats. -/
def brk (n m : Nat) : Option Nat := match floatBits .quo .f64 (floatOfInt .f64 n) (floatOfInt .f64 m) with | some q => floatBits .sub .f64 4607182418800017408 q | none => none
theorem sub_one {q : Nat} (h : NumB q) : ∃ r, floatBits .sub .f64 4607182418800017408 q = some r ∧ NumB r := by
  have hs : ∃ d, ((FloatKind.f64.format.read 4607182418800017408).sum (FloatKind.f64.format.read q).opposite) = some d ∧ ∀ s t, d ≠ .nan s t := by
    rw [read_one]
    cases hd : FloatKind.f64.format.read q with
    | nan s t => exact absurd hd (h s t)
    | infinity s => exact ⟨_, rfl, nofun⟩
    | number s m i => exact ⟨_, rfl, nofun⟩
  obtain ⟨d, hd, hn⟩ := hs
  refine ⟨FloatKind.f64.format.write d, ?_, num_write d hn⟩
  show Ieee.Format.sub _ _ _ = _
  unfold Ieee.Format.sub
  rw [hd]; rfl
theorem quo_num {n m : Nat} (hn : n ≤ 640) (hm : m ≤ 640) (h0 : m ≠ 0) : ∃ q, floatBits .quo .f64 (floatOfInt .f64 n) (floatOfInt .f64 m) = some q ∧ NumB q := by
  obtain ⟨s1, m1, i1, e1, _⟩ := int_num hn
  obtain ⟨s2, m2, i2, e2, z2⟩ := int_num hm
  have hz : m2 ≠ 0 := fun e => h0 (z2 e)
  have hs : ∃ d, ((FloatKind.f64.format.read (floatOfInt .f64 n)).quotient (FloatKind.f64.format.fractionBits + 2) (FloatKind.f64.format.read (floatOfInt .f64 m))) = some d ∧ ∀ s t, d ≠ .nan s t := by
    rw [e1, e2]
    unfold Ieee.Datum.quotient
    simp only [if_neg hz]
    exact ⟨_, rfl, nofun⟩
  obtain ⟨d, hd, hn⟩ := hs
  refine ⟨FloatKind.f64.format.write d, ?_, num_write d hn⟩
  show Ieee.Format.div _ _ _ = _
  unfold Ieee.Format.div
  rw [hd]; rfl
theorem one_quo {x : Nat} (h : NumB x) : ∃ q, floatBits .quo .f64 4607182418800017408 x = some q := by
  have hs : ∃ d, ((FloatKind.f64.format.read 4607182418800017408).quotient (FloatKind.f64.format.fractionBits + 2) (FloatKind.f64.format.read x)) = some d := by
    rw [read_one]
    cases hd : FloatKind.f64.format.read x with
    | nan s t => exact absurd hd (h s t)
    | infinity s => exact ⟨_, rfl⟩
    | number s m i =>
      unfold Ieee.Datum.quotient
      by_cases hm : m = 0
      · simp only [if_pos hm, if_neg (show (4503599627370496 : Nat) ≠ 0 by decide)]; exact ⟨_, rfl⟩
      · simp only [if_neg hm]; exact ⟨_, rfl⟩
  obtain ⟨d, hd⟩ := hs
  refine ⟨FloatKind.f64.format.write d, ?_⟩
  show Ieee.Format.div _ _ _ = _
  unfold Ieee.Format.div
  rw [hd]; rfl
theorem quo_zero : floatBits .quo .f64 0 0 = none := by decide +kernel
theorem run_float_none {P : Program} (w : World) (op : BinOp) (hop : op = .sub ∨ op = .quo) (t : TypeId) (x y : Nat) (h : floatBits op .f64 x y = none) : ∃ r, NaNB r ∧ (binOp op t (.float .f64 x) (.float .f64 y)).run P w = .ok (.float .f64 r) w.drew := by
  refine ⟨_, nan_cut x y (w.tape w.drawn (.nanBits .f64 x y)), ?_⟩
  rcases hop with rfl | rfl
  · have h' : FloatKind.f64.format.sub x y = none := h
    simp [binOp, Op.floatArith, h', Question.forced]
  · have h' : FloatKind.f64.format.div x y = none := h
    simp [binOp, Op.floatArith, h', Question.forced]
end Go.Proofs.Ytddbcpmhgjkjpaa
