/- Plain laws of tables of slots: what may be, what is used, taken, referred to, given back, committed. No program in sight. -/
import Derived.Test.YtddbcpmhgjkjpaaRunsQ
namespace Go.Proofs.Ytddbcpmhgjkjpaa

/-- A slot: where, how many sectors, how often referred to, old. -/
abbrev Us := Int × Int × Int × Bool
def oneU (u : Us) : Bool := decide (1 ≤ u.2.1 ∧ u.2.1 ≤ 8 ∧ 0 ≤ u.1 ∧ u.1 + u.2.1 ≤ 16 ∧ 0 ≤ u.2.2.1 ∧ u.2.2.1 ≤ 1000000 ∧ (0 < u.2.2.1 ∨ u.2.2.2 = true))
theorem oneU_iff {u : Us} : oneU u = true ↔ 1 ≤ u.2.1 ∧ u.2.1 ≤ 8 ∧ 0 ≤ u.1 ∧ u.1 + u.2.1 ≤ 16 ∧ 0 ≤ u.2.2.1 ∧ u.2.2.1 ≤ 1000000 ∧ (0 < u.2.2.1 ∨ u.2.2.2 = true) := decide_eq_true_iff
def mayG : Int → List Us → Bool
  | _, [] => true
  | e, u :: l => oneU u && decide (e ≤ u.1) && mayG (u.1 + u.2.1) l
def endG : Int → List Us → Int
  | e, [] => e
  | _, u :: l => endG (u.1 + u.2.1) l
def mayU (l : List Us) : Bool := mayG 0 l
theorem mayG_cons {e : Int} {u : Us} {l : List Us} : mayG e (u :: l) = true ↔ oneU u = true ∧ e ≤ u.1 ∧ mayG (u.1 + u.2.1) l = true := by
  rw [mayG, Bool.and_eq_true, Bool.and_eq_true, decide_eq_true_eq, and_assoc]
theorem mayG_append (a b : List Us) : ∀ e, mayG e (a ++ b) = (mayG e a && mayG (endG e a) b) := by
  induction a with
  | nil => intro e; rfl
  | cons u a ih => intro e; rw [List.cons_append, mayG, mayG, ih, endG]; simp only [Bool.and_assoc]
theorem endG_append (a b : List Us) : ∀ e, endG e (a ++ b) = endG (endG e a) b := by
  induction a with
  | nil => intro e; rfl
  | cons u a ih => intro e; rw [List.cons_append, endG, ih]; rfl
theorem mayG_end {l : List Us} : ∀ {e : Int}, 0 ≤ e → e ≤ 16 → mayG e l = true → e ≤ endG e l ∧ endG e l ≤ 16 := by
  induction l with
  | nil => intro e h0 h1 _; exact ⟨Int.le_refl _, h1⟩
  | cons u l ih =>
    intro e h0 h1 h
    obtain ⟨h2, h3, h4⟩ := mayG_cons.1 h
    have h5 := oneU_iff.1 h2
    have := ih (by omega) (by omega) h4
    rw [endG]; omega
theorem mayG_snoc {e : Int} {l : List Us} {u : Us} : mayG e (l ++ [u]) = true ↔ mayG e l = true ∧ oneU u = true ∧ endG e l ≤ u.1 := by
  rw [mayG_append, Bool.and_eq_true, mayG_cons]
  simp [mayG]
theorem mayU_take {l : List Us} {k : Nat} (h : mayU l = true) : mayU (l.take k) = true := by
  have : mayU (l.take k ++ l.drop k) = true := by rw [List.take_append_drop]; exact h
  unfold mayU at this ⊢
  rw [mayG_append, Bool.and_eq_true] at this
  exact this.1
/-- Slots apart, one behind the other. -/
def Apt (a b : Us) : Prop := a.1 + a.2.1 ≤ b.1
theorem mayG_iff {l : List Us} : ∀ {e : Int}, mayG e l = true ↔ (∀ u ∈ l, oneU u = true ∧ e ≤ u.1) ∧ l.Pairwise Apt := by
  induction l with
  | nil => intro e; simp [mayG]
  | cons u l ih =>
    intro e
    rw [mayG_cons, ih, List.pairwise_cons]
    constructor
    · rintro ⟨h1, h2, h3, h4⟩
      have h5 := oneU_iff.1 h1
      refine ⟨fun x hx => ?_, fun x hx => (h3 x hx).2, h4⟩
      rcases List.mem_cons.1 hx with rfl | hx
      · exact ⟨h1, h2⟩
      · have := h3 x hx
        exact ⟨this.1, by omega⟩
    · rintro ⟨h1, h2, h3⟩
      have := h1 u (List.mem_cons_self ..)
      exact ⟨this.1, this.2, fun x hx => ⟨(h1 x (List.mem_cons_of_mem _ hx)).1, h2 x hx⟩, h3⟩
theorem mayU_iff {l : List Us} : mayU l = true ↔ (∀ u ∈ l, oneU u = true) ∧ l.Pairwise Apt := by
  unfold mayU
  rw [mayG_iff]
  constructor
  · rintro ⟨h1, h2⟩; exact ⟨fun u hu => (h1 u hu).1, h2⟩
  · rintro ⟨h1, h2⟩; exact ⟨fun u hu => ⟨h1 u hu, (oneU_iff.1 (h1 u hu)).2.2.1⟩, h2⟩
theorem mayU_cons {u : Us} {l : List Us} : mayU (u :: l) = true ↔ oneU u = true ∧ (∀ x ∈ l, Apt u x) ∧ mayU l = true := by
  rw [mayU_iff, mayU_iff, List.pairwise_cons]
  constructor
  · rintro ⟨h1, h2, h3⟩; exact ⟨h1 u (List.mem_cons_self ..), h2, fun x hx => h1 x (List.mem_cons_of_mem _ hx), h3⟩
  · rintro ⟨h1, h2, h3, h4⟩
    refine ⟨fun x hx => ?_, h2, h4⟩
    rcases List.mem_cons.1 hx with rfl | hx
    · exact h1
    · exact h3 x hx
theorem mayU_len {l : List Us} (h : mayU l = true) : l.length ≤ 16 := by
  have : ∀ (l : List Us) (e : Int), 0 ≤ e → mayG e l = true → (l.length : Int) + e ≤ endG e l := by
    intro l
    induction l with
    | nil => intro e _ _; simp [endG]
    | cons u l ih =>
      intro e h0 h
      obtain ⟨h2, h3, h4⟩ := mayG_cons.1 h
      have h5 := oneU_iff.1 h2
      have := ih _ (by omega) h4
      rw [endG, List.length_cons]; omega
  have h1 := this l 0 (by omega) h
  have h2 := (mayG_end (by omega) (by omega) h).2
  omega

/-- The sectors that slots have. -/
def inU (u : Us) (s : Nat) : Bool := decide (u.1 ≤ s ∧ (s : Int) < u.1 + u.2.1)
def hasU (l : List Us) (s : Nat) : Bool := l.any fun u => inU u s
def usedL (l : List Us) : List Bool := (List.range 16).map (hasU l)
def usedU (l : List Us) : List Bool := if mayU l = true then usedL l else []
theorem usedL_length (l : List Us) : (usedL l).length = 16 := by simp [usedL]
theorem usedL_get (l : List Us) {s : Nat} (h : s < 16) : (usedL l).getD s true = hasU l s := by
  simp [usedL, List.getD_eq_getElem?_getD, h]

/-- The number of references to the slot at a place. -/
def countU : List Us → Int → Int
  | [], _ => 0
  | u :: l, a => if u.1 = a then u.2.2.1 else countU l a
def findU : List Us → Int → Option Nat
  | [], _ => none
  | u :: l, a => if u.1 = a then some 0 else (findU l a).map (· + 1)
theorem findU_some {l : List Us} {a : Int} : ∀ {i : Nat}, findU l a = some i ↔ ∃ h : i < l.length, l[i].1 = a ∧ ∀ j (hj : j < l.length), j < i → l[j].1 ≠ a := by
  induction l with
  | nil => intro i; simp [findU]
  | cons u l ih =>
    intro i
    rw [findU]
    by_cases h : u.1 = a
    · rw [if_pos h]
      constructor
      · intro e; injection e with e; subst e; exact ⟨by simp, h, fun j _ hj => by omega⟩
      · rintro ⟨h1, h2, h3⟩
        cases i with
        | zero => rfl
        | succ i => exact absurd h (h3 0 (by simp) (by omega))
    · rw [if_neg h]
      cases i with
      | zero =>
        constructor
        · intro e; cases hf : findU l a <;> simp [hf] at e
        · rintro ⟨h1, h2, h3⟩; exact absurd h2 h
      | succ i =>
        have := ih (i := i)
        constructor
        · intro e
          obtain ⟨h1, h2, h3⟩ := this.1 (by cases hf : findU l a with | none => simp [hf] at e | some k => simp [hf] at e; subst e; rfl)
          refine ⟨by simpa using h1, by simpa using h2, fun j hj hji => ?_⟩
          cases j with
          | zero => exact h
          | succ j => simpa using h3 j (by simpa using hj) (by omega)
        · rintro ⟨h1, h2, h3⟩
          rw [this.2 ⟨by simpa using h1, by simpa using h2, fun j hj hji hq => h3 (j + 1) (by simpa using hj) (by omega) (by simpa using hq)⟩]; rfl
theorem findU_none {l : List Us} {a : Int} : findU l a = none ↔ ∀ u ∈ l, u.1 ≠ a := by
  induction l with
  | nil => simp [findU]
  | cons u l ih =>
    rw [findU]
    by_cases h : u.1 = a
    · rw [if_pos h]; simp [h]
    · rw [if_neg h]; simp [h, ih]
theorem countU_find {l : List Us} {a : Int} {i : Nat} (h : findU l a = some i) : ∃ hi : i < l.length, countU l a = l[i].2.2.1 := by
  induction l generalizing i with
  | nil => cases h
  | cons u l ih =>
    rw [findU] at h
    by_cases e : u.1 = a
    · rw [if_pos e] at h; injection h with h; subst h
      exact ⟨by simp, by rw [countU, if_pos e]; rfl⟩
    · rw [if_neg e] at h
      cases hf : findU l a with
      | none => simp [hf] at h
      | some k =>
        simp [hf] at h; subst h
        obtain ⟨h1, h2⟩ := ih hf
        exact ⟨by simpa using h1, by rw [countU, if_neg e, h2]; rfl⟩
theorem countU_none {l : List Us} {a : Int} (h : findU l a = none) : countU l a = 0 := by
  induction l with
  | nil => rfl
  | cons u l ih =>
    rw [findU] at h
    by_cases e : u.1 = a
    · rw [if_pos e] at h; cases h
    · rw [if_neg e] at h
      rw [countU, if_neg e]
      exact ih (by cases hf : findU l a with | none => rfl | some k => simp [hf] at h)
theorem countU_mem {l : List Us} (h : mayU l = true) {u : Us} (hu : u ∈ l) : countU l u.1 = u.2.2.1 := by
  induction l with
  | nil => cases hu
  | cons x l ih =>
    obtain ⟨h1, h2, h3⟩ := mayU_cons.1 h
    rw [countU]
    rcases List.mem_cons.1 hu with rfl | hu
    · rw [if_pos rfl]
    · have ha := h2 u hu
      unfold Apt at ha
      have := oneU_iff.1 h1
      rw [if_neg (by omega)]
      exact ih h3 hu
theorem countU_zero {l : List Us} {a : Int} (h : ∀ u ∈ l, u.1 ≠ a) : countU l a = 0 := countU_none (findU_none.2 h)
theorem countU_rg {l : List Us} (h : mayU l = true) (a : Int) : 0 ≤ countU l a ∧ countU l a ≤ 1000000 := by
  cases hf : findU l a with
  | none => rw [countU_none hf]; omega
  | some i =>
    obtain ⟨hi, e⟩ := countU_find hf
    have := oneU_iff.1 ((mayU_iff.1 h).1 _ (List.getElem_mem hi))
    rw [e]; omega

/-- What a commit leaves. -/
def oldU (u : Us) : Us := (u.1, u.2.1, u.2.2.1, true)
def commitL (l : List Us) : List Us := (l.filter fun u => decide (0 < u.2.2.1)).map oldU
def commitU (l : List Us) : List Us := if mayU l = true then commitL l else []
/-- A count changed by some. -/
def turn1 (a b : Int) (u : Us) : Us := if u.1 = a then (u.1, u.2.1, u.2.2.1 + b, u.2.2.2) else u
def keepU (u : Us) : Bool := decide (0 < u.2.2.1) || u.2.2.2
def turnL (l : List Us) (a b : Int) : List Us := (l.map (turn1 a b)).filter keepU
def turnOk (l : List Us) (a b : Int) : Bool := mayU l && decide (countU l a ≠ 0) && decide (countU l a + b ≤ 1000000)
def turnU (l : List Us) (a b : Int) : List Us := if turnOk l a b = true then turnL l a b else []
/-- A slot laid where it belongs. -/
def insU : List Us → Us → List Us
  | [], u => [u]
  | x :: l, u => if x.1 < u.1 then x :: insU l u else u :: x :: l
def takeAt (l : List Us) (n : Int) : Int := if mayU l = true ∧ 1 ≤ n ∧ n ≤ 8 then firstP (usedL l) n else -1
def takeOk (l : List Us) (n : Int) : Bool := decide (0 ≤ takeAt l n)
def takeU (l : List Us) (n : Int) : List Us := if takeOk l n = true then insU l (takeAt l n, n, 1, false) else []
def takeP (l : List Us) (n : Int) : Int := if takeOk l n = true then takeAt l n else 0

theorem takeOk_parts {l : List Us} {n : Int} (h : takeOk l n = true) : mayU l = true ∧ 1 ≤ n ∧ n ≤ 8 ∧ ∃ a : Nat, takeAt l n = a ∧ firstP (usedL l) n = a ∧ fits (usedL l) a n.toNat = true := by
  unfold takeOk takeAt at h
  rw [decide_eq_true_eq] at h
  by_cases hc : mayU l = true ∧ 1 ≤ n ∧ n ≤ 8
  · rw [if_pos hc] at h
    refine ⟨hc.1, hc.2.1, hc.2.2, ?_⟩
    rcases firstP_cases (usedL l) hc.2.1 with ⟨e, _⟩ | ⟨a, e, h1, _⟩
    · rw [e] at h; omega
    · exact ⟨a, by rw [takeAt, if_pos hc, e], e, h1⟩
  · rw [if_neg hc] at h; omega
/-- Slots lie apart of a place that fits. -/
theorem fits_apart {l : List Us} (h : mayU l = true) {a n : Nat} (hn : 1 ≤ n) (hf : fits (usedL l) a n = true) : ∀ u ∈ l, u.1 + u.2.1 ≤ a ∨ (a : Int) + n ≤ u.1 := by
  intro u hu
  obtain ⟨h1, h2⟩ := fits_iff.1 hf
  rw [usedL_length] at h1
  have h3 := oneU_iff.1 ((mayU_iff.1 h).1 u hu)
  have key : ∀ s : Nat, a ≤ s → s < a + n → ¬ (u.1 ≤ (s : Int) ∧ (s : Int) < u.1 + u.2.1) := fun s hs1 hs2 hc => by
    have := h2 (s - a) (by omega)
    rw [show a + (s - a) = s by omega, usedL_get l (by omega)] at this
    unfold hasU at this
    rw [List.any_eq_false] at this
    exact this u hu (by unfold inU; simpa using hc)
  by_cases hlt : u.1 < a
  · left
    have := key a (Nat.le_refl _) (by omega)
    omega
  · right
    have := key u.1.toNat (by omega) 
    omega
theorem fits_room {l : List Us} {a n : Nat} (hf : fits (usedL l) a n = true) : a + n ≤ 16 := by
  have := (fits_iff.1 hf).1
  rwa [usedL_length] at this
theorem insU_mem {l : List Us} {u x : Us} : x ∈ insU l u ↔ x = u ∨ x ∈ l := by
  induction l with
  | nil => simp [insU]
  | cons y l ih =>
    rw [insU]
    split
    · rw [List.mem_cons, ih, List.mem_cons]
      constructor
      · rintro (h | h | h) <;> simp [h]
      · rintro (h | h | h) <;> simp [h]
    · simp
theorem insU_length (l : List Us) (u : Us) : (insU l u).length = l.length + 1 := by
  induction l with
  | nil => rfl
  | cons y l ih =>
    rw [insU]
    split
    · rw [List.length_cons, ih, List.length_cons]
    · rfl
theorem insU_may {l : List Us} (h : mayU l = true) {u : Us} (hu : oneU u = true) (ha : ∀ x ∈ l, x.1 + x.2.1 ≤ u.1 ∨ u.1 + u.2.1 ≤ x.1) : mayU (insU l u) = true := by
  induction l with
  | nil => rw [insU, mayU_cons]; exact ⟨hu, fun x hx => (by cases hx), rfl⟩
  | cons y l ih =>
    obtain ⟨h1, h2, h3⟩ := mayU_cons.1 h
    have hy := ha y (List.mem_cons_self ..)
    have h4 := oneU_iff.1 h1
    have h5 := oneU_iff.1 hu
    rw [insU]
    by_cases hlt : y.1 < u.1
    · rw [if_pos hlt, mayU_cons]
      refine ⟨h1, fun x hx => ?_, ih h3 (fun x hx => ha x (List.mem_cons_of_mem _ hx))⟩
      rcases insU_mem.1 hx with rfl | hx
      · unfold Apt; omega
      · exact h2 x hx
    · rw [if_neg hlt, mayU_cons]
      refine ⟨hu, fun x hx => ?_, h⟩
      rcases List.mem_cons.1 hx with rfl | hx
      · unfold Apt; omega
      · have := h2 x hx
        unfold Apt at this ⊢; omega
theorem take_may {l : List Us} {n : Int} (h : takeOk l n = true) : mayU (takeU l n) = true := by
  obtain ⟨h1, h2, h3, a, h4, h5, h6⟩ := takeOk_parts h
  rw [takeU, if_pos h, h4]
  have hr := fits_room h6
  refine insU_may h1 (oneU_iff.2 ⟨h2, h3, by simp, ?_, by simp, by simp, Or.inl (by simp)⟩) (fun x hx => ?_)
  · simp only; omega
  · have := fits_apart h1 (by omega) h6 x hx
    simp only; omega
theorem turnL_may {l : List Us} (h : mayU l = true) {a b : Int} (hb : ∀ u ∈ l, u.1 = a → 0 ≤ u.2.2.1 + b ∧ u.2.2.1 + b ≤ 1000000) : mayU (turnL l a b) = true := by
  rw [mayU_iff] at h ⊢
  obtain ⟨h1, h2⟩ := h
  constructor
  · intro u hu
    obtain ⟨hu, hk⟩ := List.mem_filter.1 hu
    obtain ⟨x, hx, rfl⟩ := List.mem_map.1 hu
    have h3 := oneU_iff.1 (h1 x hx)
    unfold keepU at hk
    rw [oneU_iff]
    unfold turn1 at hk ⊢
    by_cases e : x.1 = a
    · rw [if_pos e] at hk ⊢
      have := hb x hx e
      simp only [Bool.or_eq_true, decide_eq_true_eq] at hk
      simp only
      exact ⟨h3.1, h3.2.1, h3.2.2.1, h3.2.2.2.1, this.1, this.2, hk⟩
    · rw [if_neg e]; exact h3
  · refine List.Pairwise.filter _ ?_
    rw [List.pairwise_map]
    refine h2.imp fun {x y} hxy => ?_
    have e : ∀ z : Us, (turn1 a b z).1 = z.1 ∧ (turn1 a b z).2.1 = z.2.1 := fun z => by unfold turn1; split <;> exact ⟨rfl, rfl⟩
    unfold Apt at hxy ⊢
    rw [(e x).1, (e x).2, (e y).1]; exact hxy
theorem turnOk_parts {l : List Us} {a b : Int} (h : turnOk l a b = true) : mayU l = true ∧ 1 ≤ countU l a ∧ countU l a + b ≤ 1000000 := by
  unfold turnOk at h
  rw [Bool.and_eq_true, Bool.and_eq_true, decide_eq_true_eq, decide_eq_true_eq] at h
  have := countU_rg h.1.1 a
  exact ⟨h.1.1, by have := h.1.2; omega, h.2⟩
theorem turn_may {l : List Us} {a b : Int} (h : turnOk l a b = true) (hb : -1 ≤ b) : mayU (turnU l a b) = true := by
  obtain ⟨h1, h2, h3⟩ := turnOk_parts h
  rw [turnU, if_pos h]
  refine turnL_may h1 fun u hu e => ?_
  have := countU_mem h1 hu
  rw [e] at this
  omega
theorem commit_may {l : List Us} (h : mayU l = true) : mayU (commitL l) = true := by
  rw [mayU_iff] at h ⊢
  obtain ⟨h1, h2⟩ := h
  constructor
  · intro u hu
    obtain ⟨x, hx, rfl⟩ := List.mem_map.1 hu
    have := oneU_iff.1 (h1 x (List.mem_filter.1 hx).1)
    rw [oneU_iff]
    exact ⟨this.1, this.2.1, this.2.2.1, this.2.2.2.1, this.2.2.2.2.1, this.2.2.2.2.2.1, Or.inr rfl⟩
  · rw [commitL, List.pairwise_map]
    exact (List.Pairwise.filter _ h2).imp fun {x y} hxy => hxy

/-- Is there an old slot where another one is, of its length? -/
def hasOld (l : List Us) (u : Us) : Bool := l.any fun x => decide (x.1 = u.1 ∧ x.2.1 = u.2.1 ∧ x.2.2.2 = true)
theorem hasOld_iff {l : List Us} {u : Us} : hasOld l u = true ↔ ∃ x ∈ l, x.1 = u.1 ∧ x.2.1 = u.2.1 ∧ x.2.2.2 = true := by
  unfold hasOld; rw [List.any_eq_true]; simp
theorem take_old {l : List Us} {n : Int} (h : takeOk l n = true) {u : Us} (hu : hasOld l u = true) : hasOld (takeU l n) u = true := by
  obtain ⟨x, hx, hq⟩ := hasOld_iff.1 hu
  rw [takeU, if_pos h]
  exact hasOld_iff.2 ⟨x, insU_mem.2 (Or.inr hx), hq⟩
theorem turn_old {l : List Us} {a b : Int} (h : turnOk l a b = true) {u : Us} (hu : hasOld l u = true) : hasOld (turnU l a b) u = true := by
  obtain ⟨x, hx, h1, h2, h3⟩ := hasOld_iff.1 hu
  rw [turnU, if_pos h]
  have e : (turn1 a b x).1 = x.1 ∧ (turn1 a b x).2.1 = x.2.1 ∧ (turn1 a b x).2.2.2 = x.2.2.2 := by unfold turn1; split <;> exact ⟨rfl, rfl, rfl⟩
  refine hasOld_iff.2 ⟨turn1 a b x, List.mem_filter.2 ⟨List.mem_map.2 ⟨x, hx, rfl⟩, by unfold keepU; rw [e.2.2, h3]; simp⟩, by rw [e.1]; exact h1, by rw [e.2.1]; exact h2, by rw [e.2.2]; exact h3⟩

/-- Slots of a table that may be stay, where nothing is turned. -/
theorem keep_all {l : List Us} (h : ∀ u ∈ l, oneU u = true) : l.filter keepU = l := by
  rw [List.filter_eq_self]
  intro u hu
  have := (oneU_iff.1 (h u hu)).2.2.2.2.2.2
  unfold keepU
  rw [Bool.or_eq_true, decide_eq_true_eq]; exact this
theorem turn_none {l : List Us} {a b : Int} (h : ∀ u ∈ l, u.1 ≠ a) (h1 : ∀ u ∈ l, oneU u = true) : turnL l a b = l := by
  unfold turnL
  rw [show l.map (turn1 a b) = l from by
    conv => rhs; rw [← List.map_id l]
    exact List.map_congr_left fun u hu => by unfold turn1; rw [if_neg (h u hu)]; rfl]
  exact keep_all h1
theorem turn_ins {l : List Us} (h : mayU l = true) {u : Us} (h1 : u.2.2.1 = 1) (h0 : u.2.2.2 = false) (ha : ∀ x ∈ l, x.1 ≠ u.1) : turnL (insU l u) u.1 (-1) = l := by
  induction l with
  | nil =>
    unfold turnL insU turn1 keepU
    simp [h1, h0]
  | cons y l ih =>
    obtain ⟨g1, g2, g3⟩ := mayU_cons.1 h
    have hy := ha y (List.mem_cons_self ..)
    have hk : keepU y = true := by
      have := (oneU_iff.1 g1).2.2.2.2.2.2
      unfold keepU; rw [Bool.or_eq_true, decide_eq_true_eq]; exact this
    rw [insU]
    split
    · have := ih g3 (fun x hx => ha x (List.mem_cons_of_mem _ hx))
      unfold turnL at this ⊢
      rw [List.map_cons, show turn1 u.1 (-1) y = y from if_neg hy, List.filter_cons, if_pos hk, this]
    · have e : turnL (u :: y :: l) u.1 (-1) = turnL (y :: l) u.1 (-1) := by
        unfold turnL
        rw [List.map_cons, List.filter_cons, if_neg]
        unfold turn1 keepU
        simp [h1, h0]
      rw [e]
      exact turn_none ha (mayU_iff.1 h).1
theorem insU_count {l : List Us} {u : Us} (ha : ∀ x ∈ l, x.1 ≠ u.1) : countU (insU l u) u.1 = u.2.2.1 := by
  induction l with
  | nil => rw [insU, countU, if_pos rfl]
  | cons y l ih =>
    rw [insU]
    split
    · rw [countU, if_neg (ha y (List.mem_cons_self ..))]; exact ih fun x hx => ha x (List.mem_cons_of_mem _ hx)
    · rw [countU, if_pos rfl]
theorem take_ne {l : List Us} {n : Int} (h : takeOk l n = true) : ∀ x ∈ l, x.1 ≠ takeAt l n := by
  obtain ⟨h1, h2, h3, a, h4, h5, h6⟩ := takeOk_parts h
  intro x hx
  have := fits_apart h1 (by omega) h6 x hx
  have h7 := oneU_iff.1 ((mayU_iff.1 h1).1 x hx)
  rw [h4]; omega
theorem take_count {l : List Us} {n : Int} (h : takeOk l n = true) : countU (takeU l n) (takeP l n) = 1 := by
  rw [takeU, takeP, if_pos h, if_pos h]
  exact insU_count (u := (takeAt l n, n, 1, false)) (take_ne h)
/-- What is taken, and given back. -/
theorem take_back {l : List Us} {n : Int} (h : takeOk l n = true) : turnOk (takeU l n) (takeP l n) (-1) = true ∧ turnU (takeU l n) (takeP l n) (-1) = l := by
  have hok : turnOk (takeU l n) (takeP l n) (-1) = true := by
    unfold turnOk
    rw [take_may h, take_count h]; decide
  refine ⟨hok, ?_⟩
  rw [turnU, if_pos hok, takeU, takeP, if_pos h, if_pos h]
  exact turn_ins (takeOk_parts h).1 (u := (takeAt l n, n, 1, false)) rfl rfl (take_ne h)
/-- What counts are behind a turn. -/
theorem turnL_count {l : List Us} (h : mayU l = true) (a b o : Int) (hb : 0 ≤ countU l a + b) : countU (turnL l a b) o = if o = a ∧ findU l a ≠ none then countU l a + b else countU l o := by
  induction l with
  | nil => simp [turnL, countU, findU]
  | cons y l ih =>
    obtain ⟨g1, g2, g3⟩ := mayU_cons.1 h
    have hy1 := oneU_iff.1 g1
    by_cases e : y.1 = a
    · have hn : ∀ u ∈ l, u.1 ≠ a := fun u hu hq => by have := g2 u hu; unfold Apt at this; omega
      have ht := turn_none (b := b) hn (mayU_iff.1 g3).1
      have hc : countU (y :: l) a = y.2.2.1 := by rw [countU, if_pos e]
      have hf : findU (y :: l) a ≠ none := by rw [findU, if_pos e]; simp
      rw [hc] at hb ⊢
      have e1 : turnL (y :: l) a b = if keepU (turn1 a b y) = true then turn1 a b y :: l else l := by
        unfold turnL at ht ⊢
        rw [List.map_cons, List.filter_cons, ht]
      have ey : turn1 a b y = (y.1, y.2.1, y.2.2.1 + b, y.2.2.2) := if_pos e
      have e2 : countU (turnL (y :: l) a b) o = if o = a then y.2.2.1 + b else countU l o := by
        rw [e1]
        by_cases hk : keepU (turn1 a b y) = true
        · rw [if_pos hk, ey, countU]
          by_cases ho : o = a
          · rw [if_pos ho, if_pos (by rw [ho]; exact e)]
          · rw [if_neg ho, if_neg (fun q => ho (by rw [← e]; exact q.symm))]
        · rw [if_neg hk]
          by_cases ho : o = a
          · rw [if_pos ho, ho, countU_zero hn]
            rw [ey] at hk
            unfold keepU at hk
            simp at hk
            omega
          · rw [if_neg ho]
      rw [e2]
      by_cases ho : o = a
      · rw [if_pos ho, if_pos ⟨ho, hf⟩]
      · rw [if_neg ho, if_neg (fun q => ho q.1), countU, if_neg (fun q => ho (by rw [← e]; exact q.symm))]
    · have hk : keepU y = true := by
        have := hy1.2.2.2.2.2.2
        unfold keepU; rw [Bool.or_eq_true, decide_eq_true_eq]; exact this
      have e1 : turnL (y :: l) a b = y :: turnL l a b := by
        unfold turnL
        rw [List.map_cons, show turn1 a b y = y from if_neg e, List.filter_cons, if_pos hk]
      have hc : countU (y :: l) a = countU l a := by rw [countU, if_neg e]
      have hf : findU (y :: l) a ≠ none ↔ findU l a ≠ none := by rw [findU, if_neg e]; cases findU l a <;> simp
      rw [hc] at hb ⊢
      rw [e1, countU, ih g3 hb]
      by_cases hyo : y.1 = o
      · rw [if_pos hyo, if_neg (fun q => e (by rw [hyo]; exact q.1)), countU, if_pos hyo]
      · rw [if_neg hyo, countU, if_neg hyo]
        by_cases hq : o = a ∧ findU l a ≠ none
        · rw [if_pos hq, if_pos ⟨hq.1, hf.2 hq.2⟩]
        · rw [if_neg hq, if_neg (fun q => hq ⟨q.1, hf.1 q.2⟩)]
theorem turn_count {l : List Us} {a b : Int} (h : turnOk l a b = true) (hb : -1 ≤ b) (o : Int) : countU (turnU l a b) o = if o = a then countU l a + b else countU l o := by
  obtain ⟨h1, h2, h3⟩ := turnOk_parts h
  have hf : findU l a ≠ none := fun e => by rw [countU_none e] at h2; omega
  rw [turnU, if_pos h, turnL_count h1 a b o (by omega)]
  by_cases ho : o = a
  · rw [if_pos ⟨ho, hf⟩, if_pos ho]
  · rw [if_neg (fun q => ho q.1), if_neg ho]
/-- Once more, and once less. -/
theorem inc_dec {l : List Us} {a : Int} (h : turnOk l a 1 = true) : turnOk (turnU l a 1) a (-1) = true ∧ turnU (turnU l a 1) a (-1) = l := by
  obtain ⟨h1, h2, h3⟩ := turnOk_parts h
  have hc := turn_count h (by omega) a
  rw [if_pos rfl] at hc
  have hok : turnOk (turnU l a 1) a (-1) = true := by
    unfold turnOk
    rw [turn_may h (by omega), hc]
    simp; omega
  refine ⟨hok, ?_⟩
  rw [turnU, if_pos hok, turnU, if_pos h]
  have hone := (mayU_iff.1 h1).1
  have hk : (l.map (turn1 a 1)).filter keepU = l.map (turn1 a 1) := by
    rw [List.filter_eq_self]
    intro u hu
    obtain ⟨x, hx, rfl⟩ := List.mem_map.1 hu
    have := oneU_iff.1 (hone x hx)
    unfold turn1 keepU
    split
    · rw [Bool.or_eq_true, decide_eq_true_eq]; left; simp only; omega
    · rw [Bool.or_eq_true, decide_eq_true_eq]; exact this.2.2.2.2.2.2
  unfold turnL
  rw [hk, List.map_map]
  have e : l.map (turn1 a (-1) ∘ turn1 a 1) = l := by
    conv => rhs; rw [← List.map_id l]
    refine List.map_congr_left fun u _ => ?_
    show turn1 a (-1) (turn1 a 1 u) = u
    unfold turn1
    by_cases e : u.1 = a
    · rw [if_pos e, if_pos e]
      show (u.1, u.2.1, u.2.2.1 + 1 + -1, u.2.2.2) = u
      rw [show u.2.2.1 + 1 + -1 = u.2.2.1 by omega]
    · rw [if_neg e, if_neg e]
  rw [e]
  exact keep_all hone
end Go.Proofs.Ytddbcpmhgjkjpaa
