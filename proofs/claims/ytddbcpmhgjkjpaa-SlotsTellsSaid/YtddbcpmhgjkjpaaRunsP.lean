/- Plain law of runs: where places are free. No program in sight. -/
namespace Go.Proofs.Ytddbcpmhgjkjpaa

/-- Are n places from p on there, and free? -/
def fits (l : List Bool) (p n : Nat) : Bool := decide (p + n ≤ l.length) && ((l.drop p).take n).all (fun b => !b)
theorem fits_iff {l : List Bool} {p n : Nat} : fits l p n = true ↔ p + n ≤ l.length ∧ ∀ i, i < n → l.getD (p + i) true = false := by
  unfold fits
  rw [Bool.and_eq_true, decide_eq_true_eq, List.all_eq_true]
  constructor
  · rintro ⟨h1, h2⟩
    refine ⟨h1, fun i hi => ?_⟩
    have := h2 l[p + i] (by rw [List.mem_take_iff_getElem]; exact ⟨i, by simp; omega, by simp⟩)
    rw [List.getD_eq_getElem?_getD, List.getElem?_eq_getElem (by omega)]
    simpa using this
  · rintro ⟨h1, h2⟩
    refine ⟨h1, fun x hx => ?_⟩
    obtain ⟨i, hi, rfl⟩ := List.mem_take_iff_getElem.1 hx
    simp only [List.length_drop] at hi
    have := h2 i (by omega)
    rw [List.getD_eq_getElem?_getD, List.getElem?_eq_getElem (by omega)] at this
    simpa using this
theorem fits_zero (l : List Bool) {p : Nat} (h : p ≤ l.length) : fits l p 0 = true := fits_iff.2 ⟨by omega, fun i hi => by omega⟩
theorem fits_mono {l : List Bool} {p n m : Nat} (h : fits l p n = true) (hm : m ≤ n) : fits l p m = true :=
  fits_iff.2 ⟨by have := (fits_iff.1 h).1; omega, fun i hi => (fits_iff.1 h).2 i (by omega)⟩
theorem fits_sub {l : List Bool} {p n q m : Nat} (h : fits l p n = true) (h1 : p ≤ q) (h2 : q + m ≤ p + n) : fits l q m = true :=
  fits_iff.2 ⟨by have := (fits_iff.1 h).1; omega, fun i hi => by have := (fits_iff.1 h).2 (q - p + i) (by omega); rwa [show p + (q - p + i) = q + i by omega] at this⟩

/-- How many places from p on are free, one behind the other. -/
def stretch (l : List Bool) (p : Nat) : Nat := ((l.drop p).takeWhile (fun b => !b)).length
theorem stretch_le (l : List Bool) (p : Nat) (h : p ≤ l.length) : p + stretch l p ≤ l.length := by
  have := (List.takeWhile_sublist (fun b : Bool => !b) (l := l.drop p)).length_le
  unfold stretch
  rw [List.length_drop] at this
  omega
theorem takeWhile_all (m : List Bool) : ∀ i, i < (m.takeWhile fun b => !b).length → ∃ hq, m[i]'hq = false := by
  induction m with
  | nil => intro i h; simp at h
  | cons b m ih =>
    intro i h
    cases b
    · cases i with
      | zero => exact ⟨by simp, rfl⟩
      | succ i => obtain ⟨h', e⟩ := ih i (by simpa using h); exact ⟨by simpa using h', by simpa using e⟩
    · simp at h
theorem takeWhile_end (m : List Bool) (h : (m.takeWhile fun b => !b).length < m.length) : m[(m.takeWhile fun b => !b).length] = true := by
  induction m with
  | nil => simp at h
  | cons b m ih =>
    cases b
    · simpa using ih (by simpa using h)
    · simp
theorem stretch_free (l : List Bool) (p : Nat) (h : p ≤ l.length) : fits l p (stretch l p) = true :=
  fits_iff.2 ⟨stretch_le l p h, fun i hi => by
    obtain ⟨h', e⟩ := takeWhile_all (l.drop p) i hi
    rw [List.getD_eq_getElem?_getD, List.getElem?_eq_getElem (by simpa using (show p + i < l.length by simp at h'; omega))]
    simpa using e⟩
theorem stretch_end (l : List Bool) (p : Nat) (h : p + stretch l p < l.length) : l.getD (p + stretch l p) true = true := by
  have := takeWhile_end (l.drop p) (by rw [List.length_drop]; unfold stretch at h; omega)
  rw [List.getD_eq_getElem?_getD, List.getElem?_eq_getElem h]
  simp only [List.getElem_drop] at this
  exact this
theorem stretch_of {l : List Bool} {p n : Nat} (h1 : fits l p n = true) (h2 : p + n = l.length ∨ l.getD (p + n) true = true) : stretch l p = n := by
  have hp : p ≤ l.length := by have := (fits_iff.1 h1).1; omega
  have a := stretch_le l p hp
  have b := stretch_free l p hp
  have c := (fits_iff.1 h1).1
  rcases Nat.lt_trichotomy (stretch l p) n with h | h | h
  · have e := stretch_end l p (by omega)
    rw [(fits_iff.1 h1).2 _ h] at e; cases e
  · exact h
  · rcases h2 with h2 | h2
    · omega
    · rw [(fits_iff.1 b).2 _ h] at h2; cases h2

/-- Where places are free together, from p on, with their numbers; f rounds at most. -/
def runsF : Nat → List Bool → Nat → List (Nat × Nat)
  | 0, _, _ => []
  | f + 1, l, p => if p < l.length then (if 0 < stretch l p then [(p, stretch l p)] else []) ++ runsF f l (p + stretch l p + 1) else []
def runsL (l : List Bool) : List (Nat × Nat) := runsF (l.length + 1) l 0
theorem runsF_more (l : List Bool) : ∀ (f g p : Nat), l.length < f + p → l.length < g + p → runsF f l p = runsF g l p := by
  intro f
  induction f with
  | zero =>
    intro g p h1 h2
    cases g with
    | zero => rfl
    | succ g => rw [runsF, runsF, if_neg (by omega)]
  | succ f ih =>
    intro g p h1 h2
    cases g with
    | zero => rw [runsF, runsF, if_neg (by omega)]
    | succ g =>
      rw [runsF, runsF]
      by_cases hp : p < l.length
      · rw [if_pos hp, if_pos hp, ih g (p + stretch l p + 1) (by omega) (by omega)]
      · rw [if_neg hp, if_neg hp]
/-- The rest of the runs, from p on. -/
def runsR (l : List Bool) (p : Nat) : List (Nat × Nat) := runsF (l.length + 1) l p
theorem runsR_step (l : List Bool) {p : Nat} (h : p < l.length) : runsR l p = (if 0 < stretch l p then [(p, stretch l p)] else []) ++ runsR l (p + stretch l p + 1) := by
  rw [runsR, runsF, if_pos h]
  congr 1
  exact runsF_more l _ _ _ (by omega) (by omega)
theorem runsR_end (l : List Bool) {p : Nat} (h : l.length ≤ p) : runsR l p = [] := by rw [runsR, runsF, if_neg (by omega)]

/-- A room for n at or behind p lies in one of the runs; the first of the great enough ones tells the first room. -/
theorem room_run (l : List Bool) {n : Nat} (hn : 0 < n) : ∀ (k p : Nat), l.length - p ≤ k → ∀ q, p ≤ q → fits l q n = true → ∃ x ∈ runsR l p, n ≤ x.2 ∧ x.1 ≤ q := by
  intro k
  induction k with
  | zero => intro p hk q hq h; have := (fits_iff.1 h).1; omega
  | succ k ih =>
    intro p hk q hq h
    have hql := (fits_iff.1 h).1
    have hp : p < l.length := by omega
    rw [runsR_step l hp]
    have hs := stretch_free l p (by omega)
    by_cases hin : q + n ≤ p + stretch l p
    · exact ⟨(p, stretch l p), by rw [if_pos (by omega)]; simp, by simp; omega, hq⟩
    · have hq2 : p + stretch l p < q := by
        rcases Nat.lt_or_ge (p + stretch l p) q with g | g
        · exact g
        · exfalso
          have e := stretch_end l p (by omega)
          have := (fits_iff.1 h).2 (p + stretch l p - q) (by omega)
          rw [show q + (p + stretch l p - q) = p + stretch l p by omega, e] at this
          cases this
      obtain ⟨x, hx, h1, h2⟩ := ih (p + stretch l p + 1) (by omega) q (by omega) h
      exact ⟨x, List.mem_append_right _ hx, h1, h2⟩
theorem runs_fit (l : List Bool) : ∀ (k p : Nat), l.length - p ≤ k → ∀ x ∈ runsR l p, p ≤ x.1 ∧ 0 < x.2 ∧ fits l x.1 x.2 = true := by
  intro k
  induction k with
  | zero => intro p hk x hx; rw [runsR_end l (by omega)] at hx; simp at hx
  | succ k ih =>
    intro p hk x hx
    by_cases hp : p < l.length
    · rw [runsR_step l hp] at hx
      rcases List.mem_append.1 hx with h | h
      · by_cases hs : 0 < stretch l p
        · rw [if_pos hs, List.mem_singleton] at h; subst h; exact ⟨Nat.le_refl _, hs, stretch_free l p (by omega)⟩
        · rw [if_neg hs] at h; simp at h
      · have := ih (p + stretch l p + 1) (by omega) x h
        exact ⟨by omega, this.2⟩
    · rw [runsR_end l (by omega)] at hx; simp at hx
/-- The runs rise. -/
theorem runs_rise (l : List Bool) : ∀ (k p : Nat), l.length - p ≤ k → (runsR l p).Pairwise (fun x y => x.1 < y.1) := by
  intro k
  induction k with
  | zero => intro p hk; rw [runsR_end l (by omega)]; exact List.Pairwise.nil
  | succ k ih =>
    intro p hk
    by_cases hp : p < l.length
    · rw [runsR_step l hp]
      have h2 := ih (p + stretch l p + 1) (by omega)
      by_cases hs : 0 < stretch l p
      · rw [if_pos hs]
        refine List.pairwise_cons.2 ⟨fun y hy => ?_, h2⟩
        have := (runs_fit l (l.length - (p + stretch l p + 1)) _ (Nat.le_refl _) y hy).1
        simp; omega
      · rw [if_neg hs]; simpa using h2
    · rw [runsR_end l (by omega)]; exact List.Pairwise.nil

/-- The lowest place from which on n places are free; -1, if there is none. -/
def firstP (l : List Bool) (n : Int) : Int :=
  if n < 1 then -1 else match (List.range l.length).find? (fun a => fits l a n.toNat) with | some a => (a : Int) | none => -1
/-- The longest run. -/
def maxL (r : List (Nat × Nat)) : Nat := r.foldl (fun m x => max m x.2) 0
def longP (l : List Bool) : Nat := maxL (runsL l)
/-- How many are free. -/
def freeP (l : List Bool) : Nat := (l.filter (fun b => !b)).length

theorem find_range {q : Nat → Bool} {n a : Nat} (ha : a < n) (hq : q a = true) (hb : ∀ b, b < a → q b = false) : (List.range n).find? q = some a := by
  induction n with
  | zero => omega
  | succ n ih =>
    rw [List.range_succ, List.find?_append]
    by_cases h : a < n
    · rw [ih h]; rfl
    · obtain rfl : a = n := by omega
      rw [List.find?_eq_none.2 (fun x hx => by rw [hb x (List.mem_range.1 hx)]; simp)]
      simp [hq]
theorem firstP_some {l : List Bool} {n : Int} {a : Nat} (hn : 1 ≤ n) (h : fits l a n.toNat = true) (hb : ∀ b, b < a → fits l b n.toNat = false) : firstP l n = a := by
  have := (fits_iff.1 h).1
  rw [firstP, if_neg (by omega), find_range (q := fun a => fits l a n.toNat) (by omega) h hb]
theorem firstP_none {l : List Bool} {n : Int} (hn : 1 ≤ n) (h : ∀ b, fits l b n.toNat = false) : firstP l n = -1 := by
  rw [firstP, if_neg (by omega), List.find?_eq_none.2 (fun x _ => by simp [h x])]
theorem firstP_small {l : List Bool} {n : Int} (hn : n < 1) : firstP l n = -1 := by rw [firstP, if_pos hn]
/-- What First tells, of whatever list. -/
theorem firstP_cases (l : List Bool) {n : Int} (hn : 1 ≤ n) : (firstP l n = -1 ∧ ∀ b, fits l b n.toNat = false) ∨ ∃ a : Nat, firstP l n = a ∧ fits l a n.toNat = true ∧ ∀ b, b < a → fits l b n.toNat = false := by
  by_cases h : ∃ b, fits l b n.toNat = true
  · right
    have hex : ∃ a, fits l a n.toNat = true ∧ ∀ b, b < a → fits l b n.toNat = false := by
      obtain ⟨b, hb⟩ := h
      induction b using Nat.strongRecOn with
      | ind b ih =>
        by_cases g : ∃ c, c < b ∧ fits l c n.toNat = true
        · obtain ⟨c, hc, hf⟩ := g; exact ih c hc hf
        · refine ⟨b, hb, fun c hc => ?_⟩
          cases hcf : fits l c n.toNat with
          | false => rfl
          | true => exact absurd ⟨c, hc, hcf⟩ g
    obtain ⟨a, h1, h2⟩ := hex
    exact ⟨a, firstP_some hn h1 h2, h1, h2⟩
  · left
    have h' : ∀ b, fits l b n.toNat = false := fun b => by
      cases hb : fits l b n.toNat with
      | false => rfl
      | true => exact absurd ⟨b, hb⟩ h
    exact ⟨firstP_none hn h', h'⟩

theorem first_runs_none {l : List Bool} {n : Int} (hn : 1 ≤ n) (h : ∀ x ∈ runsL l, (x.2 : Int) < n) : firstP l n = -1 := by
  refine firstP_none hn fun b => ?_
  cases hb : fits l b n.toNat with
  | false => rfl
  | true =>
    obtain ⟨x, hx, h1, _⟩ := room_run l (n := n.toNat) (by omega) l.length 0 (by omega) b (Nat.zero_le _) hb
    have := h x hx
    omega
theorem first_runs_some {l : List Bool} {n : Int} {ini rest : List (Nat × Nat)} {x : Nat × Nat} (hn : 1 ≤ n) (h : runsL l = ini ++ x :: rest) (h1 : ∀ y ∈ ini, (y.2 : Int) < n) (h2 : n ≤ (x.2 : Int)) : firstP l n = x.1 := by
  have hx := runs_fit l l.length 0 (by omega) x (by show x ∈ runsL l; rw [h]; simp)
  have hr := runs_rise l l.length 0 (by omega)
  refine firstP_some hn (fits_mono hx.2.2 (by omega)) fun b hb => ?_
  cases hbf : fits l b n.toNat with
  | false => rfl
  | true =>
    obtain ⟨y, hy, g1, g2⟩ := room_run l (n := n.toNat) (by omega) l.length 0 (by omega) b (Nat.zero_le _) hbf
    have hy' : y ∈ ini ++ x :: rest := by rw [← h]; exact hy
    have hr' : (ini ++ x :: rest).Pairwise (fun x y => x.1 < y.1) := by rw [← h]; exact hr
    rcases List.mem_append.1 hy' with hm | hm
    · have := h1 y hm; omega
    · rcases List.mem_cons.1 hm with rfl | hm
      · omega
      · have := (List.pairwise_cons.1 (List.pairwise_append.1 hr').2.1).1 y hm
        omega

theorem maxL_snoc (r : List (Nat × Nat)) (x : Nat × Nat) : maxL (r ++ [x]) = max (maxL r) x.2 := by simp [maxL]
theorem maxL_ge (r : List (Nat × Nat)) (n : Nat) (hn : 1 ≤ n) : n ≤ maxL r ↔ ∃ x ∈ r, n ≤ x.2 := by
  have gen : ∀ (r : List (Nat × Nat)) (m : Nat), n ≤ r.foldl (fun m x => max m x.2) m ↔ n ≤ m ∨ ∃ x ∈ r, n ≤ x.2 := by
    intro r
    induction r with
    | nil => intro m; simp
    | cons y r ih =>
      intro m
      rw [List.foldl_cons, ih]
      simp only [List.mem_cons, exists_eq_or_imp]
      rw [show (n ≤ max m y.2 ↔ n ≤ m ∨ n ≤ y.2) by omega, or_assoc]
  rw [maxL, gen]
  constructor
  · rintro (h | h)
    · omega
    · exact h
  · exact Or.inr
/-- There is a room for n just if the longest one has n or more. -/
theorem long_iff (l : List Bool) {n : Nat} (hn : 1 ≤ n) : n ≤ longP l ↔ ∃ q, fits l q n = true := by
  rw [longP, maxL_ge _ _ hn]
  constructor
  · rintro ⟨x, hx, h⟩
    exact ⟨x.1, fits_mono (runs_fit l l.length 0 (by omega) x hx).2.2 h⟩
  · rintro ⟨q, hq⟩
    obtain ⟨x, hx, h1, _⟩ := room_run l hn l.length 0 (by omega) q (Nat.zero_le _) hq
    exact ⟨x, hx, h1⟩
theorem long_le (l : List Bool) : longP l ≤ l.length := by
  by_cases h : 1 ≤ longP l
  · obtain ⟨q, hq⟩ := (long_iff l h).1 (Nat.le_refl _)
    have := (fits_iff.1 hq).1
    omega
  · omega

def sumL (r : List (Nat × Nat)) : Nat := (r.map (fun x => x.2)).sum
theorem sumL_snoc (r : List (Nat × Nat)) (x : Nat × Nat) : sumL (r ++ [x]) = sumL r + x.2 := by simp [sumL]
theorem free_drop (l : List Bool) (p : Nat) : freeP (l.drop p) = stretch l p + freeP (l.drop (p + stretch l p + 1)) := by
  have e : ∀ m : List Bool, freeP m = (m.takeWhile (fun b => !b)).length + freeP (m.drop ((m.takeWhile (fun b => !b)).length + 1)) := by
    intro m
    induction m with
    | nil => rfl
    | cons b m ih =>
      cases b
      · simp only [freeP, Bool.not_false, List.takeWhile_cons, List.filter_cons, if_true, List.length_cons, List.drop_succ_cons] at ih ⊢
        omega
      · simp [freeP]
  have := e (l.drop p)
  rw [List.drop_drop] at this
  rw [this]
  unfold stretch
  rw [show p + ((l.drop p).takeWhile (fun b => !b)).length + 1 = p + (((l.drop p).takeWhile (fun b => !b)).length + 1) by omega]
theorem sum_runs (l : List Bool) : ∀ (k p : Nat), l.length - p ≤ k → sumL (runsR l p) = freeP (l.drop p) := by
  intro k
  induction k with
  | zero => intro p hk; rw [runsR_end l (by omega), List.drop_eq_nil_of_le (by omega)]; rfl
  | succ k ih =>
    intro p hk
    by_cases hp : p < l.length
    · rw [runsR_step l hp, free_drop l p, ← ih (p + stretch l p + 1) (by omega)]
      by_cases hs : 0 < stretch l p
      · rw [if_pos hs]; simp [sumL]
      · rw [if_neg hs]; simp; omega
    · rw [runsR_end l (by omega), List.drop_eq_nil_of_le (by omega)]; rfl
theorem sum_all (l : List Bool) : sumL (runsL l) = freeP l := by
  have := sum_runs l l.length 0 (by omega)
  rwa [List.drop_zero] at this
theorem free_le (l : List Bool) : freeP l ≤ l.length := List.length_filter_le _ _

/-- n places from a on, made used. -/
def markP (l : List Bool) (a n : Nat) : List Bool := l.take a ++ List.replicate n true ++ l.drop (a + n)
theorem markP_length {l : List Bool} {a n : Nat} (h : a + n ≤ l.length) : (markP l a n).length = l.length := by simp [markP]; omega
theorem markP_get {l : List Bool} {a n : Nat} (h : a + n ≤ l.length) (i : Nat) : (markP l a n).getD i true = (if a ≤ i ∧ i < a + n then true else l.getD i true) := by
  unfold markP
  simp only [List.getD_eq_getElem?_getD]
  by_cases h1 : i < a
  · rw [List.append_assoc, List.getElem?_append_left (by rw [List.length_take]; omega), List.getElem?_take_of_lt h1, if_neg (by omega)]
  · by_cases h2 : i < a + n
    · rw [if_pos (by omega), List.append_assoc, List.getElem?_append_right (by rw [List.length_take]; omega), List.getElem?_append_left (by rw [List.length_take, List.length_replicate]; omega), List.getElem?_replicate, if_pos (by rw [List.length_take]; omega)]
      rfl
    · rw [if_neg (by omega), List.getElem?_append_right (by simp; omega), List.getElem?_drop]
      congr 2
      simp; omega
end Go.Proofs.Ytddbcpmhgjkjpaa
