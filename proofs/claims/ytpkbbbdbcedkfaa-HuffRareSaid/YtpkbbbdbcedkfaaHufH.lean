/- The plain law of heaps: a tree is put in, the least one is taken out. No program in sight. -/
import Derived.Test.YtpkbbbdbcedkfaaHufP
namespace Go.Proofs.Ytpkbbbdbcedkfaa

/-- The place above. -/
def par (i : Nat) : Nat := (i - 1) / 2
theorem par_lt {i : Nat} (h : 0 < i) : par i < i := by unfold par; omega
/-- The tree at a place (any one where there is none). -/
def atT (A : List HT) (i : Nat) : HT := A[i]?.getD (.leaf 0 0)
theorem atT_get {A : List HT} {i : Nat} (h : i < A.length) : atT A i = A[i] := by unfold atT; rw [List.getElem?_eq_getElem h, Option.getD_some]
/-- The first n trees stand as a heap. -/
def Heap (A : List HT) (n : Nat) : Prop := ∀ i, 0 < i → i < n → leT (atT A (par i)) (atT A i)
/-- .. but for the one at j, which may be too far down. -/
def HeapUp (A : List HT) (n j : Nat) : Prop := (∀ i, 0 < i → i < n → i ≠ j → leT (atT A (par i)) (atT A i)) ∧ (∀ i, 0 < i → i < n → par i = j → 0 < j → leT (atT A (par j)) (atT A i))
/-- .. but for the one at j, which may be too far up. -/
def HeapDn (A : List HT) (n j : Nat) : Prop := (∀ i, 0 < i → i < n → par i ≠ j → leT (atT A (par i)) (atT A i)) ∧ (∀ i, 0 < i → i < n → par i = j → 0 < j → leT (atT A (par j)) (atT A i))

/-- Two trees change places. -/
def swapT (A : List HT) (i j : Nat) : List HT := (A.set i (atT A j)).set j (atT A i)
theorem swapT_length (A : List HT) (i j : Nat) : (swapT A i j).length = A.length := by simp [swapT]
theorem swapT_at {A : List HT} {i j : Nat} (hi : i < A.length) (hj : j < A.length) (k : Nat) : atT (swapT A i j) k = if k = j then atT A i else if k = i then atT A j else atT A k := by
  have e : ∀ (B : List HT) (x : Nat) (t : HT), x < B.length → atT (B.set x t) k = if k = x then t else atT B k := by
    intro B x t hx
    unfold atT
    by_cases h : k = x
    · subst h; rw [if_pos rfl, List.getElem?_set_self hx, Option.getD_some]
    · rw [if_neg h, List.getElem?_set_ne (by omega)]
  unfold swapT
  rw [e _ _ _ (by simpa using hj), e _ _ _ hi]
theorem swapT_perm {A : List HT} {i j : Nat} (hi : i < A.length) (hj : j < A.length) : (swapT A i j).Perm A := by
  have h := List.set_set_perm (as := A) (i := i) (j := j) hi hj
  unfold swapT
  rw [atT_get hi, atT_get hj]
  exact h
theorem up_step {A : List HT} {n j : Nat} (hn : n ≤ A.length) (hj : j < n) (hj0 : 0 < j) (h : HeapUp A n j) (hl : ltT (atT A j) (atT A (par j)) = true) : HeapUp (swapT A (par j) j) n (par j) := by
  have hp := par_lt hj0
  have at' := swapT_at (A := A) (i := par j) (j := j) (by omega) (by omega)
  have hlt := leT_of_lt hl
  constructor
  · intro i h0 hi hne
    rw [at' i, at' (par i)]
    by_cases e : i = j
    · subst e
      rw [if_pos rfl, if_neg (by omega), if_pos rfl]
      exact hlt
    · rw [if_neg e, if_neg hne]
      by_cases e2 : par i = j
      · rw [if_pos e2]
        have := h.2 i h0 hi e2 hj0
        exact this
      · rw [if_neg e2]
        by_cases e3 : par i = par j
        · rw [if_pos e3]
          have := h.1 i h0 hi e
          rw [e3] at this
          exact leT_trans hlt this
        · rw [if_neg e3]
          exact h.1 i h0 hi e
  · intro i h0 hi hpi hj'
    rw [at' i, at' (par (par j))]
    have hpp := par_lt hj'
    rw [if_neg (by omega), if_neg (by omega)]
    have hpar := h.1 (par j) hj' (by omega) (by omega)
    by_cases e : i = j
    · subst e
      rw [if_pos rfl]
      exact hpar
    · have hip := par_lt h0
      rw [if_neg e, if_neg (by omega)]
      have := h.1 i h0 hi e
      rw [hpi] at this
      exact leT_trans hpar this
theorem up_end {A : List HT} {n j : Nat} (h : HeapUp A n j) (hl : j = 0 ∨ ltT (atT A j) (atT A (par j)) = false) : Heap A n := by
  intro i h0 hi
  by_cases e : i = j
  · subst e
    rcases hl with hl | hl
    · omega
    · exact hl
  · exact h.1 i h0 hi e
theorem up_start {A : List HT} {t : HT} (h : Heap A A.length) : HeapUp (A ++ [t]) (A.length + 1) A.length := by
  have e : ∀ k, k < A.length → atT (A ++ [t]) k = atT A k := fun k hk => by unfold atT; rw [List.getElem?_append_left hk]
  constructor
  · intro i h0 hi hne
    have := par_lt h0
    rw [e i (by omega), e (par i) (by omega)]
    exact h i h0 (by omega)
  · intro i h0 hi hp _
    have := par_lt h0
    omega

/-- The children of a place. -/
theorem par_child {i j : Nat} (h : 0 < i) (hp : par i = j) : i = 2 * j + 1 ∨ i = 2 * j + 2 := by unfold par at hp; omega
theorem par_left (j : Nat) : par (2 * j + 1) = j := by unfold par; omega
theorem par_right (j : Nat) : par (2 * j + 2) = j := by unfold par; omega
theorem dn_step {A : List HT} {n j c : Nat} (hn : n ≤ A.length) (hj : j < n) (hc : c < n) (hpc : par c = j) (hc0 : 0 < c) (h : HeapDn A n j) (hmin : ∀ i, 0 < i → i < n → par i = j → leT (atT A c) (atT A i)) (hl : ltT (atT A c) (atT A j) = true) : HeapDn (swapT A j c) n c := by
  have hlt := leT_of_lt hl
  have hpl := par_lt hc0
  have at' := swapT_at (A := A) (i := j) (j := c) (by omega) (by omega)
  constructor
  · intro i h0 hi hne
    rw [at' i, at' (par i), if_neg (by omega : par i ≠ c)]
    by_cases e : i = c
    · subst e
      rw [if_pos rfl, if_pos hpc]
      exact hlt
    · rw [if_neg e]
      by_cases e2 : par i = j
      · rw [if_pos e2]
        have hip := par_lt h0
        rw [if_neg (by omega)]
        exact hmin i h0 hi e2
      · rw [if_neg e2]
        by_cases e3 : i = j
        · subst e3
          rw [if_pos rfl]
          exact h.2 c hc0 hc hpc h0
        · rw [if_neg e3]
          exact h.1 i h0 hi e2
  · intro i h0 hi hp _
    have hip := par_lt h0
    rw [at' i, at' (par c), hpc, if_neg (by omega : ¬ j = c), if_pos rfl, if_neg (by omega), if_neg (by omega)]
    have := h.1 i h0 hi (by omega)
    rw [hp] at this
    exact this
theorem dn_end {A : List HT} {n j : Nat} (h : HeapDn A n j) (hl : ∀ i, 0 < i → i < n → par i = j → leT (atT A j) (atT A i)) : Heap A n := by
  intro i h0 hi
  by_cases e : par i = j
  · rw [e]; exact hl i h0 hi e
  · exact h.1 i h0 hi e
/-- The first one of a heap is least. -/
theorem heap_min {A : List HT} {n : Nat} (h : Heap A n) : ∀ i, i < n → leT (atT A 0) (atT A i) := by
  intro i
  induction i using Nat.strongRecOn with
  | ind i ih =>
    intro hi
    by_cases h0 : i = 0
    · subst h0; exact leT_refl _
    · have := par_lt (by omega : 0 < i)
      exact leT_trans (ih (par i) this (by omega)) (h i (by omega) hi)
theorem dn_start {A : List HT} {n : Nat} (hA : A.length = n + 1) (h : Heap A (n + 1)) : HeapDn (swapT A 0 n) n 0 := by
  have at' := swapT_at (A := A) (i := 0) (j := n) (by omega) (by omega)
  constructor
  · intro i h0 hi hne
    have := par_lt h0
    rw [at' i, at' (par i), if_neg (by omega : ¬ par i = n), if_neg hne, if_neg (by omega : ¬ i = n), if_neg (by omega : ¬ i = 0)]
    exact h i h0 (by omega)
  · intro i _ _ _ h; omega
end Go.Proofs.Ytpkbbbdbcedkfaa
