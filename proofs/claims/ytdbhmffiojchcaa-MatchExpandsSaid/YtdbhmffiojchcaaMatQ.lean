/- Plain laws of splitting and of telling again. No program in sight. -/
import Derived.Test.YtdbhmffiojchcaaMatP
namespace Go.Proofs.Ytdbhmffiojchcaa

/-- A token: Byte, Dist, Len. -/
abbrev TokT := Int × Int × Int
def mayT (t : TokT) : Bool := if t.2.1 = 0 ∧ t.2.2 = 0 then decide (0 ≤ t.1) && decide (t.1 ≤ 255) else decide (t.1 = 0) && decide (1 ≤ t.2.1) && decide (t.2.1 ≤ 255) && decide (3 ≤ t.2.2) && decide (t.2.2 ≤ 18)
theorem may_cases {t : TokT} (h : mayT t = true) : (t.2.1 = 0 ∧ t.2.2 = 0 ∧ 0 ≤ t.1 ∧ t.1 ≤ 255) ∨ (t.1 = 0 ∧ 1 ≤ t.2.1 ∧ t.2.1 ≤ 255 ∧ 3 ≤ t.2.2 ∧ t.2.2 ≤ 18) := by
  unfold mayT at h
  split at h
  · rename_i h1; simp at h; exact Or.inl ⟨h1.1, h1.2, h.1, h.2⟩
  · simp at h; exact Or.inr ⟨h.1.1.1.1, h.1.1.1.2, h.1.1.2, h.1.2, h.2⟩

/-- The tokens of what stands from at on. -/
def spl (L : List UInt8) : Nat → Nat → List TokT
  | 0, _ => []
  | f + 1, i => if i < L.length then
      if (longP L i).1 = 0 then (((bt L i).toNat : Int), 0, 0) :: spl L f (i + 1)
      else (0, ((longP L i).2 : Int), ((longP L i).1 : Int)) :: spl L f (i + (longP L i).1)
    else []

/-- Bytes copied from d ahead. -/
def cpy (d : Nat) : Nat → List Int → List Int
  | 0, o => o
  | n + 1, o => cpy d n (o ++ [o.getD (o.length - d) 0])
theorem cpy_length (d : Nat) : ∀ n o, (cpy d n o).length = o.length + n
  | 0, o => rfl
  | n + 1, o => by rw [cpy, cpy_length d n]; simp; omega
/-- What one token tells. -/
def tell (t : TokT) (out : List Int) : List Int := if t.2.2 = 0 then out ++ [t.1] else cpy t.2.1.toNat t.2.2.toNat out
/-- The bytes of tokens, if they are at most most. -/
def exl (most : Int) : List TokT → List Int → Option (List Int)
  | [], out => some out
  | t :: ts, out => if mayT t = true ∧ t.2.1 ≤ out.length ∧ (out.length : Int) + max t.2.2 1 ≤ most then exl most ts (tell t out) else none
theorem tell_length {t : TokT} (h : mayT t = true) (out : List Int) : ((tell t out).length : Int) = out.length + max t.2.2 1 := by
  rcases may_cases h with h | h
  · unfold tell; rw [if_pos h.2.1]; simp; omega
  · unfold tell; rw [if_neg (by omega), cpy_length]; omega
theorem exl_len {most : Int} : ∀ {ts : List TokT} {out r : List Int}, exl most ts out = some r → ts ≠ [] → (r.length : Int) ≤ most
  | [], out, r, _, h => absurd rfl h
  | t :: ts, out, r, h, _ => by
    rw [exl] at h
    split at h
    · rename_i hc
      by_cases e : ts = []
      · subst e
        rw [exl] at h
        injection h with h
        subst h
        rw [tell_length hc.1]
        exact hc.2.2
      · exact exl_len h e
    · cases h
theorem exl_more {most more : Int} (hm : most ≤ more) : ∀ {ts : List TokT} {out r : List Int}, exl most ts out = some r → exl more ts out = some r
  | [], out, r, h => h
  | t :: ts, out, r, h => by
    rw [exl] at h ⊢
    split at h
    · rename_i hc
      rw [if_pos ⟨hc.1, hc.2.1, by omega⟩]
      exact exl_more hm h
    · cases h

/-- The text's bytes as numbers. -/
def nums (L : List UInt8) : List Int := L.map fun c => (c.toNat : Int)
theorem nums_length (L : List UInt8) : (nums L).length = L.length := by simp [nums]
theorem nums_take (L : List UInt8) (i : Nat) (h : i < L.length) : nums (L.take (i + 1)) = nums (L.take i) ++ [((bt L i).toNat : Int)] := by
  unfold nums bt
  rw [List.take_succ_eq_append_getElem h, List.map_append, List.map_singleton]
  simp [List.getD, List.getElem?_eq_getElem h]
theorem nums_get (L : List UInt8) (i k : Nat) (h : k < i) (hi : i ≤ L.length) : (nums (L.take i)).getD k 0 = ((bt L k).toNat : Int) := by
  unfold nums bt
  simp only [List.getD, List.getElem?_map, List.getElem?_take_of_lt h, List.getElem?_eq_getElem (show k < L.length by omega), Option.map_some, Option.getD_some]
theorem cpy_text (L : List UInt8) (d : Nat) : ∀ n i, d ≤ i → 1 ≤ d → i + n ≤ L.length → (∀ k, k < n → bt L (i + k) = bt L (i + k - d)) → cpy d n (nums (L.take i)) = nums (L.take (i + n))
  | 0, i, _, _, _, _ => rfl
  | n + 1, i, h1, h2, h3, h4 => by
    rw [cpy, nums_length, List.length_take, show min i L.length = i by omega, nums_get L i (i - d) (by omega) (by omega)]
    have h0 := h4 0 (by omega)
    rw [Nat.add_zero] at h0
    rw [← h0, ← nums_take L i (by omega), cpy_text L d n (i + 1) (by omega) h2 (by omega) (fun k hk => by
      have := h4 (k + 1) (by omega)
      rw [show i + (k + 1) = i + 1 + k by omega] at this
      exact this), show i + 1 + n = i + (n + 1) by omega]
theorem long_cases (L : List UInt8) (i : Nat) : longP L i = (0, 0) ∨ (3 ≤ (longP L i).1 ∧ (longP L i).1 ≤ 18 ∧ 1 ≤ (longP L i).2 ∧ (longP L i).2 ≤ 255 ∧ (longP L i).2 ≤ i ∧ i + (longP L i).1 ≤ L.length ∧ ∀ k, k < (longP L i).1 → bt L (i + k) = bt L (i + k - (longP L i).2)) := by
  rcases best_is L i 255 with h | h
  · exact Or.inl h
  · obtain ⟨h1, h2, h3, h4, h5, h6⟩ := h
    right
    refine ⟨h1, best_le L i 255, h2, h4, h5, ?_, fun k hk => (com_on (L := L) (at' := i) (d := (best L i 255).2) (by rw [h6]; exact hk)).2⟩
    have := (com_on (L := L) (at' := i) (d := (best L i 255).2) (i := (best L i 255).1 - 1) (by rw [h6]; omega)).1
    show i + (best L i 255).1 ≤ L.length
    omega
/-- Every token of a text may be. -/
theorem spl_may (L : List UInt8) : ∀ f i, ∀ t ∈ spl L f i, mayT t = true
  | 0, i, t, h => by simp [spl] at h
  | f + 1, i, t, h => by
    rw [spl] at h
    split at h
    · rcases long_cases L i with e | e
      · rw [e] at h
        simp only [if_true, List.mem_cons] at h
        rcases h with rfl | h
        · have := (bt L i).toNat_lt
          simp [mayT]; omega
        · exact spl_may L f _ t h
      · rw [if_neg (by omega)] at h
        rcases List.mem_cons.1 h with rfl | h
        · simp only [mayT]
          rw [if_neg (by simp; omega)]
          simp; omega
        · exact spl_may L f _ t h
    · simp at h
theorem spl_count (L : List UInt8) : ∀ f i, (spl L f i).length ≤ L.length - i
  | 0, i => by simp [spl]
  | f + 1, i => by
    rw [spl]
    split
    · rcases long_cases L i with e | e
      · rw [e]
        simp only [if_true, List.length_cons]
        have := spl_count L f (i + 1)
        omega
      · rw [if_neg (by omega), List.length_cons]
        have := spl_count L f (i + (longP L i).1)
        omega
    · simp
/-- THE STAGE'S LAW: what is split is told again. -/
theorem spl_back (L : List UInt8) (most : Int) (hm : (L.length : Int) ≤ most) : ∀ f i, L.length ≤ i + f → i ≤ L.length → exl most (spl L f i) (nums (L.take i)) = some (nums L)
  | 0, i, h, h2 => by
    obtain rfl : i = L.length := by omega
    rw [spl, exl, List.take_length]
  | f + 1, i, h, h2 => by
    rw [spl]
    by_cases hi : i < L.length
    · rw [if_pos hi]
      have hmay := spl_may L (f + 1) i
      rw [spl, if_pos hi] at hmay
      rcases long_cases L i with e | e
      · rw [e] at hmay ⊢
        simp only [if_true] at hmay ⊢
        rw [exl, if_pos ⟨hmay _ (by simp), by simp, by rw [nums_length, List.length_take]; simp; omega⟩]
        simp only [tell, if_true]
        rw [← nums_take L i hi]
        exact spl_back L most hm f (i + 1) (by omega) (by omega)
      · rw [if_neg (by omega)] at hmay ⊢
        rw [exl, if_pos ⟨hmay _ (by simp), by rw [nums_length, List.length_take]; simp; omega, by rw [nums_length, List.length_take]; simp only; omega⟩]
        simp only [tell]
        rw [if_neg (by omega), Int.toNat_natCast, Int.toNat_natCast, cpy_text L _ _ i e.2.2.2.2.1 e.2.2.1 e.2.2.2.2.2.1 e.2.2.2.2.2.2]
        exact spl_back L most hm f _ (by omega) e.2.2.2.2.2.1
    · rw [if_neg hi]
      obtain rfl : i = L.length := by omega
      rw [exl, List.take_length]
end Go.Proofs.Ytdbhmffiojchcaa
