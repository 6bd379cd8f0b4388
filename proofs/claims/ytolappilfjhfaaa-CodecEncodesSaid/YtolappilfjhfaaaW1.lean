/- Plain laws of the longest copy: by places, by distances. No program in sight. Plain laws of splitting and of telling again. No program in sight. Plain law of a byte, many times. No program in sight. What tokens are as bits, and which tokens bits are: plain. No condition; no program. -/
import GoSem.Claim
import Derived.Test.YtolappilfjhfaaaW0
namespace Go.Proofs.Ytolappilfjhfaaa

/-- How far P holds from n on, at most f further. -/
def runF (P : Nat → Bool) : Nat → Nat → Nat
  | 0, n => n
  | f + 1, n => if P n then runF P f (n + 1) else n

theorem runF_eq {P : Nat → Bool} {k : Nat} : ∀ f n, n ≤ k → k ≤ n + f → (∀ i, n ≤ i → i < k → P i = true) → (k = n + f ∨ P k = false) → runF P f n = k
  | 0, n, h1, h2, _, _ => by simp only [runF]; omega
  | f + 1, n, h1, h2, h3, h4 => by
    unfold runF
    by_cases hn : n = k
    · subst hn
      rcases h4 with h4 | h4
      · omega
      · simp [h4]
    · rw [h3 n (Nat.le_refl _) (by omega), if_pos rfl]
      exact runF_eq f (n + 1) (by omega) (by omega) (fun i hi hk => h3 i (by omega) hk) (by rcases h4 with h | h; exact Or.inl (by omega); exact Or.inr h)
theorem runF_spec {P : Nat → Bool} : ∀ f n, n ≤ runF P f n ∧ runF P f n ≤ n + f ∧ (∀ i, n ≤ i → i < runF P f n → P i = true) ∧ (runF P f n = n + f ∨ P (runF P f n) = false)
  | 0, n => ⟨Nat.le_refl _, Nat.le_refl _, fun i h1 h2 => by simp only [runF] at h2; omega, Or.inl rfl⟩
  | f + 1, n => by
    unfold runF
    by_cases hp : P n = true
    · rw [if_pos hp]
      obtain ⟨h1, h2, h3, h4⟩ := runF_spec (P := P) f (n + 1)
      refine ⟨by omega, by omega, fun i hi hk => ?_, by rcases h4 with h | h; exact Or.inl (by omega); exact Or.inr h⟩
      by_cases e : i = n
      · subst e; exact hp
      · exact h3 i (by omega) hk
    · rw [if_neg hp]
      exact ⟨Nat.le_refl _, by omega, fun i h1 h2 => by omega, Or.inr (by simpa using hp)⟩

/-- The byte i. -/
def bt (L : List UInt8) (i : Nat) : UInt8 := L.getD i 0
/-- May the copy from d ahead go on at n? -/
def goesOn (L : List UInt8) (at' d n : Nat) : Bool := decide (at' + n < L.length) && (bt L (at' + n) == bt L (at' + n - d))
/-- How many bytes from at on are the ones d ahead. -/
def com (L : List UInt8) (at' d : Nat) : Nat := runF (goesOn L at' d) 18 0
theorem com_le (L : List UInt8) (at' d : Nat) : com L at' d ≤ 18 := by have := (runF_spec (P := goesOn L at' d) 18 0).2.1; unfold com; omega
theorem com_on {L : List UInt8} {at' d i : Nat} (h : i < com L at' d) : at' + i < L.length ∧ bt L (at' + i) = bt L (at' + i - d) := by
  have := (runF_spec (P := goesOn L at' d) 18 0).2.2.1 i (Nat.zero_le _) h
  unfold goesOn at this
  simpa using this
theorem com_eq {L : List UInt8} {at' d k : Nat} (hk : k ≤ 18) (h : ∀ i, i < k → at' + i < L.length ∧ bt L (at' + i) = bt L (at' + i - d)) (he : k = 18 ∨ ¬ (at' + k < L.length ∧ bt L (at' + k) = bt L (at' + k - d))) : com L at' d = k :=
  runF_eq 18 0 (Nat.zero_le _) (by omega) (fun i _ hi => by have := h i hi; simp [goesOn, this]) (by
    rcases he with h | h
    · exact Or.inl (by omega)
    · right; unfold goesOn; simpa using h)
theorem com_len (L : List UInt8) (at' d : Nat) (h : at' ≤ L.length) : at' + com L at' d ≤ L.length := by
  by_cases h0 : com L at' d = 0
  · omega
  · have := (com_on (L := L) (at' := at') (d := d) (i := com L at' d - 1) (by omega)).1
    omega
/-- One more distance tried. -/
def upd (L : List UInt8) (at' d : Nat) (acc : Nat × Nat) : Nat × Nat := if d ≤ at' ∧ d ≤ 255 ∧ 3 ≤ com L at' d ∧ acc.1 < com L at' d then (com L at' d, d) else acc
def best (L : List UInt8) (at' : Nat) : Nat → Nat × Nat
  | 0 => (0, 0)
  | D + 1 => upd L at' (D + 1) (best L at' D)
def longP (L : List UInt8) (at' : Nat) : Nat × Nat := best L at' 255

theorem best_le (L : List UInt8) (at' : Nat) : ∀ D, (best L at' D).1 ≤ 18
  | 0 => by simp [best]
  | D + 1 => by
    unfold best upd
    split
    · exact com_le _ _ _
    · exact best_le L at' D
/-- What the best is. -/
theorem best_is (L : List UInt8) (at' : Nat) : ∀ D, best L at' D = (0, 0) ∨ (3 ≤ (best L at' D).1 ∧ 1 ≤ (best L at' D).2 ∧ (best L at' D).2 ≤ D ∧ (best L at' D).2 ≤ 255 ∧ (best L at' D).2 ≤ at' ∧ com L at' (best L at' D).2 = (best L at' D).1)
  | 0 => Or.inl rfl
  | D + 1 => by
    unfold best upd
    split
    · rename_i h; exact Or.inr ⟨h.2.2.1, by simp, by simp, h.2.1, h.1, rfl⟩
    · rcases best_is L at' D with h | h
      · exact Or.inl h
      · exact Or.inr ⟨h.1, h.2.1, by omega, h.2.2.2⟩
theorem best_stays {L : List UInt8} {at' D : Nat} : ∀ E, D ≤ E → (∀ d, D < d → d ≤ E → d ≤ at' → d ≤ 255 → 3 ≤ com L at' d → com L at' d ≤ (best L at' D).1) → best L at' E = best L at' D
  | 0, h, _ => by obtain rfl : D = 0 := by omega
                  rfl
  | E + 1, h, hc => by
    by_cases e : D = E + 1
    · subst e; rfl
    · have ih := best_stays (L := L) (at' := at') (D := D) E (by omega) fun d h1 h2 h3 h4 h5 => hc d h1 (by omega) h3 h4 h5
      rw [best, ih, upd, if_neg]
      rintro ⟨h1, h2, h3, h4⟩
      have := hc (E + 1) (by omega) (Nat.le_refl _) h1 h2 h3
      omega
theorem best_all {L : List UInt8} {at' : Nat} : ∀ D d, 1 ≤ d → d ≤ D → d ≤ at' → d ≤ 255 → 3 ≤ com L at' d → com L at' d ≤ (best L at' D).1
  | 0, d, h1, h2, _, _, _ => by omega
  | D + 1, d, h1, h2, h3, h4, h5 => by
    rw [best]
    unfold upd
    by_cases e : d = D + 1
    · subst e
      split
      · exact Nat.le_refl _
      · rename_i hn
        omega
    · have ih := best_all (L := L) (at' := at') D d h1 (by omega) h3 h4 h5
      split
      · rename_i hn; simp only; omega
      · exact ih
theorem best_wide {L : List UInt8} {at' D : Nat} (h : 255 ≤ D ∨ at' ≤ D) : best L at' D = longP L at' := by
  unfold longP
  by_cases h1 : D ≤ 255
  · exact (best_stays 255 h1 fun d a b c e _ => by omega).symm
  · exact best_stays D (by omega) fun d a b c e _ => by omega
theorem best_18 {L : List UInt8} {at' D : Nat} (h : (best L at' D).1 = 18) (hD : D ≤ 255) : best L at' D = longP L at' :=
  (best_stays 255 hD fun d _ _ _ _ _ => by rw [h]; exact com_le _ _ _).symm
theorem long_short {L : List UInt8} {at' : Nat} (h : L.length < at' + 3) : longP L at' = (0, 0) := by
  rcases best_is L at' 255 with h1 | h1
  · exact h1
  · have h2 := (com_on (L := L) (at' := at') (d := (best L at' 255).2) (i := 2) (by rw [h1.2.2.2.2.2]; omega)).1
    omega
theorem long_le (L : List UInt8) (at' : Nat) : (longP L at').1 ≤ 18 ∧ (longP L at').2 ≤ 255 := by
  refine ⟨best_le L at' 255, ?_⟩
  rcases best_is L at' 255 with h1 | h1
  · unfold longP; rw [h1]; simp
  · exact h1.2.2.1

/-- The loop over the places that are left, the last first. -/
def lp (L : List UInt8) (at' : Nat) : List Nat → Nat × Nat → Nat × Nat
  | [], acc => acc
  | x :: xs, acc => if 255 < at' - x then acc else
    let acc' := if acc.1 < com L at' (at' - x) then (com L at' (at' - x), at' - x) else acc
    if acc'.1 = 18 then acc' else lp L at' xs acc'
/-- The row of three at j. -/
def row3 (L : List UInt8) (j : Nat) : List UInt8 := (L.drop j).take 3
/-- The places from lo on, c of them tried, where the row key stands. -/
def plc (L : List UInt8) (key : List UInt8) (lo c : Nat) : List Nat := (List.range' lo c).filter fun j => row3 L j == key
theorem plc_succ (L : List UInt8) (key : List UInt8) (lo c : Nat) : plc L key lo (c + 1) = plc L key lo c ++ if row3 L (lo + c) = key then [lo + c] else [] := by
  unfold plc
  rw [List.range'_concat, List.filter_append]
  congr 1
  by_cases h : row3 L (lo + c) = key <;> simp [h]
theorem plc_length (L : List UInt8) (key : List UInt8) (lo c : Nat) : (plc L key lo c).length ≤ c := by
  unfold plc
  exact Nat.le_trans (List.length_filter_le _ _) (by simp)
theorem plc_lt {L : List UInt8} {key : List UInt8} {lo c j : Nat} (h : j ∈ plc L key lo c) : lo ≤ j ∧ j < lo + c ∧ row3 L j = key := by
  unfold plc at h
  rw [List.mem_filter, List.mem_range'_1] at h
  exact ⟨h.1.1, h.1.2, by simpa using h.2⟩
theorem row3_get (L : List UInt8) (j : Nat) (h : j + 3 ≤ L.length) : row3 L j = [bt L j, bt L (j + 1), bt L (j + 2)] := by
  unfold row3 bt
  apply List.ext_getElem
  · simp; omega
  · intro i h1 h2
    simp only [List.length_cons, List.length_nil] at h2
    rw [List.getElem_take, List.getElem_drop]
    match i, h2 with
    | 0, _ => simp [List.getD, List.getElem?_eq_getElem (show j < L.length by omega)]
    | 1, _ => simp [List.getD, List.getElem?_eq_getElem (show j + 1 < L.length by omega)]
    | 2, _ => simp [List.getD, List.getElem?_eq_getElem (show j + 2 < L.length by omega)]
theorem row3_short (L : List UInt8) (j : Nat) (h : L.length < j + 3) : (row3 L j).length ≠ 3 := by simp [row3]; omega
theorem row3_com {L : List UInt8} {at' j : Nat} (h3 : at' + 3 ≤ L.length) (hj : j < at') : row3 L j = row3 L at' ↔ 3 ≤ com L at' (at' - j) := by
  rw [row3_get L j (by omega), row3_get L at' h3]
  constructor
  · intro h
    simp only [List.cons.injEq, and_true] at h
    refine Classical.byContradiction fun hlt => ?_
    have hc := (runF_spec (P := goesOn L at' (at' - j)) 18 0).2.2.2
    change com L at' (at' - j) = 0 + 18 ∨ goesOn L at' (at' - j) (com L at' (at' - j)) = false at hc
    rcases hc with hc | hc
    · omega
    · generalize com L at' (at' - j) = m at *
      unfold goesOn at hc
      have : m = 0 ∨ m = 1 ∨ m = 2 := by omega
      rcases this with rfl | rfl | rfl
      · rw [show at' + 0 - (at' - j) = j by omega, Nat.add_zero, h.1] at hc
        simp at hc; omega
      · rw [show at' + 1 - (at' - j) = j + 1 by omega, h.2.1] at hc
        simp at hc; omega
      · rw [show at' + 2 - (at' - j) = j + 2 by omega, h.2.2] at hc
        simp at hc; omega
  · intro h
    have a0 := (com_on (L := L) (at' := at') (d := at' - j) (i := 0) (by omega)).2
    have a1 := (com_on (L := L) (at' := at') (d := at' - j) (i := 1) (by omega)).2
    have a2 := (com_on (L := L) (at' := at') (d := at' - j) (i := 2) (by omega)).2
    rw [show at' + 0 - (at' - j) = j by omega, Nat.add_zero] at a0
    rw [show at' + 1 - (at' - j) = j + 1 by omega] at a1
    rw [show at' + 2 - (at' - j) = j + 2 by omega] at a2
    rw [a0, a1, a2]
theorem lp_best {L : List UInt8} {at' lo : Nat} (h3 : at' + 3 ≤ L.length) (hlo : lo ≤ at' - 255) : ∀ c, lo + c ≤ at' → lp L at' (plc L (row3 L at') lo c).reverse (best L at' (at' - lo - c)) = longP L at'
  | 0, h => by
    simp only [plc, List.range'_zero, List.filter_nil, List.reverse_nil, lp]
    exact best_wide (by omega)
  | c + 1, h => by
    have ih := lp_best h3 hlo c (by omega)
    rw [plc_succ, List.reverse_append]
    have e1 : at' - lo - c = (at' - lo - (c + 1)) + 1 := by omega
    have e2 : at' - (lo + c) = (at' - lo - (c + 1)) + 1 := by omega
    by_cases hr : row3 L (lo + c) = row3 L at'
    · rw [if_pos hr, List.reverse_singleton, List.singleton_append, lp]
      have hc := (row3_com h3 (by omega)).1 hr
      by_cases hf : 255 < at' - (lo + c)
      · rw [if_pos hf]
        exact best_wide (by omega)
      · rw [if_neg hf]
        have hb : (if (best L at' (at' - lo - (c + 1))).1 < com L at' (at' - (lo + c)) then (com L at' (at' - (lo + c)), at' - (lo + c)) else best L at' (at' - lo - (c + 1))) = best L at' (at' - lo - c) := by
          rw [e1, best, upd, ← e2]
          by_cases hlt : (best L at' (at' - lo - (c + 1))).1 < com L at' (at' - (lo + c))
          · rw [if_pos hlt, if_pos ⟨by omega, by omega, hc, hlt⟩]
          · rw [if_neg hlt, if_neg (fun h => hlt h.2.2.2)]
        simp only [hb]
        split
        · rename_i h18; exact best_18 h18 (by omega)
        · exact ih
    · rw [if_neg hr, List.reverse_nil, List.nil_append]
      have hb : best L at' (at' - lo - (c + 1)) = best L at' (at' - lo - c) := by
        rw [e1, best, upd, if_neg]
        rintro ⟨_, _, h, _⟩
        rw [← e2] at h
        exact hr ((row3_com h3 (by omega)).2 h)
      rw [hb]
      exact ih
theorem lp_all {L : List UInt8} {at' lo c : Nat} (h3 : at' + 3 ≤ L.length) (hlo : lo ≤ at' - 255) (hc : lo + c = at') : lp L at' (plc L (row3 L at') lo c).reverse (0, 0) = longP L at' := by
  have := lp_best h3 hlo c (by omega)
  rw [show at' - lo - c = 0 by omega] at this
  exact this
end Go.Proofs.Ytolappilfjhfaaa
namespace Go.Proofs.Ytolappilfjhfaaa

/-- A token: Byte, Dist, Len. -/
abbrev TokT := Int × Int × Int
def mayT (t : TokT) : Bool := if t.2.1 = 0 ∧ t.2.2 = 0 then decide (0 ≤ t.1) && decide (t.1 ≤ 255) else decide (t.1 = 0) && decide (1 ≤ t.2.1) && decide (t.2.1 ≤ 255) && decide (3 ≤ t.2.2) && decide (t.2.2 ≤ 18)
theorem may_cases {t : TokT} (h : mayT t = true) : (t.2.1 = 0 ∧ t.2.2 = 0 ∧ 0 ≤ t.1 ∧ t.1 ≤ 255) ∨ (t.1 = 0 ∧ 1 ≤ t.2.1 ∧ t.2.1 ≤ 255 ∧ 3 ≤ t.2.2 ∧ t.2.2 ≤ 18) := by
  unfold mayT at h
  split at h
  · rename_i h1; simp at h; exact Or.inl ⟨h1.1, h1.2, h.1, h.2⟩
  · simp at h; exact Or.inr ⟨h.1.1.1.1, h.1.1.1.2, h.1.1.2, h.1.2, h.2⟩

/-- The tokens of what stands from at on. -/
def spl (L : List UInt8) : Nat → Nat → List TokT
  | 0, _ => []
  | f + 1, i => if i < L.length then
      if (longP L i).1 = 0 then (((bt L i).toNat : Int), 0, 0) :: spl L f (i + 1)
      else (0, ((longP L i).2 : Int), ((longP L i).1 : Int)) :: spl L f (i + (longP L i).1)
    else []

/-- Bytes copied from d ahead. -/
def cpy (d : Nat) : Nat → List Int → List Int
  | 0, o => o
  | n + 1, o => cpy d n (o ++ [o.getD (o.length - d) 0])
theorem cpy_length (d : Nat) : ∀ n o, (cpy d n o).length = o.length + n
  | 0, o => rfl
  | n + 1, o => by rw [cpy, cpy_length d n]; simp; omega
/-- What one token tells. -/
def tell (t : TokT) (out : List Int) : List Int := if t.2.2 = 0 then out ++ [t.1] else cpy t.2.1.toNat t.2.2.toNat out
/-- The bytes of tokens, if they are at most most. -/
def exl (most : Int) : List TokT → List Int → Option (List Int)
  | [], out => some out
  | t :: ts, out => if mayT t = true ∧ t.2.1 ≤ out.length ∧ (out.length : Int) + max t.2.2 1 ≤ most then exl most ts (tell t out) else none
theorem tell_length {t : TokT} (h : mayT t = true) (out : List Int) : ((tell t out).length : Int) = out.length + max t.2.2 1 := by
  rcases may_cases h with h | h
  · unfold tell; rw [if_pos h.2.1]; simp; omega
  · unfold tell; rw [if_neg (by omega), cpy_length]; omega
theorem exl_len {most : Int} : ∀ {ts : List TokT} {out r : List Int}, exl most ts out = some r → ts ≠ [] → (r.length : Int) ≤ most
  | [], out, r, _, h => absurd rfl h
  | t :: ts, out, r, h, _ => by
    rw [exl] at h
    split at h
    · rename_i hc
      by_cases e : ts = []
      · subst e
        rw [exl] at h
        injection h with h
        subst h
        rw [tell_length hc.1]
        exact hc.2.2
      · exact exl_len h e
    · cases h
theorem exl_more {most more : Int} (hm : most ≤ more) : ∀ {ts : List TokT} {out r : List Int}, exl most ts out = some r → exl more ts out = some r
  | [], out, r, h => h
  | t :: ts, out, r, h => by
    rw [exl] at h ⊢
    split at h
    · rename_i hc
      rw [if_pos ⟨hc.1, hc.2.1, by omega⟩]
      exact exl_more hm h
    · cases h

/-- The text's bytes as numbers. -/
def nums (L : List UInt8) : List Int := L.map fun c => (c.toNat : Int)
theorem nums_length (L : List UInt8) : (nums L).length = L.length := by simp [nums]
theorem nums_take (L : List UInt8) (i : Nat) (h : i < L.length) : nums (L.take (i + 1)) = nums (L.take i) ++ [((bt L i).toNat : Int)] := by
  unfold nums bt
  rw [List.take_succ_eq_append_getElem h, List.map_append, List.map_singleton]
  simp [List.getD, List.getElem?_eq_getElem h]
theorem nums_get (L : List UInt8) (i k : Nat) (h : k < i) (hi : i ≤ L.length) : (nums (L.take i)).getD k 0 = ((bt L k).toNat : Int) := by
  unfold nums bt
  simp only [List.getD, List.getElem?_map, List.getElem?_take_of_lt h, List.getElem?_eq_getElem (show k < L.length by omega), Option.map_some, Option.getD_some]
theorem cpy_text (L : List UInt8) (d : Nat) : ∀ n i, d ≤ i → 1 ≤ d → i + n ≤ L.length → (∀ k, k < n → bt L (i + k) = bt L (i + k - d)) → cpy d n (nums (L.take i)) = nums (L.take (i + n))
  | 0, i, _, _, _, _ => rfl
  | n + 1, i, h1, h2, h3, h4 => by
    rw [cpy, nums_length, List.length_take, show min i L.length = i by omega, nums_get L i (i - d) (by omega) (by omega)]
    have h0 := h4 0 (by omega)
    rw [Nat.add_zero] at h0
    rw [← h0, ← nums_take L i (by omega), cpy_text L d n (i + 1) (by omega) h2 (by omega) (fun k hk => by
      have := h4 (k + 1) (by omega)
      rw [show i + (k + 1) = i + 1 + k by omega] at this
      exact this), show i + 1 + n = i + (n + 1) by omega]
theorem long_cases (L : List UInt8) (i : Nat) : longP L i = (0, 0) ∨ (3 ≤ (longP L i).1 ∧ (longP L i).1 ≤ 18 ∧ 1 ≤ (longP L i).2 ∧ (longP L i).2 ≤ 255 ∧ (longP L i).2 ≤ i ∧ i + (longP L i).1 ≤ L.length ∧ ∀ k, k < (longP L i).1 → bt L (i + k) = bt L (i + k - (longP L i).2)) := by
  rcases best_is L i 255 with h | h
  · exact Or.inl h
  · obtain ⟨h1, h2, h3, h4, h5, h6⟩ := h
    right
    refine ⟨h1, best_le L i 255, h2, h4, h5, ?_, fun k hk => (com_on (L := L) (at' := i) (d := (best L i 255).2) (by rw [h6]; exact hk)).2⟩
    have := (com_on (L := L) (at' := i) (d := (best L i 255).2) (i := (best L i 255).1 - 1) (by rw [h6]; omega)).1
    show i + (best L i 255).1 ≤ L.length
    omega
/-- Every token of a text may be. -/
theorem spl_may (L : List UInt8) : ∀ f i, ∀ t ∈ spl L f i, mayT t = true
  | 0, i, t, h => by simp [spl] at h
  | f + 1, i, t, h => by
    rw [spl] at h
    split at h
    · rcases long_cases L i with e | e
      · rw [e] at h
        simp only [if_true, List.mem_cons] at h
        rcases h with rfl | h
        · have := (bt L i).toNat_lt
          simp [mayT]; omega
        · exact spl_may L f _ t h
      · rw [if_neg (by omega)] at h
        rcases List.mem_cons.1 h with rfl | h
        · simp only [mayT]
          rw [if_neg (by simp; omega)]
          simp; omega
        · exact spl_may L f _ t h
    · simp at h
theorem spl_count (L : List UInt8) : ∀ f i, (spl L f i).length ≤ L.length - i
  | 0, i => by simp [spl]
  | f + 1, i => by
    rw [spl]
    split
    · rcases long_cases L i with e | e
      · rw [e]
        simp only [if_true, List.length_cons]
        have := spl_count L f (i + 1)
        omega
      · rw [if_neg (by omega), List.length_cons]
        have := spl_count L f (i + (longP L i).1)
        omega
    · simp
/-- THE STAGE'S LAW: what is split is told again. -/
theorem spl_back (L : List UInt8) (most : Int) (hm : (L.length : Int) ≤ most) : ∀ f i, L.length ≤ i + f → i ≤ L.length → exl most (spl L f i) (nums (L.take i)) = some (nums L)
  | 0, i, h, h2 => by
    obtain rfl : i = L.length := by omega
    rw [spl, exl, List.take_length]
  | f + 1, i, h, h2 => by
    rw [spl]
    by_cases hi : i < L.length
    · rw [if_pos hi]
      have hmay := spl_may L (f + 1) i
      rw [spl, if_pos hi] at hmay
      rcases long_cases L i with e | e
      · rw [e] at hmay ⊢
        simp only [if_true] at hmay ⊢
        rw [exl, if_pos ⟨hmay _ (by simp), by simp, by rw [nums_length, List.length_take]; simp; omega⟩]
        simp only [tell, if_true]
        rw [← nums_take L i hi]
        exact spl_back L most hm f (i + 1) (by omega) (by omega)
      · rw [if_neg (by omega)] at hmay ⊢
        rw [exl, if_pos ⟨hmay _ (by simp), by rw [nums_length, List.length_take]; simp; omega, by rw [nums_length, List.length_take]; simp only; omega⟩]
        simp only [tell]
        rw [if_neg (by omega), Int.toNat_natCast, Int.toNat_natCast, cpy_text L _ _ i e.2.2.2.2.1 e.2.2.1 e.2.2.2.2.2.1 e.2.2.2.2.2.2]
        exact spl_back L most hm f _ (by omega) e.2.2.2.2.2.1
    · rw [if_neg hi]
      obtain rfl : i = L.length := by omega
      rw [exl, List.take_length]
end Go.Proofs.Ytolappilfjhfaaa
namespace Go.Proofs.Ytolappilfjhfaaa

theorem bt_rep (n i : Nat) (c : UInt8) (h : i < n) : bt (List.replicate n c) i = c := by
  unfold bt
  simp [List.getD, h]
theorem com_rep (n i : Nat) (c : UInt8) (h1 : 1 ≤ i) (h2 : i ≤ n) : com (List.replicate n c) i 1 = min 18 (n - i) := by
  refine com_eq (Nat.min_le_left _ _) (fun j hj => ?_) ?_
  · rw [List.length_replicate, bt_rep n _ c (by omega), bt_rep n _ c (by omega)]
    exact ⟨by omega, rfl⟩
  · by_cases h : 18 ≤ n - i
    · left; omega
    · right
      rw [List.length_replicate]
      intro h'
      omega
theorem long_rep_none (n i : Nat) (c : UInt8) (h : i = 0 ∨ n < i + 3) : longP (List.replicate n c) i = (0, 0) := by
  rcases h with rfl | h
  · rcases long_cases (List.replicate n c) 0 with h | h
    · exact h
    · omega
  · exact long_short (by rw [List.length_replicate]; exact h)
theorem long_rep (n i : Nat) (c : UInt8) (h1 : 1 ≤ i) (h2 : i + 3 ≤ n) : longP (List.replicate n c) i = (min 18 (n - i), 1) := by
  have hc := com_rep n i c h1 (by omega)
  have hb : best (List.replicate n c) i 1 = (min 18 (n - i), 1) := by
    have e : best (List.replicate n c) i 1 = upd (List.replicate n c) i 1 (0, 0) := rfl
    have h0 : 3 ≤ min 18 (n - i) := by omega
    rw [e, upd, hc, if_pos ⟨h1, by omega, h0, Nat.lt_of_lt_of_le (by decide) h0⟩]
  unfold longP
  rw [best_stays (D := 1) 255 (by omega) (fun d _ _ _ _ _ => ?_), hb]
  rw [hb]
  have h3 := com_le (List.replicate n c) i d
  have h4 := com_len (List.replicate n c) i d (by rw [List.length_replicate]; omega)
  rw [List.length_replicate] at h4
  show _ ≤ min 18 (n - i)
  omega
/-- How many tokens for m bytes behind the first. -/
def cntR (m : Nat) : Nat := m / 18 + if 3 ≤ m % 18 then 1 else m % 18
theorem spl_rep (n : Nat) (c : UInt8) : ∀ f i, 1 ≤ i → i ≤ n → n ≤ i + f → (spl (List.replicate n c) f i).length = cntR (n - i)
  | 0, i, h1, h2, h3 => by
    obtain rfl : i = n := by omega
    simp [spl, cntR]
  | f + 1, i, h1, h2, h3 => by
    rw [spl, List.length_replicate]
    by_cases hi : i < n
    · rw [if_pos hi]
      by_cases hs : n < i + 3
      · rw [long_rep_none n i c (Or.inr hs)]
        simp only [if_true, List.length_cons]
        rw [spl_rep n c f (i + 1) (by omega) (by omega) (by omega)]
        unfold cntR
        rw [if_neg (by omega), if_neg (by omega)]
        omega
      · rw [long_rep n i c h1 (by omega)]
        simp only
        rw [if_neg (by omega), List.length_cons, spl_rep n c f _ (by omega) (by omega) (by omega)]
        unfold cntR
        by_cases h18 : 18 ≤ n - i
        · rw [Nat.min_eq_left h18, show n - i = (n - (i + 18)) + 18 by omega]
          generalize n - (i + 18) = m
          rw [show (m + 18) / 18 = m / 18 + 1 by omega, show (m + 18) % 18 = m % 18 by omega]
          omega
        · rw [Nat.min_eq_right (by omega), show n - (i + (n - i)) = 0 by omega, if_neg (by omega), if_pos (by omega)]
          omega
    · rw [if_neg hi]
      obtain rfl : i = n := by omega
      simp [cntR]
/-- THE LAW: as many as there must be. -/
theorem rows_count (n : Nat) (c : UInt8) : (spl (List.replicate n c) n 0).length = if n = 0 then 0 else 1 + cntR (n - 1) := by
  cases n with
  | zero => rfl
  | succ m =>
    rw [spl, List.length_replicate, if_pos (by omega), long_rep_none _ 0 c (Or.inl rfl)]
    simp only [if_true, List.length_cons]
    rw [spl_rep (m + 1) c m (0 + 1) (by omega) (by omega) (by omega), if_neg (by omega), show m + 1 - (0 + 1) = m + 1 - 1 by omega]
    omega
theorem rows_second (n : Nat) (c : UInt8) (h : 4 ≤ n) (h1 : 1 < (spl (List.replicate n c) n 0).length) : ((spl (List.replicate n c) n 0)[1]).2.1 = 1 := by
  have e : ∃ t, (spl (List.replicate n c) n 0)[1]? = some t ∧ t.2.1 = 1 := by
    obtain ⟨m, rfl⟩ : ∃ m, n = m + 2 := ⟨n - 2, by omega⟩
    rw [spl, List.length_replicate, if_pos (by omega), long_rep_none _ 0 c (Or.inl rfl)]
    simp only [if_true, List.getElem?_cons_succ]
    rw [spl, List.length_replicate, if_pos (by omega), long_rep _ _ c (by omega) (by omega)]
    simp only
    rw [if_neg (by omega)]
    exact ⟨_, rfl, rfl⟩
  obtain ⟨t, ht, h2⟩ := e
  rw [List.getElem?_eq_getElem h1] at ht
  injection ht with ht
  rw [ht]
  exact h2
end Go.Proofs.Ytolappilfjhfaaa
namespace Go.Proofs.Ytolappilfjhfaaa

/-- A token's symbol. -/
def symT (t : TokT) : Int := if mayT t = true then (if 0 < t.2.2 then 253 + t.2.2 else t.1) else -1
theorem symT_no {t : TokT} (h : mayT t = false) : symT t = -1 := by unfold symT; rw [h]; rfl
theorem mayT_parts {b d n : Int} (h : mayT (b, d, n) = true) : (n = 0 ∧ d = 0 ∧ 0 ≤ b ∧ b ≤ 255) ∨ (b = 0 ∧ 1 ≤ d ∧ d ≤ 255 ∧ 3 ≤ n ∧ n ≤ 18) := by
  unfold mayT at h
  by_cases h0 : d = 0 ∧ n = 0
  · rw [if_pos h0] at h; simp at h; exact Or.inl ⟨h0.2, h0.1, h.1, h.2⟩
  · rw [if_neg h0] at h; simp at h; exact Or.inr ⟨h.1.1.1.1, h.1.1.1.2, h.1.1.2, h.1.2, h.2⟩
theorem symT_yes {b d n : Int} (h : mayT (b, d, n) = true) : 0 ≤ symT (b, d, n) ∧ symT (b, d, n) < 272 ∧ (0 < n → symT (b, d, n) = 253 + n ∧ 256 ≤ symT (b, d, n)) ∧ (¬ 0 < n → symT (b, d, n) = b ∧ symT (b, d, n) < 256) := by
  have hp := mayT_parts h
  unfold symT
  rw [if_pos h]
  by_cases hn : 0 < n
  · rw [if_pos hn]; refine ⟨?_, ?_, fun _ => ⟨rfl, ?_⟩, fun k => absurd hn k⟩ <;> simp only [] <;> omega
  · rw [if_neg hn]; refine ⟨?_, ?_, fun k => absurd k hn, fun _ => ⟨rfl, ?_⟩⟩ <;> simp only [] <;> omega
theorem symT_neg {t : TokT} : symT t < 0 ↔ mayT t = false := by
  obtain ⟨b, d, n⟩ := t
  cases h : mayT (b, d, n) with
  | false => rw [symT_no h]; simp
  | true => have := symT_yes h; simp; omega

/-- How often each symbol is there. -/
def timesL (l : List TokT) : List Int := (List.range 272).map fun s : Nat => ((l.filter fun t => symT t == (s : Int)).length : Int)
theorem timesL_length (l : List TokT) : (timesL l).length = 272 := by simp [timesL]
theorem timesL_nil : timesL [] = List.replicate 272 0 :=
  List.eq_replicate_iff.2 ⟨timesL_length [], fun b hb => by obtain ⟨_, _, rfl⟩ := List.mem_map.1 hb; rfl⟩
theorem timesL_at (l : List TokT) {s : Nat} (hs : s < 272) : (timesL l)[s]? = some (((l.filter fun t => symT t == (s : Int)).length : Nat) : Int) := by
  simp [timesL, hs]
theorem timesL_snoc (l : List TokT) (t : TokT) {s : Nat} (hs : s < 272) (h : symT t = s) : timesL (l ++ [t]) = (timesL l).set s (((l.filter fun t => symT t == (s : Int)).length : Int) + 1) := by
  apply List.ext_getElem?
  intro i
  by_cases hi : i < 272
  · rw [timesL_at _ hi]
    by_cases e : s = i
    · subst e
      rw [List.getElem?_set_self (by rw [timesL_length]; exact hs), List.filter_append]
      simp [h]
    · rw [List.getElem?_set_ne e, timesL_at _ hi, List.filter_append]
      have : (symT t == (i : Int)) = false := by rw [h]; simp; omega
      simp [this]
  · rw [List.getElem?_eq_none (by rw [timesL_length]; omega), List.getElem?_eq_none (by rw [List.length_set, timesL_length]; omega)]
theorem timesL_bd (l : List TokT) : ∀ x ∈ timesL l, 0 ≤ x ∧ x ≤ l.length := by
  intro x hx
  obtain ⟨s, _, rfl⟩ := List.mem_map.1 hx
  have := List.length_filter_le (fun t => symT t == (s : Int)) l
  omega
theorem timesL_pos {l : List TokT} {t : TokT} (ht : t ∈ l) {s : Nat} (hs : s < 272) (h : symT t = s) : ∃ x, (timesL l)[s]? = some x ∧ 0 < x := by
  refine ⟨_, timesL_at l hs, ?_⟩
  have : t ∈ l.filter fun t => symT t == (s : Int) := List.mem_filter.2 ⟨ht, by simp [h]⟩
  have := List.length_pos_of_mem this
  omega

/-- How many of the first k symbols have a length. -/
def manyT (L : List Int) (k : Nat) : Nat := ((List.range k).filter fun s => decide (0 < L[s]?.getD 0)).length
/-- The rows of the first k symbols. -/
def rowsT (L : List Int) (k : Nat) : List Bool := ((List.range k).filter fun s => decide (0 < L[s]?.getD 0)).flatMap fun s : Nat => putL (s : Int) 9 ++ putL (L[s]?.getD 0) 4
/-- The bits of one token. -/
def tokB (L : List Int) (t : TokT) : List Bool := bitsC L (symT t).toNat ++ (if 0 < t.2.2 then putL t.2.1 8 else [])
/-- The bits of tokens. -/
def wrB (L : List Int) (l : List TokT) : List Bool := putL (manyT L 272 : Nat) 9 ++ rowsT L 272 ++ l.flatMap (tokB L)
theorem manyT_step (L : List Int) (k : Nat) : manyT L (k + 1) = manyT L k + (if 0 < L[k]?.getD 0 then 1 else 0) := by
  unfold manyT
  rw [List.range_succ, List.filter_append, List.length_append]
  by_cases h : 0 < L[k]?.getD 0 <;> simp [h]
theorem rowsT_step (L : List Int) (k : Nat) : rowsT L (k + 1) = rowsT L k ++ (if 0 < L[k]?.getD 0 then putL (k : Int) 9 ++ putL (L[k]?.getD 0) 4 else []) := by
  unfold rowsT
  rw [List.range_succ, List.filter_append, List.flatMap_append]
  by_cases h : 0 < L[k]?.getD 0 <;> simp [h]
theorem manyT_le (L : List Int) (k : Nat) : manyT L k ≤ k := by
  unfold manyT
  have := List.length_filter_le (fun s => decide (0 < L[s]?.getD 0)) (List.range k)
  simpa using this
theorem rowsT_length (L : List Int) (k : Nat) : (rowsT L k).length = 13 * manyT L k := by
  induction k with
  | zero => rfl
  | succ k ih =>
    rw [rowsT_step, manyT_step, List.length_append, ih]
    by_cases h : 0 < L[k]?.getD 0 <;> simp [h, putL_length] <;> omega
/-- Are all tokens ones that may be, and not too many? -/
def wrOk (l : List TokT) : Bool := decide (l.length ≤ 1000) && l.all mayT

/-- A number of width bits at p. -/
def numO (b : List Bool) (p : Int) (width : Int) : Option Int := if 0 ≤ width ∧ width ≤ 30 ∧ 0 ≤ p ∧ p + width ≤ b.length then some (takeN ((b.drop p.toNat).take width.toNat)) else none
/-- Which symbols there are, and how long their codes are: n more of them, from p on, each above the one ahead. -/
def hdrO (b : List Bool) : Nat → Int → Int → List Int → Option (List Int × Int)
  | 0, p, _, L => some (L, p)
  | n + 1, p, ahead, L => match numO b p 9, numO b (p + 9) 4 with
    | some s, some k => if s ≤ ahead ∨ 272 ≤ s ∨ k = 0 then none else hdrO b n (p + 13) s (L.set s.toNat k)
    | _, _ => none
/-- The lengths, and the place behind them. -/
def lensO (b : List Bool) : Option (List Int × Int) := match numO b 0 9 with
  | some n => match hdrO b n.toNat 9 (-1) (List.replicate 272 0) with
    | some (L, p) => if lensOk L = true then some (L, p) else none
    | none => none
  | none => none
/-- One token, and the place behind it. -/
def tokO (L : List Int) (b : List Bool) (p : Int) : Option (TokT × Int) := match readO L b p with
  | some s => if s < 256 then some (((s : Int), 0, 0), p + L[s]?.getD 0) else match numO b (p + L[s]?.getD 0) 8 with
    | some d => some ((0, d, (s : Int) - 253), p + L[s]?.getD 0 + 8)
    | none => none
  | none => none
/-- Tokens till they tell many bytes. -/
def toksO (L : List Int) (b : List Bool) (many : Int) : Nat → Int → Int → List TokT → Option (List TokT × Int)
  | 0, _, _, _ => none
  | n + 1, told, p, out => if told < many then (match tokO L b p with
      | some (t, q) => if mayT t = false ∨ told < t.2.1 ∨ many < told + max t.2.2 1 then none else toksO L b many n (told + max t.2.2 1) q (out ++ [t])
      | none => none) else some (out, p)
/-- What bits are. -/
def rdO (b : List Bool) (many : Int) : Option (List TokT × Int) := if many < 0 ∨ 1000 < many then none else match lensO b with
  | some (L, p) => toksO L b many (many.toNat + 1) 0 p []
  | none => none
end Go.Proofs.Ytolappilfjhfaaa
