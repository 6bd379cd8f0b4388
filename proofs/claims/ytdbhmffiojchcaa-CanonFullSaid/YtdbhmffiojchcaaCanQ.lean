/- The plain law of codes by lengths: what is read, that no code begins with another one. No program in sight. -/
import Derived.Test.YtdbhmffiojchcaaCanP
namespace Go.Proofs.Ytdbhmffiojchcaa

theorem p2_15 : p2 15 = 32768 := by decide
theorem lensOk_parts {l : List Int} (h : lensOk l = true) : l.length ≤ 300 ∧ (∀ x ∈ l, 0 ≤ x ∧ x ≤ 15) ∧ kraftL l ≤ 32768 := by
  simp only [lensOk, Bool.and_eq_true, decide_eq_true_eq, List.all_eq_true] at h
  exact ⟨h.1.1, h.1.2, h.2⟩
theorem lensOk_of {l : List Int} (h1 : l.length ≤ 300) (h2 : ∀ x ∈ l, 0 ≤ x ∧ x ≤ 15) (h3 : kraftL l ≤ 32768) : lensOk l = true := by
  simp only [lensOk, Bool.and_eq_true, decide_eq_true_eq, List.all_eq_true]
  exact ⟨⟨h1, h2⟩, h3⟩
theorem lens_get {l : List Int} (h : lensOk l = true) {s : Nat} (hs : s < l.length) (h0 : l[s] ≠ 0) : ∃ n : Nat, n < 15 ∧ l[s] = ((n + 1 : Nat) : Int) := by
  have := (lensOk_parts h).2.1 l[s] (List.getElem_mem hs)
  exact ⟨l[s].toNat - 1, by omega, by omega⟩
theorem kraftTo_le {l : List Int} (h : lensOk l = true) (n : Nat) (hn : n ≤ 15) : kraftTo l n ≤ 32768 := by
  have h1 := lensOk_parts h
  have := kraftTo_mono l hn
  rw [kraftTo_15 l h1.2.1] at this
  omega
theorem getD_get {l : List Int} {s n : Nat} (hs : s < l.length) (h : l[s] = (n : Int)) : (l[s]?.getD 0).toNat = n := by rw [List.getElem?_eq_getElem hs, Option.getD_some, h, Int.toNat_natCast]

theorem of_mul_lt {a b p : Int} (hp : 0 < p) (h : a * p < b * p) : a < b := by
  by_cases q : a < b
  · exact q
  · have := mul_le_r (a := b) (b := a) (p := p) (by omega) (by omega); omega
theorem of_mul_le {a b p : Int} (hp : 0 < p) (h : a * p ≤ b * p) : a ≤ b := by
  by_cases q : b < a
  · have h2 := mul_le_r (a := b + 1) (b := a) (p := p) (by omega) (by omega)
    rw [Int.add_mul, Int.one_mul] at h2; omega
  · omega

/-- A first code of n bits, and how many there are, fit into n bits. -/
theorem first_cnt_le {l : List Int} (h : lensOk l = true) {n : Nat} (hn : n < 15) : firstC l (n + 1) + cntL l (n + 1) ≤ p2 (n + 1) := by
  have h1 := kraftTo_le h (n + 1) (by omega)
  rw [kraftTo_succ, ← firstC_kraft l n hn, ← Int.add_mul] at h1
  have h2 : p2 (n + 1) * p2 (15 - (n + 1)) = 32768 := by rw [← p2_add, ← p2_15]; congr 1; omega
  exact of_mul_le (p := p2 (15 - (n + 1))) (by have := p2_pos (15 - (n + 1)); omega) (by rw [h2]; exact h1)
theorem code_lt {l : List Int} (h : lensOk l = true) {s n : Nat} (hs : s < l.length) (hl : l[s] = ((n + 1 : Nat) : Int)) (hn : n < 15) : codeC l s < p2 (n + 1) := by
  have h1 := first_cnt_le h hn
  have h2 := cntL_take_lt l s (n + 1) hs hl
  unfold codeC
  rw [getD_get hs hl]; omega

/-- The bits of the symbol s. -/
def bitsC (l : List Int) (s : Nat) : List Bool := putL (codeC l s) (l[s]?.getD 0).toNat
theorem bitsC_length (l : List Int) (s : Nat) : (bitsC l s).length = (l[s]?.getD 0).toNat := putL_length _ _
theorem takeN_bitsC {l : List Int} (h : lensOk l = true) {s : Nat} (hs : s < l.length) (h0 : l[s] ≠ 0) : takeN (bitsC l s) = codeC l s := by
  obtain ⟨n, hn, hl⟩ := lens_get h hs h0
  unfold bitsC
  rw [getD_get hs hl]
  exact takeN_put (codeC_nonneg l s) (code_lt h hs hl hn)

/-- Does the code of the symbol s stand at p? -/
def hit (l : List Int) (b : List Bool) (p s : Nat) : Bool :=
  decide (0 < (l[s]?.getD 0).toNat ∧ p + (l[s]?.getD 0).toNat ≤ b.length ∧ takeN ((b.drop p).take (l[s]?.getD 0).toNat) = codeC l s)
theorem hit_iff {l : List Int} {b : List Bool} {p s : Nat} : hit l b p s = true ↔ 0 < (l[s]?.getD 0).toNat ∧ p + (l[s]?.getD 0).toNat ≤ b.length ∧ takeN ((b.drop p).take (l[s]?.getD 0).toNat) = codeC l s := by simp [hit]
theorem hit_in {l : List Int} {b : List Bool} {p s : Nat} (h : hit l b p s = true) : ∃ hs : s < l.length, 0 < l[s] := by
  have h1 := (hit_iff.1 h).1
  rcases Nat.lt_or_ge s l.length with q | q
  · refine ⟨q, ?_⟩
    rw [List.getElem?_eq_getElem q, Option.getD_some] at h1
    omega
  · rw [List.getElem?_eq_none q] at h1; simp at h1

/-- A code that stands at a place of fewer bits lies around what stands there of more. -/
theorem hit_base {l : List Int} {b : List Bool} {p s n : Nat} (hs : s < l.length) (hl : l[s] = ((n + 1 : Nat) : Int)) (hn : n < 15) (h : hit l b p s = true) (m : Nat) (hm : n + 1 ≤ m) (hm15 : m ≤ 15) (hb : p + m ≤ b.length) :
    baseC l s ≤ takeN ((b.drop p).take m) * p2 (15 - m) ∧ takeN ((b.drop p).take m) * p2 (15 - m) < endC l s := by
  have h1 := (hit_iff.1 h).2.2
  rw [getD_get hs hl] at h1
  have e : (b.drop p).take m = (b.drop p).take (n + 1) ++ (((b.drop p).take m).drop (n + 1)) := by
    have := (List.take_append_drop (n + 1) ((b.drop p).take m)).symm
    rwa [List.take_take, Nat.min_eq_left hm] at this
  have hlen : (((b.drop p).take m).drop (n + 1)).length = m - (n + 1) := by
    rw [List.length_drop, List.length_take, List.length_drop]; omega
  have hbd := takeN_bd (((b.drop p).take m).drop (n + 1))
  rw [hlen] at hbd
  have hv : takeN ((b.drop p).take m) = codeC l s * p2 (m - (n + 1)) + takeN (((b.drop p).take m).drop (n + 1)) := by
    rw [e, takeN_append, h1, ← e, hlen]
  have hp : p2 (m - (n + 1)) * p2 (15 - m) = p2 (15 - (n + 1)) := by rw [← p2_add]; congr 1; omega
  have hpos := p2_pos (15 - m)
  unfold baseC endC
  rw [getD_get hs hl, hv, Int.add_mul, Int.mul_assoc, hp, Int.add_mul, Int.one_mul]
  have q1 : 0 ≤ takeN (((b.drop p).take m).drop (n + 1)) * p2 (15 - m) := Int.mul_nonneg hbd.1 (by omega)
  have q2 := mul_le_r (a := takeN (((b.drop p).take m).drop (n + 1)) + 1) (b := p2 (m - (n + 1))) (p := p2 (15 - m)) (by omega) (by omega)
  rw [Int.add_mul, Int.one_mul, hp] at q2
  omega
/-- At one place stands the code of one symbol at most. -/
theorem hit_one {l : List Int} (hok : lensOk l = true) {b : List Bool} {p s t : Nat} (hs : hit l b p s = true) (ht : hit l b p t = true) : s = t := by
  have key : ∀ s t m n : Nat, (hsl : s < l.length) → (htl : t < l.length) → l[s] = ((m + 1 : Nat) : Int) → l[t] = ((n + 1 : Nat) : Int) → m < 15 → n < 15 → hit l b p s = true → hit l b p t = true → (m < n ∨ (m = n ∧ s < t)) → False := by
    intro s t m n hsl htl hm hn hm15 hn15 hs ht hlt
    have h1 := apart hsl htl hm hn hm15 hn15 hlt
    have hb := (hit_iff.1 ht).2.1
    rw [getD_get htl hn] at hb
    have h2 := hit_base hsl hm hm15 hs (n + 1) (by omega) (by omega) hb
    have h3 := hit_base htl hn hn15 ht (n + 1) (by omega) (by omega) hb
    have h4 := (hit_iff.1 ht).2.2
    rw [getD_get htl hn] at h4
    have h5 : takeN ((b.drop p).take (n + 1)) * p2 (15 - (n + 1)) = baseC l t := by
      unfold baseC; rw [getD_get htl hn, h4]
    omega
  obtain ⟨hsl, hs0⟩ := hit_in hs
  obtain ⟨htl, ht0⟩ := hit_in ht
  obtain ⟨m, hm15, hm⟩ := lens_get hok hsl (by omega)
  obtain ⟨n, hn15, hn⟩ := lens_get hok htl (by omega)
  rcases Nat.lt_trichotomy s t with q | q | q
  · rcases Nat.lt_or_ge n m with r | r
    · exact (key t s n m htl hsl hn hm hn15 hm15 ht hs (Or.inl r)).elim
    · exact (key s t m n hsl htl hm hn hm15 hn15 hs ht (by omega)).elim
  · exact q
  · rcases Nat.lt_or_ge m n with r | r
    · exact (key s t m n hsl htl hm hn hm15 hn15 hs ht (Or.inl r)).elim
    · exact (key t s n m htl hsl hn hm hn15 hm15 ht hs (by omega)).elim

/-- What is read at a place. -/
def readO (l : List Int) (b : List Bool) (p : Int) : Option Nat := if lensOk l = true ∧ 0 ≤ p then (List.range l.length).find? (hit l b p.toNat) else none
theorem readO_hit {l : List Int} (hok : lensOk l = true) {b : List Bool} {p s : Nat} (h : hit l b p s = true) : readO l b p = some s := by
  unfold readO
  rw [if_pos ⟨hok, by omega⟩, Int.toNat_natCast]
  cases hf : (List.range l.length).find? (hit l b p) with
  | none =>
    have := List.find?_eq_none.1 hf s (List.mem_range.2 (hit_in h).1)
    exact absurd h this
  | some t =>
    have := List.find?_some hf
    rw [hit_one hok this h]
theorem readO_none {l : List Int} {b : List Bool} {p : Nat} (h : ∀ s, hit l b p s = false) : readO l b p = none := by
  unfold readO
  split
  · rw [Int.toNat_natCast]
    exact List.find?_eq_none.2 fun s _ => by rw [h s]; decide
  · rfl
theorem readO_some {l : List Int} {b : List Bool} {p : Int} {s : Nat} (h : readO l b p = some s) : lensOk l = true ∧ 0 ≤ p ∧ hit l b p.toNat s = true := by
  unfold readO at h
  split at h
  · rename_i q; exact ⟨q.1, q.2, List.find?_some h⟩
  · cases h

/-- The i-th of the lengths n. -/
theorem nth_there (l : List Int) (n : Nat) : ∀ i, i < cntL l n → ∃ s, ∃ hs : s < l.length, l[s] = (n : Int) ∧ cntL (l.take s) n = i := by
  have : ∀ k, k ≤ l.length → ∀ i, i < cntL (l.take k) n → ∃ s, ∃ hs : s < l.length, l[s] = (n : Int) ∧ cntL (l.take s) n = i := by
    intro k
    induction k with
    | zero => intro _ i hi; rw [List.take_zero, cntL_nil] at hi; omega
    | succ k ih =>
      intro hk i hi
      have hlt : k < l.length := by omega
      rw [List.take_succ_eq_append_getElem hlt, cntL_snoc] at hi
      by_cases h : i < cntL (l.take k) n
      · exact ih (by omega) i h
      · by_cases hx : l[k] = (n : Int)
        · rw [if_pos hx] at hi
          exact ⟨k, hlt, hx, by omega⟩
        · rw [if_neg hx] at hi; omega
  intro i hi
  exact this l.length (Nat.le_refl _) i (by rwa [List.take_length])

/-- The symbol whose code of n bits stands behind the first one by i. -/
theorem hit_nth {l : List Int} {b : List Bool} {p n i : Nat} (hi : i < cntL l (n + 1)) (hb : p + (n + 1) ≤ b.length) (hc : takeN ((b.drop p).take (n + 1)) = firstC l (n + 1) + i) :
    ∃ s, ∃ hs : s < l.length, l[s] = ((n + 1 : Nat) : Int) ∧ cntL (l.take s) (n + 1) = i ∧ hit l b p s = true := by
  obtain ⟨s, hs, hl, hcn⟩ := nth_there l (n + 1) i hi
  refine ⟨s, hs, hl, hcn, hit_iff.2 ?_⟩
  unfold codeC
  rw [getD_get hs hl, hcn]
  exact ⟨by omega, hb, hc⟩
theorem hit_range {l : List Int} {b : List Bool} {p s n : Nat} (hs : s < l.length) (hl : l[s] = ((n + 1 : Nat) : Int)) (h : hit l b p s = true) :
    firstC l (n + 1) ≤ takeN ((b.drop p).take (n + 1)) ∧ takeN ((b.drop p).take (n + 1)) < firstC l (n + 1) + cntL l (n + 1) := by
  have h1 := (hit_iff.1 h).2.2
  have h2 := cntL_take_lt l s (n + 1) hs hl
  unfold codeC at h1
  rw [getD_get hs hl] at h1
  omega

/-- What is written is read. -/
theorem hit_written {l : List Int} (hok : lensOk l = true) {s : Nat} (hs : s < l.length) (h0 : l[s] ≠ 0) (pre more : List Bool) : hit l (pre ++ (bitsC l s ++ more)) pre.length s = true := by
  obtain ⟨n, hn, hl⟩ := lens_get hok hs h0
  have e : (l[s]?.getD 0).toNat = (bitsC l s).length := (bitsC_length l s).symm
  refine hit_iff.2 ⟨by rw [getD_get hs hl]; omega, by simp only [List.length_append, e]; omega, ?_⟩
  rw [List.drop_left, e, List.take_left]
  exact takeN_bitsC hok hs h0
/-- No code begins with another one. -/
theorem no_prefix {l : List Int} (hok : lensOk l = true) {s t : Nat} (hs : s < l.length) (h0 : l[s] ≠ 0) (ht : t < l.length) (h1 : l[t] ≠ 0) (hp : (bitsC l t).take (bitsC l s).length = bitsC l s) : s = t := by
  have a := hit_written hok ht h1 [] []
  rw [List.append_nil, List.nil_append] at a
  have b := hit_written hok hs h0 [] ((bitsC l t).drop (bitsC l s).length)
  rw [List.nil_append] at b
  have e : bitsC l s ++ (bitsC l t).drop (bitsC l s).length = bitsC l t := by
    have := List.take_append_drop (bitsC l s).length (bitsC l t)
    rwa [hp] at this
  rw [e] at b
  exact hit_one hok b a

/-- If the codes fill all there is, each row of 15 bits begins with one. -/
theorem full_hit {l : List Int} (hok : lensOk l = true) (hk : kraftL l = 32768) (b : List Bool) (hb : b.length = 15) : ∃ s, ∃ hs : s < l.length, hit l b 0 s = true ∧ 0 < l[s] ∧ l[s] ≤ 15 := by
  have hv := takeN_bd b
  rw [hb, p2_15] at hv
  have h15 : kraftTo l 15 = 32768 := by rw [kraftTo_15 l (lensOk_parts hok).2.1, hk]
  have key : ∀ n, n ≤ 15 → takeN b < kraftTo l n → ∃ m, m < n ∧ kraftTo l m ≤ takeN b ∧ takeN b < kraftTo l (m + 1) := by
    intro n
    induction n with
    | zero => intro _ h; have : kraftTo l 0 = 0 := rfl; omega
    | succ n ih =>
      intro hn h
      by_cases q : takeN b < kraftTo l n
      · obtain ⟨m, h1, h2⟩ := ih (by omega) q
        exact ⟨m, by omega, h2⟩
      · exact ⟨n, by omega, by omega, h⟩
  obtain ⟨m, hm, h1, h2⟩ := key 15 (Nat.le_refl _) (by omega)
  rw [kraftTo_succ, ← firstC_kraft l m hm, ← Int.add_mul] at h2
  rw [← firstC_kraft l m hm] at h1
  have e : b = b.take (m + 1) ++ b.drop (m + 1) := (List.take_append_drop _ _).symm
  have hlen : (b.drop (m + 1)).length = 15 - (m + 1) := by rw [List.length_drop, hb]
  have hvv : takeN b = takeN (b.take (m + 1)) * p2 (15 - (m + 1)) + takeN (b.drop (m + 1)) := by
    have := takeN_append (b.take (m + 1)) (b.drop (m + 1))
    rwa [← e, hlen] at this
  have hbd := takeN_bd (b.drop (m + 1))
  rw [hlen] at hbd
  have hp := p2_pos (15 - (m + 1))
  have q1 : firstC l (m + 1) ≤ takeN (b.take (m + 1)) := by
    have : firstC l (m + 1) * p2 (15 - (m + 1)) < (takeN (b.take (m + 1)) + 1) * p2 (15 - (m + 1)) := by rw [Int.add_mul, Int.one_mul]; omega
    have := of_mul_lt (by omega) this
    omega
  have q2 : takeN (b.take (m + 1)) < firstC l (m + 1) + cntL l (m + 1) := by
    exact of_mul_lt (p := p2 (15 - (m + 1))) (by omega) (by omega)
  obtain ⟨s, hs, hl, _, hh⟩ := hit_nth (l := l) (b := b) (p := 0) (n := m) (i := (takeN (b.take (m + 1)) - firstC l (m + 1)).toNat) (by omega) (by omega) (by rw [List.drop_zero]; omega)
  exact ⟨s, hs, hh, by omega, by omega⟩
theorem takeN_ones (n : Nat) : takeN (List.replicate n true) = p2 n - 1 := by
  induction n with
  | zero => rfl
  | succ n ih => rw [List.replicate_succ, takeN_cons, ih, List.length_replicate, p2_succ]; simp; omega
/-- Else 15 bits 1 begin with none. -/
theorem ones_none {l : List Int} (hok : lensOk l = true) (hk : kraftL l ≠ 32768) (s : Nat) : hit l (List.replicate 15 true) 0 s = false := by
  cases hh : hit l (List.replicate 15 true) 0 s with
  | false => rfl
  | true =>
    exfalso
    obtain ⟨hs, h0⟩ := hit_in hh
    obtain ⟨n, hn, hl⟩ := lens_get hok hs (by omega)
    have h1 := (hit_iff.1 hh).2.2
    rw [getD_get hs hl, List.drop_zero, List.take_replicate, Nat.min_eq_left (by omega), takeN_ones] at h1
    have h2 := end_le hs hl hn
    unfold endC at h2
    rw [getD_get hs hl, ← h1, show p2 (n + 1) - 1 + 1 = p2 (n + 1) by omega, ← p2_add, show n + 1 + (15 - (n + 1)) = 15 by omega, p2_15] at h2
    have h3 := kraftTo_mono l (show n + 1 ≤ 15 by omega)
    rw [kraftTo_15 l (lensOk_parts hok).2.1] at h3
    have := (lensOk_parts hok).2.2
    omega

/-- Codes of one length rise with the symbols. -/
theorem code_rises {l : List Int} {s t n : Nat} (hs : s < l.length) (ht : t < l.length) (hm : l[s] = ((n + 1 : Nat) : Int)) (hn : l[t] = ((n + 1 : Nat) : Int)) : codeC l s < codeC l t ↔ s < t := by
  have key : ∀ s t : Nat, (hs : s < l.length) → l[s] = ((n + 1 : Nat) : Int) → s < t → cntL (l.take s) (n + 1) < cntL (l.take t) (n + 1) := by
    intro s t hs hm hlt
    have h1 := cntL_mono l (show s + 1 ≤ t from hlt) (n := n + 1)
    rw [List.take_succ_eq_append_getElem hs, cntL_snoc, if_pos hm] at h1
    omega
  unfold codeC
  rw [getD_get hs hm, getD_get ht hn]
  constructor
  · intro h
    rcases Nat.lt_trichotomy s t with q | q | q
    · exact q
    · subst q; omega
    · have := key t s ht hn q; omega
  · intro h
    have := key s t hs hm h
    omega
/-- A longer code, cut, is above. -/
theorem code_above {l : List Int} {s t m n : Nat} (hs : s < l.length) (ht : t < l.length) (hm : l[s] = ((m + 1 : Nat) : Int)) (hn : l[t] = ((n + 1 : Nat) : Int)) (hm15 : m < 15) (hn15 : n < 15) (hlt : m < n) : codeC l s < codeC l t / p2 (n - m) := by
  have h1 := apart hs ht hm hn hm15 hn15 (Or.inl hlt)
  unfold endC baseC at h1
  rw [getD_get hs hm, getD_get ht hn, show 15 - (m + 1) = (n - m) + (15 - (n + 1)) by omega, p2_add, ← Int.mul_assoc] at h1
  have h2 := of_mul_le (p := p2 (15 - (n + 1))) (by have := p2_pos (15 - (n + 1)); omega) h1
  have h3 := (Int.le_ediv_iff_mul_le (by have := p2_pos (n - m); omega)).2 h2
  omega
end Go.Proofs.Ytdbhmffiojchcaa
