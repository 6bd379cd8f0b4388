/- What is written is read; what is read tells as many bytes as were asked for: plain. No condition; no program. What stands behind the bits that are read is of no moment; what is read tells as many bytes as were asked for: plain. No condition; no program. The contracts of both puts, and of canon.Write with a row of the caller's own. Conditions: numbers fit. Lemmas on a block of codes, and on a block that is laid. Conditions: numbers fit. The contract of pack.Write. Conditions: numbers fit. -/
import Derived.ChangeKeysEq
import Derived.Test.YtolappilfjhfaaaWj
import Derived.Test.YtolappilfjhfaaaW0
import Derived.Test.YtolappilfjhfaaaWc
import Derived.Test.YtolappilfjhfaaaWf
import Derived.Test.YtolappilfjhfaaaWs
import Derived.Test.YtolappilfjhfaaaWi
import Derived.Test.YtolappilfjhfaaaWe
import Derived.Test.YtolappilfjhfaaaWh
namespace Go.Proofs.Ytolappilfjhfaaa

/-! Lengths that come of numbers. -/
theorem lensR_facts {f L : List Int} (h : LensR f L) (hf : ∀ x ∈ f, 0 ≤ x) (hl : f.length ≤ 300) : L.length = f.length ∧ lensOk L = true ∧ ∀ i (hi : i < f.length) (hi' : i < L.length), (0 < L[i] ↔ 0 < f[i]) ∧ 0 ≤ L[i] := by
  have hlen := lensR_length h
  obtain ⟨g, ho, hm, hgl, hg⟩ := lensR_once h
  obtain ⟨hg0, hgi⟩ := hg hf
  obtain ⟨h1, h2, h3⟩ := once_full ho hm hg0
  have hrel : ∀ i (hi : i < f.length) (hi' : i < L.length), (0 < L[i] ↔ 0 < f[i]) ∧ 0 ≤ L[i] := fun i hi hi' => by
    have hig : i < g.length := by omega
    exact ⟨(h1 i hig hi').1.trans (hgi i hi hig), (h1 i hig hi').2⟩
  refine ⟨hlen, lensOk_of (by omega) (fun x hx => ?_) ?_, hrel⟩
  · obtain ⟨i, hi, rfl⟩ := List.getElem_of_mem hx
    exact ⟨(hrel i (by omega) hi).2, hm _ hx⟩
  · by_cases h2' : 2 ≤ (initT g).length
    · rw [h2 h2']; decide
    · rw [h3 (by omega)]; omega

/-! The head. -/
/-- The rows of the symbols from k on. -/
def rowsF (L : List Int) : Nat → Nat → List Bool
  | 0, _ => []
  | n + 1, k => (if 0 < L[k]?.getD 0 then putL (k : Int) 9 ++ putL (L[k]?.getD 0) 4 else []) ++ rowsF L n (k + 1)
def manyF (L : List Int) : Nat → Nat → Nat
  | 0, _ => 0
  | n + 1, k => (if 0 < L[k]?.getD 0 then 1 else 0) + manyF L n (k + 1)
theorem rowsT_add (L : List Int) : ∀ n k, rowsT L (k + n) = rowsT L k ++ rowsF L n k
  | 0, k => by simp [rowsF]
  | n + 1, k => by
    rw [show k + (n + 1) = (k + 1) + n by omega, rowsT_add L n (k + 1), rowsT_step, rowsF, List.append_assoc]
theorem manyT_add (L : List Int) : ∀ n k, manyT L (k + n) = manyT L k + manyF L n k
  | 0, k => by simp [manyF]
  | n + 1, k => by
    rw [show k + (n + 1) = (k + 1) + n by omega, manyT_add L n (k + 1), manyT_step, manyF, Nat.add_assoc]
theorem rowsT_F (L : List Int) (n : Nat) : rowsT L n = rowsF L n 0 := by
  have := rowsT_add L n 0
  rw [Nat.zero_add] at this
  rw [this]; simp [rowsT]
theorem manyT_F (L : List Int) (n : Nat) : manyT L n = manyF L n 0 := by
  have := manyT_add L n 0
  rw [Nat.zero_add] at this
  rw [this]; simp [manyT]

theorem num_at {pre more : List Bool} {n : Int} {width : Nat} (h0 : 0 ≤ n) (h1 : n < p2 width) (hw : width ≤ 30) : numO (pre ++ (putL n width ++ more)) pre.length width = some n := by
  unfold numO
  rw [if_pos ⟨by omega, by omega, by omega, by simp [putL_length]; omega⟩]
  rw [Int.toNat_natCast, Int.toNat_natCast, List.drop_left, List.take_left' (putL_length _ _), takeN_put h0 h1]

/-- The first k lengths alone. -/
def cutL (L : List Int) (k : Nat) : List Int := L.take k ++ List.replicate (L.length - k) 0
theorem cutL_zero (L : List Int) : cutL L 0 = List.replicate L.length 0 := by simp [cutL]
theorem cutL_all (L : List Int) : cutL L L.length = L := by simp [cutL]
theorem cutL_set {L : List Int} {k : Nat} (hk : k < L.length) : (cutL L k).set k L[k] = cutL L (k + 1) := by
  apply List.ext_getElem?
  intro i
  unfold cutL
  rw [List.getElem?_set]
  by_cases e : k = i
  · subst e
    have h1 : k < (List.take k L ++ List.replicate (L.length - k) 0).length := by simp; omega
    rw [if_pos rfl, if_pos h1, List.getElem?_append_left (by simp; omega), List.getElem?_take_of_lt (by omega), List.getElem?_eq_getElem hk]
  · rw [if_neg e]
    by_cases hi : i < k
    · rw [List.getElem?_append_left (by simp; omega), List.getElem?_append_left (by simp; omega), List.getElem?_take_of_lt hi, List.getElem?_take_of_lt (by omega)]
    · rw [List.getElem?_append_right (by simp; omega), List.getElem?_append_right (by simp; omega)]
      simp only [List.length_take]
      by_cases hl : i < L.length
      · rw [List.getElem?_replicate_of_lt (by omega), List.getElem?_replicate_of_lt (by omega)]
      · rw [List.getElem?_eq_none (by simp; omega), List.getElem?_eq_none (by simp; omega)]
theorem cutL_skip {L : List Int} {k : Nat} (hk : k < L.length) (h : L[k] = 0) : cutL L k = cutL L (k + 1) := by
  rw [← cutL_set hk, h]
  symm
  apply List.ext_getElem?
  intro i
  rw [List.getElem?_set]
  by_cases e : k = i
  · subst e
    have h1 : k < (cutL L k).length := by simp [cutL]; omega
    rw [if_pos rfl, if_pos h1]
    unfold cutL
    rw [List.getElem?_append_right (by simp; omega), List.getElem?_replicate_of_lt (by simp; omega)]
  · rw [if_neg e]

theorem hdr_rows {L : List Int} (hL : L.length = 272) (hr : ∀ x ∈ L, 0 ≤ x ∧ x ≤ 15) : ∀ (n k : Nat) (pre more : List Bool) (a : Int), k + n = 272 → a < k →
    hdrO (pre ++ (rowsF L n k ++ more)) (manyF L n k) pre.length a (cutL L k) = some (L, ((pre ++ rowsF L n k).length : Int))
  | 0, k, pre, more, a, h, _ => by
    obtain rfl : k = L.length := by omega
    simp only [manyF, rowsF, hdrO, cutL_all, List.append_nil]
  | n + 1, k, pre, more, a, h, ha => by
    have hk : k < L.length := by omega
    have hx := hr L[k] (List.getElem_mem hk)
    have hg : L[k]?.getD 0 = L[k] := by rw [List.getElem?_eq_getElem hk, Option.getD_some]
    rw [manyF, rowsF, hg]
    by_cases hp : 0 < L[k]
    · rw [if_pos hp, if_pos hp, Nat.add_comm 1]
      have e1 : pre ++ (putL (k : Int) 9 ++ putL L[k] 4 ++ rowsF L n (k + 1) ++ more) = pre ++ (putL (k : Int) 9 ++ (putL L[k] 4 ++ (rowsF L n (k + 1) ++ more))) := by simp
      have e2 : pre ++ (putL (k : Int) 9 ++ putL L[k] 4 ++ rowsF L n (k + 1) ++ more) = (pre ++ putL (k : Int) 9) ++ (putL L[k] 4 ++ (rowsF L n (k + 1) ++ more)) := by simp
      have e3 : pre ++ (putL (k : Int) 9 ++ putL L[k] 4 ++ rowsF L n (k + 1) ++ more) = (pre ++ putL (k : Int) 9 ++ putL L[k] 4) ++ (rowsF L n (k + 1) ++ more) := by simp
      have p9 : p2 9 = 512 := by decide
      have p4 : p2 4 = 16 := by decide
      have n1 : numO (pre ++ (putL (k : Int) 9 ++ putL L[k] 4 ++ rowsF L n (k + 1) ++ more)) pre.length 9 = some (k : Int) := by
        rw [e1]; exact num_at (width := 9) (by omega) (by rw [p9]; omega) (by omega)
      have n2 : numO (pre ++ (putL (k : Int) 9 ++ putL L[k] 4 ++ rowsF L n (k + 1) ++ more)) ((pre.length : Int) + 9) 4 = some L[k] := by
        have := num_at (pre := pre ++ putL (k : Int) 9) (more := rowsF L n (k + 1) ++ more) (n := L[k]) (width := 4) (by omega) (by rw [p4]; omega) (by omega)
        rw [List.length_append, putL_length] at this
        rw [e2]; exact this
      rw [hdr_step n1 n2 (by omega), Int.toNat_natCast, cutL_set hk, e3]
      have ih := hdr_rows hL hr n (k + 1) (pre ++ putL (k : Int) 9 ++ putL L[k] 4) more k (by omega) (by omega)
      rw [show ((pre ++ putL (k : Int) 9 ++ putL L[k] 4).length : Int) = (pre.length : Int) + 13 by simp only [List.length_append, putL_length]; omega] at ih
      rw [ih]
      simp
    · have h0 : L[k] = 0 := by omega
      rw [if_neg hp, if_neg hp, Nat.zero_add, List.nil_append, cutL_skip hk h0]
      exact hdr_rows hL hr n (k + 1) pre more a (by omega) (by omega)

/-- The bits ahead of the tokens. -/
def headB (L : List Int) : List Bool := putL (manyT L 272 : Nat) 9 ++ rowsT L 272
theorem headB_length (L : List Int) : (headB L).length = 9 + 13 * manyT L 272 := by unfold headB; rw [List.length_append, putL_length, rowsT_length]
theorem wrB_eq (L : List Int) (l : List TokT) : wrB L l = headB L ++ l.flatMap (tokB L) := rfl
theorem lens_head {L : List Int} (hL : L.length = 272) (hok : lensOk L = true) (more : List Bool) : lensO (headB L ++ more) = some (L, ((headB L).length : Int)) := by
  have hr := (lensOk_parts hok).2.1
  have hm := manyT_le L 272
  have q9 : p2 9 = 512 := by decide
  have h0 : numO (headB L ++ more) 0 9 = some (manyT L 272 : Int) := by
    have := num_at (pre := []) (more := rowsT L 272 ++ more) (n := (manyT L 272 : Int)) (width := 9) (by omega) (by rw [q9]; omega) (by omega)
    unfold headB; rw [List.append_assoc]; exact this
  have h1 := hdr_rows hL hr 272 0 (putL (manyT L 272 : Nat) 9) more (-1) (by omega) (by omega)
  rw [← rowsT_F, ← manyT_F, ← List.append_assoc, cutL_zero, hL, putL_length] at h1
  rw [lensO_some h0 h1, if_pos hok]; rfl

/-! Tokens. -/
theorem tok_at {L : List Int} (hok : lensOk L = true) {b d n : Int} (hm : mayT (b, d, n) = true) (hs : (symT (b, d, n)).toNat < L.length) (h0 : L[(symT (b, d, n)).toNat] ≠ 0) (pre more : List Bool) :
    tokO L (pre ++ (tokB L (b, d, n) ++ more)) pre.length = some ((b, d, n), ((pre ++ tokB L (b, d, n)).length : Int)) := by
  obtain ⟨s0, s1, s2, s3⟩ := symT_yes hm
  have hp := mayT_parts hm
  have hr := (lensOk_parts hok).2.1 _ (List.getElem_mem hs)
  have hlen : (bitsC L (symT (b, d, n)).toNat).length = (L[(symT (b, d, n)).toNat]?.getD 0).toNat := bitsC_length _ _
  have hg : L[(symT (b, d, n)).toNat]?.getD 0 = L[(symT (b, d, n)).toNat] := by rw [List.getElem?_eq_getElem hs, Option.getD_some]
  rw [hg] at hlen
  have hread : ∀ rest, readO L (pre ++ (bitsC L (symT (b, d, n)).toNat ++ rest)) pre.length = some (symT (b, d, n)).toNat := fun rest => readO_hit hok (hit_written hok hs h0 pre rest)
  have q8 : p2 8 = 256 := by decide
  by_cases hn : 0 < n
  · have hb : tokB L (b, d, n) = bitsC L (symT (b, d, n)).toNat ++ putL d 8 := by unfold tokB; rw [if_pos hn]
    obtain ⟨q1, q2⟩ := s2 hn
    have e1 : pre ++ (bitsC L (symT (b, d, n)).toNat ++ putL d 8 ++ more) = pre ++ (bitsC L (symT (b, d, n)).toNat ++ (putL d 8 ++ more)) := by simp
    have e2 : pre ++ (bitsC L (symT (b, d, n)).toNat ++ putL d 8 ++ more) = (pre ++ bitsC L (symT (b, d, n)).toNat) ++ (putL d 8 ++ more) := by simp
    have hnum : numO (pre ++ (bitsC L (symT (b, d, n)).toNat ++ putL d 8 ++ more)) ((pre.length : Int) + L[(symT (b, d, n)).toNat]?.getD 0) 8 = some d := by
      have := num_at (pre := pre ++ bitsC L (symT (b, d, n)).toNat) (more := more) (n := d) (width := 8) (by omega) (by rw [q8]; omega) (by omega)
      rw [e2, hg]
      rw [List.length_append, hlen, show ((pre.length + L[(symT (b, d, n)).toNat].toNat : Nat) : Int) = (pre.length : Int) + L[(symT (b, d, n)).toNat] by omega] at this
      exact this
    unfold tokO
    rw [hb]
    have hr1 := hread (putL d 8 ++ more)
    rw [← e1] at hr1
    rw [hr1]
    simp only []
    rw [if_neg (by omega), hnum]
    simp only []
    have hb0 : b = 0 := by omega
    have hsn : (((symT (b, d, n)).toNat : Nat) : Int) - 253 = n := by omega
    rw [hsn, hg]
    subst hb0
    congr 2
    simp only [List.length_append, hlen, putL_length]
    omega
  · have hb : tokB L (b, d, n) = bitsC L (symT (b, d, n)).toNat := by unfold tokB; rw [if_neg hn, List.append_nil]
    obtain ⟨q1, q2⟩ := s3 hn
    unfold tokO
    rw [hb, hread more]
    simp only []
    rw [if_pos (by omega)]
    have hd0 : d = 0 ∧ n = 0 := by omega
    obtain ⟨rfl, rfl⟩ := hd0
    have hsn : (((symT (b, 0, 0)).toNat : Nat) : Int) = b := by omega
    rw [hsn, hg]
    congr 2
    simp only [List.length_append, hlen]
    omega

theorem exl_le {most : Int} : ∀ {ts : List TokT} {out r : List Int}, exl most ts out = some r → out.length + ts.length ≤ r.length ∧ (r.length : Int) ≤ max most out.length
  | [], out, r, h => by
    rw [exl] at h; injection h with h; subst h; simp; omega
  | t :: ts, out, r, h => by
    rw [exl] at h
    split at h
    · rename_i hc
      have h1 := exl_le h
      have h2 := tell_length hc.1 out
      simp only [List.length_cons]
      omega
    · cases h
theorem toks_at {L : List Int} (hok : lensOk L = true) (more : List Bool) {most : Int} : ∀ (ts : List TokT) (pre : List Bool) (told r : List Int) (out : List TokT) (m : Nat),
    (∀ t ∈ ts, ∃ hs : (symT t).toNat < L.length, L[(symT t).toNat] ≠ 0) → exl most ts told = some r → ts.length ≤ m →
    toksO L (pre ++ (ts.flatMap (tokB L) ++ more)) r.length (m + 1) told.length pre.length out = some (out ++ ts, ((pre ++ ts.flatMap (tokB L)).length : Int))
  | [], pre, told, r, out, m, _, hx, _ => by
    rw [exl] at hx; injection hx with hx; subst hx
    rw [toks_end (by omega)]; simp
  | (b, d, n) :: ts, pre, told, r, out, m, hs, hx, hm => by
    rw [exl] at hx
    split at hx
    · rename_i hc
      obtain ⟨hmay, hd, hmost⟩ := hc
      obtain ⟨hs0, h0⟩ := hs (b, d, n) (List.mem_cons_self ..)
      obtain ⟨m', rfl⟩ : ∃ m', m = m' + 1 := ⟨m - 1, by simp only [List.length_cons] at hm; omega⟩
      have hlen := tell_length hmay told
      have hle := (exl_le hx).1
      have hp := mayT_parts hmay
      simp only [List.flatMap_cons, List.append_assoc]
      have ht := tok_at hok hmay hs0 h0 pre (ts.flatMap (tokB L) ++ more)
      simp only at hlen hd hmost
      rw [toks_step (by omega) ht (by rw [hmay]; simp only [Bool.true_eq_false, false_or]; omega)]
      have ih := toks_at hok more ts (pre ++ tokB L (b, d, n)) (tell (b, d, n) told) r (out ++ [(b, d, n)]) m' (fun t h => hs t (List.mem_cons_of_mem _ h)) hx (by simp only [List.length_cons] at hm; omega)
      rw [hlen] at ih
      simp only [List.append_assoc] at ih ⊢
      rw [ih]
      simp
    · cases hx

theorem times_facts {l : List TokT} {L : List Int} (h : LensR (timesL l) L) (hok : wrOk l = true) : L.length = 272 ∧ lensOk L = true ∧ ∀ t ∈ l, ∃ hs : (symT t).toNat < L.length, L[(symT t).toNat] ≠ 0 := by
  obtain ⟨h1, h2, h3⟩ := lensR_facts h (fun x hx => (timesL_bd l x hx).1) (by rw [timesL_length]; omega)
  rw [timesL_length] at h1
  refine ⟨h1, h2, fun t ht => ?_⟩
  have hall : ∀ t ∈ l, mayT t = true := by
    have : wrOk l = true := hok
    simp only [wrOk, Bool.and_eq_true, List.all_eq_true] at this
    exact this.2
  obtain ⟨b, d, n⟩ := t
  obtain ⟨s0, s1, _, _⟩ := symT_yes (hall _ ht)
  obtain ⟨x, hx, hx0⟩ := timesL_pos ht (s := (symT (b, d, n)).toNat) (by omega) (by omega)
  refine ⟨by omega, ?_⟩
  have hi : (symT (b, d, n)).toNat < (timesL l).length := by rw [timesL_length]; omega
  rw [List.getElem?_eq_getElem hi] at hx
  injection hx with hx
  have := ((h3 _ hi (by omega)).1).2 (by omega)
  omega
/-- What is written is read, whatever stands behind it. -/
theorem rd_wr {l : List TokT} {L : List Int} {r : List Int} (h : LensR (timesL l) L) (hok : wrOk l = true) (hx : exl 1000 l [] = some r) (more : List Bool) :
    rdO (wrB L l ++ more) r.length = some (l, ((wrB L l).length : Int)) := by
  obtain ⟨h1, h2, h3⟩ := times_facts h hok
  have hle := exl_le hx
  simp only [List.length_nil] at hle
  unfold rdO
  rw [if_neg (by omega), wrB_eq, List.append_assoc, lens_head h1 h2]
  simp only []
  have := toks_at h2 more l (headB L) [] r [] r.length h3 hx (by omega)
  rw [Int.toNat_natCast]
  simpa using this
end Go.Proofs.Ytolappilfjhfaaa
namespace Go.Proofs.Ytolappilfjhfaaa

/-- Both begin with the same N bits. -/
def Pfx (N : Nat) (b c : List Bool) : Prop := N ≤ b.length ∧ N ≤ c.length ∧ c.take N = b.take N
theorem pfx_part {N p k : Nat} {b c : List Bool} (h : Pfx N b c) (hk : p + k ≤ N) : (c.drop p).take k = (b.drop p).take k := by
  have e : ∀ x : List Bool, N ≤ x.length → (x.drop p).take k = ((x.take N).drop p).take k := fun x _ => by
    rw [List.drop_take, List.take_take, Nat.min_eq_left (by omega)]
  rw [e b h.1, e c h.2.1, h.2.2]
theorem pfx_take {b : List Bool} {n : Nat} (h : n ≤ b.length) (more : List Bool) : Pfx n b (b.take n ++ more) :=
  ⟨h, by simp; omega, by rw [List.take_append_of_le_length (by simp; omega), List.take_take, Nat.min_self]⟩
theorem num_pfx {N : Nat} {b c : List Bool} {p width n : Int} (h : numO b p width = some n) (hb : Pfx N b c) (hN : p + width ≤ N) : numO c p width = some n := by
  unfold numO at h ⊢
  split at h
  · rename_i hc
    rw [if_pos ⟨hc.1, hc.2.1, hc.2.2.1, by have := hb.2.1; omega⟩, pfx_part hb (by omega)]
    exact h
  · cases h
theorem hdr_end {b : List Bool} : ∀ (n : Nat) (p a : Int) (L M : List Int) (q : Int), hdrO b n p a L = some (M, q) → q = p + 13 * n
  | 0, p, a, L, M, q, h => by unfold hdrO at h; injection h with h; injection h with _ h; omega
  | n + 1, p, a, L, M, q, h => by
    cases hs : numO b p 9 with
    | none => rw [hdr_none1 hs] at h; cases h
    | some s =>
      cases hk : numO b (p + 9) 4 with
      | none => rw [hdr_none2 hs hk] at h; cases h
      | some k =>
        by_cases hc : s ≤ a ∨ 272 ≤ s ∨ k = 0
        · rw [hdr_bad hs hk hc] at h; cases h
        · rw [hdr_step hs hk hc] at h
          have := hdr_end n _ _ _ _ _ h
          omega
theorem hdr_pfx {N : Nat} {b c : List Bool} (hb : Pfx N b c) : ∀ (n : Nat) (p a : Int) (L M : List Int) (q : Int), hdrO b n p a L = some (M, q) → q ≤ N → hdrO c n p a L = some (M, q)
  | 0, p, a, L, M, q, h, _ => by unfold hdrO at h ⊢; exact h
  | n + 1, p, a, L, M, q, h, hq => by
    cases hs : numO b p 9 with
    | none => rw [hdr_none1 hs] at h; cases h
    | some s =>
      cases hk : numO b (p + 9) 4 with
      | none => rw [hdr_none2 hs hk] at h; cases h
      | some k =>
        by_cases hc : s ≤ a ∨ 272 ≤ s ∨ k = 0
        · rw [hdr_bad hs hk hc] at h; cases h
        · have he := hdr_end _ _ _ _ _ _ h
          rw [hdr_step hs hk hc] at h
          rw [hdr_step (num_pfx hs hb (by omega)) (num_pfx hk hb (by omega)) hc]
          exact hdr_pfx hb n _ _ _ _ _ h hq
theorem lens_parts {b : List Bool} {L : List Int} {q : Int} (h : lensO b = some (L, q)) : ∃ n : Nat, numO b 0 9 = some (n : Int) ∧ hdrO b n 9 (-1) (List.replicate 272 0) = some (L, q) ∧ lensOk L = true ∧ q = 9 + 13 * n := by
  cases hn : numO b 0 9 with
  | none => rw [lensO_none0 hn] at h; cases h
  | some n =>
    have hbd := numO_bd hn
    obtain ⟨m, rfl⟩ := Int.eq_ofNat_of_zero_le hbd.1
    cases hh : hdrO b m 9 (-1) (List.replicate 272 0) with
    | none => rw [lensO_none1 hn hh] at h; cases h
    | some x =>
      obtain ⟨M, p⟩ := x
      rw [lensO_some hn hh] at h
      split at h
      · rename_i hok
        injection h with h
        injection h with h1 h2
        subst h1 h2
        exact ⟨m, rfl, hh, hok, hdr_end _ _ _ _ _ _ hh⟩
      · cases h
theorem lens_pfx {N : Nat} {b c : List Bool} {L : List Int} {q : Int} (h : lensO b = some (L, q)) (hb : Pfx N b c) (hq : q ≤ N) : lensO c = some (L, q) := by
  obtain ⟨n, hn, hh, hok, he⟩ := lens_parts h
  rw [lensO_some (num_pfx hn hb (by omega)) (hdr_pfx hb _ _ _ _ _ _ hh hq), if_pos hok]
theorem read_pfx {N : Nat} {b c : List Bool} {L : List Int} {p : Int} {s : Nat} (h : readO L b p = some s) (hb : Pfx N b c) (hq : p + L[s]?.getD 0 ≤ N) : readO L c p = some s := by
  obtain ⟨hok, hp, hh⟩ := readO_some h
  obtain ⟨p', rfl⟩ := Int.eq_ofNat_of_zero_le hp
  rw [Int.toNat_natCast] at hh
  obtain ⟨h1, h2, h3⟩ := hit_iff.1 hh
  refine readO_hit hok (hit_iff.2 ⟨h1, ?_, ?_⟩)
  · have := hb.2.1; omega
  · rw [pfx_part hb (by omega)]; exact h3
theorem tok_pfx {N : Nat} {b c : List Bool} {L : List Int} {p q : Int} {t : TokT} (h : tokO L b p = some (t, q)) (hb : Pfx N b c) (hq : q ≤ N) : tokO L c p = some (t, q) := by
  unfold tokO at h ⊢
  cases hr : readO L b p with
  | none => rw [hr] at h; cases h
  | some s =>
    rw [hr] at h
    simp only [] at h
    split at h
    · rename_i h256
      injection h with h; injection h with h1 h2
      rw [read_pfx hr hb (by omega)]
      simp only []
      rw [if_pos h256, h1, h2]
    · rename_i h256
      cases hd : numO b (p + L[s]?.getD 0) 8 with
      | none => rw [hd] at h; cases h
      | some d =>
        rw [hd] at h
        injection h with h; injection h with h1 h2
        rw [read_pfx hr hb (by omega)]
        simp only []
        rw [if_neg h256, num_pfx hd hb (by omega)]
        simp only []
        rw [h1, h2]
theorem toks_tells {L : List Int} {b : List Bool} {many : Int} : ∀ (m : Nat) (told : List Int) (p : Int) (out l : List TokT) (q : Int), toksO L b many m told.length p out = some (l, q) → (told.length : Int) ≤ many → p ≤ b.length →
    ∃ ts r, l = out ++ ts ∧ exl many ts told = some r ∧ (r.length : Int) = many ∧ p ≤ q ∧ q ≤ b.length
  | 0, told, p, out, l, q, h, _, _ => by unfold toksO at h; cases h
  | m + 1, told, p, out, l, q, h, ht, hp => by
    by_cases hlt : (told.length : Int) < many
    · cases hk : tokO L b p with
      | none => rw [toks_none hlt hk] at h; cases h
      | some x =>
        obtain ⟨t, p'⟩ := x
        by_cases hc : mayT t = false ∨ (told.length : Int) < t.2.1 ∨ many < told.length + max t.2.2 1
        · rw [toks_bad hlt hk hc] at h; cases h
        · rw [toks_step hlt hk hc] at h
          have hm : mayT t = true := by cases e : mayT t with
            | true => rfl
            | false => exact absurd (Or.inl e) hc
          have hl := tell_length hm told
          have hbd := tokO_bd hk
          rw [← hl] at h
          obtain ⟨ts, r, rfl, h2, h3, h4, h5⟩ := toks_tells m (tell t told) p' (out ++ [t]) l q h (by omega) hbd.2
          refine ⟨t :: ts, r, by simp, ?_, h3, by omega, h5⟩
          rw [exl, if_pos ⟨hm, by omega, by omega⟩]
          exact h2
    · rw [toks_end hlt] at h
      injection h with h; injection h with h1 h2
      subst h1 h2
      exact ⟨[], told, by simp, rfl, by omega, Int.le_refl _, hp⟩
theorem toks_mono {L : List Int} {b : List Bool} {many : Int} : ∀ (m : Nat) (told p : Int) (out l : List TokT) (q : Int), toksO L b many m told p out = some (l, q) → p ≤ q
  | 0, told, p, out, l, q, h => by unfold toksO at h; cases h
  | m + 1, told, p, out, l, q, h => by
    by_cases hlt : told < many
    · cases hk : tokO L b p with
      | none => rw [toks_none hlt hk] at h; cases h
      | some x =>
        obtain ⟨t, p'⟩ := x
        by_cases hc : mayT t = false ∨ told < t.2.1 ∨ many < told + max t.2.2 1
        · rw [toks_bad hlt hk hc] at h; cases h
        · rw [toks_step hlt hk hc] at h
          have := toks_mono m _ _ _ _ _ h
          have := tokO_bd hk
          omega
    · rw [toks_end hlt] at h
      injection h with h; injection h with h1 h2
      omega
theorem toks_pfx {N : Nat} {b c : List Bool} {L : List Int} {many : Int} (hb : Pfx N b c) : ∀ (m : Nat) (told p : Int) (out l : List TokT) (q : Int), toksO L b many m told p out = some (l, q) → q ≤ N → toksO L c many m told p out = some (l, q)
  | 0, told, p, out, l, q, h, _ => by unfold toksO at h; cases h
  | m + 1, told, p, out, l, q, h, hq => by
    by_cases hlt : told < many
    · cases hk : tokO L b p with
      | none => rw [toks_none hlt hk] at h; cases h
      | some x =>
        obtain ⟨t, p'⟩ := x
        by_cases hc : mayT t = false ∨ told < t.2.1 ∨ many < told + max t.2.2 1
        · rw [toks_bad hlt hk hc] at h; cases h
        · rw [toks_step hlt hk hc] at h
          have h1 := toks_mono _ _ _ _ _ _ h
          rw [toks_step hlt (tok_pfx hk hb (by omega)) hc]
          exact toks_pfx hb m _ _ _ _ _ h hq
    · rw [toks_end hlt] at h ⊢; exact h
/-- What is read. -/
theorem rd_facts {b : List Bool} {many : Int} {l : List TokT} {q : Int} (h : rdO b many = some (l, q)) :
    (∃ r, exl many l [] = some r ∧ (r.length : Int) = many) ∧ 9 ≤ q ∧ q ≤ b.length ∧ 0 ≤ many ∧ many ≤ 1000 ∧ ∀ c, Pfx q.toNat b c → rdO c many = some (l, q) := by
  unfold rdO at h
  split at h
  · cases h
  · rename_i hm
    cases hl : lensO b with
    | none => rw [hl] at h; cases h
    | some x =>
      obtain ⟨L, p⟩ := x
      rw [hl] at h
      simp only [] at h
      obtain ⟨n, _, _, _, he⟩ := lens_parts hl
      have hpb := (lensO_bd hl).2.2
      obtain ⟨ts, r, h1, h2, h3, h4, h5⟩ := toks_tells _ [] p [] l q (by simpa using h) (by simp; omega) hpb
      rw [List.nil_append] at h1
      subst h1
      refine ⟨⟨r, h2, h3⟩, by omega, h5, by omega, by omega, fun c hc => ?_⟩
      unfold rdO
      rw [if_neg hm, lens_pfx hl hc (by omega)]
      exact toks_pfx hc _ _ _ _ _ _ h (by omega)
theorem rd_more {b : List Bool} {many : Int} {l : List TokT} {q : Int} (h : rdO b many = some (l, q)) (more : List Bool) : rdO (b.take q.toNat ++ more) many = some (l, q) := by
  obtain ⟨_, h9, hq, _, _, hp⟩ := rd_facts h
  exact hp _ (pfx_take (by omega) more)
/-- Bits that are cut off ahead of their end are not read. -/
theorem rd_cut {b : List Bool} {many : Int} {l : List TokT} {q : Int} (h : rdO b many = some (l, q)) {n : Nat} (hn : (n : Int) < q) : rdO (b.take n) many = none := by
  cases hc : rdO (b.take n) many with
  | none => rfl
  | some x =>
    exfalso
    obtain ⟨l', q'⟩ := x
    obtain ⟨_, h9, hq', _, _, hp⟩ := rd_facts hc
    have hqb := (rd_facts h).2.2.1
    have hlen : ((b.take n).length : Int) ≤ n := by rw [List.length_take]; omega
    have := hp b ⟨by omega, by omega, by rw [List.take_take, Nat.min_eq_left (by omega)]⟩
    rw [h] at this
    injection this with this
    injection this with _ this
    omega
/-- Unlike tokens that tell as many bytes have unlike bits. -/
theorem wr_inj {l m : List TokT} {L M : List Int} {r s : List Int} (hl : LensR (timesL l) L) (hm : LensR (timesL m) M) (okl : wrOk l = true) (okm : wrOk m = true) (xl : exl 1000 l [] = some r) (xm : exl 1000 m [] = some s) (hn : r.length = s.length) :
    wrB L l = wrB M m ↔ l = m := by
  constructor
  · intro h
    have h1 := rd_wr hl okl xl []
    have h2 := rd_wr hm okm xm []
    rw [List.append_nil] at h1 h2
    rw [h, hn, h2] at h1
    injection h1 with h1
    injection h1 with h1 _
    exact h1.symm
  · rintro rfl
    rw [lensR_det hl hm]
end Go.Proofs.Ytolappilfjhfaaa
namespace Go.Proofs.Ytolappilfjhfaaa
open Go.RowKit

theorem grown_of {w w' : World} (h : Below w.heap.size w w') (row : Option Nat) : w.grownBy w' row := ⟨h.os, h.tape, h.output, h.size, fun i hi _ => h.block i hi⟩
/-- The row v of base reads bs. -/
abbrev OwnB (w : World) (base : Nat) (v : Value) (bs : List Bool) : Prop := w.ownsRow base 4 1 v bs.length (bs.map .bool)
theorem ownB_nil (w : World) (base : Nat) : OwnB w base (.slice none 0 0) [] := World.ownsRow_nil _ _ _ _

set_option maxRecDepth 100000 in
set_option maxHeartbeats 1000000 in
theorem pput_any (v : Value) (bs : List Bool) (n width : Int) (w : World) (base : Nat) (hown : OwnB w base v bs) (hbase : base ≤ w.heap.size) (hl : bs.length ≤ 140737488355200) (hok : putOk n width = true) :
    Calls Try.prog 33 #[v, .int .i64 n, .int .i64 width] w fun e w' => ∃ (a : Option Addr) (cap : Nat) (l : List Bool), e = .returned (.slice a l.length cap) ∧ Hid (l = bs ++ putL n width.toNat) ∧ OwnB w' base (.slice a l.length cap) l ∧ w.grownBy w' v.ownBlock ∧
      ((Value.slice a l.length cap).ownBlock = v.ownBlock ∨ ∃ g, (Value.slice a l.length cap).ownBlock = some g ∧ w.heap.size ≤ g) := by
  obtain ⟨i0, hi, hz0, hz1, hz2⟩ := info_parts info_bool
  have hw30 : width.toNat ≤ 30 := by simp only [putOk, decide_eq_true_eq] at hok; omega
  have hp := put_sl (.slice none 0 0) [] n width w (sl_nil fun _ => rfl) (by simp) hok
  have HO := Lib.hid hown
  obtain ⟨aV, cV, rfl, _⟩ := owns_shape hown
  clear hown hok
  go_enter Try.func33, Try.ntmps33
  go_wp2_with fail
  refine hp.mono ?_
  rintro e w1 ⟨a1, c1, l1, rfl, hl1, hs1, hb1⟩
  have HO1 := Lib.hid (owns_below HO.out hb1)
  have HB1 := Lib.hid hb1
  have hll : l1.length ≤ 30 := by rw [hl1.out]; simp [putL_length]; omega
  have hsz := hb1.size
  clear hp hb1
  go_wp2_with (first | (at_builtin; refine wpList_append_sl (f := Value.bool) rfl _ _ 25 rfl base 4 i0 (.bool false) 1 Try.underlying25 hi hz0 hz1 hz2 rfl _ _ _ rfl HO1.out _ rfl hs1 (fun _ => rfl) (by simp [maxLen]; omega) (by omega) (by omega) ?_
                        intro v2 w2 hown2 hg2 hat2
                        obtain ⟨a2, c2, rfl, _⟩ := owns_shape hown2
                        have HO2 := Lib.hid hown2
                        have HG2 := Lib.hid hg2
                        have HA2 := Lib.hid hat2
                        clear hown2 hg2 hat2) | fail)
  go_ret
  have e1 : (bs ++ l1).length = bs.length + l1.length := List.length_append
  refine ⟨a2, c2, bs ++ l1, by rw [e1]; rfl, by unfold Hid; rw [hl1.out, List.nil_append], ?_, grown_trans (grown_of HB1.out _) HG2.out, ?_⟩
  · rw [e1]
    unfold OwnB
    rw [e1, List.map_append]
    exact HO2.out
  · rw [e1]
    rcases HA2.out with h | h
    · exact Or.inl h
    · exact Or.inr ⟨_, h, hsz⟩

set_option maxRecDepth 100000 in
set_option maxHeartbeats 1000000 in
theorem rput_any (v : Value) (bs : List Bool) (n width : Int) (w : World) (hv : Bits w v bs) (hl : bs.length ≤ 140737488355200) (hok : putOk n width = true) :
    Calls Try.prog 37 #[v, .int .i64 n, .int .i64 width] w fun e w' => ∃ (a : Option Addr) (cap : Nat) (l : List Bool), e = .returned (.slice a l.length cap) ∧ Hid (l = bs ++ putL n width.toNat) ∧ OwnB w' w.heap.size (.slice a l.length cap) l ∧ Below w.heap.size w w' := by
  have hp := putR_any v bs n width w hv (by omega) hok
  generalize hl1 : bs ++ putL n width.toNat = l1 at hp
  have Hl1 := Lib.hid hl1
  clear hv hok hl1
  go_enter Try.func37, Try.ntmps37
  go_wp2_with fail
  refine hp.mono ?_
  rintro e w1 ⟨v1, rfl, hown1, hb1⟩
  obtain ⟨a1, c1, rfl, _⟩ := owns_shape hown1
  have HO1 := Lib.hid hown1
  have HB1 := Lib.hid hb1
  clear hp hown1 hb1
  go_wp2_with fail
  go_ret
  exact ⟨a1, c1, l1, rfl, by first | exact rfl | exact Hl1.out.symm, HO1.out, HB1.out⟩

theorem put_ownC (v : Value) (bs : List Bool) (n width : Int) (w : World) (hv : Bits w v bs) (hl : bs.length ≤ 140737488355232) (hok : putOk n width = true) :
    Calls Try.prog 57 #[v, .int .i64 n, .int .i64 width] w fun e w' => ∃ (a : Option Addr) (cap : Nat) (l : List Bool), e = .returned (.tuple #[.slice a l.length cap, .bool true]) ∧ Hid (l = bs ++ putL n width.toNat) ∧ OwnB w' w.heap.size (.slice a l.length cap) l ∧ Below w.heap.size w w' :=
  (put_any v bs n width w hv hl hok).mono fun e w' ⟨v', he, hown, hb⟩ => by
    obtain ⟨a, cap, rfl, _⟩ := owns_shape hown
    exact ⟨a, cap, _, he, rfl, hown, hb⟩

set_option maxRecDepth 100000 in
set_option maxHeartbeats 2000000 in
theorem write_own (v : Value) (l : List Int) (x : Int) (w : World) (hv : SlOf w v 1 (fun x => [.int .i64 x]) l) (hl : l.length ≤ 140737488355328) (h : writeOk l x = true) :
    Calls Try.prog 34 #[v, .int .i64 x] w fun e w' => ∃ (a : Option Addr) (cap : Nat) (b : List Bool), e = .returned (.tuple #[.slice a b.length cap, .bool true]) ∧ Hid (b = bitsC l x.toNat) ∧ OwnB w' w.heap.size (.slice a b.length cap) b ∧ Below w.heap.size w w' := by
  obtain ⟨hok, hx0, hxl, hne⟩ := writeOk_iff.1 h
  obtain ⟨s, rfl⟩ := Int.eq_ofNat_of_zero_le hx0
  rw [Int.toNat_natCast] at hne ⊢
  have hs : s < l.length := by omega
  rw [List.getElem?_eq_getElem hs, Option.getD_some] at hne
  have h300 := (lensOk_parts hok).1
  have hrg := (lensOk_parts hok).2.1 l[s] (List.getElem_mem hs)
  have Hput := Lib.hid (bits_putOk hok hs hne)
  have hbits : Hid (bitsC l s = putL (codeC l s) l[s].toNat) := by unfold Hid bitsC; rw [List.getElem?_eq_getElem hs, Option.getD_some]
  have hcd := codes_any v l w hv hl
  rw [codesR_ok hok, hok] at hcd
  have hat : codeAt l s = (l[s], codeC l s) := by
    unfold codeAt
    rw [List.getElem?_eq_getElem hs, Option.getD_some, if_pos (by omega)]
  have Hat := Lib.hid hat
  have HOk := Lib.hid hok
  have HLn := Lib.hid (codesL_length l)
  have HGet := Lib.hid (codesL_get hs)
  clear hok h hat
  go_enter Try.func34, Try.ntmps34
  go_wp2_with fail
  refine hcd.mono ?_
  rintro e w1 ⟨v1, rfl, hsl, hb1⟩
  clear hcd
  rcases sl_codes hsl with ⟨h0, _⟩ | ⟨hp, b0, o0, c0, rfl, hc0, hb0, cell⟩
  · have := HLn.out; rw [h0] at this; simp at this; omega
  · have hcs := cell s (by rw [HLn.out]; exact hs)
    rw [HGet.out, Hat.out] at hcs
    rw [HLn.out]
    obtain ⟨e0, e1⟩ := hcs
    have hc0' := hc0
    rw [HLn.out] at hc0'
    have Hb1 := Lib.hid hb1
    have g0 : (s : Int) < (l.length : Int) := by omega
    have g1 : (0 : Int) ≤ (s : Int) := by omega
    have Hne := Lib.hid hne
    have hne2 : ¬ (l[s] = 0) := hne
    clear cell hsl hb1 hc0 hp hne
    generalize codeC l s = C at *
    generalize l[s] = n at *
    have d1 : decide ((s : Int) < 0) = false := by simp
    have d2 : decide (l.length ≤ s) = false := by simp; omega
    have d3 : (n == 0) = false := by simpa using hne2
    have hput : ∀ W, Held w1 W → Calls Try.prog 57 #[.slice none 0 0, .int .i64 C, .int .i64 n] W fun e w' => ∃ (a : Option Addr) (cap : Nat) (l : List Bool), e = .returned (.tuple #[.slice a l.length cap, .bool true]) ∧ Hid (l = putL C n.toNat) ∧ OwnB w' w.heap.size (.slice a l.length cap) l ∧ Below W.heap.size W w' := fun W hW =>
      (put_ownC (.slice none 0 0) [] C n W (sl_nil fun _ => rfl) (by simp) Hput.out).mono fun e w' ⟨a, c, l2, h1, h2, h3, h4⟩ => ⟨a, c, l2, h1, by rw [List.nil_append] at h2; exact h2, owns_base h3 (Nat.le_trans Hb1.out.size hW.2.size), h4⟩
    go_wp2_with fail
    go_region_held3 (Held w1) (first | exact held_start | exact held_call (by assumption) (by assumption)) (first | (go_at_call 57; refine (hput _ (by assumption)).mono ?_; rintro e w' ⟨a2, c2, l2, rfl, hl2, hs2, hb⟩))
    have hh : Held w1 w' := by assumption
    clear hput
    go_wp2_with fail
    refine bodyPost_ret (results_tmp2 rfl _ _ _) rfl ?_
    exact ⟨a2, c2, l2, rfl, by unfold Hid; rw [hl2.out, hbits.out], hs2, Hb1.out.trans (hh.2.mono Hb1.out.size)⟩
end Go.Proofs.Ytolappilfjhfaaa
namespace Go.Proofs.Ytolappilfjhfaaa
open Go.RowKit

/-- A block of zeros is laid. -/
theorem wpList_alloc_arr {P : Program} {ops : Array Oper} {rest : List Oper} {o : Oper} {a : Act} {w : World} {Q : Exit → Act → World → Prop} (hgd : o.guard = none) (t : TypeId) (ho : o.op = .alloc t) (cs : List Value) (i : TypeInfo) (hi : P.info? t = some i) (hz : i.zero = some (.agg cs.toArray))
    (h : ∀ W, Arr W w.heap.size t cs → Below w.heap.size w W → W.heap.size = w.heap.size + 1 → wpList P ops Q rest (a.put o.dst (.pointer (some ⟨w.heap.size, 0, none⟩))) W) : wpList P ops Q (o :: rest) a w :=
  wpList_plain hgd fun _ hK => by
    have hrun : (Instr.alloc t true (.tuple #[])).run P w = .ok (.pointer (some ⟨w.heap.size, 0, none⟩)) (w.alloc (.cells cs.toArray t)) := by
      simp [Instr.alloc, zeroValue, run_typeInfo w hi, hz, newVar, newRow, Value.cells]
    unfold Oper.wp execOp
    simp only [ho, Sem.run_bind, Sem.run_pure, hrun, Result.andThen_ok]
    exact hK _ _ (h _ (arr_new w cs t) ((Below.refl _ _).alloc (Nat.le_refl _) _) (by simp))

theorem info_codesA : (Try.prog.info? 52).map (fun i => (i.zero, i.size, i.bytes)) = some (some (.agg (List.replicate 272 (Value.slice none 0 0)).toArray), 272, 6528) := by kernel_rfl

/-- Up to k, the symbols' bits stand behind the block K; none lies in the block o. -/
def CodesAt (w : World) (K : Nat) (o : Option Nat) (L : List Int) (k : Nat) : Prop :=
  ∃ cs : List Value, cs.length = 272 ∧ Arr w K 52 cs ∧ ∀ s, s < k → 0 < L[s]?.getD 0 → ∃ g cap, cs[s]? = some (.slice (some ⟨g, 0, none⟩) (bitsC L s).length cap) ∧ (bitsC L s).length ≤ cap ∧ K < g ∧ g < w.heap.size ∧ o ≠ some g ∧
    ∀ i (hi : i < (bitsC L s).length), w.cell? ⟨g, i, none⟩ = some (.bool (bitsC L s)[i])
theorem codes_start {w : World} {K : Nat} {o : Option Nat} {L : List Int} (h : Arr w K 52 (List.replicate 272 (Value.slice none 0 0))) : CodesAt w K o L 0 :=
  ⟨_, List.length_replicate .., h, fun s hs => by omega⟩
theorem codes_grown {w w' : World} {K k : Nat} {o o' : Option Nat} {L : List Int} {row : Option Nat} (h : CodesAt w K o L k) (hg : w.grownBy w' row) (hr : row = none ∨ row = o) (hK : some K ≠ row) (ho : o' = o ∨ ∃ g, o' = some g ∧ w.heap.size ≤ g) : CodesAt w' K o' L k := by
  obtain ⟨cs, hl, ha, hc⟩ := h
  refine ⟨cs, hl, arr_kept ha hg hK, fun s hs hp => ?_⟩
  obtain ⟨g, cap, h1, h2, h3, h4, h5, h6⟩ := hc s hs hp
  have hne : some g ≠ row := by
    rcases hr with rfl | rfl
    · simp
    · exact fun e => h5 e.symm
  refine ⟨g, cap, h1, h2, h3, Nat.lt_of_lt_of_le h4 hg.size, ?_, fun i hi => ?_⟩
  · rcases ho with rfl | ⟨q, rfl, hq⟩
    · exact h5
    · simp only [ne_eq, Option.some.injEq]; omega
  · rw [World.cell?_of_block (w := w) (hg.block g h4 hne)]; exact h6 i hi
theorem codes_below {w w' : World} {K k : Nat} {o : Option Nat} {L : List Int} (h : CodesAt w K o L k) (hb : Below w.heap.size w w') : CodesAt w' K o L k :=
  codes_grown h (grown_of hb none) (Or.inl rfl) (by simp) (Or.inl rfl)
theorem codes_skip {w : World} {K k : Nat} {o : Option Nat} {L : List Int} (h : CodesAt w K o L k) (h0 : ¬ 0 < L[k]?.getD 0) : CodesAt w K o L (k + 1) := by
  obtain ⟨cs, hl, ha, hc⟩ := h
  refine ⟨cs, hl, ha, fun s hs hp => ?_⟩
  by_cases e : s = k
  · subst e; exact absurd hp h0
  · exact hc s (by omega) hp
theorem codes_cell {w : World} {K k : Nat} {o : Option Nat} {L : List Int} (h : CodesAt w K o L k) {s : Nat} (hs : s < 272) : (∃ u, w.cell? ⟨K, s, none⟩ = some u) ∧ w.frozen? ⟨K, s, none⟩ = false := by
  obtain ⟨cs, hl, ha, _⟩ := h
  exact ⟨⟨cs[s], by rw [arr_cell ha, List.getElem?_eq_getElem]⟩, arr_frozen ha s⟩
theorem codes_put {w w2 : World} {K k cap base : Nat} {o : Option Nat} {a : Option Addr} {L : List Int} {b : List Bool} (h : CodesAt w K o L k) (hk : k < 272) (hp : 0 < L[k]?.getD 0) (hb : Below w.heap.size w w2) (hbase : w.heap.size ≤ base) (hown : OwnB w2 base (.slice a b.length cap) b) (he : b = bitsC L k) (hoK : ∀ g, o = some g → g < w.heap.size) :
    CodesAt (w2.setCell ⟨K, k, none⟩ (.slice a b.length cap)) K o L (k + 1) := by
  have h2 := codes_below h hb
  have hKlt : K < w.heap.size := by obtain ⟨_, _, ha, _⟩ := h; exact arr_lt ha
  obtain ⟨cs, hl, ha, hc⟩ := h2
  subst he
  have hlen : 0 < (bitsC L k).length := by rw [bitsC_length]; omega
  obtain ⟨hsl, _⟩ := sl_of_owns hown
  obtain ⟨_, hform⟩ := hown
  rcases hform with ⟨_, h0⟩ | ⟨g, cap', cur, hv, hg, hh, hn, hm, hs, ht⟩
  · omega
  · injection hv with hv1 _ hv3
    subst hv1 hv3
    rcases sl_one hsl with ⟨h0, _⟩ | ⟨_, b', off, cap', hv', hlc, hblt, hcell⟩
    · rw [h0] at hlen; simp at hlen
    · injection hv' with e1 _ e3
      injection e1 with e1
      injection e1 with e1 e2 _
      subst e1 e2 e3
      refine ⟨cs.set k (.slice (some ⟨g, 0, none⟩) (bitsC L k).length cap), by rw [List.length_set]; exact hl, arr_set ha k _, fun s hs hp => ?_⟩
      by_cases e : s = k
      · subst e
        refine ⟨g, cap, by rw [List.getElem?_set_self (by omega)], hlc, by omega, by simpa [World.setCell] using hblt, fun e => ?_, fun i hi => ?_⟩
        · have := hoK g e; omega
        · rw [cell_set_block _ (by omega)]
          have := hcell i hi
          rw [Nat.zero_add] at this
          exact this
      · obtain ⟨g', c', h1, h2, h3, h4, h5, h6⟩ := hc s (by omega) hp
        refine ⟨g', c', by rw [List.getElem?_set_ne (by omega)]; exact h1, h2, h3, by simpa [World.setCell] using h4, h5, fun i hi => ?_⟩
        rw [cell_set_block _ (by omega)]; exact h6 i hi
theorem codes_read {w : World} {K : Nat} {o : Option Nat} {L : List Int} (h : CodesAt w K o L 272) {s : Nat} (hs : s < 272) (hp : 0 < L[s]?.getD 0) : ∃ v, w.cell? ⟨K, s, none⟩ = some v ∧ Bits w v (bitsC L s) := by
  obtain ⟨cs, hl, ha, hc⟩ := h
  obtain ⟨g, cap, h1, h2, h3, h4, h5, h6⟩ := hc s hs hp
  exact ⟨_, by rw [arr_cell ha, h1], sl_one_mk h2 h4 (fun i hi => by rw [Nat.zero_add]; exact h6 i hi)⟩

/-- What Write leaves: its bits. -/
def WrV (l : List TokT) (b : List Bool) : Prop := (wrOk l = true → ∃ L, LensR (timesL l) L ∧ b = wrB L l) ∧ (wrOk l = false → b = [])
/-- What Write leaves. -/
def WriteV (l : List TokT) (w : World) (e : Ending) (w' : World) : Prop :=
  ∃ (a : Option Addr) (cap : Nat) (b : List Bool), e = .returned (.tuple #[.slice a b.length cap, .bool (wrOk l)]) ∧ Hid (WrV l b) ∧ Bits w' (.slice a b.length cap) b ∧ Below w.heap.size w w'
theorem writeV_no {l : List TokT} {w w' : World} (h : wrOk l = false) (hb : Below w.heap.size w w') : WriteV l w (.returned (.tuple #[.slice none 0 0, .bool false])) w' :=
  ⟨none, 0, [], by rw [h]; rfl, ⟨fun h' => absurd h' (by rw [h]; decide), fun _ => rfl⟩, sl_nil fun _ => rfl, hb⟩
theorem wrOk_iff {l : List TokT} : wrOk l = true ↔ l.length ≤ 1000 ∧ ∀ t ∈ l, mayT t = true := by simp [wrOk]
theorem wrOk_no {l : List TokT} (h : 1000 < l.length ∨ ∃ t ∈ l, mayT t = false) : wrOk l = false := by
  cases e : wrOk l with
  | false => rfl
  | true =>
    obtain ⟨h1, h2⟩ := wrOk_iff.1 e
    rcases h with h | ⟨t, ht, h⟩
    · omega
    · rw [h2 t ht] at h; cases h
theorem times_mayF {l : List TokT} (h : l.length ≤ 1000) : mayF (timesL l) = true :=
  mayF_iff.2 ⟨by rw [timesL_length]; omega, fun x hx => by have := timesL_bd l x hx; omega⟩
theorem tokB_le {L : List Int} (hok : lensOk L = true) (t : TokT) : (tokB L t).length ≤ 23 := by
  have hb : (bitsC L (symT t).toNat).length ≤ 15 := by
    rw [bitsC_length]
    by_cases h : (symT t).toNat < L.length
    · rw [List.getElem?_eq_getElem h, Option.getD_some]
      have := (lensOk_parts hok).2.1 _ (List.getElem_mem h)
      omega
    · rw [List.getElem?_eq_none (by omega)]; simp
  unfold tokB
  rw [List.length_append]
  split
  · rw [putL_length]; omega
  · simp; omega
theorem toksB_le {L : List Int} (hok : lensOk L = true) (l : List TokT) : (l.flatMap (tokB L)).length ≤ 23 * l.length := by
  induction l with
  | nil => simp
  | cons t l ih =>
    have := tokB_le hok t
    rw [List.flatMap_cons, List.length_append, List.length_cons]; omega
theorem timesL_step {l : List TokT} {k : Nat} (hk : k < l.length) {s : Nat} (hs : s < 272) (h : symT l[k] = s) : timesL (l.take (k + 1)) = (timesL (l.take k)).set s ((((l.take k).filter fun t => symT t == (s : Int)).length : Int) + 1) := by
  rw [List.take_succ_eq_append_getElem hk]
  exact timesL_snoc _ _ hs h
theorem cells3_newT {w w2 : World} {b d n : Int} (hb : Below (w.alloc (.cells #[.int .i64 b, .int .i64 d, .int .i64 n] 30)).heap.size (w.alloc (.cells #[.int .i64 b, .int .i64 d, .int .i64 n] 30)) w2) :
    w2.cell? ⟨w.heap.size, 0, none⟩ = some (.int .i64 b) ∧ w2.cell? ⟨w.heap.size, 1, none⟩ = some (.int .i64 d) ∧ w2.cell? ⟨w.heap.size, 2, none⟩ = some (.int .i64 n) ∧ w.heap.size < w2.heap.size := by
  refine ⟨?_, ?_, ?_, by have := hb.size; simp at this; omega⟩
  · rw [hb.cell (p := ⟨w.heap.size, 0, none⟩) (by simp), World.cell?_alloc_new]; rfl
  · rw [hb.cell (p := ⟨w.heap.size, 1, none⟩) (by simp), World.cell?_alloc_new]; rfl
  · rw [hb.cell (p := ⟨w.heap.size, 2, none⟩) (by simp), World.cell?_alloc_new]; rfl
theorem below_stepA2 {n : Nat} {w a b : World} {o : Obj} (h : Below n w a) (h2 : Below (a.alloc o).heap.size (a.alloc o) b) (hn : n ≤ a.heap.size := by omega) : Below n w b :=
  (h.alloc hn o).trans (h2.mono (by simp; omega))
theorem ints_own_cell {w : World} {g n cap : Nat} {l : List Int} (h : IntsV w (.slice (some ⟨g, 0, none⟩) n cap) l) {k : Nat} (hk : k < l.length) : w.cell? ⟨g, k, none⟩ = some (.int .i64 l[k]) := by
  rcases sl_one h with ⟨h0, _⟩ | ⟨_, b', off, cap', hv', _, _, hcell⟩
  · rw [h0] at hk; simp at hk
  · injection hv' with e1 _ _
    injection e1 with e1
    injection e1 with e1 e2 _
    subst e1 e2
    have := hcell k hk
    rw [Nat.zero_add] at this
    exact this
theorem grown_cell {w w' : World} {row : Option Nat} {g i : Nat} (hg : w.grownBy w' row) (hlt : g < w.heap.size) (hne : some g ≠ row) : w'.cell? ⟨g, i, none⟩ = w.cell? ⟨g, i, none⟩ :=
  World.cell?_of_block (w := w) (hg.block g hlt hne)
end Go.Proofs.Ytolappilfjhfaaa
namespace Go.Proofs.Ytolappilfjhfaaa
open Go.RowKit

set_option maxRecDepth 100000 in
set_option maxHeartbeats 16000000 in
theorem writeP_any (v : Value) (l : List TokT) (w : World) (hv : ToksR w v l) :
    Calls Try.prog 16 #[v] w fun e w' => WriteV l w e w' := by
  obtain ⟨i0, hi, hz0, hz1, hz2⟩ := info_parts info_int
  obtain ⟨j0, hj, hj0, hj1, hj2⟩ := info_parts info_bool
  obtain ⟨n0, hn, hn0, hn1, hn2⟩ := info_parts info_codesA
  have HV := Lib.hid hv
  obtain ⟨a0, c0, rfl, _⟩ := hv
  by_cases h1000 : 1000 < l.length
  · have HNo := Lib.hid (wrOk_no (Or.inl h1000))
    have d1 : decide ((1000 : Int) < (l.length : Int)) = true := by simp; omega
    go_enter Try.func16, Try.ntmps16
    go_wp2_with fail
    go_ret2
    exact writeV_no HNo.out (Below.refl _ _)
  · have d1 : decide ((1000 : Int) < (l.length : Int)) = false := by simp; omega
    have hl : l.length ≤ 1000 := by omega
    go_enter Try.func16, Try.ntmps16
    go_wp2_with (first
      | (at_make; refine wpList_make_full _ rfl _ _ 50 rfl w.heap.size 3 i0 (.int .i64 0) 1 Try.underlying50 hi hz0 hz1 .i64 .i64 _ _ 272 rfl rfl rfl rfl (by rw [hz2]; omega) (by simp [maxLen]) (Nat.le_refl _) ?_
         intro w1 hown1 hg1
         have HB1 := Lib.hid ((Below.refl w.heap.size w).grown hg1 (Nat.le_refl _) (fun k hk => by cases hk))
         have hs1 : w.heap.size < w1.heap.size := owns_lt hown1 _ rfl
         have HO1 : Hid (w1.ownsRow w.heap.size 3 1 (.slice (some ⟨w.heap.size, 0, none⟩) 272 272) 272 ((List.replicate 272 (0 : Int)).map (Value.int .i64))) := by
           unfold Hid
           rw [← made_zero]
           rw [Nat.mul_one] at hown1
           exact hown1
         clear hown1 hg1)
      | fail)
    go_loopw [23] (fun ui wr => ∃ k : Nat, ui = .int .i64 k ∧ k ≤ l.length ∧ (∀ t ∈ l.take k, mayT t = true) ∧ wr.ownsRow w.heap.size 3 1 (.slice (some ⟨w.heap.size, 0, none⟩) 272 272) 272 ((timesL (l.take k)).map (Value.int .i64)) ∧ Below w.heap.size w wr) (fun ui _ => l.length - (intOf ui).toNat)
    case atStart => exact ⟨0, rfl, Nat.zero_le _, by simp, by rw [List.take_zero, timesL_nil]; exact HO1.out, HB1.out⟩
    case round =>
      obtain ⟨k, rfl, hk, hall, hown, hb⟩ := hrel
      have Hall := Lib.hid hall
      have HO := Lib.hid hown
      have HB := Lib.hid hb
      have hsz := hb.size
      clear hall hown hb HO1 HB1
      by_cases hlt : k < l.length
      · obtain ⟨bT, oT, cT, hveq, _, hbT, hcell⟩ := toks_cells HV.out (by omega)
        injection hveq with q1 q2 q3
        subst q1 q3
        obtain ⟨e0, e1, e2⟩ := hcell k hlt
        rw [← HB.out.cell (p := ⟨bT, oT + k * 3, none⟩) hbT] at e0
        rw [← HB.out.cell (p := ⟨bT, oT + k * 3 + 1, none⟩) hbT] at e1
        rw [← HB.out.cell (p := ⟨bT, oT + k * 3 + 2, none⟩) hbT] at e2
        have g2 : (k : Int) < (l.length : Int) := by omega
        have Hst : Hid (∀ s : Nat, s < 272 → symT l[k] = s → timesL (l.take (k + 1)) = (timesL (l.take k)).set s ((((l.take k).filter fun t => symT t == (s : Int)).length : Int) + 1)) := fun s hs h => timesL_step hlt hs h
        have Hmem : Hid (l[k] ∈ l) := List.getElem_mem hlt
        have HT := Lib.hid (List.take_succ_eq_append_getElem hlt)
        clear hcell q2 hn1
        generalize l[k] = t at *
        obtain ⟨tb, td, tn⟩ := t
        dsimp only at e0 e1 e2
        have hsym := symbol_any tb td tn (wr.alloc (.cells #[.int .i64 tb, .int .i64 td, .int .i64 tn] 30))
        go_wp2_with fail
        refine hsym.mono ?_
        rintro e w2 ⟨rfl, hb2⟩
        have HO2 := Lib.hid (owns_below (HO.out.alloc (.cells #[.int .i64 tb, .int .i64 td, .int .i64 tn] 30)) hb2)
        have HB2 := Lib.hid (below_stepA HB.out hb2)
        clear hsym hb2 e0 e1 e2
        by_cases hm : mayT (tb, td, tn) = true
        · obtain ⟨s0, s1, _, _⟩ := symT_yes hm
          obtain ⟨s, hs⟩ := Int.eq_ofNat_of_zero_le s0
          have hst2 := Hst.out s (by omega) hs
          have HT2 := Lib.hid hst2
          have hx := timesL_at (l.take k) (s := s) (by omega)
          have hxb : ((l.take k).filter fun t => symT t == (s : Int)).length ≤ k := Nat.le_trans (List.length_filter_le _ _) (List.length_take_le _ _)
          have Hm := Lib.hid hm
          rw [hs]
          have hs272 : (s : Int) < 272 := by omega
          clear hst2 hm s0 s1 hs Hst
          generalize ((l.take k).filter fun t => symT t == (s : Int)).length = x at *
          have f0 := HO2.out.frozenAt s
          have f1 : w2.cell? ⟨w.heap.size, s, none⟩ = some (.int .i64 x) := by rw [HO2.out.cellAt s (by omega), List.getElem?_map, hx]; rfl
          have hst := (HO2.out.stored s (.int .i64 ((x : Int) + 1))).1
          rw [← List.map_set, ← HT2.out] at hst
          have HO3 := Lib.hid hst
          have HB3 := Lib.hid (HB2.out.setCell (p := ⟨w.heap.size, s, none⟩) (Nat.le_refl _) (.int .i64 ((x : Int) + 1)))
          clear hst hx
          go_wp2_with fail
          exact ⟨⟨k + 1, by go_num, by omega, fun t ht => by
            rw [HT.out, List.mem_append, List.mem_singleton] at ht
            rcases ht with ht | rfl
            · exact Hall.out t ht
            · exact Hm.out, HO3.out, HB3.out⟩, by simp [intOf]; omega⟩
        · have hm' : mayT (tb, td, tn) = false := by cases q : mayT (tb, td, tn) with
            | true => exact absurd q hm
            | false => rfl
          have HNo := Lib.hid (wrOk_no (Or.inr ⟨_, Hmem.out, hm'⟩))
          rw [symT_no hm']
          clear hm hm' Hst
          go_wp2_with fail
          go_ret2
          exact writeV_no HNo.out HB2.out
      · obtain rfl : k = l.length := by omega
        rw [List.take_length] at Hall HO
        have hok : wrOk l = true := wrOk_iff.2 ⟨hl, Hall.out⟩
        have Hok := Lib.hid hok
        have hln := lens_any (.slice (some ⟨w.heap.size, 0, none⟩) 272 272) (timesL l) wr (sl_of_owns HO.out).1 (by rw [timesL_length]; omega)
        clear hok
        go_wp2_with fail
        refine hln.mono ?_
        rintro e w2 ⟨a2, c2, L, rfl, hLV, hL2, hb2⟩
        have hR : LensR (timesL l) L := hLV.out.1 (times_mayF hl)
        have HR := Lib.hid hR
        obtain ⟨f1, f2, f3⟩ := lensR_facts hR (fun x hx => (timesL_bd l x hx).1) (by rw [timesL_length]; omega)
        obtain ⟨t1, t2, t3⟩ := times_facts hR Hok.out
        have hL272 : L.length = 272 := t1
        rcases sl_one hL2 with ⟨h0, _⟩ | ⟨_, bL, oL, cL, hveq, _, hbL, hcellL⟩
        · rw [h0] at hL272; simp at hL272
        injection hveq with q1 q2 q3
        subst q1 q3
        have HL2 : Hid (IntsV w2 (.slice (some ⟨bL, oL, none⟩) 272 c2) L) := by unfold Hid; rw [← hL272]; exact hL2
        have HcL := Lib.hid hcellL
        have HLok := Lib.hid f2
        have Hrel := Lib.hid f3
        have Hthere := Lib.hid t3
        have H272 := Lib.hid hL272
        have HT2 := Lib.hid (sl_below (sl_of_owns HO.out).1 hb2)
        have HB2 := Lib.hid (below_step' HB.out hb2)
        have hlt2 : w.heap.size < w2.heap.size := Nat.lt_of_lt_of_le (owns_lt HO.out _ rfl) hb2.size
        rw [hL272]
        clear hln hLV hR f1 f2 f3 t1 t2 t3 hb2 hL2 hL272 hn2 hcellL q2
        go_wp2_with (first
          | (refine wpList_alloc_arr rfl 52 rfl (List.replicate 272 (Value.slice none 0 0)) n0 hn hn0 ?_
             intro w3 harr3 hb3 hs3
             have HC3 : Hid (CodesAt w3 w2.heap.size none L 0) := codes_start harr3
             have HB3 := Lib.hid hb3
             clear harr3 hb3)
          | fail)
        go_loopw [10, 11, 42] (fun tb th i wr => ∃ (k : Nat) (bs : List Bool) (a : Option Addr) (cap : Nat), i = .int .i64 k ∧ k ≤ 272 ∧ th = .int .i64 (manyT L k : Nat) ∧ tb = .slice a bs.length cap ∧ Hid (bs = rowsT L k) ∧ OwnB wr (w2.heap.size + 1) (.slice a bs.length cap) bs ∧ CodesAt wr w2.heap.size (Value.slice a bs.length cap).ownBlock L k ∧ Below w2.heap.size w2 wr ∧ w2.heap.size + 1 ≤ wr.heap.size) (fun _ _ i _ => 272 - (intOf i).toNat)
        case atStart => exact ⟨0, [], none, 0, rfl, by omega, rfl, rfl, rfl, ownB_nil _ _, HC3.out, HB3.out, by omega⟩
        case round =>
          obtain ⟨wo, hwo⟩ : ∃ wo : World, wo = wr := ⟨_, rfl⟩
          subst hwo
          obtain ⟨k, bs, a, cap, rfl, hk, rfl, rfl, Hbs, hO, hC, hB, hsz⟩ := hrel
          have HO4 := Lib.hid hO
          have HC4 := Lib.hid hC
          have HB4 := Lib.hid hB
          have hbl : bs.length ≤ 3536 := by have := rowsT_length L k; have := manyT_le L k; rw [Hbs.out]; omega
          have hml := manyT_le L k
          have HOb := Lib.hid (owns_block hO)
          have HOl := Lib.hid (owns_lt hO)
          clear hO hC hB HC3 HB3
          by_cases hlt : k < 272
          · have hkT : k < (timesL l).length := by rw [timesL_length]; exact hlt
            have hkL : k < L.length := by rw [H272.out]; exact hlt
            have e0 := ints_own_cell HT2.out hkT
            rw [← HB4.out.cell (p := ⟨w.heap.size, k, none⟩) hlt2] at e0
            have e1 := HcL.out k hkL
            have hrel := Hrel.out k hkT hkL
            have hx0 := (timesL_bd l _ (List.getElem_mem hkT)).1
            have HgL : Hid (L[k]?.getD 0 = L[k]) := by unfold Hid; rw [List.getElem?_eq_getElem hkL, Option.getD_some]
            have hr15 := (lensOk_parts HLok.out).2.1 _ (List.getElem_mem hkL)
            have HMs := Lib.hid (manyT_step L k)
            have HRs := Lib.hid (rowsT_step L k)
            have g2 : (k : Int) < 272 := by omega
            have HwO : Hid (0 < L[k] → writeOk L (k : Int) = true) := fun hp => writeOk_iff.2 ⟨HLok.out, by omega, by omega, by rw [Int.toNat_natCast, HgL.out]; omega⟩
            generalize (timesL l)[k] = x at *
            generalize hy : L[k] = y at *
            clear hy
            by_cases hp : 0 < y
            · have hx1 : 0 < x := hrel.1.1 hp
              have b1 : (x == 0) = false := by simp; omega
              rw [HgL.out, if_pos hp] at HMs HRs
              have hw1 : IntKind.i64.wrap (((manyT L k : Nat) : Int) + 1) = ((manyT L k : Nat) : Int) + 1 := by rw [IntKind.wrap_i64]; omega
              have hp9 : putOk (k : Int) 9 = true := by
                have : p2 9 = 512 := by decide
                simp only [putOk, decide_eq_true_eq]; exact ⟨by omega, by omega, by omega, by show (k : Int) < p2 9; omega⟩
              have hp4 : putOk y 4 = true := by
                have : p2 4 = 16 := by decide
                simp only [putOk, decide_eq_true_eq]; exact ⟨by omega, by omega, by omega, by show y < p2 4; omega⟩
              have Hp4 := Lib.hid hp4
              have hput := pput_any (.slice a bs.length cap) bs (k : Int) 9 wo (w2.heap.size + 1) HO4.out hsz (by omega) hp9
              generalize manyT L k = mk at *
              clear hp9 hp4 hrel
              go_wp2_with fail
              refine hput.mono ?_
              rintro e w4 ⟨a4, c4, b4, rfl, hb4, hO4, hg4, hat4⟩
              have HO5 := Lib.hid hO4
              have HB5 := Lib.hid (HB4.out.grown hg4 (by omega) (fun j hj => by have := HOb.out j hj; omega))
              have HC5 := Lib.hid (codes_grown (o' := (Value.slice a4 b4.length c4).ownBlock) HC4.out hg4 (Or.inr rfl) (fun e => by have := HOb.out _ e.symm; omega) hat4)
              have hsz4 : w2.heap.size + 1 ≤ w4.heap.size := by have := hg4.size; omega
              have HOb4 := Lib.hid (owns_block hO4)
              have hbl4 : b4.length ≤ 3600 := by rw [hb4.out, List.length_append, putL_length]; show _ + 9 ≤ _; omega
              rw [← HB5.out.cell (p := ⟨bL, oL + k, none⟩) hbL] at e1
              have hput := pput_any (.slice a4 b4.length c4) b4 y 4 w4 (w2.heap.size + 1) HO5.out hsz4 (by omega) Hp4.out
              clear hO4 hg4 hat4 e0
              go_wp2_with fail
              refine hput.mono ?_
              rintro e w5 ⟨a5, c5, b5, rfl, hb5, hO5, hg5, hat5⟩
              have HO6 := Lib.hid hO5
              have HB6 := Lib.hid (HB5.out.grown hg5 (by omega) (fun j hj => by have := HOb4.out j hj; omega))
              have HC6 := Lib.hid (codes_grown (o' := (Value.slice a5 b5.length c5).ownBlock) HC5.out hg5 (Or.inr rfl) (fun e => by have := HOb4.out _ e.symm; omega) hat5)
              have hsz5 : w2.heap.size + 1 ≤ w5.heap.size := by have := hg5.size; omega
              have HOl5 := Lib.hid (owns_lt hO5)
              have hwr := write_own (.slice (some ⟨bL, oL, none⟩) 272 c2) L (k : Int) w5 (sl_below HL2.out HB6.out) (by rw [H272.out]; omega) (HwO.out hp)
              clear hO5 hg5 hat5 e1 hput
              go_wp2_with fail
              refine hwr.mono ?_
              rintro e w6 ⟨a6, c6, b6, rfl, hb6, hO7, hb7⟩
              have hcc := codes_cell (codes_below HC6.out hb7) hlt
              obtain ⟨⟨u0, hu0⟩, hu1⟩ := hcc
              have HC7 := Lib.hid (codes_put HC6.out hlt (by rw [HgL.out]; exact hp) hb7 (Nat.le_refl _) hO7 (by rw [hb6.out, Int.toNat_natCast]) HOl5.out)
              have HO7 := Lib.hid (ownsRow_setCell_below (owns_below HO6.out hb7) (a := ⟨w2.heap.size, k, none⟩) (Nat.lt_succ_self _) (.slice a6 b6.length c6))
              have HB7 := Lib.hid ((HB6.out.trans (hb7.mono (by omega))).setCell (p := ⟨w2.heap.size, k, none⟩) (Nat.le_refl _) (.slice a6 b6.length c6))
              have hsz7 : w2.heap.size + 1 ≤ w6.heap.size := by have := hb7.size; omega
              clear hwr hO7 hb7
              go_wp2_with fail
              exact ⟨⟨k + 1, b5, a5, c5, by go_num, by omega, by rw [HMs.out]; go_num, rfl, by unfold Hid; rw [hb5.out, hb4.out, Hbs.out, HRs.out]; simp, HO7.out, HC7.out, HB7.out, by simpa [World.setCell] using hsz7⟩, by simp [intOf]; omega⟩
            · have hx1 : x = 0 := by
                have : ¬ 0 < x := fun q => hp (hrel.1.2 q)
                omega
              subst hx1
              rw [HgL.out, if_neg hp] at HMs HRs
              have HC5 := Lib.hid (codes_skip HC4.out (by rw [HgL.out]; exact hp))
              clear hrel
              go_wp2_with fail
              exact ⟨⟨k + 1, bs, a, cap, by go_num, by omega, by rw [HMs.out]; rfl, rfl, by unfold Hid; rw [HRs.out, List.append_nil]; exact Hbs.out, HO4.out, HC5.out, HB4.out, hsz⟩, by simp [intOf]; omega⟩
          · obtain rfl : k = 272 := by omega
            have hp9 : putOk ((manyT L 272 : Nat) : Int) 9 = true := by
              have : p2 9 = 512 := by decide
              simp only [putOk, decide_eq_true_eq]; exact ⟨by omega, by omega, by omega, by show ((manyT L 272 : Nat) : Int) < p2 9; omega⟩
            have hput := pput_any (.slice none 0 0) [] ((manyT L 272 : Nat) : Int) 9 wo wo.heap.size (ownB_nil _ _) (Nat.le_refl _) (by simp) hp9
            have HBo := Lib.hid (HB2.out.trans (HB4.out.mono HB2.out.size))
            have HHd : Hid (headB L = putL ((manyT L 272 : Nat) : Int) 9 ++ rowsT L 272) := rfl
            generalize manyT L 272 = mk at *
            clear hp9
            go_wp2_with fail
            refine hput.mono ?_
            rintro e w4 ⟨a4, c4, b4, rfl, hb4, hO4, hg4, _⟩
            have hbw4 : Below wo.heap.size wo w4 := (Below.refl _ _).grown hg4 (Nat.le_refl _) (fun k hk => by cases hk)
            have Hsrc := Lib.hid (sl_below (sl_of_owns HO4.out).1 hbw4)
            have HO5 := Lib.hid hO4
            have HBw4 := Lib.hid hbw4
            have hbl4 : b4.length = 9 := by rw [hb4.out, List.nil_append, putL_length]; rfl
            have Hbl4 := Lib.hid hbl4
            have hbl4' : b4.length ≤ 9 := by omega
            have hsz4 := hbw4.size
            clear hput hO4 hg4 hbw4 hbl4
            go_wp2_with (first | (at_builtin; refine wpList_append_sl (f := Value.bool) rfl _ _ 25 rfl wo.heap.size 4 j0 (.bool false) 1 Try.underlying25 hj hj0 hj1 hj2 rfl _ _ _ rfl HO5.out _ rfl Hsrc.out (fun _ => rfl) (by simp [maxLen]; omega) (by omega) hsz4 ?_
                                  intro v5 w5 hown5 hg5 _
                                  obtain ⟨a5, c5, rfl, _⟩ := owns_shape hown5
                                  have HO6 : Hid (OwnB w5 wo.heap.size (.slice a5 (b4 ++ bs).length c5) (b4 ++ bs)) := by
                                    have e5 : (b4 ++ bs).length = b4.length + bs.length := List.length_append
                                    unfold Hid OwnB
                                    rw [e5, List.map_append]; exact hown5
                                  have HB5 := Lib.hid (HBw4.out.grown hg5 hsz4 (fun j hj => owns_block HO5.out j hj))
                                  clear hown5 hg5) | fail)
            have e5 : (b4 ++ bs).length = b4.length + bs.length := List.length_append
            have E5 := Lib.hid e5
            have HHb : Hid (b4 ++ bs = headB L) := by unfold Hid; rw [HHd.out, hb4.out, Hbs.out, List.nil_append]; rfl
            clear e5
            go_loopw [14, 75] (fun o i wq => ∃ (k : Nat) (bq : List Bool) (aq : Option Addr) (cq : Nat), i = .int .i64 k ∧ k ≤ l.length ∧ o = .slice aq bq.length cq ∧ Hid (bq = headB L ++ (l.take k).flatMap (tokB L)) ∧ OwnB wq wo.heap.size (.slice aq bq.length cq) bq ∧ Below wo.heap.size wo wq) (fun _ i _ => l.length - (intOf i).toNat)
            case atStart => exact ⟨0, b4 ++ bs, a5, c5, rfl, Nat.zero_le _, by rw [E5.out], by unfold Hid; rw [HHb.out]; simp, HO6.out, HB5.out⟩
            case round =>
              obtain ⟨wq, hwq⟩ : ∃ wq : World, wq = wr := ⟨_, rfl⟩
              subst hwq
              obtain ⟨k, bq, aq, cq, rfl, hk, rfl, Hbq, hO, hB⟩ := hrel
              have HOq := Lib.hid hO
              have HBq := Lib.hid hB
              have HBw := Lib.hid (HBo.out.trans (hB.mono HBo.out.size))
              have HOl := Lib.hid (owns_lt hO)
              have hszq := hB.size
              have hbl : bq.length ≤ 27000 := by
                have h1 := toksB_le HLok.out (l.take k)
                have h2 := headB_length L
                have h3 := manyT_le L 272
                have h4 : (l.take k).length ≤ l.length := by rw [List.length_take]; omega
                rw [Hbq.out, List.length_append]; omega
              clear hO hB HO6 HB5
              by_cases hlt : k < l.length
              · obtain ⟨bT, oT, cT, hveq, _, hbT, hcell⟩ := toks_cells HV.out (by omega)
                injection hveq with q1 q2 q3
                subst q1 q3
                obtain ⟨e0, e1, e2⟩ := hcell k hlt
                rw [← HBw.out.cell (p := ⟨bT, oT + k * 3, none⟩) hbT] at e0
                rw [← HBw.out.cell (p := ⟨bT, oT + k * 3 + 1, none⟩) hbT] at e1
                rw [← HBw.out.cell (p := ⟨bT, oT + k * 3 + 2, none⟩) hbT] at e2
                have g2 : (k : Int) < (l.length : Int) := by omega
                have hmay := Hall.out _ (List.getElem_mem hlt)
                obtain ⟨hs0, hs1⟩ := Hthere.out _ (List.getElem_mem hlt)
                have HF : Hid ((l.take (k + 1)).flatMap (tokB L) = (l.take k).flatMap (tokB L) ++ tokB L l[k]) := by
                  unfold Hid; rw [List.take_succ_eq_append_getElem hlt, List.flatMap_append, List.flatMap_cons, List.flatMap_nil, List.append_nil]
                clear hcell q2
                generalize l[k] = t at *
                obtain ⟨tb, td, tn⟩ := t
                dsimp only at e0 e1 e2
                obtain ⟨s0, s1, s2, _⟩ := symT_yes hmay
                have hparts := mayT_parts hmay
                obtain ⟨s, hs⟩ := Int.eq_ofNat_of_zero_le s0
                have hs272 : s < 272 := by omega
                have hs272' : (s : Int) < 272 := by omega
                have HTk : Hid (tokB L (tb, td, tn) = bitsC L s ++ (if 0 < tn then putL td 8 else [])) := by unfold Hid tokB; rw [hs, Int.toNat_natCast]
                have hL0 : 0 < L[s]?.getD 0 := by
                  rw [hs, Int.toNat_natCast] at hs0
                  have q : L[s]'hs0 ≠ 0 := by simpa [hs] using hs1
                  have := (lensOk_parts HLok.out).2.1 _ (List.getElem_mem hs0)
                  rw [List.getElem?_eq_getElem hs0, Option.getD_some]; omega
                have HL0 := Lib.hid hL0
                have hbc : (bitsC L s).length ≤ 15 := by
                  rw [bitsC_length]
                  by_cases h : s < L.length
                  · rw [List.getElem?_eq_getElem h, Option.getD_some]
                    have := (lensOk_parts HLok.out).2.1 _ (List.getElem_mem h)
                    omega
                  · rw [List.getElem?_eq_none (by omega)]; simp
                have Hparts := Lib.hid hparts
                have hsym := symbol_any tb td tn (wq.alloc (.cells #[.int .i64 tb, .int .i64 td, .int .i64 tn] 30))
                rw [hs] at hsym
                clear hs hs0 hs1 hL0 s0 s1 s2 hparts hmay
                go_wp2_with fail
                refine hsym.mono ?_
                rintro e w6 ⟨rfl, hb6⟩
                obtain ⟨f0, f1, f2, hp6⟩ := cells3_newT hb6
                have HO7 := Lib.hid (owns_below (HOq.out.alloc (.cells #[.int .i64 tb, .int .i64 td, .int .i64 tn] 30)) hb6)
                have HB7 := Lib.hid (below_stepA2 HBq.out hb6)
                have hsz7 := HB7.out.size
                obtain ⟨vc, hvc, hbits⟩ := codes_read (codes_below HC4.out HB7.out) hs272 HL0.out
                have Hbits := Lib.hid hbits
                obtain ⟨ac, cc, rfl, _⟩ := hbits
                have hne6 : some wq.heap.size ≠ (Value.slice aq bq.length cq).ownBlock := fun e => by have := HOl.out _ e.symm; omega
                have Hne6 := Lib.hid hne6
                clear hsym hb6 e0 e1 e2 hne6
                generalize bitsC L s = bc at *
                have e9 : (bq ++ bc).length = bq.length + bc.length := List.length_append
                have E9 := Lib.hid e9
                clear e9
                by_cases hn : 0 < tn
                · have dn : decide (0 < tn) = true := by simpa using hn
                  rw [if_pos hn] at HTk
                  have hp8 : putOk td 8 = true := by
                    have q8 : p2 8 = 256 := by decide
                    have := Hparts.out
                    simp only [putOk, decide_eq_true_eq]; exact ⟨by omega, by omega, by omega, by show td < p2 8; omega⟩
                  have Hp8 := Lib.hid hp8
                  clear hp8 hn
                  go_wp2_with (first | (at_builtin; refine wpList_append_sl (f := Value.bool) rfl _ _ 25 rfl wo.heap.size 4 j0 (.bool false) 1 Try.underlying25 hj hj0 hj1 hj2 rfl _ _ _ rfl HO7.out _ rfl Hbits.out (fun _ => rfl) (by simp [maxLen]; omega) (by omega) hsz7 ?_
                                        intro v8 w8 hown8 hg8 _
                                        obtain ⟨a8, c8, rfl, _⟩ := owns_shape hown8
                                        have HO8 : Hid (OwnB w8 wo.heap.size (.slice a8 (bq ++ bc).length c8) (bq ++ bc)) := by
                                          have e5 : (bq ++ bc).length = bq.length + bc.length := List.length_append
                                          unfold Hid OwnB
                                          rw [e5, List.map_append]; exact hown8
                                        have HB8 := Lib.hid (HB7.out.grown hg8 hsz7 (fun j hj => owns_block HO7.out j hj))
                                        have f8 : w8.cell? ⟨wq.heap.size, 2, none⟩ = some (.int .i64 tn) := by rw [grown_cell hg8 hp6 Hne6.out]; exact f2
                                        have f9 : w8.cell? ⟨wq.heap.size, 1, none⟩ = some (.int .i64 td) := by rw [grown_cell hg8 hp6 Hne6.out]; exact f1
                                        clear hown8 hg8 f0 f1 f2 hvc) | fail)
                  have hput := pput_any (.slice a8 (bq ++ bc).length c8) (bq ++ bc) td 8 w8 wo.heap.size HO8.out HB8.out.size (by rw [E9.out]; omega) Hp8.out
                  rw [E9.out] at hput
                  generalize hbb : bq ++ bc = bb at *
                  have Hbb := Lib.hid hbb
                  clear hbb
                  refine hput.mono ?_
                  rintro e w9 ⟨a9, c9, b9, rfl, hb9, hO9, hg9, _⟩
                  have HO9 := Lib.hid hO9
                  have HB9 := Lib.hid (HB8.out.grown hg9 HB8.out.size (fun j hj => owns_block HO8.out j (by rw [E9.out]; exact hj)))
                  clear hput hO9 hg9 f8 f9
                  go_wp2_with fail
                  exact ⟨⟨k + 1, b9, a9, c9, by go_num, by omega, rfl, by unfold Hid; rw [hb9.out, ← Hbb.out, Hbq.out, HF.out, HTk.out]; simp, HO9.out, HB9.out⟩, by simp [intOf]; omega⟩
                · have dn : decide (0 < tn) = false := by simpa using hn
                  rw [if_neg hn, List.append_nil] at HTk
                  clear hn
                  go_wp2_with (first | (at_builtin; refine wpList_append_sl (f := Value.bool) rfl _ _ 25 rfl wo.heap.size 4 j0 (.bool false) 1 Try.underlying25 hj hj0 hj1 hj2 rfl _ _ _ rfl HO7.out _ rfl Hbits.out (fun _ => rfl) (by simp [maxLen]; omega) (by omega) hsz7 ?_
                                        intro v8 w8 hown8 hg8 _
                                        obtain ⟨a8, c8, rfl, _⟩ := owns_shape hown8
                                        have HO8 : Hid (OwnB w8 wo.heap.size (.slice a8 (bq ++ bc).length c8) (bq ++ bc)) := by
                                          have e5 : (bq ++ bc).length = bq.length + bc.length := List.length_append
                                          unfold Hid OwnB
                                          rw [e5, List.map_append]; exact hown8
                                        have HB8 := Lib.hid (HB7.out.grown hg8 hsz7 (fun j hj => owns_block HO7.out j hj))
                                        have f8 : w8.cell? ⟨wq.heap.size, 2, none⟩ = some (.int .i64 tn) := by rw [grown_cell hg8 hp6 Hne6.out]; exact f2
                                        have f9 : w8.cell? ⟨wq.heap.size, 1, none⟩ = some (.int .i64 td) := by rw [grown_cell hg8 hp6 Hne6.out]; exact f1
                                        clear hown8 hg8 f0 f1 f2 hvc) | fail)
                  exact ⟨⟨k + 1, bq ++ bc, a8, c8, by go_num, by omega, by rw [E9.out], by unfold Hid; rw [Hbq.out, HF.out, HTk.out]; simp, HO8.out, HB8.out⟩, by simp [intOf]; omega⟩
              · obtain rfl : k = l.length := by omega
                have HW : Hid (WrV l bq) := ⟨fun _ => ⟨L, HR.out, by rw [Hbq.out, List.take_length, wrB_eq]⟩, fun h => by rw [Hok.out] at h; cases h⟩
                go_wp2_with fail
                go_ret2
                exact ⟨aq, cq, bq, by rw [Hok.out]; rfl, HW.out, (sl_of_owns HOq.out).1, HBw.out⟩
end Go.Proofs.Ytolappilfjhfaaa
