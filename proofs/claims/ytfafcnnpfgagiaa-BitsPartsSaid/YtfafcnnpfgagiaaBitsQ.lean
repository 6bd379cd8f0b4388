/- Plain law of Pack: the bytes that bits are, bit by bit; and what comes back. No program in sight. -/
import Derived.Laws.BitsLemmas
import Derived.Test.YtfafcnnpfgagiaaBitsP
namespace Go.Proofs.Ytfafcnnpfgagiaa

/-- The byte j of bits, those that are not there are 0. -/
def byteVal (l : List Bool) (j : Nat) : Int := takeN ((List.range 8).map fun m => l.getD (8 * j + m) false)
/-- As many bytes as there must be. -/
def packN (n : Nat) : Nat := (n + 7) / 8
def packTo (n : Nat) (l : List Bool) : List Int := (List.range (packN n)).map (byteVal l)
def packL (l : List Bool) : List Int := packTo l.length l

theorem byteVal_nil (j : Nat) : byteVal [] j = 0 := by simp [byteVal, takeN, List.range, List.range.loop]
theorem byteVal_bd (l : List Bool) (j : Nat) : 0 ≤ byteVal l j ∧ byteVal l j < 256 := by
  have h := takeN_bd ((List.range 8).map fun m => l.getD (8 * j + m) false)
  rw [List.length_map, List.length_range] at h
  have e : p2 8 = 256 := by decide
  rw [e] at h
  exact h
theorem byteVal_congr {l m : List Bool} {j : Nat} (h : ∀ i, i < 8 → l.getD (8 * j + i) false = m.getD (8 * j + i) false) : byteVal l j = byteVal m j := by
  unfold byteVal
  congr 1
  exact List.map_congr_left fun i hi => h i (List.mem_range.1 hi)
theorem getD_snoc (l : List Bool) (x : Bool) (i : Nat) : (l ++ [x]).getD i false = if i = l.length then x else l.getD i false := by
  simp only [List.getD_eq_getElem?_getD]
  by_cases h : i < l.length
  · rw [List.getElem?_append_left h, if_neg (by omega)]
  · by_cases e : i = l.length
    · subst e; simp
    · rw [if_neg e, List.getElem?_eq_none (by simp; omega), List.getElem?_eq_none (by omega)]
theorem byteVal_snoc_false (l : List Bool) (j : Nat) : byteVal (l ++ [false]) j = byteVal l j := by
  refine byteVal_congr fun i _ => ?_
  rw [getD_snoc]
  split
  · rename_i h; rw [h, List.getD_eq_getElem?_getD, List.getElem?_eq_none (Nat.le_refl _)]; rfl
  · rfl
theorem byteVal_snoc_other (l : List Bool) (x : Bool) {j : Nat} (h : j ≠ l.length / 8) : byteVal (l ++ [x]) j = byteVal l j := by
  refine byteVal_congr fun i hi => ?_
  rw [getD_snoc, if_neg (by omega)]
theorem takeN_false (n : Nat) : takeN (List.replicate n false) = 0 := by
  induction n with
  | zero => rfl
  | succ n ih => rw [List.replicate_succ, takeN_cons, ih]; simp
theorem split8 (l : List Bool) {m : Nat} (hm : m < 8) (h : l.length % 8 = m) (x : Bool) :
    ((List.range 8).map fun i => (l ++ [x]).getD (8 * (l.length / 8) + i) false) = ((List.range m).map fun i => l.getD (8 * (l.length / 8) + i) false) ++ x :: List.replicate (7 - m) false := by
  apply List.ext_getElem
  · simp; omega
  · intro i h1 h2
    simp only [List.length_map, List.length_range] at h1
    rw [List.getElem_map, List.getElem_range, getD_snoc]
    by_cases hi : i < m
    · rw [List.getElem_append_left (by simpa using hi), if_neg (by omega)]
      simp
    · rw [List.getElem_append_right (by simpa using hi)]
      by_cases e : i = m
      · subst e; simp; omega
      · rw [if_neg (by omega)]
        have : ∃ d, i - m = d + 1 := ⟨i - m - 1, by omega⟩
        obtain ⟨d, hd⟩ := this
        simp only [List.length_map, List.length_range, hd, List.getElem_cons_succ, List.getElem_replicate]
        rw [List.getD_eq_getElem?_getD, List.getElem?_eq_none (by omega)]
        rfl
theorem byteVal_split (l : List Bool) (x : Bool) : byteVal (l ++ [x]) (l.length / 8) = takeN ((List.range (l.length % 8)).map fun i => l.getD (8 * (l.length / 8) + i) false) * p2 (8 - l.length % 8) + (if x then 1 else 0) * p2 (7 - l.length % 8) := by
  have hm : l.length % 8 < 8 := Nat.mod_lt _ (by decide)
  rw [byteVal, split8 l hm rfl, takeN_append, takeN_cons, takeN_false, List.length_cons, List.length_replicate]
  rw [show 7 - l.length % 8 + 1 = 8 - l.length % 8 by omega]
  simp
theorem or_byte (l : List Bool) : bits .or .u8 (byteVal l (l.length / 8)) (2 ^ (7 - l.length % 8) % 256) = byteVal (l ++ [true]) (l.length / 8) := by
  have hm : l.length % 8 < 8 := Nat.mod_lt _ (by decide)
  rw [← byteVal_snoc_false, byteVal_split, byteVal_split]
  generalize hP : takeN ((List.range (l.length % 8)).map fun i => l.getD (8 * (l.length / 8) + i) false) = P
  have hb := takeN_bd ((List.range (l.length % 8)).map fun i => l.getD (8 * (l.length / 8) + i) false)
  rw [hP, List.length_map, List.length_range] at hb
  have h8 : p2 (l.length % 8) * p2 (8 - l.length % 8) = 256 := by
    rw [← p2_add, show l.length % 8 + (8 - l.length % 8) = 8 by omega]; decide
  have e7 : (2 : Int) ^ (7 - l.length % 8) % 256 = p2 (7 - l.length % 8) := by
    rw [← p2_pow]
    have := p2_pos (7 - l.length % 8)
    have := p2_mono (m := 7 - l.length % 8) (n := 7) (by omega)
    have : p2 7 = 128 := by decide
    exact Int.emod_eq_of_lt (by omega) (by omega)
  have hs : p2 (8 - l.length % 8) = 2 * p2 (7 - l.length % 8) := by rw [← p2_succ]; congr 1; omega
  have hp := p2_pos (7 - l.length % 8)
  have hp8 := p2_pos (8 - l.length % 8)
  have hx : P * p2 (8 - l.length % 8) < 256 := by
    have : P * p2 (8 - l.length % 8) < p2 (l.length % 8) * p2 (8 - l.length % 8) := Int.mul_lt_mul_of_pos_right hb.2 (by omega)
    omega
  have hx0 : 0 ≤ P * p2 (8 - l.length % 8) := Int.mul_nonneg hb.1 (by omega)
  have hj := bits_join .u8 8 (by decide) (fun n a b => wraps_u8 n a b) (8 - l.length % 8) (P * p2 (8 - l.length % 8)) (p2 (7 - l.length % 8)) hx0 (by rw [← p2_pow]; exact Int.mul_emod_left _ _) hx (by omega) (by rw [← p2_pow]; omega)
    (by have := p2_mono (m := 7 - l.length % 8) (n := 7) (by omega); have : p2 7 = 128 := by decide
        omega)
  rw [e7]
  simpa using hj

/-- One bit more. -/
theorem packTo_true (n : Nat) (l : List Bool) : (packTo n l).set (l.length / 8) (bits .or .u8 (byteVal l (l.length / 8)) (2 ^ (7 - l.length % 8) % 256)) = packTo n (l ++ [true]) := by
  rw [or_byte]
  apply List.ext_getElem
  · simp [packTo]
  · intro i h1 h2
    simp only [packTo, List.getElem_set, List.getElem_map, List.getElem_range]
    split
    · rename_i h; rw [h]
    · rename_i h; exact (byteVal_snoc_other l true (by omega)).symm
theorem packTo_false (n : Nat) (l : List Bool) : packTo n l = packTo n (l ++ [false]) := by
  unfold packTo
  exact List.map_congr_left fun j _ => (byteVal_snoc_false l j).symm
theorem packL_length (l : List Bool) : (packL l).length = packN l.length := by simp [packL, packTo]

/-- The bits of all bytes. -/
def unpackL (s : List Int) : List Bool := s.flatMap fun c => putL c 8
theorem unpackL_length (s : List Int) : (unpackL s).length = 8 * s.length := by
  induction s with
  | nil => rfl
  | cons c s ih => rw [unpackL, List.flatMap_cons, List.length_append, putL_length, ← unpackL, ih, List.length_cons]; omega
theorem put_byteVal (l : List Bool) (j : Nat) : putL (byteVal l j) 8 = (List.range 8).map fun m => l.getD (8 * j + m) false := by
  have := put_takeN ((List.range 8).map fun m => l.getD (8 * j + m) false)
  rwa [List.length_map, List.length_range] at this
theorem unpackL_get (s : List Int) (j m : Nat) (hj : j < s.length) (hm : m < 8) : (unpackL s)[8 * j + m]? = (putL s[j] 8)[m]? := by
  induction s generalizing j with
  | nil => simp at hj
  | cons c s ih =>
    rw [unpackL, List.flatMap_cons, ← unpackL]
    cases j with
    | zero => rw [List.getElem?_append_left (by rw [putL_length]; omega)]; simp
    | succ j =>
      rw [List.getElem?_append_right (by rw [putL_length]; omega), putL_length, show 8 * (j + 1) + m - 8 = 8 * j + m by omega, ih j (by simpa using hj)]
      simp
/-- Bits are unpacked as they were packed, but for bits 0 behind them. -/
theorem unpack_pack (l : List Bool) : unpackL (packL l) = l ++ List.replicate (8 * packN l.length - l.length) false := by
  have hN : l.length ≤ 8 * packN l.length := by unfold packN; omega
  apply List.ext_getElem?
  intro i
  by_cases hi : i < 8 * packN l.length
  · have hj : i / 8 < (packL l).length := by rw [packL_length]; omega
    have h := unpackL_get (packL l) (i / 8) (i % 8) hj (Nat.mod_lt _ (by decide))
    rw [show 8 * (i / 8) + i % 8 = i by omega] at h
    rw [h]
    have e : (packL l)[i / 8] = byteVal l (i / 8) := by simp [packL, packTo]
    rw [e, put_byteVal, List.getElem?_map, List.getElem?_range (Nat.mod_lt _ (by decide))]
    simp only [Option.map_some]
    rw [show 8 * (i / 8) + i % 8 = i by omega, List.getD_eq_getElem?_getD]
    by_cases hl : i < l.length
    · rw [List.getElem?_append_left hl, List.getElem?_eq_getElem hl]; rfl
    · rw [List.getElem?_append_right (by omega), List.getElem?_eq_none (by omega), List.getElem?_replicate, if_pos (by omega)]; rfl
  · rw [List.getElem?_eq_none (by rw [unpackL_length, packL_length]; omega), List.getElem?_eq_none (by simp; omega)]
/-- Bytes are packed as they were unpacked. -/
theorem pack_unpack (s : List Int) (hs : ∀ c ∈ s, 0 ≤ c ∧ c < 256) : packL (unpackL s) = s := by
  have hn : packN (unpackL s).length = s.length := by rw [unpackL_length]; unfold packN; omega
  apply List.ext_getElem
  · rw [packL_length, hn]
  · intro j h1 h2
    have e : (packL (unpackL s))[j] = byteVal (unpackL s) j := by simp [packL, packTo]
    have hc := hs s[j] (List.getElem_mem h2)
    have e8 : p2 8 = 256 := by decide
    rw [e, ← takeN_put (n := s[j]) (w := 8) hc.1 (by omega), byteVal]
    congr 1
    apply List.ext_getElem
    · simp [putL]
    · intro m g1 g2
      have hm : m < 8 := by simpa using g1
      rw [List.getElem_map, List.getElem_range, List.getD_eq_getElem?_getD, unpackL_get s j m h2 hm, List.getElem?_eq_getElem g2]
      rfl
end Go.Proofs.Ytfafcnnpfgagiaa
