/- The plain law of costs: no lengths cost less; what the lengths take of all there is. No program in sight. -/
import Derived.Test.YtpkbbbdbcedkfaaHufQ
namespace Go.Proofs.Ytpkbbbdbcedkfaa

/-- A sum over a list, by places. -/
def sumG (g : Nat → Int → Int) : Nat → List Int → Int
  | _, [] => 0
  | k, x :: L => g k x + sumG g (k + 1) L
theorem sumG_set (g : Nat → Int → Int) (d : Int) : ∀ (L : List Int) (k n : Nat) (hn : n < L.length), sumG g k (L.set n d) = sumG g k L + g (k + n) d - g (k + n) L[n] := by
  intro L
  induction L with
  | nil => intro k n hn; simp at hn
  | cons x L ih =>
    intro k n hn
    cases n with
    | zero => simp only [List.set_cons_zero, sumG, Nat.add_zero, List.getElem_cons_zero]; omega
    | succ n =>
      have := ih (k + 1) n (by simpa using hn)
      simp only [List.set_cons_succ, sumG, List.getElem_cons_succ]
      rw [this, show k + 1 + n = k + (n + 1) by omega]; omega
/-- What a tree adds to such a sum. -/
def gT (g : Nat → Int → Int) : HT → Int → Int
  | .leaf _ n, d => g n d - g n 0
  | .node l r, d => gT g l (d + 1) + gT g r (d + 1)
theorem sumG_mark (g : Nat → Int → Int) (t : HT) : ∀ (d : Int) (L : List Int), (syms t).Nodup → (∀ s ∈ syms t, L[s]? = some 0) → sumG g 0 (markL t d L) = sumG g 0 L + gT g t d := by
  induction t with
  | leaf w n =>
    intro d L _ h
    have h0 := h n (by simp [syms])
    obtain ⟨hn, h0⟩ := List.getElem?_eq_some_iff.1 h0
    rw [markL, sumG_set g d L 0 n hn, h0, Nat.zero_add, gT]; omega
  | node l r ihl ihr =>
    intro d L hnd h
    have hnd' := List.nodup_append.1 (show (syms l ++ syms r).Nodup from hnd)
    have hl := ihl (d + 1) L hnd'.1 fun s hs => h s (by rw [syms]; exact List.mem_append_left _ hs)
    have hr := ihr (d + 1) (markL l (d + 1) L) hnd'.2.1 fun s hs => by
      rw [markL_other l _ _ s (fun hsl => hnd'.2.2 s hsl s hs rfl)]
      exact h s (by rw [syms]; exact List.mem_append_right _ hs)
    rw [markL, hr, hl, gT]; omega

/-- Where no symbol lies deeper than 15. -/
def D15 : HT → Int → Prop
  | .leaf _ _, d => d ≤ 15
  | .node l r, d => D15 l (d + 1) ∧ D15 r (d + 1)
theorem d15_le {t : HT} : ∀ {d : Int}, D15 t d → d ≤ 15 := by
  induction t with
  | leaf w n => intro d h; exact h
  | node l r ihl _ => intro d h; have := ihl h.1; omega
theorem mark_d15 (t : HT) : ∀ (d : Int) (L : List Int), (syms t).Nodup → (∀ s ∈ syms t, s < L.length) → (∀ s ∈ syms t, (markL t d L)[s]?.getD 0 ≤ 15) → D15 t d := by
  induction t with
  | leaf w n =>
    intro d L _ hs h
    have := h n (by simp [syms])
    rw [markL, List.getElem?_set_self (hs n (by simp [syms])), Option.getD_some] at this
    exact this
  | node l r ihl ihr =>
    intro d L hnd hs h
    have hnd' := List.nodup_append.1 (show (syms l ++ syms r).Nodup from hnd)
    refine ⟨ihl (d + 1) L hnd'.1 (fun s q => hs s (by rw [syms]; exact List.mem_append_left _ q)) fun s q => ?_, ihr (d + 1) (markL l (d + 1) L) hnd'.2.1 (fun s q => by rw [markL_length]; exact hs s (by rw [syms]; exact List.mem_append_right _ q)) fun s q => ?_⟩
    · have := h s (by rw [syms]; exact List.mem_append_left _ q)
      rw [markL, markL_other r _ _ s (fun hr => hnd'.2.2 s q s hr rfl)] at this
      exact this
    · exact h s (by rw [syms]; exact List.mem_append_right _ q)
theorem mark_ge (t : HT) : ∀ (d : Int) (L : List Int), (∀ s ∈ syms t, s < L.length) → ∀ s ∈ syms t, d ≤ (markL t d L)[s]?.getD 0 := by
  induction t with
  | leaf w n =>
    intro d L hs s h
    obtain rfl := List.mem_singleton.1 (show s ∈ [n] from h)
    rw [markL, List.getElem?_set_self (hs s h), Option.getD_some]; omega
  | node l r ihl ihr =>
    intro d L hs s h
    by_cases hr : s ∈ syms r
    · have := ihr (d + 1) (markL l (d + 1) L) (fun s q => by rw [markL_length]; exact hs s (by rw [syms]; exact List.mem_append_right _ q)) s hr
      rw [markL]; omega
    · have hl : s ∈ syms l := by
        rcases List.mem_append.1 (show s ∈ syms l ++ syms r from h) with q | q
        · exact q
        · exact absurd q hr
      have := ihl (d + 1) L (fun s q => hs s (by rw [syms]; exact List.mem_append_left _ q)) s hl
      rw [markL, markL_other r _ _ s hr]; omega
theorem kraft_sumG (L : List Int) : ∀ k, sumG (fun _ x => oneK x) k L = kraftL L := by
  induction L with
  | nil => intro k; rfl
  | cons x L ih =>
    intro k
    have e : kraftL (x :: L) = oneK x + kraftL L := by simp [kraftL]
    rw [sumG, ih, e]
theorem oneK_0 : oneK 0 = 0 := by decide
theorem gT_kraft (t : HT) : ∀ (d : Nat), 1 ≤ d → D15 t d → gT (fun _ x => oneK x) t d = p2 (15 - d) := by
  induction t with
  | leaf w n =>
    intro d hd h
    have h : (d : Int) ≤ 15 := h
    rw [gT, oneK_0]
    unfold oneK
    rw [if_pos (by omega), Int.toNat_natCast]; omega
  | node l r ihl ihr =>
    intro d hd h
    have h15 := d15_le h.1
    rw [gT, show ((d : Int) + 1) = ((d + 1 : Nat) : Int) by omega, ihl (d + 1) (by omega) h.1, ihr (d + 1) (by omega) h.2]
    have e : p2 (15 - d) = 2 * p2 (15 - (d + 1)) := by rw [← p2_succ]; congr 1; omega
    omega
theorem kraft_zeros (n : Nat) : kraftL (List.replicate n 0) = 0 := by
  induction n with
  | zero => rfl
  | succ n ih =>
    have e : kraftL ((0 : Int) :: List.replicate n 0) = oneK 0 + kraftL (List.replicate n 0) := by simp [kraftL]
    rw [List.replicate_succ, e, ih, oneK_0]; rfl
theorem initT_syms_mem {f : List Int} {s : Nat} : s ∈ (initT f).flatMap syms ↔ ∃ hs : s < f.length, 0 < f[s] := by
  rw [List.mem_flatMap]
  constructor
  · rintro ⟨t, ht, h⟩
    obtain ⟨i, hi, h0, rfl⟩ := initT_mem.1 ht
    obtain rfl := List.mem_singleton.1 (show s ∈ [i] from h)
    exact ⟨hi, h0⟩
  · rintro ⟨hs, h0⟩
    exact ⟨_, initT_mem.2 ⟨s, hs, h0, rfl⟩, by simp [syms]⟩
/-- What is told of depths that are not too great: just symbols that are there have codes; two or more fill all there is. -/
theorem once_full {f L : List Int} (h : OnceR f L) (hm : maxOk L) (_hf : ∀ x ∈ f, 0 ≤ x) :
    (∀ i (hi : i < f.length) (hi' : i < L.length), (0 < L[i] ↔ 0 < f[i]) ∧ 0 ≤ L[i]) ∧ (2 ≤ (initT f).length → kraftL L = 32768) ∧ ((initT f).length < 2 → kraftL L = 16384 * (initT f).length) := by
  rcases h with ⟨h1, rfl⟩ | ⟨w, n, h1, rfl⟩ | ⟨h1, T, hT, rfl⟩
  · refine ⟨fun i hi hi' => ?_, fun h => by rw [h1] at h; simp at h, fun _ => by rw [h1, kraft_zeros]; rfl⟩
    have : ¬ 0 < f[i] := fun h0 => by
      have := initT_mem.2 ⟨i, hi, h0, rfl⟩
      rw [h1] at this; cases this
    simp; omega
  · obtain ⟨j, hj, h0, he⟩ := initT_mem.1 (show HT.leaf w n ∈ initT f by rw [h1]; exact List.mem_singleton.2 rfl)
    injection he with e1 e2
    subst e2
    refine ⟨fun i hi hi' => ?_, fun h => by rw [h1] at h; simp at h, fun _ => ?_⟩
    · rw [List.getElem_set]
      by_cases e : n = i
      · subst e; simp [h0]
      · rw [if_neg e, List.getElem_replicate]
        refine ⟨⟨fun h => by omega, fun hp => ?_⟩, by omega⟩
        have := initT_mem.2 ⟨i, hi, hp, rfl⟩
        rw [h1, List.mem_singleton] at this
        injection this with _ this
        exact absurd this.symm e
    · have hs := sumG_set (fun _ x => oneK x) 1 (List.replicate f.length 0) 0 n (by simpa using hj)
      rw [kraft_sumG, kraft_sumG, kraft_zeros, List.getElem_replicate, oneK_0] at hs
      rw [hs, h1]
      have : oneK 1 = 16384 := by decide
      rw [this]; rfl
  · have hsy := red_syms hT
    have hnd : (syms T).Nodup := hsy.nodup_iff.2 (initT_syms f).1
    have hmem : ∀ s, s ∈ syms T ↔ ∃ hs : s < f.length, 0 < f[s] := fun s => by rw [hsy.mem_iff]; exact initT_syms_mem
    have hlt : ∀ s ∈ syms T, s < (List.replicate f.length (0 : Int)).length := fun s hs => by rw [List.length_replicate]; exact ((hmem s).1 hs).1
    obtain ⟨l, r, rfl⟩ := red_node hT h1
    refine ⟨fun i hi hi' => ?_, fun _ => ?_, fun h => by omega⟩
    · by_cases hin : i ∈ syms (.node l r)
      · have hge : 1 ≤ (markL (.node l r) 0 (List.replicate f.length 0))[i]?.getD 0 := by
          rcases List.mem_append.1 (show i ∈ syms l ++ syms r from hin) with q | q
          · by_cases q2 : i ∈ syms r
            · have := mark_ge r (0 + 1) (markL l (0 + 1) (List.replicate f.length 0)) (fun s h => by rw [markL_length]; exact hlt s (by rw [syms]; exact List.mem_append_right _ h)) i q2
              rw [markL]; omega
            · have := mark_ge l (0 + 1) (List.replicate f.length 0) (fun s h => hlt s (by rw [syms]; exact List.mem_append_left _ h)) i q
              rw [markL, markL_other r _ _ i q2]; omega
          · have := mark_ge r (0 + 1) (markL l (0 + 1) (List.replicate f.length 0)) (fun s h => by rw [markL_length]; exact hlt s (by rw [syms]; exact List.mem_append_right _ h)) i q
            rw [markL]; omega
        rw [List.getElem?_eq_getElem hi', Option.getD_some] at hge
        obtain ⟨_, h0⟩ := (hmem i).1 hin
        exact ⟨⟨fun _ => h0, fun _ => by omega⟩, by omega⟩
      · have ho := markL_other (.node l r) 0 (List.replicate f.length 0) i hin
        rw [List.getElem?_eq_getElem hi', List.getElem?_replicate, if_pos hi] at ho
        injection ho with ho
        have hn : ¬ 0 < f[i] := fun h0 => hin ((hmem i).2 ⟨hi, h0⟩)
        rw [ho]
        exact ⟨⟨fun h => by omega, fun h => absurd h hn⟩, by omega⟩
    · have hz : ∀ s ∈ syms (.node l r), (List.replicate f.length (0 : Int))[s]? = some 0 := fun s hs => by
        rw [List.getElem?_replicate, if_pos ((hmem s).1 hs).1]
      have hd := mark_d15 (.node l r) 0 (List.replicate f.length 0) hnd hlt fun s hs => by
        have hsl : s < (markL (.node l r) 0 (List.replicate f.length 0)).length := by rw [markL_length]; exact hlt s hs
        rw [List.getElem?_eq_getElem hsl, Option.getD_some]
        exact hm _ (List.getElem_mem hsl)
      have hk := sumG_mark (fun _ x => oneK x) (.node l r) 0 (List.replicate f.length 0) hnd hz
      rw [kraft_sumG, kraft_sumG, kraft_zeros, gT] at hk
      have k1 := gT_kraft l 1 (by omega) hd.1
      have k2 := gT_kraft r 1 (by omega) hd.2
      have e14 : p2 (15 - 1) = 16384 := by decide
      rw [e14] at k1 k2
      rw [hk]
      have e : ((0 : Int) + 1) = ((1 : Nat) : Int) := by omega
      rw [e, k1, k2]; rfl
end Go.Proofs.Ytpkbbbdbcedkfaa
