/- Plain laws on lengths: of two symbols the one that is there more often has no longer code; symbols that are not there change nothing; once more often does not cost less. No program in sight. -/
import Derived.Test.YtpkbbbdbcedkfaaHufY
namespace Go.Proofs.Ytpkbbbdbcedkfaa

theorem once_fits {f L : List Int} (h : OnceR f L) (hd : maxOk L) (hf : ∀ x ∈ f, 0 ≤ x) : Fits f L := by
  obtain ⟨h1, h2, h3⟩ := once_full h hd hf
  have hl := onceR_length h
  refine ⟨hl, fun x hx => ?_, fun i hi hi' h0 => (h1 i hi hi').1.2 h0, ?_⟩
  · obtain ⟨i, hi, rfl⟩ := List.getElem_of_mem hx
    exact ⟨(h1 i (by rw [← hl]; exact hi) hi).2, hd _ hx⟩
  · by_cases hn : 2 ≤ (initT f).length
    · rw [h2 hn]; exact Int.le_refl _
    · rw [h3 (by omega)]; omega
theorem sum_swap (g : Nat → Int → Int) (L : List Int) (a b : Nat) (ha : a < L.length) (hb : b < L.length) (hab : a ≠ b) :
    sumG g 0 ((L.set a L[b]).set b L[a]) = sumG g 0 L + g a L[b] - g a L[a] + g b L[a] - g b L[b] := by
  have h1 := sumG_set g L[a] (L.set a L[b]) 0 b (by rw [List.length_set]; exact hb)
  have h2 := sumG_set g L[b] L 0 a ha
  have e : (L.set a L[b])[b]'(by rw [List.length_set]; exact hb) = L[b] := by rw [List.getElem_set_ne hab]
  rw [e] at h1
  rw [h1, h2]
  simp only [Nat.zero_add]
theorem rare_law {f L : List Int} (h : OnceR f L) (hd : maxOk L) (hf : ∀ x ∈ f, 0 ≤ x) {a b : Nat} (ha : a < f.length) (hb : b < f.length) (h1 : f[b] < f[a]) (h2 : 0 < f[b]) (ha' : a < L.length) (hb' : b < L.length) : L[a] ≤ L[b] := by
  apply Classical.byContradiction
  intro hlt
  have hab : a ≠ b := fun e => by subst e; omega
  obtain ⟨p1, p2, p3, p4⟩ := once_fits h hd hf
  have hk := sum_swap (fun _ x => oneK x) L a b ha' hb' hab
  rw [kraft_sumG, kraft_sumG] at hk
  have hfit : Fits f ((L.set a L[b]).set b L[a]) := by
    refine ⟨by rw [List.length_set, List.length_set]; exact p1, fun x hx => ?_, fun i hi hi' h0 => ?_, by omega⟩
    · rcases List.mem_or_eq_of_mem_set hx with hx | rfl
      · rcases List.mem_or_eq_of_mem_set hx with hx | rfl
        · exact p2 x hx
        · exact p2 _ (List.getElem_mem hb')
      · exact p2 _ (List.getElem_mem ha')
    · rw [List.getElem_set]
      by_cases e : b = i
      · subst e; rw [if_pos rfl]; exact p3 a ha ha' (by omega)
      · rw [if_neg e, List.getElem_set]
        by_cases e : a = i
        · subst e; rw [if_pos rfl]; exact p3 b hb hb' h2
        · rw [if_neg e]; exact p3 i hi (by simpa using hi') h0
  have hc := once_least h hf hfit
  have hs := sum_swap (fun i x => f[i]?.getD 0 * x) L a b ha' hb' hab
  unfold costL at hc
  rw [hs] at hc
  simp only [List.getElem?_eq_getElem ha, List.getElem?_eq_getElem hb, Option.getD_some] at hc
  have hp : 0 < (f[a] - f[b]) * (L[a] - L[b]) := Int.mul_pos (by omega) (by omega)
  have he : (f[a] - f[b]) * (L[a] - L[b]) = f[a] * L[a] - f[a] * L[b] - (f[b] * L[a] - f[b] * L[b]) := by rw [Int.sub_mul, Int.mul_sub, Int.mul_sub]
  omega

theorem initT_zero (f : List Int) : initT (f ++ [0]) = initT f := by
  have e : ∀ k, k ≤ f.length → initTo (f ++ [0]) k = initTo f k := by
    intro k
    induction k with
    | zero => intro _; rfl
    | succ k ih =>
      intro hk
      have hlt : k < f.length := by omega
      have hlt' : k < (f ++ [0]).length := by simp; omega
      have he : (f ++ [0])[k] = f[k] := List.getElem_append_left hlt
      by_cases h0 : 0 < f[k]
      · rw [initTo_yes hlt' (by rw [he]; exact h0), initTo_yes hlt h0, ih (by omega), he]
      · rw [initTo_no hlt' (by rw [he]; exact h0), initTo_no hlt h0, ih (by omega)]
  have hl : (f ++ [0]).length = f.length + 1 := by simp
  have h2 : initTo (f ++ [0]) (f.length + 1) = initTo (f ++ [0]) f.length := initTo_no (by omega) (by simp)
  rw [← initTo_all, hl, h2, e f.length (Nat.le_refl _), initTo_all]
theorem markL_zero (t : HT) : ∀ (d : Int) (L : List Int), (∀ s ∈ syms t, s < L.length) → markL t d (L ++ [0]) = markL t d L ++ [0] := by
  induction t with
  | leaf w n =>
    intro d L h
    rw [markL, markL, List.set_append_left _ _ (h n (by simp [syms]))]
  | node l r ihl ihr =>
    intro d L h
    rw [markL, markL, ihl (d + 1) L (fun s hs => h s (by rw [syms]; exact List.mem_append_left _ hs)), ihr (d + 1) _ (fun s hs => by rw [markL_length]; exact h s (by rw [syms]; exact List.mem_append_right _ hs))]
theorem once_zero {f L : List Int} (h : OnceR f L) : OnceR (f ++ [0]) (L ++ [0]) := by
  have hr : List.replicate (f ++ [0]).length (0 : Int) = List.replicate f.length 0 ++ [0] := by
    rw [List.length_append, List.length_singleton, List.replicate_succ']
  rcases h with ⟨h1, rfl⟩ | ⟨w, n, h1, rfl⟩ | ⟨h1, T, hT, rfl⟩
  · exact Or.inl ⟨by rw [initT_zero, h1], hr.symm⟩
  · refine Or.inr (Or.inl ⟨w, n, by rw [initT_zero, h1], ?_⟩)
    obtain ⟨j, hj, h0, he⟩ := initT_mem.1 (show HT.leaf w n ∈ initT f by rw [h1]; exact List.mem_singleton.2 rfl)
    injection he with e1 e2
    subst e2
    rw [hr, List.set_append_left _ _ (by rw [List.length_replicate]; exact hj)]
  · refine Or.inr (Or.inr ⟨by rw [initT_zero]; exact h1, T, by rw [initT_zero]; exact hT, ?_⟩)
    rw [hr, markL_zero T 0 _ (fun s hs => by rw [List.length_replicate]; exact (initT_syms f).2 s ((red_syms hT).mem_iff.1 hs))]
theorem maxOk_zero {L : List Int} : maxOk (L ++ [0]) ↔ maxOk L := by
  unfold maxOk
  constructor
  · intro h x hx; exact h x (List.mem_append_left _ hx)
  · intro h x hx
    rcases List.mem_append.1 hx with hx | hx
    · exact h x hx
    · rw [List.mem_singleton.1 hx]; omega
theorem lensR_zero {f L : List Int} (h : LensR f L) : LensR (f ++ [0]) (L ++ [0]) := by
  induction h with
  | stop h hm => exact .stop (once_zero h) (maxOk_zero.2 hm)
  | @halve f L0 L h hd _ ih =>
    refine .halve (once_zero h) (fun q => hd (maxOk_zero.1 q)) ?_
    have e : halve (f ++ [0]) = halve f ++ [0] := by simp [halve]
    rw [e]; exact ih

theorem sumG_le (g h : Nat → Int → Int) : ∀ (l : List Int) (k : Nat), (∀ i, ∀ x ∈ l, g i x ≤ h i x) → sumG g k l ≤ sumG h k l := by
  intro l
  induction l with
  | nil => intro k _; exact Int.le_refl _
  | cons x l ih =>
    intro k hl
    have h1 := ih (k + 1) (fun i y hy => hl i y (List.mem_cons_of_mem _ hy))
    have h2 := hl k x (List.mem_cons_self ..)
    simp only [sumG]; omega
theorem steps_law {f g Lf Lg : List Int} (hf : OnceR f Lf) (hg : OnceR g Lg) (hd : maxOk Lg) (hf0 : ∀ x ∈ f, 0 ≤ x) (hlen : g.length = f.length) (hge : ∀ i (hi : i < f.length) (hi' : i < g.length), f[i] ≤ g[i]) : costL f Lf ≤ costL g Lg := by
  have hg0 : ∀ x ∈ g, 0 ≤ x := fun x hx => by
    obtain ⟨i, hi, rfl⟩ := List.getElem_of_mem hx
    have h1 := hge i (by omega) hi
    have h2 := hf0 _ (List.getElem_mem (show i < f.length by omega))
    omega
  obtain ⟨p1, p2, p3, p4⟩ := once_fits hg hd hg0
  refine Int.le_trans (once_least hf hf0 (l := Lg) ⟨by omega, p2, fun i hi hi' h0 => p3 i (by omega) hi' (by have := hge i hi (by omega); omega), p4⟩) ?_
  refine sumG_le _ _ _ _ fun i x hx => ?_
  have hx0 := (p2 x hx).1
  refine Int.mul_le_mul_of_nonneg_right ?_ hx0
  by_cases hi : i < f.length
  · rw [List.getElem?_eq_getElem hi, List.getElem?_eq_getElem (show i < g.length by omega), Option.getD_some, Option.getD_some]; exact hge i hi _
  · rw [List.getElem?_eq_none (by omega), List.getElem?_eq_none (by omega)]; exact Int.le_refl _
end Go.Proofs.Ytpkbbbdbcedkfaa
