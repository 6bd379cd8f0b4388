/- Plain: what Put, Cut, Get, Walk do to rising pairs. -/
import Derived.Test.YtdlgpcjdaaeliaaTreQ
import Derived.Test.YtdlgpcjdaaeliaaTreZa
namespace Go.Proofs.Ytdlgpcjdaaeliaa
open Go.RowKit

abbrev RiseP (l : List (Int × Int)) : Prop := (keysP l).Pairwise (· < ·)
theorem rise_cons {p : Int × Int} {l : List (Int × Int)} (h : RiseP (p :: l)) : (∀ q ∈ l, p.1 < q.1) ∧ RiseP l := by
  unfold RiseP keysP at h
  rw [List.map_cons, List.pairwise_cons] at h
  exact ⟨fun q hq => h.1 _ (List.mem_map_of_mem hq), h.2⟩
theorem rise_mk {p : Int × Int} {l : List (Int × Int)} (h : ∀ q ∈ l, p.1 < q.1) (hl : RiseP l) : RiseP (p :: l) := by
  unfold RiseP keysP
  rw [List.map_cons, List.pairwise_cons]
  refine ⟨fun k hk => ?_, hl⟩
  obtain ⟨q, hq, rfl⟩ := List.mem_map.1 hk
  exact h q hq
theorem rise_cut {l : List (Int × Int)} (h : RiseP l) (k : Int) : RiseP (cutP l k) := by
  unfold RiseP keysP cutP at *
  exact List.Pairwise.sublist (List.Sublist.map _ List.filter_sublist) h
theorem putR_true (k v : Int) : ∀ (l : List (Int × Int)), putR k v l true = cutP l k
  | [] => rfl
  | x :: l => by
    rw [putR, Bool.true_or, putR_true k v l]
    unfold cutP
    by_cases h : x.1 = k
    · simp [h]
    · simp [h]
theorem cutP_cons_hit {x : Int × Int} {l : List (Int × Int)} {k : Int} (h : x.1 = k) : cutP (x :: l) k = cutP l k := by
  unfold cutP; rw [List.filter_cons]; simp [h]
theorem cutP_cons_miss {x : Int × Int} {l : List (Int × Int)} {k : Int} (h : x.1 ≠ k) : cutP (x :: l) k = x :: cutP l k := by
  unfold cutP; rw [List.filter_cons]; simp [h]
theorem putP_high {x : Int × Int} {l : List (Int × Int)} {k : Int} (v : Int) (h : k ≤ x.1) : putP (x :: l) k v = (k, v) :: cutP (x :: l) k := by
  unfold putP
  rw [putR, Bool.false_or, decide_eq_true h, putR_true, if_pos ⟨rfl, h⟩]
  by_cases hx : x.1 = k
  · rw [cutP_cons_hit hx, if_neg (fun h => h hx)]; rfl
  · rw [cutP_cons_miss hx, if_pos hx]; rfl
theorem putP_low {x : Int × Int} {l : List (Int × Int)} {k : Int} (v : Int) (h : x.1 < k) : putP (x :: l) k v = x :: putP l k v := by
  unfold putP
  rw [putR, Bool.false_or, decide_eq_false (by omega), if_neg (fun h' => by have := h'.2; omega), if_pos (by omega)]
  rfl
theorem plS_shift (k : Int) : ∀ (l : List (Int × Int)) (n m d : Nat), l.foldl (plS k) (n + d, m + d) = ((l.foldl (plS k) (n, m)).1 + d, (l.foldl (plS k) (n, m)).2 + d)
  | [], _, _, _ => rfl
  | p :: l, n, m, d => by
    rw [List.foldl_cons, List.foldl_cons]
    by_cases h : p.1 = k
    · rw [plS, if_pos h, plS, if_pos h, plS_shift k l]
    · by_cases h2 : p.1 < k
      · rw [plS, if_neg h, plS, if_neg h, if_pos h2, if_pos h2]
        simp only
        rw [show n + d + 1 = n + 1 + d by omega, plS_shift k l]
      · rw [plS, if_neg h, plS, if_neg h, if_neg h2, if_neg h2]
        simp only
        rw [show n + d + 1 = n + 1 + d by omega, plS_shift k l]
theorem plS_high (k : Int) : ∀ (l : List (Int × Int)) (s : Nat × Nat), (∀ q ∈ l, ¬ q.1 < k) → (l.foldl (plS k) s).2 = s.2
  | [], _, _ => rfl
  | p :: l, s, h => by
    rw [List.foldl_cons, plS_high k l _ (fun q hq => h q (List.mem_cons_of_mem _ hq))]
    unfold plS
    split
    · rfl
    · rw [if_neg (h p List.mem_cons_self)]
theorem betw_put (k v : Int) : ∀ (l : List (Int × Int)), RiseP l → betw (cutP l k) (plc l k) (k, v) = putP l k v
  | [], _ => rfl
  | x :: l, h => by
    obtain ⟨h1, h2⟩ := rise_cons h
    by_cases hx : x.1 < k
    · rw [putP_low v hx, cutP_cons_miss (by omega), ← betw_put k v l h2]
      have hp : plc (x :: l) k = plc l k + 1 := by
        unfold plc
        rw [List.foldl_cons, plS, if_neg (by omega), if_pos hx]
        exact congrArg Prod.snd (plS_shift k l 0 0 1)
      rw [hp]
      unfold betw
      rw [List.take_succ_cons, List.drop_succ_cons]
      rfl
    · rw [putP_high v (by omega)]
      have hp : plc (x :: l) k = 0 := plS_high k (x :: l) (0, 0) (fun q hq => by
        rcases List.mem_cons.1 hq with rfl | hq
        · exact hx
        · have := h1 q hq; omega)
      rw [hp]
      unfold betw
      rw [List.take_zero, List.drop_zero]
      rfl
theorem cut_mem {l : List (Int × Int)} {k : Int} {q : Int × Int} (h : q ∈ cutP l k) : q ∈ l ∧ q.1 ≠ k := by
  unfold cutP at h
  obtain ⟨h1, h2⟩ := List.mem_filter.1 h
  exact ⟨h1, by simpa using h2⟩
theorem put_mem (k v : Int) : ∀ (l : List (Int × Int)) (q : Int × Int), q ∈ putP l k v → q = (k, v) ∨ q ∈ l
  | [], q, h => Or.inl (by simpa [putP, putR] using h)
  | x :: l, q, h => by
    by_cases hx : x.1 < k
    · rw [putP_low v hx] at h
      rcases List.mem_cons.1 h with rfl | h
      · exact Or.inr List.mem_cons_self
      · rcases put_mem k v l q h with h | h
        · exact Or.inl h
        · exact Or.inr (List.mem_cons_of_mem _ h)
    · rw [putP_high v (by omega)] at h
      rcases List.mem_cons.1 h with rfl | h
      · exact Or.inl rfl
      · exact Or.inr (cut_mem h).1
theorem rise_put (k v : Int) : ∀ (l : List (Int × Int)), RiseP l → RiseP (putP l k v)
  | [], _ => by unfold RiseP keysP putP putR; simp
  | x :: l, h => by
    obtain ⟨h1, h2⟩ := rise_cons h
    by_cases hx : x.1 < k
    · rw [putP_low v hx]
      refine rise_mk (fun q hq => ?_) (rise_put k v l h2)
      rcases put_mem k v l q hq with rfl | hq
      · exact hx
      · exact h1 q hq
    · rw [putP_high v (by omega)]
      refine rise_mk (fun q hq => ?_) (rise_cut h k)
      obtain ⟨hq, hne⟩ := cut_mem hq
      rcases List.mem_cons.1 hq with rfl | hq
      · simp only; omega
      · have := h1 q hq; simp only; omega
theorem put_len (l : List (Int × Int)) (k v : Int) : (putP l k v).length ≤ l.length + 1 := putR_len k v l false
theorem get_put (k v : Int) : ∀ (l : List (Int × Int)), getP (putP l k v) k = some v
  | [] => by unfold putP putR getP; simp
  | x :: l => by
    by_cases hx : x.1 < k
    · rw [putP_low v hx, getP, if_neg (by omega), get_put k v l]
    · rw [putP_high v (by omega), getP, if_pos rfl]
theorem cut_cut (l : List (Int × Int)) (k : Int) : cutP (cutP l k) k = cutP l k := by
  unfold cutP; rw [List.filter_filter]; simp
theorem cut_put (k v : Int) : ∀ (l : List (Int × Int)), cutP (putP l k v) k = cutP l k
  | [] => by unfold putP putR cutP; simp
  | x :: l => by
    by_cases hx : x.1 < k
    · rw [putP_low v hx, cutP_cons_miss (by omega), cut_put k v l, cutP_cons_miss (by omega)]
    · rw [putP_high v (by omega), cutP_cons_hit rfl, cut_cut]
theorem has_get (k : Int) : ∀ (l : List (Int × Int)), cutHas l k = (getP l k).isSome
  | [] => rfl
  | x :: l => by
    rw [cutHas, List.any_cons, getP]
    by_cases hx : x.1 = k
    · rw [if_pos hx]; simp [hx]
    · rw [if_neg hx, ← has_get k l, cutHas]; simp [hx]
theorem get_mem : ∀ (l : List (Int × Int)), RiseP l → ∀ p ∈ l, getP l p.1 = some p.2
  | [], _, p, hp => by cases hp
  | x :: l, h, p, hp => by
    obtain ⟨h1, h2⟩ := rise_cons h
    rw [getP]
    rcases List.mem_cons.1 hp with rfl | hp
    · rw [if_pos rfl]
    · rw [if_neg (by have := h1 p hp; omega)]
      exact get_mem l h2 p hp
theorem walk_none {l : List (Int × Int)} {a b : Int} (h : ∀ q ∈ l, b ≤ q.1) : walkP l a b = [] := by
  unfold walkP
  rw [List.filter_eq_nil_iff]
  intro q hq
  have := h q hq
  simp; omega
theorem walk_split {a b c : Int} (hab : a ≤ b) (hbc : b ≤ c) : ∀ (l : List (Int × Int)), RiseP l → walkP l a b ++ walkP l b c = walkP l a c
  | [], _ => rfl
  | x :: l, h => by
    obtain ⟨h1, h2⟩ := rise_cons h
    have ih := walk_split hab hbc l h2
    by_cases hx : x.1 < b
    · unfold walkP at *
      rw [List.filter_cons, List.filter_cons, List.filter_cons, ← ih]
      by_cases ha : a ≤ x.1
      · rw [if_pos (by simp; omega), if_neg (by simp; omega), if_pos (by simp; omega)]; rfl
      · rw [if_neg (by simp; omega), if_neg (by simp; omega), if_neg (by simp; omega)]
    · rw [walk_none (l := x :: l) (a := a) (b := b) (fun q hq => by
        rcases List.mem_cons.1 hq with rfl | hq
        · omega
        · have := h1 q hq; omega), List.nil_append]
      unfold walkP
      apply List.filter_congr
      intro q hq
      have hq : b ≤ q.1 := by
        rcases List.mem_cons.1 hq with rfl | hq
        · omega
        · have := h1 q hq; omega
      rw [decide_eq_true hq, decide_eq_true (show a ≤ q.1 by omega)]
theorem walk_mem {l : List (Int × Int)} {a b : Int} {p : Int × Int} (h : p ∈ walkP l a b) : p ∈ l ∧ a ≤ p.1 ∧ p.1 < b := by
  unfold walkP at h
  obtain ⟨h1, h2⟩ := List.mem_filter.1 h
  simp at h2
  exact ⟨h1, h2⟩
theorem walk_len (l : List (Int × Int)) (a b : Int) : (walkP l a b).length ≤ l.length := List.length_filter_le _ _
/-- What Put makes. -/
theorem put_ok {t : Tr} (h : mayT16 t = true) (hl : (pairsT t).length ≤ 999999) (k v : Int) :
    mayT16 (putTr t k v) = true ∧ pairsT (putTr t k v) = putP (pairsT t) k v := by
  obtain ⟨_, _, hr⟩ := may_parts h
  unfold putTr
  rw [if_pos h, betw_put k v _ hr]
  exact bldT_ok (by have := put_len (pairsT t) k v; omega) (rise_put k v _ hr)
theorem cut_ok {t : Tr} (h : mayT16 t = true) (hl : (pairsT t).length ≤ 1000000) (k : Int) (hk : getP (pairsT t) k ≠ none) :
    mayT16 (cutTr t k) = true ∧ pairsT (cutTr t k) = cutP (pairsT t) k := by
  obtain ⟨_, _, hr⟩ := may_parts h
  have hh : cutHas (pairsT t) k = true := by
    rw [has_get]
    cases hg : getP (pairsT t) k with
    | none => exact absurd hg hk
    | some _ => rfl
  unfold cutTr
  rw [if_pos ⟨h, hh⟩]
  exact bldT_ok (by have := cutP_len (pairsT t) k; omega) (rise_cut hr k)
theorem cutOk_eq {t : Tr} (h : mayT16 t = true) (k : Int) : cutOk t k = (getP (pairsT t) k).isSome := by
  unfold cutOk; rw [h, has_get]; rfl
theorem gotT_eq {t : Tr} (h : mayT16 t = true) (k : Int) : gotT t k = getP (pairsT t) k := by unfold gotT; rw [if_pos h]
theorem walkT_eq {t : Tr} (h : mayT16 t = true) (a b : Int) : walkT t a b = walkP (pairsT t) a b := by unfold walkT; rw [if_pos h]
end Go.Proofs.Ytdlgpcjdaaeliaa
