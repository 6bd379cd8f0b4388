/- The plain law of trees that are put together: two least ones at a time. No program in sight. -/
import Derived.Test.YtpkbbbdbcedkfaaBitsP
namespace Go.Proofs.Ytpkbbbdbcedkfaa

/-- A symbol, or two trees that were put together. -/
inductive HT where
  | leaf (w : Int) (n : Nat)
  | node (l r : HT)

def wt : HT → Int
  | .leaf w _ => w
  | .node l r => wt l + wt r
def nm : HT → Nat
  | .leaf _ n => n
  | .node l r => min (nm l) (nm r)
def syms : HT → List Nat
  | .leaf _ n => [n]
  | .node l r => syms l ++ syms r
/-- Is a ahead of b? -/
def ltT (a b : HT) : Bool := decide (wt a < wt b ∨ (wt a = wt b ∧ nm a < nm b))
theorem ltT_iff {a b : HT} : ltT a b = true ↔ (wt a < wt b ∨ (wt a = wt b ∧ nm a < nm b)) := by simp [ltT]
theorem ltT_not {a b : HT} : ltT a b = false ↔ (wt b < wt a ∨ (wt a = wt b ∧ nm b ≤ nm a)) := by
  rw [ltT, decide_eq_false_iff_not]; omega
/-- b is not ahead of a. -/
def leT (a b : HT) : Prop := ltT b a = false
theorem leT_refl (a : HT) : leT a a := ltT_not.2 (by omega)
theorem leT_trans {a b c : HT} (h : leT a b) (k : leT b c) : leT a c := by
  have h1 := ltT_not.1 h
  have h2 := ltT_not.1 k
  exact ltT_not.2 (by omega)
theorem leT_of_lt {a b : HT} (h : ltT a b = true) : leT a b := by
  have := ltT_iff.1 h
  exact ltT_not.2 (by omega)
theorem leT_wt {a b : HT} (h : leT a b) : wt a ≤ wt b := by
  have := ltT_not.1 h; omega
theorem leT_antisymm {a b : HT} (h : leT a b) (k : leT b a) : nm a = nm b := by
  have h1 := ltT_not.1 h
  have h2 := ltT_not.1 k
  omega

/-- The trees F are put together to T. -/
inductive Red : List HT → HT → Prop where
  | one (t : HT) : Red [t] t
  | step {F : List HT} {a b : HT} {R : List HT} {T : HT} (hp : F.Perm (a :: b :: R)) (ha : ∀ x ∈ b :: R, leT a x) (hb : ∀ x ∈ R, leT b x) (h : Red (.node a b :: R) T) : Red F T

/-- No two trees have one number. -/
def Apart (F : List HT) : Prop := (F.map nm).Nodup
theorem apart_perm {F G : List HT} (h : F.Perm G) : Apart F → Apart G := (h.map nm).nodup_iff.1
theorem apart_node {a b : HT} {R : List HT} (h : Apart (a :: b :: R)) : Apart (.node a b :: R) := by
  unfold Apart at *
  simp only [List.map_cons, List.nodup_cons, List.mem_cons, not_or] at h ⊢
  obtain ⟨⟨h1, h2⟩, h3, h4⟩ := h
  refine ⟨?_, h4⟩
  rcases Nat.le_total (nm a) (nm b) with q | q
  · rw [show nm (.node a b) = nm a from Nat.min_eq_left q]; exact h2
  · rw [show nm (.node a b) = nm b from Nat.min_eq_right q]; exact h3
theorem apart_eq {F : List HT} (h : Apart F) {a b : HT} (ha : a ∈ F) (hb : b ∈ F) (e : nm a = nm b) : a = b := by
  unfold Apart at h
  induction F with
  | nil => cases ha
  | cons x F ih =>
    simp only [List.map_cons, List.nodup_cons, List.mem_map, not_exists, not_and] at h
    rcases List.mem_cons.1 ha with ha1 | ha1 <;> rcases List.mem_cons.1 hb with hb1 | hb1
    · rw [ha1, hb1]
    · rw [ha1] at e; exact absurd e.symm (h.1 _ hb1)
    · rw [hb1] at e; exact absurd e (h.1 _ ha1)
    · exact ih h.2 ha1 hb1
theorem least_eq {F : List HT} (h : Apart F) {a b : HT} (ha : a ∈ F) (hb : b ∈ F) (la : ∀ x ∈ F, leT a x) (lb : ∀ x ∈ F, leT b x) : a = b :=
  apart_eq h ha hb (leT_antisymm (la b hb) (lb a ha))

theorem least_all {a : HT} {G : List HT} (h : ∀ x ∈ G, leT a x) : ∀ x ∈ a :: G, leT a x := fun x hx => by
  rcases List.mem_cons.1 hx with rfl | hx
  · exact leT_refl _
  · exact h x hx
/-- What trees are put together to is told by the trees, in whatever order. -/
theorem red_det {F : List HT} {T : HT} (h : Red F T) : ∀ {G : List HT} {T' : HT}, F.Perm G → Apart F → Red G T' → T = T' := by
  induction h with
  | one t =>
    intro G T' hp _ h'
    obtain rfl := List.perm_singleton.1 hp.symm
    cases h' with
    | one => rfl
    | step hp2 => have := hp2.length_eq; simp at this
  | @step F a b R T hp ha hb h ih =>
    intro G T' hpg hap h'
    cases h' with
    | one t => have := (hp.symm.trans hpg).length_eq; simp at this
    | @step _ a' b' R' _ hp' ha' hb' h'' =>
      have hpp : (a :: b :: R).Perm (a' :: b' :: R') := hp.symm.trans (hpg.trans hp')
      have hA := apart_perm hp hap
      have hA' := apart_perm hpp hA
      have e1 : a = a' := least_eq hA (List.mem_cons_self ..) (hpp.mem_iff.2 (List.mem_cons_self ..)) (least_all ha) (fun x hx => least_all ha' x (hpp.mem_iff.1 hx))
      subst e1
      have hpp2 := hpp.cons_inv
      have hA2 : Apart (b :: R) := (List.nodup_cons.1 (show ((nm a) :: (b :: R).map nm).Nodup from hA)).2
      have e2 : b = b' := least_eq hA2 (List.mem_cons_self ..) (hpp2.mem_iff.2 (List.mem_cons_self ..)) (least_all hb) (fun x hx => least_all hb' x (hpp2.mem_iff.1 hx))
      subst e2
      exact ih (hpp2.cons_inv.cons _) (apart_node hA) h''
theorem red_perm {F G : List HT} {T : HT} (h : Red F T) (hp : G.Perm F) : Red G T := by
  cases h with
  | one t => obtain rfl := List.perm_singleton.1 hp; exact .one _
  | step hp2 ha hb h => exact .step (hp.trans hp2) ha hb h

/-- The depth of each symbol, laid into a list. -/
def markL : HT → Int → List Int → List Int
  | .leaf _ n, d, L => L.set n d
  | .node l r, d, L => markL r (d + 1) (markL l (d + 1) L)
theorem markL_length (t : HT) : ∀ d L, (markL t d L).length = L.length := by
  induction t with
  | leaf w n => intro d L; simp [markL]
  | node l r ihl ihr => intro d L; rw [markL, ihr, ihl]
theorem markL_other (t : HT) : ∀ d L s, s ∉ syms t → (markL t d L)[s]? = L[s]? := by
  induction t with
  | leaf w n =>
    intro d L s hs
    rw [markL, List.getElem?_set_ne]
    intro e; exact hs (by rw [syms, e]; exact List.mem_singleton.2 rfl)
  | node l r ihl ihr =>
    intro d L s hs
    rw [syms, List.mem_append, not_or] at hs
    rw [markL, ihr _ _ _ hs.2, ihl _ _ _ hs.1]

/-- Symbols that are there, as trees. -/
def initT (f : List Int) : List HT := (List.range f.length).filterMap fun i => if 0 < f[i]?.getD 0 then some (.leaf (f[i]?.getD 0) i) else none
theorem initT_mem {f : List Int} {t : HT} : t ∈ initT f ↔ ∃ i, ∃ hi : i < f.length, 0 < f[i] ∧ t = .leaf f[i] i := by
  unfold initT
  rw [List.mem_filterMap]
  constructor
  · rintro ⟨i, hi, h⟩
    have hi' := List.mem_range.1 hi
    rw [List.getElem?_eq_getElem hi', Option.getD_some] at h
    split at h
    · rename_i h0; injection h with h; exact ⟨i, hi', h0, h.symm⟩
    · cases h
  · rintro ⟨i, hi, h0, rfl⟩
    exact ⟨i, List.mem_range.2 hi, by rw [List.getElem?_eq_getElem hi, Option.getD_some, if_pos h0]⟩
/-- .. of the first k. -/
def initTo (f : List Int) (k : Nat) : List HT := (List.range k).filterMap fun i => if 0 < f[i]?.getD 0 then some (.leaf (f[i]?.getD 0) i) else none
theorem initTo_zero (f : List Int) : initTo f 0 = [] := rfl
theorem initTo_all (f : List Int) : initTo f f.length = initT f := rfl
theorem initTo_yes {f : List Int} {k : Nat} (hk : k < f.length) (h : 0 < f[k]) : initTo f (k + 1) = initTo f k ++ [.leaf f[k] k] := by
  unfold initTo
  rw [List.range_succ, List.filterMap_append]
  simp [List.getElem?_eq_getElem hk, h]
theorem initTo_no {f : List Int} {k : Nat} (hk : k < f.length) (h : ¬ 0 < f[k]) : initTo f (k + 1) = initTo f k := by
  unfold initTo
  rw [List.range_succ, List.filterMap_append]
  simp [List.getElem?_eq_getElem hk, h]
theorem initTo_le (f : List Int) (k : Nat) : (initTo f k).length ≤ k := by
  unfold initTo
  have := List.length_filterMap_le (fun i => if 0 < f[i]?.getD 0 then some (HT.leaf (f[i]?.getD 0) i) else none) (List.range k)
  rwa [List.length_range] at this
theorem initTo_syms (f : List Int) : ∀ k, ((initTo f k).flatMap syms).Nodup ∧ ∀ s ∈ (initTo f k).flatMap syms, s < k := by
  intro k
  induction k with
  | zero => exact ⟨List.nodup_nil, fun s hs => by cases hs⟩
  | succ k ih =>
    have e : initTo f (k + 1) = initTo f k ++ (if 0 < f[k]?.getD 0 then [.leaf (f[k]?.getD 0) k] else []) := by
      unfold initTo
      rw [List.range_succ, List.filterMap_append]
      by_cases h : 0 < f[k]?.getD 0 <;> simp [h]
    rw [e, List.flatMap_append]
    by_cases h : 0 < f[k]?.getD 0
    · rw [if_pos h]
      have e2 : ([HT.leaf (f[k]?.getD 0) k]).flatMap syms = [k] := rfl
      rw [e2]
      refine ⟨List.nodup_append.2 ⟨ih.1, by simp, fun a ha b hb => ?_⟩, fun s hs => ?_⟩
      · rw [List.mem_singleton.1 hb]; have := ih.2 a ha; omega
      · rcases List.mem_append.1 hs with h | h
        · have := ih.2 s h; omega
        · rw [List.mem_singleton.1 h]; omega
    · rw [if_neg h]
      simp only [List.flatMap_nil, List.append_nil]
      exact ⟨ih.1, fun s hs => by have := ih.2 s hs; omega⟩
theorem initT_syms (f : List Int) : ((initT f).flatMap syms).Nodup ∧ ∀ s ∈ (initT f).flatMap syms, s < f.length := initTo_syms f f.length
theorem initT_nm (f : List Int) : (initT f).map nm = (initT f).flatMap syms := by
  have : ∀ G : List HT, (∀ t ∈ G, ∃ w n, t = .leaf w n) → G.map nm = G.flatMap syms := by
    intro G
    induction G with
    | nil => intro _; rfl
    | cons t G ih =>
      intro h
      obtain ⟨w, n, rfl⟩ := h t (List.mem_cons_self ..)
      rw [List.map_cons, List.flatMap_cons, ih (fun t ht => h t (List.mem_cons_of_mem _ ht))]
      rfl
  exact this _ fun t ht => by obtain ⟨i, _, _, rfl⟩ := initT_mem.1 ht; exact ⟨_, _, rfl⟩
theorem initT_apart (f : List Int) : Apart (initT f) := by
  unfold Apart; rw [initT_nm]; exact (initT_syms f).1

theorem flat_perm {F G : List HT} (h : F.Perm G) : (F.flatMap syms).Perm (G.flatMap syms) := h.flatMap_right syms
theorem flat_node (a b : HT) (R : List HT) : (HT.node a b :: R).flatMap syms = (a :: b :: R).flatMap syms := by simp [syms]
/-- The symbols of what is put together are those of the trees. -/
theorem red_syms {F : List HT} {T : HT} (h : Red F T) : (syms T).Perm (F.flatMap syms) := by
  induction h with
  | one t => simp
  | step hp _ _ _ ih =>
    rw [flat_node] at ih
    exact ih.trans (flat_perm hp).symm
theorem red_node {F : List HT} {T : HT} (h : Red F T) (h2 : 2 ≤ F.length) : ∃ l r, T = .node l r := by
  have key : ∀ {F : List HT} {T : HT}, Red F T → (∀ t ∈ F, True) → (2 ≤ F.length ∨ ∃ l r, F = [.node l r]) → ∃ l r, T = .node l r := by
    intro F T h
    induction h with
    | one t =>
      intro _ h
      rcases h with h | ⟨l, r, h⟩
      · simp at h
      · injection h with h _; exact ⟨l, r, h⟩
    | @step F a b R T hp _ _ _ ih =>
      intro _ _
      apply ih (fun _ _ => trivial)
      rcases R with _ | ⟨c, R⟩
      · right; exact ⟨a, b, rfl⟩
      · left; simp
  exact key h (fun _ _ => trivial) (Or.inl h2)

/-- What f, put together once, gives: the depths of the symbols. -/
def OnceR (f L : List Int) : Prop :=
  (initT f = [] ∧ L = List.replicate f.length 0) ∨ (∃ w n, initT f = [.leaf w n] ∧ L = (List.replicate f.length 0).set n 1) ∨
  (2 ≤ (initT f).length ∧ ∃ T, Red (initT f) T ∧ L = markL T 0 (List.replicate f.length 0))
theorem onceR_length {f L : List Int} (h : OnceR f L) : L.length = f.length := by
  rcases h with ⟨_, rfl⟩ | ⟨_, _, _, rfl⟩ | ⟨_, _, _, rfl⟩
  · simp
  · simp
  · rw [markL_length]; simp
theorem onceR_det {f L L' : List Int} (h : OnceR f L) (h' : OnceR f L') : L = L' := by
  rcases h with ⟨h1, rfl⟩ | ⟨w, n, h1, rfl⟩ | ⟨h1, T, hT, rfl⟩ <;> rcases h' with ⟨k1, rfl⟩ | ⟨w', n', k1, rfl⟩ | ⟨k1, T', hT', rfl⟩
  · rfl
  · rw [h1] at k1; cases k1
  · rw [h1] at k1; simp at k1
  · rw [h1] at k1; cases k1
  · rw [h1] at k1; injection k1 with k1 _; injection k1 with _ k2; rw [k2]
  · rw [h1] at k1; simp at k1
  · rw [k1] at h1; simp at h1
  · rw [k1] at h1; simp at h1
  · rw [red_det hT (List.Perm.refl _) (initT_apart f) hT']
end Go.Proofs.Ytpkbbbdbcedkfaa
