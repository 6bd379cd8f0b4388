/- The plain law of costs: no lengths cost less. No program in sight. -/
import Derived.Test.YtpkbbbdbcedkfaaHufO
namespace Go.Proofs.Ytpkbbbdbcedkfaa

/-- Trees with lengths: what they take; what they cost. -/
def krP (P : List (HT × Nat)) : Int := (P.map fun q => p2 (15 - q.2)).sum
def coP (P : List (HT × Nat)) : Int := (P.map fun q => wt q.1 * q.2).sum
theorem krP_cons (q : HT × Nat) (P : List (HT × Nat)) : krP (q :: P) = p2 (15 - q.2) + krP P := by simp [krP]
theorem coP_cons (q : HT × Nat) (P : List (HT × Nat)) : coP (q :: P) = wt q.1 * q.2 + coP P := by simp [coP]
theorem sum_perm {l m : List Int} (h : l.Perm m) : l.sum = m.sum := by
  induction h with
  | nil => rfl
  | cons x _ ih => simp only [List.sum_cons, ih]
  | swap x y l => simp only [List.sum_cons]; omega
  | trans _ _ ih1 ih2 => exact ih1.trans ih2
theorem krP_perm {P Q : List (HT × Nat)} (h : P.Perm Q) : krP P = krP Q := sum_perm (h.map _)
theorem coP_perm {P Q : List (HT × Nat)} (h : P.Perm Q) : coP P = coP Q := sum_perm (h.map _)
theorem krP_nonneg (P : List (HT × Nat)) : 0 ≤ krP P := by
  induction P with
  | nil => exact Int.le_refl _
  | cons q P ih => have := p2_pos (15 - q.2); rw [krP_cons]; omega
/-- A list in another order, with what hangs on it. -/
theorem perm_lift {α β : Type} {f : α → β} {l m : List β} (h : l.Perm m) : ∀ {P : List α}, P.map f = l → ∃ Q : List α, P.Perm Q ∧ Q.map f = m := by
  induction h with
  | nil => intro P hP; exact ⟨P, List.Perm.refl _, hP⟩
  | cons x _ ih =>
    intro P hP
    cases P with
    | nil => cases hP
    | cons q P =>
      injection hP with h1 h2
      obtain ⟨Q, hQ, hm⟩ := ih h2
      exact ⟨q :: Q, hQ.cons q, by rw [List.map_cons, h1, hm]⟩
  | swap x y l =>
    intro P hP
    cases P with
    | nil => cases hP
    | cons q P =>
      injection hP with h1 h2
      cases P with
      | nil => cases h2
      | cons r P =>
        injection h2 with h2 h3
        exact ⟨r :: q :: P, List.Perm.swap _ _ _, by rw [List.map_cons, List.map_cons, h1, h2, h3]⟩
  | trans _ _ ih1 ih2 =>
    intro P hP
    obtain ⟨Q, hQ, hm⟩ := ih1 hP
    obtain ⟨R, hR, hn⟩ := ih2 hm
    exact ⟨R, hQ.trans hR, hn⟩

theorem swap_cost {x y a b : Int} (hxy : x ≤ y) (hab : a ≤ b) : x * b + y * a ≤ x * a + y * b := by
  have h : 0 ≤ (y - x) * (b - a) := Int.mul_nonneg (by omega) (by omega)
  have e : (y - x) * (b - a) = y * b - y * a - x * b + x * a := by
    rw [Int.sub_mul, Int.mul_sub, Int.mul_sub]; omega
  omega
/-- The lightest one may have the greatest length. -/
theorem swap_max (x : Int) : ∀ (Q : List (HT × Nat)) (e : Nat), (∀ q ∈ Q, x ≤ wt q.1) →
    ∃ (e' : Nat) (Q' : List (HT × Nat)), Q'.map Prod.fst = Q.map Prod.fst ∧ (∀ q ∈ Q', q.2 ≤ e') ∧ p2 (15 - e') + krP Q' = p2 (15 - e) + krP Q ∧ x * e' + coP Q' ≤ x * e + coP Q ∧ (∀ M, e ≤ M → (∀ q ∈ Q, q.2 ≤ M) → e' ≤ M) := by
  intro Q
  induction Q with
  | nil => intro e _; exact ⟨e, [], rfl, fun q hq => (by cases hq), rfl, Int.le_refl _, fun M h _ => h⟩
  | cons q Q ih =>
    intro e hx
    obtain ⟨e1, Q1, h1, h2, h3, h4, h5⟩ := ih e fun r hr => hx r (List.mem_cons_of_mem _ hr)
    have hq := hx q (List.mem_cons_self ..)
    rw [krP_cons, coP_cons]
    by_cases h : q.2 ≤ e1
    · refine ⟨e1, q :: Q1, by rw [List.map_cons, List.map_cons, h1], fun r hr => ?_, by rw [krP_cons]; omega, by rw [coP_cons]; omega, fun M hM hQ => h5 M hM fun r hr => hQ r (List.mem_cons_of_mem _ hr)⟩
      rcases List.mem_cons.1 hr with rfl | hr
      · exact h
      · exact h2 r hr
    · refine ⟨q.2, (q.1, e1) :: Q1, by rw [List.map_cons, List.map_cons, h1], fun r hr => ?_, by rw [krP_cons]; show p2 (15 - q.2) + (p2 (15 - e1) + krP Q1) = _; omega, ?_, fun M _ hQ => hQ q (List.mem_cons_self ..)⟩
      · rcases List.mem_cons.1 hr with rfl | hr
        · show e1 ≤ q.2; omega
        · have := h2 r hr; omega
      · rw [coP_cons]
        have := swap_cost (x := x) (y := wt q.1) (a := (e1 : Int)) (b := (q.2 : Int)) hq (by omega)
        show x * (q.2 : Int) + (wt q.1 * (e1 : Int) + coP Q1) ≤ _
        omega
/-- A multiple of a power. -/
theorem kr_mult (e : Nat) : ∀ (P : List (HT × Nat)), e ≤ 15 → (∀ q ∈ P, q.2 ≤ e) → ∃ m : Int, krP P = m * p2 (15 - e) := by
  intro P
  induction P with
  | nil => intro _ _; exact ⟨0, by simp [krP]⟩
  | cons q P ih =>
    intro he hP
    obtain ⟨m, hm⟩ := ih he fun r hr => hP r (List.mem_cons_of_mem _ hr)
    have hq := hP q (List.mem_cons_self ..)
    refine ⟨p2 (e - q.2) + m, ?_⟩
    rw [krP_cons, hm, Int.add_mul, ← p2_add]
    congr 2
    omega
theorem p2_15' : p2 15 = 32768 := by decide
/-- Two least ones put together: lengths for what is then there, that cost so much less. -/
theorem merge_len {a b : HT} {PR : List (HT × Nat)} {ea eb : Nat} (ha : ∀ q ∈ PR, wt a ≤ wt q.1) (hab : wt a ≤ wt b) (hb : ∀ q ∈ PR, wt b ≤ wt q.1) (ha0 : 0 ≤ wt a) (he : ea ≤ 15 ∧ eb ≤ 15 ∧ ∀ q ∈ PR, q.2 ≤ 15)
    (hk : p2 (15 - ea) + (p2 (15 - eb) + krP PR) ≤ 32768) :
    ∃ (c : Nat) (PR' : List (HT × Nat)), PR'.map Prod.fst = PR.map Prod.fst ∧ c ≤ 15 ∧ (∀ q ∈ PR', q.2 ≤ 15) ∧ p2 (15 - c) + krP PR' ≤ 32768 ∧ (wt a + wt b) * c + coP PR' + wt a + wt b ≤ wt a * ea + (wt b * eb + coP PR) := by
  obtain ⟨ea1, Q1, f1, m1, k1, c1, b1⟩ := swap_max (wt a) ((b, eb) :: PR) ea (fun q hq => by
    rcases List.mem_cons.1 hq with rfl | hq
    · exact hab
    · exact ha q hq)
  rw [krP_cons] at k1; rw [coP_cons] at c1
  have hea1 := b1 15 he.1 (fun q hq => by
    rcases List.mem_cons.1 hq with rfl | hq
    · exact he.2.1
    · exact he.2.2 q hq)
  cases Q1 with
  | nil => cases f1
  | cons q1 Q1 =>
    injection f1 with g1 g2
    obtain ⟨q1a, eb1⟩ := q1
    simp only at g1
    subst g1
    rw [krP_cons] at k1; rw [coP_cons] at c1
    have hw : ∀ q ∈ Q1, wt q1a ≤ wt q.1 := fun q hq => by
      have h1 : q.1 ∈ Q1.map Prod.fst := List.mem_map_of_mem hq
      rw [g2] at h1
      obtain ⟨r, hr, e⟩ := List.mem_map.1 h1
      rw [← e]; exact hb r hr
    obtain ⟨eb2, Q2, f2, m2, k2, c2, b2⟩ := swap_max (wt q1a) Q1 eb1 hw
    have heb2 : eb2 ≤ ea1 := b2 ea1 (m1 _ (List.mem_cons_self ..)) fun q hq => m1 q (List.mem_cons_of_mem _ hq)
    simp only at k1 c1
    have hkk : p2 (15 - ea1) + (p2 (15 - eb2) + krP Q2) ≤ 32768 := by omega
    have pa := p2_pos (15 - ea1)
    have hn := krP_nonneg Q2
    have h0 : 1 ≤ eb2 := by
      rcases Nat.eq_zero_or_pos eb2 with h | h
      · rw [h] at hkk
        have : p2 (15 - 0) = 32768 := by decide
        omega
      · exact h
    obtain ⟨mm, hm⟩ := kr_mult eb2 Q2 (by omega) m2
    have pb := p2_pos (15 - eb2)
    have e15 : (32768 : Int) = p2 eb2 * p2 (15 - eb2) := by rw [← p2_add, ← p2_15']; congr 1; omega
    have hlt : (1 + mm) * p2 (15 - eb2) < p2 eb2 * p2 (15 - eb2) := by
      rw [Int.add_mul, Int.one_mul, ← hm, ← e15]; omega
    have hle : 1 + mm < p2 eb2 := by
      by_cases q : 1 + mm < p2 eb2
      · exact q
      · have := Int.mul_le_mul_of_nonneg_right (c := p2 (15 - eb2)) (by omega : p2 eb2 ≤ 1 + mm) (by omega); omega
    have hfin : (1 + (1 + mm)) * p2 (15 - eb2) ≤ p2 eb2 * p2 (15 - eb2) := Int.mul_le_mul_of_nonneg_right (by omega) (by omega)
    rw [Int.add_mul, Int.add_mul, Int.one_mul, ← hm, ← e15] at hfin
    have e2 : p2 (15 - (eb2 - 1)) = 2 * p2 (15 - eb2) := by rw [← p2_succ]; congr 1; omega
    refine ⟨eb2 - 1, Q2, by rw [f2, g2], by omega, fun q hq => by have := m2 q hq; omega, by rw [e2]; omega, ?_⟩
    have hmulA : wt a * (eb2 : Int) ≤ wt a * (ea1 : Int) := Int.mul_le_mul_of_nonneg_left (by omega) ha0
    have ec : ((eb2 - 1 : Nat) : Int) = (eb2 : Int) - 1 := by omega
    rw [ec, Int.mul_sub, Int.mul_one, Int.add_mul]
    omega

/-- What the trees' parts cost. -/
def inC : HT → Int
  | .leaf _ _ => 0
  | .node l r => inC l + inC r + (wt l + wt r)
def inCs (F : List HT) : Int := (F.map inC).sum
theorem inCs_cons (t : HT) (F : List HT) : inCs (t :: F) = inC t + inCs F := by simp [inCs]
theorem opt_red {F : List HT} {T : HT} (h : Red F T) : (∀ t ∈ F, 0 ≤ wt t) → ∀ P : List (HT × Nat), P.map Prod.fst = F → (∀ q ∈ P, q.2 ≤ 15) → krP P ≤ 32768 → inC T ≤ coP P + inCs F := by
  induction h with
  | one t =>
    intro hw P hP _ _
    cases P with
    | nil => cases hP
    | cons q P =>
      injection hP with h1 h2
      have : P = [] := List.map_eq_nil_iff.1 h2
      subst this
      have h3 := hw t (List.mem_singleton.2 rfl)
      have h4 : 0 ≤ wt q.1 * (q.2 : Int) := Int.mul_nonneg (by rw [h1]; exact h3) (by omega)
      simp [coP, inCs]; omega
  | @step F a b R T hp ha hb _ ih =>
    intro hw P hP h15 hk
    obtain ⟨Q, hQ, hm⟩ := perm_lift hp hP
    have hw' : ∀ t ∈ a :: b :: R, 0 ≤ wt t := fun t ht => hw t (hp.mem_iff.2 ht)
    cases Q with
    | nil => cases hm
    | cons qa Q =>
      injection hm with g1 hm
      cases Q with
      | nil => cases hm
      | cons qb PR =>
        injection hm with g2 g3
        obtain ⟨a', ea⟩ := qa
        obtain ⟨b', eb⟩ := qb
        simp only at g1 g2
        subst g1 g2
        have hmem : ∀ q ∈ PR, q.1 ∈ R := fun q hq => by rw [← g3]; exact List.mem_map_of_mem hq
        have hq15 : ∀ q ∈ (a', ea) :: (b', eb) :: PR, q.2 ≤ 15 := fun q hq => h15 q (hQ.mem_iff.2 hq)
        rw [krP_perm hQ, krP_cons, krP_cons] at hk
        have hc := coP_perm hQ
        rw [coP_cons, coP_cons] at hc
        obtain ⟨c, PR', f1, f2, f3, f4, f5⟩ := merge_len (a := a') (b := b') (PR := PR) (ea := ea) (eb := eb) (fun q hq => leT_wt (ha _ (List.mem_cons_of_mem _ (hmem q hq)))) (leT_wt (ha _ (List.mem_cons_self ..))) (fun q hq => leT_wt (hb _ (hmem q hq))) (hw' _ (List.mem_cons_self ..))
          ⟨hq15 _ (List.mem_cons_self ..), hq15 _ (List.mem_cons_of_mem _ (List.mem_cons_self ..)), fun q hq => hq15 q (List.mem_cons_of_mem _ (List.mem_cons_of_mem _ hq))⟩ hk
        have hI := ih (fun t ht => by
            rcases List.mem_cons.1 ht with rfl | ht
            · have := hw' a' (List.mem_cons_self ..); have := hw' b' (List.mem_cons_of_mem _ (List.mem_cons_self ..)); show 0 ≤ wt a' + wt b'; omega
            · exact hw' t (List.mem_cons_of_mem _ (List.mem_cons_of_mem _ ht))) ((.node a' b', c) :: PR') (by rw [List.map_cons, f1, g3]) (fun q hq => by
            rcases List.mem_cons.1 hq with rfl | hq
            · exact f2
            · exact f3 q hq) (by rw [krP_cons]; exact f4)
        rw [coP_cons, inCs_cons, inC] at hI
        simp only [wt] at hI
        have hci : inCs F = inC a' + (inC b' + inCs R) := by
          have e : inCs F = inCs (a' :: b' :: R) := sum_perm (hp.map _)
          rw [e, inCs_cons, inCs_cons]
        simp only at hc
        rw [hc, hci]
        omega
end Go.Proofs.Ytpkbbbdbcedkfaa
