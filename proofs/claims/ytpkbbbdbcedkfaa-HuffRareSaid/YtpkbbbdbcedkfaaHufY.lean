/- The plain law of costs: depths cost least; even symbols. No program in sight. -/
import Derived.Test.YtpkbbbdbcedkfaaHufW
namespace Go.Proofs.Ytpkbbbdbcedkfaa

/-- What lengths cost. -/
def costL (f l : List Int) : Int := sumG (fun i x => f[i]?.getD 0 * x) 0 l
theorem sumG_take (g : Nat → Int → Int) : ∀ (l : List Int) (j k : Nat) (hk : k < l.length), sumG g j (l.take (k + 1)) = sumG g j (l.take k) + g (j + k) l[k] := by
  intro l
  induction l with
  | nil => intro j k hk; simp at hk
  | cons x l ih =>
    intro j k hk
    cases k with
    | zero => simp [sumG]
    | succ k =>
      have := ih (j + 1) k (by simpa using hk)
      simp only [List.take_succ_cons, sumG, List.getElem_cons_succ]
      rw [this, show j + 1 + k = j + (k + 1) by omega]; omega
theorem costL_zeros (f : List Int) : ∀ (n j : Nat), sumG (fun i x => f[i]?.getD 0 * x) j (List.replicate n 0) = 0 := by
  intro n
  induction n with
  | zero => intro j; rfl
  | succ n ih => intro j; rw [List.replicate_succ, sumG, ih]; simp
/-- Each symbol's weight is as often as it is there. -/
def Lv (f : List Int) : HT → Prop
  | .leaf w n => f[n]?.getD 0 = w
  | .node l r => Lv f l ∧ Lv f r
theorem red_lv {f : List Int} {F : List HT} {T : HT} (h : Red F T) : (∀ t ∈ F, Lv f t) → Lv f T := by
  induction h with
  | one t => intro h; exact h t (List.mem_singleton.2 rfl)
  | @step F a b R T hp _ _ _ ih =>
    intro h
    apply ih
    intro t ht
    rcases List.mem_cons.1 ht with rfl | ht
    · exact ⟨h a (hp.mem_iff.2 (List.mem_cons_self ..)), h b (hp.mem_iff.2 (List.mem_cons_of_mem _ (List.mem_cons_self ..)))⟩
    · exact h t (hp.mem_iff.2 (List.mem_cons_of_mem _ (List.mem_cons_of_mem _ ht)))
theorem initT_lv (f : List Int) : ∀ t ∈ initT f, Lv f t := fun t ht => by
  obtain ⟨i, hi, _, rfl⟩ := initT_mem.1 ht
  show f[i]?.getD 0 = f[i]
  rw [List.getElem?_eq_getElem hi, Option.getD_some]
theorem gT_cost {f : List Int} (t : HT) : ∀ d : Int, Lv f t → gT (fun i x => f[i]?.getD 0 * x) t d = inC t + wt t * d := by
  induction t with
  | leaf w n =>
    intro d h
    have h : f[n]?.getD 0 = w := h
    simp only [gT, inC, wt, h]; omega
  | node l r ihl ihr =>
    intro d h
    rw [gT, ihl (d + 1) h.1, ihr (d + 1) h.2, inC, wt, Int.mul_add, Int.mul_add, Int.add_mul]; omega
theorem inCs_init (f : List Int) : inCs (initT f) = 0 := by
  have : ∀ G : List HT, (∀ t ∈ G, inC t = 0) → inCs G = 0 := by
    intro G
    induction G with
    | nil => intro _; rfl
    | cons t G ih => intro h; rw [inCs_cons, h t (List.mem_cons_self ..), ih fun x hx => h x (List.mem_cons_of_mem _ hx)]; rfl
  exact this _ fun t ht => by obtain ⟨i, _, _, rfl⟩ := initT_mem.1 ht; rfl

/-- The symbols that are there, with lengths. -/
def pairsTo (f l : List Int) (k : Nat) : List (HT × Nat) := (List.range k).filterMap fun i => if 0 < f[i]?.getD 0 then some (.leaf (f[i]?.getD 0) i, (l[i]?.getD 0).toNat) else none
theorem pairsTo_yes {f l : List Int} {k : Nat} (hk : k < f.length) (h : 0 < f[k]) : pairsTo f l (k + 1) = pairsTo f l k ++ [(.leaf f[k] k, (l[k]?.getD 0).toNat)] := by
  unfold pairsTo
  rw [List.range_succ, List.filterMap_append]
  simp [List.getElem?_eq_getElem hk, h]
theorem pairsTo_no {f l : List Int} {k : Nat} (hk : k < f.length) (h : ¬ 0 < f[k]) : pairsTo f l (k + 1) = pairsTo f l k := by
  unfold pairsTo
  rw [List.range_succ, List.filterMap_append]
  simp [List.getElem?_eq_getElem hk, h]
/-- Lengths that may stand for f. -/
def Fits (f l : List Int) : Prop := l.length = f.length ∧ (∀ x ∈ l, 0 ≤ x ∧ x ≤ 15) ∧ (∀ i (hi : i < f.length) (hi' : i < l.length), 0 < f[i] → 0 < l[i]) ∧ kraftL l ≤ 32768
theorem pairs_law {f l : List Int} (hf : ∀ x ∈ f, 0 ≤ x) (h : Fits f l) : ∀ k, k ≤ f.length →
    (pairsTo f l k).map Prod.fst = initTo f k ∧ (∀ q ∈ pairsTo f l k, q.2 ≤ 15) ∧ krP (pairsTo f l k) ≤ kraftL (l.take k) ∧ coP (pairsTo f l k) = costL f (l.take k) := by
  obtain ⟨hlen, hr, hp, _⟩ := h
  intro k
  induction k with
  | zero => intro _; exact ⟨rfl, fun q hq => absurd hq (by simp [pairsTo]), Int.le_refl _, rfl⟩
  | succ k ih =>
    intro hk
    have hlt : k < f.length := by omega
    have hlt2 : k < l.length := by omega
    obtain ⟨h1, h2, h3, h4⟩ := ih (by omega)
    have hx := hr l[k] (List.getElem_mem hlt2)
    have hok := oneK_bd l[k]
    have hc : costL f (l.take (k + 1)) = costL f (l.take k) + f[k] * l[k] := by
      unfold costL
      rw [sumG_take _ l 0 k hlt2, Nat.zero_add, List.getElem?_eq_getElem hlt, Option.getD_some]
    have hkr : kraftL (l.take (k + 1)) = kraftL (l.take k) + oneK l[k] := by rw [List.take_succ_eq_append_getElem hlt2, kraftL_snoc]
    have hgd : l[k]?.getD 0 = l[k] := by rw [List.getElem?_eq_getElem hlt2, Option.getD_some]
    by_cases h0 : 0 < f[k]
    · have hpos := hp k hlt hlt2 h0
      rw [pairsTo_yes hlt h0, initTo_yes hlt h0]
      refine ⟨by rw [List.map_append, h1]; rfl, fun q hq => ?_, ?_, ?_⟩
      · rcases List.mem_append.1 hq with hq | hq
        · exact h2 q hq
        · rw [List.mem_singleton.1 hq]; show (l[k]?.getD 0).toNat ≤ 15; rw [hgd]; omega
      · have e : krP (pairsTo f l k ++ [(HT.leaf f[k] k, (l[k]?.getD 0).toNat)]) = krP (pairsTo f l k) + p2 (15 - (l[k]?.getD 0).toNat) := by simp [krP, List.sum_append]
        have e2 : oneK l[k] = p2 (15 - l[k].toNat) := by unfold oneK; rw [if_pos (by omega)]
        rw [e, hkr, hgd, e2]; omega
      · have e : coP (pairsTo f l k ++ [(HT.leaf f[k] k, (l[k]?.getD 0).toNat)]) = coP (pairsTo f l k) + f[k] * ((l[k]?.getD 0).toNat : Int) := by simp [coP, List.sum_append, wt]
        rw [e, hc, h4, hgd, show (l[k].toNat : Int) = l[k] by omega]
    · have hz : f[k] = 0 := by have := hf f[k] (List.getElem_mem hlt); omega
      rw [pairsTo_no hlt h0, initTo_no hlt h0]
      refine ⟨h1, h2, by rw [hkr]; omega, by rw [hc, h4, hz]; simp⟩
/-- No lengths that may stand for f cost less. -/
theorem once_least {f L l : List Int} (h : OnceR f L) (hf : ∀ x ∈ f, 0 ≤ x) (hl : Fits f l) : costL f L ≤ costL f l := by
  obtain ⟨p1, p2', p3, p4⟩ := pairs_law hf hl f.length (Nat.le_refl _)
  have hlen := hl.1
  have htk : l.take f.length = l := by rw [← hlen, List.take_length]
  rw [htk] at p3 p4
  rw [initTo_all] at p1
  have hk32 := hl.2.2.2
  rw [← p4]
  rcases h with ⟨h1, rfl⟩ | ⟨w, n, h1, rfl⟩ | ⟨h1, T, hT, rfl⟩
  · unfold costL
    rw [costL_zeros]
    have : ∀ P : List (HT × Nat), P.map Prod.fst = [] → coP P = 0 := fun P hP => by rw [List.map_eq_nil_iff.1 hP]; rfl
    rw [this _ (p1.trans h1)]; exact Int.le_refl _
  · obtain ⟨j, hj, h0, he⟩ := initT_mem.1 (show HT.leaf w n ∈ initT f by rw [h1]; exact List.mem_singleton.2 rfl)
    injection he with e1 e2
    subst e2
    have hs := sumG_set (fun i x => f[i]?.getD 0 * x) 1 (List.replicate f.length 0) 0 n (by simpa using hj)
    rw [costL_zeros, List.getElem_replicate, Nat.zero_add, List.getElem?_eq_getElem hj, Option.getD_some] at hs
    unfold costL
    rw [hs]
    rw [h1] at p1
    have hpl : (pairsTo f l f.length).length = 1 := by have := congrArg List.length p1; simpa using this
    obtain ⟨q, hq⟩ := List.length_eq_one_iff.1 hpl
    have hqm : q ∈ pairsTo f l f.length := by rw [hq]; exact List.mem_singleton.2 rfl
    rw [hq] at p1 ⊢
    injection p1 with p1 _
    have hq2 : q.2 = (l[n]?.getD 0).toNat := by
      unfold pairsTo at hqm
      obtain ⟨i, hi, hie⟩ := List.mem_filterMap.1 hqm
      split at hie
      · injection hie with hie
        rw [← hie] at p1 ⊢
        injection p1 with _ p1
        rw [p1]
      · cases hie
    have hpos := hl.2.2.1 n hj (by omega) h0
    rw [List.getElem?_eq_getElem (by omega), Option.getD_some] at hq2
    have hge : f[n] * 1 ≤ f[n] * (q.2 : Int) := Int.mul_le_mul_of_nonneg_left (by omega) (by omega)
    have hco : coP [q] = f[n] * (q.2 : Int) := by rw [coP_cons, p1, e1]; simp [coP, wt]
    rw [hco]; omega
  · have hsy := red_syms hT
    have hnd : (syms T).Nodup := hsy.nodup_iff.2 (initT_syms f).1
    have hz : ∀ s ∈ syms T, (List.replicate f.length (0 : Int))[s]? = some 0 := fun s hs => by
      have := (initT_syms f).2 s (hsy.mem_iff.1 hs)
      rw [List.getElem?_replicate, if_pos this]
    have hc := sumG_mark (fun i x => f[i]?.getD 0 * x) T 0 (List.replicate f.length 0) hnd hz
    rw [costL_zeros, gT_cost T 0 (red_lv hT (initT_lv f))] at hc
    unfold costL
    rw [hc]
    have ho := opt_red hT (fun t ht => by obtain ⟨i, _, h, rfl⟩ := initT_mem.1 ht; show 0 ≤ f[i]; omega) _ p1 p2' (Int.le_trans p3 hk32)
    rw [inCs_init] at ho
    omega
end Go.Proofs.Ytpkbbbdbcedkfaa
