/- Keys that rise; where a key lies in a tree; how high a tree is. Plain. No condition; no program. -/
import Derived.Test.YtdlgpcjdaaeliaaTreI
import Derived.Test.YtdlgpcjdaaeliaaTreJ
namespace Go.Proofs.Ytdlgpcjdaaeliaa

theorem riseK_some {a : Int} : ∀ {l : List Int}, riseK (some a) l = true → (∀ x ∈ l, a < x) ∧ l.Pairwise (· < ·)
  | [], _ => ⟨by simp, List.Pairwise.nil⟩
  | y :: l, h => by
    rw [riseK, Bool.and_eq_true, decide_eq_true_eq] at h
    have := riseK_some h.2
    refine ⟨fun x hx => ?_, List.pairwise_cons.2 this⟩
    rcases List.mem_cons.1 hx with rfl | hx
    · exact h.1
    · exact Int.lt_trans h.1 (this.1 x hx)
theorem riseK_pw {l : List Int} (h : riseK none l = true) : l.Pairwise (· < ·) := by
  cases l with
  | nil => exact List.Pairwise.nil
  | cons x l => rw [riseK] at h; exact List.pairwise_cons.2 (riseK_some h)
theorem pw_riseK_some {a : Int} : ∀ {l : List Int}, (∀ x ∈ l, a < x) → l.Pairwise (· < ·) → riseK (some a) l = true
  | [], _, _ => rfl
  | y :: l, h, hp => by
    rw [riseK, decide_eq_true (h y (by simp)), Bool.true_and]
    exact pw_riseK_some (List.pairwise_cons.1 hp).1 (List.pairwise_cons.1 hp).2
theorem pw_riseK {l : List Int} (h : l.Pairwise (· < ·)) : riseK none l = true := by
  cases l with
  | nil => rfl
  | cons x l => rw [riseK]; exact pw_riseK_some (List.pairwise_cons.1 h).1 (List.pairwise_cons.1 h).2

theorem pairsL_append (a b : List Tr) : pairsL (a ++ b) = pairsL a ++ pairsL b := by
  induction a with
  | nil => simp [pairsL]
  | cons x a ih => rw [List.cons_append, pairsL, pairsL, ih, List.append_assoc]
theorem head_pairs : ∀ (t : Tr) (low : Nat), sizedT t low = true → (keysP (pairsT t)).head? = headK t
  | .nd ks vs [], low => by
    intro h
    rw [sizedT, Bool.and_eq_true] at h
    have h2 := h.2
    rw [if_pos (show ([] : List Tr).length = 0 from rfl), decide_eq_true_eq] at h2
    rw [pairsT, if_pos (show ([] : List Tr).length = 0 from rfl), keysP_zip ks vs h2]; rfl
  | .nd ks vs (k :: rest), low => by
    intro h
    rw [sizedT, if_neg (by simp), Bool.and_eq_true, Bool.and_eq_true, sizedL, Bool.and_eq_true, Bool.and_eq_true, beq_iff_eq] at h
    have ih := head_pairs k 2 h.2.2.1.1
    obtain ⟨x, hx⟩ := head_sized h.2.2.1.1
    rw [pairsT, if_neg (by simp), pairsL, keysP_append]
    rw [hx] at ih
    rw [List.head?_append, ih, Option.some_or, ← hx, h.2.2.1.2]
    rfl

theorem getP_none {l : List (Int × Int)} {k : Int} (h : ∀ x ∈ keysP l, x ≠ k) : getP l k = none := by
  induction l with
  | nil => rfl
  | cons x l ih =>
    rw [getP, if_neg (h x.1 (by simp [keysP]))]
    exact ih fun y hy => h y (by simp only [keysP, List.map_cons, List.mem_cons]; exact Or.inr hy)
theorem getP_append (a b : List (Int × Int)) (k : Int) : getP (a ++ b) k = (getP a k).or (getP b k) := by
  induction a with
  | nil => rfl
  | cons x a ih =>
    rw [List.cons_append, getP, getP, ih]
    split <;> simp

/-- The kids of a node that may be. -/
theorem sizedL_get {kids : List Tr} {ks : List Int} (h : sizedL kids ks = true) : ∀ (i : Nat) (hi : i < kids.length), sizedT kids[i] 2 = true ∧ headK kids[i] = ks[i]? := by
  induction kids generalizing ks with
  | nil => intro i hi; simp at hi
  | cons k kids ih =>
    intro i hi
    rw [sizedL, Bool.and_eq_true, Bool.and_eq_true, beq_iff_eq] at h
    cases i with
    | zero => exact ⟨h.1.1, by rw [List.getElem_cons_zero, h.1.2, List.head?_eq_getElem?]⟩
    | succ i =>
      have := ih h.2 i (by simpa using hi)
      refine ⟨by simpa using this.1, ?_⟩
      rw [List.getElem_cons_succ, this.2, List.getElem?_tail]
/-- A node that is no leaf. -/
theorem sized_inner {ks vs : List Int} {kids : List Tr} {low : Nat} (h : sizedT (.nd ks vs kids) low = true) (hz : kids.length ≠ 0) : kids.length = ks.length ∧ sizedL kids ks = true ∧ ks.length ≤ 4 := by
  rw [sizedT, if_neg hz, Bool.and_eq_true, Bool.and_eq_true, decide_eq_true_eq, decide_eq_true_eq] at h
  exact ⟨h.2.1.2.1, h.2.2, h.1.2⟩
theorem sized_leaf {ks vs : List Int} {kids : List Tr} {low : Nat} (h : sizedT (.nd ks vs kids) low = true) (hz : kids.length = 0) : vs.length = ks.length ∧ pairsT (.nd ks vs kids) = ks.zip vs ∧ ks.length ≤ 4 := by
  rw [pairsT, if_pos hz]
  rw [sizedT, if_pos hz, Bool.and_eq_true, decide_eq_true_eq, decide_eq_true_eq] at h
  exact ⟨h.2, rfl, h.1.2⟩
theorem sized_low {t : Tr} (h : sizedT t 2 = true) : sizedT t 0 = true := by
  obtain ⟨ks, vs, kids⟩ := t
  rw [sizedT, Bool.and_eq_true, decide_eq_true_eq] at h ⊢
  exact ⟨⟨Nat.zero_le _, h.1.2⟩, h.2⟩

/-- A key's pair lies in the kid that is chosen. -/
theorem get_kid {ks vs : List Int} {kids : List Tr} {low : Nat} (h : sizedT (.nd ks vs kids) low = true) (hz : kids.length ≠ 0) (hp : (keysP (pairsT (.nd ks vs kids))).Pairwise (· < ·))
    {i : Nat} (hi : i < kids.length) (k : Int) (h1 : ∀ j (hj : j < ks.length), i < j → k < ks[j]) (h2 : i = 0 ∨ ∃ hi : i < ks.length, ks[i] ≤ k) :
    getP (pairsT (.nd ks vs kids)) k = getP (pairsT kids[i]) k ∧ sizedT kids[i] 0 = true ∧ (keysP (pairsT kids[i])).Pairwise (· < ·) := by
  obtain ⟨hlen, hsz, _⟩ := sized_inner h hz
  have hpr : pairsT (.nd ks vs kids) = pairsL (kids.take i) ++ (pairsT kids[i] ++ pairsL (kids.drop (i + 1))) := by
    rw [pairsT, if_neg hz]
    conv => lhs; rw [← List.take_append_drop i kids, pairsL_append, List.drop_eq_getElem_cons hi, pairsL]
  rw [hpr, keysP_append, keysP_append] at hp
  rw [List.pairwise_append, List.pairwise_append] at hp
  obtain ⟨_, ⟨hp2, hp3, _⟩, hp1⟩ := hp
  have hki := sizedL_get hsz i hi
  refine ⟨?_, sized_low hki.1, hp2⟩
  rw [hpr, getP_append, getP_append]
  have hA : getP (pairsL (kids.take i)) k = none := by
    rcases h2 with rfl | ⟨hik, hle⟩
    · rw [List.take_zero, pairsL]; rfl
    · apply getP_none
      intro x hx
      have hh := head_pairs _ _ hki.1
      rw [hki.2, List.getElem?_eq_getElem hik] at hh
      have hmem : ks[i] ∈ keysP (pairsT kids[i]) := List.mem_of_mem_head? (by rw [hh]; rfl)
      have := hp1 x hx ks[i] (List.mem_append_left _ hmem)
      omega
  have hB : getP (pairsL (kids.drop (i + 1))) k = none := by
    apply getP_none
    intro x hx
    by_cases hn : i + 1 < kids.length
    · have hkn := sizedL_get hsz (i + 1) hn
      have hh := head_pairs _ _ hkn.1
      rw [hkn.2, List.getElem?_eq_getElem (by omega)] at hh
      have hgt := h1 (i + 1) (by omega) (by omega)
      rw [List.drop_eq_getElem_cons hn, pairsL, keysP_append] at hx hp3
      have hmem : (keysP (pairsT kids[i + 1])).head? = some (ks[i + 1]'(by omega)) := hh
      match hq : keysP (pairsT kids[i + 1]), hmem with
      | y :: rest, hmem =>
        rw [hq] at hx hp3
        simp only [List.head?_cons, Option.some.injEq] at hmem
        subst hmem
        rw [List.cons_append] at hx hp3
        rcases List.mem_cons.1 hx with rfl | hx
        · omega
        · have := (List.pairwise_cons.1 hp3).1 x hx
          omega
    · rw [List.drop_eq_nil_of_le (by omega), pairsL] at hx
      simp [keysP] at hx
  rw [hA, hB]
  simp

/-! ### How high -/
def hT : Tr → Nat
  | .nd _ _ [] => 1
  | .nd _ _ (k :: _) => hT k + 1
theorem deep_hT : ∀ (t : Tr) (m : Nat), deepT t m ≠ 0 → deepT t m = hT t
  | .nd ks vs [], m => by
    intro h
    rw [deepT] at h ⊢
    split at h
    · exact absurd rfl h
    · rename_i hm; rw [if_neg hm, deepL, hT]
  | .nd ks vs (k :: rest), m => by
    intro h
    rw [deepT] at h ⊢
    split at h
    · exact absurd rfl h
    · rename_i hm
      rw [deepL] at h
      split at h
      · rename_i hc
        rw [if_neg hm, deepL, if_pos hc, hT, deep_hT k (m - 1) hc.2]
      · exact absurd rfl h
theorem hT_kid {ks vs : List Int} {kids : List Tr} (h : 0 < kids.length) : hT (.nd ks vs kids) = hT kids[0] + 1 := by
  match kids, h with
  | k :: rest, _ => rw [hT]; rfl
theorem hT_leaf {ks vs : List Int} {kids : List Tr} (h : kids.length = 0) : hT (.nd ks vs kids) = 1 := by
  obtain rfl := List.length_eq_zero_iff.1 h
  rw [hT]
theorem nodesL_get {l : List Tr} {i : Nat} (hi : i < l.length) : nodesT l[i] ≤ nodesL l := by
  induction l generalizing i with
  | nil => simp at hi
  | cons x l ih =>
    rw [nodesL]
    cases i with
    | zero => simp
    | succ i => have := ih (i := i) (by simpa using hi); simp only [List.getElem_cons_succ]; omega

/-! ### A leaf's pairs -/
theorem getP_zip {ks vs : List Int} {k : Int} : ∀ (i : Nat) (hi : i < ks.length) (hv : i < vs.length), (∀ j (hj : j < ks.length), j < i → ks[j] ≠ k) → ks[i] = k → getP (ks.zip vs) k = some vs[i] := by
  induction ks generalizing vs with
  | nil => intro i hi; simp at hi
  | cons x ks ih =>
    intro i hi hv hno he
    match vs, hv with
    | v :: vs, hv =>
      rw [List.zip_cons_cons, getP]
      cases i with
      | zero => simp only [List.getElem_cons_zero] at he; rw [if_pos he]; rfl
      | succ i =>
        have h0 : x ≠ k := by have := hno 0 (by simp) (by omega); simpa using this
        rw [if_neg h0]
        exact ih i (by simpa using hi) (by simpa using hv) (fun j hj hji => by have := hno (j + 1) (by simpa using hj) (by omega); simpa using this) (by simpa using he)
theorem getP_zip_none {ks vs : List Int} {k : Int} (h : ∀ j (hj : j < ks.length), ks[j] ≠ k) : getP (ks.zip vs) k = none := by
  apply getP_none
  intro x hx
  unfold keysP at hx
  obtain ⟨p, hp, rfl⟩ := List.mem_map.1 hx
  have := (List.of_mem_zip (a := p.1) (b := p.2) hp).1
  obtain ⟨j, hj, he⟩ := List.getElem_of_mem this
  rw [← he]
  exact h j hj
end Go.Proofs.Ytdlgpcjdaaeliaa
