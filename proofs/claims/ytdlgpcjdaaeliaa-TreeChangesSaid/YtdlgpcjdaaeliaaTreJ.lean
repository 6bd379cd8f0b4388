/- The program's check of a tree, plain, and that it answers as the document's May. No condition; no program. -/
import Derived.Test.YtdlgpcjdaaeliaaTreE
namespace Go.Proofs.Ytdlgpcjdaaeliaa

def riseK : Option Int → List Int → Bool
  | _, [] => true
  | none, x :: l => riseK (some x) l
  | some a, x :: l => decide (a < x) && riseK (some x) l
def lastK : Option Int → List Int → Option Int
  | o, [] => o
  | _, x :: l => lastK (some x) l
def keysP (l : List (Int × Int)) : List Int := l.map Prod.fst
theorem riseK_append : ∀ (o : Option Int) (a b : List Int), riseK o (a ++ b) = (riseK o a && riseK (lastK o a) b)
  | o, [], b => by cases o <;> rfl
  | none, x :: l, b => by rw [List.cons_append, riseK, riseK, lastK, riseK_append]
  | some a, x :: l, b => by rw [List.cons_append, riseK, riseK, lastK, riseK_append, Bool.and_assoc]
theorem lastK_append : ∀ (o : Option Int) (a b : List Int), lastK o (a ++ b) = lastK (lastK o a) b
  | o, [], b => rfl
  | o, x :: l, b => by rw [List.cons_append, lastK, lastK, lastK_append]

/-- How deep the first leaf lies (0: none yet), the key ahead. -/
abbrev Ck := Nat × Option Int
def chkLeaf (ks vs : List Int) (d : Nat) (st : Ck) : Bool × Ck :=
  if vs.length ≠ ks.length then (false, st)
  else if st.1 ≠ 0 ∧ st.1 ≠ d then (false, st)
  else (riseK st.2 ks, (d, lastK st.2 ks))
mutual
def chkT : Tr → Nat → Ck → Bool × Ck
  | .nd ks vs kids, d, st =>
    if 40 < d ∨ 4 < ks.length ∨ (1 < d ∧ ks.length < 2) then (false, st)
    else if kids.length = 0 then chkLeaf ks vs d st
    else if vs.length ≠ 0 ∨ kids.length ≠ ks.length ∨ kids.length < 2 then (false, st)
    else chkL kids ks (d + 1) st
def chkL : List Tr → List Int → Nat → Ck → Bool × Ck
  | [], _, _, st => (true, st)
  | k :: kids, ks, d, st =>
    if headK k = none ∨ headK k ≠ ks.head? then (false, st)
    else if (chkT k d st).1 = true then chkL kids ks.tail d (chkT k d st).2 else (false, st)
end
/-- May a tree be? -/
def mayT16 (t : Tr) : Bool := decide (deepT t 40 ≠ 0) && sizedT t 0 && riseK none (keysP (pairsT t))

theorem head_sized {t : Tr} (h : sizedT t 2 = true) : ∃ x, headK t = some x := by
  obtain ⟨ks, vs, kids, rfl, h2, _⟩ := sized_head h
  match ks, h2 with
  | x :: _, _ => exact ⟨x, rfl⟩
theorem keysP_append (a b : List (Int × Int)) : keysP (a ++ b) = keysP a ++ keysP b := by simp [keysP]
theorem keysP_zip (ks vs : List Int) (h : vs.length = ks.length) : keysP (ks.zip vs) = ks := by
  unfold keysP
  rw [List.map_fst_zip (by omega)]

theorem heads_no {k : Tr} {ks : List Int} (hh : headK k = none ∨ headK k ≠ ks.head?) : (sizedT k 2 && (headK k == ks.head?)) = false := by
  cases hs : sizedT k 2 with
  | false => rfl
  | true =>
    obtain ⟨x, hx⟩ := head_sized hs
    rcases hh with hh | hh
    · rw [hx] at hh; cases hh
    · simpa using hh
theorem heads_yes {k : Tr} {ks : List Int} (hh : ¬ (headK k = none ∨ headK k ≠ ks.head?)) : (headK k == ks.head?) = true := by
  rw [beq_iff_eq]
  exact Classical.not_not.1 fun h => hh (Or.inr h)
def okT (t : Tr) (d D : Nat) (o : Option Int) : Bool := sizedT t (if d = 1 then 0 else 2) && decide (deepT t (41 - d) ≠ 0) && (decide (D = 0) || decide (D = d + deepT t (41 - d) - 1)) && riseK o (keysP (pairsT t))
def okL (l : List Tr) (ks : List Int) (d D : Nat) (o : Option Int) : Bool := sizedL l ks && (sameL l (41 - d) (D + 1 - d) && (l.isEmpty || decide (d ≤ D))) && riseK o (keysP (pairsL l))

mutual
theorem chkT_law : ∀ (t : Tr) (d D : Nat) (o : Option Int), 1 ≤ d → d ≤ 41 →
    (chkT t d (D, o)).1 = okT t d D o ∧ (okT t d D o = true → (chkT t d (D, o)).2 = (d + deepT t (41 - d) - 1, lastK o (keysP (pairsT t))))
  | .nd ks vs kids, d, D, o => by
    intro h1 h41
    rw [chkT]
    by_cases hA : 40 < d ∨ 4 < ks.length ∨ (1 < d ∧ ks.length < 2)
    · rw [if_pos hA]
      have hf : okT (.nd ks vs kids) d D o = false := by
        unfold okT
        rcases hA with hA | hA | hA
        · rw [deepT, if_pos (show 41 - d = 0 by omega)]; simp
        · rw [sizedT, decide_eq_false (p := (if d = 1 then 0 else 2) ≤ ks.length ∧ ks.length ≤ 4) (by omega)]; simp
        · rw [sizedT, if_neg (show ¬ d = 1 by omega), decide_eq_false (p := 2 ≤ ks.length ∧ ks.length ≤ 4) (by omega)]; simp
      rw [hf]; exact ⟨rfl, nofun⟩
    · rw [if_neg hA]
      have hs : decide ((if d = 1 then 0 else 2) ≤ ks.length ∧ ks.length ≤ 4) = true := by
        apply decide_eq_true
        by_cases hd1 : d = 1
        · rw [if_pos hd1]; omega
        · rw [if_neg hd1]; omega
      by_cases hz : kids.length = 0
      · rw [if_pos hz]
        obtain rfl := List.length_eq_zero_iff.1 hz
        have hdp : deepT (.nd ks vs []) (41 - d) = 1 := by rw [deepT, if_neg (show ¬ 41 - d = 0 by omega), deepL]
        have hsz : sizedT (.nd ks vs []) (if d = 1 then 0 else 2) = decide (vs.length = ks.length) := by rw [sizedT, hs, if_pos hz, Bool.true_and]
        have hpr : pairsT (.nd ks vs []) = ks.zip vs := by rw [pairsT, if_pos hz]
        unfold okT
        rw [hdp, hsz, hpr]
        unfold chkLeaf
        by_cases hl : vs.length = ks.length
        · rw [if_neg (by simpa using hl), keysP_zip ks vs hl]
          by_cases hdd : D ≠ 0 ∧ D ≠ d
          · rw [if_pos hdd]
            have e : (decide (D = 0) || decide (D = d + 1 - 1)) = false := by simp; omega
            rw [e]; simp
          · rw [if_neg hdd]
            have e : (decide (D = 0) || decide (D = d + 1 - 1)) = true := by simp; omega
            rw [e, decide_eq_true hl]
            simp
        · rw [if_pos (by simpa using hl), decide_eq_false hl]; simp
      · rw [if_neg hz]
        have hpr : pairsT (.nd ks vs kids) = pairsL kids := by rw [pairsT, if_neg hz]
        have hdp : deepT (.nd ks vs kids) (41 - d) = deepL kids (41 - (d + 1)) := by rw [deepT, if_neg (show ¬ 41 - d = 0 by omega)]; rfl
        have hsz : sizedT (.nd ks vs kids) (if d = 1 then 0 else 2) = (decide (vs.length = 0 ∧ kids.length = ks.length ∧ 2 ≤ ks.length) && sizedL kids ks) := by rw [sizedT, hs, if_neg hz, Bool.true_and]
        unfold okT
        rw [hdp, hsz, hpr]
        by_cases hB : vs.length ≠ 0 ∨ kids.length ≠ ks.length ∨ kids.length < 2
        · rw [if_pos hB, decide_eq_false (by omega)]; simp
        · rw [if_neg hB, decide_eq_true (by omega), Bool.true_and]
          match kids, hz with
          | k :: rest, _ =>
            have hm1 : 41 - (d + 1) = 40 - d := by omega
            by_cases hD : D = 0
            · subst hD
              have ihk := chkT_law k (d + 1) 0 o (by omega) (by omega)
              have hrest : ∀ D' o', D' ≠ 0 → (chkL rest ks.tail (d + 1) (D', o')).1 = okL rest ks.tail (d + 1) D' o' ∧ (okL rest ks.tail (d + 1) D' o' = true → (chkL rest ks.tail (d + 1) (D', o')).2 = (D', lastK o' (keysP (pairsL rest)))) :=
                fun D' o' h => chkL_law rest ks.tail (d + 1) D' o' (by omega) (by omega) h
              rw [chkL]
              by_cases hh : headK k = none ∨ headK k ≠ ks.head?
              · rw [if_pos hh]
                have hf : sizedL (k :: rest) ks = false := by
                  rw [sizedL, heads_no hh, Bool.false_and]
                rw [hf]; simp
              · rw [if_neg hh]
                have hh2 := heads_yes hh
                by_cases hk : okT k (d + 1) 0 o = true
                · rw [if_pos (ihk.1.trans hk), ihk.2 hk]
                  unfold okT at hk
                  rw [if_neg (show ¬ d + 1 = 1 by omega)] at hk
                  simp only [Bool.and_eq_true, Bool.or_eq_true, decide_eq_true_eq] at hk
                  obtain ⟨⟨⟨hs, hm⟩, hdd⟩, hr⟩ := hk
                  have h := hrest (d + 1 + deepT k (41 - (d + 1)) - 1) (lastK o (keysP (pairsT k))) (by omega)
                  have e : okL rest ks.tail (d + 1) (d + 1 + deepT k (41 - (d + 1)) - 1) (lastK o (keysP (pairsT k))) = (sizedL (k :: rest) ks && decide (deepL (k :: rest) (41 - (d + 1)) ≠ 0) && (decide ((0 : Nat) = 0) || decide (0 = d + deepL (k :: rest) (41 - (d + 1)) - 1)) && riseK o (keysP (pairsL (k :: rest)))) := by
                    unfold okL
                    rw [sizedL, pairsL, keysP_append, riseK_append, hs, hh2, hr, deepL]
                    have e1 : d + 1 + deepT k (41 - (d + 1)) - 1 + 1 - (d + 1) = deepT k (41 - (d + 1)) := by omega
                    have e2 : decide (d + 1 ≤ d + 1 + deepT k (41 - (d + 1)) - 1) = true := decide_eq_true (by omega)
                    rw [e1, e2]
                    cases hsm : sameL rest (41 - (d + 1)) (deepT k (41 - (d + 1))) with
                    | true =>
                      rw [if_pos ⟨rfl, hm⟩, decide_eq_true (show deepT k (41 - (d + 1)) + 1 ≠ 0 by omega)]
                      simp
                    | false => rw [if_neg (by simp)]; simp
                  rw [← e]
                  refine ⟨h.1, fun hq => ?_⟩
                  rw [h.2 hq, pairsL, keysP_append, lastK_append]
                  rw [e] at hq
                  simp only [Bool.and_eq_true, decide_eq_true_eq] at hq
                  have hdl := hq.1.1.2
                  rw [deepL] at hdl ⊢
                  split at hdl
                  · rename_i hc
                    rw [if_pos hc]
                    congr 1
                    omega
                  · exact absurd rfl hdl
                · rw [if_neg (by rw [ihk.1]; exact hk)]
                  have hf : (sizedL (k :: rest) ks && decide (deepL (k :: rest) (41 - (d + 1)) ≠ 0) && (decide ((0 : Nat) = 0) || decide (0 = d + deepL (k :: rest) (41 - (d + 1)) - 1)) && riseK o (keysP (pairsL (k :: rest)))) = false := by
                    rw [Bool.eq_false_iff]
                    intro hq
                    apply hk
                    rw [sizedL, pairsL, keysP_append, riseK_append, deepL] at hq
                    simp only [Bool.and_eq_true, decide_eq_true_eq] at hq
                    obtain ⟨⟨⟨⟨⟨hs, _⟩, _⟩, hdl⟩, _⟩, hr, _⟩ := hq
                    have hm : deepT k (41 - (d + 1)) ≠ 0 := by
                      intro h0
                      apply hdl
                      rw [if_neg (fun h => h.2 h0)]
                    unfold okT
                    rw [if_neg (show ¬ d + 1 = 1 by omega), hs, hr, decide_eq_true hm]
                    simp
                  rw [hf]; exact ⟨rfl, nofun⟩
            · have h := chkL_law (k :: rest) ks (d + 1) D o (by omega) (by omega) hD
              have e : okL (k :: rest) ks (d + 1) D o = (sizedL (k :: rest) ks && decide (deepL (k :: rest) (41 - (d + 1)) ≠ 0) && (decide (D = 0) || decide (D = d + deepL (k :: rest) (41 - (d + 1)) - 1)) && riseK o (keysP (pairsL (k :: rest)))) := by
                unfold okL
                rw [sameL, deepL, decide_eq_false hD, Bool.false_or]
                rw [Bool.eq_iff_iff]
                simp only [Bool.and_eq_true, beq_iff_eq, decide_eq_true_eq, List.isEmpty_cons, Bool.false_or]
                constructor
                · rintro ⟨⟨hs, ⟨h1, h2⟩, h3⟩, hr⟩
                  rw [h1, if_pos ⟨h2, by omega⟩]
                  exact ⟨⟨⟨hs, by omega⟩, by omega⟩, hr⟩
                · rintro ⟨⟨⟨hs, h1⟩, h2⟩, hr⟩
                  by_cases hc : sameL rest (41 - (d + 1)) (deepT k (41 - (d + 1))) = true ∧ deepT k (41 - (d + 1)) ≠ 0
                  · rw [if_pos hc] at h2
                    have e1 : D + 1 - (d + 1) = deepT k (41 - (d + 1)) := by omega
                    rw [e1]
                    exact ⟨⟨hs, ⟨rfl, hc.1⟩, by omega⟩, hr⟩
                  · rw [if_neg hc] at h1
                    exact absurd rfl h1
              rw [← e]
              refine ⟨h.1, fun hq => ?_⟩
              rw [h.2 hq]
              rw [e] at hq
              simp only [Bool.and_eq_true, Bool.or_eq_true, decide_eq_true_eq] at hq
              congr 1
              have := hq.1.2
              omega
theorem chkL_law : ∀ (l : List Tr) (ks : List Int) (d D : Nat) (o : Option Int), 2 ≤ d → d ≤ 41 → D ≠ 0 →
    (chkL l ks d (D, o)).1 = okL l ks d D o ∧ (okL l ks d D o = true → (chkL l ks d (D, o)).2 = (D, lastK o (keysP (pairsL l))))
  | [], ks, d, D, o => by
    intro h2 h41 hD
    rw [chkL]
    unfold okL
    rw [sizedL, sameL, pairsL]
    exact ⟨by cases o <;> rfl, fun _ => rfl⟩
  | k :: l, ks, d, D, o => by
    intro h2 h41 hD
    have ih := chkT_law k d D o (by omega) h41
    have ihl := fun o' => chkL_law l ks.tail d D o' h2 h41 hD
    rw [chkL]
    by_cases hh : headK k = none ∨ headK k ≠ ks.head?
    · rw [if_pos hh]
      have hf : okL (k :: l) ks d D o = false := by
        unfold okL
        rw [sizedL, heads_no hh]; simp
      rw [hf]; exact ⟨rfl, nofun⟩
    · rw [if_neg hh]
      have hh2 := heads_yes hh
      by_cases hk : okT k d D o = true
      · rw [if_pos (ih.1.trans hk), ih.2 hk]
        unfold okT at hk
        rw [if_neg (show ¬ d = 1 by omega)] at hk
        simp only [Bool.and_eq_true, Bool.or_eq_true, decide_eq_true_eq] at hk
        obtain ⟨⟨⟨hs, hm⟩, hdd⟩, hr⟩ := hk
        have e : d + deepT k (41 - d) - 1 = D := by omega
        rw [e]
        have e2 : okL (k :: l) ks d D o = okL l ks.tail d D (lastK o (keysP (pairsT k))) := by
          unfold okL
          rw [sizedL, sameL, pairsL, keysP_append, riseK_append, hs, hh2, hr, beq_iff_eq.2 (show deepT k (41 - d) = D + 1 - d by omega), decide_eq_true (show d ≤ D by omega)]
          simp
        rw [e2, pairsL, keysP_append, lastK_append]
        exact ihl _
      · rw [if_neg (by rw [ih.1]; exact hk)]
        have hf : okL (k :: l) ks d D o = false := by
          rw [Bool.eq_false_iff]
          intro hq
          apply hk
          unfold okL at hq
          rw [sizedL, sameL, pairsL, keysP_append, riseK_append] at hq
          simp only [Bool.and_eq_true, Bool.or_eq_true, beq_iff_eq, decide_eq_true_eq, List.isEmpty_cons, Bool.false_eq_true, false_or] at hq
          obtain ⟨⟨⟨⟨hs, _⟩, _⟩, ⟨hdp, _⟩, hdD⟩, hr, _⟩ := hq
          unfold okT
          rw [if_neg (show ¬ d = 1 by omega), hs, hr, hdp]
          have e1 : D + 1 - d ≠ 0 := by omega
          have e2 : D = d + (D + 1 - d) - 1 := by omega
          rw [decide_eq_true e1, decide_eq_true e2]
          simp
        rw [hf]; exact ⟨rfl, nofun⟩
end
/-- The program's check answers as the document's May. -/
theorem chk_may (t : Tr) : (chkT t 1 (0, none)).1 = mayT16 t := by
  rw [(chkT_law t 1 0 none (by omega) (by omega)).1]
  unfold okT mayT16
  simp [Bool.and_comm]
end Go.Proofs.Ytdlgpcjdaaeliaa
