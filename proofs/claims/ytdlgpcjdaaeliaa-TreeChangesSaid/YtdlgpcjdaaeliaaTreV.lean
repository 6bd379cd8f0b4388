/- The tree that is built of pairs, plain: it may be, and it has these pairs. No condition; no program. -/
import Derived.Test.YtdlgpcjdaaeliaaTreN
namespace Go.Proofs.Ytdlgpcjdaaeliaa

def manyP (n : Nat) : Nat := (n + 3) / 4
def fromP (n i : Nat) : Nat := n * i / manyP n
def cutL {α : Type} (l : List α) : List (List α) := (List.range (manyP l.length)).map fun i => (l.drop (fromP l.length i)).take (fromP l.length (i + 1) - fromP l.length i)
theorem fromP_step {n i : Nat} (hn : 1 ≤ n) : fromP n i + (if 2 ≤ n then 2 else 1) ≤ fromP n (i + 1) ∧ fromP n (i + 1) ≤ fromP n i + 4 := by
  have hm : 0 < manyP n := by unfold manyP; omega
  have h4 : n ≤ 4 * manyP n := by unfold manyP; omega
  have h2 : 2 ≤ n → 2 * manyP n ≤ n := by unfold manyP; omega
  have h1 : manyP n ≤ n := by unfold manyP; omega
  unfold fromP
  rw [Nat.mul_succ]
  constructor
  · split
    · rename_i h
      have := h2 h
      rw [← Nat.add_mul_div_right _ _ hm]
      exact Nat.div_le_div_right (by omega)
    · rw [show n * i / manyP n + 1 = n * i / manyP n + 1 from rfl, ← Nat.add_div_right _ hm]
      exact Nat.div_le_div_right (by omega)
  · rw [← Nat.add_mul_div_right _ _ hm]
    exact Nat.div_le_div_right (by omega)
theorem fromP_zero (n : Nat) : fromP n 0 = 0 := by unfold fromP; simp
theorem fromP_last {n : Nat} (hn : 1 ≤ n) : fromP n (manyP n) = n := by
  unfold fromP
  exact Nat.mul_div_cancel _ (by unfold manyP; omega)
theorem fromP_mono {n : Nat} {i j : Nat} (h : i ≤ j) : fromP n i ≤ fromP n j := by
  unfold fromP
  exact Nat.div_le_div_right (Nat.mul_le_mul_left _ h)
theorem fromP_le {n i : Nat} (hi : i ≤ manyP n) : fromP n i ≤ n := by
  by_cases hn : 1 ≤ n
  · have := fromP_mono (n := n) hi
    rwa [fromP_last hn] at this
  · have : n = 0 := by omega
    subst this
    simp [fromP]

section
variable {α : Type}
theorem cutL_length (l : List α) : (cutL l).length = manyP l.length := by simp [cutL]
theorem cutL_get (l : List α) (i : Nat) (hi : i < (cutL l).length) : (cutL l)[i] = (l.drop (fromP l.length i)).take (fromP l.length (i + 1) - fromP l.length i) := by simp [cutL]
theorem cutL_len {l : List α} {p : List α} (hp : p ∈ cutL l) : p.length ≤ 4 ∧ 1 ≤ p.length ∧ (2 ≤ l.length → 2 ≤ p.length) := by
  unfold cutL at hp
  obtain ⟨i, hi, rfl⟩ := List.mem_map.1 hp
  have hi := List.mem_range.1 hi
  have hn : 1 ≤ l.length := by unfold manyP at hi; omega
  have h := fromP_step (n := l.length) (i := i) hn
  have h2 := fromP_le (n := l.length) (i := i + 1) hi
  rw [List.length_take, List.length_drop]
  refine ⟨by omega, ?_, ?_⟩
  · have h1 := h.1; split at h1 <;> omega
  · intro h3
    have h1 := h.1
    rw [if_pos h3] at h1
    omega
theorem cutL_upto (l : List α) : ∀ k, k ≤ manyP l.length → ((cutL l).take k).flatten = l.take (fromP l.length k) := by
  intro k
  induction k with
  | zero => intro _; simp [fromP_zero]
  | succ k ih =>
    intro hk
    have hkl : k < (cutL l).length := by rw [cutL_length]; omega
    have hn : 1 ≤ l.length := by unfold manyP at hk; omega
    have h := fromP_step (n := l.length) (i := k) hn
    rw [List.take_succ_eq_append_getElem hkl, List.flatten_append, ih (by omega), cutL_get]
    simp only [List.flatten_cons, List.flatten_nil, List.append_nil]
    have hle : fromP l.length k ≤ fromP l.length (k + 1) := by have h1 := h.1; split at h1 <;> omega
    rw [← List.take_add]
    congr 1
    omega
theorem cutL_flatten (l : List α) : (cutL l).flatten = l := by
  by_cases hn : 1 ≤ l.length
  · have h := cutL_upto l (manyP l.length) (Nat.le_refl _)
    rw [List.take_of_length_le (by rw [cutL_length]; exact Nat.le_refl _), fromP_last hn, List.take_length] at h
    exact h
  · have : l = [] := List.length_eq_zero_iff.1 (by omega)
    subst this
    simp [cutL, manyP]
end

def leafT (ps : List (Int × Int)) : Tr := .nd (ps.map Prod.fst) (ps.map Prod.snd) []
def keyT (t : Tr) : Int := (headK t).getD 0
def innT (kids : List Tr) : Tr := .nd (kids.map keyT) [] kids
def lvl0 (l : List (Int × Int)) : List Tr := (cutL l).map leafT
def upT (ts : List Tr) : List Tr := (cutL ts).map innT
def noT : Tr := .nd [] [] []
def bldN : Nat → List Tr → Tr
  | 0, ts => ts.headD noT
  | n + 1, ts => if ts.length ≤ 1 then ts.headD noT else bldN n (upT ts)
def bldF (ts : List Tr) : Tr := bldN ts.length ts
def bldT (l : List (Int × Int)) : Tr := bldF (lvl0 l)
theorem upT_length (ts : List Tr) : (upT ts).length = manyP ts.length := by unfold upT; rw [List.length_map, cutL_length]
theorem manyP_half {n : Nat} (h : 2 ≤ n) : manyP n ≤ n / 2 ∧ 1 ≤ manyP n := by unfold manyP; omega
theorem bldN_fuel : ∀ (n m : Nat) (ts : List Tr), ts.length ≤ n → ts.length ≤ m → bldN n ts = bldN m ts := by
  intro n
  induction n with
  | zero =>
    intro m ts h1 h2
    cases m with
    | zero => rfl
    | succ m => rw [bldN, bldN, if_pos (by omega)]
  | succ n ih =>
    intro m ts h1 h2
    cases m with
    | zero => rw [bldN, bldN, if_pos (by omega)]
    | succ m =>
      rw [bldN, bldN]
      by_cases h : ts.length ≤ 1
      · rw [if_pos h, if_pos h]
      · rw [if_neg h, if_neg h]
        have := manyP_half (n := ts.length) (by omega)
        exact ih m (upT ts) (by rw [upT_length]; omega) (by rw [upT_length]; omega)
theorem bldF_end {ts : List Tr} (h : ts.length ≤ 1) : bldF ts = ts.headD noT := by
  unfold bldF
  match ts, h with
  | [], _ => rfl
  | [t], _ => rfl
theorem bldF_step {ts : List Tr} (h : 1 < ts.length) : bldF ts = bldF (upT ts) := by
  unfold bldF
  obtain ⟨n, hn⟩ : ∃ n, ts.length = n + 1 := ⟨ts.length - 1, by omega⟩
  have := manyP_half (n := ts.length) (by omega)
  rw [hn, bldN, if_neg (by omega)]
  exact bldN_fuel _ _ _ (by rw [upT_length]; omega) (Nat.le_refl _)

/-- A level: all as deep, each as great as it must be. -/
def LevOk (d : Nat) (ts : List Tr) : Prop := ∀ t ∈ ts, (∀ m, d ≤ m → deepT t m = d) ∧ sizedT t (if ts.length ≤ 1 then 0 else 2) = true
theorem pairsL_flat (tss : List (List Tr)) : pairsL tss.flatten = (tss.map pairsL).flatten := by
  induction tss with
  | nil => simp [pairsL]
  | cons x tss ih => rw [List.flatten_cons, pairsL_append, ih, List.map_cons, List.flatten_cons]
theorem pairsL_map {α : Type} (f : α → Tr) (l : List α) : pairsL (l.map f) = (l.map fun x => pairsT (f x)).flatten := by
  induction l with
  | nil => simp [pairsL]
  | cons x l ih => rw [List.map_cons, pairsL, ih, List.map_cons, List.flatten_cons]
theorem pairsT_leaf (ps : List (Int × Int)) : pairsT (leafT ps) = ps := by
  unfold leafT
  rw [pairsT, if_pos (show ([] : List Tr).length = 0 from rfl)]
  induction ps with
  | nil => rfl
  | cons x ps ih => rw [List.map_cons, List.map_cons, List.zip_cons_cons, ih]
theorem pairsT_inn {kids : List Tr} (h : 1 ≤ kids.length) : pairsT (innT kids) = pairsL kids := by
  unfold innT
  rw [pairsT, if_neg (by omega)]
theorem lvl0_pairs (l : List (Int × Int)) : pairsL (lvl0 l) = l := by
  unfold lvl0
  rw [pairsL_map]
  have : (fun x => pairsT (leafT x)) = id := by funext x; exact pairsT_leaf x
  rw [this, List.map_id, cutL_flatten]
theorem upT_pairs (ts : List Tr) : pairsL (upT ts) = pairsL ts := by
  unfold upT
  rw [pairsL_map]
  have : (cutL ts).map (fun x => pairsT (innT x)) = (cutL ts).map pairsL := by
    apply List.map_congr_left
    intro p hp
    exact pairsT_inn (cutL_len hp).2.1
  rw [this, ← pairsL_flat, cutL_flatten]
theorem lvl0_ok (l : List (Int × Int)) : LevOk 1 (lvl0 l) := by
  intro t ht
  unfold lvl0 at ht
  obtain ⟨p, hp, rfl⟩ := List.mem_map.1 ht
  have h := cutL_len hp
  refine ⟨fun m hm => ?_, ?_⟩
  · unfold leafT; rw [deepT, if_neg (show ¬ m = 0 by omega), deepL]
  · have hll : (lvl0 l).length = manyP l.length := by unfold lvl0; rw [List.length_map, cutL_length]
    unfold leafT
    rw [sizedT, List.length_map, List.length_map, if_pos (show ([] : List Tr).length = 0 from rfl), decide_eq_true rfl, Bool.and_true, decide_eq_true_eq]
    refine ⟨?_, h.1⟩
    split
    · omega
    · rename_i h1
      have : 2 ≤ l.length := by rw [hll] at h1; unfold manyP at h1; omega
      exact h.2.2 this
theorem sizedL_keys {kids : List Tr} (h : ∀ k ∈ kids, sizedT k 2 = true) : sizedL kids (kids.map keyT) = true := by
  induction kids with
  | nil => rfl
  | cons k kids ih =>
    rw [List.map_cons, sizedL, h k (by simp), Bool.true_and]
    obtain ⟨x, hx⟩ := head_sized (h k (by simp))
    have e : (headK k == (keyT k :: kids.map keyT).head?) = true := by
      rw [List.head?_cons, beq_iff_eq]
      unfold keyT
      rw [hx]; rfl
    rw [e, Bool.true_and]
    exact ih fun k' hk' => h k' (List.mem_cons_of_mem _ hk')
theorem upT_ok {d : Nat} {ts : List Tr} (h : LevOk d ts) (h2 : 1 < ts.length) (hd : 1 ≤ d) : LevOk (d + 1) (upT ts) := by
  intro t ht
  unfold upT at ht
  obtain ⟨p, hp, rfl⟩ := List.mem_map.1 ht
  have hlen := cutL_len hp
  have hmem : ∀ k ∈ p, k ∈ ts := fun k hk => by
    have h1 := cutL_flatten ts
    rw [← h1]
    exact List.mem_flatten.2 ⟨p, hp, hk⟩
  have hs : ∀ k ∈ p, sizedT k 2 = true := fun k hk => by
    have := (h k (hmem k hk)).2
    rwa [if_neg (by omega)] at this
  refine ⟨fun m hm => ?_, ?_⟩
  · have hdp : ∀ k ∈ p, deepT k (m - 1) = d := fun k hk => (h k (hmem k hk)).1 _ (by omega)
    unfold innT
    rw [deepT, if_neg (show ¬ m = 0 by omega)]
    match p, hlen.2.1, hdp with
    | k :: rest, _, hdp =>
      rw [deepL, hdp k (by simp), if_pos ⟨sameL_all rest (m - 1) d fun j hj => hdp _ (List.mem_cons_of_mem _ (List.getElem_mem hj)), by omega⟩]
  · have h2p := hlen.2.2 h2
    unfold innT
    rw [sizedT, List.length_map, if_neg (show ¬ p.length = 0 by omega), sizedL_keys hs, Bool.and_true]
    rw [Bool.and_eq_true, decide_eq_true_eq, decide_eq_true_eq]
    refine ⟨⟨?_, hlen.1⟩, rfl, rfl, h2p⟩
    split <;> omega
theorem bldF_ok : ∀ (j d : Nat) (ts : List Tr) (l : List (Int × Int)), LevOk d ts → 1 ≤ d → ts.length ≤ 2 ^ j → d + j ≤ 40 → pairsL ts = l →
    deepT (bldF ts) 40 ≠ 0 ∧ sizedT (bldF ts) 0 = true ∧ pairsT (bldF ts) = l := by
  intro j
  induction j with
  | zero =>
    intro d ts l h hd hl hj hp
    rw [bldF_end (by simpa using hl)]
    match ts, hl with
    | [], _ => subst hp; exact ⟨by decide, by decide, rfl⟩
    | [t], _ =>
      have h1 := h t (by simp)
      refine ⟨?_, by simpa using h1.2, ?_⟩
      · show deepT t 40 ≠ 0
        rw [h1.1 40 (by omega)]; omega
      · rw [← hp, pairsL, pairsL, List.append_nil]; rfl
  | succ j ih =>
    intro d ts l h hd hl hj hp
    by_cases h1 : ts.length ≤ 1
    · rw [bldF_end h1]
      match ts, h1 with
      | [], _ => subst hp; exact ⟨by decide, by decide, rfl⟩
      | [t], _ =>
        have h1 := h t (by simp)
        refine ⟨?_, by simpa using h1.2, ?_⟩
        · show deepT t 40 ≠ 0
          rw [h1.1 40 (by omega)]; omega
        · rw [← hp, pairsL, pairsL, List.append_nil]; rfl
    · rw [bldF_step (by omega)]
      refine ih (d + 1) (upT ts) l (upT_ok h (by omega) hd) (by omega) ?_ (by omega) (by rw [upT_pairs]; exact hp)
      have := manyP_half (n := ts.length) (by omega)
      rw [upT_length]
      rw [Nat.pow_succ] at hl
      omega
/-- The tree that is built of pairs that rise may be, and has them. -/
theorem bldT_ok {l : List (Int × Int)} (hl : l.length ≤ 1000000) (hp : (keysP l).Pairwise (· < ·)) : mayT16 (bldT l) = true ∧ pairsT (bldT l) = l := by
  have hll : (lvl0 l).length = manyP l.length := by unfold lvl0; rw [List.length_map, cutL_length]
  obtain ⟨h1, h2, h3⟩ := bldF_ok 20 1 (lvl0 l) l (lvl0_ok l) (Nat.le_refl _) (by rw [hll]; unfold manyP; omega) (by omega) (lvl0_pairs l)
  refine ⟨?_, h3⟩
  unfold mayT16
  show (decide (deepT (bldF (lvl0 l)) 40 ≠ 0) && sizedT (bldF (lvl0 l)) 0 && riseK none (keysP (pairsT (bldF (lvl0 l))))) = true
  rw [h2, h3, decide_eq_true h1, pw_riseK hp]; rfl
end Go.Proofs.Ytdlgpcjdaaeliaa
