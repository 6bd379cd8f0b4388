/- The plain law of depths: how high a tree is; halving comes to an end. No program in sight. -/
import Derived.Test.YtpkbbbdbcedkfaaHufP
import Derived.Test.YtpkbbbdbcedkfaaCanP
namespace Go.Proofs.Ytpkbbbdbcedkfaa

def heightT : HT → Nat
  | .leaf _ _ => 0
  | .node l r => max (heightT l) (heightT r) + 1
def fb : Nat → Int
  | 0 => 1
  | 1 => 2
  | n + 2 => fb (n + 1) + fb n
theorem fb_pos : ∀ n, 1 ≤ fb n ∧ fb n ≤ fb (n + 1) := by
  intro n
  induction n with
  | zero => decide
  | succ n ih => exact ⟨by omega, by show fb (n + 1) ≤ fb (n + 1) + fb n; omega⟩
theorem fb_mono {m n : Nat} (h : m ≤ n) : fb m ≤ fb n := by
  induction n with
  | zero => obtain rfl : m = 0 := by omega
            exact Int.le_refl _
  | succ n ih =>
    by_cases e : m = n + 1
    · subst e; exact Int.le_refl _
    · have := ih (by omega); have := (fb_pos n).2; omega
theorem fb_16 : fb 16 = 2584 := by decide
/-- The weight of the heavier part. -/
def mc : HT → Int
  | .leaf _ _ => 0
  | .node l r => max (wt l) (wt r)
def OkT (t : HT) : Prop := 0 < wt t ∧ fb (heightT t) ≤ wt t ∧ (1 ≤ heightT t → fb (heightT t - 1) ≤ mc t)
def Far (t u : HT) : Prop := mc t ≤ wt u ∧ mc u ≤ wt t
def OkF (F : List HT) : Prop := (∀ t ∈ F, OkT t) ∧ F.Pairwise Far
theorem okF_perm {F G : List HT} (h : F.Perm G) (hF : OkF F) : OkF G :=
  ⟨fun t ht => hF.1 t (h.mem_iff.2 ht), (h.pairwise_iff fun hab => ⟨hab.2, hab.1⟩).1 hF.2⟩
theorem okT_node {a b : HT} (ha : OkT a) (hb : OkT b) (hf : Far a b) : OkT (.node a b) := by
  obtain ⟨a1, a2, a3⟩ := ha
  obtain ⟨b1, b2, b3⟩ := hb
  have key : ∀ x y : HT, 0 < wt x → fb (heightT x) ≤ wt x → (1 ≤ heightT x → fb (heightT x - 1) ≤ mc x) → 0 < wt y → mc x ≤ wt y → fb (heightT x + 1) ≤ wt x + wt y := by
    intro x y x1 x2 x3 y1 hxy
    cases hh : heightT x with
    | zero => have : fb (0 + 1) = 2 := rfl; omega
    | succ n =>
      have h3 := x3 (by omega)
      rw [hh, Nat.add_sub_cancel] at h3
      rw [hh] at x2
      show fb (n + 1) + fb n ≤ _
      omega
  refine ⟨by show 0 < wt a + wt b; omega, ?_, fun _ => ?_⟩
  · show fb (max (heightT a) (heightT b) + 1) ≤ wt a + wt b
    rcases Nat.le_total (heightT a) (heightT b) with h | h
    · rw [Nat.max_eq_right h]
      have := key b a b1 b2 b3 a1 hf.2; omega
    · rw [Nat.max_eq_left h]
      exact key a b a1 a2 a3 b1 hf.1
  · show fb (max (heightT a) (heightT b) + 1 - 1) ≤ max (wt a) (wt b)
    rw [Nat.add_sub_cancel]
    rcases Nat.le_total (heightT a) (heightT b) with h | h
    · rw [Nat.max_eq_right h]; omega
    · rw [Nat.max_eq_left h]; omega
theorem red_ok {F : List HT} {T : HT} (h : Red F T) : OkF F → OkT T := by
  induction h with
  | one t => intro h; exact h.1 t (List.mem_singleton.2 rfl)
  | @step F a b R T hp ha hb _ ih =>
    intro hF
    have hG := okF_perm hp hF
    obtain ⟨h1, h2⟩ := hG
    have oa := h1 a (List.mem_cons_self ..)
    have ob := h1 b (List.mem_cons_of_mem _ (List.mem_cons_self ..))
    have p1 := List.pairwise_cons.1 h2
    have p2 := List.pairwise_cons.1 p1.2
    apply ih
    refine ⟨fun t ht => ?_, List.pairwise_cons.2 ⟨fun u hu => ?_, p2.2⟩⟩
    · rcases List.mem_cons.1 ht with rfl | ht
      · exact okT_node oa ob (p1.1 b (List.mem_cons_self ..))
      · exact h1 t (List.mem_cons_of_mem _ (List.mem_cons_of_mem _ ht))
    · have q1 := leT_wt (ha u (List.mem_cons_of_mem _ hu))
      have q2 := leT_wt (hb u hu)
      have q3 := (p1.1 u (List.mem_cons_of_mem _ hu)).2
      have := oa.1
      have := ob.1
      exact ⟨by show max (wt a) (wt b) ≤ wt u; omega, by show mc u ≤ wt a + wt b; omega⟩
theorem initT_ok (f : List Int) : OkF (initT f) := by
  have hl : ∀ t ∈ initT f, 0 < wt t ∧ heightT t = 0 ∧ mc t = 0 := fun t ht => by
    obtain ⟨i, _, h, rfl⟩ := initT_mem.1 ht
    exact ⟨h, rfl, rfl⟩
  refine ⟨fun t ht => ?_, ?_⟩
  · obtain ⟨h1, h2, h3⟩ := hl t ht
    refine ⟨h1, by rw [h2]; show 1 ≤ wt t; omega, fun h => by omega⟩
  · have : ∀ G : List HT, (∀ t ∈ G, 0 < wt t ∧ heightT t = 0 ∧ mc t = 0) → G.Pairwise Far := by
      intro G
      induction G with
      | nil => intro _; exact List.Pairwise.nil
      | cons t G ih =>
        intro h
        refine List.pairwise_cons.2 ⟨fun u hu => ?_, ih fun x hx => h x (List.mem_cons_of_mem _ hx)⟩
        obtain ⟨a1, _, a3⟩ := h t (List.mem_cons_self ..)
        obtain ⟨b1, _, b3⟩ := h u (List.mem_cons_of_mem _ hu)
        exact ⟨by omega, by omega⟩
    exact this _ hl

/-- Depths are no more than the height. -/
theorem markL_le (t : HT) : ∀ (d : Int) L, ∀ x ∈ markL t d L, x ∈ L ∨ (d ≤ x ∧ x ≤ d + heightT t) := by
  induction t with
  | leaf w n =>
    intro d L x hx
    rcases List.mem_or_eq_of_mem_set hx with h | h
    · exact Or.inl h
    · right; subst h; simp [heightT]
  | node l r ihl ihr =>
    intro d L x hx
    have hh : ((heightT (.node l r) : Nat) : Int) = max (heightT l : Int) (heightT r) + 1 := by show (((max (heightT l) (heightT r) + 1 : Nat)) : Int) = _; omega
    rcases ihr _ _ x hx with h | h
    · rcases ihl _ _ x h with h | h
      · exact Or.inl h
      · right; omega
    · right; omega
theorem red_wt {F : List HT} {T : HT} (h : Red F T) : wt T = (F.map wt).sum := by
  have hs : ∀ {F G : List HT}, F.Perm G → (F.map wt).sum = (G.map wt).sum := by
    intro F G h
    induction h with
    | nil => rfl
    | cons x _ ih => simp only [List.map_cons, List.sum_cons, ih]
    | swap x y l => simp only [List.map_cons, List.sum_cons]; omega
    | trans _ _ ih1 ih2 => exact ih1.trans ih2
  induction h with
  | one t => simp
  | step hp _ _ _ ih =>
    rw [ih, hs hp]
    simp only [List.map_cons, List.sum_cons, wt]; omega
theorem initTo_wt (f : List Int) (hf : ∀ x ∈ f, 0 ≤ x) : ∀ k, k ≤ f.length → ((initTo f k).map wt).sum = (f.take k).sum := by
  intro k
  induction k with
  | zero => intro _; simp [initTo_zero]
  | succ k ih =>
    intro hk
    have hlt : k < f.length := by omega
    have h0 := hf f[k] (List.getElem_mem hlt)
    rw [List.take_succ_eq_append_getElem hlt, List.sum_append, ← ih (by omega)]
    by_cases h : 0 < f[k]
    · rw [initTo_yes hlt h, List.map_append, List.sum_append]; simp [wt]
    · rw [initTo_no hlt h]; simp; omega
theorem initT_wt (f : List Int) (hf : ∀ x ∈ f, 0 ≤ x) : ((initT f).map wt).sum = f.sum := by
  have := initTo_wt f hf f.length (Nat.le_refl _)
  rwa [initTo_all, List.take_length] at this

def maxOk (L : List Int) : Prop := ∀ x ∈ L, x ≤ 15
def halve (f : List Int) : List Int := f.map fun n => (n + 1) / 2
theorem halve_length (f : List Int) : (halve f).length = f.length := by simp [halve]
theorem halve_nonneg {f : List Int} (hf : ∀ x ∈ f, 0 ≤ x) : ∀ x ∈ halve f, 0 ≤ x := fun x hx => by
  obtain ⟨n, hn, rfl⟩ := List.mem_map.1 hx
  have := hf n hn; omega
theorem halve_le {f : List Int} {m : Int} (hm : 1 ≤ m) (hf : ∀ x ∈ f, x ≤ m) : ∀ x ∈ halve f, x ≤ m := fun x hx => by
  obtain ⟨n, hn, rfl⟩ := List.mem_map.1 hx
  have := hf n hn; omega
theorem halve_sum (f : List Int) (hf : ∀ x ∈ f, 0 ≤ x) : (halve f).sum ≤ f.sum ∧ ((halve f).sum = f.sum → f.sum ≤ f.length) := by
  induction f with
  | nil => simp [halve]
  | cons x f ih =>
    obtain ⟨h1, h2⟩ := ih fun y hy => hf y (List.mem_cons_of_mem _ hy)
    have hx := hf x (List.mem_cons_self ..)
    have e : halve (x :: f) = (x + 1) / 2 :: halve f := rfl
    rw [e]
    simp only [List.sum_cons, List.length_cons]
    refine ⟨by omega, fun h => ?_⟩
    have h3 := h2 (by omega)
    omega
/-- If a code is too long, halving makes all together less. -/
theorem halve_lt {f L : List Int} (h : OnceR f L) (hf : ∀ x ∈ f, 0 ≤ x) (hl : f.length ≤ 1000) (hd : ¬ maxOk L) : (halve f).sum < f.sum := by
  have hsum := halve_sum f hf
  have hbig : 2584 ≤ f.sum := by
    have hx : ∃ x ∈ L, 15 < x := by
      unfold maxOk at hd
      simp only [Classical.not_forall] at hd
      obtain ⟨x, hx, h⟩ := hd
      exact ⟨x, hx, by omega⟩
    obtain ⟨x, hx, hx15⟩ := hx
    rcases h with ⟨_, rfl⟩ | ⟨_, _, _, rfl⟩ | ⟨_, T, hT, rfl⟩
    · have := List.eq_of_mem_replicate hx; omega
    · rcases List.mem_or_eq_of_mem_set hx with h | h
      · have := List.eq_of_mem_replicate h; omega
      · omega
    · rcases markL_le T 0 _ x hx with h | h
      · have := List.eq_of_mem_replicate h; omega
      · have h1 := (red_ok hT (initT_ok f)).2.1
        rw [red_wt hT, initT_wt f hf] at h1
        have h2 := fb_mono (m := 16) (n := heightT T) (by omega)
        rw [fb_16] at h2
        omega
  have : f.sum ≠ (halve f).sum := fun e => by
    have := hsum.2 e.symm; omega
  omega
/-- What f gives: halved as often as a code is too long. -/
inductive LensR : List Int → List Int → Prop where
  | stop {f L : List Int} (h : OnceR f L) (hm : maxOk L) : LensR f L
  | halve {f L0 L : List Int} (h : OnceR f L0) (hd : ¬ maxOk L0) (hr : LensR (halve f) L) : LensR f L
theorem lensR_det {f L : List Int} (h : LensR f L) : ∀ {L'}, LensR f L' → L = L' := by
  induction h with
  | stop h hm =>
    intro L' h'
    cases h' with
    | stop h2 _ => exact onceR_det h h2
    | halve h2 hd _ => obtain rfl := onceR_det h h2; exact absurd hm hd
  | halve h hd _ ih =>
    intro L' h'
    cases h' with
    | stop h2 hm => obtain rfl := onceR_det h h2; exact absurd hm hd
    | halve _ _ hr => exact ih hr
theorem lensR_length {f L : List Int} (h : LensR f L) : L.length = f.length := by
  induction h with
  | stop h _ => exact onceR_length h
  | halve _ _ _ ih => rw [ih, halve_length]
/-- Just the symbols that are there are there behind a halving. -/
theorem halve_there {f : List Int} {i : Nat} (hi : i < f.length) (h0 : 0 ≤ f[i]) : 0 < (halve f)[i]'(by rw [halve_length]; exact hi) ↔ 0 < f[i] := by
  simp only [halve, List.getElem_map]; omega
/-- Lengths come of depths that are not too great. -/
theorem lensR_once {f L : List Int} (h : LensR f L) : ∃ g, OnceR g L ∧ maxOk L ∧ g.length = f.length ∧ ((∀ x ∈ f, 0 ≤ x) → (∀ x ∈ g, 0 ≤ x) ∧ ∀ i (hi : i < f.length) (hi' : i < g.length), 0 < g[i] ↔ 0 < f[i]) := by
  induction h with
  | @stop f L h hm => exact ⟨f, h, hm, rfl, fun hf => ⟨hf, fun i hi hi' => Iff.rfl⟩⟩
  | @halve f L0 L h hd _ ih =>
    obtain ⟨g, h1, h2, h3, h4⟩ := ih
    refine ⟨g, h1, h2, by rw [h3, halve_length], fun hf => ?_⟩
    obtain ⟨k1, k2⟩ := h4 (halve_nonneg hf)
    refine ⟨k1, fun i hi hi' => ?_⟩
    have := k2 i (by rw [halve_length]; exact hi) hi'
    rw [this]
    exact halve_there hi (hf _ (List.getElem_mem hi))
end Go.Proofs.Ytpkbbbdbcedkfaa
