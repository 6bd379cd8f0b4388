/- The plain law of even symbols: as often each, a power of two many: codes of one length. No program in sight. -/
import Derived.Test.YtpkbbbdbcedkfaaHufY
namespace Go.Proofs.Ytpkbbbdbcedkfaa

theorem initT_rep {n : Nat} {c : Int} (hc : 0 < c) : (initT (List.replicate n c)).length = n := by
  have : ∀ k, k ≤ n → (initTo (List.replicate n c) k).length = k := by
    intro k
    induction k with
    | zero => intro _; rfl
    | succ k ih =>
      intro hk
      have hlt : k < (List.replicate n c).length := by rw [List.length_replicate]; omega
      rw [initTo_yes hlt (by rw [List.getElem_replicate]; exact hc), List.length_append, ih (by omega)]; rfl
  have := this n (Nat.le_refl _)
  rw [← initTo_all, List.length_replicate]; exact this
theorem costL_rep (c : Int) (n : Nat) : ∀ l : List Int, l.length = n → costL (List.replicate n c) l = c * l.sum := by
  intro l hl
  have : ∀ k, k ≤ l.length → costL (List.replicate n c) (l.take k) = c * (l.take k).sum := by
    intro k
    induction k with
    | zero => intro _; simp [costL, sumG]
    | succ k ih =>
      intro hk
      have hlt : k < l.length := by omega
      have e : costL (List.replicate n c) (l.take (k + 1)) = costL (List.replicate n c) (l.take k) + (List.replicate n c)[k]?.getD 0 * l[k] := by
        unfold costL
        rw [sumG_take _ l 0 k hlt, Nat.zero_add]
      rw [e, ih (by omega), List.getElem?_replicate, if_pos (by omega), Option.getD_some, List.take_succ_eq_append_getElem hlt, List.sum_append, Int.mul_add]; simp
  have := this l.length (Nat.le_refl _)
  rwa [List.take_length] at this
theorem line_nat : ∀ p, p < 9 → ∀ x, x < 16 → 1 ≤ x → p2 (15 - p) * (2 + p - x) ≤ 2 * p2 (15 - x) ∧ (2 * p2 (15 - x) = p2 (15 - p) * (2 + p - x) → (p ≤ x)) := by decide
theorem kraft_cons (x : Int) (l : List Int) : kraftL (x :: l) = oneK x + kraftL l := by simp [kraftL]
/-- The sum of lengths that fill so much. -/
theorem line_sum (p : Nat) (hp : p < 9) : ∀ l : List Int, (∀ x ∈ l, 1 ≤ x ∧ x ≤ 15) → p2 (15 - p) * ((2 + p) * l.length - l.sum) ≤ 2 * kraftL l ∧ (2 * kraftL l = p2 (15 - p) * ((2 + p) * l.length - l.sum) → ∀ x ∈ l, (p : Int) ≤ x) := by
  intro l
  induction l with
  | nil => intro _; simp [kraftL]
  | cons x l ih =>
    intro h
    obtain ⟨i1, i2⟩ := ih fun y hy => h y (List.mem_cons_of_mem _ hy)
    have hx := h x (List.mem_cons_self ..)
    obtain ⟨n, hn⟩ := Int.eq_ofNat_of_zero_le (a := x) (by omega)
    obtain ⟨l1, l2⟩ := line_nat p hp n (by omega) (by omega)
    have hk : oneK x = p2 (15 - n) := by unfold oneK; rw [if_pos (by omega), hn]; rfl
    have e : p2 (15 - p) * ((2 + p) * ((x :: l).length : Int) - (x :: l).sum) = p2 (15 - p) * ((2 + p) * (l.length : Int) - l.sum) + p2 (15 - p) * (2 + p - n) := by
      rw [← Int.mul_add, List.length_cons, List.sum_cons, hn]
      congr 1
      rw [show ((l.length + 1 : Nat) : Int) = (l.length : Int) + 1 by omega, Int.mul_add]; omega
    rw [kraft_cons, hk, e]
    refine ⟨by omega, fun heq y hy => ?_⟩
    rcases List.mem_cons.1 hy with rfl | hy
    · have := l2 (by omega); omega
    · exact i2 (by omega) y hy
theorem sum_ge (p : Int) : ∀ l : List Int, (∀ x ∈ l, p ≤ x) → p * l.length ≤ l.sum ∧ (l.sum = p * l.length → ∀ x ∈ l, x = p) := by
  intro l
  induction l with
  | nil => intro _; simp
  | cons x l ih =>
    intro h
    obtain ⟨i1, i2⟩ := ih fun y hy => h y (List.mem_cons_of_mem _ hy)
    have hx := h x (List.mem_cons_self ..)
    have e : p * ((x :: l).length : Int) = p * l.length + p := by rw [List.length_cons, show ((l.length + 1 : Nat) : Int) = (l.length : Int) + 1 by omega, Int.mul_add, Int.mul_one]
    rw [e, List.sum_cons]
    refine ⟨by omega, fun heq y hy => ?_⟩
    rcases List.mem_cons.1 hy with rfl | hy
    · omega
    · exact i2 (by omega) y hy
theorem sum_replicate' (n : Nat) (c : Int) : (List.replicate n c).sum = c * n := by
  induction n with
  | zero => simp
  | succ n ih => rw [List.replicate_succ, List.sum_cons, ih, show ((n + 1 : Nat) : Int) = (n : Int) + 1 by omega, Int.mul_add, Int.mul_one]; omega
theorem kraft_replicate (n : Nat) (c : Int) : kraftL (List.replicate n c) = oneK c * n := by
  induction n with
  | zero => simp [kraftL]
  | succ n ih => rw [List.replicate_succ, kraft_cons, ih, show ((n + 1 : Nat) : Int) = (n : Int) + 1 by omega, Int.mul_add, Int.mul_one]; omega
theorem lensR_rep {f L : List Int} (h : LensR f L) : ∀ {n : Nat} {c : Int}, f = List.replicate n c → 0 < c → ∃ c', 0 < c' ∧ OnceR (List.replicate n c') L ∧ maxOk L := by
  induction h with
  | stop h hm => intro n c hf hc; subst hf; exact ⟨c, hc, h, hm⟩
  | halve _ _ _ ih =>
    intro n c hf hc
    refine ih (n := n) (c := (c + 1) / 2) ?_ (by omega)
    rw [hf]; simp [halve]
/-- Codes of one length. -/
theorem even_law {p : Nat} (hp1 : 1 ≤ p) (hp : p < 9) {n : Nat} (hn : (n : Int) = p2 p) {c : Int} (hc : 0 < c) {L : List Int} (h : LensR (List.replicate n c) L) : L = List.replicate n (p : Int) := by
  obtain ⟨c', hc', hon, hmx⟩ := lensR_rep h rfl hc
  have hlen : L.length = n := by rw [onceR_length hon, List.length_replicate]
  have hf0 : ∀ x ∈ List.replicate n c', 0 ≤ x := fun x hx => by rw [List.eq_of_mem_replicate hx]; omega
  have hn2 : 2 ≤ n := by have := p2_mono (m := 1) (n := p) hp1; have e : p2 1 = 2 := rfl; omega
  obtain ⟨f1, f2, _⟩ := once_full hon hmx hf0
  rw [initT_rep hc'] at f2
  have hk := f2 hn2
  have hpos : ∀ x ∈ L, 1 ≤ x ∧ x ≤ 15 := fun x hx => by
    obtain ⟨i, hi, rfl⟩ := List.getElem_of_mem hx
    have := (f1 i (by rw [List.length_replicate]; omega) hi).1.2 (by rw [List.getElem_replicate]; exact hc')
    have := hmx _ hx
    omega
  have hok : oneK (p : Int) = p2 (15 - p) := by unfold oneK; rw [if_pos (by omega)]; rfl
  have hpp : p2 (15 - p) * p2 p = 32768 := by rw [← p2_add, show 15 - p + p = 15 by omega]; decide
  have hfit : Fits (List.replicate n c') (List.replicate n (p : Int)) := by
    refine ⟨by simp, fun x hx => by rw [List.eq_of_mem_replicate hx]; omega, fun i hi hi' _ => by rw [List.getElem_replicate]; omega, ?_⟩
    rw [kraft_replicate, hok, hn, hpp]; omega
  have hcost := once_least hon hf0 hfit
  rw [costL_rep c' n L hlen, costL_rep c' n _ (by simp), sum_replicate'] at hcost
  have hsum : L.sum ≤ (p : Int) * n := by
    by_cases q : L.sum ≤ (p : Int) * n
    · exact q
    · have := Int.mul_lt_mul_of_pos_left (c := c') (by omega : (p : Int) * n < L.sum) hc'; omega
  obtain ⟨s1, s2⟩ := line_sum p hp L hpos
  rw [hk, hlen] at s1 s2
  have e1 : p2 (15 - p) * ((2 + (p : Int)) * n - L.sum) = 2 * 32768 + p2 (15 - p) * ((p : Int) * n - L.sum) := by
    have : (2 + (p : Int)) * n - L.sum = 2 * n + ((p : Int) * n - L.sum) := by rw [Int.add_mul]; omega
    rw [this, Int.mul_add, hn]
    have : p2 (15 - p) * (2 * p2 p) = 2 * 32768 := by rw [Int.mul_left_comm, hpp]
    rw [this]
  have hpq := p2_pos (15 - p)
  have h0 : 0 ≤ p2 (15 - p) * ((p : Int) * n - L.sum) := Int.mul_nonneg (by omega) (by omega)
  have hz : p2 (15 - p) * ((p : Int) * n - L.sum) = 0 := by omega
  have hall := s2 (by omega)
  obtain ⟨_, g2⟩ := sum_ge (p : Int) L hall
  have hge := (sum_ge (p : Int) L hall).1
  rw [hlen] at hge g2
  have := g2 (by omega)
  exact List.eq_replicate_iff.2 ⟨hlen, this⟩
end Go.Proofs.Ytpkbbbdbcedkfaa
