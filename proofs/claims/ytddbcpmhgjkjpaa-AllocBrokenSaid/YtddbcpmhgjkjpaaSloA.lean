/- Rows of slots: four cells each; slices that read as tables. No condition. -/
import Derived.Test.YtddbcpmhgjkjpaaSloP
import Derived.Test.YtddbcpmhgjkjpaaSl2
import Derived.Test.YtddbcpmhgjkjpaaRunsB
namespace Go.Proofs.Ytddbcpmhgjkjpaa
open Go.RowKit

abbrev useE : Us → List Value := fun u => [.int .i64 u.1, .int .i64 u.2.1, .int .i64 u.2.2.1, .bool u.2.2.2]
def cells4 (l : List Us) : List Value := l.flatMap useE
theorem cells4_cons (c : Us) (l : List Us) : cells4 (c :: l) = .int .i64 c.1 :: .int .i64 c.2.1 :: .int .i64 c.2.2.1 :: .bool c.2.2.2 :: cells4 l := rfl
theorem cells4_append (a b : List Us) : cells4 (a ++ b) = cells4 a ++ cells4 b := by simp [cells4]
theorem cells4_length (l : List Us) : (cells4 l).length = l.length * 4 := by
  induction l with
  | nil => rfl
  | cons t l ih => rw [cells4_cons]; simp only [List.length_cons, ih]; omega
theorem cells4_get (l : List Us) : ∀ i (hi : i < l.length), (cells4 l)[i * 4]? = some (.int .i64 l[i].1) ∧ (cells4 l)[i * 4 + 1]? = some (.int .i64 l[i].2.1) ∧ (cells4 l)[i * 4 + 2]? = some (.int .i64 l[i].2.2.1) ∧ (cells4 l)[i * 4 + 3]? = some (.bool l[i].2.2.2) := by
  induction l with
  | nil => intro i hi; simp at hi
  | cons t l ih =>
    intro i hi
    rw [cells4_cons]
    rcases i with _ | i
    · exact ⟨rfl, rfl, rfl, rfl⟩
    · have := ih i (by simpa using hi)
      rw [show (i + 1) * 4 = i * 4 + 1 + 1 + 1 + 1 by omega]
      simpa using this
theorem cells4_take (l : List Us) : ∀ k, cells4 (l.take k) = (cells4 l).take (k * 4) := by
  induction l with
  | nil => intro k; simp [cells4]
  | cons t l ih =>
    intro k
    cases k with
    | zero => simp [cells4]
    | succ k => rw [List.take_succ_cons, cells4_cons, cells4_cons, show (k + 1) * 4 = k * 4 + 1 + 1 + 1 + 1 by omega, List.take_succ_cons, List.take_succ_cons, List.take_succ_cons, List.take_succ_cons, ih]
theorem cells4_drop (l : List Us) : ∀ k, cells4 (l.drop k) = (cells4 l).drop (k * 4) := by
  induction l with
  | nil => intro k; simp [cells4]
  | cons t l ih =>
    intro k
    cases k with
    | zero => simp
    | succ k => rw [List.drop_succ_cons, cells4_cons, show (k + 1) * 4 = k * 4 + 1 + 1 + 1 + 1 by omega, List.drop_succ_cons, List.drop_succ_cons, List.drop_succ_cons, List.drop_succ_cons, ih]
/-- The third cell of one slot is laid anew. -/
theorem cells4_set (l : List Us) (c : Int) : ∀ k (hk : k < l.length), (cells4 l).set (k * 4 + 2) (.int .i64 c) = cells4 (l.set k (l[k].1, l[k].2.1, c, l[k].2.2.2)) := by
  induction l with
  | nil => intro k hk; simp at hk
  | cons t l ih =>
    intro k hk
    rcases k with _ | k
    · rfl
    · have := ih k (by simpa using hk)
      rw [show (k + 1) * 4 + 2 = (k * 4 + 2) + 1 + 1 + 1 + 1 by omega, cells4_cons, List.set_cons_succ, List.set_cons_succ, List.set_cons_succ, List.set_cons_succ, List.set_cons_succ, cells4_cons, this]; rfl
theorem cells4_one (l : List Us) : ∀ u ∈ cells4 l, u.oneCell' = true := by
  intro u hu
  obtain ⟨t, ht, hu⟩ := List.mem_flatMap.1 hu
  simp only [useE, List.mem_cons, List.not_mem_nil, or_false] at hu
  rcases hu with rfl | rfl | rfl | rfl <;> rfl
/-- A slice that reads as a table. -/
abbrev UseV (w : World) (v : Value) (l : List Us) : Prop := SlOf w v 4 useE l
theorem info_use : (Try.prog.info? 41).map (fun i => (i.zero, i.size, i.bytes)) = some (some (.agg #[.int .i64 0, .int .i64 0, .int .i64 0, .bool false]), 4, 32) := by kernel_rfl
/-- The cells of one slot. -/
theorem use_at {w : World} {a : Option Addr} {n cap : Nat} {l : List Us} (hv : UseV w (.slice a n cap) l) {k : Nat} (hk : k < l.length) :
    ∃ b off, a = some ⟨b, off, none⟩ ∧ b < w.heap.size ∧ w.cell? ⟨b, off + k * 4, none⟩ = some (.int .i64 l[k].1) ∧ w.cell? ⟨b, off + k * 4 + 1, none⟩ = some (.int .i64 l[k].2.1) ∧ w.cell? ⟨b, off + k * 4 + 2, none⟩ = some (.int .i64 l[k].2.2.1) ∧ w.cell? ⟨b, off + k * 4 + 3, none⟩ = some (.bool l[k].2.2.2) := by
  obtain ⟨a', cap', hv', hl, hn, hc⟩ := hv
  injection hv' with h1 h2 h3
  subst h1
  rcases hc with rfl | ⟨b, off, rfl, hb, hcell⟩
  · simp at hk
  · exact ⟨b, off, rfl, hb, by simpa using hcell k hk 0 (by omega), by simpa [Nat.add_assoc] using hcell k hk 1 (by omega), by simpa [Nat.add_assoc] using hcell k hk 2 (by omega), by simpa [Nat.add_assoc] using hcell k hk 3 (by omega)⟩
/-- A row of the call's own reads as a table. -/
theorem use_of_owns {w : World} {base e n : Nat} {v : Value} {l : List Us} (h : w.ownsRow base e 4 v n (cells4 l)) : UseV w v l ∧ n = l.length := by
  obtain ⟨hl, h⟩ := h
  rw [cells4_length] at hl
  obtain rfl : n = l.length := by omega
  refine ⟨?_, rfl⟩
  rcases h with ⟨rfl, h0⟩ | ⟨g, cap, cur, rfl, hg, hc, hn, hm, hs, ht⟩
  · obtain rfl := List.length_eq_zero_iff.1 h0
    exact sl_nil fun _ => rfl
  · refine ⟨_, cap, rfl, hn, nofun, Or.inr ⟨g, 0, rfl, ?_, fun i hi j hj => ?_⟩⟩
    · rcases Nat.lt_or_ge g w.heap.size with h | h
      · exact h
      · rw [Array.getElem?_eq_none h] at hc; cases hc
    · have h1 : (cur.toList.take (l.length * 4))[i * 4 + j]? = (cells4 l)[i * 4 + j]? := by rw [ht]
      rw [List.getElem?_take_of_lt (by omega)] at h1
      have h2 : (cells4 l)[i * 4 + j]? = (useE l[i])[j]? := by
        have := cells4_get l i hi
        rcases j with _ | _ | _ | _ | j
        · exact this.1
        · exact this.2.1
        · exact this.2.2.1
        · exact this.2.2.2
        · omega
      rw [h2] at h1
      simp only [World.cell?, hc, Nat.zero_add]
      simpa using h1
theorem below_drewN9 {B : Nat} {a w : World} (h : Below B a w) (n : Nat) : Below B a (w.drewN n) := h.trans ⟨rfl, rfl, rfl, Nat.le_refl _, fun _ _ => rfl⟩
theorem below_step9 {w a b : World} (h : Below w.heap.size w a) (h2 : Below a.heap.size a b) : Below w.heap.size w b := h.trans (h2.mono h.size)
end Go.Proofs.Ytddbcpmhgjkjpaa
