/- Contracts: Mark, the program's and the reference's. Conditions: numbers fit. -/
import Derived.Test.YtddbcpmhgjkjpaaRunsC
namespace Go.Proofs.Ytddbcpmhgjkjpaa
open Go.RowKit

theorem fits_any_true {bs : List Bool} {P M : Nat} (h : P + M ≤ bs.length) : ((bs.drop P).take M).any id = !fits bs P M := by
  unfold fits
  rw [show decide (P + M ≤ bs.length) = true from decide_eq_true h, Bool.true_and]
  generalize (bs.drop P).take M = l
  induction l with
  | nil => rfl
  | cons b l ih => simp only [List.any_cons, List.all_cons, ih, id]; cases b <;> simp

/-- A row of the call's own, one place made used. -/
theorem markP_succ {bs : List Bool} {P k : Nat} (h : P + k < bs.length) : (markP bs P k).set (P + k) true = markP bs P (k + 1) := by
  apply List.ext_getElem
  · rw [List.length_set, markP_length (by omega), markP_length (by omega)]
  · intro i h1 h2
    have g : ∀ (a n : Nat) (ha : a + n ≤ bs.length) (hi : i < (markP bs a n).length), (markP bs a n)[i] = (if a ≤ i ∧ i < a + n then true else bs.getD i true) := fun a n ha hi => by
      rw [← markP_get ha, List.getD_eq_getElem?_getD, List.getElem?_eq_getElem hi]; rfl
    rw [List.length_set] at h1
    rw [List.getElem_set, g P (k + 1) (by omega) h2, g P k (by omega) h1]
    by_cases e : P + k = i
    · rw [if_pos e, if_pos (by omega)]
    · rw [if_neg e]
      by_cases c : P ≤ i ∧ i < P + k
      · rw [if_pos c, if_pos (by omega)]
      · rw [if_neg c, if_neg (by omega)]
theorem markP_zero (bs : List Bool) (P : Nat) : markP bs P 0 = bs := by simp [markP]

theorem fitsI_nats {bs : List Bool} {p m : Int} (h : fitsI bs p m = true) : ∃ P M : Nat, p = P ∧ m = M ∧ 1 ≤ M ∧ P + M ≤ bs.length ∧ fits bs P M = true := by
  unfold fitsI at h
  rw [Bool.and_eq_true, decide_eq_true_eq] at h
  exact ⟨p.toNat, m.toNat, by omega, by omega, by omega, (fits_iff.1 h.2).1, h.2⟩

end Go.Proofs.Ytddbcpmhgjkjpaa
