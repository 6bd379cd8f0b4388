/- An array of one-cell elements, by value, opened: its elements as a list. No condition; no program. -/
import Derived.Test.YtdbhmffiojchcaaOpen
import Derived.Lib.LaidU8
namespace Go.Proofs.Ytdbhmffiojchcaa
open Go.ChangeShapes Go.WideShapes Go.ChangeAt Go.RowKit Go.Deep Go.Lib

section
variable {H : Type} {enc : TypeId × Value → H} {P : Program} {W : World}
theorem arr_open {α : Type} {b0 : Nat} {t e : TypeId} {n : Nat} {v : Value} {d : DataW H} {p : List MemPlace} (E : α → Value) (ht : P.underlying t = some (.array n e)) (hce : P.cellsOf e = 1) (hct : P.cellsOf t = n)
    (hE : ∀ m c y, DataW.trod enc P W 0 (fun _ => true) true m e [c] = some y → ∃ x, c = E x)
    (hv : Value.okWide P W .any b0 t v) (h : DataW.Trod enc P W 0 (fun _ => true) true t v d p) : ∃ xs : List α, xs.length = n ∧ v = .agg (xs.map E).toArray := by
  simp only [Value.okWide, ht] at hv
  obtain ⟨cs, rfl, hsz, _⟩ := hv
  rw [hct] at hsz
  obtain ⟨fuel, hf⟩ := h
  cases fuel with
  | zero => simp [DataW.trod] at hf
  | succ fuel =>
    simp only [DataW.trod, ht] at hf
    split at hf
    · obtain ⟨ys, hm, _⟩ := Option.map_eq_some_iff.1 hf
      obtain ⟨xs, hlen, hxs⟩ := exists_list (α := α) n (fun i x => cs.toList[i]? = some (E x)) (fun i hi => by
        obtain ⟨b, _, hb⟩ := mapM_at hm i i (by simp [hi])
        rw [hce] at hb
        have hlt : i < cs.toList.length := by simpa [hsz] using hi
        have e1 : ((Value.agg cs).cells.toList.drop (i * 1)).take 1 = [cs.toList[i]] := by
          simp only [Value.cells, Nat.mul_one]
          rw [List.drop_eq_getElem_cons hlt]
          rfl
        rw [e1] at hb
        obtain ⟨x, hx⟩ := hE _ _ _ hb
        exact ⟨x, by rw [List.getElem?_eq_getElem hlt, hx]⟩)
      refine ⟨xs, hlen, ?_⟩
      congr 1
      apply Array.ext'
      apply List.ext_getElem?
      intro i
      by_cases hi : i < xs.length
      · rw [hxs i hi]; simp [hi]
      · rw [List.getElem?_eq_none (by simp [hsz]; omega), List.getElem?_eq_none (by simp; omega)]
    · cases hf
end
end Go.Proofs.Ytdbhmffiojchcaa
