/- Lemmas on slices that read as lists, and on rows of the call's own. No condition; no program. -/
import Derived.WalkKit
import Derived.OwnWalk
import Derived.Below
import Derived.Test.YtdlgpcjdaaeliaaHeld
import Derived.Test.YtdlgpcjdaaeliaaOpen
namespace Go.Proofs.Ytdlgpcjdaaeliaa
open Go.RowKit

section
variable {α : Type} {w w' : World} {v : Value} {k : Nat} {E : α → List Value} {xs : List α}

theorem sl_below (h : SlOf w v k E xs) (hb : Below w.heap.size w w') : SlOf w' v k E xs := by
  obtain ⟨a, cap, hv, hl, hn, hc⟩ := h
  refine ⟨a, cap, hv, hl, hn, ?_⟩
  rcases hc with hc | ⟨b, off, ha, hb0, hcell⟩
  · exact Or.inl hc
  · refine Or.inr ⟨b, off, ha, Nat.lt_of_lt_of_le hb0 hb.size, fun i hi j hj => ?_⟩
    rw [hb.cell (p := ⟨b, off + (i * k + j), none⟩) hb0]
    exact hcell i hi j hj

/-- The two makes of a slice whose elements are one cell each. -/
theorem sl_one {f : α → Value} (h : SlOf w v 1 (fun x => [f x]) xs) :
    (xs = [] ∧ ∃ a cap, v = .slice a 0 cap ∧ (a = none → cap = 0)) ∨
    (0 < xs.length ∧ ∃ b off cap, v = .slice (some ⟨b, off, none⟩) xs.length cap ∧ xs.length ≤ cap ∧ b < w.heap.size ∧ ∀ i (hi : i < xs.length), w.cell? ⟨b, off + i, none⟩ = some (f xs[i])) := by
  obtain ⟨a, cap, hv, hl, hn, hc⟩ := h
  by_cases h0 : xs = []
  · subst h0; exact Or.inl ⟨rfl, a, cap, hv, hn⟩
  · rcases hc with hc | ⟨b, off, ha, hb0, hcell⟩
    · exact absurd hc h0
    · subst ha
      refine Or.inr ⟨List.length_pos_iff.2 h0, b, off, cap, hv, hl, hb0, fun i hi => ?_⟩
      simpa using hcell i hi 0 (by omega)

theorem sl_one_mk {f : α → Value} {b off cap : Nat} (hl : xs.length ≤ cap) (hb : b < w.heap.size) (hc : ∀ i (hi : i < xs.length), w.cell? ⟨b, off + i, none⟩ = some (f xs[i])) :
    SlOf w (.slice (some ⟨b, off, none⟩) xs.length cap) 1 (fun x => [f x]) xs :=
  ⟨_, cap, rfl, hl, nofun, Or.inr ⟨b, off, rfl, hb, fun i hi j hj => (by
    obtain rfl : j = 0 := by omega
    simpa using hc i hi)⟩⟩

theorem sl_nil {cap : Nat} {a : Option Addr} (hn : a = none → cap = 0) : SlOf w (.slice a 0 cap) k E ([] : List α) := ⟨a, cap, rfl, Nat.zero_le _, hn, Or.inl rfl⟩

/-- A row of the call's own reads as a list. -/
theorem sl_of_owns {base e n : Nat} {f : α → Value} (h : w.ownsRow base e 1 v n (xs.map f)) : SlOf w v 1 (fun x => [f x]) xs ∧ n = xs.length := by
  obtain ⟨hl, h⟩ := h
  simp only [List.length_map, Nat.mul_one] at hl
  subst hl
  refine ⟨?_, rfl⟩
  rcases h with ⟨rfl, h0⟩ | ⟨g, cap, cur, rfl, hg, hc, hn, hm, hs, ht⟩
  · obtain rfl := List.length_eq_zero_iff.1 h0
    exact sl_nil fun _ => rfl
  · refine sl_one_mk hn (by
      rcases Nat.lt_or_ge g w.heap.size with h | h
      · exact h
      · rw [Array.getElem?_eq_none h] at hc; cases hc) fun i hi => ?_
    have h1 : (cur.toList.take (xs.length * 1))[i]? = (xs.map f)[i]? := by rw [ht]
    rw [List.getElem?_take_of_lt (by omega), List.getElem?_map, List.getElem?_eq_getElem hi] at h1
    simp only [World.cell?, hc, Nat.zero_add]
    simpa using h1

/-- A row of the call's own stays so where nothing of it has turned. -/
theorem owns_below {base e n size : Nat} {cs : List Value} (h : w.ownsRow base e size v n cs) (hb : Below w.heap.size w w') : w'.ownsRow base e size v n cs := by
  obtain ⟨hl, h⟩ := h
  refine ⟨hl, ?_⟩
  rcases h with h | ⟨g, cap, cur, rfl, hg, hc, hn, hm, hs, ht⟩
  · exact Or.inl h
  · have hlt : g < w.heap.size := by
      rcases Nat.lt_or_ge g w.heap.size with h | h
      · exact h
      · rw [Array.getElem?_eq_none h] at hc; cases hc
    exact Or.inr ⟨g, cap, cur, rfl, hg, by rw [hb.block g hlt]; exact hc, hn, hm, hs, ht⟩
theorem owns_base {base base' e n size : Nat} {cs : List Value} (h : w.ownsRow base e size v n cs) (hb : base' ≤ base) : w.ownsRow base' e size v n cs := by
  obtain ⟨hl, h⟩ := h
  refine ⟨hl, ?_⟩
  rcases h with h | ⟨g, cap, cur, rfl, hg, hc, hn, hm, hs, ht⟩
  · exact Or.inl h
  · exact Or.inr ⟨g, cap, cur, rfl, Nat.le_trans hb hg, hc, hn, hm, hs, ht⟩
/-- The block of a row of the call's own lies from base on. -/
theorem owns_block {base e n size : Nat} {cs : List Value} (h : w.ownsRow base e size v n cs) : ∀ b, v.ownBlock = some b → base ≤ b := by
  obtain ⟨_, h⟩ := h
  intro b hb
  rcases h with ⟨rfl, _⟩ | ⟨g, cap, cur, rfl, hg, _⟩
  · cases hb
  · simp only [Value.ownBlock, Option.some.injEq] at hb; omega
/-- The shape of such a value. -/
theorem owns_shape {base e n size : Nat} {cs : List Value} (h : w.ownsRow base e size v n cs) : ∃ a cap, v = .slice a n cap ∧ n ≤ cap ∧ (a = none → cap = 0) := by
  obtain ⟨_, h⟩ := h
  rcases h with ⟨rfl, rfl⟩ | ⟨g, cap, cur, rfl, hg, _, hn, _⟩
  · exact ⟨_, _, rfl, Nat.le_refl _, fun _ => rfl⟩
  · exact ⟨_, _, rfl, hn, nofun⟩
/-- A block that has just been laid reads as a list. -/
theorem sl_alloc {f : α → Value} (w : World) (e : TypeId) (xs : List α) (cap : Nat) (hc : xs.length ≤ cap) : SlOf (w.alloc (.cells (xs.map f).toArray e)) (.slice (some ⟨w.heap.size, 0, none⟩) xs.length cap) 1 (fun x => [f x]) xs :=
  sl_one_mk hc (by simp) fun i hi => by
    rw [Nat.zero_add, World.cell?_alloc_new]
    simp [hi]
end
end Go.Proofs.Ytdlgpcjdaaeliaa
