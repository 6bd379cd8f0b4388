/- The walk of Split. Conditions: numbers fit. -/
import Derived.Test.YtdbhmffiojchcaaMatE
import Derived.Test.YtdbhmffiojchcaaMatQ
namespace Go.Proofs.Ytdbhmffiojchcaa
open Go.RowKit Go.Maps Go.WideMaps
open Go.ChangeShapes (lits)

abbrev tokE : TokT → List Value := fun t => [.int .i64 t.1, .int .i64 t.2.1, .int .i64 t.2.2]
def cellsT (l : List TokT) : List Value := l.flatMap tokE
theorem cellsT_length (l : List TokT) : (cellsT l).length = l.length * 3 := by
  induction l with
  | nil => rfl
  | cons t l ih => simp [cellsT] at ih ⊢; omega
theorem cellsT_get (l : List TokT) : ∀ i (hi : i < l.length) j, j < 3 → (cellsT l)[i * 3 + j]? = (tokE l[i])[j]? := by
  induction l with
  | nil => intro i hi; simp at hi
  | cons t l ih =>
    intro i hi j hj
    have e : cellsT (t :: l) = tokE t ++ cellsT l := by simp [cellsT]
    rw [e]
    rcases i with _ | i
    · rw [Nat.zero_mul, Nat.zero_add, List.getElem?_append_left (by simp; omega)]
      rfl
    · rw [List.getElem?_append_right (by simp; omega)]
      have := ih i (by simpa using hi) j hj
      rw [show (i + 1) * 3 + j - (tokE t).length = i * 3 + j by simp; omega, this]
      rfl
theorem cellsT_snoc (l : List TokT) (t : TokT) : cellsT (l ++ [t]) = cellsT l ++ tokE t := by simp [cellsT]
theorem info_tok : (Try.prog.info? 28).map (fun i => (i.zero, i.size, i.bytes)) = some (some (.agg #[.int .i64 0, .int .i64 0, .int .i64 0]), 3, 24) := by kernel_rfl

abbrev ToksR (w : World) (v : Value) (l : List TokT) : Prop := SlOf w v 3 tokE l
/-- A row of the call's own reads as tokens. -/
theorem toks_of_owns {w : World} {base e n : Nat} {v : Value} {l : List TokT} (h : w.ownsRow base e 3 v n (cellsT l)) : ToksR w v l ∧ n = l.length := by
  obtain ⟨hl, h⟩ := h
  rw [cellsT_length] at hl
  obtain rfl : n = l.length := by omega
  refine ⟨?_, rfl⟩
  rcases h with ⟨rfl, h0⟩ | ⟨g, cap, cur, rfl, hg, hc, hn, hm, hs, ht⟩
  · obtain rfl := List.length_eq_zero_iff.1 h0
    exact sl_nil fun _ => rfl
  · refine ⟨_, cap, rfl, hn, nofun, Or.inr ⟨g, 0, rfl, ?_, fun i hi j hj => ?_⟩⟩
    · rcases Nat.lt_or_ge g w.heap.size with h | h
      · exact h
      · rw [Array.getElem?_eq_none h] at hc; cases hc
    · have h1 : (cur.toList.take (l.length * 3))[i * 3 + j]? = (cellsT l)[i * 3 + j]? := by rw [ht]
      rw [cellsT_get l i hi j hj, List.getElem?_take_of_lt (by omega)] at h1
      simp only [World.cell?, hc, Nat.zero_add]
      simpa using h1
theorem cells_three_new (w : World) (x y z : Value) (t : TypeId) : ∀ j u, [x, y, z][j]? = some u → (w.alloc (.cells #[x, y, z] t)).cell? ((⟨w.heap.size, 0, none⟩ : Addr).add j) = some u := by
  intro j u hj
  rw [add_none, Nat.zero_add, World.cell?_alloc_new]
  simpa using hj

theorem grown_drewN (w : World) (q : Nat) : w.grownBy (w.drewN q) none := ⟨rfl, rfl, rfl, Nat.le_refl _, fun _ _ _ => rfl⟩
theorem stood_kept {H : Type} {w w' : World} {B n : Nat} {L : List UInt8} {lo c : Nat} {row : Option Nat} (h : Stood H w B B n L lo c) (hg : w.grownBy w' row) (hb : some B ≠ row) {No : Nat → Prop} (hs : w.Shuns B No) (hr : ∀ j, row = some j → No j) : Stood H w' B B n L lo c := by
  obtain ⟨D, hown, hm, hD⟩ := h
  exact ⟨D, hown.kept hg hb (hs.rowsOff hr), hm, hD⟩
theorem stood_reno {H : Type} {w : World} {B n : Nat} {L : List UInt8} {lo c : Nat} {No No' : Nat → Prop} (h : Stood H w B B n L lo c) (hs : w.Shuns B No) (hn : ∀ g, No' g → No g ∨ w.heap.size ≤ g) : w.Shuns B No' := by
  obtain ⟨D, hown, _, _⟩ := h
  exact hs.reno hown hn

/-- What stands in the loops of Split. -/
def InSplit (w wr : World) (L : List UInt8) (ul : Value) (pre : List TokT) (i : Nat) : Prop :=
  wr.ownsRow (w.heap.size + 1) 28 3 ul pre.length (cellsT pre) ∧ Stood Unit wr w.heap.size w.heap.size i L 0 i ∧ wr.Shuns w.heap.size (fun g => ul.ownBlock = some g) ∧ Below w.heap.size w wr

theorem insplit_drewN {w wr : World} {L : List UInt8} {ul : Value} {pre : List TokT} {i : Nat} (h : InSplit w wr L ul pre i) (q : Nat) : InSplit w (wr.drewN q) L ul pre i := by
  obtain ⟨h1, h2, h3, h4⟩ := h
  have hlt := stood_lt h2
  exact ⟨h1.kept (grown_drewN wr q) (by cases ul.ownBlock <;> simp), stood_kept h2 (grown_drewN wr q) (by simp) h3 (fun j hj => by cases hj), h3.kept (grown_drewN wr q) hlt (by simp), belowDrewN h4 q⟩

/-- Behind an append. -/
theorem insplit_put {w wr w3 : World} {L : List UInt8} {ul ul' : Value} {pre : List TokT} {i : Nat} {t : TokT} {e : TypeId} {cs : Array Value} (h : InSplit w wr L ul pre i)
    (hown : w3.ownsRow (w.heap.size + 1) 28 3 ul' (pre.length + 1) (cellsT pre ++ tokE t)) (hg : (wr.alloc (.cells cs e)).grownBy w3 ul.ownBlock)
    (hloc : ul'.ownBlock = ul.ownBlock ∨ ul'.ownBlock = some (wr.alloc (.cells cs e)).heap.size) : InSplit w w3 L ul' (pre ++ [t]) i := by
  obtain ⟨h1, h2, h3, h4⟩ := h
  have hlt := stood_lt h2
  have hg' := (World.grownBy_alloc wr (.cells cs e) _).trans hg
  have hB : some w.heap.size ≠ ul.ownBlock := fun e => by have := owns_block h1 _ e.symm; omega
  have hs' : wr.Shuns w.heap.size (fun g => ul'.ownBlock = some g) := stood_reno h2 h3 fun g hg => by
    rcases hloc with h | h
    · exact Or.inl (by rw [← h]; exact hg)
    · right; rw [h] at hg; simp at hg; omega
  refine ⟨by rw [cellsT_snoc, List.length_append, List.length_singleton]; exact hown, stood_kept h2 hg' hB h3 (fun j hj => hj), hs'.kept hg' hlt hB, h4.grown hg' h4.size fun k hk => ?_⟩
  have := owns_block h1 k hk
  omega

/-- Behind an add. -/
theorem insplit_add {w wr w3 : World} {L : List UInt8} {ul : Value} {pre : List TokT} {i : Nat} (h : InSplit w wr L ul pre i) (hst : Stood Unit w3 w.heap.size w.heap.size (i + 1) L 0 (i + 1)) (hsh : w3.Shuns w.heap.size (fun g => ul.ownBlock = some g)) (hb : Bes (fun g => ul.ownBlock = some g) w.heap.size wr w3) : InSplit w w3 L ul pre (i + 1) := by
  obtain ⟨h1, h2, h3, h4⟩ := h
  exact ⟨bes_row hb h1 fun g hg => ⟨hg, by have := owns_block h1 g hg; omega⟩, hst, hsh, h4.trans hb.1⟩
end Go.Proofs.Ytdbhmffiojchcaa
