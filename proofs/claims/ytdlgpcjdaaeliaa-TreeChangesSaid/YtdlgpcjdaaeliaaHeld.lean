/- A small text of lemmas on worlds in which all that was there is as it was. No condition. -/
import Derived.WalkKit
import Derived.Below
import Derived.Lib.Hide
namespace Go.Proofs.Ytdlgpcjdaaeliaa
open Go.RowKit

/-- All cells that were there in W read in w' as they did; nothing of W has turned. -/
abbrev Held (W w' : World) : Prop := (∀ b o, b < W.heap.size → w'.cell? ⟨b, o, none⟩ = W.cell? ⟨b, o, none⟩) ∧ Below W.heap.size W w'

theorem held_of {W w' : World} (h : Below W.heap.size W w') : Held W w' := ⟨fun b o hb => h.cell (p := ⟨b, o, none⟩) hb, h⟩
theorem held_refl (W : World) : Held W W := held_of (Below.refl _ _)
theorem held_drew {W a : World} (h : Held W a) : Held W a.drew := held_of h.2.drew
theorem held_call {n : Nat} {W a b : World} (hb : Below n a b) (h : Held W a) (hn : a.heap.size = n := by rfl) : Held W b :=
  held_of (h.2.trans (hb.mono (by rw [← hn]; exact h.2.size)))
theorem held_start {W : World} : Held W W.drew := held_drew (held_refl W)

theorem set_cell_same {w : World} {a : Addr} {u v : Value} (h : w.cell? a = some u) : (w.setCell a v).cell? a = some v := World.cell?_setCell_same w a v h
theorem set_cell_ne {w : World} {b o o' : Nat} {v : Value} {x : Option Value} (h : w.cell? ⟨b, o, none⟩ = x) (hne : o' ≠ o) : (w.setCell ⟨b, o', none⟩ v).cell? ⟨b, o, none⟩ = x := by
  rw [World.cell?_setCell_other w _ _ _ (by intro h; cases h; exact hne rfl)]; exact h

/-- Four cells of one block, stored one behind the other. -/
theorem put4 {w : World} {b : Nat} {x0 x1 x2 x3 : Value} (v0 v1 v2 v3 : Value) (h0 : w.cell? ⟨b, 0, none⟩ = some x0) (h1 : w.cell? ⟨b, 1, none⟩ = some x1) (h2 : w.cell? ⟨b, 2, none⟩ = some x2) (h3 : w.cell? ⟨b, 3, none⟩ = some x3) :
    ∃ wf, (((w.setCell ⟨b, 0, none⟩ v0).setCell ⟨b, 1, none⟩ v1).setCell ⟨b, 2, none⟩ v2).setCell ⟨b, 3, none⟩ v3 = wf ∧ wf.cell? ⟨b, 0, none⟩ = some v0 ∧ wf.cell? ⟨b, 1, none⟩ = some v1 ∧ wf.cell? ⟨b, 2, none⟩ = some v2 ∧ wf.cell? ⟨b, 3, none⟩ = some v3 ∧
      Below b w wf :=
  ⟨_, rfl, set_cell_ne (set_cell_ne (set_cell_ne (set_cell_same h0) (by decide)) (by decide)) (by decide), set_cell_ne (set_cell_ne (set_cell_same (set_cell_ne h1 (by decide))) (by decide)) (by decide),
    set_cell_ne (set_cell_same (set_cell_ne (set_cell_ne h2 (by decide)) (by decide))) (by decide), set_cell_same (set_cell_ne (set_cell_ne (set_cell_ne h3 (by decide)) (by decide)) (by decide)),
    ((((Below.refl b w).setCell (p := ⟨b, 0, none⟩) (Nat.le_refl b) v0).setCell (p := ⟨b, 1, none⟩) (Nat.le_refl b) v1).setCell (p := ⟨b, 2, none⟩) (Nat.le_refl b) v2).setCell (p := ⟨b, 3, none⟩) (Nat.le_refl b) v3⟩
end Go.Proofs.Ytdlgpcjdaaeliaa
