/- The map of places: its state, 'add' and 'longest'. Conditions: numbers fit. -/
import Derived.Test.YtdbhmffiojchcaaMatA
import Derived.Maps.OwnRows
import Derived.Maps.AppendAt
import Derived.Maps.Views
namespace Go.Proofs.Ytdbhmffiojchcaa
open Go.RowKit Go.Maps Go.WideMaps
open Go.ChangeShapes (lits)

def keyL (key : List UInt8) : Lit := .string key
theorem kstr : Keyed Try.prog 9 := string_keyed Try.underlying9

/-- Block b is the map of the places from lo on, c of them tried. -/
def Stood (H : Type) (w : World) (B b n : Nat) (L : List UInt8) (lo c : Nat) : Prop :=
  ∃ D : DataW H, w.ownsGroups Try.prog 9 (B + 1) 3 .i64 b n D ∧ IsMap D ∧
    ∀ key : List UInt8, key.length = 3 → (D.atKey (.string key) .nil = .nil ∧ plc L key lo c = []) ∨ D.atKey (.string key) .nil = .slice (lits .i64 ((plc L key lo c).map Int.ofNat)) []

theorem lits_inj {H : Type} {xs ys : List Int} (h : lits (H := H) .i64 xs = lits .i64 ys) : xs = ys := by
  unfold lits at h
  exact (List.map_inj_right (f := fun z => DataW.lit (H := H) (.int .i64 z)) (fun a b e => by simpa using e)).1 h
/-- What the look-up has found. -/
theorem stood_zs {H : Type} {w : World} {base : Nat} {e : TypeId} {D : DataW H} {v : Value} {zs : List Int} {ps : List Nat} {key : Lit} (hat : D.atKey key .nil = rowDatum .i64 v zs) (ho : w.ownsInts base e .i64 v zs)
    (h : (D.atKey key .nil = .nil ∧ ps = []) ∨ D.atKey key .nil = .slice (lits .i64 (ps.map Int.ofNat)) []) : zs = ps.map Int.ofNat := by
  rw [hat] at h
  rcases ho.datum (H := H) with ⟨e1, rfl⟩ | e1 <;> rw [e1] at h
  · rcases h with ⟨_, rfl⟩ | h
    · rfl
    · cases h
  · rcases h with ⟨h, _⟩ | h
    · cases h
    · injection h with h
      exact lits_inj h
end Go.Proofs.Ytdbhmffiojchcaa
