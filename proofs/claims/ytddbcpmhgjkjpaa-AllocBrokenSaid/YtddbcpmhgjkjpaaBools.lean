/- Contracts: are two lists of bits the same; a copy of one. Conditions: numbers fit. -/
import Derived.Test.YtddbcpmhgjkjpaaChecked
import Derived.WalkKit
import Derived.WalkLawsBesides
import Derived.WalkSpells
import Derived.Outline
import Derived.OwnWalk
import Derived.IntWalk
import Derived.Lib.Hide
import Derived.Deep.QuietTactic
import Derived.BigQuiet
import Derived.Deep.RegionHeld3
import Derived.Deep.LoopGhost
import Derived.Deep.DeepFit
import Derived.LoopTactic
import Derived.Test.YtddbcpmhgjkjpaaSl
namespace Go.Proofs.Ytddbcpmhgjkjpaa
open Go.RowKit

theorem ret_int {k : IntKind} {a b : Int} (h : a = b) : Ending.returned (.int k a) = .returned (.int k b) := by rw [h]

theorem ret_bool {a b : Bool} (h : a = b) : Ending.returned (.bool a) = .returned (.bool b) := by rw [h]

theorem beq_lists_ne {a b : List Bool} (h : a.length ≠ b.length) : (a == b) = false := by
  simp only [beq_eq_false_iff_ne, ne_eq]; intro e; exact h (by rw [e])

set_option maxHeartbeats 400000 in
theorem same_any (u v : Value) (a b : List Bool) (w : World) (ha : SlOf w u 1 (fun x => [.bool x]) a) (hb : SlOf w v 1 (fun x => [.bool x]) b) (hla : a.length ≤ 9223372036854775806) (hlb : b.length ≤ 9223372036854775806) :
    Calls Try.prog 23 #[u, v] w fun e w' => e = .returned (.bool (a == b)) ∧ ∃ n, w' = w.drewN n := by
  by_cases hl : a.length = b.length
  · rcases sl_one ha with ⟨rfl, a0, c0, rfl, hn0⟩ | ⟨hp0, b0, o0, c0, rfl, hc0, hb0, cell0⟩
    · obtain rfl : b = [] := List.length_eq_zero_iff.1 (by simpa using hl.symm)
      rcases sl_one hb with ⟨_, a1, c1, rfl, hn1⟩ | ⟨hp1, _⟩
      · go_enter Try.func23, Try.ntmps23
        go_wp2
        refine wp_loop_rounds 1 ?_
        rw [rounds_succ]
        go_wp2
        go_ret
        exact ⟨rfl, 0, rfl⟩
      · simp at hp1
    · rcases sl_one hb with ⟨rfl, _⟩ | ⟨hp1, b1, o1, c1, rfl, hc1, hb1, cell1⟩
      · exact absurd (show a.length = 0 from hl) (by omega)
      · have hne : ((a.length : Int) != (b.length : Int)) = false := by simp; omega
        have Hl := Lib.hid hl
        clear hl ha hb
        go_enter Try.func23, Try.ntmps23
        go_wp2
        clear hne
        go_loopw [5] (fun i wr => ∃ k : Nat, k ≤ a.length ∧ i = .int .i64 k ∧ a.take k = b.take k ∧ ∃ n, wr = w.drewN n) (fun i _ => a.length - (intOf i).toNat)
        case atStart => exact ⟨0, Nat.zero_le _, rfl, rfl, 0, rfl⟩
        case round =>
          obtain ⟨k, hk, rfl, hpre, n, rfl⟩ := hrel
          have Hpre := Lib.hid hpre
          clear hpre
          by_cases hlt : k < a.length
          · have hlb1 : k < b.length := by rw [← Hl.out]; exact hlt
            have e0 := cell0 k hlt
            have e1 := cell1 k hlb1
            have HA := Lib.hid (List.take_succ_eq_append_getElem hlt)
            have HB := Lib.hid (List.take_succ_eq_append_getElem hlb1)
            clear cell0 cell1
            have fin : a[k] ≠ b[k] → (a == b) = false := by
              intro h
              simp only [beq_eq_false_iff_ne, ne_eq]
              intro e
              apply h
              simp only [e]
            generalize a[k] = x at *
            generalize b[k] = y at *
            have g0 : (k : Int) < (a.length : Int) := by omega
            have g1 : (k : Int) < (b.length : Int) := by omega
            have g2 : (0 : Int) ≤ (k : Int) := by omega
            by_cases hxy : x = y
            · have hxy' : (x == y) = true := by simpa using hxy
              have Hxy := Lib.hid hxy
              clear hxy
              go_wp2
              go_quiet (fail)
              go_wp2
              exact ⟨⟨k + 1, by omega, by go_num, by rw [HA.out, HB.out, Hpre.out, Hxy.out], _, rfl⟩, by simp [intOf]; omega⟩
            · have hxy' : (x == y) = false := by simpa using hxy
              have fin' := Lib.hid (fin hxy)
              clear fin
              go_wp2
              go_quiet (fail)
              go_wp2
              go_ret
              exact ⟨ret_bool fin'.out.symm, _, World.drewN_drewN _ _ _⟩
          · obtain rfl : k = a.length := by omega
            have fin0 : (a == b) = true := by
              have := Hpre.out
              rw [List.take_of_length_le (Nat.le_refl _), List.take_of_length_le (by rw [Hl.out]; exact Nat.le_refl _)] at this
              exact beq_iff_eq.2 this
            have fin := Lib.hid fin0
            clear fin0
            go_wp2
            go_ret
            exact ⟨ret_bool fin.out.symm, _, rfl⟩
  · have fin := Lib.hid (beq_lists_ne hl)
    obtain ⟨a0, c0, rfl, _⟩ := ha
    obtain ⟨a1, c1, rfl, _⟩ := hb
    have hne : ((a.length : Int) != (b.length : Int)) = true := by simp; omega
    go_enter Try.func23, Try.ntmps23
    go_wp2
    go_ret
    exact ⟨ret_bool fin.out.symm, 0, rfl⟩
theorem info_bool : (Try.prog.info? 4).map (fun i => (i.zero, i.size, i.bytes)) = some (some (.bool false), 1, 1) := by kernel_rfl

/-- An empty row of the call's own. -/
theorem owns_empty (w : World) (e size : Nat) : (w.alloc (.cells #[] e)).ownsRow w.heap.size e size (.slice (some ⟨w.heap.size, 0, none⟩) 0 0) 0 [] :=
  ⟨by simp, Or.inr ⟨w.heap.size, 0, #[], rfl, Nat.le_refl _, heap_alloc_new w _, Nat.le_refl _, by simp [maxLen], by simp, by simp⟩⟩

end Go.Proofs.Ytddbcpmhgjkjpaa
