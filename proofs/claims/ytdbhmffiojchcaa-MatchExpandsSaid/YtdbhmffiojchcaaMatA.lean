/- The walk of common. Conditions: numbers fit. -/
import Derived.Test.YtdbhmffiojchcaaChecked
import Derived.WalkKit
import Derived.WalkLawsBesides
import Derived.WalkSpells
import Derived.Outline
import Derived.OwnWalk
import Derived.IntWalk
import Derived.Lib.Hide
import Derived.Deep.QuietTactic
import Derived.BigQuiet
import Derived.Deep.RegionHeld3
import Derived.Deep.LoopGhost
import Derived.Deep.DeepFit
import Derived.Below
import Derived.Test.YtdbhmffiojchcaaHeld
import Derived.Test.YtdbhmffiojchcaaMatP
namespace Go.Proofs.Ytdbhmffiojchcaa
open Go.RowKit

theorem bt_get (s : ByteArray) (i : Nat) (h : i < s.size) : bt s.data.toList i = s[i] := by
  unfold bt
  have h' : i < s.data.toList.length := by simpa using h
  simp [List.getD, List.getElem?_eq_getElem h']
  rfl

set_option maxHeartbeats 1000000 in
theorem common_any (s : ByteArray) (at' d : Nat) (w : World) (hd : d ≤ at') (ha : at' ≤ 17592186044416) (hs : s.size ≤ 17592186044416) :
    Calls Try.prog 37 #[.string s, .int .i64 at', .int .i64 d] w fun e w' => e = .returned (.int .i64 (com s.data.toList at' d)) ∧ ∃ m, w' = w.drewN m := by
  have hl : s.data.toList.length = s.size := by simp
  go_enter Try.func37, Try.ntmps37
  go_wp2_with fail
  go_loopw [7] (fun i wr => ∃ n : Nat, n ≤ 18 ∧ i = .int .i64 n ∧ (∀ i, i < n → at' + i < s.data.toList.length ∧ bt s.data.toList (at' + i) = bt s.data.toList (at' + i - d)) ∧ ∃ m, wr = w.drewN m) (fun i _ => 18 - (intOf i).toNat)
  case atStart => exact ⟨0, by omega, rfl, fun i h => by omega, 0, rfl⟩
  case round =>
    obtain ⟨n, hn, rfl, hall, m, rfl⟩ := hrel
    have HA := Lib.hid hall
    clear hall
    by_cases h18 : n = 18
    · subst h18
      have hc := com_eq (L := s.data.toList) (at' := at') (d := d) (by omega) HA.out (Or.inl rfl)
      have Hc := Lib.hid hc
      clear hc
      have b1 : decide ((18 : Int) < 18) = false := by decide
      go_wp2_with fail
      go_quiet (fail)
      go_wp2_with fail
      go_ret
      exact ⟨by rw [Hc.out]; rfl, _, World.drewN_drewN _ _ _⟩
    · have x1 : IntKind.i64.wrap ((at' : Int) + (n : Int)) = (at' : Int) + (n : Int) := IntWalk.i64_in _ (by omega)
      have t1 : ((at' : Int) + (n : Int)).toNat = at' + n := by omega
      have c1 : (0 : Int) ≤ (at' : Int) + (n : Int) := by omega
      have b1 : decide ((n : Int) < 18) = true := by simp; omega
      by_cases hlt : at' + n < s.size
      · have x2 : IntKind.i64.wrap ((at' : Int) + (n : Int) - (d : Int)) = (at' : Int) + (n : Int) - (d : Int) := IntWalk.i64_in _ (by omega)
        have t2 : ((at' : Int) + (n : Int) - (d : Int)).toNat = at' + n - d := by omega
        have c2 : (at' : Int) + (n : Int) < (s.size : Int) := by omega
        have c3 : (0 : Int) ≤ (at' : Int) + (n : Int) - (d : Int) := by omega
        have c5 : (d : Int) ≤ (at' : Int) + (n : Int) := by omega
        have c4 : (at' : Int) + (n : Int) - (d : Int) < (s.size : Int) := by omega
        have hlt2 : at' + n - d < s.size := by omega
        have b2 : decide ((at' : Int) + (n : Int) < (s.size : Int)) = true := by simp; omega
        by_cases he : s[at' + n] = s[at' + n - d]
        · have x3 : ((s[at' + n].toNat : Int) == (s[at' + n - d].toNat : Int)) = true := by rw [he]; simp
          have HE := Lib.hid he
          clear he
          go_wp2_with fail
          go_quiet (fail)
          go_wp2_with fail
          exact ⟨⟨n + 1, by omega, by go_num, fun i hi => by
            by_cases e : i = n
            · subst e; rw [bt_get s _ hlt, bt_get s _ hlt2]; exact ⟨by omega, HE.out⟩
            · exact HA.out i (by omega), _, rfl⟩, by simp [intOf]; omega⟩
        · have x3 : ((s[at' + n].toNat : Int) == (s[at' + n - d].toNat : Int)) = false := by
            simp only [beq_eq_false_iff_ne, ne_eq]
            intro h
            exact he (UInt8.toNat_inj.1 (by omega))
          have hc := com_eq (L := s.data.toList) (at' := at') (d := d) hn HA.out (Or.inr (by rw [bt_get s _ hlt, bt_get s _ hlt2]; exact fun h => he h.2))
          clear he
          have Hc := Lib.hid hc
          clear hc
          go_wp2_with fail
          go_quiet (fail)
          go_wp2_with fail
          go_ret
          exact ⟨by rw [Hc.out]; rfl, _, World.drewN_drewN _ _ _⟩
      · have hc := com_eq (L := s.data.toList) (at' := at') (d := d) hn HA.out (Or.inr (by rw [hl]; exact fun h => hlt h.1))
        have Hc := Lib.hid hc
        clear hc
        have b2 : decide ((at' : Int) + (n : Int) < (s.size : Int)) = false := by simp; omega
        go_wp2_with fail
        go_quiet (fail)
        go_wp2_with fail
        go_ret
        exact ⟨by rw [Hc.out]; rfl, _, World.drewN_drewN _ _ _⟩
end Go.Proofs.Ytdbhmffiojchcaa
