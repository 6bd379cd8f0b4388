/- Contracts: nth; Codes of the program. Conditions: numbers fit. -/
import Derived.Test.YtdbhmffiojchcaaCanC
import Derived.OwnWalk
namespace Go.Proofs.Ytdbhmffiojchcaa
open Go.RowKit

set_option maxHeartbeats 1000000 in
theorem nth_any (v : Value) (l : List Int) (n i : Int) (s : Nat) (w : World) (hv : SlOf w v 1 (fun x => [.int .i64 x]) l) (hl : l.length ≤ 140737488355328) (hs : s < l.length) (hn : l[s] = n) (hi : i = cntL (l.take s) n.toNat) (hn0 : 0 ≤ n) :
    Calls Try.prog 35 #[v, .int .i64 n, .int .i64 i] w fun e w' => e = .returned (.int .i64 s) ∧ w = w' := by
  obtain ⟨N, rfl⟩ := Int.eq_ofNat_of_zero_le hn0
  rw [Int.toNat_natCast] at hi
  rcases sl_one hv with ⟨rfl, _⟩ | ⟨hp0, b0, o0, c0, rfl, hc0, hb0, cell0⟩
  · simp at hs
  · clear hv
    go_enter Try.func35, Try.ntmps35
    go_wp2
    go_loop [2, 11] (fun i k' => ∃ k : Nat, k ≤ s ∧ k' = .int .i64 k ∧ i = .int .i64 ((cntL (l.take s) N : Int) - cntL (l.take k) N)) (fun _ k' => l.length - (intOf k').toNat)
    case atStart => exact ⟨0, Nat.zero_le _, rfl, by rw [hi]; simp [cntL]⟩
    case round =>
      obtain ⟨k, hk, rfl, rfl⟩ := hrel
      have hlt : k < l.length := by omega
      have e0 := cell0 k hlt
      have g0 : (k : Int) < (l.length : Int) := by omega
      have g2 : (0 : Int) ≤ (k : Int) := by omega
      have hle := cntL_mono l hk (n := N)
      have hle2 := cntL_le (l.take s) N
      have hle3 := List.length_take_le s l
      have HS := Lib.hid (show cntL (l.take (k + 1)) N = cntL (l.take k) N + if l[k] = N then 1 else 0 by rw [List.take_succ_eq_append_getElem hlt, cntL_snoc])
      by_cases hks : k = s
      · subst hks
        have hz : (cntL (l.take k) N : Int) - cntL (l.take k) N = 0 := by omega
        rw [hn] at e0
        clear cell0 hi hn hle hle2 hle3
        rw [hz]
        go_wp2
        go_ret
        exact ⟨rfl, rfl⟩
      · have hlt2 : k < s := by omega
        have hpos : l[k] = (N : Int) → cntL (l.take k) N < cntL (l.take s) N := fun hx => by
          have h1 := cntL_mono l (show k + 1 ≤ s from hlt2) (n := N)
          rw [HS.out, if_pos hx] at h1; omega
        have HP := Lib.hid hpos
        have hne : (l[k] = (N : Int)) ∨ l[k] ≠ (N : Int) := by omega
        clear cell0 hi hn hpos
        generalize l[k] = x at *
        generalize cntL (l.take s) N = cs at *
        generalize cntL (l.take k) N = ck at *
        rcases hne with rfl | hne
        · have hp := HP.out rfl
          have hz : ¬ ((cs : Int) - ck = 0) := by omega
          rw [if_pos rfl] at HS
          have hsub : (ck : Int) ≤ cs := by omega
          have x1 : IntKind.i64.wrap ((cs : Int) - ck - 1) = (cs : Int) - ck - 1 := by rw [IntKind.wrap_i64]; omega
          clear HP
          go_wp2
          exact ⟨⟨k + 1, by omega, by go_num, by rw [HS.out]; congr 1; omega⟩, by simp [intOf]; omega⟩
        · rw [if_neg hne] at HS
          clear HP
          go_wp2
          exact ⟨⟨k + 1, by omega, by go_num, by rw [HS.out]; simp⟩, by simp [intOf]; omega⟩
end Go.Proofs.Ytdbhmffiojchcaa
