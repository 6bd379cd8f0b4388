/- The walk of HuffEven. Conditions: numbers fit. -/
import Derived.Test.YtpkbbbdbcedkfaaHufR
import Derived.Test.YtpkbbbdbcedkfaaHufV
namespace Go.Proofs.Ytpkbbbdbcedkfaa
open Go.RowKit

theorem lens_even {p n : Nat} {c : Int} {L : List Int} (hp1 : 1 ≤ p) (hp : p < 9) (hn : (n : Int) = p2 p) (hc : 1 ≤ c) (hc2 : c ≤ 100000) (h : LensV (List.replicate n c) L) : L = List.replicate n (p : Int) := by
  have h256 := p2_mono (m := p) (n := 8) (by omega)
  have e8 : p2 8 = 256 := by decide
  refine even_law hp1 hp hn (by omega) (h.1 (mayF_iff.2 ⟨by rw [List.length_replicate]; omega, fun x hx => ?_⟩))
  rw [List.eq_of_mem_replicate hx]; omega

set_option maxRecDepth 100000 in
set_option maxHeartbeats 4000000 in
theorem even_walk (P t : Int) (w : World) :
    Calls Try.prog 6 #[.int .i64 P, .int .i64 t] w fun e w' => e = .returned (.bool true) ∧ Below w.heap.size w w' := by
  obtain ⟨i0, hi, hz0, hz1, hz2⟩ := info_parts info_int
  go_enter Try.func6, Try.ntmps6
  go_wp2_with fail
  refine (fixed05_any _).mono ?_
  rintro e w1 ⟨rfl, hb1⟩
  have HB1 := Lib.hid hb1
  clear hb1
  by_cases h1 : P < 1
  · have b1 : decide (P < 1) = true := by simpa using h1
    go_wp2_with fail
    refine (fixed05_any _).mono ?_
    rintro e w3 ⟨rfl, hb3⟩
    go_wp2_with fail
    go_ret
    exact ⟨rfl, below_step' HB1.out hb3⟩
  have b1 : decide (P < 1) = false := by simpa using h1
  by_cases h2 : 8 < P
  · have b2 : decide (8 < P) = true := by simpa using h2
    go_wp2_with fail
    refine (fixed05_any _).mono ?_
    rintro e w3 ⟨rfl, hb3⟩
    go_wp2_with fail
    go_ret
    exact ⟨rfl, below_step' HB1.out hb3⟩
  have b2 : decide (8 < P) = false := by simpa using h2
  by_cases h3 : t < 1
  · have b3 : decide (t < 1) = true := by simpa using h3
    go_wp2_with fail
    refine (fixed05_any _).mono ?_
    rintro e w3 ⟨rfl, hb3⟩
    go_wp2_with fail
    go_ret
    exact ⟨rfl, below_step' HB1.out hb3⟩
  have b3 : decide (t < 1) = false := by simpa using h3
  by_cases h4 : 100000 < t
  · have b4 : decide (100000 < t) = true := by simpa using h4
    go_wp2_with fail
    refine (fixed05_any _).mono ?_
    rintro e w3 ⟨rfl, hb3⟩
    go_wp2_with fail
    go_ret
    exact ⟨rfl, below_step' HB1.out hb3⟩
  have b4 : decide (100000 < t) = false := by simpa using h4
  obtain ⟨p, rfl⟩ := Int.eq_ofNat_of_zero_le (a := P) (by omega)
  have hp9 : p < 9 := by omega
  have HE := Lib.hid (owns_none w1 3 1)
  have HBE : Hid (Below w1.heap.size w1 (w1.alloc (.cells #[] 3))) := (Below.refl _ _).alloc (Nat.le_refl _) _
  go_wp2_with fail
  generalize hw2 : w1.alloc (.cells #[] 3) = w2 at *
  clear hw2 b1 b2 b3 b4
  go_loop [6, 7] (fun n i => ∃ k : Nat, k ≤ p ∧ i = .int .i64 k ∧ n = .int .i64 (p2 k)) (fun _ i => p - (intOf i).toNat)
  case atStart => exact ⟨0, Nat.zero_le _, rfl, rfl⟩
  case round =>
    obtain ⟨k, hk, rfl, rfl⟩ := hrel
    by_cases hlt : k < p
    · have g0 : (k : Int) < (p : Int) := by omega
      have HS := Lib.hid (p2_succ k)
      have hpk := p2_pos k
      have hpk2 := p2_le (n := k + 1) (by omega)
      rw [p2_succ] at hpk2
      go_wp2_with fail
      exact ⟨⟨k + 1, by omega, by go_num, by rw [HS.out]⟩, by simp [intOf]; omega⟩
    · obtain rfl : k = p := by omega
      have h256 := p2_mono (m := k) (n := 8) (by omega)
      have e8 : p2 8 = 256 := by decide
      rw [e8] at h256
      have hpp := p2_pos k
      obtain ⟨n, hn⟩ := Int.eq_ofNat_of_zero_le (a := p2 k) (by omega)
      have Hn : Hid ((n : Int) = p2 k) := hn.symm
      rw [hn]
      have hn256 : n ≤ 256 := by omega
      have hn1 : 1 ≤ n := by omega
      clear hn h256 hpp e8
      go_wp2_with fail
      go_loopw [5, 8] (fun out i wr => ∃ j : Nat, j ≤ n ∧ i = .int .i64 j ∧ wr.ownsRow w1.heap.size 3 1 out j ((List.replicate j t).map (Value.int .i64)) ∧ Below w1.heap.size w1 wr) (fun _ i _ => n - (intOf i).toNat)
      case atStart => exact ⟨0, Nat.zero_le _, rfl, HE.out, HBE.out⟩
      case round =>
        obtain ⟨j, hj, rfl, hown, hb⟩ := hrel
        obtain ⟨a0, c0, rfl, _⟩ := owns_shape hown
        have Hown := Lib.hid hown
        have Hb := Lib.hid hb
        clear hown hb HE HBE
        by_cases hjn : j < n
        · have HR : Hid ((List.replicate (j + 1) t).map (Value.int .i64) = (List.replicate j t).map (Value.int .i64) ++ [.int .i64 t]) := by unfold Hid; rw [List.replicate_succ', List.map_append]; rfl
          have g0 : (j : Int) < (n : Int) := by omega
          go_wp2_with (first
            | (at_builtin; refine wpList_append_own _ rfl _ _ 22 rfl w1.heap.size 3 i0 (.int .i64 0) 1 8 Try.underlying22 hi hz0 hz1 hz2 rfl (by decide) (.slice a0 j c0) _ _ rfl (Hown.out.alloc _) ⟨wr.heap.size, 0, none⟩ 1 1 [.int .i64 t] rfl rfl (cell_one_new _ _ _) (by simp [Value.oneCell']) (by simp [maxLen]; omega) (by omega) (by have := Hb.out.size; simp; omega) ?_; intro v3 w3 hown3 hgrow3 _)
            | fail)
          have hb3 := (Hb.out.alloc Hb.out.size _).grown hgrow3 (by have := Hb.out.size; simp; omega) (fun b hbk => owns_block Hown.out b hbk)
          exact ⟨⟨j + 1, by omega, by go_num, by rw [HR.out]; exact hown3, hb3⟩, by simp [intOf]; omega⟩
        · obtain rfl : j = n := by omega
          have hsf := (sl_of_owns Hown.out).1
          have hln := lens_any (.slice a0 j c0) (List.replicate j t) wr (by simpa using hsf) (by rw [List.length_replicate]; omega)
          have HF := Lib.hid hsf
          have HB5 := Lib.hid (below_step' HB1.out Hb.out)
          clear hsf Hown
          go_wp2_with fail
          refine hln.mono ?_
          rintro e w3 ⟨a3, c3, L, rfl, hL, hs3, hb3⟩
          have hLe := lens_even (p := k) (by omega) hp9 Hn.out (by omega) (by omega) hL.out
          subst hLe
          have HS3 := Lib.hid hs3
          have HB3 := Lib.hid (below_step' HB5.out hb3)
          have HF3 := Lib.hid (sl_below HF.out hb3)
          have hll : (List.replicate j ((k : Nat) : Int)).length = j := List.length_replicate
          rw [hll] at HS3 ⊢
          clear hln hL hs3 hb3 hll
          go_wp2_with fail
          go_loop [10] (fun i => ∃ m : Nat, m ≤ j ∧ i = .int .i64 m) (fun i => j - (intOf i).toNat)
          case atStart => exact ⟨0, Nat.zero_le _, rfl⟩
          case round =>
            obtain ⟨m, hm, rfl⟩ := hrel
            by_cases hmj : m < j
            · rcases sl_one HS3.out with ⟨h0, _⟩ | ⟨_, bL, oL, cL, hveq, _, _, cellL⟩
              · have := congrArg List.length h0; simp at this; omega
              rw [List.length_replicate] at hveq
              injection hveq with q1 q2 q3
              subst q1 q3
              have e0 := cellL m (by rw [List.length_replicate]; exact hmj)
              rw [List.getElem_replicate] at e0
              have g0 : (m : Int) < (j : Int) := by omega
              have g1 : (0 : Int) ≤ (m : Int) := by omega
              have d1 : ((k : Int) != (k : Int)) = false := by simp
              clear cellL q2
              go_wp2_with fail
              exact ⟨⟨m + 1, by omega, by go_num⟩, by simp [intOf]; omega⟩
            · obtain rfl : m = j := by omega
              have hcost := cost_any _ _ (List.replicate m t) (List.replicate m (k : Int)) w3 (by simpa using HF3.out) HS3.out (by simp) (by rw [List.length_replicate]; omega) (fun x hx => by rw [List.eq_of_mem_replicate hx]; omega) (fun x hx => by rw [List.eq_of_mem_replicate hx]; omega)
              rw [costL_rep t m _ (by simp), sum_replicate'] at hcost
              have hmul : (m : Int) * k ≤ 256 * 8 := Int.mul_le_mul (by omega) (by omega) (by omega) (by omega)
              have hmul0 : 0 ≤ (m : Int) * k := Int.mul_nonneg (by omega) (by omega)
              have hmul2 : (m : Int) * k * t ≤ 256 * 8 * 100000 := Int.mul_le_mul hmul (by omega) (by omega) (by omega)
              have hmul3 : 0 ≤ (m : Int) * k * t := Int.mul_nonneg hmul0 (by omega)
              have x1 : IntKind.i64.wrap ((m : Int) * k) = (m : Int) * k := IntWalk.i64_in _ (by omega)
              have x2 : IntKind.i64.wrap ((m : Int) * k * t) = (m : Int) * k * t := IntWalk.i64_in _ (by omega)
              have heq : t * ((k : Int) * m) = (m : Int) * k * t := by rw [Int.mul_comm (k : Int) m, Int.mul_comm]
              rw [heq] at hcost
              have d1 : ((m : Int) == (m : Int)) = true := by simp
              have d2 : ((m : Int) * k * t == (m : Int) * k * t) = true := by simp
              clear heq hmul hmul0 hmul2 hmul3
              go_wp2_with fail
              refine hcost.mono ?_
              rintro e w5 ⟨rfl, hb5⟩
              go_wp2_with fail
              go_ret
              exact ⟨by simp, below_step' HB3.out hb5⟩
end Go.Proofs.Ytpkbbbdbcedkfaa
