/- The walk of BitsLong. Conditions: numbers fit. -/
import Derived.Test.YtfafcnnpfgagiaaBitsE
namespace Go.Proofs.Ytfafcnnpfgagiaa
open Go.RowKit

theorem bit_byteVal (l : List Bool) (i : Nat) (hi : i < l.length) : (byteVal l (i / 8) / p2 (7 - i % 8) % 2 == 1) = l[i] := by
  have h := put_byteVal l (i / 8)
  have hm : i % 8 < 8 := Nat.mod_lt _ (by decide)
  have h1 : (putL (byteVal l (i / 8)) 8)[i % 8]'(by rw [putL_length]; exact hm) = bitAt (byteVal l (i / 8)) (8 - 1 - i % 8) := by simp [putL]
  have h2 : (putL (byteVal l (i / 8)) 8)[i % 8]'(by rw [putL_length]; exact hm) = l.getD (8 * (i / 8) + i % 8) false := by simp only [h, List.getElem_map, List.getElem_range]
  rw [show 8 * (i / 8) + i % 8 = i by omega, List.getD_eq_getElem?_getD, List.getElem?_eq_getElem hi] at h2
  rw [h1] at h2
  exact h2
theorem packL_bd (l : List Bool) : ∀ c ∈ packL l, 0 ≤ c ∧ c < 256 := by
  intro c hc
  obtain ⟨j, _, rfl⟩ := List.mem_map.1 hc
  exact byteVal_bd l j
theorem pack_byte (l : List Bool) (j : Nat) (hj : j < (strOfNums (packL l)).size) : ((strOfNums (packL l))[j].toNat : Int) = byteVal l j := by
  rw [← numsOf_get _ j hj]
  simp only [nums_str (packL_bd l)]
  simp [packL, packTo]

theorem power_b (n : Int) (w : World) (h : n ≤ 62) : Calls Try.prog 26 #[.int .i64 n] w fun e w' => e = .returned (.int .i64 (p2 n.toNat)) ∧ Below w.heap.size w w' :=
  (power_any n w h).mono fun _ _ ⟨a, b⟩ => ⟨a, by rw [← b]; exact Below.refl _ _⟩

set_option maxHeartbeats 1000000 in
theorem long_walk (v : Value) (b : List Bool) (p : Int) (w : World) (hv : Bits w v b) (hl : b.length ≤ 140737488355328) :
    Calls Try.prog 9 #[v, .int .i64 p] w fun e w' => e = .returned (.bool true) ∧ Below w.heap.size w w' := by
  by_cases hin : 0 ≤ p ∧ p < b.length ∧ b.length ≤ 5000
  · obtain ⟨h1, h2, h3⟩ := hin
    obtain ⟨k, rfl⟩ := Int.eq_ofNat_of_zero_le h1
    have hk : k < b.length := by omega
    rcases sl_one hv with ⟨rfl, _⟩ | ⟨hp0, b0, o0, c0, rfl, hc0, hb0, cell0⟩
    · simp at hk
    · have e0 := cell0 k hk
      clear cell0
      go_enter Try.func9, Try.ntmps9
      go_wp2_with fail
      refine (fixed03_any _).mono ?_
      rintro e w1 ⟨rfl, hb1⟩
      go_wp2_with fail
      refine (pack_any _ b _ (sl_below hv hb1) hl).mono ?_
      rintro e w2 ⟨rfl, hb2⟩
      have hsz : (strOfNums (packL b)).size = packN b.length := by rw [str_size, packL_length]
      have hbyte := pack_byte b
      have Hb : Below w.heap.size w w2 := hb1.trans (hb2.mono hb1.size)
      generalize strOfNums (packL b) = S at *
      have g1 : ((S.size : Int) != ((b.length : Int) + 7) / 8) = false := by rw [hsz]; unfold packN; simp
      have hk8 : k / 8 < S.size := by rw [hsz]; unfold packN; omega
      have hby := hbyte (k / 8) hk8
      have hbit := bit_byteVal b k hk
      rw [← hby] at hbit
      have Hbit := Lib.hid hbit
      have e1 : w2.cell? ⟨b0, o0 + k, none⟩ = some (.bool b[k]) := by rw [Hb.cell (p := ⟨b0, o0 + k, none⟩) hb0]; exact e0
      have hcb := S[k / 8].toNat_lt
      generalize b[k] = x at *
      clear hb1 hb2 hv hsz hbyte hby hbit e0
      have hb02 : b0 < w2.heap.size := Nat.lt_of_lt_of_le hb0 Hb.size
      have q0 : (0 : Int) ≤ (k : Int) / 8 := by omega
      have q1 : (k : Int) / 8 < (S.size : Int) := by omega
      have q2 : (0 : Int) ≤ (k : Int) := by omega
      have t1 : ((k : Int) / 8).toNat = k / 8 := by omega
      have q3 : (k : Int) < (b.length : Int) := by omega
      have y0 : 0 ≤ (S[k / 8].toNat : Int) / p2 (7 - k % 8) := Int.ediv_nonneg (by omega) (by have := p2_pos (7 - k % 8); omega)
      have y1 : (S[k / 8].toNat : Int) / p2 (7 - k % 8) ≤ S[k / 8].toNat := Int.ediv_le_self _ (by omega)
      have x1 : IntKind.i64.wrap ((k : Int) / 8) = (k : Int) / 8 := IntWalk.i64_in _ (by omega)
      have x2 : IntKind.i64.wrap (7 - (k : Int) % 8) = 7 - (k : Int) % 8 := IntWalk.i64_in _ (by omega)
      have x3 : (k : Int).tmod 8 = (k : Int) % 8 := Int.tmod_eq_emod_of_nonneg (by omega)
      have x4 : IntKind.i64.wrap ((S[k / 8].toNat : Int) / p2 (7 - k % 8)) = (S[k / 8].toNat : Int) / p2 (7 - k % 8) := IntWalk.i64_in _ (by omega)
      have x5 : ((S[k / 8].toNat : Int) / p2 (7 - k % 8)).tmod 2 = (S[k / 8].toNat : Int) / p2 (7 - k % 8) % 2 := Int.tmod_eq_emod_of_nonneg y0
      have t2 : (7 - (k : Int) % 8).toNat = 7 - k % 8 := by omega
      have x6 : (S[k / 8].toNat : Int).tdiv (p2 (7 - k % 8)) = (S[k / 8].toNat : Int) / p2 (7 - k % 8) := Int.tdiv_eq_ediv_of_nonneg (by omega)
      have x7 : ¬ p2 (7 - k % 8) = 0 := by have := p2_pos (7 - k % 8); omega
      have x8 : IntKind.i64.wrap (S[k / 8].toNat : Int) = (S[k / 8].toNat : Int) := IntWalk.i64_in _ (by omega)
      have hpw : (7 - (k : Int) % 8) ≤ 62 := by omega
      go_wp2_with fail
      go_region_held3 (Held w2) (first | exact held_start | exact held_call (by assumption) held_start) (first | (go_at_call 26; refine (power_b _ _ hpw).mono ?_; rintro e w' ⟨rfl, hw⟩))
      all_goals
        have hh : Held w2 w' := by assumption
        go_wp2_with fail
        go_ret
        exact ⟨ret_bool (by rw [Hbit.out]; simp), Hb.trans (hh.2.mono Hb.size)⟩
  · obtain ⟨a, cap, rfl, _⟩ := id hv
    go_enter Try.func9, Try.ntmps9
    go_wp2_with fail
    refine (fixed03_any _).mono ?_
    rintro e w1 ⟨rfl, hb1⟩
    by_cases h1 : 5000 < (b.length : Int)
    · go_wp2_with fail
      refine (fixed03_any _).mono ?_
      rintro e w2 ⟨rfl, hb2⟩
      go_wp2_with fail
      go_ret
      exact ⟨rfl, hb1.trans (hb2.mono hb1.size)⟩
    · go_wp2_with fail
      refine (pack_any _ b _ (sl_below hv hb1) hl).mono ?_
      rintro e w2 ⟨rfl, hb2⟩
      have hsz : (strOfNums (packL b)).size = packN b.length := by rw [str_size, packL_length]
      have Hb : Below w.heap.size w w2 := hb1.trans (hb2.mono hb1.size)
      generalize strOfNums (packL b) = S at *
      have g1 : ((S.size : Int) != ((b.length : Int) + 7) / 8) = false := by rw [hsz]; unfold packN; simp
      clear hb1 hb2 hv hsz
      by_cases h2 : p < 0
      · go_wp2_with fail
        go_ret
        exact ⟨rfl, Hb⟩
      · have h3 : (b.length : Int) ≤ p := by omega
        go_wp2_with fail
        go_ret
        exact ⟨rfl, Hb⟩
end Go.Proofs.Ytfafcnnpfgagiaa
