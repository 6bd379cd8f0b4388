/- The contract of Kraft. Conditions: numbers fit. -/
import Derived.Test.YtpkbbbdbcedkfaaHufM
namespace Go.Proofs.Ytpkbbbdbcedkfaa
open Go.RowKit

theorem kraftL_take (l : List Int) (k : Nat) (hk : k < l.length) : kraftL (l.take (k + 1)) = kraftL (l.take k) + oneK l[k] := by
  rw [List.take_succ_eq_append_getElem hk, kraftL_snoc]
theorem oneK_in {x : Int} (h0 : 1 ≤ x) (h1 : x ≤ 15) : oneK x = p2 (15 - x).toNat := by
  unfold oneK
  rw [if_pos (by omega)]
  congr 1; omega
theorem oneK_out {x : Int} (h : x < 1 ∨ 15 < x) : oneK x = 0 := by
  unfold oneK
  rw [if_neg (by omega)]

set_option maxHeartbeats 1000000 in
theorem kraft_any (v : Value) (l : List Int) (w : World) (hv : SlOf w v 1 (fun x => [.int .i64 x]) l) (hl : l.length ≤ 140737488355328) :
    Calls Try.prog 12 #[v] w fun e w' => e = .returned (.int .i64 (kraftL l)) ∧ w = w' := by
  rcases sl_one hv with ⟨rfl, a0, c0, rfl, hn0⟩ | ⟨hp0, b0, o0, c0, rfl, hc0, hb0, cell0⟩
  · go_enter Try.func12, Try.ntmps12
    go_wp2
    refine wp_loop_rounds 1 ?_
    rw [rounds_succ]
    go_wp2
    go_ret
    exact ⟨rfl, rfl⟩
  · clear hv
    go_enter Try.func12, Try.ntmps12
    go_wp2
    go_loop [3, 8] (fun n i => ∃ k : Nat, k ≤ l.length ∧ i = .int .i64 k ∧ n = .int .i64 (kraftL (l.take k))) (fun _ i => l.length - (intOf i).toNat)
    case atStart => exact ⟨0, Nat.zero_le _, rfl, by simp [kraftL]⟩
    case round =>
      obtain ⟨k, hk, rfl, rfl⟩ := hrel
      by_cases hlt : k < l.length
      · have e0 := cell0 k hlt
        have HK := Lib.hid (kraftL_take l k hlt)
        have hb1 := kraftL_bd (l.take k)
        have hb2 : (((l.take k).length : Nat) : Int) ≤ 140737488355328 := by have := List.length_take_le k l; omega
        have hk0 := hb1.1
        have hk1 : kraftL (l.take k) ≤ 2305843009213693952 := by omega
        clear hb1 hb2 cell0
        have g0 : (k : Int) < (l.length : Int) := by omega
        have g2 : (0 : Int) ≤ (k : Int) := by omega
        generalize hs : kraftL (l.take k) = s at *
        clear hs
        generalize l[k] = x at *
        by_cases h0 : 1 ≤ x
        · by_cases h1 : x ≤ 15
          · have HO := Lib.hid (oneK_in h0 h1)
            obtain ⟨W, hW⟩ := Int.eq_ofNat_of_zero_le (a := 15 - x) (by omega)
            obtain rfl : x = 15 - W := by omega
            have hp := p2_le (n := W) (by omega)
            have hp1 := p2_pos W
            have hp14 := p2_mono (m := W) (n := 14) (by omega)
            have hp15 : p2 14 = 16384 := by decide
            have hw : wrap64 (2 ^ W) = p2 W := by rw [← p2_pow]; exact IntWalk.wrap64_in _ (by omega)
            have hs1 : (15 - (15 - (W : Int))) = W := by omega
            have hs2 : IntKind.i64.wrap (s + p2 W) = s + p2 W := by rw [IntKind.wrap_i64]; omega
            rw [hs1] at HO
            have HO' : Hid (oneK (15 - (W : Int)) = p2 W) := by rw [Int.toNat_natCast] at HO; exact HO
            clear HO hp hp14 hp15
            go_wp2
            exact ⟨⟨k + 1, by omega, by go_num, by rw [HK.out, HO'.out]⟩, by simp [intOf]; omega⟩
          · have HO := Lib.hid (oneK_out (x := x) (by omega))
            go_wp2
            exact ⟨⟨k + 1, by omega, by go_num, by rw [HK.out, HO.out]; simp⟩, by simp [intOf]; omega⟩
        · have HO := Lib.hid (oneK_out (x := x) (by omega))
          go_wp2
          exact ⟨⟨k + 1, by omega, by go_num, by rw [HK.out, HO.out]; simp⟩, by simp [intOf]; omega⟩
      · obtain rfl : k = l.length := by omega
        have e0 := Lib.hid (List.take_of_length_le (Nat.le_refl l.length))
        clear cell0
        go_wp2
        go_ret
        exact ⟨rfl, rfl⟩

end Go.Proofs.Ytpkbbbdbcedkfaa
