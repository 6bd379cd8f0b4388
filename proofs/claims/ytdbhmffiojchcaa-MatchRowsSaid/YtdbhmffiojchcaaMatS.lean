/- The walk of MatchRows. Conditions: numbers fit. -/
import Derived.Test.YtdbhmffiojchcaaMatK
import Derived.Test.YtdbhmffiojchcaaMatR
namespace Go.Proofs.Ytdbhmffiojchcaa
open Go.RowKit

/-- An empty row of the call's own. -/
theorem owns_empty (w : World) (e size : Nat) : (w.alloc (.cells #[] e)).ownsRow w.heap.size e size (.slice (some ⟨w.heap.size, 0, none⟩) 0 0) 0 [] :=
  ⟨by simp, Or.inr ⟨w.heap.size, 0, #[], rfl, Nat.le_refl _, heap_alloc_new w _, Nat.le_refl _, by simp [maxLen], by simp, by simp⟩⟩

theorem str_rep (n : Nat) (c : Int) : (strOfNums (List.replicate n c)).data.toList = List.replicate n (UInt8.ofNat c.toNat) ∧ (strOfNums (List.replicate n c)).size = n := by
  constructor
  · unfold strOfNums
    simp
  · show (strOfNums (List.replicate n c)).data.size = n
    unfold strOfNums
    simp

set_option maxRecDepth 100000 in
set_option maxHeartbeats 8000000 in
theorem rows_walk (c n : Int) (w : World) (hn : n ≤ 9223372036854775807) :
    Calls Try.prog 5 #[.int .u8 c, .int .i64 n] w fun e w' => e = .returned (.bool true) ∧ Below w.heap.size w w' := by
  obtain ⟨i0, hi, hz0, hz1, hz2⟩ := info_parts info_u8m
  by_cases hbad : n < 0 ∨ 2000 < n
  · rcases hbad with h | h
    · go_enter Try.func5, Try.ntmps5
      go_wp2_with fail
      refine (fixed04_any _).mono ?_
      rintro e w1 ⟨rfl, hb1⟩
      go_wp2_with fail
      refine (fixed04_any _).mono ?_
      rintro e w2 ⟨rfl, hb2⟩
      go_wp2_with fail
      go_ret
      exact ⟨rfl, below_stepB hb1 hb2⟩
    · have h0 : 0 ≤ n := by omega
      go_enter Try.func5, Try.ntmps5
      go_wp2_with fail
      refine (fixed04_any _).mono ?_
      rintro e w1 ⟨rfl, hb1⟩
      go_wp2_with fail
      refine (fixed04_any _).mono ?_
      rintro e w2 ⟨rfl, hb2⟩
      go_wp2_with fail
      go_ret
      exact ⟨rfl, below_stepB hb1 hb2⟩
  obtain ⟨N, rfl⟩ := Int.eq_ofNat_of_zero_le (a := n) (by omega)
  have g2 : (N : Int) ≤ 2000 := by omega
  clear hbad
  have hstr := str_rep N c
  have Hstr := Lib.hid hstr
  have Hcnt := Lib.hid (rows_count N (UInt8.ofNat c.toNat))
  have Hsec := Lib.hid (rows_second N (UInt8.ofNat c.toNat))
  clear hstr
  go_enter Try.func5, Try.ntmps5
  go_wp2_with fail
  refine (fixed04_any _).mono ?_
  rintro e w1 ⟨rfl, hb1⟩
  go_wp2_with fail
  have hbA : Below w.heap.size w (w1.alloc (.cells #[] 5)) := hb1.alloc hb1.size _
  have oA : (w1.alloc (.cells #[] 5)).ownsRow w.heap.size 5 1 (.slice (some ⟨w1.heap.size, 0, none⟩) 0 0) 0 [] := owns_base (owns_empty w1 5 1) hb1.size
  generalize w1.alloc (.cells #[] 5) = w2 at *
  have OA := Lib.hid oA
  clear oA hb1
  go_loopw [5, 6] (fun u i wr => ∃ k : Nat, i = .int .i64 k ∧ k ≤ N ∧ wr.ownsRow w.heap.size 5 1 u k ((List.replicate k c).map (Value.int .u8)) ∧ Below w.heap.size w wr) (fun _ i _ => N - (intOf i).toNat)
  case atStart => exact ⟨0, rfl, Nat.zero_le _, OA.out, hbA⟩
  case round =>
    obtain ⟨k, rfl, hk, oU, hb⟩ := hrel
    obtain ⟨a2, c2, rfl, hoc2, _⟩ := owns_shape oU
    have HU := Lib.hid oU
    have HB := Lib.hid hb
    clear oU hb
    by_cases hlt : k < N
    · go_wp2_with (first
        | (at_builtin; refine wpList_append_own_at _ rfl _ _ 32 rfl w.heap.size 5 i0 (.int .u8 0) 1 1 Try.underlying32 hi hz0 hz1 hz2 rfl (by decide) _ _ _ rfl (HU.out.alloc _) ⟨wr.heap.size, 0, none⟩ 1 1 [.int .u8 c] rfl rfl (cell_one_new _ _ _) (by simp [Value.oneCell']) (by simp [maxLen]; omega) (by omega) (by have := HB.out.size; simp; omega) ?_; intro v3 w3 hown3 hgrow3 _ _)
        | fail)
      have HB3 := Lib.hid ((HB.out.alloc HB.out.size _).grown hgrow3 (by have := HB.out.size; simp; omega) (fun b hbk => owns_block HU.out b hbk))
      have HO3 := Lib.hid hown3
      clear hown3 hgrow3
      go_wp2_with fail
      exact ⟨⟨k + 1, by go_num, by omega, by rw [List.replicate_succ', List.map_append]; exact HO3.out, HB3.out⟩, by simp [intOf]; omega⟩
    · obtain rfl : k = N := by omega
      have hcv := convert_sl (sl_of_owns HU.out).1
      generalize strOfNums (List.replicate k c) = s at *
      have hsz : s.size ≤ 1099511627776 := by rw [Hstr.out.2]; omega
      have c1 := split_any s wr hsz
      rw [Hstr.out.1, Hstr.out.2] at c1
      go_wp2_with fail
      refine c1.mono ?_
      rintro e w4 ⟨v, rfl, hv, ⟨a0, c0, rfl⟩, hb4⟩
      have HB4 := Lib.hid (below_stepB HB.out hb4)
      clear c1 hb4 HB HU hcv
      by_cases h4 : k < 4
      · have : k = 0 ∨ k = 1 ∨ k = 2 ∨ k = 3 := by omega
        rcases this with rfl | rfl | rfl | rfl
        all_goals
          rw [Hcnt.out]
          simp only [cntR]
          go_wp2_with fail
          go_ret
          exact ⟨rfl, HB4.out⟩
      · have hlen := Hcnt.out
        rw [if_neg (by omega), cntR] at hlen
        have hsec := Hsec.out (by omega)
        have hq : ((k : Int) - 1).tdiv 18 = (((k - 1) / 18 : Nat) : Int) := by rw [show (k : Int) - 1 = ((k - 1 : Nat) : Int) by omega]; rfl
        have hr : ((k : Int) - 1).tmod 18 = (((k - 1) % 18 : Nat) : Int) := by rw [show (k : Int) - 1 = ((k - 1 : Nat) : Int) by omega]; rfl
        have h2 : 2 ≤ (spl (List.replicate k (UInt8.ofNat c.toNat)) k 0).length := by rw [hlen]; split <;> omega
        have hle2 : (k - 1) / 18 ≤ 2000 := by omega
        have hrl : (k - 1) % 18 < 18 := by omega
        have hkq : 1 ≤ (k - 1) / 18 ∨ 3 ≤ (k - 1) % 18 := by omega
        clear hkq
        generalize (k - 1) / 18 = q at *
        generalize (k - 1) % 18 = r at *
        generalize spl (List.replicate k (UInt8.ofNat c.toNat)) k 0 = l at *
        obtain ⟨b, off, cap, hv', hlc, hbl, hcell⟩ := toks_cells hv (by omega)
        injection hv' with q1 q2 q3
        subst q1 q3
        obtain ⟨_, e1, _⟩ := hcell 1 (by omega)
        rw [hsec (by omega), Nat.one_mul] at e1
        have e1 : w4.cell? ⟨b, off + 4, none⟩ = some (.int .i64 1) := e1
        have e0 : w4.cell? ⟨b, off + 3 + 1, none⟩ = some (.int .i64 1) := e1
        have Hlen := Lib.hid hlen
        clear hsec hcell hv hlen
        by_cases hr3 : 3 ≤ r
        · have hll : (l.length : Int) = 1 + (q : Int) + 1 := by rw [Hlen.out, if_pos hr3]; omega
          rw [show l.length = 1 + q + 1 by omega]
          go_wp2_with fail
          go_ret
          exact ⟨rfl, HB4.out⟩
        · have hll : l.length = 1 + q + r := by rw [Hlen.out, if_neg hr3]; omega
          rw [hll]
          go_wp2_with fail
          go_ret
          exact ⟨rfl, HB4.out⟩
end Go.Proofs.Ytdbhmffiojchcaa
