/- The walk of SlotsCounts. Conditions: numbers fit. -/
import Derived.Test.YtddbcpmhgjkjpaaSloS
import Derived.Test.YtddbcpmhgjkjpaaSloQ
namespace Go.Proofs.Ytddbcpmhgjkjpaa
open Go.RowKit

set_option maxRecDepth 100000 in
set_option maxHeartbeats 16000000 in
theorem scounts_walk (v : Value) (l : List Us) (x y : Int) (w : World) (hv : UseV w v l) (hl : l.length ≤ 140737488355328) :
    Calls Try.prog 8 #[v, .int .i64 x, .int .i64 y] w fun e w' => e = .returned (.bool true) ∧ Below w.heap.size w w' := by
  have HV := Lib.hid hv
  obtain ⟨aX, cX, rfl, hcX, hnX, hcellX⟩ := hv
  clear hcellX hnX
  go_enter Try.func8, Try.ntmps8
  have hc := fixed14_any w
  go_wp2_with fail
  refine hc.mono ?_
  rintro e w1 ⟨rfl, hb⟩
  have H1 := Lib.hid (hb)
  clear hc hb
  have hc := mayR_any _ l w1 (sl_below HV.out H1.out) hl
  go_wp2_with fail
  refine hc.mono ?_
  rintro e w2 ⟨rfl, hb⟩
  have H2 := Lib.hid (hb)
  clear hc hb
  cases hmay : mayU l with
  | false =>
    have hc := fixed14_any w2
    go_wp2_with fail
    refine hc.mono ?_
    rintro e w3 ⟨rfl, hb⟩
    have H3 := Lib.hid (hb)
    clear hc hb
    go_wp2_with fail
    go_ret
    exact ⟨rfl, (below_step9 (below_step9 H1.out H2.out) H3.out)⟩
  | true =>
    have HM := Lib.hid hmay
    have hl16 := mayU_len hmay
    clear hmay
    have hNr := countU_rg HM.out x
    obtain ⟨N, hN⟩ : ∃ N, countU l x = N := ⟨_, rfl⟩
    have HN := Lib.hid hN
    rw [hN] at hNr
    clear hN
    have hleI := turnU_le l x 1
    have hleD := turnU_le l x (-1)
    by_cases h0 : N = 0
    · have HIn := Lib.hid (turnOk_no (l := l) (a := x) (b := 1) (fun h => h.2.1 (by rw [HN.out, h0])))
      have HDe := Lib.hid (turnOk_no (l := l) (a := x) (b := -1) (fun h => h.2.1 (by rw [HN.out, h0])))
      have e0 : decide (0 < N) = false := by simp; omega
      clear h0
      have hc := inc_any _ (l) (x) w2 (sl_below HV.out (below_step9 H1.out H2.out)) hl
      unfold TurnV at hc
      rw [HIn.out] at hc
      go_wp2_with fail
      refine hc.mono ?_
      rintro e w3 ⟨a3, c3, rfl, hs, hb⟩
      have H3 := Lib.hid (hb)
      have Sa := Lib.hid hs
      clear hs
      clear hc hb
      have hc := dec_any _ (l) (x) w3 (sl_below HV.out (below_step9 (below_step9 H1.out H2.out) H3.out)) hl
      unfold TurnV at hc
      rw [HDe.out] at hc
      go_wp2_with fail
      refine hc.mono ?_
      rintro e w4 ⟨a4, c4, rfl, hs, hb⟩
      have H4 := Lib.hid (hb)
      have Sb := Lib.hid hs
      clear hs
      clear hc hb
      have hc := count_any _ (l) (x) w4 (sl_below HV.out (below_step9 (below_step9 (below_step9 H1.out H2.out) H3.out) H4.out)) hl
      rw [HN.out] at hc
      go_wp2_with fail
      refine hc.mono ?_
      rintro e w5 ⟨rfl, hb⟩
      have H5 := Lib.hid (hb)
      clear hc hb
      go_wp2_with fail
      go_ret
      exact ⟨by first | rfl | simp, (below_step9 (below_step9 (below_step9 (below_step9 H1.out H2.out) H3.out) H4.out) H5.out)⟩
    have HDe := Lib.hid (turnOk_yes (l := l) (a := x) (b := -1) ⟨HM.out, by rw [HN.out]; exact h0, by rw [HN.out]; omega⟩)
    have e0 : decide (0 < N) = true := by simp; omega
    have hN0 : 0 < N := by omega
    clear h0
    by_cases hyx0 : y = x
    · have dy : (y != x) = false := by simpa using hyx0
      clear hyx0
      by_cases h6 : N < 1000000
      · have HIn := Lib.hid (turnOk_yes (l := l) (a := x) (b := 1) ⟨HM.out, by rw [HN.out]; omega, by rw [HN.out]; omega⟩)
        have e6 : decide (N < 1000000) = true := by simpa using h6
        have hc := inc_any _ (l) (x) w2 (sl_below HV.out (below_step9 H1.out H2.out)) hl
        unfold TurnV at hc
        rw [HIn.out] at hc
        go_wp2_with fail
        refine hc.mono ?_
        rintro e w3 ⟨a3, c3, rfl, hs, hb⟩
        have H3 := Lib.hid (hb)
        have Sa := Lib.hid hs
        clear hs
        clear hc hb
        have hc := dec_any _ (l) (x) w3 (sl_below HV.out (below_step9 (below_step9 H1.out H2.out) H3.out)) hl
        unfold TurnV at hc
        rw [HDe.out] at hc
        go_wp2_with fail
        refine hc.mono ?_
        rintro e w4 ⟨a4, c4, rfl, hs, hb⟩
        have H4 := Lib.hid (hb)
        have Sb := Lib.hid hs
        clear hs
        clear hc hb
        have hc := count_any _ (l) (x) w4 (sl_below HV.out (below_step9 (below_step9 (below_step9 H1.out H2.out) H3.out) H4.out)) hl
        rw [HN.out] at hc
        go_wp2_with fail
        refine hc.mono ?_
        rintro e w5 ⟨rfl, hb⟩
        have H5 := Lib.hid (hb)
        clear hc hb
        have hc := count_any _ (turnU l x 1) (x) w5 (sl_below Sa.out (below_step9 H4.out H5.out)) (by omega)
        rw [turn_count HIn.out (by omega), if_pos rfl, HN.out] at hc
        go_wp2_with fail
        refine hc.mono ?_
        rintro e w6 ⟨rfl, hb⟩
        have H6 := Lib.hid (hb)
        clear hc hb
        have hc := count_any _ (turnU l x (-1)) (x) w6 (sl_below Sb.out (below_step9 H5.out H6.out)) (by omega)
        rw [turn_count HDe.out (by omega), if_pos rfl, HN.out, show N + -1 = N - 1 by omega] at hc
        go_wp2_with fail
        refine hc.mono ?_
        rintro e w7 ⟨rfl, hb⟩
        have H7 := Lib.hid (hb)
        clear hc hb
        go_wp2_with fail
        go_ret
        exact ⟨by first | rfl | simp, (below_step9 (below_step9 (below_step9 (below_step9 (below_step9 (below_step9 H1.out H2.out) H3.out) H4.out) H5.out) H6.out) H7.out)⟩
      · have HIn := Lib.hid (turnOk_no (l := l) (a := x) (b := 1) (fun h => by have := h.2.2; rw [HN.out] at this; omega))
        have e6 : decide (N < 1000000) = false := by simpa using h6
        have hc := inc_any _ (l) (x) w2 (sl_below HV.out (below_step9 H1.out H2.out)) hl
        unfold TurnV at hc
        rw [HIn.out] at hc
        go_wp2_with fail
        refine hc.mono ?_
        rintro e w3 ⟨a3, c3, rfl, hs, hb⟩
        have H3 := Lib.hid (hb)
        have Sa := Lib.hid hs
        clear hs
        clear hc hb
        have hc := dec_any _ (l) (x) w3 (sl_below HV.out (below_step9 (below_step9 H1.out H2.out) H3.out)) hl
        unfold TurnV at hc
        rw [HDe.out] at hc
        go_wp2_with fail
        refine hc.mono ?_
        rintro e w4 ⟨a4, c4, rfl, hs, hb⟩
        have H4 := Lib.hid (hb)
        have Sb := Lib.hid hs
        clear hs
        clear hc hb
        have hc := count_any _ (l) (x) w4 (sl_below HV.out (below_step9 (below_step9 (below_step9 H1.out H2.out) H3.out) H4.out)) hl
        rw [HN.out] at hc
        go_wp2_with fail
        refine hc.mono ?_
        rintro e w5 ⟨rfl, hb⟩
        have H5 := Lib.hid (hb)
        clear hc hb
        have hc := count_any _ (turnU l x (-1)) (x) w5 (sl_below Sb.out H5.out) (by omega)
        rw [turn_count HDe.out (by omega), if_pos rfl, HN.out, show N + -1 = N - 1 by omega] at hc
        go_wp2_with fail
        refine hc.mono ?_
        rintro e w6 ⟨rfl, hb⟩
        have H6 := Lib.hid (hb)
        clear hc hb
        go_wp2_with fail
        go_ret
        exact ⟨by first | rfl | simp, (below_step9 (below_step9 (below_step9 (below_step9 (below_step9 H1.out H2.out) H3.out) H4.out) H5.out) H6.out)⟩
    · have dy : (y != x) = true := by simpa using hyx0
      have hyx := Lib.hid hyx0
      clear hyx0
      by_cases h6 : N < 1000000
      · have HIn := Lib.hid (turnOk_yes (l := l) (a := x) (b := 1) ⟨HM.out, by rw [HN.out]; omega, by rw [HN.out]; omega⟩)
        have e6 : decide (N < 1000000) = true := by simpa using h6
        have hc := inc_any _ (l) (x) w2 (sl_below HV.out (below_step9 H1.out H2.out)) hl
        unfold TurnV at hc
        rw [HIn.out] at hc
        go_wp2_with fail
        refine hc.mono ?_
        rintro e w3 ⟨a3, c3, rfl, hs, hb⟩
        have H3 := Lib.hid (hb)
        have Sa := Lib.hid hs
        clear hs
        clear hc hb
        have hc := dec_any _ (l) (x) w3 (sl_below HV.out (below_step9 (below_step9 H1.out H2.out) H3.out)) hl
        unfold TurnV at hc
        rw [HDe.out] at hc
        go_wp2_with fail
        refine hc.mono ?_
        rintro e w4 ⟨a4, c4, rfl, hs, hb⟩
        have H4 := Lib.hid (hb)
        have Sb := Lib.hid hs
        clear hs
        clear hc hb
        have hc := count_any _ (l) (x) w4 (sl_below HV.out (below_step9 (below_step9 (below_step9 H1.out H2.out) H3.out) H4.out)) hl
        rw [HN.out] at hc
        go_wp2_with fail
        refine hc.mono ?_
        rintro e w5 ⟨rfl, hb⟩
        have H5 := Lib.hid (hb)
        clear hc hb
        have hc := count_any _ (turnU l x 1) (x) w5 (sl_below Sa.out (below_step9 H4.out H5.out)) (by omega)
        rw [turn_count HIn.out (by omega), if_pos rfl, HN.out] at hc
        go_wp2_with fail
        refine hc.mono ?_
        rintro e w6 ⟨rfl, hb⟩
        have H6 := Lib.hid (hb)
        clear hc hb
        have hc := count_any _ (turnU l x 1) (y) w6 (sl_below Sa.out (below_step9 (below_step9 H4.out H5.out) H6.out)) (by omega)
        rw [turn_count HIn.out (by omega), if_neg hyx.out] at hc
        go_wp2_with fail
        refine hc.mono ?_
        rintro e w7 ⟨rfl, hb⟩
        have H7 := Lib.hid (hb)
        clear hc hb
        have hc := count_any _ (l) (y) w7 (sl_below HV.out (below_step9 (below_step9 (below_step9 (below_step9 (below_step9 (below_step9 H1.out H2.out) H3.out) H4.out) H5.out) H6.out) H7.out)) hl
        go_wp2_with fail
        refine hc.mono ?_
        rintro e w8 ⟨rfl, hb⟩
        have H8 := Lib.hid (hb)
        clear hc hb
        have hc := count_any _ (turnU l x (-1)) (x) w8 (sl_below Sb.out (below_step9 (below_step9 (below_step9 H5.out H6.out) H7.out) H8.out)) (by omega)
        rw [turn_count HDe.out (by omega), if_pos rfl, HN.out, show N + -1 = N - 1 by omega] at hc
        go_wp2_with fail
        refine hc.mono ?_
        rintro e w9 ⟨rfl, hb⟩
        have H9 := Lib.hid (hb)
        clear hc hb
        have hc := count_any _ (turnU l x (-1)) (y) w9 (sl_below Sb.out (below_step9 (below_step9 (below_step9 (below_step9 H5.out H6.out) H7.out) H8.out) H9.out)) (by omega)
        rw [turn_count HDe.out (by omega), if_neg hyx.out] at hc
        go_wp2_with fail
        refine hc.mono ?_
        rintro e w10 ⟨rfl, hb⟩
        have H10 := Lib.hid (hb)
        clear hc hb
        have hc := count_any _ (l) (y) w10 (sl_below HV.out (below_step9 (below_step9 (below_step9 (below_step9 (below_step9 (below_step9 (below_step9 (below_step9 (below_step9 H1.out H2.out) H3.out) H4.out) H5.out) H6.out) H7.out) H8.out) H9.out) H10.out)) hl
        go_wp2_with fail
        refine hc.mono ?_
        rintro e w11 ⟨rfl, hb⟩
        have H11 := Lib.hid (hb)
        clear hc hb
        go_wp2_with fail
        go_ret
        exact ⟨by first | rfl | simp, (below_step9 (below_step9 (below_step9 (below_step9 (below_step9 (below_step9 (below_step9 (below_step9 (below_step9 (below_step9 H1.out H2.out) H3.out) H4.out) H5.out) H6.out) H7.out) H8.out) H9.out) H10.out) H11.out)⟩
      · have HIn := Lib.hid (turnOk_no (l := l) (a := x) (b := 1) (fun h => by have := h.2.2; rw [HN.out] at this; omega))
        have e6 : decide (N < 1000000) = false := by simpa using h6
        have hc := inc_any _ (l) (x) w2 (sl_below HV.out (below_step9 H1.out H2.out)) hl
        unfold TurnV at hc
        rw [HIn.out] at hc
        go_wp2_with fail
        refine hc.mono ?_
        rintro e w3 ⟨a3, c3, rfl, hs, hb⟩
        have H3 := Lib.hid (hb)
        have Sa := Lib.hid hs
        clear hs
        clear hc hb
        have hc := dec_any _ (l) (x) w3 (sl_below HV.out (below_step9 (below_step9 H1.out H2.out) H3.out)) hl
        unfold TurnV at hc
        rw [HDe.out] at hc
        go_wp2_with fail
        refine hc.mono ?_
        rintro e w4 ⟨a4, c4, rfl, hs, hb⟩
        have H4 := Lib.hid (hb)
        have Sb := Lib.hid hs
        clear hs
        clear hc hb
        have hc := count_any _ (l) (x) w4 (sl_below HV.out (below_step9 (below_step9 (below_step9 H1.out H2.out) H3.out) H4.out)) hl
        rw [HN.out] at hc
        go_wp2_with fail
        refine hc.mono ?_
        rintro e w5 ⟨rfl, hb⟩
        have H5 := Lib.hid (hb)
        clear hc hb
        have hc := count_any _ (turnU l x (-1)) (x) w5 (sl_below Sb.out H5.out) (by omega)
        rw [turn_count HDe.out (by omega), if_pos rfl, HN.out, show N + -1 = N - 1 by omega] at hc
        go_wp2_with fail
        refine hc.mono ?_
        rintro e w6 ⟨rfl, hb⟩
        have H6 := Lib.hid (hb)
        clear hc hb
        have hc := count_any _ (turnU l x (-1)) (y) w6 (sl_below Sb.out (below_step9 H5.out H6.out)) (by omega)
        rw [turn_count HDe.out (by omega), if_neg hyx.out] at hc
        go_wp2_with fail
        refine hc.mono ?_
        rintro e w7 ⟨rfl, hb⟩
        have H7 := Lib.hid (hb)
        clear hc hb
        have hc := count_any _ (l) (y) w7 (sl_below HV.out (below_step9 (below_step9 (below_step9 (below_step9 (below_step9 (below_step9 H1.out H2.out) H3.out) H4.out) H5.out) H6.out) H7.out)) hl
        go_wp2_with fail
        refine hc.mono ?_
        rintro e w8 ⟨rfl, hb⟩
        have H8 := Lib.hid (hb)
        clear hc hb
        go_wp2_with fail
        go_ret
        exact ⟨by first | rfl | simp, (below_step9 (below_step9 (below_step9 (below_step9 (below_step9 (below_step9 (below_step9 H1.out H2.out) H3.out) H4.out) H5.out) H6.out) H7.out) H8.out)⟩
end Go.Proofs.Ytddbcpmhgjkjpaa
