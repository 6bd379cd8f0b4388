/- The walk of SlotsFree. Conditions: numbers fit. -/
import Derived.Test.YtddbcpmhgjkjpaaSloS
import Derived.Test.YtddbcpmhgjkjpaaSloQ
namespace Go.Proofs.Ytddbcpmhgjkjpaa
open Go.RowKit

set_option maxRecDepth 100000 in
set_option maxHeartbeats 16000000 in
theorem sfree_walk (v : Value) (l : List Us) (n : Int) (w : World) (hv : UseV w v l) (hl : l.length ≤ 140737488355328) :
    Calls Try.prog 7 #[v, .int .i64 n] w fun e w' => e = .returned (.bool true) ∧ Below w.heap.size w w' := by
  have HV := Lib.hid hv
  obtain ⟨aX, cX, rfl, hcX, hnX, hcellX⟩ := hv
  clear hcellX hnX
  go_enter Try.func7, Try.ntmps7
  have hc := fixed14_any w
  go_wp2_with fail
  refine hc.mono ?_
  rintro e w1 ⟨rfl, hb⟩
  have H1 := Lib.hid (hb)
  clear hc hb
  have hc := mayR_any _ l w1 (sl_below HV.out H1.out) hl
  go_wp2_with fail
  refine hc.mono ?_
  rintro e w2 ⟨rfl, hb⟩
  have H2 := Lib.hid (hb)
  clear hc hb
  cases hmay : mayU l with
  | false =>
    have hc := fixed14_any w2
    go_wp2_with fail
    refine hc.mono ?_
    rintro e w3 ⟨rfl, hb⟩
    have H3 := Lib.hid (hb)
    clear hc hb
    go_wp2_with fail
    go_ret
    exact ⟨rfl, (below_step9 (below_step9 H1.out H2.out) H3.out)⟩
  | true =>
    have HM := Lib.hid hmay
    have hl16 := mayU_len hmay
    clear hmay
    by_cases hd1 : n < 1
    · have d1 : decide (n < 1) = true := by simpa using hd1
      have hc := fixed14_any w2
      go_wp2_with fail
      refine hc.mono ?_
      rintro e w3 ⟨rfl, hb⟩
      have H3 := Lib.hid (hb)
      clear hc hb
      go_wp2_with fail
      go_ret
      exact ⟨rfl, (below_step9 (below_step9 H1.out H2.out) H3.out)⟩
    have d1 : decide (n < 1) = false := by simpa using hd1
    by_cases hd8 : 8 < n
    · have d8 : decide (8 < n) = true := by simpa using hd8
      have hc := fixed14_any w2
      go_wp2_with fail
      refine hc.mono ?_
      rintro e w3 ⟨rfl, hb⟩
      have H3 := Lib.hid (hb)
      clear hc hb
      go_wp2_with fail
      go_ret
      exact ⟨rfl, (below_step9 (below_step9 H1.out H2.out) H3.out)⟩
    have d8 : decide (8 < n) = false := by simpa using hd8
    have HUL : Hid (usedU l = usedL l) := by unfold Hid usedU; rw [HM.out]; rfl
    have hfr : freeP (usedL l) ≤ 16 := by have := List.length_filter_le (fun b : Bool => !b) (usedL l); rw [usedL_length] at this; exact this
    have hc := used_any _ (l) w2 (sl_below HV.out (below_step9 H1.out H2.out)) hl
    rw [HUL.out, usedL_length] at hc
    go_wp2_with fail
    refine hc.mono ?_
    rintro e w3 ⟨a3, c3, rfl, hs, hb⟩
    have H3 := Lib.hid (hb)
    have Su := Lib.hid hs
    clear hs
    clear hc hb
    have hc := rfree_any _ (usedL l) w3 Su.out (by rw [usedL_length]; omega)
    go_wp2_with fail
    refine hc.mono ?_
    rintro e w4 ⟨rfl, hq⟩
    have H4 := Lib.hid (below_of_eq hq)
    clear hc hq
    cases htk : takeOk l n with
    | false =>
      have HK := Lib.hid htk
      have HNo := Lib.hid (take_no htk)
      obtain ⟨hlo, hne⟩ := first_no HM.out (by omega) (by omega) htk
      have hpos : (0 : Int) < (l.length : Int) := by have := List.length_pos_iff.2 hne; omega
      have dl : decide ((0 : Int) < (l.length : Int)) = true := by simpa using hpos
      clear htk hne
      have hc := take_any _ l n w4 (sl_below HV.out (below_step9 (below_step9 (below_step9 H1.out H2.out) H3.out) H4.out)) hl
      unfold TakeV at hc
      rw [HK.out, HNo.out.1, HNo.out.2] at hc
      simp only [List.length_nil] at hc
      go_wp2_with fail
      refine hc.mono ?_
      rintro e w5 ⟨a5, c5, rfl, hs, hb⟩
      have H5 := Lib.hid (hb)
      have Sa := Lib.hid hs
      clear hs
      clear hc hb
      have hc := used_any _ (l) w5 (sl_below HV.out (below_step9 (below_step9 (below_step9 (below_step9 H1.out H2.out) H3.out) H4.out) H5.out)) hl
      rw [HUL.out, usedL_length] at hc
      go_wp2_with fail
      refine hc.mono ?_
      rintro e w6 ⟨a6, c6, rfl, hs, hb⟩
      have H6 := Lib.hid (hb)
      have Sx := Lib.hid hs
      clear hs
      clear hc hb
      have hc := rlong_any _ (usedL l) w6 Sx.out (by rw [usedL_length]; omega)
      go_wp2_with fail
      refine hc.mono ?_
      rintro e w7 ⟨rfl, hq⟩
      have H7 := Lib.hid (below_of_eq hq)
      clear hc hq
      have dn : decide ((longP (usedL l) : Int) < n) = true := by simpa using hlo
      generalize longP (usedL l) = q at *
      go_wp2_with fail
      go_ret
      exact ⟨by first | rfl | simp, (below_step9 (below_step9 (below_step9 (below_step9 (below_step9 (below_step9 H1.out H2.out) H3.out) H4.out) H5.out) H6.out) H7.out)⟩
    | true =>
      have HK := Lib.hid htk
      have HUM : Hid (usedU (takeU l n) = usedL (takeU l n)) := by unfold Hid usedU; rw [take_may htk]; rfl
      have HFr := Lib.hid (free_take htk)
      have HC1 := Lib.hid (take_count htk)
      have HLen := Lib.hid (take_len htk)
      have hle16 := takeU_le l n
      clear htk
      have hc := take_any _ l n w4 (sl_below HV.out (below_step9 (below_step9 (below_step9 H1.out H2.out) H3.out) H4.out)) hl
      unfold TakeV at hc
      rw [HK.out] at hc
      go_wp2_with fail
      refine hc.mono ?_
      rintro e w5 ⟨a5, c5, rfl, hs, hb⟩
      have H5 := Lib.hid (hb)
      have Sa := Lib.hid hs
      clear hs
      clear hc hb
      have hc := used_any _ (takeU l n) w5 Sa.out (by omega)
      rw [HUM.out, usedL_length] at hc
      go_wp2_with fail
      refine hc.mono ?_
      rintro e w6 ⟨a6, c6, rfl, hs, hb⟩
      have H6 := Lib.hid (hb)
      have Sm := Lib.hid hs
      clear hs
      clear hc hb
      have hc := rfree_any _ (usedL (takeU l n)) w6 Sm.out (by rw [usedL_length]; omega)
      rw [HFr.out] at hc
      go_wp2_with fail
      refine hc.mono ?_
      rintro e w7 ⟨rfl, hq⟩
      have H7 := Lib.hid (below_of_eq hq)
      clear hc hq
      have hc := count_any _ (takeU l n) (takeP l n) w7 (sl_below Sa.out (below_step9 H6.out H7.out)) (by omega)
      rw [HC1.out] at hc
      go_wp2_with fail
      refine hc.mono ?_
      rintro e w8 ⟨rfl, hb⟩
      have H8 := Lib.hid (hb)
      clear hc hb
      rw [HLen.out]
      generalize freeP (usedL l) = F at *
      go_wp2_with fail
      go_ret
      exact ⟨by first | rfl | simp, (below_step9 (below_step9 (below_step9 (below_step9 (below_step9 (below_step9 (below_step9 H1.out H2.out) H3.out) H4.out) H5.out) H6.out) H7.out) H8.out)⟩
end Go.Proofs.Ytddbcpmhgjkjpaa
