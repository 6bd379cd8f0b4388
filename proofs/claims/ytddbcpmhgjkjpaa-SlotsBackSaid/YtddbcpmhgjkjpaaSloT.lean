/- The walk of SlotsBack. Conditions: numbers fit. -/
import Derived.Test.YtddbcpmhgjkjpaaSloS
import Derived.Test.YtddbcpmhgjkjpaaSloQ
namespace Go.Proofs.Ytddbcpmhgjkjpaa
open Go.RowKit

set_option maxRecDepth 100000 in
set_option maxHeartbeats 16000000 in
theorem sback_walk (v : Value) (l : List Us) (x n : Int) (w : World) (hv : UseV w v l) (hl : l.length ≤ 140737488355328) :
    Calls Try.prog 5 #[v, .int .i64 x, .int .i64 n] w fun e w' => e = .returned (.bool true) ∧ Below w.heap.size w w' := by
  have HV := Lib.hid hv
  obtain ⟨aX, cX, rfl, hcX, hnX, hcellX⟩ := hv
  clear hcellX hnX
  go_enter Try.func5, Try.ntmps5
  have hc := fixed14_any w
  go_wp2_with fail
  refine hc.mono ?_
  rintro e w1 ⟨rfl, hb⟩
  have H1 := Lib.hid (hb)
  clear hc hb
  have hc := mayR_any _ l w1 (sl_below HV.out H1.out) hl
  go_wp2_with fail
  refine hc.mono ?_
  rintro e w2 ⟨rfl, hb⟩
  have H2 := Lib.hid (hb)
  clear hc hb
  cases hmay : mayU l with
  | false =>
    have hc := fixed14_any w2
    go_wp2_with fail
    refine hc.mono ?_
    rintro e w3 ⟨rfl, hb⟩
    have H3 := Lib.hid (hb)
    clear hc hb
    go_wp2_with fail
    go_ret
    exact ⟨rfl, (below_step9 (below_step9 H1.out H2.out) H3.out)⟩
  | true =>
    have HM := Lib.hid hmay
    have hl16 := mayU_len hmay
    clear hmay
    cases htk : takeOk l n with
    | false =>
      have hc := take_any _ l n w2 (sl_below HV.out (below_step9 H1.out H2.out)) hl
      unfold TakeV at hc
      rw [htk] at hc
      go_wp2_with fail
      refine hc.mono ?_
      rintro e w3 ⟨a3, c3, rfl, hs, hb⟩
      have H3 := Lib.hid (hb)
      have Sa := Lib.hid hs
      clear hs
      clear hc hb
      go_wp2_with fail
      cases hinc : turnOk l x 1 with
      | false =>
        have hc := inc_any _ (l) (x) w3 (sl_below HV.out (below_step9 (below_step9 H1.out H2.out) H3.out)) hl
        unfold TurnV at hc
        rw [hinc] at hc
        go_wp2_with fail
        refine hc.mono ?_
        rintro e w4 ⟨a4, c4, rfl, hs, hb⟩
        have H4 := Lib.hid (hb)
        have Sc := Lib.hid hs
        clear hs
        clear hc hb
        go_wp2_with fail
        go_ret
        exact ⟨by first | rfl | simp, (below_step9 (below_step9 (below_step9 H1.out H2.out) H3.out) H4.out)⟩
      | true =>
        have HI := Lib.hid hinc
        have HIb := Lib.hid (inc_dec hinc)
        have hcn := turn_count hinc (by omega) x
        rw [if_pos rfl] at hcn
        have HCn := Lib.hid hcn
        have hNr := countU_rg HM.out x
        have hle := turnU_le l x 1
        clear hinc hcn
        have hc := inc_any _ (l) (x) w3 (sl_below HV.out (below_step9 (below_step9 H1.out H2.out) H3.out)) hl
        unfold TurnV at hc
        rw [HI.out] at hc
        go_wp2_with fail
        refine hc.mono ?_
        rintro e w4 ⟨a4, c4, rfl, hs, hb⟩
        have H4 := Lib.hid (hb)
        have Sc := Lib.hid hs
        clear hs
        clear hc hb
        have hc := dec_any _ (turnU l x 1) (x) w4 Sc.out (by omega)
        unfold TurnV at hc
        rw [HIb.out.1, HIb.out.2] at hc
        go_wp2_with fail
        refine hc.mono ?_
        rintro e w5 ⟨a5, c5, rfl, hs, hb⟩
        have H5 := Lib.hid (hb)
        have Sd := Lib.hid hs
        clear hs
        clear hc hb
        have hc := same_use _ _ l w5 Sd.out (sl_below HV.out (below_step9 (below_step9 (below_step9 (below_step9 H1.out H2.out) H3.out) H4.out) H5.out)) (by omega)
        go_wp2_with fail
        refine hc.mono ?_
        rintro e w6 ⟨rfl, hb⟩
        have H6 := Lib.hid (hb)
        clear hc hb
        obtain ⟨N, hN⟩ : ∃ N, countU l x = N := ⟨_, rfl⟩
        have HN := Lib.hid hN
        rw [hN] at hNr
        clear hN
        have hc := count_any _ (turnU l x 1) (x) w6 (sl_below Sc.out (below_step9 H5.out H6.out)) (by omega)
        rw [HCn.out, HN.out] at hc
        go_wp2_with fail
        refine hc.mono ?_
        rintro e w7 ⟨rfl, hb⟩
        have H7 := Lib.hid (hb)
        clear hc hb
        have hc := count_any _ (l) (x) w7 (sl_below HV.out (below_step9 (below_step9 (below_step9 (below_step9 (below_step9 (below_step9 H1.out H2.out) H3.out) H4.out) H5.out) H6.out) H7.out)) hl
        rw [HN.out] at hc
        go_wp2_with fail
        refine hc.mono ?_
        rintro e w8 ⟨rfl, hb⟩
        have H8 := Lib.hid (hb)
        clear hc hb
        go_wp2_with fail
        go_ret
        exact ⟨by first | rfl | simp, (below_step9 (below_step9 (below_step9 (below_step9 (below_step9 (below_step9 (below_step9 H1.out H2.out) H3.out) H4.out) H5.out) H6.out) H7.out) H8.out)⟩
    | true =>
      have HK := Lib.hid htk
      have HBk := Lib.hid (take_back htk)
      have HC1 := Lib.hid (take_count htk)
      have hle16 := takeU_le l n
      clear htk
      have hc := take_any _ l n w2 (sl_below HV.out (below_step9 H1.out H2.out)) hl
      unfold TakeV at hc
      rw [HK.out] at hc
      go_wp2_with fail
      refine hc.mono ?_
      rintro e w3 ⟨a3, c3, rfl, hs, hb⟩
      have H3 := Lib.hid (hb)
      have Sa := Lib.hid hs
      clear hs
      clear hc hb
      have hc := dec_any _ (takeU l n) (takeP l n) w3 Sa.out (by omega)
      unfold TurnV at hc
      rw [HBk.out.1, HBk.out.2] at hc
      go_wp2_with fail
      refine hc.mono ?_
      rintro e w4 ⟨a4, c4, rfl, hs, hb⟩
      have H4 := Lib.hid (hb)
      have Sb := Lib.hid hs
      clear hs
      clear hc hb
      have hc := same_use _ _ l w4 Sb.out (sl_below HV.out (below_step9 (below_step9 (below_step9 H1.out H2.out) H3.out) H4.out)) (by omega)
      go_wp2_with fail
      refine hc.mono ?_
      rintro e w5 ⟨rfl, hb⟩
      have H5 := Lib.hid (hb)
      clear hc hb
      have hc := count_any _ (takeU l n) (takeP l n) w5 (sl_below Sa.out (below_step9 H4.out H5.out)) (by omega)
      rw [HC1.out] at hc
      go_wp2_with fail
      refine hc.mono ?_
      rintro e w6 ⟨rfl, hb⟩
      have H6 := Lib.hid (hb)
      clear hc hb
      go_wp2_with fail
      cases hinc : turnOk l x 1 with
      | false =>
        have hc := inc_any _ (l) (x) w6 (sl_below HV.out (below_step9 (below_step9 (below_step9 (below_step9 (below_step9 H1.out H2.out) H3.out) H4.out) H5.out) H6.out)) hl
        unfold TurnV at hc
        rw [hinc] at hc
        go_wp2_with fail
        refine hc.mono ?_
        rintro e w7 ⟨a7, c7, rfl, hs, hb⟩
        have H7 := Lib.hid (hb)
        have Sc := Lib.hid hs
        clear hs
        clear hc hb
        go_wp2_with fail
        go_ret
        exact ⟨by first | rfl | simp, (below_step9 (below_step9 (below_step9 (below_step9 (below_step9 (below_step9 H1.out H2.out) H3.out) H4.out) H5.out) H6.out) H7.out)⟩
      | true =>
        have HI := Lib.hid hinc
        have HIb := Lib.hid (inc_dec hinc)
        have hcn := turn_count hinc (by omega) x
        rw [if_pos rfl] at hcn
        have HCn := Lib.hid hcn
        have hNr := countU_rg HM.out x
        have hle := turnU_le l x 1
        clear hinc hcn
        have hc := inc_any _ (l) (x) w6 (sl_below HV.out (below_step9 (below_step9 (below_step9 (below_step9 (below_step9 H1.out H2.out) H3.out) H4.out) H5.out) H6.out)) hl
        unfold TurnV at hc
        rw [HI.out] at hc
        go_wp2_with fail
        refine hc.mono ?_
        rintro e w7 ⟨a7, c7, rfl, hs, hb⟩
        have H7 := Lib.hid (hb)
        have Sc := Lib.hid hs
        clear hs
        clear hc hb
        have hc := dec_any _ (turnU l x 1) (x) w7 Sc.out (by omega)
        unfold TurnV at hc
        rw [HIb.out.1, HIb.out.2] at hc
        go_wp2_with fail
        refine hc.mono ?_
        rintro e w8 ⟨a8, c8, rfl, hs, hb⟩
        have H8 := Lib.hid (hb)
        have Sd := Lib.hid hs
        clear hs
        clear hc hb
        have hc := same_use _ _ l w8 Sd.out (sl_below HV.out (below_step9 (below_step9 (below_step9 (below_step9 (below_step9 (below_step9 (below_step9 H1.out H2.out) H3.out) H4.out) H5.out) H6.out) H7.out) H8.out)) (by omega)
        go_wp2_with fail
        refine hc.mono ?_
        rintro e w9 ⟨rfl, hb⟩
        have H9 := Lib.hid (hb)
        clear hc hb
        obtain ⟨N, hN⟩ : ∃ N, countU l x = N := ⟨_, rfl⟩
        have HN := Lib.hid hN
        rw [hN] at hNr
        clear hN
        have hc := count_any _ (turnU l x 1) (x) w9 (sl_below Sc.out (below_step9 H8.out H9.out)) (by omega)
        rw [HCn.out, HN.out] at hc
        go_wp2_with fail
        refine hc.mono ?_
        rintro e w10 ⟨rfl, hb⟩
        have H10 := Lib.hid (hb)
        clear hc hb
        have hc := count_any _ (l) (x) w10 (sl_below HV.out (below_step9 (below_step9 (below_step9 (below_step9 (below_step9 (below_step9 (below_step9 (below_step9 (below_step9 H1.out H2.out) H3.out) H4.out) H5.out) H6.out) H7.out) H8.out) H9.out) H10.out)) hl
        rw [HN.out] at hc
        go_wp2_with fail
        refine hc.mono ?_
        rintro e w11 ⟨rfl, hb⟩
        have H11 := Lib.hid (hb)
        clear hc hb
        go_wp2_with fail
        go_ret
        exact ⟨by first | rfl | simp, (below_step9 (below_step9 (below_step9 (below_step9 (below_step9 (below_step9 (below_step9 (below_step9 (below_step9 (below_step9 H1.out H2.out) H3.out) H4.out) H5.out) H6.out) H7.out) H8.out) H9.out) H10.out) H11.out)⟩
end Go.Proofs.Ytddbcpmhgjkjpaa
