/- The walk of SlotsTells. Conditions: numbers fit. -/
import Derived.Test.YtddbcpmhgjkjpaaSloR
namespace Go.Proofs.Ytddbcpmhgjkjpaa
open Go.RowKit

theorem below_of_drewN {w w' : World} {n : Nat} (h : w' = w.drewN n) : Below w.heap.size w w' := by rw [h]; exact below_drewN9 (Below.refl _ _) n
theorem below_of_eq {w w' : World} (h : w = w') : Below w.heap.size w w' := by rw [h]; exact Below.refl _ _
theorem takeU_le (l : List Us) (n : Int) : (takeU l n).length ≤ 16 := by
  cases h : takeOk l n with
  | true => exact mayU_len (take_may h)
  | false => rw [(take_no h).1]; simp
theorem turnU_le (l : List Us) (x b : Int) : (turnU l x b).length ≤ l.length := by
  cases h : turnOk l x b with
  | true => rw [turnU_yes h]; exact turnL_le _ _ _
  | false => rw [turnU_no h]; simp
theorem commitU_le (l : List Us) : (commitU l).length ≤ l.length := by
  unfold commitU; split
  · exact commitL_le l
  · simp
theorem usedU_le (l : List Us) : (usedU l).length ≤ 16 := by
  unfold usedU; split
  · rw [usedL_length]; exact Nat.le_refl _
  · simp

set_option maxRecDepth 100000 in
set_option maxHeartbeats 16000000 in
theorem stells_walk (v : Value) (l : List Us) (x n : Int) (w : World) (hv : UseV w v l) (hl : l.length ≤ 140737488355328) :
    Calls Try.prog 3 #[v, .int .i64 x, .int .i64 n] w fun e w' => e = .returned (.bool true) ∧ Below w.heap.size w w' := by
  have HV := Lib.hid hv
  obtain ⟨aX, cX, rfl, hcX, hnX, hcellX⟩ := hv
  clear hcellX hnX
  by_cases h60 : 60 < l.length
  · have d0 : decide ((60 : Int) < (l.length : Int)) = true := by simp; omega
    go_enter Try.func3, Try.ntmps3
    go_wp2_with fail
    refine (fixed14_any w).mono ?_
    rintro e w1 ⟨rfl, hb⟩
    go_wp2_with fail
    go_ret
    exact ⟨rfl, hb⟩
  · have d0 : decide ((60 : Int) < (l.length : Int)) = false := by simp; omega
    have HlT := Lib.hid (takeU_le l n)
    have HlI : Hid ((turnU l x 1).length ≤ 60) := Nat.le_trans (turnU_le l x 1) (by omega)
    have HlD : Hid ((turnU l x (-1)).length ≤ 60) := Nat.le_trans (turnU_le l x (-1)) (by omega)
    have HlC : Hid ((commitU l).length ≤ 60) := Nat.le_trans (commitU_le l) (by omega)
    have HlU := Lib.hid (usedU_le l)
    go_enter Try.func3, Try.ntmps3
    have hc := take_any _ l n w HV.out (by omega)
    unfold TakeV at hc
    go_wp2_with fail
    refine hc.mono ?_
    rintro e w1 ⟨a1, c1, rfl, hs, hb⟩
    have H1 := Lib.hid (hb)
    have Sa := Lib.hid hs
    clear hs
    clear hc hb
    have hc := takeR_any _ l n w1 (sl_below HV.out H1.out) (by omega)
    unfold TakeV at hc
    go_wp2_with fail
    refine hc.mono ?_
    rintro e w2 ⟨a2, c2, rfl, hs, hb⟩
    have H2 := Lib.hid (hb)
    have Sd := Lib.hid hs
    clear hs
    clear hc hb
    have hc := inc_any _ l x w2 (sl_below HV.out (below_step9 H1.out H2.out)) (by omega)
    unfold TurnV at hc
    go_wp2_with fail
    refine hc.mono ?_
    rintro e w3 ⟨a3, c3, rfl, hs, hb⟩
    have H3 := Lib.hid (hb)
    have Sg := Lib.hid hs
    clear hs
    clear hc hb
    have hc := incR_any _ l x w3 (sl_below HV.out (below_step9 (below_step9 H1.out H2.out) H3.out)) (by omega)
    unfold TurnV at hc
    go_wp2_with fail
    refine hc.mono ?_
    rintro e w4 ⟨a4, c4, rfl, hs, hb⟩
    have H4 := Lib.hid (hb)
    have Si := Lib.hid hs
    clear hs
    clear hc hb
    have hc := dec_any _ l x w4 (sl_below HV.out (below_step9 (below_step9 (below_step9 H1.out H2.out) H3.out) H4.out)) (by omega)
    unfold TurnV at hc
    go_wp2_with fail
    refine hc.mono ?_
    rintro e w5 ⟨a5, c5, rfl, hs, hb⟩
    have H5 := Lib.hid (hb)
    have Sk := Lib.hid hs
    clear hs
    clear hc hb
    have hc := decR_any _ l x w5 (sl_below HV.out (below_step9 (below_step9 (below_step9 (below_step9 H1.out H2.out) H3.out) H4.out) H5.out)) (by omega)
    unfold TurnV at hc
    go_wp2_with fail
    refine hc.mono ?_
    rintro e w6 ⟨a6, c6, rfl, hs, hb⟩
    have H6 := Lib.hid (hb)
    have So := Lib.hid hs
    clear hs
    clear hc hb
    have hc := may_any _ l w6 (sl_below HV.out (below_step9 (below_step9 (below_step9 (below_step9 (below_step9 H1.out H2.out) H3.out) H4.out) H5.out) H6.out)) (by omega)
    go_wp2_with fail
    refine hc.mono ?_
    rintro e w7 ⟨rfl, hb⟩
    have H7 := Lib.hid (hb)
    clear hc hb
    have hc := mayR_any _ l w7 (sl_below HV.out (below_step9 (below_step9 (below_step9 (below_step9 (below_step9 (below_step9 H1.out H2.out) H3.out) H4.out) H5.out) H6.out) H7.out)) (by omega)
    go_wp2_with fail
    refine hc.mono ?_
    rintro e w8 ⟨rfl, hb⟩
    have H8 := Lib.hid (hb)
    clear hc hb
    have hc := used_any _ l w8 (sl_below HV.out (below_step9 (below_step9 (below_step9 (below_step9 (below_step9 (below_step9 (below_step9 H1.out H2.out) H3.out) H4.out) H5.out) H6.out) H7.out) H8.out)) (by omega)
    go_wp2_with fail
    refine hc.mono ?_
    rintro e w9 ⟨a9, c9, rfl, hs, hb⟩
    have H9 := Lib.hid (hb)
    have SU := Lib.hid hs
    clear hs
    clear hc hb
    have hc := usedR_any _ l w9 (sl_below HV.out (below_step9 (below_step9 (below_step9 (below_step9 (below_step9 (below_step9 (below_step9 (below_step9 H1.out H2.out) H3.out) H4.out) H5.out) H6.out) H7.out) H8.out) H9.out)) (by omega)
    go_wp2_with fail
    refine hc.mono ?_
    rintro e w10 ⟨a10, c10, rfl, hs, hb⟩
    have H10 := Lib.hid (hb)
    have SV := Lib.hid hs
    clear hs
    clear hc hb
    have hc := same_any _ _ (usedU l) (usedU l) w10 (sl_below SU.out H10.out) SV.out (by have := HlU.out; omega) (by have := HlU.out; omega)
    rw [show ((usedU l) == (usedU l)) = true by simp] at hc
    go_wp2_with fail
    refine hc.mono ?_
    rintro e w11 ⟨rfl, nq, hq⟩
    have hb := below_of_drewN hq
    have H11 := Lib.hid hb
    clear hq
    clear hc hb
    have hc := count_any _ l x w11 (sl_below HV.out (below_step9 (below_step9 (below_step9 (below_step9 (below_step9 (below_step9 (below_step9 (below_step9 (below_step9 (below_step9 H1.out H2.out) H3.out) H4.out) H5.out) H6.out) H7.out) H8.out) H9.out) H10.out) H11.out)) (by omega)
    go_wp2_with fail
    refine hc.mono ?_
    rintro e w12 ⟨rfl, hb⟩
    have H12 := Lib.hid (hb)
    clear hc hb
    have hc := countR_any _ l x w12 (sl_below HV.out (below_step9 (below_step9 (below_step9 (below_step9 (below_step9 (below_step9 (below_step9 (below_step9 (below_step9 (below_step9 (below_step9 H1.out H2.out) H3.out) H4.out) H5.out) H6.out) H7.out) H8.out) H9.out) H10.out) H11.out) H12.out)) (by omega)
    go_wp2_with fail
    refine hc.mono ?_
    rintro e w13 ⟨rfl, hq⟩
    have hb := below_of_eq hq
    have H13 := Lib.hid hb
    clear hq
    clear hc hb
    have hc := fixed14_any w13
    go_wp2_with fail
    refine hc.mono ?_
    rintro e w14 ⟨rfl, hb⟩
    have H14 := Lib.hid (hb)
    clear hc hb
    have hc := same_use _ _ (takeU l n) w14 (sl_below Sa.out (below_step9 (below_step9 (below_step9 (below_step9 (below_step9 (below_step9 (below_step9 (below_step9 (below_step9 (below_step9 (below_step9 (below_step9 H2.out H3.out) H4.out) H5.out) H6.out) H7.out) H8.out) H9.out) H10.out) H11.out) H12.out) H13.out) H14.out)) (sl_below Sd.out (below_step9 (below_step9 (below_step9 (below_step9 (below_step9 (below_step9 (below_step9 (below_step9 (below_step9 (below_step9 (below_step9 H3.out H4.out) H5.out) H6.out) H7.out) H8.out) H9.out) H10.out) H11.out) H12.out) H13.out) H14.out)) (by have := HlT.out; omega)
    go_wp2_with fail
    refine hc.mono ?_
    rintro e w15 ⟨rfl, hb⟩
    have H15 := Lib.hid (hb)
    clear hc hb
    have hc := same_use _ _ (turnU l x 1) w15 (sl_below Sg.out (below_step9 (below_step9 (below_step9 (below_step9 (below_step9 (below_step9 (below_step9 (below_step9 (below_step9 (below_step9 (below_step9 H4.out H5.out) H6.out) H7.out) H8.out) H9.out) H10.out) H11.out) H12.out) H13.out) H14.out) H15.out)) (sl_below Si.out (below_step9 (below_step9 (below_step9 (below_step9 (below_step9 (below_step9 (below_step9 (below_step9 (below_step9 (below_step9 H5.out H6.out) H7.out) H8.out) H9.out) H10.out) H11.out) H12.out) H13.out) H14.out) H15.out)) (by have := HlI.out; omega)
    go_wp2_with fail
    refine hc.mono ?_
    rintro e w16 ⟨rfl, hb⟩
    have H16 := Lib.hid (hb)
    clear hc hb
    have hc := same_use _ _ (turnU l x (-1)) w16 (sl_below Sk.out (below_step9 (below_step9 (below_step9 (below_step9 (below_step9 (below_step9 (below_step9 (below_step9 (below_step9 (below_step9 H6.out H7.out) H8.out) H9.out) H10.out) H11.out) H12.out) H13.out) H14.out) H15.out) H16.out)) (sl_below So.out (below_step9 (below_step9 (below_step9 (below_step9 (below_step9 (below_step9 (below_step9 (below_step9 (below_step9 H7.out H8.out) H9.out) H10.out) H11.out) H12.out) H13.out) H14.out) H15.out) H16.out)) (by have := HlD.out; omega)
    go_wp2_with fail
    refine hc.mono ?_
    rintro e w17 ⟨rfl, hb⟩
    have H17 := Lib.hid (hb)
    clear hc hb
    have hc := commit_any _ l w17 (sl_below HV.out (below_step9 (below_step9 (below_step9 (below_step9 (below_step9 (below_step9 (below_step9 (below_step9 (below_step9 (below_step9 (below_step9 (below_step9 (below_step9 (below_step9 (below_step9 (below_step9 H1.out H2.out) H3.out) H4.out) H5.out) H6.out) H7.out) H8.out) H9.out) H10.out) H11.out) H12.out) H13.out) H14.out) H15.out) H16.out) H17.out)) (by omega)
    go_wp2_with fail
    refine hc.mono ?_
    rintro e w18 ⟨a18, c18, rfl, hs, hb⟩
    have H18 := Lib.hid (hb)
    have SP := Lib.hid hs
    clear hs
    clear hc hb
    have hc := commitR_any _ l w18 (sl_below HV.out (below_step9 (below_step9 (below_step9 (below_step9 (below_step9 (below_step9 (below_step9 (below_step9 (below_step9 (below_step9 (below_step9 (below_step9 (below_step9 (below_step9 (below_step9 (below_step9 (below_step9 H1.out H2.out) H3.out) H4.out) H5.out) H6.out) H7.out) H8.out) H9.out) H10.out) H11.out) H12.out) H13.out) H14.out) H15.out) H16.out) H17.out) H18.out)) (by omega)
    go_wp2_with fail
    refine hc.mono ?_
    rintro e w19 ⟨a19, c19, rfl, hs, hb⟩
    have H19 := Lib.hid (hb)
    have SQ := Lib.hid hs
    clear hs
    clear hc hb
    have hc := same_use _ _ (commitU l) w19 (sl_below SP.out H19.out) SQ.out (by have := HlC.out; omega)
    go_wp2_with fail
    refine hc.mono ?_
    rintro e w20 ⟨rfl, hb⟩
    have H20 := Lib.hid (hb)
    clear hc hb
    go_wp2_with fail
    go_ret
    exact ⟨by simp, (below_step9 (below_step9 (below_step9 (below_step9 (below_step9 (below_step9 (below_step9 (below_step9 (below_step9 (below_step9 (below_step9 (below_step9 (below_step9 (below_step9 (below_step9 (below_step9 (below_step9 (below_step9 (below_step9 H1.out H2.out) H3.out) H4.out) H5.out) H6.out) H7.out) H8.out) H9.out) H10.out) H11.out) H12.out) H13.out) H14.out) H15.out) H16.out) H17.out) H18.out) H19.out) H20.out)⟩
end Go.Proofs.Ytddbcpmhgjkjpaa
