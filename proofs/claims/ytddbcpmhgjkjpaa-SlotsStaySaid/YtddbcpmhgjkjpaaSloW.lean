/- The walk of SlotsCommit. Conditions: numbers fit. -/
import Derived.Test.YtddbcpmhgjkjpaaSloS
import Derived.Test.YtddbcpmhgjkjpaaSloQ
import Derived.Deep.RegionHeld3
namespace Go.Proofs.Ytddbcpmhgjkjpaa
open Go.RowKit

theorem commitU_yes {l : List Us} (h : mayU l = true) : commitU l = commitL l := by unfold commitU; rw [h]; rfl
theorem usedU_yes {l : List Us} (h : mayU l = true) : usedU l = usedL l := by unfold usedU; rw [h]; rfl

set_option maxRecDepth 100000 in
set_option maxHeartbeats 16000000 in
theorem scommit_walk (v : Value) (l : List Us) (w : World) (hv : UseV w v l) (hl : l.length ≤ 140737488355328) :
    Calls Try.prog 6 #[v] w fun e w' => e = .returned (.bool true) ∧ Below w.heap.size w w' := by
  have HV := Lib.hid hv
  obtain ⟨aX, cX, rfl, hcX, hnX, hcellX⟩ := hv
  clear hcellX hnX
  go_enter Try.func6, Try.ntmps6
  have hc := fixed14_any w
  go_wp2_with fail
  refine hc.mono ?_
  rintro e w1 ⟨rfl, hb⟩
  have H1 := Lib.hid (hb)
  clear hc hb
  have hc := mayR_any _ l w1 (sl_below HV.out H1.out) hl
  go_wp2_with fail
  refine hc.mono ?_
  rintro e w2 ⟨rfl, hb⟩
  have H2 := Lib.hid (below_step9 H1.out hb)
  clear hc hb
  cases hmay : mayU l with
  | false =>
    have hc := fixed14_any w2
    go_wp2_with fail
    refine hc.mono ?_
    rintro e w3 ⟨rfl, hb⟩
    go_wp2_with fail
    go_ret
    exact ⟨rfl, below_step9 H2.out hb⟩
  | true =>
    have HM := Lib.hid hmay
    have hl16 := mayU_len hmay
    have HCm := Lib.hid (commitU_yes hmay)
    clear hmay
    have hc := commit_any _ l w2 (sl_below HV.out H2.out) hl
    rw [HCm.out] at hc
    go_wp2_with fail
    refine hc.mono ?_
    rintro e w3 ⟨a3, c3, rfl, hs, hb⟩
    have H3 := Lib.hid (below_step9 H2.out hb)
    have S3 := Lib.hid hs
    have hlc := commitL_le l
    clear hc hb hs
    go_wp2_with fail
    go_loopw [4, 5] (fun n i wr => ∃ k : Nat, k ≤ l.length ∧ i = .int .i64 k ∧ n = .int .i64 ((commitL (l.take k)).length : Nat) ∧ Below w3.heap.size w3 wr) (fun _ i _ => l.length - (intOf i).toNat)
    case atStart => exact ⟨0, Nat.zero_le _, rfl, rfl, Below.refl _ _⟩
    case round =>
      obtain ⟨k, hk, rfl, rfl, hbr⟩ := hrel
      have Hbr := Lib.hid hbr
      have Hbw := Lib.hid (below_step9 H3.out hbr)
      clear hbr
      by_cases hlt : k < l.length
      · obtain ⟨b0, off, hveq, hblt, e0, e1, e2, e3⟩ := use_at (sl_below HV.out Hbw.out) hlt
        subst hveq
        have HN : Hid (commitL (l.take (k + 1)) = commitL (l.take k) ++ (if 0 < l[k].2.2.1 then [oldU l[k]] else [])) := by unfold Hid; rw [List.take_succ_eq_append_getElem hlt]; exact commitL_snoc _ _
        have hle := commitL_le (l.take k)
        have hle2 : (l.take k).length ≤ k := List.length_take_le _ _
        have Hhas := Lib.hid (commit_has hlt)
        have Hcnt := Lib.hid (commit_count HM.out hlt)
        have g0 : (k : Int) < (l.length : Int) := by omega
        have g1 : (0 : Int) ≤ (k : Int) := by omega
        generalize l[k] = u at *
        generalize commitL (l.take k) = L0 at *
        obtain ⟨p, q, c, o⟩ := u
        dsimp only at e0 e1 e2 e3 HN Hhas Hcnt
        by_cases hc : 0 < c
        · have b1 : decide (0 < c) = true := by simpa using hc
          rw [if_pos hc] at HN
          have HHas := Lib.hid (Hhas.out hc)
          have HCnt := Lib.hid (Hcnt.out hc)
          have hh := fun W' (h : Below wr.heap.size wr W') => has_any _ (commitL l) p q c o W' (sl_below S3.out (below_step9 Hbr.out h)) (by omega)
          rw [HHas.out] at hh
          have Hh := Lib.hid hh
          have hcn := fun W' (h : Below wr.heap.size wr W') => count_any _ (commitL l) p W' (sl_below S3.out (below_step9 Hbr.out h)) (by omega)
          rw [HCnt.out] at hcn
          have Hcn := Lib.hid hcn
          clear hc hh hcn
          go_wp2_with fail
          go_region_held3 (Held wr) (first | assumption | exact held_start | exact held_call (by assumption) (by assumption)) (first
            | (go_at_call 32; refine (Hh.out _ (by assumption : Held wr _).2).mono ?_; rintro e w' ⟨rfl, hb8⟩)
            | (go_at_call 26; refine (Hcn.out _ (by assumption : Held wr _).2).mono ?_; rintro e w' ⟨rfl, hb9⟩))
          have hfin := And.right (by assumption : Held wr w')
          go_wp2_with fail
          exact ⟨⟨k + 1, by omega, by go_num, by rw [HN.out, List.length_append]; first | rfl | go_num, below_step9 Hbr.out hfin⟩, by simp [intOf]; omega⟩
        · have b1 : decide (0 < c) = false := by simpa using hc
          rw [if_neg hc, List.append_nil] at HN
          clear hc
          go_wp2_with fail
          exact ⟨⟨k + 1, by omega, by go_num, by rw [HN.out], Hbr.out⟩, by simp [intOf]; omega⟩
      · obtain rfl : k = l.length := by omega
        rw [List.take_length]
        have HTw : Hid (commitU (commitL l) = commitL l) := by unfold Hid; rw [commitU_yes (commit_may HM.out), commit_twice]
        have HU1 := Lib.hid (usedU_yes (commit_may HM.out))
        have HU2 := Lib.hid (usedU_yes HM.out)
        have hfr := free_commit l
        have hc := commit_any _ (commitL l) wr (sl_below S3.out Hbr.out) (by omega)
        rw [HTw.out] at hc
        go_wp2_with fail
        refine hc.mono ?_
        rintro e w4 ⟨a4, c4, rfl, hs, hb⟩
        have H4 := Lib.hid (below_step9 Hbr.out hb)
        have S4 := Lib.hid hs
        clear hc hb hs
        have hc := same_use _ _ (commitL l) w4 S4.out (sl_below S3.out H4.out) (by omega)
        go_wp2_with fail
        refine hc.mono ?_
        rintro e w5 ⟨rfl, hb⟩
        have H5 := Lib.hid (below_step9 H4.out hb)
        clear hc hb
        have hc := used_any _ (commitL l) w5 (sl_below S3.out H5.out) (by omega)
        rw [HU1.out, usedL_length] at hc
        go_wp2_with fail
        refine hc.mono ?_
        rintro e w6 ⟨a6, c6, rfl, hs, hb⟩
        have H6 := Lib.hid (below_step9 H5.out hb)
        have S6 := Lib.hid hs
        clear hc hb hs
        have hc := rfree_any _ (usedL (commitL l)) w6 S6.out (by rw [usedL_length]; omega)
        go_wp2_with fail
        refine hc.mono ?_
        rintro e w7 ⟨rfl, hq⟩
        have H7 := Lib.hid (below_step9 H6.out (below_of_eq hq))
        clear hc hq
        have hc := used_any _ l w7 (sl_below HV.out (below_step9 H3.out H7.out)) (by omega)
        rw [HU2.out, usedL_length] at hc
        go_wp2_with fail
        refine hc.mono ?_
        rintro e w8 ⟨a8, c8, rfl, hs, hb⟩
        have H8 := Lib.hid (below_step9 H7.out hb)
        have S8 := Lib.hid hs
        clear hc hb hs
        have hc := rfree_any _ (usedL l) w8 S8.out (by rw [usedL_length]; omega)
        go_wp2_with fail
        refine hc.mono ?_
        rintro e w9 ⟨rfl, hq⟩
        have H9 := Lib.hid (below_step9 H8.out (below_of_eq hq))
        clear hc hq
        generalize freeP (usedL (commitL l)) = F1 at *
        generalize freeP (usedL l) = F2 at *
        have dF : decide ((F2 : Int) ≤ (F1 : Int)) = true := by simpa using hfr
        go_wp2_with fail
        go_ret
        exact ⟨by first | rfl | simp, below_step9 H3.out H9.out⟩
end Go.Proofs.Ytddbcpmhgjkjpaa
