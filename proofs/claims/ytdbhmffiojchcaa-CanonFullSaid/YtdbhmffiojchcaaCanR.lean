/- The walk of CanonFull. Conditions: numbers fit. -/
import Derived.Test.YtdbhmffiojchcaaCanN
namespace Go.Proofs.Ytdbhmffiojchcaa
open Go.RowKit

theorem own_ne {w : World} {base e n size : Nat} {v : Value} {cs : List Value} (h : w.ownsRow base e size v n cs) : v.ownBlock ≠ some w.heap.size := fun hk => by
  have := (h.lt _ hk).2; omega
theorem info_bool2 : (Try.prog.info? 4).map (fun i => (i.zero, i.size, i.bytes)) = some (some (.bool false), 1, 1) := by kernel_rfl

set_option maxRecDepth 100000 in
set_option maxHeartbeats 8000000 in
theorem full_walk (v : Value) (l : List Int) (b : List Bool) (w : World) (hv : SlOf w v 1 (fun x => [.int .i64 x]) l) (hl : l.length ≤ 140737488355328) (hb15 : b.length = 15) :
    Calls Try.prog 8 #[v, .agg (b.map Value.bool).toArray] w fun e w' => e = .returned (.bool true) ∧ Below w.heap.size w w' := by
  obtain ⟨i0, hi, hz0, hz1, hz2⟩ := info_parts info_bool
  have hB0 : Below w.heap.size w (w.alloc (.cells (b.map Value.bool).toArray 49)) := (Below.refl _ _).alloc (Nat.le_refl _) _
  have HV := Lib.hid (sl_below hv hB0)
  have HA0 := Lib.hid (arr_new w (b.map Value.bool) 49)
  have HB0 := Lib.hid hB0
  have Hb15 := Lib.hid hb15
  obtain ⟨aX, cX, rfl, hcX, hnX, hcellX⟩ := hv
  clear hcellX hnX hB0
  have hlt : w.heap.size < (w.alloc (.cells (b.map Value.bool).toArray 49)).heap.size := by simp
  have hcd := codes_any _ l _ HV.out hl
  go_enter Try.func8, Try.ntmps8
  go_wp2_with fail
  generalize w.alloc (.cells (b.map Value.bool).toArray 49) = w0 at *
  refine hcd.mono ?_
  rintro e w1 ⟨v1, rfl, hsl, hb1⟩
  obtain ⟨a1, cc1, rfl, _⟩ := id hsl
  clear hcd
  go_wp2_with fail
  refine (fixed06_any _).mono ?_
  rintro e w2 ⟨rfl, hb2⟩
  have HB2 := Lib.hid (below_step hb1 hb2)
  clear hb1 hb2 hsl
  cases hok : lensOk l with
  | false =>
    rw [codesR_no hok]
    go_wp2_with fail
    refine (fixed06_any _).mono ?_
    rintro e w3 ⟨rfl, hb3⟩
    go_wp2_with fail
    go_ret
    exact ⟨by simp, HB0.out.trans ((below_step HB2.out hb3).mono (Nat.le_of_lt hlt))⟩
  | true =>
    have HOk := Lib.hid hok
    have h300 := (lensOk_parts hok).1
    have hA2 : Arr w2 w.heap.size 49 (b.map Value.bool) := arr_below HA0.out HB2.out hlt
    have HA2 := Lib.hid hA2
    have hE1 := (owns_empty w2 4 1).alloc (.cells #[] 4)
    have hE2 := owns_empty (w2.alloc (.cells #[] 4)) 4 1
    have HE1 := Lib.hid hE1
    have HE2 := Lib.hid (owns_base hE2 (base' := w2.heap.size) (by simp))
    have HBE : Hid (Below w2.heap.size w2 ((w2.alloc (.cells #[] 4)).alloc (.cells #[] 4))) := ((Below.refl _ _).alloc (Nat.le_refl _) _).alloc (by simp) _
    clear hok hA2 hE1 hE2 HA0
    go_wp2_with fail
    go_loopw [7, 8, 9] (fun u1 u2 i wr => ∃ k : Nat, k ≤ 15 ∧ i = .int .i64 k ∧ wr.ownsRow w2.heap.size 4 1 u1 k ((b.take k).map .bool) ∧ wr.ownsRow w2.heap.size 4 1 u2 k ((List.replicate k true).map .bool) ∧ (∃ g1 g2, u1.ownBlock = some g1 ∧ u2.ownBlock = some g2 ∧ g1 ≠ g2) ∧ Below w2.heap.size w2 wr) (fun _ _ i _ => 15 - (intOf i).toNat)
    case atStart => exact ⟨0, by omega, rfl, by simpa using HE1.out, by simpa using HE2.out, ⟨_, _, rfl, rfl, by simp⟩, HBE.out⟩
    case round =>
      obtain ⟨k, hk, rfl, hown1, hown2, ⟨g1, g2, hg1, hg2, hne⟩, hb⟩ := hrel
      obtain ⟨r1, q1, rfl, _⟩ := owns_shape hown1
      obtain ⟨r2, q2, rfl, _⟩ := owns_shape hown2
      have Hown1 := Lib.hid hown1
      have Hown2 := Lib.hid hown2
      have Hg1 := Lib.hid hg1
      have Hg2 := Lib.hid hg2
      have Hne := Lib.hid hne
      have Hb := Lib.hid hb
      clear hown1 hown2 hg1 hg2 hne hb HE1 HE2 HBE
      by_cases hk15 : k < 15
      · have hkb : k < b.length := by have := Hb15.out; omega
        have hwlt : w.heap.size < w2.heap.size := Nat.lt_of_lt_of_le hlt HB2.out.size
        have e0 : wr.cell? ⟨w.heap.size, k, none⟩ = some (.bool b[k]) := by
          rw [arr_cell (arr_below HA2.out Hb.out hwlt), List.getElem?_map, List.getElem?_eq_getElem hkb]; rfl
        have HT := Lib.hid (List.take_succ_eq_append_getElem hkb)
        have g0 : (k : Int) < 15 := by omega
        have g1' : (0 : Int) ≤ (k : Int) := by omega
        have hwr : w.heap.size < wr.heap.size := Nat.lt_of_lt_of_le hwlt Hb.out.size
        have HR : Hid ((List.replicate (k + 1) true).map Value.bool = (List.replicate k true).map Value.bool ++ [.bool true]) := by unfold Hid; rw [List.replicate_succ', List.map_append]; rfl
        generalize b[k] = x at *
        go_wp2_with (first
          | (at_builtin; refine wpList_append_own_at _ rfl _ _ 35 rfl w2.heap.size 4 i0 (.bool false) 1 1 Try.underlying35 hi hz0 hz1 hz2 rfl (by decide) (.slice r1 k q1) _ _ rfl (Hown1.out.alloc _) ⟨wr.heap.size, 0, none⟩ 1 1 [.bool x] rfl rfl (cell_one_new _ _ _) (by simp [Value.oneCell']) (by simp [maxLen]; omega) (by omega) (by have := Hb.out.size; simp; omega) ?_
             intro u3 w3 hown3 hgrow3 _ hloc3
             have hg3 : ∃ g3, u3.ownBlock = some g3 ∧ g3 ≠ g2 := by
               rcases hloc3 with h | h
               · exact ⟨g1, by rw [h, Hg1.out], Hne.out⟩
               · exact ⟨_, h, fun e => by have := (Hown2.out.lt _ Hg2.out).2; simp at e; omega⟩
             obtain ⟨g3, hg3, hne3⟩ := hg3
             have Hg3 := Lib.hid hg3
             have Hne3 := Lib.hid hne3
             have hb3 := (Hb.out.alloc Hb.out.size _).grown hgrow3 (by have := Hb.out.size; simp; omega) (fun b hbk => owns_block Hown1.out b hbk)
             have Hb3 := Lib.hid hb3
             have Hown3 := Lib.hid hown3
             have Hown2' := Lib.hid ((Hown2.out.alloc _).kept hgrow3 (Or.inr (by rw [Hg1.out, Hg2.out]; intro e; exact Hne.out (Option.some.inj e).symm)))
             obtain ⟨r3, q3, rfl, _⟩ := owns_shape hown3
             clear hown3 hgrow3 hloc3 hb3 hg3 hne3)
          | (at_builtin; refine wpList_append_own_at _ rfl _ _ 35 rfl w2.heap.size 4 i0 (.bool false) 1 1 Try.underlying35 hi hz0 hz1 hz2 rfl (by decide) (.slice r2 k q2) _ _ rfl (Hown2'.out.alloc _) ⟨w3.heap.size, 0, none⟩ 1 1 [.bool true] rfl rfl (cell_one_new _ _ _) (by simp [Value.oneCell']) (by simp [maxLen]; omega) (by omega) (by have := Hb3.out.size; simp; omega) ?_
             intro u4 w4 hown4 hgrow4 _ hloc4
             have hg4 : ∃ g4, u4.ownBlock = some g4 ∧ g3 ≠ g4 := by
               rcases hloc4 with h | h
               · exact ⟨g2, by rw [h, Hg2.out], Hne3.out⟩
               · exact ⟨_, h, fun e => by have := (Hown3.out.lt _ Hg3.out).2; simp at e; omega⟩
             obtain ⟨g4, hg4, hne4⟩ := hg4
             have Hg4 := Lib.hid hg4
             have Hne4 := Lib.hid hne4
             have hb4 := (Hb3.out.alloc Hb3.out.size _).grown hgrow4 (by have := Hb3.out.size; simp; omega) (fun b hbk => owns_block Hown2'.out b hbk)
             have Hb4 := Lib.hid hb4
             have Hown4 := Lib.hid hown4
             have Hown3' := Lib.hid ((Hown3.out.alloc _).kept hgrow4 (Or.inr (by rw [Hg3.out, Hg2.out]; intro e; exact Hne3.out (Option.some.inj e))))
             obtain ⟨r4, q4, rfl, _⟩ := owns_shape hown4
             clear hown4 hgrow4 hloc4 hb4 hg4 hne4)
          | fail)
        refine ⟨⟨k + 1, by omega, by go_num, ?_, ?_, ⟨g3, g4, Hg3.out, Hg4.out, Hne4.out⟩, Hb4.out⟩, by simp [intOf]; omega⟩
        · rw [HT.out, List.map_append]; exact Hown3'.out
        · rw [HR.out]; exact Hown4.out
      · obtain rfl : k = 15 := by omega
        have hbt : b.take 15 = b := List.take_of_length_le (by rw [Hb15.out]; exact Nat.le_refl _)
        have hs1 := (sl_of_owns Hown1.out).1
        rw [hbt] at hs1
        have HS1 := Lib.hid hs1
        have HS2 := Lib.hid (sl_of_owns Hown2.out).1
        have HBr := Lib.hid (below_step HB2.out Hb.out)
        clear hbt hs1 Hown1 Hown2
        go_wp2_with fail
        refine (kraftR_any _ l wr (sl_below HV.out HBr.out) hl).mono ?_
        rintro e w5 ⟨rfl, rfl⟩
        by_cases hkr : kraftL l = 32768
        · have hfull := full_hit HOk.out hkr b Hb15.out
          obtain ⟨s, hs, hh, hs0, hs15⟩ := hfull
          have hr := read_any _ _ l b 0 wr (sl_below HV.out HBr.out) HS1.out hl (by rw [Hb15.out]; omega)
          have hrv : readV l b 0 = .tuple #[.int .i64 s, .int .i64 l[s], .bool true] := by
            have h := readV_some (readO_hit HOk.out hh)
            rw [List.getElem?_eq_getElem hs, Option.getD_some] at h
            simpa using h
          rw [hrv] at hr
          have hs1 : 1 ≤ l[s] := by omega
          clear hrv hh hs0
          generalize l[s] = y at *
          rw [hkr]
          clear hkr hs
          go_wp2_with fail
          refine hr.mono ?_
          rintro e w6 ⟨rfl, hb6⟩
          have d1 : decide (1 ≤ y) = true := by simpa using hs1
          have d2 : decide (y ≤ 15) = true := by simpa using hs15
          go_wp2_with fail
          go_ret
          exact ⟨by simp <;> omega, HB0.out.trans ((below_step HBr.out hb6).mono (Nat.le_of_lt hlt))⟩
        · have hr := read_any _ _ l (List.replicate 15 true) 0 wr (sl_below HV.out HBr.out) HS2.out hl (by rw [List.length_replicate]; omega)
          have hrv : readV l (List.replicate 15 true) 0 = .tuple #[.int .i64 0, .int .i64 0, .bool false] := readV_none (readO_none (p := 0) (ones_none HOk.out hkr))
          rw [hrv] at hr
          have dk : (kraftL l == 32768) = false := by simpa using hkr
          clear hrv
          generalize kraftL l = kl at *
          go_wp2_with fail
          refine hr.mono ?_
          rintro e w6 ⟨rfl, hb6⟩
          go_wp2_with fail
          go_ret
          exact ⟨by simp, HB0.out.trans ((below_step HBr.out hb6).mono (Nat.le_of_lt hlt))⟩
end Go.Proofs.Ytdbhmffiojchcaa
