/- The walk of HuffSteps. Conditions: numbers fit. -/
import Derived.Test.YtpkbbbdbcedkfaaHuxB
import Derived.Test.YtpkbbbdbcedkfaaHuxP
import Derived.Test.YtpkbbbdbcedkfaaSl3
namespace Go.Proofs.Ytpkbbbdbcedkfaa
open Go.RowKit

theorem ints_owned {w : World} {base n : Nat} {v : Value} {l : List Int} (h : w.ownsRow base 3 1 v n (l.map (Value.int .i64))) : IntsV w v l ∧ n = l.length := sl_of_owns h
theorem mayF_set {f : List Int} {k : Nat} (h : mayF f = true) (hk : k < f.length) (hne : f[k] ≠ 100000) : mayF (f.set k (f[k] + 1)) = true := by
  obtain ⟨h1, h2⟩ := mayF_iff.1 h
  refine mayF_iff.2 ⟨by rw [List.length_set]; exact h1, fun x hx => ?_⟩
  rcases List.mem_or_eq_of_mem_set hx with hx | rfl
  · exact h2 x hx
  · have := h2 _ (List.getElem_mem hk); omega

set_option maxRecDepth 100000 in
set_option maxHeartbeats 4000000 in
theorem hsteps_walk (v : Value) (f : List Int) (at_ : Int) (w : World) (hv : IntsV w v f) (hl : f.length ≤ 140737488355328) :
    Calls Try.prog 7 #[v, .int .i64 at_] w fun e w' => e = .returned (.bool true) ∧ Below w.heap.size w w' := by
  obtain ⟨i0, hi, hz0, hz1, hz2⟩ := info_parts info_int
  have HV := Lib.hid hv
  obtain ⟨aX, cX, rfl, hcX, hnX, hcellX⟩ := hv
  clear hcellX hnX
  go_enter Try.func7, Try.ntmps7
  go_wp2_with fail
  refine (fixed05_any _).mono ?_
  rintro e w1 ⟨rfl, hb1⟩
  have HB1 := Lib.hid hb1
  have hm1 := mayF_any _ f w1 (sl_below HV.out hb1) hl
  clear hb1
  go_wp2_with fail
  refine hm1.mono ?_
  rintro e w2 ⟨rfl, rfl⟩
  clear hm1
  have fin : Hid (∀ e w3, e = .returned (.bool true) ∧ Below w1.heap.size w1 w3 → e = Ending.returned (.bool true) ∧ Below w.heap.size w w3) := fun e w3 h => ⟨h.1, below_step' HB1.out h.2⟩
  cases hmay : mayF f with
  | false =>
    go_wp2_with fail
    refine (fixed05_any _).mono ?_
    rintro e w3 ⟨rfl, hb3⟩
    go_wp2_with fail
    go_ret
    exact ⟨rfl, below_step' HB1.out hb3⟩
  | true =>
    have HMay := Lib.hid hmay
    obtain ⟨h300, hrg⟩ := mayF_iff.1 hmay
    have Hrg := Lib.hid hrg
    clear hmay hrg
    by_cases hneg : at_ < 0
    · have b1 : decide (at_ < 0) = true := by simpa using hneg
      go_wp2_with fail
      refine (fixed05_any _).mono ?_
      rintro e w3 ⟨rfl, hb3⟩
      go_wp2_with fail
      go_ret
      exact ⟨rfl, below_step' HB1.out hb3⟩
    have b1 : decide (at_ < 0) = false := by simpa using hneg
    by_cases hge : (f.length : Int) ≤ at_
    · have b2 : decide ((f.length : Int) ≤ at_) = true := by simpa using hge
      go_wp2_with fail
      refine (fixed05_any _).mono ?_
      rintro e w3 ⟨rfl, hb3⟩
      go_wp2_with fail
      go_ret
      exact ⟨rfl, below_step' HB1.out hb3⟩
    obtain ⟨k, rfl⟩ := Int.eq_ofNat_of_zero_le (a := at_) (by omega)
    have hk : k < f.length := by omega
    rcases sl_one (sl_below HV.out HB1.out) with ⟨rfl, _⟩ | ⟨_, bX, oX, cX', hveq, _, hbX, cellX⟩
    · simp at hk
    injection hveq with q1 q2 q3
    subst q1 q3
    have e0 := cellX k hk
    have b2 : decide ((f.length : Int) ≤ (k : Int)) = false := by simp; omega
    have g0 : (k : Int) < (f.length : Int) := by omega
    have g1 : (0 : Int) ≤ (k : Int) := by omega
    clear q2 cellX
    by_cases hmx : f[k] = 100000
    · have b3 : (f[k] == 100000) = true := by simpa using hmx
      clear hmx
      go_wp2_with fail
      refine (fixed05_any _).mono ?_
      rintro e w3 ⟨rfl, hb3⟩
      go_wp2_with fail
      go_ret
      exact ⟨rfl, below_step' HB1.out hb3⟩
    have b3 : (f[k] == 100000) = false := by simpa using hmx
    obtain ⟨x, hx⟩ : ∃ x, f[k] = x := ⟨_, rfl⟩
    obtain ⟨g, hg⟩ : ∃ g, f.set k (f[k] + 1) = g := ⟨_, rfl⟩
    have HG := Lib.hid hg
    have HMg : Hid (mayF g = true) := by unfold Hid; rw [← hg]; exact mayF_set HMay.out hk hmx
    have Hgl : Hid (g.length = f.length) := by unfold Hid; rw [← hg, List.length_set]
    have hx1 := Hrg.out f[k] (List.getElem_mem hk)
    have Hfk := Lib.hid hx
    have HE := Lib.hid (owns_none w1 3 1)
    have HV1 := Lib.hid (sl_below (sl_below HV.out HB1.out) ((Below.refl _ _).alloc (Nat.le_refl _) (.cells #[] 3)))
    rw [hx] at e0 b3 hx1
    clear hg hx hmx
    go_wp2_with (first
      | (at_builtin; refine wpList_append_sl rfl _ _ 22 rfl w1.heap.size 3 i0 (.int .i64 0) 8 Try.underlying22 hi hz0 hz1 hz2 rfl _ _ _ rfl HE.out _ rfl HV1.out (fun _ => rfl) (by simp [maxLen]; omega) (by omega) (by simp) ?_
         intro v3 w3 hown3 hg3 hat3
         rw [Nat.zero_add, List.nil_append] at hown3
         have hb3 : Below w1.heap.size w1 w3 := ((Below.refl _ _).alloc (Nat.le_refl _) _).grown hg3 (by simp) (fun b hbk => owns_block HE.out b hbk)
         obtain ⟨g3, c3, hv3, hg30, hg31⟩ := World.ownsRow.form hown3 (by omega)
         subst hv3
         have e3 : w3.cell? ⟨g3, k, none⟩ = some (.int .i64 x) := by rw [hown3.cellAt k (by omega), List.getElem?_map, List.getElem?_eq_getElem hk, Hfk.out]; rfl
         have z3 : w3.frozen? ⟨g3, k, none⟩ = false := hown3.frozenAt k
         have Hst3 := Lib.hid (hown3.stored k (.int .i64 (x + 1))).1
         have HB3 := Lib.hid (hb3.setCell (p := ⟨g3, k, none⟩) hg30 (.int .i64 (x + 1)))
         clear hown3 hg3 hat3 hb3)
      | fail)
    obtain ⟨W3, hW3⟩ : ∃ W3, W3 = w3.setCell ⟨g3, k, none⟩ (.int .i64 (x + 1)) := ⟨_, rfl⟩
    have hst := Hst3.out
    rw [← hW3] at HB3 hst ⊢
    rw [show (f.map (Value.int .i64)).set k (.int .i64 (x + 1)) = g.map (Value.int .i64) by rw [← HG.out, Hfk.out, List.map_set]] at hst
    have HSg := Lib.hid (ints_owned hst).1
    have HBw := Lib.hid (below_step' HB1.out HB3.out)
    clear hW3 hst Hst3 e3 z3 e0 b3 hx1 b1 b2 HE HV1 hg30 hg31 HB3
    have hc1 := onceX_any _ f W3 (sl_below HV.out HBw.out) h300 (fun x hx => by have := Hrg.out x hx; omega)
    go_wp2_with fail
    refine hc1.mono ?_
    rintro e w4 ⟨a4, c4, L1, rfl, hL1, hs4, hb4⟩
    have HBg4 := Lib.hid hb4
    have HB4 := Lib.hid (below_step' HBw.out hb4)
    have HLl := Lib.hid (onceR_length hL1.out)
    have hd1 := deep_any _ L1 w4 hs4 (by rw [HLl.out]; omega)
    clear hc1 hb4 hs4
    go_wp2_with fail
    refine hd1.mono ?_
    rintro e w5 ⟨rfl, rfl⟩
    clear hd1
    cases hdeep : deepB L1 with
    | true =>
      go_wp2_with fail
      go_ret
      exact ⟨rfl, HB4.out⟩
    | false =>
      have HD := Lib.hid (deepB_false.1 hdeep)
      clear hdeep
      have hc2 := onceX_any _ g w4 (sl_below HSg.out HBg4.out) (by rw [Hgl.out]; exact h300) (fun x hx => by have := (mayF_iff.1 HMg.out).2 x hx; omega)
      go_wp2_with fail
      refine hc2.mono ?_
      rintro e w6 ⟨a6, c6, L2, rfl, hL2, hs6, hb6⟩
      have HB6 := Lib.hid (below_step' HB4.out hb6)
      have HBg6 := Lib.hid (below_step' HBg4.out hb6)
      have HLl2 := Lib.hid ((onceR_length hL2.out).trans Hgl.out)
      have hd2 := deep_any _ L2 w6 hs6 (by rw [HLl2.out]; omega)
      clear hc2 hb6 hs6
      go_wp2_with fail
      refine hd2.mono ?_
      rintro e w7 ⟨rfl, rfl⟩
      clear hd2
      cases hdeep : deepB L2 with
      | true =>
        go_wp2_with fail
        go_ret
        exact ⟨rfl, HB6.out⟩
      | false =>
        have HD2 := Lib.hid (deepB_false.1 hdeep)
        clear hdeep
        have hln := lens_any _ f w6 (sl_below HV.out HB6.out) hl
        go_wp2_with fail
        refine hln.mono ?_
        rintro e w8 ⟨a8, c8, M1, rfl, hM, hs8, hb8⟩
        obtain rfl := once_stop HMay.out hL1.out HD.out hM.out
        have HB8 := Lib.hid (below_step' HB6.out hb8)
        have HBg8 := Lib.hid (below_step' HBg6.out hb8)
        have hk1 := cost_any _ _ f M1 w8 (sl_below HV.out HB8.out) hs8 HLl.out (by omega) Hrg.out (once_rg hL1.out HD.out (fun x hx => (Hrg.out x hx).1))
        clear hln hM hb8 hs8
        go_wp2_with fail
        refine hk1.mono ?_
        rintro e w9 ⟨rfl, hb9⟩
        have HB9 := Lib.hid (below_step' HB8.out hb9)
        have HBg9 := Lib.hid (below_step' HBg8.out hb9)
        have hln := lens_any _ g w9 (sl_below HSg.out HBg9.out) (by rw [Hgl.out]; exact hl)
        clear hk1 hb9
        go_wp2_with fail
        refine hln.mono ?_
        rintro e w10 ⟨a10, c10, M2, rfl, hM, hs10, hb10⟩
        obtain rfl := once_stop HMg.out hL2.out HD2.out hM.out
        have HB10 := Lib.hid (below_step' HB9.out hb10)
        have HBg10 := Lib.hid (below_step' HBg9.out hb10)
        have hk2 := cost_any _ _ g M2 w10 (sl_below HSg.out HBg10.out) hs10 (HLl2.out.trans Hgl.out.symm) (by rw [Hgl.out]; omega) (mayF_iff.1 HMg.out).2 (once_rg hL2.out HD2.out (fun x hx => ((mayF_iff.1 HMg.out).2 x hx).1))
        have hle : costL f M1 ≤ costL g M2 := steps_law hL1.out hL2.out HD2.out (fun x hx => (Hrg.out x hx).1) Hgl.out (fun i hi hi' => by
          have := HG.out
          subst this
          rw [List.getElem_set]
          by_cases e : k = i
          · subst e; rw [if_pos rfl]; omega
          · rw [if_neg e]; exact Int.le_refl _)
        clear hln hM hb10 hs10
        generalize costL f M1 = c1 at *
        generalize costL g M2 = c2 at *
        have b9 : decide (c1 ≤ c2) = true := by simpa using hle
        go_wp2_with fail
        refine hk2.mono ?_
        rintro e w11 ⟨rfl, hb11⟩
        go_wp2_with fail
        go_ret
        exact ⟨by first | rfl | simp [hle], below_step' HB10.out hb11⟩
end Go.Proofs.Ytpkbbbdbcedkfaa
