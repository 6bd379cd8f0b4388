/- The walk of CanonRises. Conditions: numbers fit. -/
import Derived.Test.YtdbhmffiojchcaaCanN
namespace Go.Proofs.Ytdbhmffiojchcaa
open Go.RowKit

theorem power_b (n : Int) (w : World) (h : n ≤ 62) : Calls Try.prog 27 #[.int .i64 n] w fun e w' => e = .returned (.int .i64 (p2 n.toNat)) ∧ Below w.heap.size w w' :=
  (power_any n w h).mono fun e w' ⟨he, hw⟩ => ⟨he, by rw [← hw]; exact Below.refl _ _⟩

theorem held_drewN {W a : World} (h : Held W a) {n : Nat} : Held W (a.drewN n) := held_of (below_drewN' h.2 n)

set_option maxRecDepth 100000 in
set_option maxHeartbeats 8000000 in
theorem rises_walk (v : Value) (l : List Int) (a b : Int) (w : World) (hv : SlOf w v 1 (fun x => [.int .i64 x]) l) (hl : l.length ≤ 140737488355328) :
    Calls Try.prog 9 #[v, .int .i64 a, .int .i64 b] w fun e w' => e = .returned (.bool true) ∧ Below w.heap.size w w' := by
  have hcd := codes_any v l w hv hl
  have HV := Lib.hid hv
  obtain ⟨aX, cX, rfl, hcX, hnX, hcellX⟩ := hv
  clear hcellX hnX
  go_enter Try.func9, Try.ntmps9
  go_wp2_with fail
  refine hcd.mono ?_
  rintro e w1 ⟨v1, rfl, hsl, hb1⟩
  obtain ⟨a1, cc1, rfl, _⟩ := id hsl
  go_wp2_with fail
  refine (fixed06_any _).mono ?_
  rintro e w2 ⟨rfl, hb2⟩
  have HB2 := Lib.hid (below_step hb1 hb2)
  have HS2 := Lib.hid (sl_below hsl hb2)
  clear hb1 hb2 hsl hcd
  cases hok : lensOk l with
  | false =>
    rw [codesR_no hok]
    go_wp2_with fail
    refine (fixed06_any _).mono ?_
    rintro e w3 ⟨rfl, hb3⟩
    go_wp2_with fail
    go_ret
    exact ⟨by simp, below_step HB2.out hb3⟩
  | true =>
    have HOk := Lib.hid hok
    rw [codesR_ok hok] at HS2 ⊢
    have HLn := Lib.hid (codesL_length l)
    rw [HLn.out]
    have h300 := (lensOk_parts hok).1
    have dne : ((l.length : Int) != (l.length : Int)) = false := by simp
    have deq : ((l.length : Int) == (l.length : Int)) = true := by simp
    clear hok
    by_cases ha0 : a < 0
    · have d1 : decide (a < 0) = true := by simpa using ha0
      go_wp2_with fail
      refine (fixed06_any _).mono ?_
      rintro e w3 ⟨rfl, hb3⟩
      go_wp2_with fail
      go_ret
      exact ⟨by simp, below_step HB2.out hb3⟩
    by_cases hb0 : b < 0
    · have d1 : decide (b < 0) = true := by simpa using hb0
      go_wp2_with fail
      refine (fixed06_any _).mono ?_
      rintro e w3 ⟨rfl, hb3⟩
      go_wp2_with fail
      go_ret
      exact ⟨by simp, below_step HB2.out hb3⟩
    obtain ⟨s, rfl⟩ := Int.eq_ofNat_of_zero_le (a := a) (by omega)
    obtain ⟨t, rfl⟩ := Int.eq_ofNat_of_zero_le (a := b) (by omega)
    by_cases hsl : l.length ≤ s
    · have q0 : (l.length : Int) ≤ (s : Int) := by omega
      have d1 : decide ((l.length : Int) ≤ (s : Int)) = true := by simpa using hsl
      go_wp2_with fail
      refine (fixed06_any _).mono ?_
      rintro e w3 ⟨rfl, hb3⟩
      go_wp2_with fail
      go_ret
      exact ⟨by simp, below_step HB2.out hb3⟩
    by_cases htl : l.length ≤ t
    · have q0 : (l.length : Int) ≤ (t : Int) := by omega
      have d1 : decide ((l.length : Int) ≤ (t : Int)) = true := by simpa using htl
      go_wp2_with fail
      refine (fixed06_any _).mono ?_
      rintro e w3 ⟨rfl, hb3⟩
      go_wp2_with fail
      go_ret
      exact ⟨by simp, below_step HB2.out hb3⟩
    have hs : s < l.length := by omega
    have ht : t < l.length := by omega
    rcases sl_one (sl_below HV.out HB2.out) with ⟨rfl, _⟩ | ⟨_, bX, oX, cX', hveq, _, hbX, cellX⟩
    · simp at hs
    injection hveq with q1 q2 q3
    subst q1 q3
    rcases sl_codes HS2.out with ⟨h0, _⟩ | ⟨_, bC, oC, cC, hveq2, _, hbC, cellC⟩
    · have := HLn.out; rw [h0] at this; simp at this; omega
    rw [HLn.out] at hveq2
    injection hveq2 with q4 q5 q6
    subst q4 q6
    obtain ⟨s0, s1⟩ := cellC s (by rw [HLn.out]; exact hs)
    obtain ⟨t0, t1⟩ := cellC t (by rw [HLn.out]; exact ht)
    rw [codesL_get hs] at s0 s1
    rw [codesL_get ht] at t0 t1
    have xs := cellX s hs
    have xt := cellX t ht
    have gs : (s : Int) < (l.length : Int) := by omega
    have gt : (t : Int) < (l.length : Int) := by omega
    have gs0 : (0 : Int) ≤ (s : Int) := by omega
    have gt0 : (0 : Int) ≤ (t : Int) := by omega
    have es : l[s]?.getD 0 = l[s] := by rw [List.getElem?_eq_getElem hs, Option.getD_some]
    have et : l[t]?.getD 0 = l[t] := by rw [List.getElem?_eq_getElem ht, Option.getD_some]
    have rs := (lensOk_parts HOk.out).2.1 l[s] (List.getElem_mem hs)
    have rt := (lensOk_parts HOk.out).2.1 l[t] (List.getElem_mem ht)
    have ds1 : decide ((s : Int) < 0) = false := by simp
    have dt1 : decide ((t : Int) < 0) = false := by simp
    have ds2 : decide (l.length ≤ s) = false := by simp; omega
    have dt2 : decide (l.length ≤ t) = false := by simp; omega
    clear q2 q5 cellX cellC
    by_cases hzs : l[s] = 0
    · have hat : codeAt l s = (0, 0) := by unfold codeAt; rw [es, hzs]; rfl
      rw [hat] at s0 s1
      rw [hzs] at xs
      clear hat es et rs rt xt t0 t1
      go_wp2_with fail
      go_ret
      exact ⟨rfl, HB2.out⟩
    have dzs : (l[s] == 0) = false := by simpa using hzs
    have dzs2 : (l[s] != 0) = true := by simpa using hzs
    by_cases hzt : l[t] = 0
    · rw [hzt] at xt
      clear es et rs rt t0 t1 s0 s1
      generalize l[s] = n at *
      go_wp2_with fail
      go_ret
      exact ⟨rfl, HB2.out⟩
    have dzt : (l[t] == 0) = false := by simpa using hzt
    by_cases hst : s = t
    · subst hst
      have d1 : ((s : Int) == (s : Int)) = true := by simp
      clear es et rs rt t0 t1 s0 s1
      generalize l[s] = n at *
      go_wp2_with fail
      go_ret
      exact ⟨rfl, HB2.out⟩
    have dst : ((s : Int) == (t : Int)) = false := by simp; omega
    have hats : codeAt l s = (l[s], codeC l s) := by unfold codeAt; rw [es, if_pos (by omega)]
    have hatt : codeAt l t = (l[t], codeC l t) := by unfold codeAt; rw [et, if_pos (by omega)]
    rw [hats] at s0 s1
    rw [hatt] at t0 t1
    obtain ⟨n, hn15, hn⟩ := lens_get HOk.out hs hzs
    obtain ⟨m, hm15, hm⟩ := lens_get HOk.out ht hzt
    have hc1 := code_lt HOk.out hs hn hn15
    have hc2 := code_lt HOk.out ht hm hm15
    have hc3 := codeC_nonneg l s
    have hc4 := codeC_nonneg l t
    have hp1 := p2_mono (m := n + 1) (n := 15) (by omega)
    have hp2 := p2_mono (m := m + 1) (n := 15) (by omega)
    rw [p2_15] at hp1 hp2
    have Hr1 : Hid (n = m → (codeC l s < codeC l t ↔ s < t)) := by
      unfold Hid
      intro h
      subst h
      exact code_rises hs ht hn hm
    have Hr2 : Hid (n < m → codeC l s < codeC l t / p2 (m - n)) := fun h => code_above hs ht hn hm hn15 hm15 h
    have HA : Hid (l[s].toNat = n + 1) := by show l[s].toNat = n + 1; omega
    have HB : Hid (l[t].toNat = m + 1) := by show l[t].toNat = m + 1; omega
    have rs' : 1 ≤ l[s] ∧ l[s] ≤ 15 := by omega
    have rt' : 1 ≤ l[t] ∧ l[t] ≤ 15 := by omega
    obtain ⟨rs0, rs1⟩ := rs'
    obtain ⟨rt0, rt1⟩ := rt'
    have d3 : decide (p2 l[s].toNat ≤ codeC l s) = false := by rw [HA.out]; simp; omega
    clear hats hatt es et rs rt hzs hzt hn hm HV HS2 HOk
    generalize codeC l s = C at *
    generalize codeC l t = D at *
    generalize l[s] = A at *
    generalize l[t] = B at *
    have d2 : decide (C < 0) = false := by simp; omega
    have d4 : (A != A) = false := by simp
    have HC0 := Lib.hid hc3
    have HC1 := Lib.hid hc1
    have HD0 := Lib.hid hc4
    have HD1 := Lib.hid hc2
    have HP1 := Lib.hid hp1
    have HP2 := Lib.hid hp2
    clear hc1 hc2 hc3 hc4 hp1 hp2
    have Hbx := Lib.hid hbX
    have Hbc := Lib.hid hbC
    go_wp2_with fail
    go_region_held3 (Held w2) (first | exact held_start | exact held_call (by assumption) (by assumption)) (first | (go_at_call 27; refine (power_b _ _ (by omega)).mono ?_; rintro e w' ⟨rfl, hb⟩))
    have hh : Held w2 w' := by assumption
    have HBw := Lib.hid (HB2.out.trans (hh.2.mono HB2.out.size))
    clear d2 d3 s0 t0
    by_cases hAB : A = B
    · have hnm : n = m := by have h1 := HA.out; have h2 := HB.out; rw [hAB] at h1; omega
      have hfin : (decide (C < D) == decide (s < t)) = true := by
        have h := Hr1.out hnm
        by_cases h1 : C < D
        · have h2 := h.1 h1
          simp [h1]; omega
        · have h2 : ¬ s < t := fun q => h1 (h.2 q)
          simp [h1]; omega
      have Hfin := Lib.hid hfin
      have dAB : (A == B) = true := by simpa using hAB
      clear hAB hfin
      go_wp2_with fail
      go_quiet (fail)
      go_wp2_with fail
      go_quiet (fail)
      go_wp2_with fail
      go_ret
      exact ⟨ret_bool Hfin.out, below_drewN' (below_drewN' HBw.out _) _⟩
    · have dAB : (A == B) = false := by simpa using hAB
      by_cases hgt : B < A
      · have dgt : decide (B < A) = true := by simpa using hgt
        clear hAB
        go_wp2_with fail
        go_quiet (fail)
        go_wp2_with fail
        go_quiet (fail)
        go_wp2_with fail
        go_ret
        exact ⟨by simp, below_drewN' (below_drewN' HBw.out _) _⟩
      · have dgt : decide (B < A) = false := by simpa using hgt
        have hlt : A < B := by omega
        have hnm : n < m := by have h1 := HA.out; have h2 := HB.out; omega
        have hq := Hr2.out hnm
        have hsub : (B - A).toNat = m - n := by have h1 := HA.out; have h2 := HB.out; omega
        rw [← hsub] at hq
        have hp0 := p2_pos (B - A).toNat
        have hD0 := HD0.out
        have hD1 := HD1.out
        have hP2 := HP2.out
        have x1 : wrap64 (D / p2 (B - A).toNat) = D / p2 (B - A).toNat := IntWalk.wrap64_in _ (by
          have h1 := Int.ediv_le_self (p2 (B - A).toNat) hD0
          have h2 := Int.ediv_nonneg (b := p2 (B - A).toNat) hD0 (by omega)
          omega)
        have dq : decide (C < D / p2 (B - A).toNat) = true := by simpa using hq
        have x2 : IntKind.i64.wrap (B - A) = B - A := IntWalk.i64_in _ (by omega)
        clear hAB hsub hnm hgt
        go_wp2_with fail
        go_quiet (fail)
        go_wp2_with fail
        have hQ : C < IntKind.i64.wrap (D.tdiv (p2 (B - A).toNat)) := by
          have h1 := Int.ediv_le_self (p2 (B - A).toNat) hD0
          have h2 := Int.ediv_nonneg (b := p2 (B - A).toNat) hD0 (by omega)
          rw [Int.tdiv_eq_ediv_of_nonneg hD0, IntWalk.i64_in _ (by omega)]
          exact hq
        have HQ := Lib.hid hQ
        clear hQ
        have hpne : p2 (B - A).toNat ≠ 0 := by omega
        have hpnb : (p2 (B - A).toNat == 0) = false := by simpa using hpne
        have hpn2 : ¬ (p2 (B - A).toNat = 0) := hpne
        go_region_held3 (Held w2) (first | exact held_drew (held_drewN (by assumption)) | exact held_call (by assumption) (held_drew (held_drewN (by assumption)))) (first | (go_at_call 27; refine (power_b _ _ (by omega)).mono ?_; rintro e w5 ⟨rfl, hb5⟩))
        all_goals
          have hb9 := And.right (by assumption : Held w2 w5)
          go_wp2_with fail
          go_ret
          exact ⟨by simp; exact HQ.out, HB2.out.trans (hb9.mono HB2.out.size)⟩
end Go.Proofs.Ytdbhmffiojchcaa
