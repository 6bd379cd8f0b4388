/- The walk of HuffLeast. Conditions: numbers fit. -/
import Derived.Test.YtpkbbbdbcedkfaaHuxA
import Derived.Test.YtpkbbbdbcedkfaaHufR
import Derived.Test.YtpkbbbdbcedkfaaHufY
namespace Go.Proofs.Ytpkbbbdbcedkfaa
open Go.RowKit

theorem once_stop {f L M : List Int} (hm : mayF f = true) (h : OnceR f L) (hd : maxOk L) (hM : LensV f M) : M = L :=
  lensR_det (hM.1 hm) (.stop h hd)
theorem once_rg {f L : List Int} (h : OnceR f L) (hd : maxOk L) (hf : ∀ x ∈ f, 0 ≤ x) : ∀ x ∈ L, 0 ≤ x ∧ x ≤ 1000 := fun x hx => by
  obtain ⟨i, hi, rfl⟩ := List.getElem_of_mem hx
  have h1 := ((once_full h hd hf).1 i (by rw [← onceR_length h]; exact hi) hi).2
  have h2 := hd _ hx
  omega

set_option maxRecDepth 100000 in
set_option maxHeartbeats 4000000 in
theorem hleast_walk (v u : Value) (f l : List Int) (w : World) (hv : IntsV w v f) (hu : IntsV w u l) (hl : f.length ≤ 140737488355328) (hl2 : l.length ≤ 140737488355328) :
    Calls Try.prog 4 #[v, u] w fun e w' => e = .returned (.bool true) ∧ Below w.heap.size w w' := by
  have HV := Lib.hid hv
  have HU := Lib.hid hu
  obtain ⟨aX, cX, rfl, hcX, hnX, hcellX⟩ := hv
  obtain ⟨aY, cY, rfl, hcY, hnY, hcellY⟩ := hu
  clear hcellX hnX hcellY hnY
  go_enter Try.func4, Try.ntmps4
  go_wp2_with fail
  refine (fixed05_any _).mono ?_
  rintro e w1 ⟨rfl, hb1⟩
  have HB1 := Lib.hid hb1
  have hm1 := mayF_any _ f w1 (sl_below HV.out hb1) hl
  clear hb1
  go_wp2_with fail
  refine hm1.mono ?_
  rintro e w2 ⟨rfl, rfl⟩
  clear hm1
  cases hmay : mayF f with
  | false =>
    go_wp2_with fail
    refine (fixed05_any _).mono ?_
    rintro e w3 ⟨rfl, hb3⟩
    go_wp2_with fail
    go_ret
    exact ⟨rfl, below_step' HB1.out hb3⟩
  | true =>
    have HMay := Lib.hid hmay
    obtain ⟨h300, hrg⟩ := mayF_iff.1 hmay
    have Hrg := Lib.hid hrg
    clear hmay hrg
    by_cases hlen : l.length = f.length
    · have Hlen := Lib.hid hlen
      rw [hlen]
      have d0 : ((f.length : Int) != (f.length : Int)) = false := by simp
      have hon := onceX_any _ f w1 (sl_below HV.out HB1.out) h300 (fun x hx => by have := Hrg.out x hx; omega)
      clear hlen
      go_wp2_with fail
      refine hon.mono ?_
      rintro e w3 ⟨a3, c3, L, rfl, hL, hs3, hb3⟩
      have HB3 := Lib.hid (below_step' HB1.out hb3)
      have Hs3 := Lib.hid hs3
      have HLl := Lib.hid (onceR_length hL.out)
      have hdp := deep_any _ L w3 hs3 (by rw [HLl.out]; omega)
      clear hon hb3 hs3
      go_wp2_with fail
      refine hdp.mono ?_
      rintro e w4 ⟨rfl, rfl⟩
      clear hdp
      cases hdeep : deepB L with
      | true =>
        go_wp2_with fail
        refine (fixed05_any _).mono ?_
        rintro e w5 ⟨rfl, hb5⟩
        go_wp2_with fail
        go_ret
        exact ⟨rfl, below_step' HB3.out hb5⟩
      | false =>
        have HD := Lib.hid (deepB_false.1 hdeep)
        clear hdeep
        go_wp2_with fail
        go_loop [5] (fun ui => ∃ k : Nat, ui = .int .i64 k ∧ k ≤ f.length ∧ (∀ i (hi : i < f.length) (hi' : i < l.length), i < k → 0 ≤ l[i] ∧ l[i] ≤ 15 ∧ (0 < f[i] → 0 < l[i]))) (fun ui => f.length - (intOf ui).toNat)
        case atStart => exact ⟨0, rfl, Nat.zero_le _, fun i hi hi' h => by omega⟩
        case round =>
          obtain ⟨k, rfl, hk, hall⟩ := hrel
          have Hall := Lib.hid hall
          clear hall
          by_cases hkl : k < f.length
          · rcases sl_one (sl_below HV.out HB3.out) with ⟨rfl, _⟩ | ⟨_, bX, oX, cX', hveq, _, hbX, cellX⟩
            · simp at hkl
            injection hveq with q1 q2 q3
            subst q1 q3
            have hkL : k < l.length := by rw [Hlen.out]; exact hkl
            have hu' := sl_below HU.out HB3.out
            rw [Hlen.out] at hu'
            rcases sl_one hu' with ⟨h0, _⟩ | ⟨_, bL, oL, cL', hveqL, _, hbL, cellL⟩
            · rw [h0] at hkL; simp at hkL
            rw [Hlen.out] at hveqL
            injection hveqL with q4 q5 q6
            subst q4 q6
            have e0 := cellX k hkl
            have f0 := cellL k hkL
            have g2 : (k : Int) < (f.length : Int) := by omega
            have g3 : (0 : Int) ≤ (k : Int) := by omega
            have Hnx : Hid ((0 ≤ l[k] ∧ l[k] ≤ 15 ∧ (0 < f[k] → 0 < l[k])) → ∀ i (hi : i < f.length) (hi' : i < l.length), i < k + 1 → 0 ≤ l[i] ∧ l[i] ≤ 15 ∧ (0 < f[i] → 0 < l[i])) := fun h i hi hi' hik => by
              by_cases e : i = k
              · subst e; exact h
              · exact Hall.out i hi hi' (by omega)
            clear cellX cellL q2 q5 hu'
            generalize f[k] = x at *
            generalize l[k] = y at *
            clear hkL
            by_cases d2 : y < 0
            · have b2 : decide (y < 0) = true := by simpa using d2
              go_wp2_with fail
              go_ret
              exact ⟨rfl, HB3.out⟩
            have b2 : decide (y < 0) = false := by simpa using d2
            by_cases d3 : 15 < y
            · have b3 : decide (15 < y) = true := by simpa using d3
              go_wp2_with fail
              go_ret
              exact ⟨rfl, HB3.out⟩
            have b3 : decide (15 < y) = false := by simpa using d3
            by_cases d4 : 0 < x
            · have b4 : decide (0 < x) = true := by simpa using d4
              by_cases d5 : y = 0
              · have b5 : (y == 0) = true := by simpa using d5
                clear d5
                go_wp2_with fail
                go_ret
                exact ⟨rfl, HB3.out⟩
              · have b5 : (y == 0) = false := by simpa using d5
                have HN := Lib.hid (Hnx.out ⟨by omega, by omega, fun _ => by omega⟩)
                clear d5
                go_wp2_with fail
                exact ⟨⟨k + 1, by go_num, by omega, HN.out⟩, by simp [intOf]; omega⟩
            · have b4 : decide (0 < x) = false := by simpa using d4
              have HN := Lib.hid (Hnx.out ⟨by omega, by omega, fun h => absurd h d4⟩)
              go_wp2_with fail
              exact ⟨⟨k + 1, by go_num, by omega, HN.out⟩, by simp [intOf]; omega⟩
          · have HBr := HB3
            obtain rfl : k = f.length := by omega
            have hkf := kraft_any _ l w3 (sl_below HU.out HBr.out) hl2
            rw [Hlen.out] at hkf
            have hrgl : Hid (∀ x ∈ l, 0 ≤ x ∧ x ≤ 15) := fun x hx => by
              obtain ⟨i, hi, rfl⟩ := List.getElem_of_mem hx
              have := Hall.out i (by rw [← Hlen.out]; exact hi) hi (by rw [← Hlen.out]; exact hi)
              exact ⟨this.1, this.2.1⟩
            have hfit : Hid (kraftL l ≤ 32768 → Fits f l) := fun hk => ⟨Hlen.out, hrgl.out, fun i hi hi' => (Hall.out i hi hi' hi).2.2, hk⟩
            generalize hkr : kraftL l = K at *
            have HK := Lib.hid hkr
            clear hkr
            go_wp2_with fail
            refine hkf.mono ?_
            rintro e w4 ⟨rfl, rfl⟩
            clear hkf
            by_cases hK : 32768 < K
            · have b1 : decide (32768 < K) = true := by simpa using hK
              go_wp2_with fail
              go_ret
              exact ⟨rfl, HBr.out⟩
            · have b1 : decide (32768 < K) = false := by simpa using hK
              have hln := lens_any _ f w3 (sl_below HV.out HBr.out) hl
              go_wp2_with fail
              refine hln.mono ?_
              rintro e w5 ⟨a5, c5, M, rfl, hM, hs5, hb5⟩
              obtain rfl := once_stop HMay.out hL.out HD.out hM.out
              have HB5 := Lib.hid (below_step' HBr.out hb5)
              have hc1 := cost_any _ _ f M w5 (sl_below HV.out HB5.out) hs5 HLl.out (by omega) Hrg.out (once_rg hL.out HD.out (fun x hx => (Hrg.out x hx).1))
              have Hle := Lib.hid (once_least hL.out (fun x hx => (Hrg.out x hx).1) (hfit.out (by omega)))
              clear hln hM hb5 hs5
              go_wp2_with fail
              refine hc1.mono ?_
              rintro e w6 ⟨rfl, hb6⟩
              have HB6 := Lib.hid (below_step' HB5.out hb6)
              have hc2 := cost_any _ _ f l w6 (sl_below HV.out HB6.out) (sl_below HU.out HB6.out) Hlen.out (by omega) Hrg.out (fun x hx => by have := hrgl.out x hx; omega)
              rw [Hlen.out] at hc2
              clear hc1 hb6
              have hle := Hle.out
              generalize costL f M = c1 at *
              generalize costL f l = c2 at *
              have b9 : decide (c1 ≤ c2) = true := by simpa using hle
              go_wp2_with fail
              refine hc2.mono ?_
              rintro e w7 ⟨rfl, hb7⟩
              go_wp2_with fail
              go_ret
              exact ⟨by first | rfl | simp [hle], below_step' HB6.out hb7⟩
    · have d0 : ((l.length : Int) != (f.length : Int)) = true := by simp; omega
      go_wp2_with fail
      refine (fixed05_any _).mono ?_
      rintro e w3 ⟨rfl, hb3⟩
      go_wp2_with fail
      go_ret
      exact ⟨rfl, below_step' HB1.out hb3⟩
end Go.Proofs.Ytpkbbbdbcedkfaa
