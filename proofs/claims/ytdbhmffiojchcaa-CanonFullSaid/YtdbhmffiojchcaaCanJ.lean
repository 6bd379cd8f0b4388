/- The contract of the document's Read; of Same on codes. Conditions: numbers fit. -/
import Derived.Test.YtdbhmffiojchcaaCanI
namespace Go.Proofs.Ytdbhmffiojchcaa
open Go.RowKit

set_option maxRecDepth 100000 in
set_option maxHeartbeats 4000000 in
theorem readR_any (v u : Value) (l : List Int) (b : List Bool) (p : Int) (w : World) (hv : SlOf w v 1 (fun x => [.int .i64 x]) l) (hu : Bits w u b) (hl : l.length ≤ 140737488355328) (hlb : b.length ≤ 140737488355328) (hpb : p ≤ 9223372036854775807) :
    Calls Try.prog 23 #[v, u, .int .i64 p] w fun e w' => e = .returned (readV l b p) ∧ Below w.heap.size w w' := by
  have hcd := codesR_any v l w hv hl
  have HU := Lib.hid hu
  clear hu hv
  go_enter Try.func23, Try.ntmps23
  go_wp2_with fail
  refine hcd.mono ?_
  rintro e w1 ⟨v1, rfl, hsl, hb1⟩
  have Hb1 := Lib.hid hb1
  have HU1 := Lib.hid (sl_below HU.out hb1)
  clear hcd hb1 HU
  cases hok : lensOk l with
  | false =>
    have HOk := Lib.hid hok
    go_wp2_with fail
    go_ret3
    exact ⟨by rw [readV_none (readO_bad HOk.out)]; rfl, Hb1.out⟩
  | true =>
    have HOk := Lib.hid hok
    rw [codesR_ok hok] at hsl
    have h300 := (lensOk_parts hok).1
    have HLn := Lib.hid (codesL_length l)
    have hsl0 := hsl
    obtain ⟨aC, cC, rfl, hcC, _⟩ := hsl
    have HC := Lib.hid hsl0
    rw [HLn.out] at HC
    have HC' := Lib.hid hsl0
    rw [HLn.out]
    clear hsl0 hok
    go_wp2_with fail
    go_loop [11] (fun i => ∃ k : Nat, k ≤ l.length ∧ i = .int .i64 k ∧ ∀ s, s < k → readO l b p ≠ some s) (fun i => l.length - (intOf i).toNat)
    case atStart => exact ⟨0, Nat.zero_le _, rfl, fun s hs => by omega⟩
    case round =>
      obtain ⟨k, hk, rfl, hno⟩ := hrel
      have Hno := Lib.hid hno
      clear hno
      by_cases hlt : k < l.length
      · rcases sl_codes HC'.out with ⟨h0, _⟩ | ⟨_, b0, o0, c0, hveq, hc0, hb0, cell⟩
        · have := HLn.out; rw [h0] at this; simp at this; omega
        · rw [HLn.out] at hveq
          injection hveq with q1 q2 q3
          subst q1 q3
          obtain ⟨e0, e1⟩ := cell k (by rw [HLn.out]; exact hlt)
          rw [codesL_get hlt] at e0 e1
          have hx := (lensOk_parts HOk.out).2.1 l[k] (List.getElem_mem hlt)
          have g0 : (k : Int) < (l.length : Int) := by omega
          have g1 : (0 : Int) ≤ (k : Int) := by omega
          have hgd : l[k]?.getD 0 = l[k] := by rw [List.getElem?_eq_getElem hlt, Option.getD_some]
          have Hnx : Hid (readO l b p ≠ some k → ∀ s, s < k + 1 → readO l b p ≠ some s) := by
            unfold Hid
            intro h s hs
            by_cases e : s = k
            · subst e; exact h
            · exact Hno.out s (by omega)
          clear cell q2 hc0
          by_cases hz : l[k] = 0
          · have hat : codeAt l k = (0, 0) := by unfold codeAt; rw [hgd, hz]; rfl
            rw [hat] at e0 e1
            have hne : readO l b p ≠ some k := fun h => by
              have := (hit_in (readO_some h).2.2).2
              omega
            have Hne := Lib.hid hne
            clear hat hgd hz hne
            go_wp2_with fail
            exact ⟨⟨k + 1, by omega, by go_num, Hnx.out Hne.out⟩, by simp [intOf]; omega⟩
          · have hat : codeAt l k = (l[k], codeC l k) := by unfold codeAt; rw [hgd, if_pos (by omega)]
            rw [hat] at e0 e1
            have hl0 : ¬ l[k] = 0 := hz
            obtain ⟨n, hn⟩ := Int.eq_ofNat_of_zero_le (a := l[k]) (by omega)
            have hgt : (l[k]?.getD 0).toNat = n := by rw [hgd, hn, Int.toNat_natCast]
            have d0 : ((n : Int) == 0) = false := by simp; omega
            rw [hn] at e0
            cases htk : takeOkR b.length p (n : Int) with
            | false =>
              have hne : readO l b p ≠ some k := fun h => by
                obtain ⟨_, hp0, hh⟩ := readO_some h
                have h2 := (hit_iff.1 hh).2.1
                rw [hgt] at h2
                have : takeOkR b.length p (n : Int) = true := by simp only [takeOkR, decide_eq_true_eq]; omega
                rw [this] at htk; cases htk
              have Hne := Lib.hid hne
              have hT := takeR_no _ b p (n : Int) w1 HU1.out hlb hpb htk
              clear hat hgd hz hne hgt hn htk
              go_wp2_with fail
              refine hT.mono ?_
              rintro e w9 ⟨rfl, rfl⟩
              go_wp2_with fail
              exact ⟨⟨k + 1, by omega, by go_num, Hnx.out Hne.out⟩, by simp [intOf]; omega⟩
            | true =>
              have htk' : 0 ≤ (n : Int) ∧ (n : Int) ≤ 30 ∧ 0 ≤ p ∧ p + (n : Int) ≤ b.length := by simpa [takeOkR] using htk
              have hT := takeR_any _ b p (n : Int) w1 HU1.out hlb htk
              rw [Int.toNat_natCast] at hT
              obtain ⟨_, _, hp0, hp1⟩ := htk'
              obtain ⟨P, rfl⟩ := Int.eq_ofNat_of_zero_le hp0
              rw [Int.toNat_natCast] at hT
              by_cases hm : takeN ((b.drop P).take n) = codeC l k
              · have hh : hit l b P k = true := hit_iff.2 (by rw [hgt]; exact ⟨by omega, by omega, hm⟩)
                have hrv := readV_some (readO_hit HOk.out hh)
                rw [hgd, hn] at hrv
                have Hrv := Lib.hid hrv
                have d1 : (takeN ((b.drop P).take n) == codeC l k) = true := by simpa using hm
                clear hat hgd hz hgt hn htk hh hrv hm
                generalize codeC l k = C at *
                generalize takeN ((b.drop P).take n) = T at *
                go_wp2_with fail
                refine hT.mono ?_
                rintro e w9 ⟨rfl, rfl⟩
                go_wp2_with fail
                go_ret3
                exact ⟨by rw [Hrv.out]; rfl, Hb1.out⟩
              · have hne : readO l b (P : Int) ≠ some k := fun h => by
                  have := (hit_iff.1 (readO_some h).2.2).2.2
                  rw [hgt, Int.toNat_natCast] at this
                  exact hm this
                have Hne := Lib.hid hne
                have d1 : (takeN ((b.drop P).take n) == codeC l k) = false := by simpa using hm
                clear hat hgd hz hgt hn htk hne hm
                generalize codeC l k = C at *
                generalize takeN ((b.drop P).take n) = T at *
                go_wp2_with fail
                refine hT.mono ?_
                rintro e w9 ⟨rfl, rfl⟩
                go_wp2_with fail
                exact ⟨⟨k + 1, by omega, by go_num, Hnx.out Hne.out⟩, by simp [intOf]; omega⟩
      · obtain rfl : k = l.length := by omega
        have hnone : readO l b p = none := by
          cases h : readO l b p with
          | none => rfl
          | some s =>
            obtain ⟨hs, _⟩ := hit_in (readO_some h).2.2
            exact absurd h (Hno.out s hs)
        have HNo := Lib.hid (readV_none hnone)
        clear hnone
        go_wp2_with fail
        go_ret3
        exact ⟨by rw [HNo.out]; rfl, Hb1.out⟩
end Go.Proofs.Ytdbhmffiojchcaa
