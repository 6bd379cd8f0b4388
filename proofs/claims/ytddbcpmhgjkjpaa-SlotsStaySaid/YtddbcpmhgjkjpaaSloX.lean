/- The walk of SlotsStay. Conditions: numbers fit. -/
import Derived.Test.YtddbcpmhgjkjpaaSloW
namespace Go.Proofs.Ytddbcpmhgjkjpaa
open Go.RowKit

abbrev doE : Int × Int → List Value := fun d => [.int .i64 d.1, .int .i64 d.2]
abbrev DoV (w : World) (v : Value) (l : List (Int × Int)) : Prop := SlOf w v 2 doE l
theorem do_at {w : World} {a : Option Addr} {n cap : Nat} {l : List (Int × Int)} (hv : DoV w (.slice a n cap) l) {k : Nat} (hk : k < l.length) :
    ∃ b off, a = some ⟨b, off, none⟩ ∧ b < w.heap.size ∧ w.cell? ⟨b, off + k * 2, none⟩ = some (.int .i64 l[k].1) ∧ w.cell? ⟨b, off + k * 2 + 1, none⟩ = some (.int .i64 l[k].2) := by
  obtain ⟨a', cap', hv', hl, hn, hc⟩ := hv
  injection hv' with h1 h2 h3
  subst h1
  rcases hc with rfl | ⟨b, off, rfl, hb, hcell⟩
  · simp at hk
  · exact ⟨b, off, rfl, hb, by simpa using hcell k hk 0 (by omega), by simpa [Nat.add_assoc] using hcell k hk 1 (by omega)⟩
/-- What stays: the table may be; a slot that is old has its sectors. -/
def Stay (l M : List Us) : Prop := mayU M = true ∧ ∀ u ∈ l, u.2.2.2 = true → hasOld M u = true
theorem stay_start {l : List Us} (h : mayU l = true) : Stay l l := ⟨h, fun _ hu ho => hasOld_self hu ho⟩
theorem stay_take {l M : List Us} {n : Int} (h : Stay l M) (hk : takeOk M n = true) : Stay l (takeU M n) := ⟨take_may hk, fun u hu ho => take_old hk (h.2 u hu ho)⟩
theorem stay_turn {l M : List Us} {x b : Int} (h : Stay l M) (hk : turnOk M x b = true) (hb : -1 ≤ b) : Stay l (turnU M x b) := ⟨turn_may hk hb, fun u hu ho => turn_old hk (h.2 u hu ho)⟩
theorem take_fits {M : List Us} {n : Int} (hk : takeOk M n = true) : fitsI (usedL M) (takeP M n) n = true ∧ takeP M n ≤ 9223372036854775807 := by
  obtain ⟨h1, h2, h3, a, h4, h5, h6⟩ := takeOk_parts hk
  have hr := fits_room h6
  rw [(take_yes hk).2, h4]
  refine ⟨?_, by omega⟩
  obtain ⟨m, rfl⟩ := Int.eq_ofNat_of_zero_le (a := n) (by omega)
  exact fitsI_of (by omega) (by simpa using h6)

set_option maxRecDepth 100000 in
set_option maxHeartbeats 32000000 in
theorem sstay_walk (v u : Value) (l : List Us) (ds : List (Int × Int)) (w : World) (hv : UseV w v l) (hu : DoV w u ds) (hl : l.length ≤ 140737488355328) (hl2 : ds.length ≤ 140737488355328) :
    Calls Try.prog 4 #[v, u] w fun e w' => e = .returned (.bool true) ∧ Below w.heap.size w w' := by
  have HV := Lib.hid hv
  have HD := Lib.hid hu
  obtain ⟨aX, cX, rfl, hcX, hnX, hcellX⟩ := hv
  obtain ⟨aY, cY, rfl, hcY, hnY, hcellY⟩ := hu
  clear hcellX hnX hcellY hnY
  go_enter Try.func4, Try.ntmps4
  have hc := fixed14_any w
  go_wp2_with fail
  refine hc.mono ?_
  rintro e w1 ⟨rfl, hb⟩
  have H1 := Lib.hid (hb)
  clear hc hb
  have hc := mayR_any _ l w1 (sl_below HV.out H1.out) hl
  go_wp2_with fail
  refine hc.mono ?_
  rintro e w2 ⟨rfl, hb⟩
  have H2 := Lib.hid (below_step9 H1.out hb)
  clear hc hb
  cases hmay : mayU l with
  | false =>
    have hc := fixed14_any w2
    go_wp2_with fail
    refine hc.mono ?_
    rintro e w3 ⟨rfl, hb⟩
    go_wp2_with fail
    go_ret
    exact ⟨rfl, below_step9 H2.out hb⟩
  | true =>
    have HS0 := Lib.hid (stay_start hmay)
    have hl16 := mayU_len hmay
    clear hmay
    by_cases h40 : 40 < ds.length
    · have d0 : decide ((40 : Int) < (ds.length : Int)) = true := by simp; omega
      have hc := fixed14_any w2
      go_wp2_with fail
      refine hc.mono ?_
      rintro e w3 ⟨rfl, hb⟩
      go_wp2_with fail
      go_ret
      exact ⟨rfl, below_step9 H2.out hb⟩
    have d0 : decide ((40 : Int) < (ds.length : Int)) = false := by simp; omega
    go_wp2_with fail
    clear d0
    go_loopw [5, 6] (fun vn i wr => ∃ (k : Nat) (M : List Us) (a : Option Addr) (cap : Nat), k ≤ ds.length ∧ i = .int .i64 k ∧ vn = .slice a M.length cap ∧ UseV wr (.slice a M.length cap) M ∧ Stay l M ∧ Below w.heap.size w wr) (fun _ i _ => ds.length - (intOf i).toNat)
    case atStart => exact ⟨0, l, aX, cX, Nat.zero_le _, rfl, rfl, sl_below HV.out H2.out, HS0.out, H2.out⟩
    case round =>
      clear HS0 H2 H1
      obtain ⟨k, M, aM, cM, hk, rfl, rfl, hsM, hst, hbr⟩ := hrel
      have HSt := Lib.hid hst
      have SM := Lib.hid hsM
      have Hbr := Lib.hid hbr
      have hM16 := mayU_len hst.1
      have HUM := Lib.hid (usedU_yes hst.1)
      clear hst hsM hbr
      by_cases hlt : k < ds.length
      · obtain ⟨bd, od, hveq, hbd, e0, e1⟩ := do_at HD.out hlt
        subst hveq
        generalize ds[k] = d at *
        obtain ⟨D, N⟩ := d
        dsimp only at e0 e1
        have HC : Hid (∀ W', Below w.heap.size w W' → W'.cell? ⟨bd, od + k * 2, none⟩ = some (.int .i64 D) ∧ W'.cell? ⟨bd, od + k * 2 + 1, none⟩ = some (.int .i64 N)) := fun W' h => ⟨(h.cell (p := ⟨bd, od + k * 2, none⟩) hbd).trans e0, (h.cell (p := ⟨bd, od + k * 2 + 1, none⟩) hbd).trans e1⟩
        have g0 : (k : Int) < (ds.length : Int) := by omega
        have g1 : (0 : Int) ≤ (k : Int) := by omega
        clear e0 e1
        have hc := used_any _ M wr SM.out (by omega)
        rw [HUM.out, usedL_length] at hc
        go_wp2_with fail
        refine hc.mono ?_
        rintro e w3 ⟨a3, c3, rfl, hs, hb⟩
        have H3 := Lib.hid hb
        have S3 := Lib.hid hs
        clear hc hb hs
        obtain ⟨e0, e1⟩ := HC.out _ (below_step9 Hbr.out H3.out)
        have hc := take_any _ M N w3 (sl_below SM.out H3.out) (by omega)
        unfold TakeV at hc
        go_wp2_with fail
        refine hc.mono ?_
        rintro e w4 ⟨a4, c4, rfl, hs, hb⟩
        have H4 := Lib.hid (below_step9 H3.out hb)
        have H34 := Lib.hid hb
        have S4 := Lib.hid hs
        clear hc hb hs e0 e1
        obtain ⟨e0, e1⟩ := HC.out _ (below_step9 Hbr.out H4.out)
        by_cases hD1 : D = 1
        · have b1 : (D == 1) = true := by simpa using hD1
          have b2 : (D == 2) = false := by simp; omega
          have b3 : (D != 1) = false := by simpa using hD1
          clear hD1
          have hc := inc_any _ M N w4 (sl_below SM.out H4.out) (by omega)
          unfold TurnV at hc
          go_wp2_with fail
          refine hc.mono ?_
          rintro e w5 ⟨a5, c5, rfl, hs, hb⟩
          have H5 := Lib.hid (below_step9 H4.out hb)
          have S5 := Lib.hid hs
          clear hc hb hs e0 e1
          obtain ⟨e0, e1⟩ := HC.out _ (below_step9 Hbr.out H5.out)
          cases hok : turnOk M N 1 with
          | false =>
            go_wp2_with fail
            exact ⟨⟨k + 1, M, aM, cM, by omega, by go_num, rfl, sl_below SM.out H5.out, HSt.out, below_step9 Hbr.out H5.out⟩, by simp [intOf]; omega⟩
          | true =>
            have HSn := Lib.hid (stay_turn HSt.out hok (by omega))
            have hn16 := mayU_len HSn.out.1
            have hc := may_any _ (turnU M N 1) w5 S5.out (by omega)
            rw [HSn.out.1] at hc
            go_wp2_with fail
            refine hc.mono ?_
            rintro e w8 ⟨rfl, hb⟩
            have H8 := Lib.hid (below_step9 H5.out hb)
            have S8 := Lib.hid (sl_below S5.out hb)
            clear hc hb
            go_wp2_with fail
            go_loopw [11] (fun i wi => ∃ j : Nat, j ≤ l.length ∧ i = .int .i64 j ∧ Below w8.heap.size w8 wi) (fun i _ => l.length - (intOf i).toNat)
            case atStart => exact ⟨0, Nat.zero_le _, rfl, Below.refl _ _⟩
            case round =>
              obtain ⟨j, hj, rfl, hbi⟩ := hrel
              have Hbi := Lib.hid hbi
              clear hbi
              by_cases hjl : j < l.length
              · obtain ⟨bl, ol, hveq, hbl, f0, f1, f2, f3⟩ := use_at (sl_below HV.out (below_step9 Hbr.out (below_step9 H8.out Hbi.out))) hjl
                subst hveq
                have Hold := Lib.hid (HSn.out.2 l[j] (List.getElem_mem hjl))
                have g2 : (j : Int) < (l.length : Int) := by omega
                have g3 : (0 : Int) ≤ (j : Int) := by omega
                generalize l[j] = y at *
                obtain ⟨p, q, c, o⟩ := y
                dsimp only at f0 f1 f2 f3 Hold
                cases o with
                | true =>
                  have hh := has_any _ (turnU M N 1) p q c true wr (sl_below S8.out Hbi.out) (by omega)
                  rw [Hold.out rfl] at hh
                  go_wp2_with fail
                  refine hh.mono ?_
                  rintro e w9 ⟨rfl, hb⟩
                  have H9 := Lib.hid (below_step9 Hbi.out hb)
                  clear hh hb
                  go_wp2_with fail
                  exact ⟨⟨j + 1, by omega, by go_num, H9.out⟩, by simp [intOf]; omega⟩
                | false =>
                  go_wp2_with fail
                  exact ⟨⟨j + 1, by omega, by go_num, Hbi.out⟩, by simp [intOf]; omega⟩
              · obtain rfl : j = l.length := by omega
                go_wp2_with fail
                exact ⟨⟨k + 1, turnU M N 1, _, _, by omega, by go_num, rfl, sl_below S8.out Hbi.out, HSn.out, below_step9 Hbr.out (below_step9 H8.out Hbi.out)⟩, by simp [intOf]; omega⟩
        · have b1 : (D == 1) = false := by simpa using hD1
          have b3 : (D != 1) = true := by simpa using hD1
          by_cases hD2 : D = 2
          · have b2 : (D == 2) = true := by simpa using hD2
            have b4 : (D != 2) = false := by simpa using hD2
            clear hD1 hD2
            have hc := dec_any _ M N w4 (sl_below SM.out H4.out) (by omega)
            unfold TurnV at hc
            go_wp2_with fail
            refine hc.mono ?_
            rintro e w5 ⟨a5, c5, rfl, hs, hb⟩
            have H5 := Lib.hid (below_step9 H4.out hb)
            have S5 := Lib.hid hs
            clear hc hb hs e0 e1
            obtain ⟨e0, e1⟩ := HC.out _ (below_step9 Hbr.out H5.out)
            cases hok : turnOk M N (-1) with
            | false =>
              go_wp2_with fail
              exact ⟨⟨k + 1, M, aM, cM, by omega, by go_num, rfl, sl_below SM.out H5.out, HSt.out, below_step9 Hbr.out H5.out⟩, by simp [intOf]; omega⟩
            | true =>
              have HSn := Lib.hid (stay_turn HSt.out hok (by omega))
              have hn16 := mayU_len HSn.out.1
              have hc := may_any _ (turnU M N (-1)) w5 S5.out (by omega)
              rw [HSn.out.1] at hc
              go_wp2_with fail
              refine hc.mono ?_
              rintro e w8 ⟨rfl, hb⟩
              have H8 := Lib.hid (below_step9 H5.out hb)
              have S8 := Lib.hid (sl_below S5.out hb)
              clear hc hb
              go_wp2_with fail
              go_loopw [11] (fun i wi => ∃ j : Nat, j ≤ l.length ∧ i = .int .i64 j ∧ Below w8.heap.size w8 wi) (fun i _ => l.length - (intOf i).toNat)
              case atStart => exact ⟨0, Nat.zero_le _, rfl, Below.refl _ _⟩
              case round =>
                obtain ⟨j, hj, rfl, hbi⟩ := hrel
                have Hbi := Lib.hid hbi
                clear hbi
                by_cases hjl : j < l.length
                · obtain ⟨bl, ol, hveq, hbl, f0, f1, f2, f3⟩ := use_at (sl_below HV.out (below_step9 Hbr.out (below_step9 H8.out Hbi.out))) hjl
                  subst hveq
                  have Hold := Lib.hid (HSn.out.2 l[j] (List.getElem_mem hjl))
                  have g2 : (j : Int) < (l.length : Int) := by omega
                  have g3 : (0 : Int) ≤ (j : Int) := by omega
                  generalize l[j] = y at *
                  obtain ⟨p, q, c, o⟩ := y
                  dsimp only at f0 f1 f2 f3 Hold
                  cases o with
                  | true =>
                    have hh := has_any _ (turnU M N (-1)) p q c true wr (sl_below S8.out Hbi.out) (by omega)
                    rw [Hold.out rfl] at hh
                    go_wp2_with fail
                    refine hh.mono ?_
                    rintro e w9 ⟨rfl, hb⟩
                    have H9 := Lib.hid (below_step9 Hbi.out hb)
                    clear hh hb
                    go_wp2_with fail
                    exact ⟨⟨j + 1, by omega, by go_num, H9.out⟩, by simp [intOf]; omega⟩
                  | false =>
                    go_wp2_with fail
                    exact ⟨⟨j + 1, by omega, by go_num, Hbi.out⟩, by simp [intOf]; omega⟩
                · obtain rfl : j = l.length := by omega
                  go_wp2_with fail
                  exact ⟨⟨k + 1, turnU M N (-1), _, _, by omega, by go_num, rfl, sl_below S8.out Hbi.out, HSn.out, below_step9 Hbr.out (below_step9 H8.out Hbi.out)⟩, by simp [intOf]; omega⟩
          · have b2 : (D == 2) = false := by simpa using hD2
            have b4 : (D != 2) = true := by simpa using hD2
            clear hD1 hD2
            cases hok : takeOk M N with
            | false =>
              go_wp2_with fail
              exact ⟨⟨k + 1, M, aM, cM, by omega, by go_num, rfl, sl_below SM.out H4.out, HSt.out, below_step9 Hbr.out H4.out⟩, by simp [intOf]; omega⟩
            | true =>
              have hfi := fits_any _ (usedL M) (takeP M N) N w4 (sl_below S3.out H34.out) (by rw [usedL_length]; omega) (take_fits hok).2
              rw [(take_fits hok).1] at hfi
              go_wp2_with fail
              refine hfi.mono ?_
              rintro e w6 ⟨rfl, hq⟩
              have H6 := Lib.hid (below_step9 H4.out (below_of_eq hq))
              have S6 := Lib.hid (sl_below S4.out (below_of_eq hq))
              clear hfi hq
              have HSn := Lib.hid (stay_take HSt.out hok)
              have hn16 := mayU_len HSn.out.1
              have hc := may_any _ (takeU M N) w6 S6.out (by omega)
              rw [HSn.out.1] at hc
              go_wp2_with fail
              refine hc.mono ?_
              rintro e w8 ⟨rfl, hb⟩
              have H8 := Lib.hid (below_step9 H6.out hb)
              have S8 := Lib.hid (sl_below S6.out hb)
              clear hc hb
              go_wp2_with fail
              go_loopw [11] (fun i wi => ∃ j : Nat, j ≤ l.length ∧ i = .int .i64 j ∧ Below w8.heap.size w8 wi) (fun i _ => l.length - (intOf i).toNat)
              case atStart => exact ⟨0, Nat.zero_le _, rfl, Below.refl _ _⟩
              case round =>
                obtain ⟨j, hj, rfl, hbi⟩ := hrel
                have Hbi := Lib.hid hbi
                clear hbi
                by_cases hjl : j < l.length
                · obtain ⟨bl, ol, hveq, hbl, f0, f1, f2, f3⟩ := use_at (sl_below HV.out (below_step9 Hbr.out (below_step9 H8.out Hbi.out))) hjl
                  subst hveq
                  have Hold := Lib.hid (HSn.out.2 l[j] (List.getElem_mem hjl))
                  have g2 : (j : Int) < (l.length : Int) := by omega
                  have g3 : (0 : Int) ≤ (j : Int) := by omega
                  generalize l[j] = y at *
                  obtain ⟨p, q, c, o⟩ := y
                  dsimp only at f0 f1 f2 f3 Hold
                  cases o with
                  | true =>
                    have hh := has_any _ (takeU M N) p q c true wr (sl_below S8.out Hbi.out) (by omega)
                    rw [Hold.out rfl] at hh
                    go_wp2_with fail
                    refine hh.mono ?_
                    rintro e w9 ⟨rfl, hb⟩
                    have H9 := Lib.hid (below_step9 Hbi.out hb)
                    clear hh hb
                    go_wp2_with fail
                    exact ⟨⟨j + 1, by omega, by go_num, H9.out⟩, by simp [intOf]; omega⟩
                  | false =>
                    go_wp2_with fail
                    exact ⟨⟨j + 1, by omega, by go_num, Hbi.out⟩, by simp [intOf]; omega⟩
                · obtain rfl : j = l.length := by omega
                  go_wp2_with fail
                  exact ⟨⟨k + 1, takeU M N, _, _, by omega, by go_num, rfl, sl_below S8.out Hbi.out, HSn.out, below_step9 Hbr.out (below_step9 H8.out Hbi.out)⟩, by simp [intOf]; omega⟩
      · obtain rfl : k = ds.length := by omega
        have HMm := Lib.hid HSt.out.1
        have HCm := Lib.hid (commitU_yes HSt.out.1)
        have HCy := Lib.hid (commit_may HSt.out.1)
        have hlc := commitL_le M
        have hc := commit_any _ M wr SM.out (by omega)
        rw [HCm.out] at hc
        go_wp2_with fail
        refine hc.mono ?_
        rintro e w3 ⟨a3, c3, rfl, hs, hb⟩
        have H3 := Lib.hid hb
        have S3 := Lib.hid hs
        clear hc hb hs
        have hc := may_any _ (commitL M) w3 S3.out (by omega)
        rw [HCy.out] at hc
        go_wp2_with fail
        refine hc.mono ?_
        rintro e w4 ⟨rfl, hb⟩
        have H4 := Lib.hid (below_step9 H3.out hb)
        clear hc hb
        go_wp2_with fail
        go_ret
        exact ⟨rfl, below_step9 Hbr.out H4.out⟩
end Go.Proofs.Ytddbcpmhgjkjpaa
