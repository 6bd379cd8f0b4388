/- The walk of AllocRoom. Conditions: numbers fit. -/
import Derived.Test.YtddbcpmhgjkjpaaAlcK
namespace Go.Proofs.Ytddbcpmhgjkjpaa
open Go.RowKit

set_option maxRecDepth 100000 in
set_option maxHeartbeats 16000000 in
theorem aroom_walk (v : Value) (ls : List (List Us)) (n nt : Int) (w : World) (hv : TabV w v ls) (hl : ls.length ≤ 140737488355328) (hli : ∀ l ∈ ls, l.length ≤ maxLen) :
    Calls Try.prog 9 #[v, .agg #[.int .i64 n, .int .i64 nt]] w fun e w' => e = .returned (.bool true) ∧ Below w.heap.size w w' := by
  obtain ⟨W1, hW, e0, e1, hs1, hb0⟩ := boxed2 w (.int .i64 n) (.int .i64 nt) 48
  have hfx := fun wx => fixed17_any wx
  have hsm : ∀ w1, Below W1.heap.size W1 w1 → _ := fun w1 hb => small_any v ls w1 (tab_below (tab_below hv hb0) hb) hl hli
  have HV := Lib.hid (tab_below hv hb0)
  have HB0 := Lib.hid hb0
  have Hs1 := Lib.hid hs1
  have HE0 := Lib.hid e0
  have HE1 := Lib.hid e1
  have hfin : ∀ w', Below W1.heap.size W1 w' → Below w.heap.size w w' := fun w' hb => hb0.trans (hb.mono (Nat.le_of_lt hs1))
  have Hfin := Lib.hid hfin
  obtain ⟨aX, cX, rfl, hnX, _⟩ := tab_shape hv
  clear hv hnX hb0 hs1 e0 e1 hfin
  cases hs : smallT ls with
  | false =>
    rw [hs] at hsm
    clear hs
    go_enter Try.func9, Try.ntmps9
    go_wp2_with fail
    refine (hfx _).mono ?_
    rintro e w1 ⟨rfl, hb1⟩
    have H1 := Lib.hid hb1
    have hsm1 := hsm w1 hb1
    clear hb1 hsm
    go_wp2_with fail
    refine hsm1.mono ?_
    rintro e w2 ⟨rfl, hb2⟩
    have H2 := Lib.hid (below_step9 H1.out hb2)
    clear hb2 hsm1
    go_wp2_with fail
    refine (hfx _).mono ?_
    rintro e wz ⟨rfl, hbz⟩
    have Hz := Lib.hid (below_step9 H2.out hbz)
    clear hbz hfx
    go_wp2_with fail
    go_ret
    exact ⟨rfl, Hfin.out _ Hz.out⟩
  | true =>
  have few := few_small hs
  have HSm := Lib.hid hs
  rw [hs] at hsm
  have hmy : ∀ w1, Below W1.heap.size W1 w1 → _ := fun w1 hb => mayTR_any _ ls w1 (tab_below HV.out hb) few
  clear hs
  cases hm : mayT ls with
  | false =>
    rw [hm] at hmy
    clear hm
    go_enter Try.func9, Try.ntmps9
    go_wp2_with fail
    refine (hfx _).mono ?_
    rintro e w1 ⟨rfl, hb1⟩
    have H1 := Lib.hid hb1
    have hsm1 := hsm w1 hb1
    clear hb1 hsm
    go_wp2_with fail
    refine hsm1.mono ?_
    rintro e w2 ⟨rfl, hb2⟩
    have H2 := Lib.hid (below_step9 H1.out hb2)
    clear hb2 hsm1
    have hmy1 := hmy w2 H2.out
    clear hmy
    go_wp2_with fail
    refine hmy1.mono ?_
    rintro e w3 ⟨rfl, hb3⟩
    have H3 := Lib.hid (below_step9 H2.out hb3)
    clear hb3 hmy1
    go_wp2_with fail
    refine (hfx _).mono ?_
    rintro e wz ⟨rfl, hbz⟩
    have Hz := Lib.hid (below_step9 H3.out hbz)
    clear hbz hfx
    go_wp2_with fail
    go_ret
    exact ⟨rfl, Hfin.out _ Hz.out⟩
  | true =>
  rw [hm] at hmy
  have HM := Lib.hid hm
  clear hm
  by_cases h1 : n < 1
  · have b1 : decide (n < 1) = true := by simpa using h1
    clear h1
    go_enter Try.func9, Try.ntmps9
    go_wp2_with fail
    refine (hfx _).mono ?_
    rintro e w1 ⟨rfl, hb1⟩
    have H1 := Lib.hid hb1
    have hsm1 := hsm w1 hb1
    clear hb1 hsm
    go_wp2_with fail
    refine hsm1.mono ?_
    rintro e w2 ⟨rfl, hb2⟩
    have H2 := Lib.hid (below_step9 H1.out hb2)
    clear hb2 hsm1
    have hmy1 := hmy w2 H2.out
    clear hmy
    go_wp2_with fail
    refine hmy1.mono ?_
    rintro e w3 ⟨rfl, hb3⟩
    have H3 := Lib.hid (below_step9 H2.out hb3)
    clear hb3 hmy1
    have f0 : w3.cell? ⟨w.heap.size, 0, none⟩ = some (.int .i64 n) := (H3.out.cell (p := ⟨w.heap.size, 0, none⟩) Hs1.out).trans HE0.out
    go_wp2_with fail
    refine (hfx _).mono ?_
    rintro e wz ⟨rfl, hbz⟩
    have Hz := Lib.hid (below_step9 H3.out hbz)
    clear hbz hfx
    go_wp2_with fail
    go_ret
    exact ⟨rfl, Hfin.out _ Hz.out⟩
  by_cases h8 : 8 < n
  · have b1 : decide (n < 1) = false := by simpa using h1
    have b2 : decide (8 < n) = true := by simpa using h8
    clear h1 h8
    go_enter Try.func9, Try.ntmps9
    go_wp2_with fail
    refine (hfx _).mono ?_
    rintro e w1 ⟨rfl, hb1⟩
    have H1 := Lib.hid hb1
    have hsm1 := hsm w1 hb1
    clear hb1 hsm
    go_wp2_with fail
    refine hsm1.mono ?_
    rintro e w2 ⟨rfl, hb2⟩
    have H2 := Lib.hid (below_step9 H1.out hb2)
    clear hb2 hsm1
    have hmy1 := hmy w2 H2.out
    clear hmy
    go_wp2_with fail
    refine hmy1.mono ?_
    rintro e w3 ⟨rfl, hb3⟩
    have H3 := Lib.hid (below_step9 H2.out hb3)
    clear hb3 hmy1
    have f0 : w3.cell? ⟨w.heap.size, 0, none⟩ = some (.int .i64 n) := (H3.out.cell (p := ⟨w.heap.size, 0, none⟩) Hs1.out).trans HE0.out
    go_wp2_with fail
    refine (hfx _).mono ?_
    rintro e wz ⟨rfl, hbz⟩
    have Hz := Lib.hid (below_step9 H3.out hbz)
    clear hbz hfx
    go_wp2_with fail
    go_ret
    exact ⟨rfl, Hfin.out _ Hz.out⟩
  have b1 : decide (n < 1) = false := by simpa using h1
  have b2 : decide (8 < n) = false := by simpa using h8
  have HN := Lib.hid (And.intro (show 1 ≤ n by omega) (show n ≤ 8 by omega))
  have hlen := few.2
  have Hfew := Lib.hid few
  clear few h1 h8
  go_enter Try.func9, Try.ntmps9
  go_wp2_with fail
  refine (hfx _).mono ?_
  rintro e w1 ⟨rfl, hb1⟩
  have H1 := Lib.hid hb1
  have hsm1 := hsm w1 hb1
  clear hb1 hsm
  go_wp2_with fail
  refine hsm1.mono ?_
  rintro e w2 ⟨rfl, hb2⟩
  have H2 := Lib.hid (below_step9 H1.out hb2)
  clear hb2 hsm1
  have hmy1 := hmy w2 H2.out
  clear hmy
  go_wp2_with fail
  refine hmy1.mono ?_
  rintro e w3 ⟨rfl, hb3⟩
  have H3 := Lib.hid (below_step9 H2.out hb3)
  clear hb3 hmy1
  have f0 : w3.cell? ⟨w.heap.size, 0, none⟩ = some (.int .i64 n) := (H3.out.cell (p := ⟨w.heap.size, 0, none⟩) Hs1.out).trans HE0.out
  go_wp2_with fail
  go_loop [5, 6] (fun r i => ∃ k : Nat, k ≤ ls.length ∧ i = .int .i64 k ∧ r = .bool (roomT ls nt k)) (fun _ i => ls.length - (intOf i).toNat)
  case atStart => exact ⟨0, Nat.zero_le _, rfl, rfl⟩
  case round =>
    obtain ⟨k, hk, rfl, rfl⟩ := hrel
    by_cases hlt : k < ls.length
    · obtain ⟨b, off, au, cu, hveq, hblt, hcell, hu⟩ := tab_at (tab_below HV.out H3.out) hlt
      subst hveq
      have f1 : w3.cell? ⟨w.heap.size, 1, none⟩ = some (.int .i64 nt) := (H3.out.cell (p := ⟨w.heap.size, 1, none⟩) Hs1.out).trans HE1.out
      have HR := Lib.hid (roomT_next (nt := nt) hlt)
      have g1 : (k : Int) < (ls.length : Int) := by omega
      have g2 : (0 : Int) ≤ (k : Int) := by omega
      clear hu
      generalize ls[k].length = xn at *
      generalize roomT ls nt k = r at *
      cases r with
      | true =>
        have HR2 : Hid (roomT ls nt (k + 1) = true) := by unfold Hid; rw [HR.out]; rfl
        clear HR
        go_wp2_with fail
        exact ⟨⟨k + 1, by omega, by go_num, by rw [HR2.out]⟩, by simp [intOf]; omega⟩
      | false =>
        by_cases hx : xn = 0
        · subst hx
          by_cases hn : (k : Int) = nt
          · have b3 : ((k : Int) != nt) = false := by simpa using hn
            have HR2 : Hid (roomT ls nt (k + 1) = false) := by unfold Hid; rw [HR.out]; simp [hn]
            clear HR hn
            go_wp2_with fail
            exact ⟨⟨k + 1, by omega, by go_num, by rw [HR2.out]⟩, by simp [intOf]; omega⟩
          · have b3 : ((k : Int) != nt) = true := by simpa using hn
            have HR2 : Hid (roomT ls nt (k + 1) = true) := by unfold Hid; rw [HR.out]; simp [hn]
            clear HR hn
            go_wp2_with fail
            exact ⟨⟨k + 1, by omega, by go_num, by rw [HR2.out]⟩, by simp [intOf]; omega⟩
        · have b3 : ((xn : Int) == 0) = false := by simpa using hx
          have HR2 : Hid (roomT ls nt (k + 1) = false) := by unfold Hid; rw [HR.out]; simp [hx]
          clear HR hx
          go_wp2_with fail
          exact ⟨⟨k + 1, by omega, by go_num, by rw [HR2.out]⟩, by simp [intOf]; omega⟩
    · obtain rfl : k = ls.length := by omega
      have f1 : w3.cell? ⟨w.heap.size, 1, none⟩ = some (.int .i64 nt) := (H3.out.cell (p := ⟨w.heap.size, 1, none⟩) Hs1.out).trans HE1.out
      have hc := takeTP_any _ ls n nt w3 (tab_below HV.out H3.out) Hfew.out
      unfold TakeTV at hc
      rcases takeTR_cases (n := n) (nt := nt) HM.out with ⟨hsl, htr⟩ | ⟨k, hkl, hsl, htr⟩
      · have HR := Lib.hid (room_none HM.out HN.out.1 HN.out.2 hsl)
        rw [htr] at hc
        dsimp only at hc
        rw [show ([] : List (List Us)).length = 0 from rfl] at hc
        rw [HR.out]
        clear hsl htr HR
        go_wp2_with fail
        refine hc.mono ?_
        rintro e w4 ⟨a4, c4, rfl, _, hb4⟩
        have H4 := Lib.hid (below_step9 H3.out hb4)
        clear hb4 hc
        go_wp2_with fail
        go_ret
        exact ⟨rfl, Hfin.out _ H4.out⟩
      · have hrs := room_some HM.out HSm.out HN.out.1 HN.out.2 hsl hkl
        obtain ⟨r1, r2, r3, r4, r5, r6, r7⟩ := hrs
        have R5 := Lib.hid r5
        have R6 := Lib.hid r6
        have R7 := Lib.hid r7
        have R2 := Lib.hid r2
        have R3 := Lib.hid r3
        have R4 := Lib.hid r4
        have hfl : freeTn ls ≤ 16 * ls.length := by
          unfold freeTn; rw [if_pos HM.out]; exact sum_bound freeN freeN_le ls
        rw [htr] at hc
        dsimp only at hc
        have HL : Hid ((ls.set k (takeU ls[k] n)).length = ls.length) := by unfold Hid; simp
        clear hsl htr r2 r3 r5 r6 r7
        generalize ls.set k (takeU ls[k] n) = ds at *
        generalize takeP ls[k] n = p2 at *
        rw [HL.out] at hc
        have b3 : ((k : Int) != nt) = true := by simpa using r1
        have x1 : IntKind.i64.wrap (32 * n) = 32 * n := IntWalk.i64_in _ (by have := HN.out.1; have := HN.out.2; omega)
        have x2 : IntKind.i64.wrap ((freeTn ls : Int) - n) = (freeTn ls : Int) - n := IntWalk.i64_in _ (by have := HN.out.1; have := HN.out.2; omega)
        have b4 : ((freeTn ds : Int) == (freeTn ls : Int) - n) = true := by simpa using r4
        clear r1 r4
        go_wp2_with fail
        refine hc.mono ?_
        rintro e w4 ⟨a4, c4, rfl, ht4, hb4⟩
        have H4 := Lib.hid (below_step9 H3.out hb4)
        have T4 := Lib.hid ht4
        have g0 : w4.cell? ⟨w.heap.size, 0, none⟩ = some (.int .i64 n) := (H4.out.cell (p := ⟨w.heap.size, 0, none⟩) Hs1.out).trans HE0.out
        clear hb4 hc ht4 f0 f1
        obtain ⟨W5, hW5, q0, q1, q2, q3, hs5, hb5⟩ := boxed4 w4 (.int .i64 k) (.int .i64 p2) (.int .i64 (32 * n)) (.bool true) 53
        have H5 := Lib.hid (below_step9 H4.out hb5)
        have T5 := Lib.hid (tab_below T4.out hb5)
        have Hs5 := Lib.hid hs5
        have Q0 := Lib.hid q0
        have Q1 := Lib.hid q1
        have Q2 := Lib.hid q2
        have Q3 := Lib.hid q3
        have hc := freeTP_any _ ls W5 (tab_below HV.out H5.out) Hfew.out
        clear hb5 T4 q0 q1 q2 q3
        go_wp2_with fail
        refine hc.mono ?_
        rintro e w6 ⟨rfl, hb6⟩
        have B6 := Lib.hid hb6
        have H6 := Lib.hid (below_step9 H5.out hb6)
        have T6 := Lib.hid (tab_below T5.out hb6)
        have hc2 := freeTP_any _ ds w6 T6.out R3.out
        clear hb6 hc T5 g0
        go_wp2_with fail
        refine hc2.mono ?_
        rintro e w7 ⟨rfl, hb7⟩
        have B7 := Lib.hid (below_step9 B6.out hb7)
        have H7 := Lib.hid (below_step9 H6.out hb7)
        have T7 := Lib.hid (tab_below T6.out hb7)
        have q0 : w7.cell? ⟨w4.heap.size, 0, none⟩ = some (.int .i64 k) := (B7.out.cell (p := ⟨w4.heap.size, 0, none⟩) Hs5.out).trans Q0.out
        have q1 : w7.cell? ⟨w4.heap.size, 1, none⟩ = some (.int .i64 p2) := (B7.out.cell (p := ⟨w4.heap.size, 1, none⟩) Hs5.out).trans Q1.out
        have q2 : w7.cell? ⟨w4.heap.size, 2, none⟩ = some (.int .i64 (32 * n)) := (B7.out.cell (p := ⟨w4.heap.size, 2, none⟩) Hs5.out).trans Q2.out
        have q3 : w7.cell? ⟨w4.heap.size, 3, none⟩ = some (.bool true) := (B7.out.cell (p := ⟨w4.heap.size, 3, none⟩) Hs5.out).trans Q3.out
        have hc := decT_any _ ds k p2 (32 * n) true w7 T7.out R3.out
        unfold ChanV at hc
        rw [R5.out, R6.out] at hc
        clear hb7 hc2 T6
        go_wp2_with fail
        refine hc.mono ?_
        rintro e w8 ⟨a8, c8, rfl, ht8, hb8⟩
        have B8 := Lib.hid (below_step9 B7.out hb8)
        have H8 := Lib.hid (below_step9 H7.out hb8)
        have T8 := Lib.hid (tab_below T7.out hb8)
        have U8 := Lib.hid ht8
        have g0 : w8.cell? ⟨w.heap.size, 0, none⟩ = some (.int .i64 n) := (H8.out.cell (p := ⟨w.heap.size, 0, none⟩) Hs1.out).trans HE0.out
        have g1 : w8.cell? ⟨w.heap.size, 1, none⟩ = some (.int .i64 nt) := (H8.out.cell (p := ⟨w.heap.size, 1, none⟩) Hs1.out).trans HE1.out
        have hc2 := mayTP_any _ ds w8 T8.out R3.out
        rw [R2.out] at hc2
        clear hb8 hc ht8 T7 q0 q1 q2 q3
        go_wp2_with fail
        refine hc2.mono ?_
        rintro e w9 ⟨rfl, hb9⟩
        have B9 := Lib.hid (below_step9 B8.out hb9)
        have H9 := Lib.hid (below_step9 H8.out hb9)
        have g0' : w9.cell? ⟨w.heap.size, 0, none⟩ = some (.int .i64 n) := (H9.out.cell (p := ⟨w.heap.size, 0, none⟩) Hs1.out).trans HE0.out
        have hc := sameT_any _ _ ls w9 (tab_below U8.out hb9) (tab_below HV.out H9.out) Hfew.out
        clear hb9 hc2 g0 g1
        go_wp2_with fail
        refine hc.mono ?_
        rintro e w10 ⟨rfl, hb10⟩
        have B10 := Lib.hid (below_step9 B9.out hb10)
        have H10 := Lib.hid (below_step9 H9.out hb10)
        have q0 : w10.cell? ⟨w4.heap.size, 0, none⟩ = some (.int .i64 k) := (B10.out.cell (p := ⟨w4.heap.size, 0, none⟩) Hs5.out).trans Q0.out
        have q1 : w10.cell? ⟨w4.heap.size, 1, none⟩ = some (.int .i64 p2) := (B10.out.cell (p := ⟨w4.heap.size, 1, none⟩) Hs5.out).trans Q1.out
        have q2 : w10.cell? ⟨w4.heap.size, 2, none⟩ = some (.int .i64 (32 * n)) := (B10.out.cell (p := ⟨w4.heap.size, 2, none⟩) Hs5.out).trans Q2.out
        have q3 : w10.cell? ⟨w4.heap.size, 3, none⟩ = some (.bool true) := (B10.out.cell (p := ⟨w4.heap.size, 3, none⟩) Hs5.out).trans Q3.out
        have hc2 := hasT_any _ ls k p2 (32 * n) true w10 (tab_below HV.out H10.out) Hfew.out
        rw [R7.out] at hc2
        clear hb10 hc g0'
        go_wp2_with fail
        refine hc2.mono ?_
        rintro e w11 ⟨rfl, hb11⟩
        have H11 := Lib.hid (below_step9 H10.out hb11)
        clear hb11 hc2
        go_wp2_with fail
        go_ret
        exact ⟨rfl, Hfin.out _ H11.out⟩
end Go.Proofs.Ytddbcpmhgjkjpaa
