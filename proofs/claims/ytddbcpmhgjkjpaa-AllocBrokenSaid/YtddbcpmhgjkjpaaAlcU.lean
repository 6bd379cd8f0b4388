/- The walk of AllocTells. Conditions: numbers fit. -/
import Derived.Test.YtddbcpmhgjkjpaaAlcQ
import Derived.Test.YtddbcpmhgjkjpaaAlcT
namespace Go.Proofs.Ytddbcpmhgjkjpaa
open Go.RowKit

theorem takeU_len (l : List Us) (n : Int) : (takeU l n).length ≤ l.length + 1 := by
  cases h : takeOk l n with
  | false => unfold takeU; rw [h]; simp
  | true => rw [take_len h]; exact Nat.le_refl _
theorem few_nil : FewT [] := ⟨by simp, by simp⟩
theorem few_take {ls : List (List Us)} (h : smallT ls = true) (n nt : Int) : FewT (takeTR ls n nt).1 := by
  obtain ⟨h1, h2⟩ := smallT_iff.1 h
  unfold takeTR
  split
  · split
    · rename_i k hk
      have hkl := (slotT_parts hk).1
      refine few_set (few_small h) ?_
      rw [List.getD_eq_getElem?_getD, List.getElem?_eq_getElem hkl, Option.getD_some]
      have := takeU_len ls[k] n
      have := h1 _ (List.getElem_mem hkl)
      omega
    · exact few_nil
  · exact few_nil
theorem few_chan {ls : List (List Us)} (h : FewT ls) (c a s : Int) (p : Bool) (b : Int) : FewT (chanR ls c a s p b) := by
  cases hq : chanOk ls c a s p b with
  | false => rw [(chan_no hq).1]; exact few_nil
  | true =>
    obtain ⟨k, hk, rfl, _, _, _, _, h6⟩ := chanOk_parts hq
    rw [h6]
    refine few_set h ?_
    have := turnU_len ls[k] a b
    have := h.1 _ (List.getElem_mem hk)
    omega
theorem few_commit {ls : List (List Us)} (h : FewT ls) : FewT (commitT ls) := by
  unfold commitT
  split
  · exact commitT_few h
  · exact few_nil

set_option maxRecDepth 100000 in
set_option maxHeartbeats 16000000 in
theorem atells_walk (v : Value) (ls : List (List Us)) (c a s : Int) (p : Bool) (n nt : Int) (w : World) (hv : TabV w v ls) (hl : ls.length ≤ 140737488355328) (hli : ∀ l ∈ ls, l.length ≤ maxLen) :
    Calls Try.prog 12 #[v, .agg #[.int .i64 c, .int .i64 a, .int .i64 s, .bool p], .agg #[.int .i64 n, .int .i64 nt]] w fun e w' => e = .returned (.bool true) ∧ Below w.heap.size w w' := by
  obtain ⟨W1, hW, e0, e1, e2, e3, hs1, hb0⟩ := boxed4 w (.int .i64 c) (.int .i64 a) (.int .i64 s) (.bool p) 53
  obtain ⟨W2, hW2, d0, d1, hs2, hb2⟩ := boxed2 W1 (.int .i64 n) (.int .i64 nt) 48
  have hfx := fun wx => fixed17_any wx
  have hsm : ∀ w1, Below W2.heap.size W2 w1 → _ := fun w1 hb => small_any v ls w1 (tab_below (tab_below (tab_below hv hb0) hb2) hb) hl hli
  have HV := Lib.hid (tab_below (tab_below hv hb0) hb2)
  have hs12 : w.heap.size < W2.heap.size := Nat.lt_of_lt_of_le hs1 hb2.size
  have HC : Hid (∀ w', Below W2.heap.size W2 w' → w'.cell? ⟨w.heap.size, 0, none⟩ = some (.int .i64 c) ∧ w'.cell? ⟨w.heap.size, 1, none⟩ = some (.int .i64 a) ∧ w'.cell? ⟨w.heap.size, 2, none⟩ = some (.int .i64 s) ∧ w'.cell? ⟨w.heap.size, 3, none⟩ = some (.bool p) ∧ w'.cell? ⟨W1.heap.size, 0, none⟩ = some (.int .i64 n) ∧ w'.cell? ⟨W1.heap.size, 1, none⟩ = some (.int .i64 nt)) :=
    fun w' hb => ⟨((hb.cell (p := ⟨w.heap.size, 0, none⟩) hs12).trans (hb2.cell (p := ⟨w.heap.size, 0, none⟩) hs1)).trans e0, ((hb.cell (p := ⟨w.heap.size, 1, none⟩) hs12).trans (hb2.cell (p := ⟨w.heap.size, 1, none⟩) hs1)).trans e1, ((hb.cell (p := ⟨w.heap.size, 2, none⟩) hs12).trans (hb2.cell (p := ⟨w.heap.size, 2, none⟩) hs1)).trans e2, ((hb.cell (p := ⟨w.heap.size, 3, none⟩) hs12).trans (hb2.cell (p := ⟨w.heap.size, 3, none⟩) hs1)).trans e3, (hb.cell (p := ⟨W1.heap.size, 0, none⟩) hs2).trans d0, (hb.cell (p := ⟨W1.heap.size, 1, none⟩) hs2).trans d1⟩
  have Hfin : Hid (∀ w', Below W2.heap.size W2 w' → Below w.heap.size w w') := fun w' hb => (hb0.trans (hb2.mono (Nat.le_of_lt hs1))).trans (hb.mono (Nat.le_of_lt hs12))
  obtain ⟨aX, cX, rfl, hnX, _⟩ := tab_shape hv
  clear hv hnX hb0 hs1 e0 e1 e2 e3 d0 d1 hs2 hb2 hs12
  cases hs : smallT ls with
  | false =>
    rw [hs] at hsm
    clear hs
    have hsm1 := hsm W2 (Below.refl _ _)
    clear hsm
    go_enter Try.func12, Try.ntmps12
    go_wp2_with fail
    refine hsm1.mono ?_
    rintro e w1 ⟨rfl, hb1⟩
    have H1 := Lib.hid hb1
    clear hb1 hsm1
    go_wp2_with fail
    refine (hfx _).mono ?_
    rintro e wz ⟨rfl, hbz⟩
    have Hz := Lib.hid (below_step9 H1.out hbz)
    clear hbz hfx
    go_wp2_with fail
    go_ret
    exact ⟨rfl, Hfin.out _ Hz.out⟩
  | true =>
  have few := few_small hs
  have h40 := (smallT_iff.1 hs).2
  have HF := Lib.hid few
  have FT := Lib.hid (few_take hs n nt)
  have FI := Lib.hid (few_chan few c a s p 1)
  have FD := Lib.hid (few_chan few c a s p (-1))
  have FC := Lib.hid (few_commit few)
  rw [hs] at hsm
  have hsm1 := hsm W2 (Below.refl _ _)
  clear hs hsm few
  go_enter Try.func12, Try.ntmps12
  go_wp2_with fail
  refine hsm1.mono ?_
  rintro e w1 ⟨rfl, hb1⟩
  have H1 := Lib.hid hb1
  clear hb1 hsm1
  obtain ⟨f0, f1, f2, f3, f4, f5⟩ := HC.out _ H1.out
  have hc := takeTP_any _ ls n nt w1 (tab_below HV.out H1.out) HF.out
  unfold TakeTV at hc
  go_wp2_with fail
  refine hc.mono ?_
  rintro e w2 ⟨a2, c2, rfl, ht, hb⟩
  have B1 := Lib.hid hb
  have H2 := Lib.hid (below_step9 H1.out hb)
  have TA := Lib.hid ht
  clear hb hc ht
  clear f0 f1 f2 f3 f4 f5
  obtain ⟨f0, f1, f2, f3, f4, f5⟩ := HC.out _ H2.out
  have hc := takeTRR_any _ ls n nt w2 (tab_below HV.out H2.out) HF.out
  unfold TakeTV at hc
  go_wp2_with fail
  refine hc.mono ?_
  rintro e w3 ⟨a3, c3, rfl, ht, hb⟩
  have B2 := Lib.hid hb
  have H3 := Lib.hid (below_step9 H2.out hb)
  have TB := Lib.hid ht
  clear hb hc ht
  clear f0 f1 f2 f3 f4 f5
  obtain ⟨f0, f1, f2, f3, f4, f5⟩ := HC.out _ H3.out
  have hc := incT_any _ ls c a s p w3 (tab_below HV.out H3.out) HF.out
  unfold ChanV at hc
  go_wp2_with fail
  refine hc.mono ?_
  rintro e w4 ⟨a4, c4, rfl, ht, hb⟩
  have B3 := Lib.hid hb
  have H4 := Lib.hid (below_step9 H3.out hb)
  have IA := Lib.hid ht
  clear hb hc ht
  clear f0 f1 f2 f3 f4 f5
  obtain ⟨f0, f1, f2, f3, f4, f5⟩ := HC.out _ H4.out
  have hc := incTR_any _ ls c a s p w4 (tab_below HV.out H4.out) HF.out
  unfold ChanV at hc
  go_wp2_with fail
  refine hc.mono ?_
  rintro e w5 ⟨a5, c5, rfl, ht, hb⟩
  have B4 := Lib.hid hb
  have H5 := Lib.hid (below_step9 H4.out hb)
  have IB := Lib.hid ht
  clear hb hc ht
  clear f0 f1 f2 f3 f4 f5
  obtain ⟨f0, f1, f2, f3, f4, f5⟩ := HC.out _ H5.out
  have hc := decT_any _ ls c a s p w5 (tab_below HV.out H5.out) HF.out
  unfold ChanV at hc
  go_wp2_with fail
  refine hc.mono ?_
  rintro e w6 ⟨a6, c6, rfl, ht, hb⟩
  have B5 := Lib.hid hb
  have H6 := Lib.hid (below_step9 H5.out hb)
  have DA := Lib.hid ht
  clear hb hc ht
  clear f0 f1 f2 f3 f4 f5
  obtain ⟨f0, f1, f2, f3, f4, f5⟩ := HC.out _ H6.out
  have hc := decTR_any _ ls c a s p w6 (tab_below HV.out H6.out) HF.out
  unfold ChanV at hc
  go_wp2_with fail
  refine hc.mono ?_
  rintro e w7 ⟨a7, c7, rfl, ht, hb⟩
  have B6 := Lib.hid hb
  have H7 := Lib.hid (below_step9 H6.out hb)
  have DB := Lib.hid ht
  clear hb hc ht
  clear f0 f1 f2 f3 f4 f5
  have hc := freeTP_any _ ls w7 (tab_below HV.out H7.out) HF.out
  go_wp2_with fail
  refine hc.mono ?_
  rintro e w8 ⟨rfl, hb⟩
  have B7 := Lib.hid hb
  have H8 := Lib.hid (below_step9 H7.out hb)
  clear hb hc
  have hc := freeTR_any _ ls w8 (tab_below HV.out H8.out) HF.out
  go_wp2_with fail
  refine hc.mono ?_
  rintro e w9 ⟨rfl, hb⟩
  have B8 := Lib.hid hb
  have H9 := Lib.hid (below_step9 H8.out hb)
  clear hb hc
  have hc := mayTP_any _ ls w9 (tab_below HV.out H9.out) HF.out
  go_wp2_with fail
  refine hc.mono ?_
  rintro e w10 ⟨rfl, hb⟩
  have B9 := Lib.hid hb
  have H10 := Lib.hid (below_step9 H9.out hb)
  clear hb hc
  have hc := mayTR_any _ ls w10 (tab_below HV.out H10.out) HF.out
  go_wp2_with fail
  refine hc.mono ?_
  rintro e w11 ⟨rfl, hb⟩
  have B10 := Lib.hid hb
  have H11 := Lib.hid (below_step9 H10.out hb)
  clear hb hc
  have hc := sameT_any _ _ (takeTR ls n nt).1 w11 (tab_below TA.out (below_step9 (below_step9 (below_step9 (below_step9 (below_step9 (below_step9 (below_step9 (below_step9 B2.out B3.out) B4.out) B5.out) B6.out) B7.out) B8.out) B9.out) B10.out)) (tab_below TB.out (below_step9 (below_step9 (below_step9 (below_step9 (below_step9 (below_step9 (below_step9 B3.out B4.out) B5.out) B6.out) B7.out) B8.out) B9.out) B10.out)) FT.out
  go_wp2_with fail
  refine hc.mono ?_
  rintro e w12 ⟨rfl, hb⟩
  have B11 := Lib.hid hb
  have H12 := Lib.hid (below_step9 H11.out hb)
  clear hb hc
  have hc := sameT_any _ _ (chanR ls c a s p 1) w12 (tab_below IA.out (below_step9 (below_step9 (below_step9 (below_step9 (below_step9 (below_step9 (below_step9 B4.out B5.out) B6.out) B7.out) B8.out) B9.out) B10.out) B11.out)) (tab_below IB.out (below_step9 (below_step9 (below_step9 (below_step9 (below_step9 (below_step9 B5.out B6.out) B7.out) B8.out) B9.out) B10.out) B11.out)) FI.out
  go_wp2_with fail
  refine hc.mono ?_
  rintro e w13 ⟨rfl, hb⟩
  have B12 := Lib.hid hb
  have H13 := Lib.hid (below_step9 H12.out hb)
  clear hb hc
  have hc := sameT_any _ _ (chanR ls c a s p (-1)) w13 (tab_below DA.out (below_step9 (below_step9 (below_step9 (below_step9 (below_step9 (below_step9 B6.out B7.out) B8.out) B9.out) B10.out) B11.out) B12.out)) (tab_below DB.out (below_step9 (below_step9 (below_step9 (below_step9 (below_step9 B7.out B8.out) B9.out) B10.out) B11.out) B12.out)) FD.out
  go_wp2_with fail
  refine hc.mono ?_
  rintro e w14 ⟨rfl, hb⟩
  have B13 := Lib.hid hb
  have H14 := Lib.hid (below_step9 H13.out hb)
  clear hb hc
  have hc := fixed17_any w14
  go_wp2_with fail
  refine hc.mono ?_
  rintro e w15 ⟨rfl, hb⟩
  have B14 := Lib.hid hb
  have H15 := Lib.hid (below_step9 H14.out hb)
  clear hb hc
  have hc := commitTP_any _ ls w15 (tab_below HV.out H15.out) HF.out
  go_wp2_with fail
  refine hc.mono ?_
  rintro e w16 ⟨a8, c8, rfl, ht, hb⟩
  have B15 := Lib.hid hb
  have H16 := Lib.hid (below_step9 H15.out hb)
  have CA := Lib.hid ht
  clear hb hc ht
  have hc := commitTR_any _ ls w16 (tab_below HV.out H16.out) HF.out
  go_wp2_with fail
  refine hc.mono ?_
  rintro e w17 ⟨a9, c9, rfl, ht, hb⟩
  have B16 := Lib.hid hb
  have H17 := Lib.hid (below_step9 H16.out hb)
  have CB := Lib.hid ht
  clear hb hc ht
  have hc := sameT_any _ _ (commitT ls) w17 (tab_below CA.out B16.out) CB.out FC.out
  go_wp2_with fail
  refine hc.mono ?_
  rintro e w18 ⟨rfl, hb⟩
  have B17 := Lib.hid hb
  have H18 := Lib.hid (below_step9 H17.out hb)
  clear hb hc
  have hc := brokenTP_any _ ls w18 (tab_below HV.out H18.out) HF.out h40
  go_wp2_with fail
  refine hc.mono ?_
  rintro e w19 ⟨r1, rfl, hr, hb⟩
  have B18 := Lib.hid hb
  have H19 := Lib.hid (below_step9 H18.out hb)
  have R1 := Lib.hid hr
  clear hb hc hr
  have hc := brokenTR_any _ ls w19 (tab_below HV.out H19.out) HF.out h40
  go_wp2_with fail
  refine hc.mono ?_
  rintro e w20 ⟨r2, rfl, hr, hb⟩
  have B19 := Lib.hid hb
  have H20 := Lib.hid (below_step9 H19.out hb)
  have R2 := Lib.hid hr
  clear hb hc hr
  have hc := sameF_any r1 r2 (broken_same R1.out R2.out) w20
  go_wp2_with fail
  refine hc.mono ?_
  rintro e wz ⟨rfl, rfl⟩
  clear hc
  go_wp2_with fail
  go_ret
  exact ⟨rfl, Hfin.out _ H20.out⟩
end Go.Proofs.Ytddbcpmhgjkjpaa
