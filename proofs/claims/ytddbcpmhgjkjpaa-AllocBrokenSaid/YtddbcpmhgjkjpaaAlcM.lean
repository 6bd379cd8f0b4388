/- The walk of AllocTwice. Conditions: numbers fit. -/
import Derived.Test.YtddbcpmhgjkjpaaAlcK
namespace Go.Proofs.Ytddbcpmhgjkjpaa
open Go.RowKit

theorem turnU_mem {l : List Us} {a b : Int} {u : Us} (h : u ∈ turnU l a b) : ∃ x ∈ l, u.1 = x.1 ∧ u.2.1 = x.2.1 := by
  unfold turnU at h
  split at h
  · unfold turnL at h
    obtain ⟨x, hx, rfl⟩ := List.mem_map.1 (List.mem_filter.1 h).1
    refine ⟨x, hx, ?_⟩
    unfold turn1
    split <;> exact ⟨rfl, rfl⟩
  · cases h
theorem turnU_len (l : List Us) (a b : Int) : (turnU l a b).length ≤ l.length := by
  unfold turnU
  split
  · unfold turnL
    refine Nat.le_trans (List.length_filter_le _ _) ?_
    rw [List.length_map]; exact Nat.le_refl _
  · simp
theorem chanOk_parts {ls : List (List Us)} {c a s : Int} {p : Bool} {b : Int} (h : chanOk ls c a s p b = true) : ∃ (k : Nat) (hk : k < ls.length), c = k ∧ mayT ls = true ∧ mayB c a s p = true ∧ noBad ls[k] a s = true ∧ turnOk ls[k] a b = true ∧ chanR ls c a s p b = ls.set k (turnU ls[k] a b) := by
  have h0 := h
  unfold chanOk at h
  simp only [Bool.and_eq_true, decide_eq_true_eq] at h
  obtain ⟨⟨⟨⟨h1, h2⟩, h3⟩, h4⟩, h5⟩ := h
  have hb := may_bd h2
  have hk : c.toNat < ls.length := by omega
  rw [List.getD_eq_getElem?_getD, List.getElem?_eq_getElem hk, Option.getD_some] at h4 h5
  refine ⟨c.toNat, hk, by omega, h1, h2, h4, h5, ?_⟩
  unfold chanR
  rw [if_pos h0, List.getD_eq_getElem?_getD, List.getElem?_eq_getElem hk, Option.getD_some]
theorem chanOk_mk {ls : List (List Us)} {a s : Int} {p : Bool} {b : Int} {k : Nat} (hk : k < ls.length) (h1 : mayT ls = true) (h2 : mayB k a s p = true) (h4 : noBad ls[k] a s = true) (h5 : turnOk ls[k] a b = true) : chanOk ls k a s p b = true := by
  unfold chanOk
  rw [Int.toNat_natCast, List.getD_eq_getElem?_getD, List.getElem?_eq_getElem hk, Option.getD_some, h1, h2, h4, h5]
  simpa using hk
theorem twice_yes {ls : List (List Us)} {c a s : Int} {p : Bool} (hf : FewT ls) (h : chanOk ls c a s p 1 = true) : ∃ (k : Nat) (hk : k < ls.length), c = k ∧ chanR ls c a s p 1 = ls.set k (turnU ls[k] a 1) ∧ FewT (ls.set k (turnU ls[k] a 1)) ∧
    chanOk (ls.set k (turnU ls[k] a 1)) c a s p (-1) = true ∧ chanR (ls.set k (turnU ls[k] a 1)) c a s p (-1) = ls ∧ countU (turnU ls[k] a 1) a = countU ls[k] a + 1 ∧ (turnU ls[k] a 1).length ≤ 100 ∧ ls[k].length ≤ 100 ∧ 0 ≤ countU ls[k] a ∧ countU ls[k] a ≤ 1000000 := by
  obtain ⟨k, hk, rfl, h1, h2, h3, h4, h5⟩ := chanOk_parts h
  obtain ⟨q1, q2⟩ := inc_dec h4
  have hmk := (mayT_iff.1 h1).1 _ (List.getElem_mem hk)
  have hl := hf.1 _ (List.getElem_mem hk)
  have hl2 := turnU_len ls[k] a 1
  have hkk : k < (ls.set k (turnU ls[k] a 1)).length := by simpa using hk
  have hnb : noBad (turnU ls[k] a 1) a s = true := by
    unfold noBad at h3 ⊢
    rw [List.all_eq_true] at h3 ⊢
    intro u hu
    obtain ⟨x, hx, e1, e2⟩ := turnU_mem hu
    rw [e1, e2]
    exact h3 x hx
  have hok : chanOk (ls.set k (turnU ls[k] a 1)) k a s p (-1) = true := by
    refine chanOk_mk hkk (mayT_set h1 (turn_may h4 (by omega))) h2 ?_ ?_
    · simpa using hnb
    · simpa using q1
  have hc := turn_count h4 (by omega) a
  rw [if_pos rfl] at hc
  have hrg := countU_rg hmk a
  refine ⟨k, hk, rfl, h5, few_set hf (by omega), hok, ?_, hc, by omega, hl, hrg.1, hrg.2⟩
  obtain ⟨k', hk', e, _, _, _, _, h6⟩ := chanOk_parts hok
  obtain rfl : k' = k := by omega
  rw [h6]
  simp [q2]
theorem findU_isSome {l : List Us} {a : Int} (h : countU l a ≠ 0) : ∃ (i : Nat) (hi : i < l.length), l[i].1 = a := by
  cases hf : findU l a with
  | none => exact absurd (countU_none hf) h
  | some i =>
    obtain ⟨hi, h1, _⟩ := findU_some.1 hf
    exact ⟨i, hi, h1⟩
theorem chan_has {ls : List (List Us)} {c a s : Int} {p : Bool} {b : Int} (h : chanOk ls c a s p b = true) : hasT ls c a s p = true := by
  obtain ⟨k, hk, rfl, h1, h2, h3, h4, h5⟩ := chanOk_parts h
  obtain ⟨t1, t2, t3⟩ := turnOk_parts h4
  obtain ⟨i, hi, hia⟩ := findU_isSome (l := ls[k]) (a := a) (by omega)
  unfold hasT
  rw [Int.toNat_natCast, List.getD_eq_getElem?_getD, List.getElem?_eq_getElem hk, Option.getD_some, h2]
  have hq : ls[k][i].2.1 = sectors s := by
    unfold noBad at h3
    rw [List.all_eq_true] at h3
    have := h3 _ (List.getElem_mem hi)
    simpa [hia] using this
  rw [hasL_yes hi hia hq]
  simpa using hk
theorem twice_no {ls : List (List Us)} {c a s : Int} {p : Bool} (hf : FewT ls) (h : chanOk ls c a s p 1 = false) (h' : chanOk ls c a s p (-1) = true) : ∃ (k : Nat) (hk : k < ls.length), c = k ∧ hasT ls c a s p = true ∧ countU ls[k] a = 1000000 ∧ ls[k].length ≤ 100 := by
  have hh := chan_has h'
  obtain ⟨k, hk, rfl, h1, h2, h3, h4, h5⟩ := chanOk_parts h'
  obtain ⟨t1, t2, t3⟩ := turnOk_parts h4
  refine ⟨k, hk, rfl, hh, ?_, hf.1 _ (List.getElem_mem hk)⟩
  have hrg := countU_rg t1 a
  by_cases hq : countU ls[k] a = 1000000
  · exact hq
  · exfalso
    have : turnOk ls[k] a 1 = true := by
      unfold turnOk
      rw [t1, decide_eq_true (show countU ls[k] a ≠ 0 by omega), decide_eq_true (show countU ls[k] a + 1 ≤ 1000000 by omega)]; rfl
    rw [chanOk_mk hk h1 h2 h3 this] at h
    cases h

set_option maxRecDepth 100000 in
set_option maxHeartbeats 16000000 in
theorem atwice_walk (v : Value) (ls : List (List Us)) (c a s : Int) (p : Bool) (w : World) (hv : TabV w v ls) (hl : ls.length ≤ 140737488355328) (hli : ∀ l ∈ ls, l.length ≤ maxLen) :
    Calls Try.prog 11 #[v, .agg #[.int .i64 c, .int .i64 a, .int .i64 s, .bool p]] w fun e w' => e = .returned (.bool true) ∧ Below w.heap.size w w' := by
  obtain ⟨W1, hW, e0, e1, e2, e3, hs1, hb0⟩ := boxed4 w (.int .i64 c) (.int .i64 a) (.int .i64 s) (.bool p) 53
  have hfx := fun wx => fixed17_any wx
  have hsm : ∀ w1, Below W1.heap.size W1 w1 → _ := fun w1 hb => small_any v ls w1 (tab_below (tab_below hv hb0) hb) hl hli
  have HV := Lib.hid (tab_below hv hb0)
  have Hs1 := Lib.hid hs1
  have HC : Hid (∀ w', Below W1.heap.size W1 w' → w'.cell? ⟨w.heap.size, 0, none⟩ = some (.int .i64 c) ∧ w'.cell? ⟨w.heap.size, 1, none⟩ = some (.int .i64 a) ∧ w'.cell? ⟨w.heap.size, 2, none⟩ = some (.int .i64 s) ∧ w'.cell? ⟨w.heap.size, 3, none⟩ = some (.bool p) ∧ w.heap.size < w'.heap.size) :=
    fun w' hb => ⟨(hb.cell (p := ⟨w.heap.size, 0, none⟩) hs1).trans e0, (hb.cell (p := ⟨w.heap.size, 1, none⟩) hs1).trans e1, (hb.cell (p := ⟨w.heap.size, 2, none⟩) hs1).trans e2, (hb.cell (p := ⟨w.heap.size, 3, none⟩) hs1).trans e3, Nat.lt_of_lt_of_le hs1 hb.size⟩
  have hfin : ∀ w', Below W1.heap.size W1 w' → Below w.heap.size w w' := fun w' hb => hb0.trans (hb.mono (Nat.le_of_lt hs1))
  have Hfin := Lib.hid hfin
  obtain ⟨aX, cX, rfl, hnX, _⟩ := tab_shape hv
  clear hv hnX hb0 hs1 e0 e1 e2 e3 hfin
  cases hs : smallT ls with
  | false =>
    rw [hs] at hsm
    clear hs
    go_enter Try.func11, Try.ntmps11
    go_wp2_with fail
    refine (hfx _).mono ?_
    rintro e w1 ⟨rfl, hb1⟩
    have H1 := Lib.hid hb1
    have hsm1 := hsm w1 hb1
    clear hb1 hsm
    go_wp2_with fail
    refine hsm1.mono ?_
    rintro e w2 ⟨rfl, hb2⟩
    have H2 := Lib.hid (below_step9 H1.out hb2)
    clear hb2 hsm1
    go_wp2_with fail
    refine (hfx _).mono ?_
    rintro e wz ⟨rfl, hbz⟩
    have Hz := Lib.hid (below_step9 H2.out hbz)
    clear hbz hfx
    go_wp2_with fail
    go_ret
    exact ⟨rfl, Hfin.out _ Hz.out⟩
  | true =>
  have few := few_small hs
  rw [hs] at hsm
  have hmy : ∀ w1, Below W1.heap.size W1 w1 → _ := fun w1 hb => mayTR_any _ ls w1 (tab_below HV.out hb) few
  clear hs
  cases hm : mayT ls with
  | false =>
    rw [hm] at hmy
    clear hm
    go_enter Try.func11, Try.ntmps11
    go_wp2_with fail
    refine (hfx _).mono ?_
    rintro e w1 ⟨rfl, hb1⟩
    have H1 := Lib.hid hb1
    have hsm1 := hsm w1 hb1
    clear hb1 hsm
    go_wp2_with fail
    refine hsm1.mono ?_
    rintro e w2 ⟨rfl, hb2⟩
    have H2 := Lib.hid (below_step9 H1.out hb2)
    clear hb2 hsm1
    have hmy1 := hmy w2 H2.out
    clear hmy
    go_wp2_with fail
    refine hmy1.mono ?_
    rintro e w3 ⟨rfl, hb3⟩
    have H3 := Lib.hid (below_step9 H2.out hb3)
    clear hb3 hmy1
    go_wp2_with fail
    refine (hfx _).mono ?_
    rintro e wz ⟨rfl, hbz⟩
    have Hz := Lib.hid (below_step9 H3.out hbz)
    clear hbz hfx
    go_wp2_with fail
    go_ret
    exact ⟨rfl, Hfin.out _ Hz.out⟩
  | true =>
  rw [hm] at hmy
  clear hm
  have Hfew := Lib.hid few
  have hin : ∀ w1, Below W1.heap.size W1 w1 → _ := fun w1 hb => incT_any _ ls c a s p w1 (tab_below HV.out hb) few
  unfold ChanV at hin
  cases hok : chanOk ls c a s p 1 with
  | false =>
    have hde : ∀ w1, Below W1.heap.size W1 w1 → _ := fun w1 hb => decT_any _ ls c a s p w1 (tab_below HV.out hb) few
    unfold ChanV at hde
    rw [hok, (chan_no hok).1] at hin
    rw [show ([] : List (List Us)).length = 0 from rfl] at hin
    cases hok2 : chanOk ls c a s p (-1) with
    | false =>
      rw [hok2] at hde
      clear hok hok2 few
      go_enter Try.func11, Try.ntmps11
      go_wp2_with fail
      refine (hfx _).mono ?_
      rintro e w1 ⟨rfl, hb1⟩
      have H1 := Lib.hid hb1
      have hsm1 := hsm w1 hb1
      clear hb1 hsm
      go_wp2_with fail
      refine hsm1.mono ?_
      rintro e w2 ⟨rfl, hb2⟩
      have H2 := Lib.hid (below_step9 H1.out hb2)
      clear hb2 hsm1
      have hmy1 := hmy w2 H2.out
      clear hmy
      go_wp2_with fail
      refine hmy1.mono ?_
      rintro e w3 ⟨rfl, hb3⟩
      have H3 := Lib.hid (below_step9 H2.out hb3)
      clear hb3 hmy1
      obtain ⟨f0, f1, f2, f3, fs⟩ := HC.out _ H3.out
      have hc := hin w3 H3.out
      clear hin
      go_wp2_with fail
      refine hc.mono ?_
      rintro e w4 ⟨a4, c4, rfl, _, hb4⟩
      have H4 := Lib.hid (below_step9 H3.out hb4)
      clear hb4 hc f0 f1 f2 f3 fs
      obtain ⟨g0, g1, g2, g3, gs⟩ := HC.out _ H4.out
      have hc := hde w4 H4.out
      clear hde
      go_wp2_with fail
      refine hc.mono ?_
      rintro e w5 ⟨a5, c5, rfl, _, hb5⟩
      have H5 := Lib.hid (below_step9 H4.out hb5)
      clear hb5 hc g0 g1 g2 g3 gs
      go_wp2_with fail
      go_quiet (fail)
      go_wp2_with fail
      go_ret
      exact ⟨rfl, Hfin.out _ (below_drewN9 H5.out _)⟩
    | true =>
      rw [hok2] at hde
      obtain ⟨k, hk, rfl, hha, hct, hlk⟩ := twice_no few hok hok2
      have HA := Lib.hid hha
      have HCT := Lib.hid hct
      have g1k : (k : Int) < (ls.length : Int) := by omega
      have g2k : (0 : Int) ≤ (k : Int) := by omega
      clear hok hok2 few hha hct
      go_enter Try.func11, Try.ntmps11
      go_wp2_with fail
      refine (hfx _).mono ?_
      rintro e w1 ⟨rfl, hb1⟩
      have H1 := Lib.hid hb1
      have hsm1 := hsm w1 hb1
      clear hb1 hsm
      go_wp2_with fail
      refine hsm1.mono ?_
      rintro e w2 ⟨rfl, hb2⟩
      have H2 := Lib.hid (below_step9 H1.out hb2)
      clear hb2 hsm1
      have hmy1 := hmy w2 H2.out
      clear hmy
      go_wp2_with fail
      refine hmy1.mono ?_
      rintro e w3 ⟨rfl, hb3⟩
      have H3 := Lib.hid (below_step9 H2.out hb3)
      clear hb3 hmy1
      obtain ⟨f0, f1, f2, f3, fs⟩ := HC.out _ H3.out
      have hc := hin w3 H3.out
      clear hin
      go_wp2_with fail
      refine hc.mono ?_
      rintro e w4 ⟨a4, c4, rfl, _, hb4⟩
      have H4 := Lib.hid (below_step9 H3.out hb4)
      clear hb4 hc f0 f1 f2 f3 fs
      obtain ⟨g0, g1, g2, g3, gs⟩ := HC.out _ H4.out
      have hc := hde w4 H4.out
      clear hde
      go_wp2_with fail
      refine hc.mono ?_
      rintro e w5 ⟨a5, c5, rfl, _, hb5⟩
      have H5 := Lib.hid (below_step9 H4.out hb5)
      clear hb5 hc g0 g1 g2 g3 gs
      obtain ⟨f0, f1, f2, f3, fs⟩ := HC.out _ H5.out
      obtain ⟨b', off, au, cu, hveq, hblt, hcell, hu⟩ := tab_at (tab_below HV.out H5.out) hk
      subst hveq
      have hhas : ∀ wx, Held w5 wx → Calls Try.prog 43 #[.slice (some ⟨b', off, none⟩) ls.length cX, .agg #[.int .i64 (k : Int), .int .i64 a, .int .i64 s, .bool p]] wx fun e w' => e = .returned (.bool true) ∧ Below wx.heap.size wx w' := fun wx hx => by
        have h := hasT_any _ ls k a s p wx (tab_below (tab_below HV.out H5.out) hx.2) Hfew.out
        rw [HA.out] at h; exact h
      have hcnt : ∀ wx, Held w5 wx → Calls Try.prog 27 #[.slice au ls[k].length cu, .int .i64 a] wx fun e w' => e = .returned (.int .i64 1000000) ∧ wx = w' := fun wx hx => by
        have h := countR_any _ ls[k] a wx (sl_below hu hx.2) (by omega)
        rw [HCT.out] at h; exact h
      clear hu
      generalize ls[k].length = xn at *
      go_wp2_with fail
      go_region_held3 (Held w5) (first | exact held_start | exact held_call (by assumption) (by first | assumption | exact held_start)) (first | (go_at_call 43; refine (hhas _ (by first | assumption | exact held_start)).mono ?_; rintro e w' ⟨rfl, hb⟩) | (go_at_call 27; refine (hcnt _ (by first | assumption | exact held_start)).mono ?_; rintro e w' ⟨rfl, rfl⟩))
      have hh : Held w5 w' := by assumption
      have H6 := Lib.hid (below_step9 H5.out hh.2)
      clear hh
      go_wp2_with fail
      go_ret
      exact ⟨rfl, Hfin.out _ H6.out⟩
  | true =>
    obtain ⟨k, hk, rfl, r1, r2, r3, r4, r5, r6, r7, r8, r9⟩ := twice_yes few hok
    rw [hok, r1] at hin
    have R2 := Lib.hid r2
    have R3 := Lib.hid r3
    have R4 := Lib.hid r4
    have R5 := Lib.hid r5
    have hkd : k < (ls.set k (turnU ls[k] a 1)).length := by simpa using hk
    have HG : Hid ((ls.set k (turnU ls[k] a 1))[k] = turnU ls[k] a 1) := by unfold Hid; simp
    have HL : Hid ((ls.set k (turnU ls[k] a 1)).length = ls.length) := by unfold Hid; simp
    have g1k : (k : Int) < (ls.length : Int) := by omega
    have g2k : (0 : Int) ≤ (k : Int) := by omega
    have b3 : decide ((k : Int) < 0) = false := by simp
    have b4 : decide ((ls.length : Int) ≤ (k : Int)) = false := by simp; omega
    have b4n : decide (ls.length ≤ k) = false := by simp; omega
    have x1 : IntKind.i64.wrap (countU ls[k] a + 1) = countU ls[k] a + 1 := IntWalk.i64_in _ (by omega)
    clear hok few r1 r2 r3 r4 r5
    generalize ls.set k (turnU ls[k] a 1) = ds at *
    generalize turnU ls[k] a 1 = l2 at *
    rw [HL.out] at hin
    go_enter Try.func11, Try.ntmps11
    go_wp2_with fail
    refine (hfx _).mono ?_
    rintro e w1 ⟨rfl, hb1⟩
    have H1 := Lib.hid hb1
    have hsm1 := hsm w1 hb1
    clear hb1 hsm
    go_wp2_with fail
    refine hsm1.mono ?_
    rintro e w2 ⟨rfl, hb2⟩
    have H2 := Lib.hid (below_step9 H1.out hb2)
    clear hb2 hsm1
    have hmy1 := hmy w2 H2.out
    clear hmy
    go_wp2_with fail
    refine hmy1.mono ?_
    rintro e w3 ⟨rfl, hb3⟩
    have H3 := Lib.hid (below_step9 H2.out hb3)
    clear hb3 hmy1
    obtain ⟨f0, f1, f2, f3, fs⟩ := HC.out _ H3.out
    have hc := hin w3 H3.out
    clear hin
    go_wp2_with fail
    refine hc.mono ?_
    rintro e w4 ⟨a4, c4, rfl, ht4, hb4⟩
    have H4 := Lib.hid (below_step9 H3.out hb4)
    have T4 := Lib.hid ht4
    clear hb4 hc ht4 f0 f1 f2 f3 fs
    obtain ⟨g0, g1, g2, g3, gs⟩ := HC.out _ H4.out
    have hc := decT_any _ ds k a s p w4 T4.out R2.out
    unfold ChanV at hc
    rw [R3.out, R4.out] at hc
    go_wp2_with fail
    refine hc.mono ?_
    rintro e w5 ⟨a5, c5, rfl, ht5, hb5⟩
    have H5 := Lib.hid (below_step9 H4.out hb5)
    have T5 := Lib.hid (tab_below T4.out hb5)
    have U5 := Lib.hid ht5
    clear hb5 hc g0 g1 g2 g3 gs ht5 T4
    obtain ⟨f0, f1, f2, f3, fs⟩ := HC.out _ H5.out
    obtain ⟨b', off, au, cu, hveq, hblt, hcell, hu⟩ := tab_at (tab_below HV.out H5.out) hk
    subst hveq
    obtain ⟨bd, offd, ad, cd, hveq, hbltd, hcelld, hud⟩ := tab_at T5.out hkd
    subst hveq
    rw [HG.out] at hcelld hud
    have hsame : ∀ wx, Held w5 wx → Calls Try.prog 42 #[.slice a5 ls.length c5, .slice (some ⟨b', off, none⟩) ls.length cX] wx fun e w' => e = .returned (.bool true) ∧ Below wx.heap.size wx w' := fun wx hx =>
      sameT_any _ _ ls wx (tab_below U5.out hx.2) (tab_below (tab_below HV.out H5.out) hx.2) Hfew.out
    have hcnt1 : ∀ wx, Held w5 wx → Calls Try.prog 27 #[.slice ad l2.length cd, .int .i64 a] wx fun e w' => e = .returned (.int .i64 (countU ls[k] a + 1)) ∧ wx = w' := fun wx hx => by
      have h := countR_any _ l2 a wx (sl_below hud hx.2) (by omega)
      rw [R5.out] at h; exact h
    have hcnt2 : ∀ wx, Held w5 wx → Calls Try.prog 27 #[.slice au ls[k].length cu, .int .i64 a] wx fun e w' => e = .returned (.int .i64 (countU ls[k] a)) ∧ wx = w' := fun wx hx =>
      countR_any _ ls[k] a wx (sl_below hu hx.2) (by omega)
    clear hu hud
    generalize countU ls[k] a = cn at *
    generalize ls[k].length = xn at *
    generalize l2.length = yn at *
    go_wp2_with fail
    go_region_held3 (Held w5) (first | exact held_start | exact held_call (by assumption) (by first | assumption | exact held_start)) (first | (go_at_call 42; refine (hsame _ (by first | assumption | exact held_start)).mono ?_; rintro e w' ⟨rfl, hb⟩) | (go_at_call 27; ((with_reducible refine (hcnt1 _ (by first | assumption | exact held_start)).mono ?_); rintro e w' ⟨rfl, rfl⟩)) | (go_at_call 27; refine (hcnt2 _ (by first | assumption | exact held_start)).mono ?_; rintro e w' ⟨rfl, rfl⟩))
    have hh : Held w5 w' := by assumption
    have H6 := Lib.hid (below_step9 H5.out hh.2)
    clear hh
    go_wp2_with fail
    go_ret
    exact ⟨rfl, Hfin.out _ H6.out⟩
end Go.Proofs.Ytddbcpmhgjkjpaa
