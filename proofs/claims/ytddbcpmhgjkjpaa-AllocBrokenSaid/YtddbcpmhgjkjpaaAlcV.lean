/- The walk of AllocBroken. Conditions: numbers fit. -/
import Derived.Test.YtddbcpmhgjkjpaaAlcU
import Derived.Test.YtddbcpmhgjkjpaaAlcN
namespace Go.Proofs.Ytddbcpmhgjkjpaa
open Go.RowKit

theorem long_pos {l : List Us} (h : 1 ≤ freeN l) : 1 ≤ longN l := by
  unfold freeN freeP at h
  unfold longN
  rw [long_iff _ (Nat.le_refl 1)]
  obtain ⟨x, hx⟩ := List.exists_mem_of_length_pos h
  obtain ⟨hx1, hx2⟩ := List.mem_filter.1 hx
  obtain ⟨q, hq, rfl⟩ := List.getElem_of_mem hx1
  refine ⟨q, fits_iff.2 ⟨by omega, fun i hi => ?_⟩⟩
  obtain rfl : i = 0 := by omega
  rw [Nat.add_zero, List.getD_eq_getElem?_getD, List.getElem?_eq_getElem hq]
  simpa using hx2
theorem sum_pos {ls : List (List Us)} (h : (ls.map freeN).sum ≠ 0) : 1 ≤ (ls.map longN).sum := by
  induction ls with
  | nil => simp at h
  | cons l ls ih =>
    simp only [List.map_cons, List.sum_cons] at h ⊢
    by_cases hl : 1 ≤ freeN l
    · have := long_pos hl; omega
    · have := ih (by omega); omega
def togB (l : List Us) : Bool := (longN l : Int) == (freeN l : Int)
theorem tog_iff (ls : List (List Us)) : ls.all togB = decide ((ls.map longN).sum = (ls.map freeN).sum) := by
  induction ls with
  | nil => rfl
  | cons l ls ih =>
    have h1 : longN l ≤ freeN l := long_free _
    have h2 := long_le_sum ls
    rw [List.all_cons, ih]
    simp only [List.map_cons, List.sum_cons, togB]
    by_cases h3 : longN l = freeN l
    · rw [h3, show ((freeN l : Int) == (freeN l : Int)) = true from by simp, Bool.true_and]
      exact decide_eq_decide.2 (by omega)
    · rw [show ((longN l : Int) == (freeN l : Int)) = false from by simp; omega, Bool.false_and]
      exact (decide_eq_false (by omega)).symm
theorem or6 : FloatKind.f64.format.order 0 4607182418800017408 = some .lt := by kernel_rfl
theorem broken_law {ls : List (List Us)} {r : Nat} (hm : mayT ls = true) (h40 : ls.length ≤ 40) (h : BrokenV ls r) :
    (freeTn ls = 0 ∧ FloatKind.f64.format.order r r = none) ∨ (freeTn ls ≠ 0 ∧ ls.all togB = true ∧ FloatKind.f64.format.order r 0 = some .eq ∧ FloatKind.f64.format.order r 4607182418800017408 = some .lt) ∨
    (freeTn ls ≠ 0 ∧ ls.all togB = false ∧ FloatKind.f64.format.order r 0 = some .gt ∧ FloatKind.f64.format.order r 4607182418800017408 = some .lt) := by
  have hF : freeTn ls = (ls.map freeN).sum := by unfold freeTn; rw [if_pos hm]
  rw [hF, tog_iff]
  have n2 := sum_bound freeN freeN_le ls
  have n3 := long_le_sum ls
  rcases h with ⟨h1, _⟩ | ⟨_, h2, h3⟩ | ⟨_, h2, h3, h4⟩
  · rw [hm] at h1; cases h1
  · exact Or.inl ⟨h2, nan_order h3 r⟩
  · right
    rcases brk_law (sum_pos h2) n3 (by omega) h4 with ⟨e, rfl⟩ | ⟨e, o1, o2⟩
    · exact Or.inl ⟨h2, decide_eq_true e, or1, or6⟩
    · exact Or.inr ⟨h2, decide_eq_false (by omega), o1, o2⟩

set_option maxRecDepth 100000 in
set_option maxHeartbeats 16000000 in
theorem abroken_walk (v : Value) (ls : List (List Us)) (w : World) (hv : TabV w v ls) (hl : ls.length ≤ 140737488355328) (hli : ∀ l ∈ ls, l.length ≤ maxLen) :
    Calls Try.prog 10 #[v] w fun e w' => e = .returned (.bool true) ∧ Below w.heap.size w w' := by
  have hfx := fun wx => fixed17_any wx
  have hsm : ∀ w1, Below w.heap.size w w1 → _ := fun w1 hb => small_any v ls w1 (tab_below hv hb) hl hli
  have HV := Lib.hid hv
  obtain ⟨aX, cX, rfl, hnX, _⟩ := tab_shape hv
  clear hv hnX
  cases hs : smallT ls with
  | false =>
    rw [hs] at hsm
    clear hs
    go_enter Try.func10, Try.ntmps10
    go_wp2_with fail
    refine (hfx _).mono ?_
    rintro e w1 ⟨rfl, hb1⟩
    have H1 := Lib.hid hb1
    have hsm1 := hsm w1 hb1
    clear hb1 hsm
    go_wp2_with fail
    refine hsm1.mono ?_
    rintro e w2 ⟨rfl, hb2⟩
    have H2 := Lib.hid (below_step9 H1.out hb2)
    clear hb2 hsm1
    go_wp2_with fail
    refine (hfx _).mono ?_
    rintro e w3 ⟨rfl, hb3⟩
    have H3 := Lib.hid (below_step9 H2.out hb3)
    clear hb3 hfx
    go_wp2_with fail
    go_ret
    exact ⟨rfl, H3.out⟩
  | true =>
  have few := few_small hs
  have h40 := (smallT_iff.1 hs).2
  rw [hs] at hsm
  have hmy : ∀ w1, Below w.heap.size w w1 → _ := fun w1 hb => mayTR_any _ ls w1 (tab_below HV.out hb) few
  clear hs
  cases hm : mayT ls with
  | false =>
    rw [hm] at hmy
    clear hm
    go_enter Try.func10, Try.ntmps10
    go_wp2_with fail
    refine (hfx _).mono ?_
    rintro e w1 ⟨rfl, hb1⟩
    have H1 := Lib.hid hb1
    have hsm1 := hsm w1 hb1
    clear hb1 hsm
    go_wp2_with fail
    refine hsm1.mono ?_
    rintro e w2 ⟨rfl, hb2⟩
    have H2 := Lib.hid (below_step9 H1.out hb2)
    have hmy1 := hmy w2 H2.out
    clear hb2 hsm1 hmy
    go_wp2_with fail
    refine hmy1.mono ?_
    rintro e w3 ⟨rfl, hb3⟩
    have H3 := Lib.hid (below_step9 H2.out hb3)
    clear hb3 hmy1
    go_wp2_with fail
    refine (hfx _).mono ?_
    rintro e w4 ⟨rfl, hb4⟩
    have H4 := Lib.hid (below_step9 H3.out hb4)
    clear hb4 hfx
    go_wp2_with fail
    go_ret
    exact ⟨rfl, H4.out⟩
  | true =>
  have HM := Lib.hid hm
  rw [hm] at hmy
  clear hm
  go_enter Try.func10, Try.ntmps10
  go_wp2_with fail
  refine (hfx _).mono ?_
  rintro e w1 ⟨rfl, hb1⟩
  have H1 := Lib.hid hb1
  have hsm1 := hsm w1 hb1
  clear hb1 hsm hfx
  go_wp2_with fail
  refine hsm1.mono ?_
  rintro e w2 ⟨rfl, hb2⟩
  have H2 := Lib.hid (below_step9 H1.out hb2)
  have hmy1 := hmy w2 H2.out
  clear hb2 hsm1 hmy
  go_wp2_with fail
  refine hmy1.mono ?_
  rintro e w3 ⟨rfl, hb3⟩
  have H3 := Lib.hid (below_step9 H2.out hb3)
  have hc := brokenTP_any _ ls w3 (tab_below HV.out H3.out) few h40
  clear hb3 hmy1
  go_wp2_with fail
  refine hc.mono ?_
  rintro e w4 ⟨r, rfl, hbr, hb4⟩
  have H4 := Lib.hid (below_step9 H3.out hb4)
  have hc2 := freeTP_any _ ls w4 (tab_below HV.out H4.out) few
  have HLaw := Lib.hid (broken_law HM.out h40 hbr)
  clear hb4 hc hbr
  go_wp2_with fail
  refine hc2.mono ?_
  rintro e w5 ⟨rfl, hb5⟩
  have H5 := Lib.hid (below_step9 H4.out hb5)
  clear hb5 hc2
  have Hf1 := Lib.hid few.1
  clear few
  by_cases hz : freeTn ls = 0
  · have HN : Hid (FloatKind.f64.format.order r r = none) := by
      rcases HLaw.out with ⟨_, h⟩ | ⟨h, _⟩ | ⟨h, _⟩
      · exact h
      · exact absurd hz h
      · exact absurd hz h
    have hno := HN.out
    rw [hz]
    clear HLaw hz
    go_wp2_with fail
    go_ret
    exact ⟨rfl, H5.out⟩
  · have HL2 : Hid (FloatKind.f64.format.order r 4607182418800017408 = some .lt ∧ ((ls.all togB = true ∧ FloatKind.f64.format.order r 0 = some .eq) ∨ (ls.all togB = false ∧ FloatKind.f64.format.order r 0 = some .gt))) := by
      rcases HLaw.out with ⟨h, _⟩ | ⟨_, h1, h2, h3⟩ | ⟨_, h1, h2, h3⟩
      · exact absurd h hz
      · exact ⟨h3, Or.inl ⟨h1, h2⟩⟩
      · exact ⟨h3, Or.inr ⟨h1, h2⟩⟩
    have bz : ((freeTn ls : Int) == 0) = false := by simp; omega
    clear HLaw hz
    go_wp2_with fail
    go_loopw [6, 7] (fun t i wr => ∃ k : Nat, k ≤ ls.length ∧ i = .int .i64 k ∧ t = .bool ((ls.take k).all togB) ∧ Below w.heap.size w wr) (fun _ i _ => ls.length - (intOf i).toNat)
    case atStart => exact ⟨0, Nat.zero_le _, rfl, by simp, H5.out⟩
    case round =>
      obtain ⟨k, hk, rfl, rfl, hb⟩ := hrel
      have Hb := Lib.hid hb
      clear hb
      by_cases hlt : k < ls.length
      · have g0 : (k : Int) < (ls.length : Int) := by omega
        have g1 : (0 : Int) ≤ (k : Int) := by omega
        have HA := Lib.hid (take_all (p := togB) hlt)
        have HT : Hid (togB ls[k] = ((longN ls[k] : Int) == (freeN ls[k] : Int))) := rfl
        generalize (ls.take k).all togB = t at *
        obtain ⟨b, off, au, cu, hveq, hblt, hcell, hu⟩ := tab_at (tab_below HV.out Hb.out) hlt
        subst hveq
        have hmx := Hf1.out _ (List.getElem_mem hlt)
        have hc := usedR_any _ _ wr hu (by omega)
        have Hus16 := Lib.hid (used_len ls[k])
        have HFN : Hid (longP (usedU ls[k]) = longN ls[k]) := rfl
        have HFF : Hid (freeP (usedU ls[k]) = freeN ls[k]) := rfl
        clear hu
        go_wp2_with fail
        refine hc.mono ?_
        rintro e w6 ⟨a1, c1, rfl, hs1, hb1⟩
        have HB1 := Lib.hid (below_step9 Hb.out hb1)
        have hd := rlong_any _ _ w6 hs1 (by have := Hus16.out; omega)
        have hd2 := rfree_any _ _ w6 hs1 (by have := Hus16.out; omega)
        rw [HFN.out] at hd
        rw [HFF.out] at hd2
        clear hs1 hb1 hc
        obtain ⟨y, hy⟩ : ∃ y, y = ((longN ls[k] : Int) == (freeN ls[k] : Int)) := ⟨_, rfl⟩
        rw [← hy] at HT
        rw [HT.out] at HA
        clear HT
        generalize longN ls[k] = fn at *
        generalize freeN ls[k] = fm at *
        cases t with
        | false =>
          have HA2 : Hid ((ls.take (k + 1)).all togB = false) := by unfold Hid; rw [HA.out]; rfl
          clear HA hd hd2 hy
          go_wp2_with fail
          exact ⟨⟨k + 1, by omega, by go_num, by rw [HA2.out], HB1.out⟩, by simp [intOf]; omega⟩
        | true =>
          have HA2 : Hid ((ls.take (k + 1)).all togB = y) := by unfold Hid; rw [HA.out]; rfl
          have HY := Lib.hid hy
          clear HA hy
          go_wp2_with fail
          refine hd.mono ?_
          rintro e w7 ⟨rfl, rfl⟩
          go_wp2_with fail
          refine hd2.mono ?_
          rintro e w8 ⟨rfl, rfl⟩
          clear hd hd2
          go_wp2_with fail
          exact ⟨⟨k + 1, by omega, by go_num, by rw [HA2.out, HY.out], HB1.out⟩, by simp [intOf]; omega⟩
      · obtain rfl : k = ls.length := by omega
        rw [List.take_length]
        have hlt1 := HL2.out.1
        rcases HL2.out.2 with ⟨ht, ho⟩ | ⟨ht, ho⟩
        · rw [ht]
          clear ht HL2
          go_wp2_with fail
          go_ret
          exact ⟨rfl, Hb.out⟩
        · rw [ht]
          clear ht HL2
          go_wp2_with fail
          go_ret
          exact ⟨rfl, Hb.out⟩
end Go.Proofs.Ytddbcpmhgjkjpaa
