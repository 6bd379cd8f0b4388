/- The walk of AllocCommit. Conditions: numbers fit. -/
import Derived.Test.YtddbcpmhgjkjpaaAlcI
namespace Go.Proofs.Ytddbcpmhgjkjpaa
open Go.RowKit

theorem few_small {ls : List (List Us)} (h : smallT ls = true) : FewT ls := by
  obtain ⟨h1, h2⟩ := smallT_iff.1 h
  exact ⟨fun l hl => by have := h1 l hl; omega, by omega⟩
theorem commitT_eq {ls : List (List Us)} (h : mayT ls = true) : commitT ls = ls.map commitU := by unfold commitT; rw [h]; rfl
theorem commitT_may {ls : List (List Us)} (h : mayT ls = true) : mayT (ls.map commitU) = true := by
  obtain ⟨h1, h2, h3⟩ := mayT_iff.1 h
  refine mayT_iff.2 ⟨fun l hl => ?_, by simpa using h2, by simpa using h3⟩
  obtain ⟨x, hx, rfl⟩ := List.mem_map.1 hl
  unfold commitU
  rw [if_pos (h1 x hx)]
  exact commit_may (h1 x hx)
theorem commitT_few {ls : List (List Us)} (h : FewT ls) : FewT (ls.map commitU) := by
  refine ⟨fun l hl => ?_, by simpa using h.2⟩
  obtain ⟨x, hx, rfl⟩ := List.mem_map.1 hl
  have := h.1 x hx
  unfold commitU
  split
  · have := commitL_le x; omega
  · simp
theorem commitT_twice {ls : List (List Us)} (h : mayT ls = true) : commitT (ls.map commitU) = ls.map commitU := by
  rw [commitT_eq (commitT_may h), List.map_map]
  refine List.map_congr_left fun l hl => ?_
  have hm := (mayT_iff.1 h).1 l hl
  show commitU (commitU l) = commitU l
  unfold commitU
  rw [if_pos hm, if_pos (commit_may hm), commit_twice]
theorem sum_mono {f g : List Us → Nat} {ls : List (List Us)} (h : ∀ l ∈ ls, f l ≤ g l) : (ls.map f).sum ≤ (ls.map g).sum := by
  induction ls with
  | nil => simp
  | cons l ls ih =>
    have h1 := h l (List.mem_cons_self ..)
    have h2 := ih fun x hx => h x (List.mem_cons_of_mem _ hx)
    simp only [List.map_cons, List.sum_cons]; omega
theorem commit_more {ls : List (List Us)} (h : mayT ls = true) : freeTn ls ≤ freeTn (ls.map commitU) ∧ wholeTn ls ≤ wholeTn (ls.map commitU) := by
  unfold freeTn wholeTn
  rw [if_pos h, if_pos (commitT_may h), if_pos h, if_pos (commitT_may h)]
  refine ⟨?_, ?_⟩
  · rw [List.map_map]
    refine sum_mono fun l hl => ?_
    have hm := (mayT_iff.1 h).1 l hl
    show freeN l ≤ freeN (commitU l)
    unfold freeN commitU
    rw [if_pos hm]
    unfold usedU
    rw [if_pos hm, if_pos (commit_may hm)]
    exact free_commit l
  · unfold wholeN
    rw [List.countP_map]
    refine List.countP_mono_left fun l hl h0 => ?_
    have hm := (mayT_iff.1 h).1 l hl
    have h1 : l = [] := by simpa using h0
    subst h1; rfl

set_option maxRecDepth 100000 in
set_option maxHeartbeats 8000000 in
theorem acommit_walk (v : Value) (ls : List (List Us)) (w : World) (hv : TabV w v ls) (hl : ls.length ≤ 140737488355328) (hli : ∀ l ∈ ls, l.length ≤ maxLen) :
    Calls Try.prog 13 #[v] w fun e w' => e = .returned (.bool true) ∧ Below w.heap.size w w' := by
  have hfx := fun wx => fixed17_any wx
  have hsm : ∀ w1, Below w.heap.size w w1 → _ := fun w1 hb => small_any v ls w1 (tab_below hv hb) hl hli
  have HV := Lib.hid hv
  obtain ⟨aX, cX, rfl, hnX, _⟩ := tab_shape hv
  clear hv hnX
  cases hs : smallT ls with
  | false =>
    rw [hs] at hsm
    clear hs
    go_enter Try.func13, Try.ntmps13
    go_wp2_with fail
    refine (hfx _).mono ?_
    rintro e w1 ⟨rfl, hb1⟩
    have H1 := Lib.hid hb1
    have hsm1 := hsm w1 hb1
    clear hb1 hsm
    go_wp2_with fail
    refine hsm1.mono ?_
    rintro e w2 ⟨rfl, hb2⟩
    have H2 := Lib.hid (below_step9 H1.out hb2)
    clear hb2 hsm1
    go_wp2_with fail
    refine (hfx _).mono ?_
    rintro e w3 ⟨rfl, hb3⟩
    have H3 := Lib.hid (below_step9 H2.out hb3)
    clear hb3 hfx
    go_wp2_with fail
    go_ret
    exact ⟨rfl, H3.out⟩
  | true =>
  have few := few_small hs
  rw [hs] at hsm
  have hmy : ∀ w1, Below w.heap.size w w1 → _ := fun w1 hb => mayTR_any _ ls w1 (tab_below HV.out hb) few
  clear hs
  cases hm : mayT ls with
  | false =>
    rw [hm] at hmy
    clear hm
    go_enter Try.func13, Try.ntmps13
    go_wp2_with fail
    refine (hfx _).mono ?_
    rintro e w1 ⟨rfl, hb1⟩
    have H1 := Lib.hid hb1
    have hsm1 := hsm w1 hb1
    clear hb1 hsm
    go_wp2_with fail
    refine hsm1.mono ?_
    rintro e w2 ⟨rfl, hb2⟩
    have H2 := Lib.hid (below_step9 H1.out hb2)
    have hmy1 := hmy w2 H2.out
    clear hb2 hsm1 hmy
    go_wp2_with fail
    refine hmy1.mono ?_
    rintro e w3 ⟨rfl, hb3⟩
    have H3 := Lib.hid (below_step9 H2.out hb3)
    clear hb3 hmy1
    go_wp2_with fail
    refine (hfx _).mono ?_
    rintro e w4 ⟨rfl, hb4⟩
    have H4 := Lib.hid (below_step9 H3.out hb4)
    clear hb4 hfx
    go_wp2_with fail
    go_ret
    exact ⟨rfl, H4.out⟩
  | true =>
  have hcm : ∀ w1, Below w.heap.size w w1 → _ := fun w1 hb => commitTP_any _ ls w1 (tab_below HV.out hb) few
  have hfr : ∀ w1, Below w.heap.size w w1 → _ := fun w1 hb => freeTP_any _ ls w1 (tab_below HV.out hb) few
  rw [hm] at hmy
  rw [commitT_eq hm] at hcm
  have HD := Lib.hid (commitT_twice hm)
  have HDm := Lib.hid (commitT_may hm)
  have HDf := Lib.hid (commitT_few few)
  have hmore := commit_more hm
  have HL : Hid ((ls.map commitU).length = ls.length) := by unfold Hid; simp
  clear hm
  generalize ls.map commitU = ds at *
  rw [HL.out] at hcm
  have b1 : decide ((freeTn ls : Int) ≤ (freeTn ds : Int)) = true := by simp; omega
  have b2 : decide ((wholeTn ls : Int) ≤ (wholeTn ds : Int)) = true := by simp; omega
  have b3 : decide (freeTn ls ≤ freeTn ds) = true := by simp; omega
  have b4 : decide (wholeTn ls ≤ wholeTn ds) = true := by simp; omega
  clear hmore
  go_enter Try.func13, Try.ntmps13
  go_wp2_with fail
  refine (hfx _).mono ?_
  rintro e w1 ⟨rfl, hb1⟩
  have H1 := Lib.hid hb1
  have hsm1 := hsm w1 hb1
  clear hb1 hsm hfx
  go_wp2_with fail
  refine hsm1.mono ?_
  rintro e w2 ⟨rfl, hb2⟩
  have H2 := Lib.hid (below_step9 H1.out hb2)
  have hmy1 := hmy w2 H2.out
  clear hb2 hsm1 hmy
  go_wp2_with fail
  refine hmy1.mono ?_
  rintro e w3 ⟨rfl, hb3⟩
  have H3 := Lib.hid (below_step9 H2.out hb3)
  have hc := hcm w3 H3.out
  clear hb3 hmy1 hcm
  go_wp2_with fail
  refine hc.mono ?_
  rintro e w4 ⟨a4, c4, rfl, ht4, hb4⟩
  have H4 := Lib.hid (below_step9 H3.out hb4)
  have T4 := Lib.hid ht4
  have hc2 := hfr w4 H4.out
  clear hb4 hc ht4 hfr
  go_wp2_with fail
  refine hc2.mono ?_
  rintro e w5 ⟨rfl, hb5⟩
  have H5 := Lib.hid (below_step9 H4.out hb5)
  have T5 := Lib.hid (tab_below T4.out hb5)
  clear hb5 hc2 T4
  have hc := freeTP_any _ ds w5 T5.out HDf.out
  go_wp2_with fail
  refine hc.mono ?_
  rintro e w6 ⟨rfl, hb6⟩
  have H6 := Lib.hid (below_step9 H5.out hb6)
  have T6 := Lib.hid (tab_below T5.out hb6)
  clear hb6 hc T5
  have hc := commitTP_any _ ds w6 T6.out HDf.out
  rw [HD.out, HL.out] at hc
  go_wp2_with fail
  refine hc.mono ?_
  rintro e w7 ⟨a7, c7, rfl, ht7, hb7⟩
  have H7 := Lib.hid (below_step9 H6.out hb7)
  have T7 := Lib.hid (tab_below T6.out hb7)
  have hc2 := sameT_any _ _ ds w7 ht7 T7.out HDf.out
  clear hb7 hc ht7 T6
  go_wp2_with fail
  refine hc2.mono ?_
  rintro e w8 ⟨rfl, hb8⟩
  have H8 := Lib.hid (below_step9 H7.out hb8)
  have hc := mayTP_any _ ds w8 (tab_below T7.out hb8) HDf.out
  rw [HDm.out] at hc
  clear hb8 hc2 T7
  go_wp2_with fail
  refine hc.mono ?_
  rintro e w9 ⟨rfl, hb9⟩
  have H9 := Lib.hid (below_step9 H8.out hb9)
  clear hb9 hc
  go_wp2_with fail
  go_ret
  exact ⟨rfl, H9.out⟩
end Go.Proofs.Ytddbcpmhgjkjpaa
