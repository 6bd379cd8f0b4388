/- Contract: Dec of the program. Conditions: numbers fit. -/
import Derived.Test.YtddbcpmhgjkjpaaSloL
namespace Go.Proofs.Ytddbcpmhgjkjpaa
open Go.RowKit

set_option maxRecDepth 100000 in
set_option maxHeartbeats 4000000 in
theorem dec_any (v : Value) (l : List Us) (x : Int) (w : World) (hv : UseV w v l) (hl : l.length ≤ 140737488355328) :
    Calls Try.prog 19 #[v, .int .i64 x] w fun e w' => TurnV l x (-1) w e w' := by
  have hm := may_any v l w hv hl
  have HF := Lib.hid (fun w' (h : Below w.heap.size w w') => find_any v l x w' (sl_below hv h) hl)
  have HV := Lib.hid hv
  have HCl := Lib.hid (fun w' (h : Below w.heap.size w w') (h16 : l.length ≤ 1000000) => clone_use v l w' (sl_below hv h) h16)
  obtain ⟨aX, cX, rfl, hcX, hnX, hcellX⟩ := hv
  clear hcellX hnX
  cases hmay : mayU l with
  | false =>
    rw [hmay] at hm
    have HK := Lib.hid (turnOk_no (l := l) (a := x) (b := -1) (fun h => by rw [hmay] at h; cases h.1))
    have HU := Lib.hid (turnU_no HK.out)
    clear hmay
    go_enter Try.func19, Try.ntmps19
    go_wp2_with fail
    refine hm.mono ?_
    rintro e w1 ⟨rfl, hb1⟩
    go_wp2_with fail
    refine bodyPost_ret (results_tmp2 rfl _ _ _) rfl ?_
    unfold TurnV
    rw [HU.out, HK.out]
    exact ⟨none, 0, rfl, sl_nil fun _ => rfl, hb1⟩
  | true =>
    rw [hmay] at hm
    have hcr := countU_rg hmay x
    have HM := Lib.hid hmay
    have hl16 := mayU_len hmay
    clear hmay
    cases hfu : findU l x with
    | none =>
      have HK := Lib.hid (turnOk_no (l := l) (a := x) (b := -1) (fun h => h.2.1 (countU_none hfu)))
      have HU := Lib.hid (turnU_no HK.out)
      have HFi := Lib.hid (findI_none hfu)
      clear hfu hcr
      go_enter Try.func19, Try.ntmps19
      go_wp2_with fail
      refine hm.mono ?_
      rintro e w1 ⟨rfl, hb1⟩
      have hf := HF.out _ hb1
      rw [HFi.out] at hf
      go_wp2_with fail
      refine hf.mono ?_
      rintro e w2 ⟨rfl, hb2⟩
      go_wp2_with fail
      refine bodyPost_ret (results_tmp2 rfl _ _ _) rfl ?_
      unfold TurnV
      rw [HU.out, HK.out]
      exact ⟨none, 0, rfl, sl_nil fun _ => rfl, below_step9 hb1 hb2⟩
    | some i =>
      obtain ⟨hi, ht⟩ := turn_at HM.out (-1) hfu
      obtain ⟨_, hcu⟩ := countU_find hfu
      have HFi := Lib.hid (findI_some hfu)
      have Ht := Lib.hid ht
      have HCu := Lib.hid hcu
      rw [hcu] at hcr
      have hset := cells4_set l (l[i].2.2.1 + -1) i hi
      have Hset := Lib.hid hset
      have d0 : decide ((i : Int) < 0) = false := by simp
      have g0 : (i : Int) < (l.length : Int) := by omega
      have g1 : (0 : Int) ≤ (i : Int) := by omega
      clear hfu ht hcu hset
      obtain ⟨c, hc⟩ : ∃ c, l[i].2.2.1 = c := ⟨_, rfl⟩
      have Hc := Lib.hid hc
      rw [hc] at hcr
      clear hc
      by_cases hc1 : c < 1
      · have HK := Lib.hid (turnOk_no (l := l) (a := x) (b := -1) (fun h => h.2.1 (by rw [HCu.out, Hc.out]; omega)))
        have HU := Lib.hid (turnU_no HK.out)
        have d1 : decide (c < 1) = true := by simpa using hc1
        go_enter Try.func19, Try.ntmps19
        go_wp2_with fail
        refine hm.mono ?_
        rintro e w1 ⟨rfl, hb1⟩
        have hf := HF.out _ hb1
        rw [HFi.out] at hf
        go_wp2_with fail
        refine hf.mono ?_
        rintro e w2 ⟨rfl, hb2⟩
        have HB2 := Lib.hid (below_step9 hb1 hb2)
        obtain ⟨b0, off, hveq, hblt, e0, e1, e2, e3⟩ := use_at (sl_below HV.out HB2.out) hi
        subst hveq
        rw [Hc.out] at e2
        clear hb1 hb2 e0 e1 e3 hf hm
        go_wp2_with fail
        refine bodyPost_ret (results_tmp2 rfl _ _ _) rfl ?_
        unfold TurnV
        rw [HU.out, HK.out]
        exact ⟨none, 0, rfl, sl_nil fun _ => rfl, HB2.out⟩
      · have HK := Lib.hid (turnOk_yes (l := l) (a := x) (b := -1) ⟨HM.out, by rw [HCu.out, Hc.out]; omega, by rw [HCu.out, Hc.out]; omega⟩)
        have d1 : decide (c < 1) = false := by simpa using hc1
        have x9 : c + -1 = c - 1 := by omega
        obtain ⟨o, ho⟩ : ∃ o, l[i].2.2.2 = o := ⟨_, rfl⟩
        have Ho := Lib.hid ho
        have X9 := Lib.hid x9
        clear ho x9
        go_enter Try.func19, Try.ntmps19
        go_wp2_with fail
        refine hm.mono ?_
        rintro e w1 ⟨rfl, hb1⟩
        have hf := HF.out _ hb1
        rw [HFi.out] at hf
        go_wp2_with fail
        refine hf.mono ?_
        rintro e w2 ⟨rfl, hb2⟩
        have HB2 := Lib.hid (below_step9 hb1 hb2)
        obtain ⟨b0, off, hveq, hblt, e0, e1, e2, e3⟩ := use_at (sl_below HV.out HB2.out) hi
        subst hveq
        rw [Hc.out] at e2
        clear hb1 hb2 e0 e1 e3 hf hm
        have hcl := HCl.out _ HB2.out (by omega)
        go_wp2_with fail
        refine hcl.mono ?_
        rintro e w3 ⟨v3, rfl, hown, hb3⟩
        obtain ⟨g, cap, rfl, hg, _⟩ := World.ownsRow.form hown (by omega)
        have f2 : w3.cell? ⟨g, i * 4 + 2, none⟩ = some (.int .i64 c) := by rw [hown.cellAt (i * 4 + 2) (by omega), (cells4_get l i hi).2.2.1, Hc.out]
        have f3 : w3.frozen? ⟨g, i * 4 + 2, none⟩ = false := hown.frozenAt (i * 4 + 2)
        have f4 : w3.cell? ⟨g, i * 4 + 3, none⟩ = some (.bool o) := by rw [hown.cellAt (i * 4 + 3) (by omega), (cells4_get l i hi).2.2.2, Ho.out]
        have hs := (hown.stored (i * 4 + 2) (.int .i64 (c - 1))).1
        have hset := Hset.out
        rw [Hc.out, X9.out] at hset
        rw [hset] at hs
        have HS := Lib.hid hs
        have hgw := Nat.le_trans HB2.out.size hg
        have HB3 := Lib.hid ((below_step9 HB2.out hb3).setCell (p := ⟨g, i * 4 + 2, none⟩) hgw (.int .i64 (c - 1)))
        have F2 : (w3.setCell ⟨g, i * 4 + 2, none⟩ (.int .i64 (c - 1))).cell? ⟨g, i * 4 + 2, none⟩ = some (.int .i64 (c - 1)) := World.cell?_setCell_same _ _ _ f2
        have F4 : (w3.setCell ⟨g, i * 4 + 2, none⟩ (.int .i64 (c - 1))).cell? ⟨g, i * 4 + 3, none⟩ = some (.bool o) := by
          rw [World.cell?_setCell_other _ _ _ _ (by intro h; injection h with _ h _; omega)]; exact f4
        have hsz3 : w3.heap.size = (w3.setCell ⟨g, i * 4 + 2, none⟩ (.int .i64 (c - 1))).heap.size := by simp
        have HSz : Hid (w.heap.size ≤ w2.heap.size) := HB2.out.size
        clear hown hb3 hs hset e2 hblt hcl f4 hsz3
        by_cases hz : c = 1
        · have b1 : (c - 1 == 0) = true := by simp; omega
          cases o with
          | false =>
            have HU : Hid (turnU l x (-1) = (l.set i (l[i].1, l[i].2.1, c - 1, l[i].2.2.2)).eraseIdx i) := by
              unfold Hid
              rw [turnU_yes HK.out, Ht.out, if_neg, List.eraseIdx_set_eq]
              unfold keepU
              simp only [Ho.out, Hc.out]; simp; omega
            have hdl := delete_use g l.length cap w2.heap.size w.heap.size (l.set i (l[i].1, l[i].2.1, c - 1, l[i].2.2.2)) i _ HS.out hi (by omega) HSz.out
            clear hz
            go_wp2_with fail
            refine hdl.mono ?_
            rintro e w5 ⟨rfl, hown5, hb5⟩
            have HO5 := Lib.hid (use_of_owns hown5)
            clear hown5 hdl
            go_wp2_with fail
            refine bodyPost_ret (results_tmp2 rfl _ _ _) rfl ?_
            unfold TurnV
            have hlen := HO5.out.2
            rw [HU.out, HK.out, ← hlen]
            exact ⟨_, _, rfl, HO5.out.1, HB3.out.trans hb5⟩
          | true =>
            have HU : Hid (turnU l x (-1) = l.set i (l[i].1, l[i].2.1, c - 1, l[i].2.2.2)) := by
              unfold Hid
              rw [turnU_yes HK.out, Ht.out, if_pos, Hc.out, X9.out]
              unfold keepU
              simp only [Ho.out, Bool.or_true]
            clear hz
            go_wp2_with fail
            refine bodyPost_ret (results_tmp2 rfl _ _ _) rfl ?_
            unfold TurnV
            rw [HU.out, HK.out, List.length_set]
            exact ⟨_, _, rfl, (use_of_owns HS.out).1, HB3.out⟩
        · have b1 : (c - 1 == 0) = false := by simp; omega
          have HU : Hid (turnU l x (-1) = l.set i (l[i].1, l[i].2.1, c - 1, l[i].2.2.2)) := by
            unfold Hid
            rw [turnU_yes HK.out, Ht.out, if_pos, Hc.out, X9.out]
            unfold keepU
            rw [Bool.or_eq_true, decide_eq_true_eq]; left
            simp only [Hc.out]; omega
          clear hz
          go_wp2_with fail
          refine bodyPost_ret (results_tmp2 rfl _ _ _) rfl ?_
          unfold TurnV
          rw [HU.out, HK.out, List.length_set]
          exact ⟨_, _, rfl, (use_of_owns HS.out).1, HB3.out⟩
end Go.Proofs.Ytddbcpmhgjkjpaa
