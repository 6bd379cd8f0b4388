/- Contracts: Inc, Dec, the program's and the document's. Conditions: numbers fit. -/
import Derived.Test.YtddbcpmhgjkjpaaSloK
import Derived.Test.YtddbcpmhgjkjpaaSloH
namespace Go.Proofs.Ytddbcpmhgjkjpaa
open Go.RowKit

/-- What becomes of a table where a slot's count is changed. -/
abbrev TurnV (l : List Us) (x b : Int) (w : World) (e : Ending) (w' : World) : Prop := ∃ a cap, e = .returned (.tuple #[.slice a (turnU l x b).length cap, .bool (turnOk l x b)]) ∧ UseV w' (.slice a (turnU l x b).length cap) (turnU l x b) ∧ Below w.heap.size w w'

set_option maxRecDepth 100000 in
set_option maxHeartbeats 1000000 in
theorem incR_any (v : Value) (l : List Us) (x : Int) (w : World) (hv : UseV w v l) (hl : l.length ≤ 140737488355328) :
    Calls Try.prog 18 #[v, .int .i64 x] w fun e w' => TurnV l x 1 w e w' := by
  have hc := turn_any v l x 1 w hv hl (by omega)
  clear hv
  go_enter Try.func18, Try.ntmps18
  go_wp2_with fail
  refine hc.mono ?_
  rintro e w1 ⟨a, cap, rfl, hs, hb⟩
  have HS := Lib.hid hs
  clear hs
  go_wp2_with fail
  refine bodyPost_ret (results_tmp2 rfl _ _ _) rfl ?_
  exact ⟨a, cap, rfl, HS.out, hb⟩
set_option maxRecDepth 100000 in
set_option maxHeartbeats 1000000 in
theorem decR_any (v : Value) (l : List Us) (x : Int) (w : World) (hv : UseV w v l) (hl : l.length ≤ 140737488355328) :
    Calls Try.prog 20 #[v, .int .i64 x] w fun e w' => TurnV l x (-1) w e w' := by
  have hc := turn_any v l x (-1) w hv hl (by omega)
  clear hv
  go_enter Try.func20, Try.ntmps20
  go_wp2_with fail
  refine hc.mono ?_
  rintro e w1 ⟨a, cap, rfl, hs, hb⟩
  have HS := Lib.hid hs
  clear hs
  go_wp2_with fail
  refine bodyPost_ret (results_tmp2 rfl _ _ _) rfl ?_
  exact ⟨a, cap, rfl, HS.out, hb⟩

theorem turn_at {l : List Us} (h : mayU l = true) {x : Int} (b : Int) : ∀ {i : Nat}, findU l x = some i → ∃ hi : i < l.length, turnL l x b = if keepU (l[i].1, l[i].2.1, l[i].2.2.1 + b, l[i].2.2.2) = true then l.set i (l[i].1, l[i].2.1, l[i].2.2.1 + b, l[i].2.2.2) else l.eraseIdx i := by
  induction l with
  | nil => intro i hf; cases hf
  | cons y l ih =>
    intro i hf
    obtain ⟨g1, g2, g3⟩ := mayU_cons.1 h
    rw [findU] at hf
    by_cases e : y.1 = x
    · rw [if_pos e] at hf
      injection hf with hf
      subst hf
      refine ⟨by simp, ?_⟩
      have hn : ∀ u ∈ l, u.1 ≠ x := fun u hu hq => by
        have := g2 u hu
        have h5 := oneU_iff.1 g1
        unfold Apt at this; omega
      have ht := turn_none (b := b) hn (mayU_iff.1 g3).1
      unfold turnL at ht ⊢
      rw [List.map_cons, List.filter_cons, ht]
      have ey : turn1 x b y = (y.1, y.2.1, y.2.2.1 + b, y.2.2.2) := if_pos e
      rw [ey]
      simp only [List.getElem_cons_zero, List.set_cons_zero, List.eraseIdx_cons_zero]
    · rw [if_neg e] at hf
      cases hq : findU l x with
      | none => rw [hq] at hf; cases hf
      | some k =>
        rw [hq] at hf
        simp only [Option.map_some, Option.some.injEq] at hf
        subst hf
        obtain ⟨hk, ht⟩ := ih g3 hq
        refine ⟨by simpa using hk, ?_⟩
        have hky : keepU y = true := by
          have := (oneU_iff.1 g1).2.2.2.2.2.2
          unfold keepU; rw [Bool.or_eq_true, decide_eq_true_eq]; exact this
        have e1 : turnL (y :: l) x b = y :: turnL l x b := by
          unfold turnL
          rw [List.map_cons, show turn1 x b y = y from if_neg e, List.filter_cons, if_pos hky]
        rw [e1, ht]
        simp only [List.getElem_cons_succ, List.set_cons_succ, List.eraseIdx_cons_succ]
        split <;> rfl
theorem turnU_no {l : List Us} {x b : Int} (h : turnOk l x b = false) : turnU l x b = [] := by unfold turnU; rw [h]; rfl
theorem turnU_yes {l : List Us} {x b : Int} (h : turnOk l x b = true) : turnU l x b = turnL l x b := by unfold turnU; rw [h]; rfl

set_option maxRecDepth 100000 in
set_option maxHeartbeats 4000000 in
theorem inc_any (v : Value) (l : List Us) (x : Int) (w : World) (hv : UseV w v l) (hl : l.length ≤ 140737488355328) :
    Calls Try.prog 17 #[v, .int .i64 x] w fun e w' => TurnV l x 1 w e w' := by
  have hm := may_any v l w hv hl
  have HF := Lib.hid (fun w' (h : Below w.heap.size w w') => find_any v l x w' (sl_below hv h) hl)
  have HV := Lib.hid hv
  have HCl := Lib.hid (fun w' (h : Below w.heap.size w w') (h16 : l.length ≤ 1000000) => clone_use v l w' (sl_below hv h) h16)
  obtain ⟨aX, cX, rfl, hcX, hnX, hcellX⟩ := hv
  clear hcellX hnX
  cases hmay : mayU l with
  | false =>
    rw [hmay] at hm
    have HK := Lib.hid (turnOk_no (l := l) (a := x) (b := 1) (fun h => by rw [hmay] at h; cases h.1))
    have HU := Lib.hid (turnU_no HK.out)
    clear hmay
    go_enter Try.func17, Try.ntmps17
    go_wp2_with fail
    refine hm.mono ?_
    rintro e w1 ⟨rfl, hb1⟩
    go_wp2_with fail
    refine bodyPost_ret (results_tmp2 rfl _ _ _) rfl ?_
    unfold TurnV
    rw [HU.out, HK.out]
    exact ⟨none, 0, rfl, sl_nil fun _ => rfl, hb1⟩
  | true =>
    rw [hmay] at hm
    have hcr := countU_rg hmay x
    have HM := Lib.hid hmay
    have hl16 := mayU_len hmay
    clear hmay
    cases hfu : findU l x with
    | none =>
      have HK := Lib.hid (turnOk_no (l := l) (a := x) (b := 1) (fun h => h.2.1 (countU_none hfu)))
      have HU := Lib.hid (turnU_no HK.out)
      have HFi := Lib.hid (findI_none hfu)
      clear hfu hcr
      go_enter Try.func17, Try.ntmps17
      go_wp2_with fail
      refine hm.mono ?_
      rintro e w1 ⟨rfl, hb1⟩
      have hf := HF.out _ hb1
      rw [HFi.out] at hf
      go_wp2_with fail
      refine hf.mono ?_
      rintro e w2 ⟨rfl, hb2⟩
      go_wp2_with fail
      refine bodyPost_ret (results_tmp2 rfl _ _ _) rfl ?_
      unfold TurnV
      rw [HU.out, HK.out]
      exact ⟨none, 0, rfl, sl_nil fun _ => rfl, below_step9 hb1 hb2⟩
    | some i =>
      obtain ⟨hi, ht⟩ := turn_at HM.out 1 hfu
      obtain ⟨_, hcu⟩ := countU_find hfu
      have HFi := Lib.hid (findI_some hfu)
      have Ht := Lib.hid ht
      have HCu := Lib.hid hcu
      rw [hcu] at hcr
      have hset := cells4_set l (l[i].2.2.1 + 1) i hi
      have Hset := Lib.hid hset
      have hkp : 0 ≤ l[i].2.2.1 → keepU (l[i].1, l[i].2.1, l[i].2.2.1 + 1, l[i].2.2.2) = true := fun h => by unfold keepU; rw [Bool.or_eq_true, decide_eq_true_eq]; left; simp only; omega
      have Hkp := Lib.hid (hkp (by omega))
      have d0 : decide ((i : Int) < 0) = false := by simp
      have g0 : (i : Int) < (l.length : Int) := by omega
      have g1 : (0 : Int) ≤ (i : Int) := by omega
      clear hfu ht hcu hset hkp
      obtain ⟨c, hc⟩ : ∃ c, l[i].2.2.1 = c := ⟨_, rfl⟩
      have Hc := Lib.hid hc
      rw [hc] at hcr
      clear hc
      by_cases hc1 : c < 1
      · have HK := Lib.hid (turnOk_no (l := l) (a := x) (b := 1) (fun h => h.2.1 (by rw [HCu.out, Hc.out]; omega)))
        have HU := Lib.hid (turnU_no HK.out)
        have d1 : decide (c < 1) = true := by simpa using hc1
        go_enter Try.func17, Try.ntmps17
        go_wp2_with fail
        refine hm.mono ?_
        rintro e w1 ⟨rfl, hb1⟩
        have hf := HF.out _ hb1
        rw [HFi.out] at hf
        go_wp2_with fail
        refine hf.mono ?_
        rintro e w2 ⟨rfl, hb2⟩
        have HB2 := Lib.hid (below_step9 hb1 hb2)
        obtain ⟨b0, off, hveq, hblt, e0, e1, e2, e3⟩ := use_at (sl_below HV.out HB2.out) hi
        subst hveq
        rw [Hc.out] at e2
        clear hb1 hb2 e0 e1 e3 hf hm
        go_wp2_with fail
        refine bodyPost_ret (results_tmp2 rfl _ _ _) rfl ?_
        unfold TurnV
        rw [HU.out, HK.out]
        exact ⟨none, 0, rfl, sl_nil fun _ => rfl, HB2.out⟩
      by_cases hc2 : 1000000 ≤ c
      · have HK := Lib.hid (turnOk_no (l := l) (a := x) (b := 1) (fun h => by have := h.2.2; rw [HCu.out, Hc.out] at this; omega))
        have HU := Lib.hid (turnU_no HK.out)
        have d1 : decide (c < 1) = false := by simpa using hc1
        have d2 : decide (1000000 ≤ c) = true := by simpa using hc2
        go_enter Try.func17, Try.ntmps17
        go_wp2_with fail
        refine hm.mono ?_
        rintro e w1 ⟨rfl, hb1⟩
        have hf := HF.out _ hb1
        rw [HFi.out] at hf
        go_wp2_with fail
        refine hf.mono ?_
        rintro e w2 ⟨rfl, hb2⟩
        have HB2 := Lib.hid (below_step9 hb1 hb2)
        obtain ⟨b0, off, hveq, hblt, e0, e1, e2, e3⟩ := use_at (sl_below HV.out HB2.out) hi
        subst hveq
        rw [Hc.out] at e2
        clear hb1 hb2 e0 e1 e3 hf hm
        go_wp2_with fail
        refine bodyPost_ret (results_tmp2 rfl _ _ _) rfl ?_
        unfold TurnV
        rw [HU.out, HK.out]
        exact ⟨none, 0, rfl, sl_nil fun _ => rfl, HB2.out⟩
      · have HK := Lib.hid (turnOk_yes (l := l) (a := x) (b := 1) ⟨HM.out, by rw [HCu.out, Hc.out]; omega, by rw [HCu.out, Hc.out]; omega⟩)
        have HU : Hid (turnU l x 1 = l.set i (l[i].1, l[i].2.1, l[i].2.2.1 + 1, l[i].2.2.2)) := by unfold Hid; rw [turnU_yes HK.out, Ht.out, if_pos Hkp.out]
        have d1 : decide (c < 1) = false := by simpa using hc1
        have d2 : decide (1000000 ≤ c) = false := by simpa using hc2
        go_enter Try.func17, Try.ntmps17
        go_wp2_with fail
        refine hm.mono ?_
        rintro e w1 ⟨rfl, hb1⟩
        have hf := HF.out _ hb1
        rw [HFi.out] at hf
        go_wp2_with fail
        refine hf.mono ?_
        rintro e w2 ⟨rfl, hb2⟩
        have HB2 := Lib.hid (below_step9 hb1 hb2)
        obtain ⟨b0, off, hveq, hblt, e0, e1, e2, e3⟩ := use_at (sl_below HV.out HB2.out) hi
        subst hveq
        rw [Hc.out] at e2
        clear hb1 hb2 e0 e1 e3 hf hm
        have hcl := HCl.out _ HB2.out (by omega)
        go_wp2_with fail
        refine hcl.mono ?_
        rintro e w3 ⟨v3, rfl, hown, hb3⟩
        obtain ⟨g, cap, rfl, hg, _⟩ := World.ownsRow.form hown (by omega)
        have f2 : w3.cell? ⟨g, i * 4 + 2, none⟩ = some (.int .i64 c) := by rw [hown.cellAt (i * 4 + 2) (by omega), (cells4_get l i hi).2.2.1, Hc.out]
        have f3 : w3.frozen? ⟨g, i * 4 + 2, none⟩ = false := hown.frozenAt (i * 4 + 2)
        have hs := (hown.stored (i * 4 + 2) (.int .i64 (c + 1))).1
        have hset := Hset.out
        rw [Hc.out] at hset
        rw [hset] at hs
        have HS := Lib.hid (use_of_owns hs).1
        have HB3 := Lib.hid ((below_step9 HB2.out hb3).setCell (p := ⟨g, i * 4 + 2, none⟩) (Nat.le_trans HB2.out.size hg) (.int .i64 (c + 1)))
        clear hown hb3 hs hset e2 hblt hcl
        go_wp2_with fail
        refine bodyPost_ret (results_tmp2 rfl _ _ _) rfl ?_
        unfold TurnV
        rw [HU.out, HK.out, List.length_set, Hc.out]
        exact ⟨_, _, rfl, HS.out, HB3.out⟩
end Go.Proofs.Ytddbcpmhgjkjpaa
