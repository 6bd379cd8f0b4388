/- The document's Take, Inc, Dec of tables. Conditions: numbers fit. -/
import Derived.Test.YtddbcpmhgjkjpaaAlcP
import Derived.Test.YtddbcpmhgjkjpaaAlcM
namespace Go.Proofs.Ytddbcpmhgjkjpaa
open Go.RowKit

theorem may_same {l : List Us} (h : mayU l = true) {x u : Us} (hx : x ∈ l) (hu : u ∈ l) (he : x.1 = u.1) : x = u := by
  obtain ⟨h1, h2⟩ := mayU_iff.1 h
  rw [List.pairwise_iff_getElem] at h2
  obtain ⟨i, hi, rfl⟩ := List.getElem_of_mem hx
  obtain ⟨j, hj, rfl⟩ := List.getElem_of_mem hu
  rcases Nat.lt_trichotomy i j with hij | hij | hij
  · have := h2 i j hi hj hij
    have h3 := oneU_iff.1 (h1 _ hx)
    unfold Apt at this
    omega
  · subst hij; rfl
  · have := h2 j i hj hi hij
    have h3 := oneU_iff.1 (h1 _ hu)
    unfold Apt at this
    omega
theorem hasT_parts {ls : List (List Us)} {c a s : Int} {p : Bool} (h : hasT ls c a s p = true) : ∃ (k : Nat) (hk : k < ls.length), c = k ∧ mayB c a s p = true ∧ hasL ls[k] a s = true := by
  unfold hasT at h
  simp only [Bool.and_eq_true, decide_eq_true_eq] at h
  obtain ⟨⟨h2, h3⟩, h4⟩ := h
  have hb := may_bd h2
  have hk : c.toNat < ls.length := by omega
  rw [List.getD_eq_getElem?_getD, List.getElem?_eq_getElem hk, Option.getD_some] at h4
  exact ⟨c.toNat, hk, by omega, h2, h4⟩
theorem has_chan {ls : List (List Us)} {a s : Int} {p : Bool} {b : Int} {k : Nat} (hm : mayT ls = true) (hh : hasT ls k a s p = true) (hk : k < ls.length) (ht : turnOk ls[k] a b = true) : chanOk ls k a s p b = true := by
  obtain ⟨k', hk', e, hmb, hl⟩ := hasT_parts hh
  obtain rfl : k' = k := by omega
  refine chanOk_mk hk hm hmb ?_ ht
  have hmk := (mayT_iff.1 hm).1 _ (List.getElem_mem hk)
  unfold hasL at hl
  rw [List.any_eq_true] at hl
  obtain ⟨u, hu, hq⟩ := hl
  simp only [Bool.and_eq_true, decide_eq_true_eq] at hq
  unfold noBad
  rw [List.all_eq_true]
  intro x hx
  by_cases hxa : x.1 = a
  · have := may_same hmk hx hu (by omega)
    subst this
    simp [hq.2]
  · simp [hxa]

set_option maxRecDepth 100000 in
set_option maxHeartbeats 4000000 in
theorem incTR_any (v : Value) (ls : List (List Us)) (c a s : Int) (p : Bool) (w : World) (hv : TabV w v ls) (hf : FewT ls) :
    Calls Try.prog 47 #[v, .agg #[.int .i64 c, .int .i64 a, .int .i64 s, .bool p]] w fun e w' => ChanV ls c a s p 1 w e w' := by
  obtain ⟨W1, hW, e0, e1, e2, e3, hs1, hb0⟩ := boxed4 w (.int .i64 c) (.int .i64 a) (.int .i64 s) (.bool p) 53
  have hc := mayTR_any v ls W1 (tab_below hv hb0) hf
  have HV := Lib.hid (tab_below hv hb0)
  have Hf := Lib.hid hf
  obtain ⟨aX, cX, rfl, hnX, _⟩ := tab_shape hv
  clear hv hnX
  have Hfin : Hid (∀ w', Below w.heap.size w w' → chanOk ls c a s p 1 = false → ChanV ls c a s p 1 w (.returned (.tuple #[.slice none 0 0, .bool false])) w') := by
    intro w' hb h
    obtain ⟨q1, q2⟩ := chan_no h
    unfold ChanV
    rw [q1, q2]
    exact ⟨none, 0, rfl, tab_nil fun _ => rfl, hb⟩
  cases hmt : mayT ls with
  | false =>
    have HE : Hid (chanOk ls c a s p 1 = false) := by unfold Hid chanOk; rw [hmt]; rfl
    rw [hmt] at hc
    clear hmt hf
    go_enter Try.func47, Try.ntmps47
    go_wp2_with fail
    refine hc.mono ?_
    rintro e w1 ⟨rfl, hb1⟩
    have HB1 := Lib.hid (hb0.trans (hb1.mono (Nat.le_of_lt hs1)))
    clear hc hb1
    go_wp2_with fail
    refine bodyPost_ret (results_tmp2 rfl _ _ _) rfl ?_
    exact Hfin.out _ HB1.out HE.out
  | true =>
  rw [hmt] at hc
  have hh := fun wx hx => hasT_any (.slice aX ls.length cX) ls c a s p wx hx hf
  cases hha : hasT ls c a s p with
  | false =>
    have HE : Hid (chanOk ls c a s p 1 = false) := by
      unfold Hid
      cases hq : chanOk ls c a s p 1 with
      | false => rfl
      | true => rw [chan_has hq] at hha; cases hha
    rw [hha] at hh
    clear hmt hf hha
    go_enter Try.func47, Try.ntmps47
    go_wp2_with fail
    refine hc.mono ?_
    rintro e w1 ⟨rfl, hb1⟩
    have HB1 := Lib.hid (hb0.trans (hb1.mono (Nat.le_of_lt hs1)))
    have f0 : w1.cell? ⟨w.heap.size, 0, none⟩ = some (.int .i64 c) := (hb1.cell (p := ⟨w.heap.size, 0, none⟩) hs1).trans e0
    have f1 : w1.cell? ⟨w.heap.size, 1, none⟩ = some (.int .i64 a) := (hb1.cell (p := ⟨w.heap.size, 1, none⟩) hs1).trans e1
    have f2 : w1.cell? ⟨w.heap.size, 2, none⟩ = some (.int .i64 s) := (hb1.cell (p := ⟨w.heap.size, 2, none⟩) hs1).trans e2
    have f3 : w1.cell? ⟨w.heap.size, 3, none⟩ = some (.bool p) := (hb1.cell (p := ⟨w.heap.size, 3, none⟩) hs1).trans e3
    have hh1 := hh w1 (tab_below HV.out hb1)
    clear hc hb1 hh
    go_wp2_with fail
    refine hh1.mono ?_
    rintro e w2 ⟨rfl, hb2⟩
    have HB2 := Lib.hid (below_step9 HB1.out hb2)
    clear hh1 hb2
    go_wp2_with fail
    refine bodyPost_ret (results_tmp2 rfl _ _ _) rfl ?_
    exact Hfin.out _ HB2.out HE.out
  | true =>
  rw [hha] at hh
  obtain ⟨k, hk, rfl, hmb, hhl⟩ := hasT_parts hha
  have hlen := hf.1 _ (List.getElem_mem hk)
  have HOK : Hid (turnOk ls[k] a 1 = true → chanOk ls k a s p 1 = true ∧ chanR ls k a s p 1 = ls.set k (turnU ls[k] a 1)) := fun h => by
    have h1 := has_chan hmt hha hk h
    obtain ⟨k', hk', e, _, _, _, _, h6⟩ := chanOk_parts h1
    obtain rfl : k' = k := by omega
    exact ⟨h1, h6⟩
  have HNO : Hid (turnOk ls[k] a 1 = false → chanOk ls k a s p 1 = false) := fun h => by
    cases hq : chanOk ls k a s p 1 with
    | false => rfl
    | true =>
      obtain ⟨k', hk', e, _, _, _, h5, _⟩ := chanOk_parts hq
      obtain rfl : k' = k := by omega
      rw [h] at h5; cases h5
  have g1 : (k : Int) < (ls.length : Int) := by omega
  have g0 : (0 : Int) ≤ (k : Int) := by omega
  clear hmt hha hf hmb hhl
  go_enter Try.func47, Try.ntmps47
  go_wp2_with fail
  refine hc.mono ?_
  rintro e w1 ⟨rfl, hb1⟩
  have HB1 := Lib.hid hb1
  have f0 : w1.cell? ⟨w.heap.size, 0, none⟩ = some (.int .i64 (k : Int)) := (hb1.cell (p := ⟨w.heap.size, 0, none⟩) hs1).trans e0
  have f1 : w1.cell? ⟨w.heap.size, 1, none⟩ = some (.int .i64 a) := (hb1.cell (p := ⟨w.heap.size, 1, none⟩) hs1).trans e1
  have f2 : w1.cell? ⟨w.heap.size, 2, none⟩ = some (.int .i64 s) := (hb1.cell (p := ⟨w.heap.size, 2, none⟩) hs1).trans e2
  have f3 : w1.cell? ⟨w.heap.size, 3, none⟩ = some (.bool p) := (hb1.cell (p := ⟨w.heap.size, 3, none⟩) hs1).trans e3
  have hh1 := hh w1 (tab_below HV.out hb1)
  clear hc hb1 hh
  go_wp2_with fail
  refine hh1.mono ?_
  rintro e w2 ⟨rfl, hb2⟩
  have HB2 := Lib.hid (below_step9 HB1.out hb2)
  clear hh1 hb2 f0 f1 f2 f3
  have f0 : w2.cell? ⟨w.heap.size, 0, none⟩ = some (.int .i64 (k : Int)) := (HB2.out.cell (p := ⟨w.heap.size, 0, none⟩) hs1).trans e0
  have f1 : w2.cell? ⟨w.heap.size, 1, none⟩ = some (.int .i64 a) := (HB2.out.cell (p := ⟨w.heap.size, 1, none⟩) hs1).trans e1
  have hsw : w.heap.size < w2.heap.size := Nat.lt_of_lt_of_le hs1 HB2.out.size
  obtain ⟨b', off, au, cu, hveq, hblt, hcell, hu⟩ := tab_at (tab_below HV.out HB2.out) hk
  subst hveq
  have hd : ∀ wx, Held w2 wx → Calls Try.prog 18 #[.slice au ls[k].length cu, .int .i64 a] wx fun e w' => TurnV ls[k] a 1 wx e w' := fun wx hx => incR_any _ ls[k] a wx (sl_below hu hx.2) (by omega)
  have HFIN0 := Lib.hid (fun w' (hb : Below W1.heap.size W1 w') => hb0.trans (hb.mono (Nat.le_of_lt hs1)))
  have Hs1 := Lib.hid hs1
  have HE0 := Lib.hid e0
  unfold TurnV at hd
  clear hu e0 e1 e2 e3
  cases ht : turnOk ls[k] a 1 with
  | false =>
    have HN := Lib.hid (HNO.out ht)
    rw [ht] at hd
    clear HOK HNO ht
    generalize turnU ls[k] a 1 = l2 at *
    generalize ls[k].length = xn at *
    go_wp2_with fail
    go_region_held3 (Held w2) (first | exact held_start | exact held_call (by assumption) (by first | assumption | exact held_start)) (first | (go_at_call 18; refine (hd _ (by first | assumption | exact held_start)).mono ?_; rintro e w' ⟨a5, c5, rfl, hu5, hb⟩))
    have hh : Held w2 w' := by assumption
    have HB5 := Lib.hid (HFIN0.out _ (below_step9 HB2.out hh.2))
    clear hh
    go_wp2_with fail
    refine bodyPost_ret (results_tmp2 rfl _ _ _) rfl ?_
    exact Hfin.out _ HB5.out HN.out
  | true =>
    have HY := Lib.hid (HOK.out ht)
    rw [ht] at hd
    clear HOK HNO ht
    generalize turnU ls[k] a 1 = l2 at *
    generalize ls[k].length = xn at *
    go_wp2_with fail
    go_region_held3 (Held w2) (first | exact held_start | exact held_call (by assumption) (by first | assumption | exact held_start)) (first | (go_at_call 18; refine (hd _ (by first | assumption | exact held_start)).mono ?_; rintro e w' ⟨a5, c5, rfl, hu5, hb⟩))
    have hh : Held w2 w' := by assumption
    have HB5 := Lib.hid (below_step9 HB2.out hh.2)
    have hwi := with_any _ _ ls l2 k w' (tab_below HV.out HB5.out) hu5 hk Hf.out
    have f0' : w'.cell? ⟨w.heap.size, 0, none⟩ = some (.int .i64 (k : Int)) := (HB5.out.cell (p := ⟨w.heap.size, 0, none⟩) Hs1.out).trans HE0.out
    clear hh hu5 f1 hcell
    go_wp2_with fail
    refine hwi.mono ?_
    rintro e w6 ⟨a6, c6, rfl, ht6, hb6⟩
    have HB6 := Lib.hid (HFIN0.out _ (below_step9 HB5.out hb6))
    have HT6 := Lib.hid ht6
    clear hwi ht6 hb6
    go_wp2_with fail
    refine bodyPost_ret (results_tmp2 rfl _ _ _) rfl ?_
    unfold ChanV
    rw [HY.out.1, HY.out.2]
    exact ⟨a6, c6, by simp, by simpa using HT6.out, HB6.out⟩

set_option maxRecDepth 100000 in
set_option maxHeartbeats 4000000 in
theorem decTR_any (v : Value) (ls : List (List Us)) (c a s : Int) (p : Bool) (w : World) (hv : TabV w v ls) (hf : FewT ls) :
    Calls Try.prog 48 #[v, .agg #[.int .i64 c, .int .i64 a, .int .i64 s, .bool p]] w fun e w' => ChanV ls c a s p (-1) w e w' := by
  obtain ⟨W1, hW, e0, e1, e2, e3, hs1, hb0⟩ := boxed4 w (.int .i64 c) (.int .i64 a) (.int .i64 s) (.bool p) 53
  have hc := mayTR_any v ls W1 (tab_below hv hb0) hf
  have HV := Lib.hid (tab_below hv hb0)
  have Hf := Lib.hid hf
  obtain ⟨aX, cX, rfl, hnX, _⟩ := tab_shape hv
  clear hv hnX
  have Hfin : Hid (∀ w', Below w.heap.size w w' → chanOk ls c a s p (-1) = false → ChanV ls c a s p (-1) w (.returned (.tuple #[.slice none 0 0, .bool false])) w') := by
    intro w' hb h
    obtain ⟨q1, q2⟩ := chan_no h
    unfold ChanV
    rw [q1, q2]
    exact ⟨none, 0, rfl, tab_nil fun _ => rfl, hb⟩
  cases hmt : mayT ls with
  | false =>
    have HE : Hid (chanOk ls c a s p (-1) = false) := by unfold Hid chanOk; rw [hmt]; rfl
    rw [hmt] at hc
    clear hmt hf
    go_enter Try.func48, Try.ntmps48
    go_wp2_with fail
    refine hc.mono ?_
    rintro e w1 ⟨rfl, hb1⟩
    have HB1 := Lib.hid (hb0.trans (hb1.mono (Nat.le_of_lt hs1)))
    clear hc hb1
    go_wp2_with fail
    refine bodyPost_ret (results_tmp2 rfl _ _ _) rfl ?_
    exact Hfin.out _ HB1.out HE.out
  | true =>
  rw [hmt] at hc
  have hh := fun wx hx => hasT_any (.slice aX ls.length cX) ls c a s p wx hx hf
  cases hha : hasT ls c a s p with
  | false =>
    have HE : Hid (chanOk ls c a s p (-1) = false) := by
      unfold Hid
      cases hq : chanOk ls c a s p (-1) with
      | false => rfl
      | true => rw [chan_has hq] at hha; cases hha
    rw [hha] at hh
    clear hmt hf hha
    go_enter Try.func48, Try.ntmps48
    go_wp2_with fail
    refine hc.mono ?_
    rintro e w1 ⟨rfl, hb1⟩
    have HB1 := Lib.hid (hb0.trans (hb1.mono (Nat.le_of_lt hs1)))
    have f0 : w1.cell? ⟨w.heap.size, 0, none⟩ = some (.int .i64 c) := (hb1.cell (p := ⟨w.heap.size, 0, none⟩) hs1).trans e0
    have f1 : w1.cell? ⟨w.heap.size, 1, none⟩ = some (.int .i64 a) := (hb1.cell (p := ⟨w.heap.size, 1, none⟩) hs1).trans e1
    have f2 : w1.cell? ⟨w.heap.size, 2, none⟩ = some (.int .i64 s) := (hb1.cell (p := ⟨w.heap.size, 2, none⟩) hs1).trans e2
    have f3 : w1.cell? ⟨w.heap.size, 3, none⟩ = some (.bool p) := (hb1.cell (p := ⟨w.heap.size, 3, none⟩) hs1).trans e3
    have hh1 := hh w1 (tab_below HV.out hb1)
    clear hc hb1 hh
    go_wp2_with fail
    refine hh1.mono ?_
    rintro e w2 ⟨rfl, hb2⟩
    have HB2 := Lib.hid (below_step9 HB1.out hb2)
    clear hh1 hb2
    go_wp2_with fail
    refine bodyPost_ret (results_tmp2 rfl _ _ _) rfl ?_
    exact Hfin.out _ HB2.out HE.out
  | true =>
  rw [hha] at hh
  obtain ⟨k, hk, rfl, hmb, hhl⟩ := hasT_parts hha
  have hlen := hf.1 _ (List.getElem_mem hk)
  have HOK : Hid (turnOk ls[k] a (-1) = true → chanOk ls k a s p (-1) = true ∧ chanR ls k a s p (-1) = ls.set k (turnU ls[k] a (-1))) := fun h => by
    have h1 := has_chan hmt hha hk h
    obtain ⟨k', hk', e, _, _, _, _, h6⟩ := chanOk_parts h1
    obtain rfl : k' = k := by omega
    exact ⟨h1, h6⟩
  have HNO : Hid (turnOk ls[k] a (-1) = false → chanOk ls k a s p (-1) = false) := fun h => by
    cases hq : chanOk ls k a s p (-1) with
    | false => rfl
    | true =>
      obtain ⟨k', hk', e, _, _, _, h5, _⟩ := chanOk_parts hq
      obtain rfl : k' = k := by omega
      rw [h] at h5; cases h5
  have g1 : (k : Int) < (ls.length : Int) := by omega
  have g0 : (0 : Int) ≤ (k : Int) := by omega
  clear hmt hha hf hmb hhl
  go_enter Try.func48, Try.ntmps48
  go_wp2_with fail
  refine hc.mono ?_
  rintro e w1 ⟨rfl, hb1⟩
  have HB1 := Lib.hid hb1
  have f0 : w1.cell? ⟨w.heap.size, 0, none⟩ = some (.int .i64 (k : Int)) := (hb1.cell (p := ⟨w.heap.size, 0, none⟩) hs1).trans e0
  have f1 : w1.cell? ⟨w.heap.size, 1, none⟩ = some (.int .i64 a) := (hb1.cell (p := ⟨w.heap.size, 1, none⟩) hs1).trans e1
  have f2 : w1.cell? ⟨w.heap.size, 2, none⟩ = some (.int .i64 s) := (hb1.cell (p := ⟨w.heap.size, 2, none⟩) hs1).trans e2
  have f3 : w1.cell? ⟨w.heap.size, 3, none⟩ = some (.bool p) := (hb1.cell (p := ⟨w.heap.size, 3, none⟩) hs1).trans e3
  have hh1 := hh w1 (tab_below HV.out hb1)
  clear hc hb1 hh
  go_wp2_with fail
  refine hh1.mono ?_
  rintro e w2 ⟨rfl, hb2⟩
  have HB2 := Lib.hid (below_step9 HB1.out hb2)
  clear hh1 hb2 f0 f1 f2 f3
  have f0 : w2.cell? ⟨w.heap.size, 0, none⟩ = some (.int .i64 (k : Int)) := (HB2.out.cell (p := ⟨w.heap.size, 0, none⟩) hs1).trans e0
  have f1 : w2.cell? ⟨w.heap.size, 1, none⟩ = some (.int .i64 a) := (HB2.out.cell (p := ⟨w.heap.size, 1, none⟩) hs1).trans e1
  have hsw : w.heap.size < w2.heap.size := Nat.lt_of_lt_of_le hs1 HB2.out.size
  obtain ⟨b', off, au, cu, hveq, hblt, hcell, hu⟩ := tab_at (tab_below HV.out HB2.out) hk
  subst hveq
  have hd : ∀ wx, Held w2 wx → Calls Try.prog 20 #[.slice au ls[k].length cu, .int .i64 a] wx fun e w' => TurnV ls[k] a (-1) wx e w' := fun wx hx => decR_any _ ls[k] a wx (sl_below hu hx.2) (by omega)
  have HFIN0 := Lib.hid (fun w' (hb : Below W1.heap.size W1 w') => hb0.trans (hb.mono (Nat.le_of_lt hs1)))
  have Hs1 := Lib.hid hs1
  have HE0 := Lib.hid e0
  unfold TurnV at hd
  clear hu e0 e1 e2 e3
  cases ht : turnOk ls[k] a (-1) with
  | false =>
    have HN := Lib.hid (HNO.out ht)
    rw [ht] at hd
    clear HOK HNO ht
    generalize turnU ls[k] a (-1) = l2 at *
    generalize ls[k].length = xn at *
    go_wp2_with fail
    go_region_held3 (Held w2) (first | exact held_start | exact held_call (by assumption) (by first | assumption | exact held_start)) (first | (go_at_call 20; refine (hd _ (by first | assumption | exact held_start)).mono ?_; rintro e w' ⟨a5, c5, rfl, hu5, hb⟩))
    have hh : Held w2 w' := by assumption
    have HB5 := Lib.hid (HFIN0.out _ (below_step9 HB2.out hh.2))
    clear hh
    go_wp2_with fail
    refine bodyPost_ret (results_tmp2 rfl _ _ _) rfl ?_
    exact Hfin.out _ HB5.out HN.out
  | true =>
    have HY := Lib.hid (HOK.out ht)
    rw [ht] at hd
    clear HOK HNO ht
    generalize turnU ls[k] a (-1) = l2 at *
    generalize ls[k].length = xn at *
    go_wp2_with fail
    go_region_held3 (Held w2) (first | exact held_start | exact held_call (by assumption) (by first | assumption | exact held_start)) (first | (go_at_call 20; refine (hd _ (by first | assumption | exact held_start)).mono ?_; rintro e w' ⟨a5, c5, rfl, hu5, hb⟩))
    have hh : Held w2 w' := by assumption
    have HB5 := Lib.hid (below_step9 HB2.out hh.2)
    have hwi := with_any _ _ ls l2 k w' (tab_below HV.out HB5.out) hu5 hk Hf.out
    have f0' : w'.cell? ⟨w.heap.size, 0, none⟩ = some (.int .i64 (k : Int)) := (HB5.out.cell (p := ⟨w.heap.size, 0, none⟩) Hs1.out).trans HE0.out
    clear hh hu5 f1 hcell
    go_wp2_with fail
    refine hwi.mono ?_
    rintro e w6 ⟨a6, c6, rfl, ht6, hb6⟩
    have HB6 := Lib.hid (HFIN0.out _ (below_step9 HB5.out hb6))
    have HT6 := Lib.hid ht6
    clear hwi ht6 hb6
    go_wp2_with fail
    refine bodyPost_ret (results_tmp2 rfl _ _ _) rfl ?_
    unfold ChanV
    rw [HY.out.1, HY.out.2]
    exact ⟨a6, c6, by simp, by simpa using HT6.out, HB6.out⟩

set_option maxRecDepth 100000 in
set_option maxHeartbeats 4000000 in
theorem takeTRR_any (v : Value) (ls : List (List Us)) (n nt : Int) (w : World) (hv : TabV w v ls) (hf : FewT ls) :
    Calls Try.prog 46 #[v, .int .i64 n, .int .i64 nt] w fun e w' => TakeTV ls n nt w e w' := by
  have hc := mayTR_any v ls w hv hf
  have HV := Lib.hid hv
  have Hf := Lib.hid hf
  obtain ⟨hf1, hf2⟩ := hf
  obtain ⟨aX, cX, rfl, hnX, _⟩ := tab_shape hv
  clear hv hnX
  cases hm : mayT ls with
  | false =>
    have HE := Lib.hid (takeTR_no (n := n) (nt := nt) hm)
    rw [hm] at hc
    clear hm
    go_enter Try.func46, Try.ntmps46
    go_wp2_with fail
    refine hc.mono ?_
    rintro e w1 ⟨rfl, hb1⟩
    go_wp2_with fail
    refine bodyPost_ret (v := .tuple #[.slice none 0 0, .int .i64 0, .int .i64 0, .bool false]) (by simp [results, Try.results46, go_sem]) rfl ?_
    unfold TakeTV
    rw [HE.out]
    exact ⟨none, 0, rfl, tab_nil fun _ => rfl, hb1⟩
  | true =>
    rw [hm] at hc
    have HM := Lib.hid hm
    clear hm
    go_enter Try.func46, Try.ntmps46
    go_wp2_with fail
    refine hc.mono ?_
    rintro e w1 ⟨rfl, hb1⟩
    have HB1 := Lib.hid hb1
    clear hc hb1
    go_wp2_with fail
    go_loopw [10] (fun i wr => ∃ k : Nat, k ≤ ls.length ∧ i = .int .i64 k ∧ (∀ i, i < k → (decide ((i : Int) ≠ nt) && takeOk (ls.getD i []) n) = false) ∧ Below w.heap.size w wr) (fun i _ => ls.length - (intOf i).toNat)
    case atStart => exact ⟨0, Nat.zero_le _, rfl, fun i hi => by omega, HB1.out⟩
    case round =>
      clear HB1
      obtain ⟨k, hk, rfl, hn, hb⟩ := hrel
      have HN := Lib.hid hn
      have Hb := Lib.hid hb
      clear hn hb
      by_cases hlt : k < ls.length
      · obtain ⟨b, off, au, cu, hveq, hblt, hcell, hu⟩ := tab_at (tab_below HV.out Hb.out) hlt
        subst hveq
        have hmx := hf1 _ (List.getElem_mem hlt)
        have hd := takeR_any _ _ n wr hu (by omega)
        have g0 : (k : Int) < (ls.length : Int) := by omega
        have g1 : (0 : Int) ≤ (k : Int) := by omega
        have HX := Lib.hid (fun hq => slotT_next (n := n) (nt := nt) hlt hq HN.out)
        have HS := Lib.hid (fun hne ht => takeTR_some HM.out hlt (slotT_some (n := n) (nt := nt) hlt hne ht HN.out))
        clear hu
        unfold TakeV at hd
        cases ht : takeOk ls[k] n with
        | false =>
          have HX2 := Lib.hid (HX.out (Or.inr ht))
          rw [ht] at hd
          clear HX HS ht
          go_wp2_with fail
          refine hd.mono ?_
          rintro e w2 ⟨a2, c2, rfl, hu2, hb2⟩
          have HB2 := Lib.hid (below_step9 Hb.out hb2)
          clear hd hu2 hb2
          go_wp2_with fail
          exact ⟨⟨k + 1, by omega, by go_num, HX2.out, HB2.out⟩, by simp [intOf]; omega⟩
        | true =>
          rw [ht] at hd
          by_cases hq : (k : Int) = nt
          · have b1 : ((k : Int) != nt) = false := by simpa using hq
            have HX2 := Lib.hid (HX.out (Or.inl hq))
            clear HX HS ht hq
            go_wp2_with fail
            refine hd.mono ?_
            rintro e w2 ⟨a2, c2, rfl, hu2, hb2⟩
            have HB2 := Lib.hid (below_step9 Hb.out hb2)
            clear hd hu2 hb2
            go_wp2_with fail
            exact ⟨⟨k + 1, by omega, by go_num, HX2.out, HB2.out⟩, by simp [intOf]; omega⟩
          · have b1 : ((k : Int) != nt) = true := by simpa using hq
            have HE := Lib.hid (HS.out hq ht)
            clear HX HS ht hq
            generalize takeU ls[k] n = l2 at *
            generalize takeP ls[k] n = p2 at *
            generalize ls[k].length = xn at *
            go_wp2_with fail
            refine hd.mono ?_
            rintro e w2 ⟨a2, c2, rfl, hu2, hb2⟩
            have HB2 := Lib.hid (below_step9 Hb.out hb2)
            have hwi := with_any _ _ ls l2 k w2 (tab_below HV.out HB2.out) hu2 hlt Hf.out
            clear hd hu2 hb2
            go_wp2_with fail
            refine hwi.mono ?_
            rintro e w3 ⟨a3, c3, rfl, ht3, hb3⟩
            have HB3 := Lib.hid (below_step9 HB2.out hb3)
            have HT3 := Lib.hid ht3
            clear hwi ht3 hb3
            go_wp2_with fail
            refine bodyPost_ret (v := .tuple #[.slice a3 ls.length c3, .int .i64 k, .int .i64 p2, .bool true]) (by simp [results, Try.results46, go_sem]) rfl ?_
            unfold TakeTV
            rw [HE.out]
            exact ⟨a3, c3, by simp, by simpa using HT3.out, HB3.out⟩
      · obtain rfl : k = ls.length := by omega
        have HE := Lib.hid (takeTR_none (slotT_none HN.out))
        go_wp2_with fail
        refine bodyPost_ret (v := .tuple #[.slice none 0 0, .int .i64 0, .int .i64 0, .bool false]) (by simp [results, Try.results46, go_sem]) rfl ?_
        unfold TakeTV
        rw [HE.out]
        exact ⟨none, 0, rfl, tab_nil fun _ => rfl, Hb.out⟩
end Go.Proofs.Ytddbcpmhgjkjpaa
