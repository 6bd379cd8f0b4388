/- Contracts: is there an old slot; the document's turn, Inc, Dec. Conditions: numbers fit. -/
import Derived.Test.YtddbcpmhgjkjpaaSloG
namespace Go.Proofs.Ytddbcpmhgjkjpaa
open Go.RowKit

theorem hasOld_snoc (l : List Us) (x u : Us) : hasOld (l ++ [x]) u = (hasOld l u || decide (x.1 = u.1 ∧ x.2.1 = u.2.1 ∧ x.2.2.2 = true)) := by
  unfold hasOld; rw [List.any_append, List.any_cons, List.any_nil, Bool.or_false]
theorem hasOld_hit {l : List Us} {u : Us} {k : Nat} (hk : k < l.length) (h : l[k].1 = u.1 ∧ l[k].2.1 = u.2.1 ∧ l[k].2.2.2 = true) : hasOld l u = true :=
  hasOld_iff.2 ⟨l[k], List.getElem_mem hk, h⟩

set_option maxRecDepth 100000 in
set_option maxHeartbeats 4000000 in
theorem has_any (v : Value) (l : List Us) (P Q C : Int) (O : Bool) (w : World) (hv : UseV w v l) (hl : l.length ≤ 140737488355328) :
    Calls Try.prog 32 #[v, .agg #[.int .i64 P, .int .i64 Q, .int .i64 C, .bool O]] w fun e w' => e = .returned (.bool (hasOld l (P, Q, C, O))) ∧ Below w.heap.size w w' := by
  obtain ⟨w0, hw0⟩ : ∃ w0, w0 = w.alloc (.cells #[.int .i64 P, .int .i64 Q, .int .i64 C, .bool O] 41) := ⟨_, rfl⟩
  have hb0 : Below w.heap.size w w0 := by rw [hw0]; exact (Below.refl _ _).alloc (Nat.le_refl _) _
  have HV := Lib.hid (sl_below hv hb0)
  have HB0 := Lib.hid hb0
  have HP : Hid (w0.cell? ⟨w.heap.size, 0, none⟩ = some (.int .i64 P) ∧ w0.cell? ⟨w.heap.size, 1, none⟩ = some (.int .i64 Q)) := by
    unfold Hid; rw [hw0, World.cell?_alloc_new, World.cell?_alloc_new]; exact ⟨rfl, rfl⟩
  obtain ⟨aX, cX, rfl, hcX, hnX, hcellX⟩ := hv
  clear hcellX hnX hb0
  go_enter Try.func32, Try.ntmps32
  go_wp2_with fail
  rw [← hw0]
  clear hw0
  go_loopw [5] (fun i wr => ∃ k : Nat, k ≤ l.length ∧ i = .int .i64 k ∧ hasOld (l.take k) (P, Q, C, O) = false ∧ ∃ m, wr = w0.drewN m) (fun i _ => l.length - (intOf i).toNat)
  case atStart => exact ⟨0, Nat.zero_le _, rfl, rfl, 0, rfl⟩
  case round =>
    obtain ⟨k, hk, rfl, hno, m, hm⟩ := hrel
    by_cases hlt : k < l.length
    · obtain ⟨b0, off, hveq, hblt, e0, e1, e2, e3⟩ := use_at HV.out hlt
      subst hveq
      have E0 : wr.cell? ⟨b0, off + k * 4, none⟩ = some (.int .i64 l[k].1) := by rw [hm]; exact e0
      have E1 : wr.cell? ⟨b0, off + k * 4 + 1, none⟩ = some (.int .i64 l[k].2.1) := by rw [hm]; exact e1
      have E3 : wr.cell? ⟨b0, off + k * 4 + 3, none⟩ = some (.bool l[k].2.2.2) := by rw [hm]; exact e3
      have F0 : wr.cell? ⟨w.heap.size, 0, none⟩ = some (.int .i64 P) := by rw [hm]; exact HP.out.1
      have F1 : wr.cell? ⟨w.heap.size, 1, none⟩ = some (.int .i64 Q) := by rw [hm]; exact HP.out.2
      have Hhit := Lib.hid (hasOld_hit (u := (P, Q, C, O)) hlt)
      have Hmiss : Hid (¬ (l[k].1 = P ∧ l[k].2.1 = Q ∧ l[k].2.2.2 = true) → hasOld (l.take (k + 1)) (P, Q, C, O) = false) := by
        intro h
        rw [List.take_succ_eq_append_getElem hlt, hasOld_snoc, hno, Bool.false_or]
        exact decide_eq_false h
      have Hm := Lib.hid hm
      have g0 : (k : Int) < (l.length : Int) := by omega
      have g1 : (0 : Int) ≤ (k : Int) := by omega
      have HBm := Lib.hid (below_drewN9 HB0.out m)
      clear e0 e1 e2 e3 hm hno
      generalize l[k] = x at *
      obtain ⟨p, q, c, o⟩ := x
      dsimp only at E0 E1 E3 Hhit Hmiss
      by_cases h1 : p = P
      · have b1 : (p == P) = true := by simpa using h1
        by_cases h2 : q = Q
        · have b2 : (q == Q) = true := by simpa using h2
          cases o with
          | true =>
            have HH := Lib.hid (Hhit.out ⟨h1, h2, rfl⟩)
            clear h1 h2
            go_wp2_with fail
            go_quiet (fail)
            go_wp2_with fail
            go_ret
            exact ⟨by rw [HH.out]; rfl, by rw [Hm.out]; exact below_drewN9 HBm.out _⟩
          | false =>
            have HH := Lib.hid (Hmiss.out (by intro h; cases h.2.2))
            clear h1 h2
            go_wp2_with fail
            go_quiet (fail)
            go_wp2_with fail
            exact ⟨⟨k + 1, by omega, by go_num, HH.out, _, by rw [Hm.out]; simp only [World.drewN_drewN]; rfl⟩, by simp [intOf]; omega⟩
        · have b2 : (q == Q) = false := by simpa using h2
          have HH := Lib.hid (Hmiss.out (fun h => h2 h.2.1))
          clear h1 h2
          go_wp2_with fail
          go_quiet (fail)
          go_wp2_with fail
          exact ⟨⟨k + 1, by omega, by go_num, HH.out, _, by rw [Hm.out]; simp only [World.drewN_drewN]; rfl⟩, by simp [intOf]; omega⟩
      · have b1 : (p == P) = false := by simpa using h1
        have HH := Lib.hid (Hmiss.out (fun h => h1 h.1))
        clear h1
        go_wp2_with fail
        go_quiet (fail)
        go_wp2_with fail
        exact ⟨⟨k + 1, by omega, by go_num, HH.out, _, by rw [Hm.out]; simp only [World.drewN_drewN]; rfl⟩, by simp [intOf]; omega⟩
    · obtain rfl : k = l.length := by omega
      have HN : Hid (hasOld l (P, Q, C, O) = false) := by unfold Hid; rw [List.take_length] at hno; exact hno
      have Hm := Lib.hid hm
      clear hm hno
      go_wp2_with fail
      go_ret
      exact ⟨by rw [HN.out]; rfl, by rw [Hm.out]; exact below_drewN9 HB0.out m⟩

theorem turnL_snoc (l : List Us) (u : Us) (a b : Int) : turnL (l ++ [u]) a b = turnL l a b ++ (if keepU (turn1 a b u) = true then [turn1 a b u] else []) := by
  unfold turnL
  rw [List.map_append, List.filter_append]
  by_cases h : keepU (turn1 a b u) = true <;> simp [h]
theorem turnL_le (l : List Us) (a b : Int) : (turnL l a b).length ≤ l.length := by
  unfold turnL
  refine Nat.le_trans (List.length_filter_le _ _) ?_
  rw [List.length_map]; exact Nat.le_refl _
theorem turnOk_no {l : List Us} {a b : Int} (h : ¬ (mayU l = true ∧ countU l a ≠ 0 ∧ countU l a + b ≤ 1000000)) : turnOk l a b = false := by
  cases hq : turnOk l a b with
  | false => rfl
  | true =>
    have := turnOk_parts hq
    exact absurd ⟨this.1, by omega, this.2.2⟩ h
theorem turnOk_yes {l : List Us} {a b : Int} (h : mayU l = true ∧ countU l a ≠ 0 ∧ countU l a + b ≤ 1000000) : turnOk l a b = true := by
  unfold turnOk
  rw [h.1, decide_eq_true h.2.1, decide_eq_true h.2.2]; rfl

set_option maxRecDepth 100000 in
set_option maxHeartbeats 8000000 in
theorem turn_any (v : Value) (l : List Us) (x b : Int) (w : World) (hv : UseV w v l) (hl : l.length ≤ 140737488355328) (hb : -1 ≤ b ∧ b ≤ 1) :
    Calls Try.prog 59 #[v, .int .i64 x, .int .i64 b] w fun e w' => ∃ a cap, e = .returned (.tuple #[.slice a (turnU l x b).length cap, .bool (turnOk l x b)]) ∧ UseV w' (.slice a (turnU l x b).length cap) (turnU l x b) ∧ Below w.heap.size w w' := by
  obtain ⟨i0, hi, hz0, hz1, hz2⟩ := info_parts info_use
  have hm := mayR_any v l w hv hl
  have HC := Lib.hid (fun w' (h : Below w.heap.size w w') => countR_any v l x w' (sl_below hv h) hl)
  have HV := Lib.hid hv
  obtain ⟨aX, cX, rfl, hcX, hnX, hcellX⟩ := hv
  clear hcellX hnX
  have Hno : Hid (turnOk l x b = false → turnU l x b = []) := fun h => by unfold turnU; rw [h]; rfl
  cases hmay : mayU l with
  | false =>
    rw [hmay] at hm
    have HK := Lib.hid (turnOk_no (l := l) (a := x) (b := b) (fun h => by rw [hmay] at h; cases h.1))
    have HU := Lib.hid (Hno.out HK.out)
    clear hmay
    go_enter Try.func59, Try.ntmps59
    go_wp2_with fail
    refine hm.mono ?_
    rintro e w1 ⟨rfl, hb1⟩
    go_wp2_with fail
    refine bodyPost_ret (results_tmp2 rfl _ _ _) rfl ?_
    rw [HU.out, HK.out]
    exact ⟨none, 0, rfl, sl_nil fun _ => rfl, hb1⟩
  | true =>
    rw [hmay] at hm
    have hcr := countU_rg hmay x
    have HM := Lib.hid hmay
    have hl16 := mayU_len hmay
    clear hmay
    by_cases hc0 : countU l x = 0
    · have HK := Lib.hid (turnOk_no (l := l) (a := x) (b := b) (fun h => h.2.1 hc0))
      have HU := Lib.hid (Hno.out HK.out)
      have HCc := HC.out
      rw [hc0] at HCc
      have HC2 := Lib.hid HCc
      clear hc0 HCc hcr
      go_enter Try.func59, Try.ntmps59
      go_wp2_with fail
      refine hm.mono ?_
      rintro e w1 ⟨rfl, hb1⟩
      go_wp2_with fail
      refine (HC2.out _ hb1).mono ?_
      rintro e w2 ⟨rfl, rfl⟩
      go_wp2_with fail
      refine bodyPost_ret (results_tmp2 rfl _ _ _) rfl ?_
      rw [HU.out, HK.out]
      exact ⟨none, 0, rfl, sl_nil fun _ => rfl, hb1⟩
    by_cases hc1 : 1000000 < countU l x + b
    · have HK := Lib.hid (turnOk_no (l := l) (a := x) (b := b) (fun h => by omega))
      have HU := Lib.hid (Hno.out HK.out)
      have d0 : (countU l x == 0) = false := by simpa using hc0
      have d1 : decide (1000000 < countU l x + b) = true := by simpa using hc1
      generalize countU l x = n at *
      clear hc0
      go_enter Try.func59, Try.ntmps59
      go_wp2_with fail
      refine hm.mono ?_
      rintro e w1 ⟨rfl, hb1⟩
      go_wp2_with fail
      refine (HC.out _ hb1).mono ?_
      rintro e w2 ⟨rfl, rfl⟩
      go_wp2_with fail
      refine (HC.out _ hb1).mono ?_
      rintro e w2 ⟨rfl, rfl⟩
      go_wp2_with fail
      refine bodyPost_ret (results_tmp2 rfl _ _ _) rfl ?_
      rw [HU.out, HK.out]
      exact ⟨none, 0, rfl, sl_nil fun _ => rfl, hb1⟩
    · have HK := Lib.hid (turnOk_yes (l := l) (a := x) (b := b) ⟨HM.out, hc0, by omega⟩)
      have HU : Hid (turnU l x b = turnL l x b) := by unfold Hid turnU; rw [HK.out]; rfl
      have HOne := Lib.hid (mayU_iff.1 HM.out).1
      have d0 : (countU l x == 0) = false := by simpa using hc0
      have d1 : decide (1000000 < countU l x + b) = false := by simpa using hc1
      generalize countU l x = n at *
      clear hc0
      go_enter Try.func59, Try.ntmps59
      go_wp2_with fail
      refine hm.mono ?_
      rintro e w1 ⟨rfl, hb1⟩
      go_wp2_with fail
      refine (HC.out _ hb1).mono ?_
      rintro e w2 ⟨rfl, rfl⟩
      go_wp2_with fail
      refine (HC.out _ hb1).mono ?_
      rintro e w2 ⟨rfl, rfl⟩
      have HE := Lib.hid (owns_empty w1 41 4)
      have Hb1 := Lib.hid hb1
      have hs1 := hb1.size
      clear hb1 hm HC
      go_wp2_with fail
      clear d0 d1 hc1 hcr
      go_loopw [8, 9] (fun vo i wr => ∃ k : Nat, k ≤ l.length ∧ i = .int .i64 k ∧ wr.ownsRow w.heap.size 41 4 vo (turnL (l.take k) x b).length (cells4 (turnL (l.take k) x b)) ∧ Below w.heap.size w wr) (fun _ i _ => l.length - (intOf i).toNat)
      case atStart => exact ⟨0, Nat.zero_le _, rfl, owns_base HE.out hs1, Hb1.out.alloc hs1 _⟩
      case round =>
        clear Hb1 HE
        obtain ⟨k, hk, rfl, hown, hbw⟩ := hrel
        obtain ⟨a0, c0, rfl, _⟩ := owns_shape hown
        have Hown := Lib.hid hown
        have Hb := Lib.hid hbw
        clear hown hbw
        by_cases hlt : k < l.length
        · obtain ⟨b0, off, hveq, hblt, cells⟩ := use_at (sl_below HV.out Hb.out) hlt
          subst hveq
          obtain ⟨e0, e1, e2, e3⟩ := cells
          have HN : Hid (turnL (l.take (k + 1)) x b = turnL (l.take k) x b ++ (if keepU (turn1 x b l[k]) = true then [turn1 x b l[k]] else [])) := by unfold Hid; rw [List.take_succ_eq_append_getElem hlt]; exact turnL_snoc _ _ _ _
          have hle := turnL_le (l.take k) x b
          have hle2 : (l.take k).length ≤ k := List.length_take_le _ _
          have hsz := Hb.out.size
          have hone := oneU_iff.1 (HOne.out l[k] (List.getElem_mem hlt))
          have g0 : (k : Int) < (l.length : Int) := by omega
          have g1 : (0 : Int) ≤ (k : Int) := by omega
          generalize l[k] = u at *
          generalize turnL (l.take k) x b = L0 at *
          obtain ⟨p, q, c, o⟩ := u
          dsimp only at e0 e1 e2 e3 hone
          obtain ⟨_, _, _, _, o5, o6, _⟩ := hone
          by_cases hpx : p = x
          · have b1 : (p == x) = true := by simpa using hpx
            have HT : Hid (turn1 x b (p, q, c, o) = (p, q, c + b, o)) := by unfold Hid turn1; rw [if_pos hpx]
            clear hpx
            cases hkp : (decide (0 < c + b) || o) with
            | true =>
              have HN2 : Hid (turnL (l.take (k + 1)) x b = L0 ++ [(p, q, c + b, o)]) := by
                unfold Hid; rw [HN.out, HT.out, if_pos]; exact hkp
              rcases (show decide (0 < c + b) = true ∨ (decide (0 < c + b) = false ∧ o = true) by cases h : decide (0 < c + b) <;> simp_all) with b2 | ⟨b2, rfl⟩
              · clear hkp
                go_wp2_with (first
                  | (at_builtin; refine wpList_append_own _ rfl _ _ 22 rfl w.heap.size 41 i0 _ 4 32 Try.underlying22 hi hz0 hz1 hz2 rfl (by decide) (.slice a0 L0.length c0) _ _ rfl ((Hown.out.alloc _).alloc _) ⟨wr.heap.size + 1, 0, none⟩ 1 1 (useE (p, q, c + b, o)) rfl rfl (by have h := cells_four9 (wr.alloc (.cells #[.int .i64 p, .int .i64 q, .int .i64 (c + b), .bool o] 41)) (p, q, c + b, o) 41; rw [asz9] at h; exact h) (useE_one _) (by simp [maxLen]; omega) (by omega) (by simp; omega) ?_
                     intro v3 w3 hown3 hg3 _
                     have hb3 := ((Hb.out.alloc hsz _).alloc (by simp; omega) _).grown hg3 (by simp; omega) (fun b hbk => owns_block Hown.out b hbk)
                     have HO3 := Lib.hid hown3
                     have HB3 := Lib.hid hb3
                     clear hown3 hg3 hb3)
                  | fail)
                exact ⟨⟨k + 1, by omega, by go_num, by rw [HN2.out, cells4_append, List.length_append]; exact HO3.out, HB3.out⟩, by simp [intOf]; omega⟩
              · clear hkp
                go_wp2_with (first
                  | (at_builtin; refine wpList_append_own _ rfl _ _ 22 rfl w.heap.size 41 i0 _ 4 32 Try.underlying22 hi hz0 hz1 hz2 rfl (by decide) (.slice a0 L0.length c0) _ _ rfl ((Hown.out.alloc _).alloc _) ⟨wr.heap.size + 1, 0, none⟩ 1 1 (useE (p, q, c + b, true)) rfl rfl (by have h := cells_four9 (wr.alloc (.cells #[.int .i64 p, .int .i64 q, .int .i64 (c + b), .bool true] 41)) (p, q, c + b, true) 41; rw [asz9] at h; exact h) (useE_one _) (by simp [maxLen]; omega) (by omega) (by simp; omega) ?_
                     intro v3 w3 hown3 hg3 _
                     have hb3 := ((Hb.out.alloc hsz _).alloc (by simp; omega) _).grown hg3 (by simp; omega) (fun b hbk => owns_block Hown.out b hbk)
                     have HO3 := Lib.hid hown3
                     have HB3 := Lib.hid hb3
                     clear hown3 hg3 hb3)
                  | fail)
                exact ⟨⟨k + 1, by omega, by go_num, by rw [HN2.out, cells4_append, List.length_append]; exact HO3.out, HB3.out⟩, by simp [intOf]; omega⟩
            | false =>
              have HN2 : Hid (turnL (l.take (k + 1)) x b = L0) := by
                unfold Hid; rw [HN.out, HT.out, if_neg, List.append_nil]; unfold keepU; rw [hkp]; decide
              rw [Bool.or_eq_false_iff] at hkp
              obtain ⟨b2, rfl⟩ := hkp
              go_wp2_with fail
              exact ⟨⟨k + 1, by omega, by go_num, by rw [HN2.out]; exact Hown.out.alloc _, Hb.out.alloc hsz _⟩, by simp [intOf]; omega⟩
          · have b1 : (p == x) = false := by simpa using hpx
            have HT : Hid (turn1 x b (p, q, c, o) = (p, q, c, o)) := by unfold Hid turn1; rw [if_neg hpx]
            clear hpx
            cases hkp : (decide (0 < c) || o) with
            | true =>
              have HN2 : Hid (turnL (l.take (k + 1)) x b = L0 ++ [(p, q, c, o)]) := by
                unfold Hid; rw [HN.out, HT.out, if_pos]; exact hkp
              rcases (show decide (0 < c) = true ∨ (decide (0 < c) = false ∧ o = true) by cases h : decide (0 < c) <;> simp_all) with b2 | ⟨b2, rfl⟩
              · clear hkp
                go_wp2_with (first
                  | (at_builtin; refine wpList_append_own _ rfl _ _ 22 rfl w.heap.size 41 i0 _ 4 32 Try.underlying22 hi hz0 hz1 hz2 rfl (by decide) (.slice a0 L0.length c0) _ _ rfl ((Hown.out.alloc _).alloc _) ⟨wr.heap.size + 1, 0, none⟩ 1 1 (useE (p, q, c, o)) rfl rfl (by have h := cells_four9 (wr.alloc (.cells #[.int .i64 p, .int .i64 q, .int .i64 c, .bool o] 41)) (p, q, c, o) 41; rw [asz9] at h; exact h) (useE_one _) (by simp [maxLen]; omega) (by omega) (by simp; omega) ?_
                     intro v3 w3 hown3 hg3 _
                     have hb3 := ((Hb.out.alloc hsz _).alloc (by simp; omega) _).grown hg3 (by simp; omega) (fun b hbk => owns_block Hown.out b hbk)
                     have HO3 := Lib.hid hown3
                     have HB3 := Lib.hid hb3
                     clear hown3 hg3 hb3)
                  | fail)
                exact ⟨⟨k + 1, by omega, by go_num, by rw [HN2.out, cells4_append, List.length_append]; exact HO3.out, HB3.out⟩, by simp [intOf]; omega⟩
              · clear hkp
                go_wp2_with (first
                  | (at_builtin; refine wpList_append_own _ rfl _ _ 22 rfl w.heap.size 41 i0 _ 4 32 Try.underlying22 hi hz0 hz1 hz2 rfl (by decide) (.slice a0 L0.length c0) _ _ rfl ((Hown.out.alloc _).alloc _) ⟨wr.heap.size + 1, 0, none⟩ 1 1 (useE (p, q, c, true)) rfl rfl (by have h := cells_four9 (wr.alloc (.cells #[.int .i64 p, .int .i64 q, .int .i64 c, .bool true] 41)) (p, q, c, true) 41; rw [asz9] at h; exact h) (useE_one _) (by simp [maxLen]; omega) (by omega) (by simp; omega) ?_
                     intro v3 w3 hown3 hg3 _
                     have hb3 := ((Hb.out.alloc hsz _).alloc (by simp; omega) _).grown hg3 (by simp; omega) (fun b hbk => owns_block Hown.out b hbk)
                     have HO3 := Lib.hid hown3
                     have HB3 := Lib.hid hb3
                     clear hown3 hg3 hb3)
                  | fail)
                exact ⟨⟨k + 1, by omega, by go_num, by rw [HN2.out, cells4_append, List.length_append]; exact HO3.out, HB3.out⟩, by simp [intOf]; omega⟩
            | false =>
              have HN2 : Hid (turnL (l.take (k + 1)) x b = L0) := by
                unfold Hid; rw [HN.out, HT.out, if_neg, List.append_nil]; unfold keepU; rw [hkp]; decide
              rw [Bool.or_eq_false_iff] at hkp
              obtain ⟨b2, rfl⟩ := hkp
              go_wp2_with fail
              exact ⟨⟨k + 1, by omega, by go_num, by rw [HN2.out]; exact Hown.out.alloc _, Hb.out.alloc hsz _⟩, by simp [intOf]; omega⟩
        · obtain rfl : k = l.length := by omega
          have hown := Hown.out
          rw [List.take_length] at hown ⊢
          have HS := Lib.hid (use_of_owns hown).1
          clear hown
          go_wp2_with fail
          refine bodyPost_ret (results_tmp2 rfl _ _ _) rfl ?_
          rw [HU.out, HK.out]
          exact ⟨_, _, rfl, HS.out, Hb.out⟩
end Go.Proofs.Ytddbcpmhgjkjpaa
