/- Contracts: Take, the program's and the document's. Conditions: numbers fit. -/
import Derived.Test.YtddbcpmhgjkjpaaSloM
namespace Go.Proofs.Ytddbcpmhgjkjpaa
open Go.RowKit

theorem insU_all {l : List Us} {u : Us} (h : ∀ x ∈ l, x.1 < u.1) : insU l u = l ++ [u] := by
  induction l with
  | nil => rfl
  | cons y l ih => rw [insU, if_pos (h y (List.mem_cons_self ..)), ih (fun x hx => h x (List.mem_cons_of_mem _ hx))]; rfl
theorem insU_laid {a : List Us} {x u : Us} (h : ∃ y ∈ a, ¬ y.1 < u.1) : insU (a ++ [x]) u = insU a u ++ [x] := by
  induction a with
  | nil => obtain ⟨y, hy, _⟩ := h; cases hy
  | cons z a ih =>
    rw [List.cons_append, insU, insU]
    by_cases hz : z.1 < u.1
    · rw [if_pos hz, if_pos hz]
      obtain ⟨y, hy, hq⟩ := h
      rcases List.mem_cons.1 hy with rfl | hy
      · exact absurd hz hq
      · rw [ih ⟨y, hy, hq⟩]; rfl
    · rw [if_neg hz, if_neg hz]; rfl
theorem insU_mid {a : List Us} {x u : Us} (h : ∀ y ∈ a, y.1 < u.1) (hx : ¬ x.1 < u.1) : insU (a ++ [x]) u = a ++ [u] ++ [x] := by
  induction a with
  | nil => rw [List.nil_append, insU, if_neg hx]; rfl
  | cons z a ih => rw [List.cons_append, insU, if_pos (h z (List.mem_cons_self ..)), ih (fun y hy => h y (List.mem_cons_of_mem _ hy))]; rfl
theorem insU_betw {l : List Us} {u : Us} : ∀ {k : Nat}, k ≤ l.length → (∀ y ∈ l.take k, y.1 < u.1) → (∀ h : k < l.length, ¬ l[k].1 < u.1) → insU l u = betw l k u := by
  induction l with
  | nil => intro k _ _ _; cases k <;> rfl
  | cons y l ih =>
    intro k hk h1 h2
    cases k with
    | zero =>
      have := h2 (by simp)
      simp only [List.getElem_cons_zero] at this
      rw [insU, if_neg this]; rfl
    | succ k =>
      rw [insU, if_pos (h1 y (by simp)), ih (by simpa using hk) (fun z hz => h1 z (by rw [List.take_succ_cons]; exact List.mem_cons_of_mem _ hz)) (fun h => by have := h2 (by simpa using h); simpa using this)]
      rfl

abbrev TakeV (l : List Us) (n : Int) (w : World) (e : Ending) (w' : World) : Prop := ∃ a cap, e = .returned (.tuple #[.slice a (takeU l n).length cap, .int .i64 (takeP l n), .bool (takeOk l n)]) ∧ UseV w' (.slice a (takeU l n).length cap) (takeU l n) ∧ Below w.heap.size w w'
theorem take_no {l : List Us} {n : Int} (h : takeOk l n = false) : takeU l n = [] ∧ takeP l n = 0 := by unfold takeU takeP; rw [h]; exact ⟨rfl, rfl⟩
theorem take_yes {l : List Us} {n : Int} (h : takeOk l n = true) : takeU l n = insU l (takeAt l n, n, 1, false) ∧ takeP l n = takeAt l n := by unfold takeU takeP; rw [h]; exact ⟨rfl, rfl⟩
theorem takeOk_bad {l : List Us} {n : Int} (h : ¬ (mayU l = true ∧ 1 ≤ n ∧ n ≤ 8)) : takeOk l n = false := by
  unfold takeOk takeAt; rw [if_neg h]; rfl
theorem takeAt_in {l : List Us} {n : Int} (h : mayU l = true ∧ 1 ≤ n ∧ n ≤ 8) : takeAt l n = firstP (usedL l) n := by unfold takeAt; rw [if_pos h]

/-- What is told where nothing is taken. -/
theorem takeV_no {l : List Us} {n : Int} {w w' : World} (h : takeOk l n = false) (hb : Below w.heap.size w w') : TakeV l n w (.returned (.tuple #[.slice none 0 0, .int .i64 0, .bool false])) w' := by
  unfold TakeV
  rw [(take_no h).1, (take_no h).2, h]
  exact ⟨none, 0, rfl, sl_nil fun _ => rfl, hb⟩

set_option maxRecDepth 100000 in
set_option maxHeartbeats 8000000 in
theorem takeR_any (v : Value) (l : List Us) (n : Int) (w : World) (hv : UseV w v l) (hl : l.length ≤ 140737488355328) :
    Calls Try.prog 16 #[v, .int .i64 n] w fun e w' => TakeV l n w e w' := by
  obtain ⟨i0, hi, hz0, hz1, hz2⟩ := info_parts info_use
  have hm := mayR_any v l w hv hl
  have HUs := Lib.hid (fun w' (h : Below w.heap.size w w') => usedR_any v l w' (sl_below hv h) hl)
  have HV := Lib.hid hv
  obtain ⟨aX, cX, rfl, hcX, hnX, hcellX⟩ := hv
  clear hcellX hnX
  cases hmay : mayU l with
  | false =>
    rw [hmay] at hm
    have HK := Lib.hid (takeOk_bad (l := l) (n := n) (fun h => by rw [hmay] at h; cases h.1))
    clear hmay
    go_enter Try.func16, Try.ntmps16
    go_wp2_with fail
    refine hm.mono ?_
    rintro e w1 ⟨rfl, hb1⟩
    go_wp2_with fail
    refine bodyPost_ret (results_tmp3 rfl _ _ _) rfl ?_
    exact takeV_no HK.out hb1
  | true =>
    rw [hmay] at hm
    have HM := Lib.hid hmay
    have hl16 := mayU_len hmay
    clear hmay
    by_cases hn1 : n < 1
    · have HK := Lib.hid (takeOk_bad (l := l) (n := n) (fun h => by omega))
      have d1 : decide (n < 1) = true := by simpa using hn1
      go_enter Try.func16, Try.ntmps16
      go_wp2_with fail
      refine hm.mono ?_
      rintro e w1 ⟨rfl, hb1⟩
      go_wp2_with fail
      refine bodyPost_ret (results_tmp3 rfl _ _ _) rfl ?_
      exact takeV_no HK.out hb1
    by_cases hn8 : 8 < n
    · have HK := Lib.hid (takeOk_bad (l := l) (n := n) (fun h => by omega))
      have d1 : decide (n < 1) = false := by simpa using hn1
      have d2 : decide (8 < n) = true := by simpa using hn8
      go_enter Try.func16, Try.ntmps16
      go_wp2_with fail
      refine hm.mono ?_
      rintro e w1 ⟨rfl, hb1⟩
      go_wp2_with fail
      refine bodyPost_ret (results_tmp3 rfl _ _ _) rfl ?_
      exact takeV_no HK.out hb1
    have hin := Lib.hid (takeAt_in (l := l) (n := n) ⟨HM.out, by omega, by omega⟩)
    have HUL : Hid (usedU l = usedL l) := by unfold Hid usedU; rw [HM.out]; rfl
    have d1 : decide (n < 1) = false := by simpa using hn1
    have d2 : decide (8 < n) = false := by simpa using hn8
    cases hok : takeOk l n with
    | false =>
      have HK := Lib.hid hok
      have hneg : firstP (usedL l) n < 0 := by
        unfold takeOk at hok
        rw [hin.out] at hok
        simpa using hok
      clear hok
      obtain ⟨A, hA⟩ : ∃ A, firstP (usedL l) n = A := ⟨_, rfl⟩
      rw [hA] at hneg
      have HA := Lib.hid hA
      have d3 : decide (A < 0) = true := by simpa using hneg
      clear hA
      go_enter Try.func16, Try.ntmps16
      go_wp2_with fail
      refine hm.mono ?_
      rintro e w1 ⟨rfl, hb1⟩
      have hu := HUs.out _ hb1
      have Hb1 := Lib.hid hb1
      clear hm hb1
      go_wp2_with fail
      refine hu.mono ?_
      rintro e w2 ⟨a2, c2, rfl, hs2, hb2⟩
      have HB2 := Lib.hid (below_step9 Hb1.out hb2)
      rw [HUL.out] at hs2 ⊢
      have hf := rfirst_any _ (usedL l) n w2 hs2 (by rw [usedL_length]; omega)
      rw [usedL_length, HA.out] at hf
      rw [usedL_length]
      clear hu hb2 hs2
      go_wp2_with fail
      refine hf.mono ?_
      rintro e w3 ⟨rfl, rfl⟩
      go_wp2_with fail
      refine bodyPost_ret (results_tmp3 rfl _ _ _) rfl ?_
      exact takeV_no HK.out HB2.out
    | true =>
      obtain ⟨_, _, _, A, hA1, hA2, _⟩ := takeOk_parts hok
      have HK := Lib.hid hok
      have HA := Lib.hid hA2
      have HT : Hid (takeU l n = insU l ((A : Int), n, 1, false) ∧ takeP l n = (A : Int)) := by
        unfold Hid
        have := take_yes hok
        rw [hA1] at this; exact this
      have HNe : Hid (∀ x ∈ l, x.1 ≠ (A : Int)) := by
        have := take_ne hok
        rw [hA1] at this; exact this
      have d3 : decide ((A : Int) < 0) = false := by simp
      clear hok hA1 hA2
      go_enter Try.func16, Try.ntmps16
      go_wp2_with fail
      refine hm.mono ?_
      rintro e w1 ⟨rfl, hb1⟩
      have hu := HUs.out _ hb1
      have Hb1 := Lib.hid hb1
      clear hm hb1
      go_wp2_with fail
      refine hu.mono ?_
      rintro e w2 ⟨a2, c2, rfl, hs2, hb2⟩
      have HB2 := Lib.hid (below_step9 Hb1.out hb2)
      rw [HUL.out] at hs2 ⊢
      have hf := rfirst_any _ (usedL l) n w2 hs2 (by rw [usedL_length]; omega)
      rw [usedL_length, HA.out] at hf
      rw [usedL_length]
      have hbs := HB2.out.size
      have HE := Lib.hid (owns_base (owns_empty w2 41 4) hbs)
      clear hu hb2 hs2
      go_wp2_with fail
      refine hf.mono ?_
      rintro e w3 ⟨rfl, rfl⟩
      go_wp2_with fail
      clear d1 d2 d3
      go_loopw [8, 9, 10] (fun vo vl i wr => ∃ (k : Nat) (d : Bool) (O : List Us), k ≤ l.length ∧ i = .int .i64 k ∧ vl = .bool d ∧ O.length ≤ k + 1 ∧ wr.ownsRow w.heap.size 41 4 vo O.length (cells4 O) ∧ Below w.heap.size w wr ∧ (d = true → (∃ y ∈ l.take k, ¬ y.1 < (A : Int)) ∧ O = insU (l.take k) ((A : Int), n, 1, false)) ∧ (d = false → (∀ y ∈ l.take k, y.1 < (A : Int)) ∧ O = l.take k)) (fun _ _ i _ => l.length - (intOf i).toNat)
      case atStart => exact ⟨0, false, [], Nat.zero_le _, rfl, rfl, by simp, HE.out, HB2.out.alloc hbs _, nofun, fun _ => ⟨by simp, rfl⟩⟩
      case round =>
        clear HE HB2 hbs
        obtain ⟨k, d, O, hk, rfl, rfl, hOl, hown, hbw, hd1, hd0⟩ := hrel
        obtain ⟨a0, c0, rfl, _⟩ := owns_shape hown
        have Hown := Lib.hid hown
        have Hb := Lib.hid hbw
        have Hd1 := Lib.hid hd1
        have Hd0 := Lib.hid hd0
        clear hown hbw hd1 hd0
        by_cases hlt : k < l.length
        · obtain ⟨b0, off, hveq, hblt, e0, e1, e2, e3⟩ := use_at HV.out hlt
          subst hveq
          have HC : Hid (∀ W', Below w.heap.size w W' → W'.cell? ⟨b0, off + k * 4, none⟩ = some (.int .i64 l[k].1) ∧ W'.cell? ⟨b0, off + k * 4 + 1, none⟩ = some (.int .i64 l[k].2.1) ∧ W'.cell? ⟨b0, off + k * 4 + 2, none⟩ = some (.int .i64 l[k].2.2.1) ∧ W'.cell? ⟨b0, off + k * 4 + 3, none⟩ = some (.bool l[k].2.2.2)) := fun W' h =>
            ⟨(h.cell (p := ⟨b0, off + k * 4, none⟩) hblt).trans e0, (h.cell (p := ⟨b0, off + k * 4 + 1, none⟩) hblt).trans e1, (h.cell (p := ⟨b0, off + k * 4 + 2, none⟩) hblt).trans e2, (h.cell (p := ⟨b0, off + k * 4 + 3, none⟩) hblt).trans e3⟩
          clear e0 e1 e2 e3
          obtain ⟨e0, e1, e2, e3⟩ := HC.out _ Hb.out
          have Htk := Lib.hid (List.take_succ_eq_append_getElem hlt)
          have hne := HNe.out _ (List.getElem_mem hlt)
          have g0 : (k : Int) < (l.length : Int) := by omega
          have g1 : (0 : Int) ≤ (k : Int) := by omega
          generalize l[k] = u at *
          obtain ⟨p, q, c, o⟩ := u
          dsimp only at e0 e1 e2 e3 hne HC
          cases d with
          | true =>
            obtain ⟨h1, h2⟩ := Hd1.out rfl
            have HN : Hid ((∃ y ∈ l.take (k + 1), ¬ y.1 < (A : Int)) ∧ O ++ [(p, q, c, o)] = insU (l.take (k + 1)) ((A : Int), n, 1, false)) := by
              unfold Hid
              obtain ⟨y, hy, hq⟩ := h1
              rw [Htk.out]
              exact ⟨⟨y, List.mem_append_left _ hy, hq⟩, by rw [insU_laid ⟨y, hy, hq⟩, h2]⟩
            clear h1 h2 hne
            go_wp2_with (first
              | (at_builtin; refine wpList_append_own _ rfl _ _ 22 rfl w.heap.size 41 i0 _ 4 32 Try.underlying22 hi hz0 hz1 hz2 rfl (by decide) (.slice a0 O.length c0) _ _ rfl (Hown.out.alloc _) ⟨wr.heap.size, 0, none⟩ 1 1 (useE (p, q, c, o)) rfl rfl (cells_four9 wr (p, q, c, o) 41) (useE_one _) (by simp [maxLen]; omega) (by omega) (by have := Hb.out.size; simp; omega) ?_
                 intro v3 w3 hown3 hg3 _
                 have hb3 := (Hb.out.alloc Hb.out.size _).grown hg3 (by have := Hb.out.size; simp; omega) (fun b hbk => owns_block Hown.out b hbk)
                 have HOv3 := Lib.hid hown3
                 have HBv3 := Lib.hid hb3
                 clear hown3 hg3 hb3)
              | fail)
            exact ⟨⟨k + 1, true, O ++ [(p, q, c, o)], by omega, by go_num, rfl, by simp; omega, by rw [List.length_append, cells4_append]; exact HOv3.out, HBv3.out, fun _ => HN.out, nofun⟩, by simp [intOf]; omega⟩
          | false =>
            obtain ⟨h1, h2⟩ := Hd0.out rfl
            have hO2 : O.length ≤ k := by rw [h2]; exact List.length_take_le _ _
            by_cases hA : (A : Int) < p
            · have b1 : decide ((A : Int) < p) = true := by simpa using hA
              have HN : Hid ((∃ y ∈ l.take (k + 1), ¬ y.1 < (A : Int)) ∧ O ++ [((A : Int), n, 1, false)] ++ [(p, q, c, o)] = insU (l.take (k + 1)) ((A : Int), n, 1, false)) := by
                unfold Hid
                rw [Htk.out]
                refine ⟨⟨(p, q, c, o), List.mem_append_right _ (List.mem_singleton.2 rfl), by simp only; omega⟩, ?_⟩
                rw [insU_mid h1 (by simp only; omega), h2]
              clear h1 h2 hne
              go_wp2_with (first
                | (at_builtin; refine wpList_append_own _ rfl _ _ 22 rfl w.heap.size 41 i0 _ 4 32 Try.underlying22 hi hz0 hz1 hz2 rfl (by decide) (.slice a0 O.length c0) _ _ rfl (Hown.out.alloc _) ⟨wr.heap.size, 0, none⟩ 1 1 (useE ((A : Int), n, 1, false)) rfl rfl (cells_four9 wr ((A : Int), n, 1, false) 41) (useE_one _) (by simp [maxLen]; omega) (by omega) (by have := Hb.out.size; simp; omega) ?_
                   intro v3 w3 hown3 hg3 _
                   have hb3 := (Hb.out.alloc Hb.out.size _).grown hg3 (by have := Hb.out.size; simp; omega) (fun b hbk => owns_block Hown.out b hbk)
                   obtain ⟨e0, e1, e2, e3⟩ := HC.out _ hb3
                   have HOv3 := Lib.hid hown3
                   have HBv3 := Lib.hid hb3
                   clear hown3 hg3 hb3)
                | (at_builtin; refine wpList_append_own _ rfl _ _ 22 rfl w.heap.size 41 i0 _ 4 32 Try.underlying22 hi hz0 hz1 hz2 rfl (by decide) v3 _ _ rfl (HOv3.out.alloc _) ⟨w3.heap.size, 0, none⟩ 1 1 (useE (p, q, c, o)) rfl rfl (cells_four9 w3 (p, q, c, o) 41) (useE_one _) (by simp [maxLen]; omega) (by omega) (by have := HBv3.out.size; simp; omega) ?_
                   intro v4 w4 hown3 hg3 _
                   have hb3 := (HBv3.out.alloc HBv3.out.size _).grown hg3 (by have := HBv3.out.size; simp; omega) (fun b hbk => owns_block HOv3.out b hbk)
                   have HOv4 := Lib.hid hown3
                   have HBv4 := Lib.hid hb3
                   clear hown3 hg3 hb3)
                | fail)
              exact ⟨⟨k + 1, true, O ++ [((A : Int), n, 1, false)] ++ [(p, q, c, o)], by omega, by go_num, rfl, by simp; omega, by rw [List.length_append, List.length_append, cells4_append, cells4_append]; exact HOv4.out, HBv4.out, fun _ => HN.out, nofun⟩, by simp [intOf]; omega⟩
            · have b1 : decide ((A : Int) < p) = false := by simpa using hA
              have HN : Hid ((∀ y ∈ l.take (k + 1), y.1 < (A : Int)) ∧ O ++ [(p, q, c, o)] = l.take (k + 1)) := by
                unfold Hid
                rw [Htk.out]
                refine ⟨fun y hy => ?_, by rw [h2]⟩
                rcases List.mem_append.1 hy with hy | hy
                · exact h1 y hy
                · rw [List.mem_singleton.1 hy]; simp only; omega
              clear h1 h2 hne
              go_wp2_with (first
                | (at_builtin; refine wpList_append_own _ rfl _ _ 22 rfl w.heap.size 41 i0 _ 4 32 Try.underlying22 hi hz0 hz1 hz2 rfl (by decide) (.slice a0 O.length c0) _ _ rfl (Hown.out.alloc _) ⟨wr.heap.size, 0, none⟩ 1 1 (useE (p, q, c, o)) rfl rfl (cells_four9 wr (p, q, c, o) 41) (useE_one _) (by simp [maxLen]; omega) (by omega) (by have := Hb.out.size; simp; omega) ?_
                   intro v3 w3 hown3 hg3 _
                   have hb3 := (Hb.out.alloc Hb.out.size _).grown hg3 (by have := Hb.out.size; simp; omega) (fun b hbk => owns_block Hown.out b hbk)
                   have HOv3 := Lib.hid hown3
                   have HBv3 := Lib.hid hb3
                   clear hown3 hg3 hb3)
                | fail)
              exact ⟨⟨k + 1, false, O ++ [(p, q, c, o)], by omega, by go_num, rfl, by simp; omega, by rw [List.length_append, cells4_append]; exact HOv3.out, HBv3.out, nofun, fun _ => HN.out⟩, by simp [intOf]; omega⟩
        · obtain rfl : k = l.length := by omega
          cases d with
          | true =>
            have h2 := (Hd1.out rfl).2
            rw [List.take_length] at h2
            subst h2
            have HS := Lib.hid (use_of_owns Hown.out).1
            clear hOl
            go_wp2_with fail
            refine bodyPost_ret (results_tmp3 rfl _ _ _) rfl ?_
            unfold TakeV
            rw [HT.out.1, HT.out.2, HK.out]
            exact ⟨_, _, rfl, HS.out, Hb.out⟩
          | false =>
            obtain ⟨h1, h2⟩ := Hd0.out rfl
            rw [List.take_length] at h1 h2
            have HN : Hid (insU l ((A : Int), n, 1, false) = O ++ [((A : Int), n, 1, false)]) := by unfold Hid; rw [insU_all h1, h2]
            clear h1 h2
            go_wp2_with (first
              | (at_builtin; refine wpList_append_own _ rfl _ _ 22 rfl w.heap.size 41 i0 _ 4 32 Try.underlying22 hi hz0 hz1 hz2 rfl (by decide) (.slice a0 O.length c0) _ _ rfl (Hown.out.alloc _) ⟨wr.heap.size, 0, none⟩ 1 1 (useE ((A : Int), n, 1, false)) rfl rfl (cells_four9 wr ((A : Int), n, 1, false) 41) (useE_one _) (by simp [maxLen]; omega) (by omega) (by have := Hb.out.size; simp; omega) ?_
                 intro v3 w3 hown3 hg3 _
                 have hb3 := (Hb.out.alloc Hb.out.size _).grown hg3 (by have := Hb.out.size; simp; omega) (fun b hbk => owns_block Hown.out b hbk)
                 have HOv3 := Lib.hid hown3
                 have HBv3 := Lib.hid hb3
                 clear hown3 hg3 hb3)
              | fail)
            refine bodyPost_ret (results_tmp3 rfl _ _ _) rfl ?_
            unfold TakeV
            obtain ⟨a9, c9, rfl, _⟩ := owns_shape HOv3.out
            have hO9 : w3.ownsRow w.heap.size 41 4 (.slice a9 (O.length + 1) c9) (O.length + 1) (cells4 (O ++ [((A : Int), n, 1, false)])) := by rw [cells4_append]; exact HOv3.out
            obtain ⟨hs9, hl9⟩ := use_of_owns hO9
            rw [HT.out.1, HT.out.2, HK.out, HN.out, ← hl9]
            exact ⟨_, _, rfl, hs9, HBv3.out⟩
end Go.Proofs.Ytddbcpmhgjkjpaa
