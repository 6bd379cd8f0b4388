/- The contract of the document's Codes. Conditions: numbers fit. -/
import Derived.Test.YtdbhmffiojchcaaCanF
namespace Go.Proofs.Ytdbhmffiojchcaa
open Go.RowKit

/-- The codes that are laid, where the lengths below n are, and of the length n the first i symbols. -/
def refTo (l : List Int) (n i : Nat) : List (Int × Int) := (List.range l.length).map fun s => if l[s]?.getD 0 < (n : Int) ∨ (l[s]?.getD 0 = (n : Int) ∧ s < i) then codeAt l s else (0, 0)
theorem refTo_length (l : List Int) (n i : Nat) : (refTo l n i).length = l.length := by simp [refTo]
theorem refTo_start {l : List Int} (h : ∀ x ∈ l, 0 ≤ x ∧ x ≤ 15) : refTo l 1 0 = List.replicate l.length (0, 0) := by
  apply List.ext_getElem
  · simp [refTo]
  · intro i h1 h2
    have hi : i < l.length := by simpa [refTo] using h1
    have := h l[i] (List.getElem_mem hi)
    simp only [refTo, List.getElem_map, List.getElem_range, List.getElem_replicate]
    by_cases h0 : l[i] = 0
    · simp [codeAt, List.getElem?_eq_getElem hi, h0]
    · rw [if_neg]
      rw [List.getElem?_eq_getElem hi, Option.getD_some]; omega
theorem refTo_end {l : List Int} (h : ∀ x ∈ l, 0 ≤ x ∧ x ≤ 15) : refTo l 16 0 = codesL l := by
  apply List.ext_getElem
  · simp [refTo, codesL]
  · intro i h1 h2
    have hi : i < l.length := by simpa [refTo] using h1
    have := h l[i] (List.getElem_mem hi)
    simp only [refTo, codesL, List.getElem_map, List.getElem_range]
    rw [if_pos]
    rw [List.getElem?_eq_getElem hi, Option.getD_some]; omega
theorem refTo_next (l : List Int) (n : Nat) : refTo l n l.length = refTo l (n + 1) 0 := by
  apply List.ext_getElem
  · simp [refTo]
  · intro i h1 h2
    have hi : i < l.length := by simpa [refTo] using h1
    simp only [refTo, List.getElem_map, List.getElem_range]
    have : (l[i]?.getD 0 < (n : Int) ∨ (l[i]?.getD 0 = (n : Int) ∧ i < l.length)) ↔ (l[i]?.getD 0 < ((n + 1 : Nat) : Int) ∨ (l[i]?.getD 0 = ((n + 1 : Nat) : Int) ∧ i < 0)) := by omega
    simp only [this]
theorem refTo_skip {l : List Int} {n i : Nat} (hi : i < l.length) (h : l[i] ≠ n) : refTo l n i = refTo l n (i + 1) := by
  apply List.ext_getElem
  · simp [refTo]
  · intro s h1 h2
    simp only [refTo, List.getElem_map, List.getElem_range]
    have : (l[s]?.getD 0 < (n : Int) ∨ (l[s]?.getD 0 = (n : Int) ∧ s < i)) ↔ (l[s]?.getD 0 < (n : Int) ∨ (l[s]?.getD 0 = (n : Int) ∧ s < i + 1)) := by
      by_cases e : s = i
      · subst e; rw [List.getElem?_eq_getElem hi, Option.getD_some]; omega
      · omega
    simp only [this]
theorem refTo_set {l : List Int} {n i : Nat} (hi : i < l.length) (h : l[i] = n) : (refTo l n i).set i (codeAt l i) = refTo l n (i + 1) := by
  apply List.ext_getElem
  · simp [refTo]
  · intro s h1 h2
    rw [List.getElem_set]
    simp only [refTo, List.getElem_map, List.getElem_range]
    by_cases e : i = s
    · subst e
      rw [if_pos rfl, if_pos]
      rw [List.getElem?_eq_getElem hi, Option.getD_some]; omega
    · rw [if_neg e]
      have : (l[s]?.getD 0 < (n : Int) ∨ (l[s]?.getD 0 = (n : Int) ∧ s < i)) ↔ (l[s]?.getD 0 < (n : Int) ∨ (l[s]?.getD 0 = (n : Int) ∧ s < i + 1)) := by omega
      simp only [this]
theorem code_next {l : List Int} {n i : Nat} (hi : i < l.length) (h : l[i] = n) (hn : 0 < n) : codeAt l i = ((n : Int), firstC l n + cntL (l.take i) n) := by
  have := nextB_code hi h hn
  rw [this]
  unfold nextB
  rw [if_neg (by omega)]
theorem cnt_skip {l : List Int} {n i : Nat} (hi : i < l.length) (h : l[i] ≠ n) : cntL (l.take (i + 1)) n = cntL (l.take i) n := by
  rw [List.take_succ_eq_append_getElem hi, cntL_snoc, if_neg h, Nat.add_zero]
theorem cnt_same {l : List Int} {n i : Nat} (hi : i < l.length) (h : l[i] = n) : cntL (l.take (i + 1)) n = cntL (l.take i) n + 1 := by
  rw [List.take_succ_eq_append_getElem hi, cntL_snoc, if_pos h]

theorem owns_addr {w : World} {base e n size cap : Nat} {a : Option Addr} {cs : List Value} (h : w.ownsRow base e size (.slice a n cap) n cs) (hn : 0 < n) : ∃ g, a = some ⟨g, 0, none⟩ ∧ base ≤ g := by
  obtain ⟨_, h⟩ := h
  rcases h with ⟨_, h0⟩ | ⟨g, cap', cur, hv, hg, _⟩
  · omega
  · injection hv with h1 _ _
    exact ⟨g, h1, hg⟩
theorem cells_two_new (w : World) (x y : Value) (t : TypeId) : ∀ j u, [x, y][j]? = some u → (w.alloc (.cells #[x, y] t)).cell? ((⟨w.heap.size, 0, none⟩ : Addr).add j) = some u := by
  intro j u hj
  rw [add_none, Nat.zero_add, World.cell?_alloc_new]
  simpa using hj
theorem codeE_one (c : Int × Int) : ∀ u ∈ codeE c, u.oneCell' = true := by
  intro u hu
  simp only [codeE, List.mem_cons, List.not_mem_nil, or_false] at hu
  rcases hu with rfl | rfl <;> rfl
theorem rep_snoc (k : Nat) : cellsC (List.replicate k (0, 0)) ++ codeE (0, 0) = cellsC (List.replicate (k + 1) (0, 0)) := by
  rw [List.replicate_succ', cellsC_append]; rfl

set_option maxRecDepth 100000 in
set_option maxHeartbeats 4000000 in
theorem codesR_any (v : Value) (l : List Int) (w : World) (hv : SlOf w v 1 (fun x => [.int .i64 x]) l) (hl : l.length ≤ 140737488355328) :
    Calls Try.prog 19 #[v] w fun e w' => ∃ v', e = .returned (.tuple #[v', .bool (lensOk l)]) ∧ SlOf w' v' 2 codeE (codesR l) ∧ Below w.heap.size w w' := by
  obtain ⟨i0, hi, hz0, hz1, hz2⟩ := info_parts info_code
  have hv0 := hv
  obtain ⟨aX, cX, rfl, hcX, hnX, hcellX⟩ := hv
  have HV := Lib.hid hv0
  clear hv0 hcellX hnX
  by_cases h300 : 300 < l.length
  · have hbad : lensOk l = false := by
      cases h : lensOk l with
      | false => rfl
      | true => have := (lensOk_parts h).1; omega
    have HBad := Lib.hid hbad
    clear hbad
    have g0 : (300 : Int) < (l.length : Int) := by omega
    go_enter Try.func19, Try.ntmps19
    go_wp2_with fail
    refine bodyPost_ret (results_tmp2 rfl _ _ _) rfl ?_
    exact ⟨.slice none 0 0, by rw [HBad.out]; rfl, by rw [codesR_no HBad.out]; exact sl_nil (fun _ => rfl), Below.refl _ _⟩
  · have g0 : ¬ (300 : Int) < (l.length : Int) := by omega
    have HE := Lib.hid (owns_empty w 53 2)
    go_enter Try.func19, Try.ntmps19
    go_wp2_with fail
    go_loopw [4, 5] (fun out i wr => ∃ k : Nat, k ≤ l.length ∧ i = .int .i64 k ∧ wr.ownsRow w.heap.size 53 2 out k (cellsC (List.replicate k (0, 0))) ∧ Below w.heap.size w wr ∧ ∀ x ∈ l.take k, 0 ≤ x ∧ x ≤ 15) (fun _ i _ => l.length - (intOf i).toNat)
    case atStart => exact ⟨0, Nat.zero_le _, rfl, HE.out, (Below.refl _ _).alloc (Nat.le_refl _) _, by simp⟩
    case round =>
      obtain ⟨k, hk, rfl, hown, hb, hall⟩ := hrel
      obtain ⟨a0, c0, rfl, _⟩ := owns_shape hown
      have Hall := Lib.hid hall
      have Hown := Lib.hid hown
      have Hb := Lib.hid hb
      clear hall hown hb HE
      by_cases hlt : k < l.length
      · rcases sl_one HV.out with ⟨rfl, _⟩ | ⟨hp0, b0, o0, c1, hveq, hc0, hb0, cell0⟩
        · simp at hlt
        · injection hveq with h1 h2 h3
          subst h1 h3
          have e0 : wr.cell? ⟨b0, o0 + k, none⟩ = some (.int .i64 l[k]) := by rw [Hb.out.cell (p := ⟨b0, o0 + k, none⟩) hb0]; exact cell0 k hlt
          have HT := Lib.hid (List.take_succ_eq_append_getElem hlt)
          have hmem : l[k] ∈ l := List.getElem_mem hlt
          have hbad : ¬ (0 ≤ l[k] ∧ l[k] ≤ 15) → lensOk l = false := fun hx => by
            cases h : lensOk l with
            | false => rfl
            | true => exact absurd ((lensOk_parts h).2.1 _ hmem) hx
          have Hbad := Lib.hid hbad
          have g1 : (k : Int) < (l.length : Int) := by omega
          have g2 : (0 : Int) ≤ (k : Int) := by omega
          clear cell0 hmem hbad h2
          have Hall' : Hid (0 ≤ l[k] ∧ l[k] ≤ 15 → ∀ x ∈ l.take (k + 1), 0 ≤ x ∧ x ≤ 15) := by
            unfold Hid
            intro hx y hy
            rw [HT.out, List.mem_append, List.mem_singleton] at hy
            rcases hy with hy | rfl
            · exact Hall.out y hy
            · exact hx
          generalize l[k] = x at *
          by_cases hx0 : x < 0
          · have HBad := Lib.hid (Hbad.out (by omega))
            go_wp2_with fail
            refine bodyPost_ret (results_tmp2 rfl _ _ _) rfl ?_
            exact ⟨.slice none 0 0, by rw [HBad.out]; rfl, by rw [codesR_no HBad.out]; exact sl_nil (fun _ => rfl), Hb.out⟩
          by_cases hx15 : 15 < x
          · have HBad := Lib.hid (Hbad.out (by omega))
            go_wp2_with fail
            refine bodyPost_ret (results_tmp2 rfl _ _ _) rfl ?_
            exact ⟨.slice none 0 0, by rw [HBad.out]; rfl, by rw [codesR_no HBad.out]; exact sl_nil (fun _ => rfl), Hb.out⟩
          go_wp2_with (first
            | (at_builtin; refine wpList_append_own _ rfl _ _ 38 rfl w.heap.size 53 i0 _ 2 16 Try.underlying38 hi hz0 hz1 hz2 rfl (by decide) (.slice a0 k c0) _ _ rfl (Hown.out.alloc _) ⟨wr.heap.size, 0, none⟩ 1 1 (codeE (0, 0)) rfl rfl (cells_two_new _ _ _ _) (codeE_one _) (by simp [maxLen]; omega) (by omega) (by have := Hb.out.size; simp; omega) ?_; intro v3 w3 hown3 hgrow3 _)
            | fail)
          have hb3 : Below w.heap.size w w3 := (Hb.out.alloc Hb.out.size _).grown hgrow3 (by have := Hb.out.size; simp; omega) (fun b hbk => owns_block Hown.out b hbk)
          rw [rep_snoc] at hown3
          exact ⟨⟨k + 1, by omega, by go_num, hown3, hb3, Hall'.out (by omega)⟩, by simp [intOf]; omega⟩
      · obtain rfl : k = l.length := by omega
        have HT := Lib.hid (List.take_length (l := l))
        have hrange := Hall.out
        rw [HT.out] at hrange
        have HR := Lib.hid hrange
        clear hrange Hall
        go_wp2_with fail
        refine (kraftR_any _ l wr (sl_below HV.out Hb.out) hl).mono ?_
        rintro e w1 ⟨rfl, rfl⟩
        by_cases hkr : 32768 < kraftL l
        · have hbad : lensOk l = false := by
            cases h : lensOk l with
            | false => rfl
            | true => have := (lensOk_parts h).2.2; omega
          have HBad := Lib.hid hbad
          clear hbad
          generalize kraftL l = kr at *
          go_wp2_with fail
          refine bodyPost_ret (results_tmp2 rfl _ _ _) rfl ?_
          exact ⟨.slice none 0 0, by rw [HBad.out]; rfl, by rw [codesR_no HBad.out]; exact sl_nil (fun _ => rfl), Hb.out⟩
        · have HOk := Lib.hid (lensOk_of (l := l) (by omega) HR.out (by omega))
          have hst := Hown.out
          rw [← refTo_start HR.out] at hst
          have HSt := Lib.hid hst
          clear hst Hown
          generalize kraftL l = kr at *
          go_wp2_with fail
          obtain ⟨wo, hwo⟩ : ∃ wo : World, wo = wr := ⟨_, rfl⟩
          subst hwo
          go_loopw [6, 7] (fun nx i wr => ∃ M : Nat, M ≤ 15 ∧ i = .int .i64 ((M : Int) + 1) ∧ nx = .int .i64 (firstC l M + manyB l M) ∧ wr.ownsRow w.heap.size 53 2 (.slice a0 l.length c0) l.length (cellsC (refTo l (M + 1) 0)) ∧ Below w.heap.size w wr) (fun _ i _ => 17 - (intOf i).toNat)
          case atStart => exact ⟨0, by omega, rfl, rfl, HSt.out, Hb.out⟩
          case round =>
            obtain ⟨M, hM, rfl, rfl, hownM, hbM⟩ := hrel
            have HownM := Lib.hid hownM
            have HbM := Lib.hid hbM
            clear hownM hbM HSt
            by_cases hM15 : M < 15
            · obtain ⟨f0, f1⟩ := first_many_bd HOk.out hM15
              have m0 := (manyB_bd l M).1
              have HF := Lib.hid (firstC_step l M)
              have hfc : firstC l (M + 1) = 2 * (firstC l M + manyB l M) := by rw [HF.out]; omega
              have HFC := Lib.hid hfc
              have hcl := first_cnt_le HOk.out hM15
              have hp := p2_mono (m := M + 1) (n := 15) (by omega)
              rw [p2_15] at hp
              have g1 : (M : Int) + 1 ≤ 15 := by omega
              have q0 : 0 ≤ firstC l M + manyB l M := by omega
              clear hfc f0 m0
              generalize hs : firstC l M + manyB l M = s at *
              clear hs
              go_wp2_with fail
              obtain ⟨wo2, hwo2⟩ : ∃ wo2 : World, wo2 = wr := ⟨_, rfl⟩
              subst hwo2
              go_loopw [6, 8] (fun nx i wr => ∃ j : Nat, j ≤ l.length ∧ i = .int .i64 j ∧ nx = .int .i64 (firstC l (M + 1) + cntL (l.take j) (M + 1)) ∧ wr.ownsRow w.heap.size 53 2 (.slice a0 l.length c0) l.length (cellsC (refTo l (M + 1) j)) ∧ Below w.heap.size w wr) (fun _ i _ => l.length - (intOf i).toNat)
              case atStart => exact ⟨0, Nat.zero_le _, rfl, by rw [HFC.out]; simp [cntL], HownM.out, HbM.out⟩
              case round =>
                obtain ⟨j, hj, rfl, rfl, hownJ, hbJ⟩ := hrel
                have HownJ := Lib.hid hownJ
                have HbJ := Lib.hid hbJ
                clear hownJ hbJ HownM HbM
                by_cases hjl : j < l.length
                · obtain ⟨O, rfl, hOw⟩ := owns_addr HownJ.out (by omega)
                  rcases sl_one HV.out with ⟨rfl, _⟩ | ⟨hp0, b0, o0, c1, hveq, hc0, hb0, cell0⟩
                  · simp at hjl
                  · injection hveq with h1 h2 h3
                    subst h1 h3
                    have e0 : wr.cell? ⟨b0, o0 + j, none⟩ = some (.int .i64 l[j]) := by rw [HbJ.out.cell (p := ⟨b0, o0 + j, none⟩) hb0]; exact cell0 j hjl
                    have g3 : (j : Int) < (l.length : Int) := by omega
                    have g4 : (0 : Int) ≤ (j : Int) := by omega
                    have hct := cntL_take_le l j (M + 1)
                    have n0 := firstC_nonneg l (M + 1)
                    have hbO : b0 ≠ O := by omega
                    clear cell0 h2
                    by_cases hx : l[j] = ((M + 1 : Nat) : Int)
                    · have hlen : (refTo l (M + 1) j).length = l.length := refTo_length _ _ _
                      have hc := cellsC_get (refTo l (M + 1) j) j (by omega)
                      have e3 : wr.cell? ⟨O, j * 2, none⟩ = some (.int .i64 (refTo l (M + 1) j)[j].1) := by rw [HownJ.out.cellAt (j * 2) (by omega)]; exact hc.1
                      have e4 : wr.cell? ⟨O, j * 2 + 1, none⟩ = some (.int .i64 (refTo l (M + 1) j)[j].2) := by rw [HownJ.out.cellAt (j * 2 + 1) (by omega)]; exact hc.2
                      have e5 := HownJ.out.frozenAt (j * 2)
                      have e6 := HownJ.out.frozenAt (j * 2 + 1)
                      have hs1 := (HownJ.out.stored (j * 2) (.int .i64 ((M : Int) + 1))).1
                      have hs2 := (hs1.stored (j * 2 + 1) (.int .i64 (firstC l (M + 1) + cntL (l.take j) (M + 1)))).1
                      have hset := cellsC_set (refTo l (M + 1) j) ((M : Int) + 1, firstC l (M + 1) + cntL (l.take j) (M + 1)) j (by omega)
                      have hcn := code_next hjl hx (by omega)
                      rw [show (((M + 1 : Nat) : Int)) = (M : Int) + 1 by omega] at hcn
                      rw [hset, ← hcn, refTo_set hjl hx] at hs2
                      have HS := Lib.hid hs2
                      have Hb2 := Lib.hid ((HbJ.out.setCell (p := ⟨O, j * 2, none⟩) hOw (.int .i64 ((M : Int) + 1))).setCell (p := ⟨O, j * 2 + 1, none⟩) hOw (.int .i64 (firstC l (M + 1) + cntL (l.take j) (M + 1))))
                      have HC := Lib.hid (cnt_same hjl hx)
                      rw [hx, show (((M + 1 : Nat) : Int)) = (M : Int) + 1 by omega] at e0
                      have x1 : IntKind.i64.wrap (firstC l (M + 1) + (cntL (l.take j) (M + 1) : Int) + 1) = firstC l (M + 1) + (cntL (l.take j) (M + 1) : Int) + 1 := by rw [IntKind.wrap_i64]; omega
                      have HX := Lib.hid hx
                      clear hs1 hs2 hset hc hcn HV hx
                      generalize firstC l (M + 1) = F at *
                      generalize (refTo l (M + 1) j)[j].1 = y1 at *
                      generalize (refTo l (M + 1) j)[j].2 = y2 at *
                      generalize cntL (l.take j) (M + 1) = C at *
                      clear hlen
                      go_wp2_with fail
                      exact ⟨⟨j + 1, by omega, by go_num, by rw [HC.out]; congr 1; omega, HS.out, Hb2.out⟩, by simp [intOf]; omega⟩
                    · have HSk := Lib.hid (refTo_skip hjl hx)
                      have HC := Lib.hid (cnt_skip hjl hx)
                      have hne : ¬ (l[j] = (M : Int) + 1) := by omega
                      generalize l[j] = x at *
                      go_wp2_with fail
                      exact ⟨⟨j + 1, by omega, by go_num, by rw [HC.out], by rw [← HSk.out]; exact HownJ.out, HbJ.out⟩, by simp [intOf]; omega⟩
                · obtain rfl : j = l.length := by omega
                  have HN := Lib.hid (refTo_next l (M + 1))
                  have HT2 := Lib.hid (List.take_length (l := l))
                  go_wp2_with fail
                  refine ⟨⟨M + 1, by omega, by go_num, ?_, by rw [← HN.out]; exact HownJ.out, HbJ.out⟩, by simp [intOf]; omega⟩
                  rw [HT2.out]
                  unfold manyB
                  rw [if_neg (by omega)]
            · obtain rfl : M = 15 := by omega
              have g1 : ¬ (15 : Int) + 1 ≤ 15 := by omega
              go_wp2_with fail
              refine bodyPost_ret (results_tmp2 rfl _ _ _) rfl ?_
              refine ⟨_, by rw [HOk.out]; rfl, ?_, HbM.out⟩
              rw [codesR_ok HOk.out, ← refTo_end HR.out]
              exact (codes_of_owns HownM.out).1
end Go.Proofs.Ytdbhmffiojchcaa
