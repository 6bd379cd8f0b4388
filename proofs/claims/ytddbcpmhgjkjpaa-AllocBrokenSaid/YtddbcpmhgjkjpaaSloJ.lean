/- Contract: slices.Insert of one slot into a table of the call's own. Conditions: numbers fit. -/
import Derived.Test.YtddbcpmhgjkjpaaSloI
namespace Go.Proofs.Ytddbcpmhgjkjpaa
open Go.RowKit Go.Lib

/-- A slot laid between. -/
def betw (l : List Us) (i : Nat) (u : Us) : List Us := l.take i ++ u :: l.drop i
theorem betw_end {l : List Us} {i : Nat} (h : i = l.length) (u : Us) : cells4 (betw l i u) = cells4 l ++ useE u := by
  subst h
  unfold betw
  rw [List.take_length, List.drop_length, cells4_append]; rfl
theorem betw_cells (l : List Us) (i : Nat) (u : Us) : cells4 (betw l i u) = cells4 (l.take i) ++ useE u ++ cells4 (l.drop i) := by
  unfold betw
  rw [cells4_append, List.append_assoc]; rfl

set_option maxRecDepth 100000 in
set_option maxHeartbeats 4000000 in
theorem insert_end (sv : Value) (n vb base B : Nat) (l : List Us) (u : Us) (w : World) (hown : w.ownsRow base 41 4 sv n (cells4 l)) (hv : w.heap[vb]? = some (.cells (useE u).toArray 41 (0, 0))) (hn : n ≤ 1000000) (hB : B ≤ base) (hbs : base ≤ w.heap.size) :
    Calls Try.prog 55 #[sv, .int .i64 n, .slice (some ⟨vb, 0, none⟩) 1 1] w fun e w' =>
      ∃ v', e = .returned v' ∧ w'.ownsRow base 41 4 v' (n + 1) (cells4 (betw l n u)) ∧ Below B w w' := by
  obtain ⟨i0, hi0, hz0, hz1, hz2⟩ := info_parts info_use
  have hln : n = l.length := (use_of_owns hown).2
  obtain ⟨a0, c0, rfl, hc0, hnil⟩ := owns_shape hown
  have HO := Lib.hid hown
  have HB := Lib.hid (betw_end hln u)
  have Hsrc : Hid (∀ j x, (useE u)[j]? = some x → w.cell? ((⟨vb, 0, none⟩ : Addr).add j) = some x) := fun j x hj => by
    rw [add_none, Nat.zero_add, cell_row_same hv]; exact hj
  have hb0 : ∀ k, (Value.slice a0 n c0).ownBlock = some k → B ≤ k := fun k hk => Nat.le_trans hB (owns_block hown k hk)
  have Hb0 := Lib.hid hb0
  have g0 : (n : Int) ≤ (c0 : Int) := by omega
  clear hln hown hv hb0
  go_enter Try.func55, Try.ntmps55
  go_wp2_with (first
    | (at_builtin; refine wpList_append_own _ rfl _ _ 22 rfl base 41 i0 _ 4 32 Try.underlying22 hi0 hz0 hz1 hz2 rfl (by decide) (.slice a0 n c0) _ _ rfl HO.out ⟨vb, 0, none⟩ 1 1 (useE u) rfl rfl Hsrc.out (useE_one9 _) (by simp [maxLen]; omega) (by omega) hbs ?_
       intro v3 w3 hown3 hg3 _
       have hb3 : Below B w w3 := (Below.refl B w).grown hg3 (by omega) Hb0.out
       have HO3 := Lib.hid hown3
       have HB3 := Lib.hid hb3
       clear hown3 hg3 hb3)
    | fail)
  all_goals
    go_ret
    exact ⟨_, rfl, by rw [HB.out]; exact HO3.out, HB3.out⟩

set_option maxRecDepth 100000 in
set_option maxHeartbeats 4000000 in
theorem insert_shift (g n cap vb base B : Nat) (l : List Us) (u : Us) (i : Nat) (w : World) (hown : w.ownsRow base 41 4 (.slice (some ⟨g, 0, none⟩) n cap) n (cells4 l)) (hv : w.heap[vb]? = some (.cells (useE u).toArray 41 (0, 0))) (hne : g ≠ vb) (hi : i < n) (hroom : n < cap) (hn : n ≤ 1000000) (hB : B ≤ base) :
    Calls Try.prog 55 #[.slice (some ⟨g, 0, none⟩) n cap, .int .i64 i, .slice (some ⟨vb, 0, none⟩) 1 1] w fun e w' =>
      ∃ v', e = .returned v' ∧ w'.ownsRow base 41 4 v' (n + 1) (cells4 (betw l i u)) ∧ Below B w w' := by
  have hln : n = l.length := (use_of_owns hown).2
  obtain ⟨cur, c1, c2, c3, c4, c5, c6⟩ := owns_row hown
  have hc63 : cap ≤ 9223372036854775807 := by unfold maxLen at c4; omega
  have hT : (cells4 (l.drop i)).length = (n - i) * 4 := by rw [cells4_length, List.length_drop, ← hln]
  have hov : ∀ lb cb, (callFunc 79 #[.slice (some ⟨vb, 0, none⟩) 1 1, .slice (some ⟨g, (i + 1) * 4, none⟩) lb cb]).run Try.prog w = .ok (.value (.bool false)) w := fun lb cb => by
    rw [run_callFunc_extern Try.func79 (by kernel_rfl) (by kernel_rfl) (by kernel_rfl) (e := Extern.SlicesOverlaps.overlaps #[22, 22] #[4]) (by kernel_rfl),
      Lib.run_overlaps_apart w 22 4 41 Try.underlying22 4 (fun w => by kernel_rfl) ⟨vb, 0, none⟩ ⟨g, (i + 1) * 4, none⟩ 1 1 lb cb (by simpa using hne.symm) 41 41 4 (cap * 4) (by simp [World.shape?, hv]) (by simp [World.shape?, c2, c5]) (by omega) (by simp [World.frozen?, hv]) (by simp [World.frozen?, hv])]
    rfl
  obtain ⟨cur1, hcur1⟩ : ∃ cur1, cur1 = putL cur ((i + 1) * 4) (cells4 (l.drop i)) := ⟨_, rfl⟩
  have hl1 : cur1.length = cap * 4 := by rw [hcur1, putL_length (by omega)]; exact c5
  obtain ⟨W1, hW1⟩ : ∃ W1, W1 = w.drew.setRow g cur1.toArray := ⟨_, rfl⟩
  have hg1 : W1.heap[g]? = some (.cells cur1.toArray 41 (0, 0)) := by rw [hW1]; exact setRow_heap w.drew g cur.toArray cur1.toArray 41 (0, 0) c2
  have hb1 : Below B w W1 := by rw [hW1]; exact below_row ((Below.refl _ _).drew) (by omega) _
  obtain ⟨cur2, hcur2⟩ : ∃ cur2, cur2 = putL cur1 (i * 4) (useE u) := ⟨_, rfl⟩
  have hcp1 : ∀ ty dc sc, (Builtin.copy_ #[22, 22] ty #[.slice (some ⟨g, (i + 1) * 4, none⟩) (n + 1 - (i + 1)) dc, .slice (some ⟨g, i * 4, none⟩) (n + 1 - i) sc]).run Try.prog w.drew = .ok (goInt ((n - i : Nat))) W1 := fun ty dc sc => by
    rw [hW1, hcur1]
    refine run_copy_rowk w.drew 22 22 ty 41 4 g ((i + 1) * 4) (n + 1 - (i + 1)) dc ⟨g, i * 4, none⟩ (n + 1 - i) sc (n - i) cur 41 (cells4 (l.drop i)) Try.underlying22 size_use c2 (by simp only [Nat.min_def]; split <;> omega) hT (fun j v hj => ?_) (by omega) (cells4_one _)
    rw [add_none]
    show w.cell? _ = _
    rw [cell_row_same c2]
    rw [cells4_drop, List.getElem?_drop] at hj
    exact cells4_at hln c6 (by omega) _ _ hj
  have hcp2 : ∀ ty dc, (Builtin.copy_ #[22, 22] ty #[.slice (some ⟨g, i * 4, none⟩) (n + 1 - i) dc, .slice (some ⟨vb, 0, none⟩) 1 1]).run Try.prog W1 = .ok (goInt 1) (W1.setRow g cur2.toArray) := fun ty dc => by
    rw [hcur2]
    refine run_copy_rowk W1 22 22 ty 41 4 g (i * 4) (n + 1 - i) dc ⟨vb, 0, none⟩ 1 1 1 cur1 41 (useE u) Try.underlying22 size_use hg1 (by simp only [Nat.min_def]; split <;> omega) rfl (fun j v hj => ?_) (by show i * 4 + 4 ≤ _; omega) (useE_one9 _)
    rw [add_none, Nat.zero_add, hW1, cell_row_other hne]
    show w.cell? _ = _
    rw [cell_row_same hv]; exact hj
  have hfin : (W1.setRow g cur2.toArray).ownsRow base 41 4 (.slice (some ⟨g, 0, none⟩) (n + 1) cap) (n + 1) (cells4 (betw l i u)) := by
    refine owns_of_row c1 (setRow_heap W1 g cur1.toArray cur2.toArray 41 (0, 0) hg1) (by omega) c4 ?_ ?_
    · rw [hcur2, putL_length (by show i * 4 + 4 ≤ _; omega)]; exact hl1
    · have h1 : cur1.take (i * 4) = cells4 (l.take i) := by
        rw [hcur1, putL_take_lo (by omega) (by omega), cells4_take, ← c6, List.take_take, Nat.min_eq_left (by omega)]
      have h2 : cur1.drop (i * 4 + (useE u).length) = cells4 (l.drop i) ++ cur.drop ((i + 1) * 4 + (n - i) * 4) := by
        show cur1.drop (i * 4 + 4) = _
        rw [hcur1, show i * 4 + 4 = (i + 1) * 4 by omega]
        unfold putL
        rw [List.append_assoc, List.drop_left' (by rw [List.length_take]; omega), hT]
      rw [hcur2]
      unfold putL
      rw [h1, h2, betw_cells, ← List.append_assoc]
      refine List.take_left' ?_
      rw [List.length_append, List.length_append, cells4_length, hT, List.length_take]
      show min i l.length * 4 + 4 + _ = _
      omega
  have hb2 : Below B w (W1.setRow g cur2.toArray) := below_row hb1 (by omega) _
  have HF := Lib.hid hfin
  have HB2 := Lib.hid hb2
  have Hcp1 := Lib.hid hcp1
  have Hcp2 := Lib.hid hcp2
  have x1 : ((i : Int) + 1).toNat = i + 1 := by omega
  have x2 : IntKind.i64.wrap ((i : Int) + 1) = (i : Int) + 1 := IntWalk.i64_in _ (by omega)
  have g0 : (i : Int) + 1 ≤ (n : Int) := by omega
  have g1 : (0 : Int) ≤ (i : Int) := by omega
  have g2 : (n : Int) ≤ (cap : Int) := by omega
  have g3 : (i : Int) ≤ (n : Int) := by omega
  have g4 : (0 : Int) ≤ (i : Int) + 1 := by omega
  have g5 : (n : Int) + 1 ≤ (cap : Int) := by omega
  have g6 : (i : Int) + 1 ≤ (n : Int) + 1 := by omega
  have g7 : (i : Int) ≤ (n : Int) + 1 := by omega
  have d0 : ((i : Int) == (n : Int)) = false := by simp; omega
  have d1 : ¬ (cap = i + 1) := by omega
  have d2 : ¬ (cap = i) := by omega
  have d3 : decide ((cap : Int) < (n : Int) + 1) = false := by simp; omega
  clear hown c1 c2 c6 hcp1 hcp2 hfin hb2 hb1 hg1 hl1 hcur2 hT hW1 hcur1 hv
  have Hln := Lib.hid hln
  clear hln
  go_enter Try.func55, Try.ntmps55
  go_wp2_with (simp only [hov])
  go_region_law ((refine step_copy_runI (by rfl) (.tmp 73) (.tmp 76) 22 22 (by rfl) (.slice (some ⟨g, (i + 1) * 4, none⟩) (n + 1 - (i + 1)) (cap - (i + 1))) (.slice (some ⟨g, i * 4, none⟩) (n + 1 - i) (cap - i)) (by simp [Act.eval, Act.put]) (by simp [Act.eval, Act.put]) (Hcp1.out _ _ _) ?_))
  go_wp2_with (first | (refine wpList_copy_runI _ rfl _ _ 22 22 rfl _ _ rfl rfl (Hcp2.out _ _) ?_))
  go_ret
  exact ⟨_, rfl, HF.out, HB2.out⟩
end Go.Proofs.Ytddbcpmhgjkjpaa
