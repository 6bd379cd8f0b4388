/- Contract: slices.Insert of one slot where there is no room; of one slot, whichever way. Conditions: numbers fit. -/
import Derived.Test.YtddbcpmhgjkjpaaSloJ
import Derived.Deep.AppendLies
namespace Go.Proofs.Ytddbcpmhgjkjpaa
open Go.RowKit Go.Lib

set_option maxRecDepth 100000 in
set_option maxHeartbeats 4000000 in
theorem insert_grow (g n vb base B : Nat) (l : List Us) (u : Us) (i : Nat) (w : World) (hown : w.ownsRow base 41 4 (.slice (some ⟨g, 0, none⟩) n n) n (cells4 l)) (hv : w.heap[vb]? = some (.cells (useE u).toArray 41 (0, 0))) (hi : i < n) (hn : n ≤ 1000000) (hB : B ≤ base) (hbs : base ≤ w.heap.size) :
    Calls Try.prog 55 #[.slice (some ⟨g, 0, none⟩) n n, .int .i64 i, .slice (some ⟨vb, 0, none⟩) 1 1] w fun e w' =>
      ∃ v', e = .returned v' ∧ w'.ownsRow base 41 4 v' (n + 1) (cells4 (betw l i u)) ∧ Below B w w' := by
  obtain ⟨i0, hi0, hz0, hz1, hz2⟩ := info_parts info_use
  have hln : n = l.length := (use_of_owns hown).2
  have hgl : g < w.heap.size := owns_lt hown _ rfl
  have hvl : vb < w.heap.size := by
    rcases Nat.lt_or_ge vb w.heap.size with h | h
    · exact h
    · rw [Array.getElem?_eq_none h] at hv; cases hv
  obtain ⟨cur, c1, c2, c3, c4, c5, c6⟩ := owns_row hown
  have hT : (cells4 (l.drop i)).length = (n - i) * 4 := by rw [cells4_length, List.length_drop, ← hln]
  have hH : (cells4 (l.take i)).length = i * 4 := by rw [cells4_length, List.length_take]; omega
  have hold : (Builtin.firstCells i0.size i (.slice (some ⟨g, 0, none⟩) i n)).run Try.prog w.drew = .ok (cells4 (l.take i)).toArray w.drew := by
    rw [hz1]
    refine run_firstCells_some w.drew 4 i ⟨g, 0, none⟩ i n (cells4 (l.take i)) hH (fun j v hj => ?_)
    rw [add_none, Nat.zero_add]
    show w.cell? _ = _
    rw [cell_row_same c2]
    rw [cells4_take, List.getElem?_take] at hj
    split at hj
    · exact cells4_at hln c6 (by omega) _ _ hj
    · cases hj
  obtain ⟨G, hG⟩ : ∃ G, G = grownCap w (n + 1) n 41 := ⟨_, rfl⟩
  have hG1 : n + 1 ≤ G := by rw [hG]; exact grownCap_ge w _ _ _
  have hG2 : G ≤ maxLen := by rw [hG]; exact grownCap_le_maxLen w (n + 1) n _ (by unfold maxLen; omega)
  obtain ⟨ROW, hROW⟩ : ∃ ROW : List Value, ROW = cells4 (l.take i) ++ (Builtin.zeroCells (Value.agg #[.int .i64 0, .int .i64 0, .int .i64 0, .bool false]).cells (n + 1 - i)).toList ++ (Builtin.zeroCells (Value.agg #[.int .i64 0, .int .i64 0, .int .i64 0, .bool false]).cells (G - (n + 1))).toList := ⟨_, rfl⟩
  have hRl : ROW.length = G * 4 := by
    rw [hROW]
    have e : (Value.agg #[.int .i64 0, .int .i64 0, .int .i64 0, .bool false]).cells.size = 4 := by kernel_rfl
    simp only [List.length_append, hH, Builtin.zeroCells, Array.length_toList, Array.size_map, Array.size_range, e]
    omega
  have hRt : ROW.take (i * 4) = cells4 (l.take i) := by rw [hROW, List.append_assoc]; exact List.take_left' hH
  have hik : i + (n + 1 - i) = n + 1 := by omega
  have hkk : (n : Int) + 1 - (i : Int) = ((n + 1 - i : Nat) : Int) := by omega
  obtain ⟨W1, hW1⟩ : ∃ W1, W1 = w.drew.alloc (.cells ROW.toArray 41) := ⟨_, rfl⟩
  have hrz : ∀ ty, (Builtin.append_ #[22, 3] ty #[.slice (some ⟨g, 0, none⟩) i n, .int .i64 ((n : Int) + 1 - (i : Int))]).run Try.prog w = .ok (.slice (some ⟨w.heap.size, 0, none⟩) (n + 1) G) W1 := fun ty => by
    have h := Lib.run_append_grow_zeros w 22 3 ty 41 i0 _ .i64 .i64 Try.underlying22 Try.underlying3 hi0 hz0 (some ⟨g, 0, none⟩) i n (cells4 (l.take i)) hold (n + 1 - i) (by omega) (by omega) (by omega) (by omega) (by rw [hz2]; omega) (by rw [hz2, hik]; exact growslice_fits (by omega) (by omega))
    rw [hik, ← hG] at h
    rw [hkk, h, hW1]
    have hR : (cells4 (l.take i)).toArray ++ Builtin.zeroCells (Value.agg #[.int .i64 0, .int .i64 0, .int .i64 0, .bool false]).cells (n + 1 - i) ++ Builtin.zeroCells (Value.agg #[.int .i64 0, .int .i64 0, .int .i64 0, .bool false]).cells (G - (n + 1)) = ROW.toArray := by
      rw [hROW]; apply Array.ext'; simp
    rw [hR]
  obtain ⟨H, hH2⟩ : ∃ H, H = w.heap.size := ⟨_, rfl⟩
  rw [← hH2] at hrz
  have hg1 : W1.heap[H]? = some (.cells ROW.toArray 41 (0, 0)) := by rw [hW1, hH2]; exact heap_alloc_new w.drew _
  have hold1 : ∀ b o, b < H → W1.cell? ⟨b, o, none⟩ = w.cell? ⟨b, o, none⟩ := fun b o hb => by
    rw [hW1, World.cell?_alloc_lt _ _ _ (by show b < w.heap.size; omega)]; rfl
  have hb1 : Below B w W1 := by rw [hW1]; exact ((Below.refl _ _).drew).alloc (by show B ≤ w.heap.size; omega) _
  obtain ⟨cur1, hcur1⟩ : ∃ cur1, cur1 = putL ROW (i * 4) (useE u) := ⟨_, rfl⟩
  have hl1 : cur1.length = G * 4 := by rw [hcur1, putL_length (by show i * 4 + 4 ≤ _; omega)]; exact hRl
  obtain ⟨W2, hW2⟩ : ∃ W2, W2 = W1.setRow H cur1.toArray := ⟨_, rfl⟩
  have hg2 : W2.heap[H]? = some (.cells cur1.toArray 41 (0, 0)) := by rw [hW2]; exact setRow_heap W1 H ROW.toArray cur1.toArray 41 (0, 0) hg1
  have hb2 : Below B w W2 := by rw [hW2]; exact below_row hb1 (by omega) _
  have hcp1 : ∀ ty dc, (Builtin.copy_ #[22, 22] ty #[.slice (some ⟨H, i * 4, none⟩) (n + 1 - i) dc, .slice (some ⟨vb, 0, none⟩) 1 1]).run Try.prog W1 = .ok (goInt 1) W2 := fun ty dc => by
    rw [hW2, hcur1]
    refine run_copy_rowk W1 22 22 ty 41 4 H (i * 4) (n + 1 - i) dc ⟨vb, 0, none⟩ 1 1 1 ROW 41 (useE u) Try.underlying22 size_use hg1 (by simp only [Nat.min_def]; split <;> omega) rfl (fun j v hj => ?_) (by show i * 4 + 4 ≤ _; omega) (useE_one9 _)
    rw [add_none, Nat.zero_add, hold1 _ _ (by omega), cell_row_same hv]; exact hj
  obtain ⟨cur2, hcur2⟩ : ∃ cur2, cur2 = putL cur1 ((i + 1) * 4) (cells4 (l.drop i)) := ⟨_, rfl⟩
  have hcp2 : ∀ ty dc sc, (Builtin.copy_ #[22, 22] ty #[.slice (some ⟨H, (i + 1) * 4, none⟩) (n + 1 - (i + 1)) dc, .slice (some ⟨g, i * 4, none⟩) (n - i) sc]).run Try.prog W2.drew = .ok (goInt ((n - i : Nat))) (W2.drew.setRow H cur2.toArray) := fun ty dc sc => by
    rw [hcur2]
    refine run_copy_rowk W2.drew 22 22 ty 41 4 H ((i + 1) * 4) (n + 1 - (i + 1)) dc ⟨g, i * 4, none⟩ (n - i) sc (n - i) cur1 41 (cells4 (l.drop i)) Try.underlying22 size_use hg2 (by simp only [Nat.min_def]; split <;> omega) hT (fun j v hj => ?_) (by omega) (cells4_one _)
    rw [add_none]
    show W2.cell? _ = _
    rw [hW2, cell_row_other (by omega), hold1 _ _ (by omega), cell_row_same c2]
    rw [cells4_drop, List.getElem?_drop] at hj
    exact cells4_at hln c6 (by omega) _ _ hj
  have hfin : (W2.drew.setRow H cur2.toArray).ownsRow base 41 4 (.slice (some ⟨H, 0, none⟩) (n + 1) G) (n + 1) (cells4 (betw l i u)) := by
    refine owns_of_row (by omega) (setRow_heap W2.drew H cur1.toArray cur2.toArray 41 (0, 0) hg2) hG1 hG2 ?_ ?_
    · rw [hcur2, putL_length (by omega)]; exact hl1
    · have h1 : cur1.take ((i + 1) * 4) = cells4 (l.take i) ++ useE u := by
        have h := putL_take_hi (cur := ROW) (cs := useE u) (o := i * 4) (by omega)
        rw [show i * 4 + (useE u).length = (i + 1) * 4 by show i * 4 + 4 = _; omega, ← hcur1, hRt] at h
        exact h
      have h2 := putL_take_hi (cur := cur1) (cs := cells4 (l.drop i)) (o := (i + 1) * 4) (by omega)
      rw [hT, show (i + 1) * 4 + (n - i) * 4 = (n + 1) * 4 by omega, ← hcur2, h1] at h2
      rw [h2, betw_cells]
  have hb3 : Below B w (W2.drew.setRow H cur2.toArray) := below_row hb2.drew (by omega) _
  have HF := Lib.hid hfin
  have HB3 := Lib.hid hb3
  have Hrz := Lib.hid hrz
  have Hcp1 := Lib.hid hcp1
  have Hcp2 := Lib.hid hcp2
  have x1 : ((i : Int) + 1).toNat = i + 1 := by omega
  have x2 : IntKind.i64.wrap ((i : Int) + 1) = (i : Int) + 1 := IntWalk.i64_in _ (by omega)
  have g0 : (i : Int) + 1 ≤ (n : Int) := by omega
  have g1 : (0 : Int) ≤ (i : Int) := by omega
  have g3 : (i : Int) ≤ (n : Int) := by omega
  have g4 : (0 : Int) ≤ (i : Int) + 1 := by omega
  have g6 : (i : Int) + 1 ≤ (n : Int) + 1 := by omega
  have g7 : (i : Int) ≤ (n : Int) + 1 := by omega
  have d0 : ((i : Int) == (n : Int)) = false := by simp; omega
  have d1 : ¬ (G = i + 1) := by omega
  have d2 : ¬ (G = i) := by omega
  have d4 : ¬ (n = i) := by omega
  have d3 : decide ((n : Int) < (n : Int) + 1) = true := by simp; omega
  have Hln := Lib.hid hln
  clear hown c1 c2 c5 c6 hcp1 hcp2 hfin hb3 hb2 hb1 hg1 hg2 hl1 hcur2 hT hW1 hW2 hcur1 hv hold1 hrz hH2 hRt hRl hROW hG hold hH hik hkk hln
  go_enter Try.func55, Try.ntmps55
  go_wp2_with (first
    | (at_builtin; refine Lib.wpList_append_run _ rfl _ _ _ _ rfl _ _ rfl rfl _ _ (Hrz.out _) ?_)
    | (refine wpList_copy_runI _ rfl _ _ 22 22 rfl _ _ rfl rfl (Hcp1.out _ _) ?_))
  go_region_law ((refine step_copy_runI (by rfl) (.tmp 50) (.tmp 53) 22 22 (by rfl) (.slice (some ⟨H, (i + 1) * 4, none⟩) (n + 1 - (i + 1)) (G - (i + 1))) (.slice (some ⟨g, i * 4, none⟩) (n - i) (n - i)) (by simp [Act.eval, Act.put]) (by simp [Act.eval, Act.put]) (Hcp2.out _ _ _) ?_))
  go_wp2_with fail
  go_ret
  exact ⟨_, rfl, HF.out, HB3.out⟩

/-- One slot laid into a table of the call's own. -/
theorem insert_use (sv : Value) (n vb base B : Nat) (l : List Us) (u : Us) (i : Nat) (w : World) (hown : w.ownsRow base 41 4 sv n (cells4 l)) (hv : w.heap[vb]? = some (.cells (useE u).toArray 41 (0, 0))) (hne : sv.ownBlock ≠ some vb) (hi : i ≤ n) (hn : n ≤ 1000000) (hB : B ≤ base) (hbs : base ≤ w.heap.size) :
    Calls Try.prog 55 #[sv, .int .i64 i, .slice (some ⟨vb, 0, none⟩) 1 1] w fun e w' =>
      ∃ v', e = .returned v' ∧ w'.ownsRow base 41 4 v' (n + 1) (cells4 (betw l i u)) ∧ Below B w w' := by
  rcases Nat.lt_or_eq_of_le hi with hlt | rfl
  · obtain ⟨g, cap, rfl, hg, _⟩ := World.ownsRow.form hown (by omega)
    have hne2 : g ≠ vb := fun e => hne (by rw [e]; rfl)
    obtain ⟨_, _, hq, hcap, _⟩ := owns_shape hown
    injection hq with _ _ hq
    subst hq
    rcases Nat.lt_or_eq_of_le hcap with hr | rfl
    · exact insert_shift g n cap vb base B l u i w hown hv hne2 hlt hr hn hB
    · exact insert_grow g n vb base B l u i w hown hv hlt hn hB hbs
  · exact insert_end sv i vb base B l u w hown hv hn hB hbs
end Go.Proofs.Ytddbcpmhgjkjpaa
