/- Contract: slices.Insert of one pair into a row of the call's own. Conditions: numbers fit. (Turned from the text on slots by a program of this project.) -/
import Derived.Test.YtdlgpcjdaaeliaaTreG
import Derived.Test.YtdlgpcjdaaeliaaRow
import Derived.Deep.RegionLaw
import Derived.Deep.AppendLies
namespace Go.Proofs.Ytdlgpcjdaaeliaa
open Go.RowKit Go.Lib

theorem size_pair : (Try.prog.info? 51).map (·.size) = some 2 := by kernel_rfl
theorem cells2_at {cur : List Value} {l : List (Int × Int)} {n : Nat} (_hn : n = l.length) (h : cur.take (n * 2) = cellsE pairE l) (_hfit : n * 2 ≤ cur.length) : ∀ (j : Nat) (u : Value), (cellsE pairE l)[j]? = some u → cur[j]? = some u := by
  intro j u hj
  rw [← h, List.getElem?_take] at hj
  split at hj
  · exact hj
  · cases hj
theorem cells2_take (l : List (Int × Int)) : ∀ k, cellsE pairE (l.take k) = (cellsE pairE l).take (k * 2) := by
  induction l with
  | nil => intro k; simp
  | cons x l ih =>
    intro k
    cases k with
    | zero => simp
    | succ k => rw [List.take_succ_cons, cellsE_cons, ih k, cellsE_cons, Nat.succ_mul]; rfl
theorem cells2_drop (l : List (Int × Int)) : ∀ k, cellsE pairE (l.drop k) = (cellsE pairE l).drop (k * 2) := by
  induction l with
  | nil => intro k; simp
  | cons x l ih =>
    intro k
    cases k with
    | zero => simp
    | succ k => rw [List.drop_succ_cons, ih k, cellsE_cons, Nat.succ_mul]; rfl

theorem grown_setRow9 (w : World) (g : Nat) (cs : Array Value) : w.grownBy (w.setRow g cs) (some g) :=
  ⟨rfl, rfl, rfl, by simp [World.setRow], fun k _ hk => by
    unfold World.setRow
    simp only
    rw [Array.getElem?_modify]
    simp [show ¬ g = k from fun e => hk (by rw [e])]⟩
/-- A pair laid between. -/
def betw (l : List (Int × Int)) (i : Nat) (u : Int × Int) : List (Int × Int) := l.take i ++ u :: l.drop i
theorem betw_end {l : List (Int × Int)} {i : Nat} (h : i = l.length) (u : Int × Int) : cellsE pairE (betw l i u) = cellsE pairE l ++ pairE u := by
  subst h
  unfold betw
  rw [List.take_length, List.drop_length, cellsE_append]; rfl
theorem betw_cells (l : List (Int × Int)) (i : Nat) (u : Int × Int) : cellsE pairE (betw l i u) = cellsE pairE (l.take i) ++ pairE u ++ cellsE pairE (l.drop i) := by
  unfold betw
  rw [cellsE_append, List.append_assoc]; rfl

set_option maxRecDepth 100000 in
set_option maxHeartbeats 4000000 in
theorem insert_end (sv : Value) (n vb base B : Nat) (l : List (Int × Int)) (u : Int × Int) (w : World) (hown : w.ownsRow base 51 2 sv n (cellsE pairE l)) (hv : w.heap[vb]? = some (.cells (pairE u).toArray 51 (0, 0))) (hn : n ≤ 1000000) (hB : B ≤ base) (hbs : base ≤ w.heap.size) :
    Calls Try.prog 31 #[sv, .int .i64 n, .slice (some ⟨vb, 0, none⟩) 1 1] w fun e w' =>
      ∃ v', e = .returned v' ∧ w'.ownsRow base 51 2 v' (n + 1) (cellsE pairE (betw l n u)) ∧ Below B w w' ∧ w.grownBy w' sv.ownBlock := by
  obtain ⟨i0, hi0, hz0, hz1, hz2⟩ := info_parts info_pair
  have hln : n = l.length := (sl_of_ownsE pairE_ok hown).2
  obtain ⟨a0, c0, rfl, hc0, hnil⟩ := owns_shape hown
  have HO := Lib.hid hown
  have HB := Lib.hid (betw_end hln u)
  have Hsrc : Hid (∀ j x, (pairE u)[j]? = some x → w.cell? ((⟨vb, 0, none⟩ : Addr).add j) = some x) := fun j x hj => by
    rw [add_none, Nat.zero_add, cell_row_same hv]; exact hj
  have hb0 : ∀ k, (Value.slice a0 n c0).ownBlock = some k → B ≤ k := fun k hk => Nat.le_trans hB (owns_block hown k hk)
  have Hb0 := Lib.hid hb0
  have g0 : (n : Int) ≤ (c0 : Int) := by omega
  clear hln hown hv hb0
  go_enter Try.func31, Try.ntmps31
  go_wp2_with (first
    | (at_builtin; refine wpList_append_own _ rfl _ _ 32 rfl base 51 i0 _ 2 16 Try.underlying32 hi0 hz0 hz1 hz2 rfl (by decide) (.slice a0 n c0) _ _ rfl HO.out ⟨vb, 0, none⟩ 1 1 (pairE u) rfl rfl Hsrc.out (pairE_ok.one _) (by simp [maxLen]; omega) (by omega) hbs ?_
       intro v3 w3 hown3 hg3 _
       have hb3 : Below B w w3 := (Below.refl B w).grown hg3 (by omega) Hb0.out
       have HO3 := Lib.hid hown3
       have HB3 := Lib.hid hb3
       have HG3 := Lib.hid hg3
       clear hown3 hg3 hb3)
    | fail)
  all_goals
    go_ret
    exact ⟨_, rfl, by rw [HB.out]; exact HO3.out, HB3.out, by first | exact HG3.out | (cases a0 <;> exact HG3.out)⟩

set_option maxRecDepth 100000 in
set_option maxHeartbeats 4000000 in
theorem insert_shift (g n cap vb base B : Nat) (l : List (Int × Int)) (u : Int × Int) (i : Nat) (w : World) (hown : w.ownsRow base 51 2 (.slice (some ⟨g, 0, none⟩) n cap) n (cellsE pairE l)) (hv : w.heap[vb]? = some (.cells (pairE u).toArray 51 (0, 0))) (hne : g ≠ vb) (hi : i < n) (hroom : n < cap) (hn : n ≤ 1000000) (hB : B ≤ base) :
    Calls Try.prog 31 #[.slice (some ⟨g, 0, none⟩) n cap, .int .i64 i, .slice (some ⟨vb, 0, none⟩) 1 1] w fun e w' =>
      ∃ v', e = .returned v' ∧ w'.ownsRow base 51 2 v' (n + 1) (cellsE pairE (betw l i u)) ∧ Below B w w' ∧ w.grownBy w' (some g) := by
  have hln : n = l.length := (sl_of_ownsE pairE_ok hown).2
  obtain ⟨cur, c1, c2, c3, c4, c5, c6⟩ := owns_row hown
  have hc63 : cap ≤ 9223372036854775807 := by unfold maxLen at c4; omega
  have hT : (cellsE pairE (l.drop i)).length = (n - i) * 2 := by rw [cellsE_length pairE_ok, List.length_drop, ← hln]
  have hov : ∀ lb cb, (callFunc 36 #[.slice (some ⟨vb, 0, none⟩) 1 1, .slice (some ⟨g, (i + 1) * 2, none⟩) lb cb]).run Try.prog w = .ok (.value (.bool false)) w := fun lb cb => by
    rw [run_callFunc_extern Try.func36 (by kernel_rfl) (by kernel_rfl) (by kernel_rfl) (e := Extern.SlicesOverlaps.overlaps #[32, 32] #[4]) (by kernel_rfl),
      Lib.run_overlaps_apart w 32 4 51 Try.underlying32 2 (fun w => by kernel_rfl) ⟨vb, 0, none⟩ ⟨g, (i + 1) * 2, none⟩ 1 1 lb cb (by simpa using hne.symm) 51 51 2 (cap * 2) (by simp [World.shape?, hv]) (by simp [World.shape?, c2, c5]) (by omega) (by simp [World.frozen?, hv]) (by simp [World.frozen?, hv])]
    rfl
  obtain ⟨cur1, hcur1⟩ : ∃ cur1, cur1 = putL cur ((i + 1) * 2) (cellsE pairE (l.drop i)) := ⟨_, rfl⟩
  have hl1 : cur1.length = cap * 2 := by rw [hcur1, putL_length (by omega)]; exact c5
  obtain ⟨W1, hW1⟩ : ∃ W1, W1 = w.drew.setRow g cur1.toArray := ⟨_, rfl⟩
  have hg1 : W1.heap[g]? = some (.cells cur1.toArray 51 (0, 0)) := by rw [hW1]; exact setRow_heap w.drew g cur.toArray cur1.toArray 51 (0, 0) c2
  have hb1 : Below B w W1 := by rw [hW1]; exact below_row ((Below.refl _ _).drew) (by omega) _
  obtain ⟨cur2, hcur2⟩ : ∃ cur2, cur2 = putL cur1 (i * 2) (pairE u) := ⟨_, rfl⟩
  have hcp1 : ∀ ty dc sc, (Builtin.copy_ #[32, 32] ty #[.slice (some ⟨g, (i + 1) * 2, none⟩) (n + 1 - (i + 1)) dc, .slice (some ⟨g, i * 2, none⟩) (n + 1 - i) sc]).run Try.prog w.drew = .ok (goInt ((n - i : Nat))) W1 := fun ty dc sc => by
    rw [hW1, hcur1]
    refine run_copy_rowk w.drew 32 32 ty 51 2 g ((i + 1) * 2) (n + 1 - (i + 1)) dc ⟨g, i * 2, none⟩ (n + 1 - i) sc (n - i) cur 51 (cellsE pairE (l.drop i)) Try.underlying32 size_pair c2 (by simp only [Nat.min_def]; split <;> omega) hT (fun j v hj => ?_) (by omega) (cellsE_one pairE_ok _)
    rw [add_none]
    show w.cell? _ = _
    rw [cell_row_same c2]
    rw [cells2_drop, List.getElem?_drop] at hj
    exact cells2_at hln c6 (by omega) _ _ hj
  have hcp2 : ∀ ty dc, (Builtin.copy_ #[32, 32] ty #[.slice (some ⟨g, i * 2, none⟩) (n + 1 - i) dc, .slice (some ⟨vb, 0, none⟩) 1 1]).run Try.prog W1 = .ok (goInt 1) (W1.setRow g cur2.toArray) := fun ty dc => by
    rw [hcur2]
    refine run_copy_rowk W1 32 32 ty 51 2 g (i * 2) (n + 1 - i) dc ⟨vb, 0, none⟩ 1 1 1 cur1 51 (pairE u) Try.underlying32 size_pair hg1 (by simp only [Nat.min_def]; split <;> omega) rfl (fun j v hj => ?_) (by show i * 2 + 2 ≤ _; omega) (pairE_ok.one _)
    rw [add_none, Nat.zero_add, hW1, cell_row_other hne]
    show w.cell? _ = _
    rw [cell_row_same hv]; exact hj
  have hfin : (W1.setRow g cur2.toArray).ownsRow base 51 2 (.slice (some ⟨g, 0, none⟩) (n + 1) cap) (n + 1) (cellsE pairE (betw l i u)) := by
    refine owns_of_row c1 (setRow_heap W1 g cur1.toArray cur2.toArray 51 (0, 0) hg1) (by omega) c4 ?_ ?_
    · rw [hcur2, putL_length (by show i * 2 + 2 ≤ _; omega)]; exact hl1
    · have h1 : cur1.take (i * 2) = cellsE pairE (l.take i) := by
        rw [hcur1, putL_take_lo (by omega) (by omega), cells2_take, ← c6, List.take_take, Nat.min_eq_left (by omega)]
      have h2 : cur1.drop (i * 2 + (pairE u).length) = cellsE pairE (l.drop i) ++ cur.drop ((i + 1) * 2 + (n - i) * 2) := by
        show cur1.drop (i * 2 + 2) = _
        rw [hcur1, show i * 2 + 2 = (i + 1) * 2 by omega]
        unfold putL
        rw [List.append_assoc, List.drop_left' (by rw [List.length_take]; omega), hT]
      rw [hcur2]
      unfold putL
      rw [h1, h2, betw_cells, ← List.append_assoc]
      refine List.take_left' ?_
      rw [List.length_append, List.length_append, cellsE_length pairE_ok, hT, List.length_take]
      show min i l.length * 2 + 2 + _ = _
      omega
  have hb2 : Below B w (W1.setRow g cur2.toArray) := below_row hb1 (by omega) _
  have HGw : Hid (w.grownBy (W1.setRow g cur2.toArray) (some g)) := by unfold Hid; rw [hW1]; exact World.grownBy.trans (a := w) (b := w.drew.setRow g cur1.toArray) (World.grownBy.trans (a := w) (b := w.drew) ⟨rfl, rfl, rfl, Nat.le_refl _, fun _ _ _ => rfl⟩ (grown_setRow9 w.drew g _)) (grown_setRow9 _ g _)
  have HF := Lib.hid hfin
  have HB2 := Lib.hid hb2
  have Hcp1 := Lib.hid hcp1
  have Hcp2 := Lib.hid hcp2
  have x1 : ((i : Int) + 1).toNat = i + 1 := by omega
  have x2 : IntKind.i64.wrap ((i : Int) + 1) = (i : Int) + 1 := IntWalk.i64_in _ (by omega)
  have g0 : (i : Int) + 1 ≤ (n : Int) := by omega
  have g1 : (0 : Int) ≤ (i : Int) := by omega
  have g2 : (n : Int) ≤ (cap : Int) := by omega
  have g3 : (i : Int) ≤ (n : Int) := by omega
  have g4 : (0 : Int) ≤ (i : Int) + 1 := by omega
  have g5 : (n : Int) + 1 ≤ (cap : Int) := by omega
  have g6 : (i : Int) + 1 ≤ (n : Int) + 1 := by omega
  have g7 : (i : Int) ≤ (n : Int) + 1 := by omega
  have d0 : ((i : Int) == (n : Int)) = false := by simp; omega
  have d1 : ¬ (cap = i + 1) := by omega
  have d2 : ¬ (cap = i) := by omega
  have d3 : decide ((cap : Int) < (n : Int) + 1) = false := by simp; omega
  clear hown c1 c2 c6 hcp1 hcp2 hfin hb2 hb1 hg1 hl1 hcur2 hT hW1 hcur1 hv
  have Hln := Lib.hid hln
  clear hln
  go_enter Try.func31, Try.ntmps31
  go_wp2_with (simp only [hov])
  go_region_law ((refine step_copy_runI (by rfl) (.tmp 73) (.tmp 76) 32 32 (by rfl) (.slice (some ⟨g, (i + 1) * 2, none⟩) (n + 1 - (i + 1)) (cap - (i + 1))) (.slice (some ⟨g, i * 2, none⟩) (n + 1 - i) (cap - i)) (by simp [Act.eval, Act.put]) (by simp [Act.eval, Act.put]) (Hcp1.out _ _ _) ?_))
  go_wp2_with (first | (refine wpList_copy_runI _ rfl _ _ 32 32 rfl _ _ rfl rfl (Hcp2.out _ _) ?_))
  go_ret
  exact ⟨_, rfl, HF.out, HB2.out, HGw.out⟩

set_option maxRecDepth 100000 in
set_option maxHeartbeats 4000000 in
theorem insert_grow (g n vb base B : Nat) (l : List (Int × Int)) (u : Int × Int) (i : Nat) (w : World) (hown : w.ownsRow base 51 2 (.slice (some ⟨g, 0, none⟩) n n) n (cellsE pairE l)) (hv : w.heap[vb]? = some (.cells (pairE u).toArray 51 (0, 0))) (hi : i < n) (hn : n ≤ 1000000) (hB : B ≤ base) (hbs : base ≤ w.heap.size) :
    Calls Try.prog 31 #[.slice (some ⟨g, 0, none⟩) n n, .int .i64 i, .slice (some ⟨vb, 0, none⟩) 1 1] w fun e w' =>
      ∃ v', e = .returned v' ∧ w'.ownsRow base 51 2 v' (n + 1) (cellsE pairE (betw l i u)) ∧ Below B w w' ∧ w.grownBy w' (some g) := by
  obtain ⟨i0, hi0, hz0, hz1, hz2⟩ := info_parts info_pair
  have hln : n = l.length := (sl_of_ownsE pairE_ok hown).2
  have hgl : g < w.heap.size := owns_lt hown _ rfl
  have hvl : vb < w.heap.size := by
    rcases Nat.lt_or_ge vb w.heap.size with h | h
    · exact h
    · rw [Array.getElem?_eq_none h] at hv; cases hv
  obtain ⟨cur, c1, c2, c3, c4, c5, c6⟩ := owns_row hown
  have hT : (cellsE pairE (l.drop i)).length = (n - i) * 2 := by rw [cellsE_length pairE_ok, List.length_drop, ← hln]
  have hH : (cellsE pairE (l.take i)).length = i * 2 := by rw [cellsE_length pairE_ok, List.length_take]; omega
  have hold : (Builtin.firstCells i0.size i (.slice (some ⟨g, 0, none⟩) i n)).run Try.prog w.drew = .ok (cellsE pairE (l.take i)).toArray w.drew := by
    rw [hz1]
    refine run_firstCells_some w.drew 2 i ⟨g, 0, none⟩ i n (cellsE pairE (l.take i)) hH (fun j v hj => ?_)
    rw [add_none, Nat.zero_add]
    show w.cell? _ = _
    rw [cell_row_same c2]
    rw [cells2_take, List.getElem?_take] at hj
    split at hj
    · exact cells2_at hln c6 (by omega) _ _ hj
    · cases hj
  obtain ⟨G, hG⟩ : ∃ G, G = grownCap w (n + 1) n 51 := ⟨_, rfl⟩
  have hG1 : n + 1 ≤ G := by rw [hG]; exact grownCap_ge w _ _ _
  have hG2 : G ≤ maxLen := by rw [hG]; exact grownCap_le_maxLen w (n + 1) n _ (by unfold maxLen; omega)
  obtain ⟨ROW, hROW⟩ : ∃ ROW : List Value, ROW = cellsE pairE (l.take i) ++ (Builtin.zeroCells (Value.agg #[.int .i64 0, .int .i64 0]).cells (n + 1 - i)).toList ++ (Builtin.zeroCells (Value.agg #[.int .i64 0, .int .i64 0]).cells (G - (n + 1))).toList := ⟨_, rfl⟩
  have hRl : ROW.length = G * 2 := by
    rw [hROW]
    have e : (Value.agg #[.int .i64 0, .int .i64 0]).cells.size = 2 := by kernel_rfl
    simp only [List.length_append, hH, Builtin.zeroCells, Array.length_toList, Array.size_map, Array.size_range, e]
    omega
  have hRt : ROW.take (i * 2) = cellsE pairE (l.take i) := by rw [hROW, List.append_assoc]; exact List.take_left' hH
  have hik : i + (n + 1 - i) = n + 1 := by omega
  have hkk : (n : Int) + 1 - (i : Int) = ((n + 1 - i : Nat) : Int) := by omega
  obtain ⟨W1, hW1⟩ : ∃ W1, W1 = w.drew.alloc (.cells ROW.toArray 51) := ⟨_, rfl⟩
  have hrz : ∀ ty, (Builtin.append_ #[32, 3] ty #[.slice (some ⟨g, 0, none⟩) i n, .int .i64 ((n : Int) + 1 - (i : Int))]).run Try.prog w = .ok (.slice (some ⟨w.heap.size, 0, none⟩) (n + 1) G) W1 := fun ty => by
    have h := Lib.run_append_grow_zeros w 32 3 ty 51 i0 _ .i64 .i64 Try.underlying32 Try.underlying3 hi0 hz0 (some ⟨g, 0, none⟩) i n (cellsE pairE (l.take i)) hold (n + 1 - i) (by omega) (by omega) (by omega) (by omega) (by rw [hz2]; omega) (by rw [hz2, hik]; exact growslice_fits (by omega) (by omega))
    rw [hik, ← hG] at h
    rw [hkk, h, hW1]
    have hR : (cellsE pairE (l.take i)).toArray ++ Builtin.zeroCells (Value.agg #[.int .i64 0, .int .i64 0]).cells (n + 1 - i) ++ Builtin.zeroCells (Value.agg #[.int .i64 0, .int .i64 0]).cells (G - (n + 1)) = ROW.toArray := by
      rw [hROW]; apply Array.ext'; simp
    rw [hR]
  obtain ⟨H, hH2⟩ : ∃ H, H = w.heap.size := ⟨_, rfl⟩
  rw [← hH2] at hrz
  have hg1 : W1.heap[H]? = some (.cells ROW.toArray 51 (0, 0)) := by rw [hW1, hH2]; exact heap_alloc_new w.drew _
  have hold1 : ∀ b o, b < H → W1.cell? ⟨b, o, none⟩ = w.cell? ⟨b, o, none⟩ := fun b o hb => by
    rw [hW1, World.cell?_alloc_lt _ _ _ (by show b < w.heap.size; omega)]; rfl
  have hb1 : Below B w W1 := by rw [hW1]; exact ((Below.refl _ _).drew).alloc (by show B ≤ w.heap.size; omega) _
  obtain ⟨cur1, hcur1⟩ : ∃ cur1, cur1 = putL ROW (i * 2) (pairE u) := ⟨_, rfl⟩
  have hl1 : cur1.length = G * 2 := by rw [hcur1, putL_length (by show i * 2 + 2 ≤ _; omega)]; exact hRl
  obtain ⟨W2, hW2⟩ : ∃ W2, W2 = W1.setRow H cur1.toArray := ⟨_, rfl⟩
  have hg2 : W2.heap[H]? = some (.cells cur1.toArray 51 (0, 0)) := by rw [hW2]; exact setRow_heap W1 H ROW.toArray cur1.toArray 51 (0, 0) hg1
  have hb2 : Below B w W2 := by rw [hW2]; exact below_row hb1 (by omega) _
  have hcp1 : ∀ ty dc, (Builtin.copy_ #[32, 32] ty #[.slice (some ⟨H, i * 2, none⟩) (n + 1 - i) dc, .slice (some ⟨vb, 0, none⟩) 1 1]).run Try.prog W1 = .ok (goInt 1) W2 := fun ty dc => by
    rw [hW2, hcur1]
    refine run_copy_rowk W1 32 32 ty 51 2 H (i * 2) (n + 1 - i) dc ⟨vb, 0, none⟩ 1 1 1 ROW 51 (pairE u) Try.underlying32 size_pair hg1 (by simp only [Nat.min_def]; split <;> omega) rfl (fun j v hj => ?_) (by show i * 2 + 2 ≤ _; omega) (pairE_ok.one _)
    rw [add_none, Nat.zero_add, hold1 _ _ (by omega), cell_row_same hv]; exact hj
  obtain ⟨cur2, hcur2⟩ : ∃ cur2, cur2 = putL cur1 ((i + 1) * 2) (cellsE pairE (l.drop i)) := ⟨_, rfl⟩
  have hcp2 : ∀ ty dc sc, (Builtin.copy_ #[32, 32] ty #[.slice (some ⟨H, (i + 1) * 2, none⟩) (n + 1 - (i + 1)) dc, .slice (some ⟨g, i * 2, none⟩) (n - i) sc]).run Try.prog W2.drew = .ok (goInt ((n - i : Nat))) (W2.drew.setRow H cur2.toArray) := fun ty dc sc => by
    rw [hcur2]
    refine run_copy_rowk W2.drew 32 32 ty 51 2 H ((i + 1) * 2) (n + 1 - (i + 1)) dc ⟨g, i * 2, none⟩ (n - i) sc (n - i) cur1 51 (cellsE pairE (l.drop i)) Try.underlying32 size_pair hg2 (by simp only [Nat.min_def]; split <;> omega) hT (fun j v hj => ?_) (by omega) (cellsE_one pairE_ok _)
    rw [add_none]
    show W2.cell? _ = _
    rw [hW2, cell_row_other (by omega), hold1 _ _ (by omega), cell_row_same c2]
    rw [cells2_drop, List.getElem?_drop] at hj
    exact cells2_at hln c6 (by omega) _ _ hj
  have hfin : (W2.drew.setRow H cur2.toArray).ownsRow base 51 2 (.slice (some ⟨H, 0, none⟩) (n + 1) G) (n + 1) (cellsE pairE (betw l i u)) := by
    refine owns_of_row (by omega) (setRow_heap W2.drew H cur1.toArray cur2.toArray 51 (0, 0) hg2) hG1 hG2 ?_ ?_
    · rw [hcur2, putL_length (by omega)]; exact hl1
    · have h1 : cur1.take ((i + 1) * 2) = cellsE pairE (l.take i) ++ pairE u := by
        have h := putL_take_hi (cur := ROW) (cs := pairE u) (o := i * 2) (by omega)
        rw [show i * 2 + (pairE u).length = (i + 1) * 2 by show i * 2 + 2 = _; omega, ← hcur1, hRt] at h
        exact h
      have h2 := putL_take_hi (cur := cur1) (cs := cellsE pairE (l.drop i)) (o := (i + 1) * 2) (by omega)
      rw [hT, show (i + 1) * 2 + (n - i) * 2 = (n + 1) * 2 by omega, ← hcur2, h1] at h2
      rw [h2, betw_cells]
  have hb3 : Below B w (W2.drew.setRow H cur2.toArray) := below_row hb2.drew (by omega) _
  have HGw : Hid (w.grownBy (W2.drew.setRow H cur2.toArray) (some g)) := by
    unfold Hid
    have hbH : Below w.heap.size w W1 := by rw [hW1]; exact ((Below.refl _ _).drew).alloc (Nat.le_refl _) _
    have hbH2 : Below w.heap.size w W2 := by rw [hW2]; exact below_row hbH (by omega) _
    have hbH3 : Below w.heap.size w (W2.drew.setRow H cur2.toArray) := below_row hbH2.drew (by omega) _
    exact ⟨hbH3.os, hbH3.tape, hbH3.output, hbH3.size, fun k hk _ => hbH3.block k hk⟩
  have HF := Lib.hid hfin
  have HB3 := Lib.hid hb3
  have Hrz := Lib.hid hrz
  have Hcp1 := Lib.hid hcp1
  have Hcp2 := Lib.hid hcp2
  have x1 : ((i : Int) + 1).toNat = i + 1 := by omega
  have x2 : IntKind.i64.wrap ((i : Int) + 1) = (i : Int) + 1 := IntWalk.i64_in _ (by omega)
  have g0 : (i : Int) + 1 ≤ (n : Int) := by omega
  have g1 : (0 : Int) ≤ (i : Int) := by omega
  have g3 : (i : Int) ≤ (n : Int) := by omega
  have g4 : (0 : Int) ≤ (i : Int) + 1 := by omega
  have g6 : (i : Int) + 1 ≤ (n : Int) + 1 := by omega
  have g7 : (i : Int) ≤ (n : Int) + 1 := by omega
  have d0 : ((i : Int) == (n : Int)) = false := by simp; omega
  have d1 : ¬ (G = i + 1) := by omega
  have d2 : ¬ (G = i) := by omega
  have d4 : ¬ (n = i) := by omega
  have d3 : decide ((n : Int) < (n : Int) + 1) = true := by simp; omega
  have Hln := Lib.hid hln
  clear hown c1 c2 c5 c6 hcp1 hcp2 hfin hb3 hb2 hb1 hg1 hg2 hl1 hcur2 hT hW1 hW2 hcur1 hv hold1 hrz hH2 hRt hRl hROW hG hold hH hik hkk hln
  go_enter Try.func31, Try.ntmps31
  go_wp2_with (first
    | (at_builtin; refine Lib.wpList_append_run _ rfl _ _ _ _ rfl _ _ rfl rfl _ _ (Hrz.out _) ?_)
    | (refine wpList_copy_runI _ rfl _ _ 32 32 rfl _ _ rfl rfl (Hcp1.out _ _) ?_))
  go_region_law ((refine step_copy_runI (by rfl) (.tmp 50) (.tmp 53) 32 32 (by rfl) (.slice (some ⟨H, (i + 1) * 2, none⟩) (n + 1 - (i + 1)) (G - (i + 1))) (.slice (some ⟨g, i * 2, none⟩) (n - i) (n - i)) (by simp [Act.eval, Act.put]) (by simp [Act.eval, Act.put]) (Hcp2.out _ _ _) ?_))
  go_wp2_with fail
  go_ret
  exact ⟨_, rfl, HF.out, HB3.out, HGw.out⟩

/-- One slot laid into a table of the call's own. -/
theorem insert_pair (sv : Value) (n vb base B : Nat) (l : List (Int × Int)) (u : Int × Int) (i : Nat) (w : World) (hown : w.ownsRow base 51 2 sv n (cellsE pairE l)) (hv : w.heap[vb]? = some (.cells (pairE u).toArray 51 (0, 0))) (hne : sv.ownBlock ≠ some vb) (hi : i ≤ n) (hn : n ≤ 1000000) (hB : B ≤ base) (hbs : base ≤ w.heap.size) :
    Calls Try.prog 31 #[sv, .int .i64 i, .slice (some ⟨vb, 0, none⟩) 1 1] w fun e w' =>
      ∃ v', e = .returned v' ∧ w'.ownsRow base 51 2 v' (n + 1) (cellsE pairE (betw l i u)) ∧ Below B w w' ∧ w.grownBy w' sv.ownBlock := by
  rcases Nat.lt_or_eq_of_le hi with hlt | rfl
  · obtain ⟨g, cap, rfl, hg, _⟩ := World.ownsRow.form hown (by omega)
    have hne2 : g ≠ vb := fun e => hne (by rw [e]; rfl)
    obtain ⟨_, _, hq, hcap, _⟩ := owns_shape hown
    injection hq with _ _ hq
    subst hq
    rcases Nat.lt_or_eq_of_le hcap with hr | rfl
    · exact insert_shift g n cap vb base B l u i w hown hv hne2 hlt hr hn hB
    · exact insert_grow g n vb base B l u i w hown hv hlt hn hB hbs
  · exact insert_end sv i vb base B l u w hown hv hn hB hbs
end Go.Proofs.Ytdlgpcjdaaeliaa
