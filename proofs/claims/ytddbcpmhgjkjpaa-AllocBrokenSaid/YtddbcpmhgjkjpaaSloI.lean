/- Contracts: slices.Delete of one slot, slices.Insert of one. Conditions: numbers fit. -/
import Derived.Test.YtddbcpmhgjkjpaaSloE
import Derived.Test.YtddbcpmhgjkjpaaRow
import Derived.Deep.RegionLaw
namespace Go.Proofs.Ytddbcpmhgjkjpaa
open Go.RowKit Go.Lib

abbrev zeroU : Us := (0, 0, 0, false)
theorem zero_use : ∀ w, (zeroValue 41).run Try.prog w = .ok (.agg #[.int .i64 0, .int .i64 0, .int .i64 0, .bool false]) w := fun w => by kernel_rfl
theorem zero_cells4 : (Builtin.zeroCells (Value.agg #[.int .i64 0, .int .i64 0, .int .i64 0, .bool false]).cells 1).toList = useE zeroU := by kernel_rfl
theorem useE_one9 (u : Us) : ∀ x ∈ useE u, x.oneCell' = true := by
  intro x hx
  simp only [useE, List.mem_cons, List.not_mem_nil, or_false] at hx
  rcases hx with rfl | rfl | rfl | rfl <;> rfl
theorem size_use : (Try.prog.info? 41).map (·.size) = some 4 := by kernel_rfl
theorem cells4_at {cur : List Value} {l : List Us} {n : Nat} (_hn : n = l.length) (h : cur.take (n * 4) = cells4 l) (_hfit : n * 4 ≤ cur.length) : ∀ (j : Nat) (u : Value), (cells4 l)[j]? = some u → cur[j]? = some u := by
  intro j u hj
  rw [← h, List.getElem?_take] at hj
  split at hj
  · exact hj
  · cases hj

set_option maxRecDepth 100000 in
set_option maxHeartbeats 4000000 in
theorem delete_use (g n cap base B : Nat) (l : List Us) (i : Nat) (w : World) (hown : w.ownsRow base 41 4 (.slice (some ⟨g, 0, none⟩) n cap) n (cells4 l)) (hi : i < n) (hn : n ≤ 1000000) (hB : B ≤ base) :
    Calls Try.prog 60 #[.slice (some ⟨g, 0, none⟩) n cap, .int .i64 i, .int .i64 ((i : Int) + 1)] w fun e w' =>
      e = .returned (.slice (some ⟨g, 0, none⟩) (n - 1) cap) ∧ w'.ownsRow base 41 4 (.slice (some ⟨g, 0, none⟩) (n - 1) cap) (n - 1) (cells4 (l.eraseIdx i)) ∧ Below B w w' := by
  obtain ⟨i0, hi0, hz0, hz1, hz2⟩ := info_parts info_use
  obtain ⟨cur, c1, c2, c3, c4, c5, c6⟩ := owns_row hown
  have hln : n = l.length := (use_of_owns hown).2
  have hc63 : cap ≤ 9223372036854775807 := by unfold maxLen at c4; omega
  -- what is appended
  have hT : (cells4 (l.drop (i + 1))).length = (n - (i + 1)) * 4 := by rw [cells4_length, List.length_drop, ← hln]
  have hTa : ∀ j u, (cells4 (l.drop (i + 1)))[j]? = some u → cur[(i + 1) * 4 + j]? = some u := fun j u hj => by
    rw [cells4_drop, List.getElem?_drop] at hj
    exact cells4_at hln c6 (by omega) _ _ hj
  obtain ⟨cur1, hcur1⟩ : ∃ cur1, cur1 = putL cur (i * 4) (cells4 (l.drop (i + 1))) := ⟨_, rfl⟩
  have hl1 : cur1.length = cap * 4 := by rw [hcur1, putL_length (by omega)]; exact c5
  have ht1 : cur1.take ((n - 1) * 4) = cells4 (l.eraseIdx i) := by
    have h := putL_take_hi (cur := cur) (cs := cells4 (l.drop (i + 1))) (o := i * 4) (by omega)
    rw [hT, show i * 4 + (n - (i + 1)) * 4 = (n - 1) * 4 by omega, ← hcur1] at h
    rw [h, List.eraseIdx_eq_take_drop_succ, cells4_append]
    congr 1
    rw [cells4_take, ← c6, List.take_take, Nat.min_eq_left (by omega)]
  have happ : ∀ ty ad c, (∀ j u, (cells4 (l.drop (i + 1)))[j]? = some u → w.drew.cell? (ad.add j) = some u) →
      (Builtin.append_ #[22, 22] ty #[.slice (some ⟨g, 0, none⟩) i cap, .slice (some ad) (n - (i + 1)) c]).run Try.prog w.drew = .ok (.slice (some ⟨g, 0, none⟩) (n - 1) cap) (w.drew.setRow g cur1.toArray) := fun ty ad c hsrc => by
    have := run_append_rowk w.drew (P := Try.prog) 22 ty 41 i0 4 Try.underlying22 hi0 hz1 g i cap cur 41 c2 ad (n - (i + 1)) c (cells4 (l.drop (i + 1))) hT hsrc (cells4_one _) (by omega) (by omega)
    rw [hcur1, this, show i + (n - (i + 1)) = n - 1 by omega]
  obtain ⟨W1, hW1⟩ : ∃ W1, W1 = w.drew.setRow g cur1.toArray := ⟨_, rfl⟩
  have hg1 : W1.heap[g]? = some (.cells cur1.toArray 41 (0, 0)) := by rw [hW1]; exact setRow_heap w.drew g cur.toArray cur1.toArray 41 (0, 0) c2
  have hb1 : Below B w W1 := by rw [hW1]; exact below_row ((Below.refl _ _).drew) (by omega) _
  obtain ⟨cur2, hcur2⟩ : ∃ cur2, cur2 = putL cur1 ((n - 1) * 4) (useE zeroU) := ⟨_, rfl⟩
  have hcl : ∀ ty, (Builtin.clear_ #[22] ty #[.slice (some ⟨g, (n - 1) * 4, none⟩) 1 (cap - (n - 1))]).run Try.prog W1 = .ok (.tuple #[]) (W1.setRow g cur2.toArray) := fun ty => by
    rw [hcur2]
    exact run_clear_row1 W1 22 41 ty _ (useE zeroU) Try.underlying22 zero_use zero_cells4 (useE_one9 _) g ((n - 1) * 4) _ cur1 41 hg1 (by show (n - 1) * 4 + 4 ≤ _; omega)
  have hfin : (W1.setRow g cur2.toArray).ownsRow base 41 4 (.slice (some ⟨g, 0, none⟩) (n - 1) cap) (n - 1) (cells4 (l.eraseIdx i)) := by
    refine owns_of_row c1 (setRow_heap W1 g cur1.toArray cur2.toArray 41 (0, 0) hg1) (by omega) c4 ?_ ?_
    · rw [hcur2, putL_length (by show (n - 1) * 4 + 4 ≤ _; omega)]; exact hl1
    · rw [hcur2, putL_take_lo (by omega) (Nat.le_refl _)]; exact ht1
  have hb2 : Below B w (W1.setRow g cur2.toArray) := below_row hb1 (by omega) _
  rw [← hW1] at happ
  have HF := Lib.hid hfin
  have HB2 := Lib.hid hb2
  have HA := Lib.hid happ
  have HCl := Lib.hid hcl
  have HSrc : Hid (∀ j u, (cells4 (l.drop (i + 1)))[j]? = some u → w.drew.cell? ((⟨g, (i + 1) * 4, none⟩ : Addr).add j) = some u) := fun j u hj => by
    rw [add_none]
    have := hTa j u hj
    show w.cell? _ = _
    rw [cell_row_same c2]; exact this
  have hn1 : (((n - 1 : Nat)) : Int) = (n : Int) - 1 := by omega
  have x1 : ((i : Int) + 1).toNat = i + 1 := by omega
  have g0 : (i : Int) + 1 ≤ (n : Int) := by omega
  have g1 : (0 : Int) ≤ (i : Int) := by omega
  have g2 : (n : Int) ≤ (cap : Int) := by omega
  have d0 : ((i : Int) == (i : Int) + 1) = false := by simp; omega
  have mm : (n - 1 : Nat) < cap := by omega
  clear hown c1 c2 c6 hTa happ hcl hfin hb2 hb1 hg1 ht1 hl1 hcur2 hT hW1 hcur1
  have Hln := Lib.hid hln
  clear hln
  have g3 : (i : Int) ≤ (cap : Int) := by omega
  have g4 : (0 : Int) ≤ (i : Int) + 1 := by omega
  have g5 : (i : Int) ≤ (i : Int) + 1 := by omega
  have q1 : n - (n - 1) = 1 := by omega
  have q2 : i + 1 - i = 1 := by omega
  by_cases hcap : cap = i + 1
  · subst hcap
    obtain rfl : n = i + 1 := by omega
    have HS2 : Hid (∀ (ad : Addr) (j : Nat) (u : Value), (cells4 (l.drop (i + 1)))[j]? = some u → w.drew.cell? (ad.add j) = some u) := fun ad j u hj => by
      have : (cells4 (l.drop (i + 1))).length = 0 := by rw [cells4_length, List.length_drop, ← Hln.out]; simp
      rw [List.length_eq_zero_iff.1 this] at hj; simp at hj
    have HA0 : Hid (∀ ty ad c, (Builtin.append_ #[22, 22] ty #[.slice (some ⟨g, 0, none⟩) i (i + 1), .slice (some ad) 0 c]).run Try.prog w.drew = .ok (.slice (some ⟨g, 0, none⟩) i (i + 1)) W1) := fun ty ad c => by
      have := HA.out ty ad c (HS2.out ad)
      rw [Nat.sub_self, Nat.add_sub_cancel] at this; exact this
    have HCl0 : Hid (∀ ty, (Builtin.clear_ #[22] ty #[.slice (some ⟨g, i * 4, none⟩) 1 1]).run Try.prog W1 = .ok (.tuple #[]) (W1.setRow g cur2.toArray)) := fun ty => by
      have := HCl.out ty
      rw [Nat.add_sub_cancel, show i + 1 - i = 1 by omega] at this; exact this
    rw [Nat.add_sub_cancel] at HF ⊢
    go_enter Try.func60, Try.ntmps60
    go_wp2_with fail
    go_region_law ((refine step_append_run (by rfl) (.tmp 22) (.tmp 25) 22 22 (by rfl) (.slice (some ⟨g, 0, none⟩) i (i + 1)) (.slice (some ⟨g, 0, none⟩) 0 0) (by simp [Act.eval, Act.put]) (by simp [Act.eval, Act.put]) (HA0.out _ ⟨g, 0, none⟩ 0) ?_))
    go_wp2_with (first | (refine wpList_clear_run rfl _ 22 rfl _ rfl (HCl0.out _) ?_))
    go_ret
    exact ⟨rfl, HF.out, HB2.out⟩
  · go_enter Try.func60, Try.ntmps60
    go_wp2_with fail
    go_region_law ((refine step_append_run (by rfl) (.tmp 22) (.tmp 25) 22 22 (by rfl) (.slice (some ⟨g, 0, none⟩) i cap) (.slice (some ⟨g, (i + 1) * 4, none⟩) (n - (i + 1)) (cap - (i + 1))) (by simp [Act.eval, Act.put]) (by simp [Act.eval, Act.put]) (HA.out _ _ _ HSrc.out) ?_))
    go_wp2_with (first | (refine wpList_clear_run rfl _ 22 rfl _ rfl (HCl.out _) ?_))
    go_ret
    exact ⟨rfl, HF.out, HB2.out⟩
end Go.Proofs.Ytddbcpmhgjkjpaa
