/- The methods of a forest through heap.Interface; Swap, Push, Pop. Conditions: numbers fit. -/
import Derived.Test.YtpkbbbdbcedkfaaHufA
namespace Go.Proofs.Ytpkbbbdbcedkfaa
open Go.RowKit

theorem load_forest (F : Nat) (w : World) (v : Value) (h : w.cell? ⟨F, 0, none⟩ = some v) : (loadVar 34 ⟨F, 0, none⟩).run Try.prog w = .ok v w := by
  have ha : (isAgg 34).run Try.prog w = .ok false w := by kernel_rfl
  simp [loadVar, Sem.run_bind, ha, go_sem, h]
/-- A method of a value, found through a pointer to it. -/
theorem meth_val (F : Nat) (w : World) (v : Value) (h : w.cell? ⟨F, 0, none⟩ = some v) (name : String) (f : FuncId)
    (hm : (Try.prog.info? 32).map (fun i => (i.methods.find? (·.name == name)).map fun m => (m.path.size, m.func)) = some (some (0, some (f, false)))) :
    (Go.method 171 32 (.pointer (some ⟨F, 0, none⟩)) name).run Try.prog w = .ok (f, v) w := by
  cases hq : Try.prog.info? 32 with
  | none => simp [hq] at hm
  | some ti =>
    rw [hq] at hm
    simp only [Option.map_some, Option.some.injEq] at hm
    cases hf : ti.methods.find? (·.name == name) with
    | none => rw [hf] at hm; cases hm
    | some m =>
      rw [hf] at hm
      simp only [Option.map_some, Option.some.injEq, Prod.mk.injEq] at hm
      obtain ⟨hp, hfn⟩ := hm
      have hp' : m.path.toList = [] := List.length_eq_zero_iff.1 (by rw [Array.length_toList]; exact hp)
      have hp'' : m.path.isEmpty = true := by rw [Array.isEmpty_iff]; exact Array.size_eq_zero_iff.1 hp
      have hl := load_forest F w v h
      have e1 : (typeInfo 32).run Try.prog w = .ok ti w := by simp [typeInfo, hq]
      have e2 : (underlying 32).run Try.prog w = .ok (.pointer 34) w := run_underlying Try.underlying32 w
      have e3 : ∀ n : String, (Builtin.ssaWrapNilChk_ #[32] 32 #[.pointer (some ⟨F, 0, none⟩), strVal "", strVal n]).run Try.prog w = .ok (.pointer (some ⟨F, 0, none⟩)) w := fun n => rfl
      rw [method]
      simp only [Sem.run_bind, e1, Result.andThen_ok, hf, hp', hfn, follow, Sem.run_pure, receiverAt, e2, hp'', Place.get, if_true, e3, asAddr, hl]
theorem meth_len (F : Nat) (w : World) (v : Value) (h : w.cell? ⟨F, 0, none⟩ = some v) : (Go.method 171 32 (.pointer (some ⟨F, 0, none⟩)) "Len").run Try.prog w = .ok (22, v) w :=
  meth_val F w v h "Len" 22 (by kernel_rfl)
theorem meth_less (F : Nat) (w : World) (v : Value) (h : w.cell? ⟨F, 0, none⟩ = some v) : (Go.method 171 32 (.pointer (some ⟨F, 0, none⟩)) "Less").run Try.prog w = .ok (45, v) w :=
  meth_val F w v h "Less" 45 (by kernel_rfl)
theorem meth_swap (F : Nat) (w : World) (v : Value) (h : w.cell? ⟨F, 0, none⟩ = some v) : (Go.method 171 32 (.pointer (some ⟨F, 0, none⟩)) "Swap").run Try.prog w = .ok (48, v) w :=
  meth_val F w v h "Swap" 48 (by kernel_rfl)
theorem meth_push (a : Addr) (w : World) : (Go.method 171 32 (.pointer (some a)) "Push").run Try.prog w = .ok (47, .pointer (some a)) w := by kernel_rfl
theorem meth_pop (a : Addr) (w : World) : (Go.method 171 32 (.pointer (some a)) "Pop").run Try.prog w = .ok (46, .pointer (some a)) w := by kernel_rfl

theorem kp_row {B g : Nat} {w w' : World} {cur : Array Value} (hg : w.heap[g]? = some (.cells cur 36 (0, 0))) (hb : Below B w w') (h : ∀ b, b ≠ g → b < w.heap.size → w'.heap[b]? = w.heap[b]?) : Kp B w w' :=
  ⟨hb, fun b cs t hc _ h2 => by
    by_cases e : b = g
    · subst e
      rw [hg] at hc
      injection hc with hc
      injection hc with _ hc _
      exact absurd hc.symm h2
    · refine h b e ?_
      rcases Nat.lt_or_ge b w.heap.size with q | q
      · exact q
      · rw [Array.getElem?_eq_none q] at hc; cases hc⟩

set_option maxRecDepth 100000 in
set_option maxHeartbeats 2000000 in
theorem swap_any (B : Nat) (v : Value) (ps : List Nat) (A : List HT) (i j : Nat) (w : World) (h : Row B w v ps A) (hi : i < A.length) (hj : j < A.length) (hl : A.length ≤ 1000000) :
    Calls Try.prog 48 #[v, .int .i64 i, .int .i64 j] w fun e w' => e = .returned (.tuple #[]) ∧ (∃ ps', Row B w' v ps' (swapT A i j)) ∧ Kp B w w' ∧ w'.heap.size = w.heap.size ∧ ∀ b, v.ownBlock ≠ some b → w'.heap[b]? = w.heap[b]? := by
  obtain ⟨g, cap, rfl, hc, hBg, hcell⟩ := row_cells h (by omega)
  obtain ⟨hi', ci, fi, ri⟩ := hcell i hi
  obtain ⟨hj', cj, fj, rj⟩ := hcell j hj
  obtain ⟨hown, hpl, hrep⟩ := h
  have g0 : (i : Int) < (A.length : Int) := by omega
  have g1 : (j : Int) < (A.length : Int) := by omega
  have g2 : (0 : Int) ≤ (i : Int) := by omega
  have g3 : (0 : Int) ≤ (j : Int) := by omega
  have fin : Hid (∀ w', w' = ((w.setCell ⟨g, i, none⟩ (ptrV ps[j])).setCell ⟨g, j, none⟩ (ptrV ps[i])).drew → (∃ ps', Row B w' (.slice (some ⟨g, 0, none⟩) A.length cap) ps' (swapT A i j)) ∧ Kp B w w' ∧ w'.heap.size = w.heap.size ∧ ∀ b, (Value.slice (some ⟨g, 0, none⟩) A.length cap).ownBlock ≠ some b → w'.heap[b]? = w.heap[b]?) := by
    unfold Hid
    rintro w' rfl
    have hoth : ∀ b, b ≠ g → (((w.setCell ⟨g, i, none⟩ (ptrV ps[j])).setCell ⟨g, j, none⟩ (ptrV ps[i])).drew).heap[b]? = w.heap[b]? := fun b hb => by
      show ((w.setCell ⟨g, i, none⟩ (ptrV ps[j])).setCell ⟨g, j, none⟩ (ptrV ps[i])).heap[b]? = _
      rw [Below.heap_setCell _ _ _ _ hb, Below.heap_setCell _ _ _ _ hb]
    have hbl : Below B w ((w.setCell ⟨g, i, none⟩ (ptrV ps[j])).setCell ⟨g, j, none⟩ (ptrV ps[i])).drew := ((Below.refl B w).setCell (p := ⟨g, i, none⟩) hBg _ |>.setCell (p := ⟨g, j, none⟩) hBg _).drew
    obtain ⟨cur, hcur⟩ : ∃ cur, w.heap[g]? = some (.cells cur 36 (0, 0)) := by
      obtain ⟨_, h⟩ := hown
      rcases h with ⟨h, _⟩ | ⟨g', cap', cur, hv, _, hc', _⟩
      · cases h
      · injection hv with hv _ _
        injection hv with hv
        injection hv with hv
        subst hv
        exact ⟨cur, hc'⟩
    have hkp := kp_row hcur hbl (fun b hb _ => hoth b hb)
    refine ⟨⟨(ps.set i ps[j]).set j ps[i], ?_, ?_, ?_⟩, hkp, by simp, fun b hb => hoth b (fun e => hb (by rw [e]; rfl))⟩
    · have h1 := ((hown.stored i (ptrV ps[j])).1.stored j (ptrV ps[i])).1
      rw [← List.map_set, ← List.map_set] at h1
      rw [swapT_length]
      exact h1
    · simp [swapT_length, hpl]
    · intro k hk hk'
      have hkA : k < A.length := by rwa [swapT_length] at hk
      have hsw := swapT_at hi hj k
      rw [atT_get hk] at hsw
      rw [hsw, List.getElem_set]
      by_cases e : j = k
      · subst e
        rw [if_pos rfl, if_pos rfl, atT_get hi]
        exact rep_kp hkp ri
      · rw [if_neg e, if_neg (Ne.symm e), List.getElem_set]
        by_cases e2 : i = k
        · subst e2
          rw [if_pos rfl, if_pos rfl, atT_get hj]
          exact rep_kp hkp rj
        · rw [if_neg e2, if_neg (Ne.symm e2), atT_get hkA]
          exact rep_kp hkp (hrep k hkA (by omega))
  by_cases hij : i = j
  · subst hij
    have c2 : (w.setCell ⟨g, i, none⟩ (ptrV ps[i])).drew.cell? ⟨g, i, none⟩ = some (ptrV ps[i]) := set_cell_same ci
    clear hown hrep hcell ri rj
    generalize ps[i] = pi at *
    go_enter Try.func48, Try.ntmps48
    go_wp2_with fail
    go_region
    all_goals
      go_wp2_with fail
      go_end0
      exact ⟨rfl, fin.out _ rfl⟩
  · obtain ⟨v', hv'⟩ := cell?_setCell_some (w := w.drew) (p := ⟨g, i, none⟩) (x := ptrV ps[j]) (q := ⟨g, j, none⟩) (v := ptrV ps[j]) cj
    clear hown hrep hcell ri rj
    generalize ps[i] = pi at *
    generalize ps[j] = pj at *
    go_enter Try.func48, Try.ntmps48
    go_wp2_with fail
    go_region
    all_goals
      go_wp2_with fail
      go_end0
      exact ⟨rfl, fin.out _ rfl⟩
end Go.Proofs.Ytpkbbbdbcedkfaa
