/- The document's answers on tables: one laid anew, Free, Commit. Conditions: numbers fit. -/
import Derived.Test.YtddbcpmhgjkjpaaAlcG
import Derived.Test.YtddbcpmhgjkjpaaSl3
namespace Go.Proofs.Ytddbcpmhgjkjpaa
open Go.RowKit

theorem slices_list (vs : List Value) (h : ∀ v ∈ vs, ∃ a n c, v = Value.slice a n c) : ∃ ys : List (Option Addr × Nat × Nat), vs = ys.map fun t => Value.slice t.1 t.2.1 t.2.2 := by
  induction vs with
  | nil => exact ⟨[], rfl⟩
  | cons v vs ih =>
    obtain ⟨ys, hy⟩ := ih fun x hx => h x (List.mem_cons_of_mem _ hx)
    obtain ⟨a, n, c, rfl⟩ := h v (List.mem_cons_self ..)
    exact ⟨(a, n, c) :: ys, by rw [hy]; rfl⟩
/-- What a list of tables is made of: slices; each reads as its table. -/
theorem tab_list {w : World} {v : Value} {ls : List (List Us)} (h : TabV w v ls) : ∃ ys : List (Option Addr × Nat × Nat), SlOf w v 1 (fun t => [Value.slice t.1 t.2.1 t.2.2]) ys ∧ ys.length = ls.length ∧ ∀ i (hi : i < (ys.map fun t => Value.slice t.1 t.2.1 t.2.2).length) (hj : i < ls.length), UseV w (ys.map fun t => Value.slice t.1 t.2.1 t.2.2)[i] ls[i] := by
  obtain ⟨vs, h1, h2, h3⟩ := h
  obtain ⟨ys, rfl⟩ := slices_list vs fun v hv => by
    obtain ⟨i, hi, rfl⟩ := List.getElem_of_mem hv
    obtain ⟨a, c, e, _⟩ := h3 i hi (by omega)
    exact ⟨a, _, c, e⟩
  refine ⟨ys, ?_, by simpa using h2, h3⟩
  obtain ⟨a, cap, hv, hl, hn, hc⟩ := h1
  refine ⟨a, cap, by simpa using hv, by simpa using hl, hn, ?_⟩
  rcases hc with hc | ⟨b, off, ha, hb, hcell⟩
  · exact Or.inl (by simpa using hc)
  · refine Or.inr ⟨b, off, ha, hb, fun i hi j hj => ?_⟩
    have := hcell i (by simpa using hi) j hj
    simpa using this

set_option maxRecDepth 100000 in
set_option maxHeartbeats 2000000 in
theorem with_any (v x : Value) (ls : List (List Us)) (l : List Us) (k : Nat) (w : World) (hv : TabV w v ls) (hx : UseV w x l) (hk : k < ls.length) (hf : FewT ls) :
    Calls Try.prog 75 #[v, .int .i64 k, x] w fun e w' => ∃ a cap, e = .returned (.slice a ls.length cap) ∧ TabV w' (.slice a ls.length cap) (ls.set k l) ∧ Below w.heap.size w w' := by
  obtain ⟨i0, hi, hz0, hz1, hz2⟩ := info_parts info_tab
  have hf2 := hf.2
  obtain ⟨ys, hs, hyl, hus⟩ := tab_list hv
  obtain ⟨aX, cX, rfl, hnX, _⟩ := tab_shape hv
  obtain ⟨aU, cU, rfl, _⟩ := id hx
  have hba : Below w.heap.size w (w.alloc (.cells #[] 22)) := (Below.refl _ _).alloc (Nat.le_refl _) _
  have HS := Lib.hid (sl_below hs hba)
  have HU := Lib.hid hus
  have HX := Lib.hid hx
  have HE := Lib.hid (owns_empty w 22 1)
  have g1 : (k : Int) < (ls.length : Int) := by omega
  have g2 : (0 : Int) ≤ (k : Int) := by omega
  clear hv hs hus hnX hba hx
  go_enter Try.func75, Try.ntmps75
  go_wp2_with (first
    | (at_builtin; refine wpList_append_sl (f := fun t : Option Addr × Nat × Nat => Value.slice t.1 t.2.1 t.2.2) (ys := ys) rfl _ _ 46 rfl w.heap.size 22 i0 (.slice none 0 0) 24 Try.underlying46 hi hz0 hz1 hz2 rfl _ _ _ rfl HE.out _ rfl HS.out (fun _ => rfl) (by simp [maxLen]; omega) (by omega) (by simp) ?_
       intro v1 w1 hown1 hg1 _
       have hb1 := ((Below.refl w.heap.size w).alloc (Nat.le_refl _) (.cells #[] 22)).grown hg1 (by simp) (fun b hb => owns_block HE.out b hb)
       obtain ⟨a1, c1, rfl, _⟩ := owns_shape hown1
       rw [List.nil_append] at hown1
       have ht1 := tab_of_owns (ls := ls) hown1 (by simpa using hyl) (fun i hi hj => sl_below (HU.out i hi hj) hb1)
       rw [Nat.zero_add, hyl] at hown1 ht1
       obtain ⟨b5, off5, au5, cu5, hveq, hblt5, hcell5, _⟩ := tab_at ht1 hk
       subst hveq
       have hwb := owns_block hown1 b5 rfl
       have hfz := owns_free hown1 (b := b5) rfl (off5 + k)
       have HT := Lib.hid ht1
       have HB := Lib.hid hb1
       have HX1 := Lib.hid (sl_below HX.out hb1)
       clear hown1 hg1 hb1 ht1)
    | fail)
  go_ret
  exact ⟨some ⟨b5, off5, none⟩, c1, by simp, by simpa using tab_set HT.out hk HX1.out, HB.out.setCell hwb _⟩
end Go.Proofs.Ytddbcpmhgjkjpaa
