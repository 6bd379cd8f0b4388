/- Push, Pop of a forest; heap.Push, heap.Pop. Conditions: numbers fit. -/
import Derived.Test.YtpkbbbdbcedkfaaHufD
import Derived.Deep.RegionLaw
import Derived.Deep.AppendLies
namespace Go.Proofs.Ytpkbbbdbcedkfaa
open Go.RowKit

theorem info_ptr : (Try.prog.info? 36).map (fun i => (i.zero, i.size, i.bytes)) = some (some (.pointer none), 1, 8) := by kernel_rfl
theorem cell_one_new' (w : World) (v : Value) (t : TypeId) : ∀ j u, [v][j]? = some u → (w.alloc (.cells #[v] t)).cell? ((⟨w.heap.size, 0, none⟩ : Addr).add j) = some u := cell_one_new w v t

theorem assert_tree (p : Nat) (w : World) : (Instr.typeAssert (.iface 36 (ptrV p)) 20 36 false).run Try.prog w = .ok (ptrV p) w := by kernel_rfl

/-- Behind an append the forest's row is longer by one. -/
theorem fs_append {B F : Nat} {w w1 : World} {A : List HT} {v v1 : Value} {ps : List Nat} {p : Nat} {t : HT} {o : Obj} (hB : B ≤ F) (hF : w.heap[F]? = some (.cells #[v] 34 (0, 0))) (hr : Row B w v ps A) (hrep : Rep w p t)
    (hown : w1.ownsRow B 36 1 v1 (A.length + 1) (ps.map ptrV ++ [ptrV p])) (hg : (w.alloc o).grownBy w1 v.ownBlock) :
    (w1.heap[F]? = some (.cells #[v] 34 (0, 0))) ∧ ForS B F (w1.setCell ⟨F, 0, none⟩ v1) (A ++ [t]) ∧ Kp B w (w1.setCell ⟨F, 0, none⟩ v1) := by
  have hFlt : F < w.heap.size := by
    rcases Nat.lt_or_ge F w.heap.size with q | q
    · exact q
    · rw [Array.getElem?_eq_none q] at hF; cases hF
  have hne := row_ne hr hF
  have hBw : B ≤ w.heap.size := by omega
  have hF1 : w1.heap[F]? = some (.cells #[v] 34 (0, 0)) := by
    rw [hg.block F (by simp; omega) (fun e => hne e.symm), Below.heap_alloc _ _ _ hFlt]; exact hF
  have hbl : Below B w w1 := ((Below.refl B w).alloc hBw o).grown hg (by simp; omega) (fun k hk => owns_block hr.1 k hk)
  have hkp1 : Kp B w w1 := ⟨hbl, fun b cs ty hb h1 h2 => by
    have hblt : b < w.heap.size := by
      rcases Nat.lt_or_ge b w.heap.size with q | q
      · exact q
      · rw [Array.getElem?_eq_none q] at hb; cases hb
    have hbne : some b ≠ v.ownBlock := fun e => by
      obtain ⟨⟨_, h⟩, _⟩ := hr
      rcases h with ⟨rfl, _⟩ | ⟨g, cap, cur, rfl, _, hc, _⟩
      · cases e
      · injection e with e
        subst e
        rw [hb] at hc
        injection hc with hc
        injection hc with _ hc _
        exact h2 hc
    rw [hg.block b (by simp; omega) hbne, Below.heap_alloc _ _ _ hblt]⟩
  have hset : (w1.setCell ⟨F, 0, none⟩ v1).heap[F]? = some (.cells #[v1] 34 (0, 0)) := by
    rw [heap_setCell_same w1 F 0 _ _ v1 hF1]; rfl
  have hkp2 : Kp B w1 (w1.setCell ⟨F, 0, none⟩ v1) := ⟨(Below.refl B w1).setCell (p := ⟨F, 0, none⟩) hB v1, fun b cs ty hb h1 h2 => by
    refine Below.heap_setCell _ _ _ _ fun e => ?_
    have e : b = F := e
    subst e
    rw [hF1] at hb
    injection hb with hb
    injection hb with _ hb _
    exact h1 hb.symm⟩
  refine ⟨hF1, ⟨v1, ps ++ [p], hB, hset, ?_⟩, hkp1.trans hkp2⟩
  have hrow1 : Row B w1 v1 (ps ++ [p]) (A ++ [t]) := by
    refine ⟨by rw [List.length_append, List.map_append]; exact hown, by simp [hr.2.1], fun i h h' => ?_⟩
    have hpl := hr.2.1
    by_cases hi : i < A.length
    · rw [List.getElem_append_left (by omega), List.getElem_append_left hi]
      exact rep_kp hkp1 (hr.2.2 i hi (by omega))
    · have : i = A.length := by simp at h; omega
      subst this
      rw [List.getElem_append_right (by omega), List.getElem_append_right (by omega)]
      simp only [hpl, Nat.sub_self, List.getElem_cons_zero]
      exact rep_kp hkp1 hrep
  refine row_kp hrow1 hkp2 fun g hg' => Below.heap_setCell _ _ _ _ fun e => ?_
  have e : g = F := e
  subst e
  exact row_ne hrow1 hF1 hg'

set_option maxRecDepth 100000 in
set_option maxHeartbeats 4000000 in
theorem pushM_any (B F : Nat) (A : List HT) (p : Nat) (t : HT) (w : World) (h : ForS B F w A) (hrep : Rep w p t) (hl : A.length < 1000000) :
    Calls Try.prog 47 #[.pointer (some ⟨F, 0, none⟩), .iface 36 (ptrV p)] w fun e w' => e = .returned (.tuple #[]) ∧ ForS B F w' (A ++ [t]) ∧ Kp B w w' := by
  obtain ⟨i0, hi, hz0, hz1, hz2⟩ := info_parts info_ptr
  obtain ⟨v, ps, hB, hF, hr⟩ := h
  have hFlt : F < w.heap.size := by
    rcases Nat.lt_or_ge F w.heap.size with q | q
    · exact q
    · rw [Array.getElem?_eq_none q] at hF; cases hF
  have hcell := fs_cell hF
  have hfr := frozen_of_row w F 0 _ _ hF
  have hta := assert_tree p
  obtain ⟨a0, c0, rfl, _⟩ := owns_shape hr.1
  have HF := Lib.hid hF
  have Hr := Lib.hid hr
  have Hrep := Lib.hid hrep
  have HB := Lib.hid hB
  clear hF hr hrep
  go_enter Try.func47, Try.ntmps47
  go_wp2_with fail
  have hownD : ((w.alloc (.cells #[ptrV p] 36)).drew).ownsRow B 36 1 (.slice a0 A.length c0) A.length (ps.map ptrV) := Hr.out.1.alloc _
  have HownD := Lib.hid hownD
  have HnewsD := Lib.hid (show ∀ j u, [ptrV p][j]? = some u → ((w.alloc (.cells #[ptrV p] 36)).drew).cell? ((⟨w.heap.size, 0, none⟩ : Addr).add j) = some u from cell_one_new w (ptrV p) 36)
  have HbaseD : Hid (B ≤ ((w.alloc (.cells #[ptrV p] 36)).drew).heap.size) := by unfold Hid; have := HB.out; simp; omega
  have H63 : Hid (A.length + 1 ≤ maxLen) := by unfold Hid; simp [maxLen]; omega
  have Hby : Hid ((A.length + 1) * 8 ≤ 140737488355328) := by unfold Hid; omega
  have Hone : Hid (∀ u ∈ [ptrV p], u.oneCell' = true) := by unfold Hid; simp [Value.oneCell']
  clear hownD
  go_region_law ((refine step_append_lies _ (by rfl) _ _ 34 (by rfl) B 36 i0 (.pointer none) 1 8 Try.underlying34 hi hz0 hz1 hz2 rfl (by decide) (.slice a0 A.length c0) A.length (ps.map ptrV) (by rfl) HownD.out ⟨w.heap.size, 0, none⟩ 1 1 [ptrV p] (by rfl) rfl HnewsD.out Hone.out (by decide) H63.out Hby.out HbaseD.out _ rfl ?_; intro g cap w1 hown1 hgrow hat hlt; have hg2 : (w.alloc (.cells #[ptrV p] 36)).grownBy w1 (Value.slice a0 A.length c0).ownBlock := ⟨hgrow.os, hgrow.tape, hgrow.output, hgrow.size, hgrow.block⟩; have hfs := fs_append HB.out HF.out Hr.out Hrep.out hown1 hg2; have hc1 := fs_cell hfs.1; have hf1 := frozen_of_row w1 F 0 _ _ hfs.1; have Hfs := Lib.hid hfs; clear hown1 hgrow hg2 hat hlt hfs))
  all_goals
    go_wp2_with fail
    go_end0
    exact ⟨rfl, Hfs.out.2.1, Hfs.out.2.2⟩

theorem owns_take {w : World} {base e n m cap : Nat} {a : Option Addr} {cs : List Value} (h : w.ownsRow base e 1 (.slice a n cap) n cs) (hm : m ≤ n) : w.ownsRow base e 1 (.slice a m cap) m (cs.take m) := by
  obtain ⟨hl, h⟩ := h
  refine ⟨by rw [List.length_take]; omega, ?_⟩
  rcases h with ⟨h, rfl⟩ | ⟨g, cap', cur, hv, hg, hc, hn, hm', hs, ht⟩
  · obtain rfl : m = 0 := by omega
    injection h with h1 h2 h3
    subst h1 h3
    exact Or.inl ⟨rfl, rfl⟩
  · injection hv with h1 _ h3
    subst h1 h3
    refine Or.inr ⟨g, cap, cur, rfl, hg, hc, by omega, hm', hs, ?_⟩
    rw [← ht, List.take_take]
    congr 1
    omega

set_option maxRecDepth 100000 in
set_option maxHeartbeats 4000000 in
theorem popM_any (B F : Nat) (A : List HT) (n : Nat) (w : World) (h : ForS B F w A) (hn : A.length = n + 1) (hl : A.length ≤ 1000000) :
    Calls Try.prog 46 #[.pointer (some ⟨F, 0, none⟩)] w fun e w' => ∃ p, e = .returned (.iface 36 (ptrV p)) ∧ Rep w' p (atT A n) ∧ ForS B F w' (A.take n) ∧ Kp B w w' := by
  obtain ⟨v, ps, hB, hF, hr⟩ := h
  have hcell := fs_cell hF
  have hfr := frozen_of_row w F 0 _ _ hF
  obtain ⟨g, cap, rfl, hc, _, hcl⟩ := row_cells hr (by omega)
  obtain ⟨hi', c1, _, r1⟩ := hcl n (by omega)
  have hkp : Kp B w (w.setCell ⟨F, 0, none⟩ (.slice (some ⟨g, 0, none⟩) n cap)) := ⟨(Below.refl B w).setCell (p := ⟨F, 0, none⟩) hB _, fun b cs ty hb h1 _ => by
    refine Below.heap_setCell _ _ _ _ fun e => ?_
    have e : b = F := e
    subst e
    rw [hF] at hb
    injection hb with hb
    injection hb with _ hb _
    exact h1 hb.symm⟩
  have hset : (w.setCell ⟨F, 0, none⟩ (.slice (some ⟨g, 0, none⟩) n cap)).heap[F]? = some (.cells #[.slice (some ⟨g, 0, none⟩) n cap] 34 (0, 0)) := by
    rw [heap_setCell_same w F 0 _ _ _ hF]; rfl
  have hgF : g ≠ F := fun e => row_ne hr hF (by rw [← e]; rfl)
  have htl : (A.take n).length = n := by rw [List.length_take]; omega
  have hrow : Row B w (.slice (some ⟨g, 0, none⟩) n cap) (ps.take n) (A.take n) := by
    refine ⟨?_, by rw [List.length_take, List.length_take, hr.2.1], fun i h h' => ?_⟩
    · rw [htl, List.map_take]
      have := hr.1
      rw [hn] at this
      exact owns_take this (by omega)
    · rw [List.getElem_take, List.getElem_take]
      exact hr.2.2 i (by rw [htl] at h; omega) (by rw [List.length_take] at h'; omega)
  have hfs : ForS B F (w.setCell ⟨F, 0, none⟩ (.slice (some ⟨g, 0, none⟩) n cap)) (A.take n) :=
    ⟨_, _, hB, hset, row_kp hrow hkp fun g' hg' => Below.heap_setCell _ _ _ _ fun e => by
      have e : g' = F := e
      injection hg' with hg'
      exact hgF (by rw [← e, ← hg'])⟩
  have hrep := rep_kp hkp r1
  rw [← atT_get (by omega)] at hrep
  have Hfs := Lib.hid hfs
  have Hkp := Lib.hid hkp
  have Hrep := Lib.hid hrep
  have g0 : (n : Int) < (A.length : Int) := by omega
  rw [hn] at hcell hc
  clear hfs hkp hrep hrow hset htl hcl hF hr r1
  generalize ps[n] = p at *
  clear hi'
  have x1 : (((n + 1 : Nat) : Int) - 1) = (n : Int) := by omega
  have g1 : (n : Int) < ((n + 1 : Nat) : Int) := by omega
  have g2 : (n : Int) ≤ (cap : Int) := by omega
  go_enter Try.func46, Try.ntmps46
  go_wp2_with fail
  go_ret
  exact ⟨p, rfl, Hrep.out, Hfs.out, Hkp.out⟩
end Go.Proofs.Ytpkbbbdbcedkfaa
