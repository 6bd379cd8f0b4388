/- The iterator over a tree's pairs as a range over it meets it; a list that is gathered in a boxed variable. Conditions: numbers fit. -/
import Derived.Test.YtdlgpcjdaaeliaaTreR
import Derived.Maps.AppendAt
namespace Go.Proofs.Ytdlgpcjdaaeliaa
open Go.RowKit Go.Shelf
attribute [local go_sem] Oper.semAt_some

set_option maxRecDepth 100000 in
set_option maxHeartbeats 2000000 in
theorem pairs_stops {w0 : World} {v0 v1 v2 : Value} {t : Tr} (h : NodeV w0 (v0, v1, v2) t) {low : Nat} (hs : sizedT t low = true) (n : Nat) (hn : 1 ≤ n) (Bs n₀ : Nat) (w : World) (hw : Below w0.heap.size w0 w) (hn0 : w0.heap.size ≤ n₀) (hn1 : n₀ ≤ w.heap.size) (hB : Bs < w.heap.size)
    (c0 : w.cell? ⟨Bs, 0, none⟩ = some v0) (c1 : w.cell? ⟨Bs, 1, none⟩ = some v1) (c2 : w.cell? ⟨Bs, 2, none⟩ = some v2) :
    SeqStopsK Fence.wide n Try.prog 33 #[.pointer (some ⟨Bs, 0, none⟩)] encP (KpE n₀) (fun ys => ys = pairsT t) (fun pre => pre <+: pairsT t) (pairsT t).length w := fun l J Jx W hW hJ _ hY h0 => by
  have e0 := (hW.cell (p := ⟨Bs, 0, none⟩) hB).trans c0
  have e1 := (hW.cell (p := ⟨Bs, 1, none⟩) hB).trans c1
  have e2 := (hW.cell (p := ⟨Bs, 2, none⟩) hB).trans c2
  have hc := callsIn_wide (n := n - 1) |>.2 (callsIn_wide.1 (each_in h l n₀ (pairsT t).length W.heap.size J Jx hJ (n - 1) hY hn0 low 1 [] W (Nat.le_refl _) hs (hw.trans (hW.mono hw.size)) (Nat.le_trans hn1 hW.size) (by simp) h0))
  have Hc := Lib.hid hc
  dsimp only at Hc
  clear hY hJ hW c0 c1 c2 hc h0
  refine callsIn_of_wp Try.func33 rfl trivial ?_ rfl
  simp only [Try.ntmps33, List.size_toArray, List.length_cons, List.length_nil, Nat.reduceAdd, Nat.reduceSub, Array.replicate_succ, Array.replicate_zero, List.push_toArray, List.append_toArray, List.nil_append, List.cons_append]
  gi_wp2
  refine ⟨trivial, Hc.out.mono ?_⟩
  rintro e W3 (⟨rfl, hJ3, hk3⟩ | ⟨rfl, p, hp, hJx3⟩)
  · have HJ3 := Lib.hid hJ3
    clear hJ3 Hc
    gi_wp2
    go_end0
    exact ⟨⟨_, rfl⟩, .inl ⟨_, rfl, HJ3.out⟩⟩
  · have HJx3 := Lib.hid hJx3
    clear hJx3 Hc
    gi_wp2
    go_end0
    exact ⟨⟨_, rfl⟩, .inr ⟨p, hp, HJx3.out⟩⟩

/-- The iterator's value: the node is boxed. -/
theorem pairs_in (n : Nat) (v0 v1 v2 : Value) (w : World) :
    CallsIn Fence.wide n Try.prog 29 #[.agg #[v0, v1, v2]] w fun e w' => e = .returned (.func (.func 33) #[] #[.pointer (some ⟨w.heap.size, 0, none⟩)]) ∧ w' = w.alloc (.cells #[v0, v1, v2] 25) := by
  refine callsIn_of_wp Try.func29 rfl trivial ?_ rfl
  simp only [Try.ntmps29, List.size_toArray, List.length_cons, List.length_nil, Nat.reduceAdd, Nat.reduceSub, Array.replicate_succ, Array.replicate_zero, List.push_toArray, List.append_toArray, List.nil_append, List.cons_append]
  gi_wp2
  go_ret
  exact ⟨rfl, rfl⟩

/-- The list that is gathered in the variable at Bl. -/
def Col (n₀ Bl : Nat) (l : List (Int × Int)) (W : World) : Prop := ∃ v, Boxed W Bl 32 v ∧ W.ownsRow n₀ 51 2 v l.length (cellsE pairE l) ∧ True
theorem col_own {β : Type} (n₀ Bl B : Nat) (f : β → List (Int × Int)) : OwnFrom B (fun s W => Col n₀ Bl (f s) W) :=
  Own.from (holdsRow_own n₀ Bl 32 51 2 (fun s => (f s).length) (fun s => cellsE pairE (f s)) (fun _ _ => True)) B
theorem col_alloc {n₀ Bl : Nat} {l : List (Int × Int)} {W : World} (h : Col n₀ Bl l W) (o : Obj) : Col n₀ Bl l (W.alloc o) := by
  obtain ⟨v, hv, hr, _⟩ := h
  exact ⟨v, hv.alloc o, hr.alloc o, trivial⟩
theorem col_nil {n₀ : Nat} (W : World) : Col n₀ W.heap.size [] (W.alloc (.cells #[.slice none 0 0] 32)) := ⟨_, Boxed.new _ _ _, World.ownsRow_nil _ _ _ _, trivial⟩
theorem boxed_own9 {β : Type} (b : Nat) (t : TypeId) (v : Value) (B : Nat) : OwnFrom B (fun (_ : β) W => Boxed W b t v) :=
  Own.from (fun s X Y row hs hg hrow => hs.kept hg (fun e => by
    obtain ⟨o, ho, hc⟩ := hrow b e.symm
    rw [show X.heap[b]? = _ from hs] at ho; cases ho; cases hc)) B
theorem kpE_grown {n₀ : Nat} {W W' : World} {row : Option Nat} (hb : Below n₀ W W') (hg : W.grownBy W' row) (hr : ∀ r c z, row = some r → W.heap[r]? ≠ some (Obj.cells c 25 z)) : KpE n₀ W W' :=
  ⟨hb, fun b c z h => (hg.block b (by
    rcases Nat.lt_or_ge b W.heap.size with h' | h'
    · exact h'
    · rw [Array.getElem?_eq_none h'] at h; cases h) (fun e => hr b c z e.symm h)).trans h⟩
/-- Behind an append to the variable's list. -/
theorem col_appended {n₀ Bl : Nat} {l l' : List (Int × Int)} {W w1 : World} {v v' : Value} {tmp : Obj} (hv : Boxed W Bl 32 v) (hrow : W.ownsRow n₀ 51 2 v l.length (cellsE pairE l)) (hn₀ : n₀ ≤ W.heap.size) (hB : n₀ ≤ Bl)
    (hown' : w1.ownsRow n₀ 51 2 v' l'.length (cellsE pairE l')) (hgrow : (W.alloc tmp).grownBy w1 v.ownBlock) :
    Boxed w1 Bl 32 v ∧ Col n₀ Bl l' (w1.setCell ⟨Bl, 0, none⟩ v') ∧ KeepsOthers W (w1.setCell ⟨Bl, 0, none⟩ v') ∧ KpE n₀ W (w1.setCell ⟨Bl, 0, none⟩ v') := by
  obtain ⟨h1, h2, h3, h4, h5⟩ := hv.appended (by decide) hrow hn₀ hB hown' hgrow
  refine ⟨h1, ⟨v', h2, h3, trivial⟩, h4, ?_⟩
  have k1 : KpE n₀ W (W.alloc tmp) := kpE_alloc hn₀ tmp
  have hb1 : Below n₀ (W.alloc tmp) w1 := (Below.refl _ _).grown hgrow (by simp; omega) (fun k hk => owns_block hrow k hk)
  have k2 : KpE n₀ (W.alloc tmp) w1 := kpE_grown hb1 hgrow (fun r c z hr hh => by
    rcases (hrow.alloc tmp).2 with ⟨rfl, _⟩ | ⟨g, cap, cur, rfl, _, hgb, _⟩
    · simp [Value.ownBlock] at hr
    · simp only [Value.ownBlock, Option.some.injEq] at hr
      subst hr
      rw [hgb] at hh
      injection hh with hh
      injection hh with _ q _
      revert q
      decide)
  have k3 : KpE n₀ w1 (w1.setCell ⟨Bl, 0, none⟩ v') := kpE_grown ((Below.refl _ _).setCell (p := ⟨Bl, 0, none⟩) hB _) (grownBy_setCell' w1 Bl v') (fun r c z hr hh => by
    cases hr
    rw [show w1.heap[Bl]? = _ from h1] at hh
    injection hh with hh
    injection hh with _ q _
    revert q
    decide)
  exact kpE_t (kpE_t k1 k2) k3
/-- Behind a store into a variable that holds no node. -/
theorem kpE_set {n₀ B : Nat} {W : World} {t : TypeId} {v : Value} (hv : Boxed W B t v) (ht : t ≠ 25) (hB : n₀ ≤ B) (v' : Value) : KpE n₀ W (W.setCell ⟨B, 0, none⟩ v') :=
  kpE_grown ((Below.refl _ _).setCell (p := ⟨B, 0, none⟩) hB _) (grownBy_setCell' W B v') (fun r c z hr hh => by
    cases hr
    rw [show W.heap[B]? = _ from hv] at hh
    injection hh with hh
    injection hh with _ q _
    exact ht q)
end Go.Proofs.Ytdlgpcjdaaeliaa
