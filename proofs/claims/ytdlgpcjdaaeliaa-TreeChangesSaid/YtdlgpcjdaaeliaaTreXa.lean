/- A level of nodes in a boxed variable; a node pushed onto it. No condition; no program text. -/
import Derived.Test.YtdlgpcjdaaeliaaTreX
namespace Go.Proofs.Ytdlgpcjdaaeliaa
open Go.RowKit Go.Shelf

theorem cellsN_length (l : List N3) : (cellsE nodeE l).length = l.length * 3 := by
  induction l with
  | nil => simp
  | cons x l ih => rw [cellsE_cons, List.length_append, ih, show (nodeE x).length = 3 from rfl]; simp only [List.length_cons]; omega
theorem cellsN_get (l : List N3) : ∀ i (hi : i < l.length) j, j < 3 → (cellsE nodeE l)[i * 3 + j]? = (nodeE l[i])[j]? := by
  induction l with
  | nil => intro i hi; simp at hi
  | cons x l ih =>
    intro i hi j hj
    rw [cellsE_cons]
    rcases i with _ | i
    · rw [Nat.zero_mul, Nat.zero_add, List.getElem?_append_left (by show j < 3; exact hj)]; rfl
    · rw [List.getElem?_append_right (by show 3 ≤ _; omega)]
      have := ih i (by simpa using hi) j hj
      rw [show (i + 1) * 3 + j - (nodeE x).length = i * 3 + j by show _ - 3 = _; omega]
      exact this
theorem slP_ownsN {w : World} {base e n : Nat} {v : Value} {l : List N3} (h : w.ownsRow base e 3 v n (cellsE nodeE l)) : SlP w (fun b => v.ownBlock = some b) v 3 nodeE l ∧ n = l.length := by
  have hlt := owns_lt h
  obtain ⟨hl, h⟩ := h
  rw [cellsN_length] at hl
  obtain rfl : n = l.length := by omega
  refine ⟨?_, rfl⟩
  rcases h with ⟨rfl, h0⟩ | ⟨g, cap, cur, rfl, hg, hc, hn, hm, hs, ht⟩
  · obtain rfl := List.length_eq_zero_iff.1 h0
    exact ⟨none, 0, rfl, by simp, fun _ => rfl, Or.inl rfl⟩
  · refine ⟨_, cap, rfl, hn, nofun, Or.inr ⟨g, 0, rfl, hlt g rfl, rfl, fun i hi j hj => ?_⟩⟩
    have hij : i * 3 + j < l.length * 3 := by omega
    have h1 : (cur.toList.take (l.length * 3))[i * 3 + j]? = (cellsE nodeE l)[i * 3 + j]? := by rw [ht]
    rw [List.getElem?_take_of_lt hij, cellsN_get l i hi j hj] at h1
    simp only [World.cell?, hc, Nat.zero_add]
    simpa using h1
theorem cellsN_set (l : List N3) (z n : N3) : (((cellsE nodeE l ++ nodeE z).set (l.length * 3) n.1).set (l.length * 3 + 1) n.2.1).set (l.length * 3 + 2) n.2.2 = cellsE nodeE (l ++ [n]) := by
  have hl := cellsN_length l
  have e : cellsE nodeE (l ++ [n]) = cellsE nodeE l ++ nodeE n := by rw [cellsE_append]; simp
  rw [e, ← hl]
  rw [List.set_append_right _ _ (Nat.le_refl _), List.set_append_right _ _ (by omega), List.set_append_right _ _ (by omega)]
  rw [Nat.sub_self, Nat.add_sub_cancel_left, Nat.add_sub_cancel_left]
  rfl

/-- The level of nodes in the variable at Bx. -/
def Lvl (n₀ Bx : Nat) (E : Nat → Prop) (ts : List Tr) (W : World) : Prop :=
  ∃ (v : Value) (ns : List N3), Boxed W Bx 23 v ∧ W.ownsRow n₀ 25 3 v ts.length (cellsE nodeE ns) ∧ ns.length = ts.length ∧
    ∀ i (hi : i < ns.length) (hj : i < ts.length), NodeP W (fun b => some b ≠ v.ownBlock ∧ b ≠ Bx ∧ E b) ns[i] ts[i]
theorem lvl_kept {n₀ Bx : Nat} {E R : Nat → Prop} {ts : List Tr} {W W' : World} (h : Lvl n₀ Bx E ts W) (hg : GrS W W' R) (hB : ¬ R Bx) (hr : ∀ b, R b → n₀ ≤ b → False) (hE : ∀ b, E b → ¬ R b) : Lvl n₀ Bx E ts W' := by
  obtain ⟨v, ns, h1, h2, h3, h4⟩ := h
  exact ⟨v, ns, hg.boxed h1 hB, hg.owns h2 (fun g hv hR => hr g hR (owns_block h2 g hv)), h3, fun i hi hj => nodeP_kept (h4 i hi hj) hg (fun b hb => hE b hb.2.2)⟩
theorem lvl_own {β : Type} (n₀ Bx B : Nat) (E : Nat → Prop) (f : β → List Tr) : OwnFrom B (fun s W => Lvl n₀ Bx E (f s) W) := by
  rintro s X Y row ⟨v, ns, h1, h2, h3, h4⟩ hg hrow
  have hno : ∀ b o, X.heap[b]? = some o → o.isCells = true → some b ≠ row := fun b o ho hc e => by
    obtain ⟨_, o', ho', hc'⟩ := hrow b e.symm
    rw [ho] at ho'; cases ho'; rw [hc] at hc'; cases hc'
  have hG : GrS X Y (fun b => some b = row) := grs_grown hg
  -- what is no cells holds no cell
  have hcell : ∀ b o v, X.cell? ⟨b, o, none⟩ = some v → some b ≠ row := fun b o v hc e => by
    obtain ⟨_, o', ho', hc'⟩ := hrow b e.symm
    unfold World.cell? at hc
    rw [ho'] at hc
    cases o' <;> simp_all [Obj.isCells]
  have hsl : ∀ {α : Type} {P : Nat → Prop} {u : Value} {k : Nat} {F : α → List Value} {xs : List α}, (∀ x, 0 < k ∧ (F x).length = k) → SlP X P u k F xs → SlP Y P u k F xs := by
    rintro α P u k F xs hF ⟨a, cap, hv, hl, hn, hc⟩
    by_cases h0 : xs = []
    · exact ⟨a, cap, hv, hl, hn, Or.inl h0⟩
    · rcases hc with hc | ⟨b, off, ha, hb, hp, hcl⟩
      · exact absurd hc h0
      · refine ⟨a, cap, hv, hl, hn, Or.inr ⟨b, off, ha, Nat.lt_of_lt_of_le hb hg.size, hp, fun i hi j hj => ?_⟩⟩
        have := hcl i hi j hj
        have hlen := (hF xs[i]).2
        rw [List.getElem?_eq_getElem (by omega)] at this
        rw [← hcl i hi j hj]
        exact hG.cell hb (hcell b _ _ this)
  have hnd : ∀ {P : Nat → Prop} {n : N3} {t : Tr}, NodeP X P n t → NodeP Y P n t := by
    intro P n t h
    induction h with
    | mk ns hk hv hx lk lv lx hl _ ih => exact .mk ns (hsl (fun _ => ⟨by decide, rfl⟩) hk) (hsl (fun _ => ⟨by decide, rfl⟩) hv) (hsl (fun _ => ⟨by decide, rfl⟩) hx) lk lv lx hl ih
  refine ⟨v, ns, hG.boxed h1 (hno _ _ h1 rfl), hG.owns h2 (fun g hv => ?_), h3, fun i hi hj => hnd (h4 i hi hj)⟩
  rcases h2.2 with ⟨rfl, _⟩ | ⟨g', cap, cur, rfl, _, hc, _⟩
  · cases hv
  · simp only [Value.ownBlock, Option.some.injEq] at hv
    subst hv
    exact hno _ _ hc rfl
theorem lvl_nil {n₀ : Nat} (E : Nat → Prop) (W : World) : Lvl n₀ W.heap.size E [] (W.alloc (.cells #[.slice none 0 0] 23)) :=
  ⟨_, [], Boxed.new _ _ _, World.ownsRow_nil _ _ _ _, rfl, fun i hi => by simp at hi⟩

abbrev nilN : N3 := (.slice none 0 0, .slice none 0 0, .slice none 0 0)
/-- Behind the append of a node's place: what is to be known of the world w1 before the two stores. -/
structure Pushed (n₀ Bx : Nat) (E : Nat → Prop) (ts : List Tr) (W : World) (v : Value) (n : N3) (t : Tr) (g cap : Nat) (w1 : World) : Prop where
  box : Boxed w1 Bx 23 v
  row : ∃ ns : List N3, w1.ownsRow n₀ 25 3 (.slice (some ⟨g, 0, none⟩) (ts.length + 1) cap) (ts.length + 1) (cellsE nodeE ns ++ nodeE nilN) ∧ ns.length = ts.length ∧
    ∀ i (hi : i < ns.length) (hj : i < ts.length), NodeP w1 (fun b => b ≠ g ∧ b ≠ Bx ∧ E b) ns[i] ts[i]
  node : NodeP w1 (fun b => b ≠ g ∧ b ≠ Bx ∧ E b) n t
  gr : GrS W w1 (fun b => some b = v.ownBlock ∨ b = Bx)
  ne : g ≠ Bx
  old : W.heap.size ≤ g ∨ v.ownBlock = some g
theorem pushed_mk {n₀ Bx : Nat} {E : Nat → Prop} {ts : List Tr} {W w1 : World} {v v' : Value} {ns : List N3} {n : N3} {t : Tr} (hv : Boxed W Bx 23 v) (hrow : W.ownsRow n₀ 25 3 v ts.length (cellsE nodeE ns)) (hns : ns.length = ts.length)
    (hN : ∀ i (hi : i < ns.length) (hj : i < ts.length), NodeP W (fun b => some b ≠ v.ownBlock ∧ b ≠ Bx ∧ E b) ns[i] ts[i]) (hn : NodeP W (fun b => some b ≠ v.ownBlock ∧ b ≠ Bx ∧ E b) n t) {w0 : World} (h0 : GrS W w0 (fun _ => False))
    (hown : w1.ownsRow n₀ 25 3 v' (ts.length + 1) (cellsE nodeE ns ++ nodeE nilN)) (hgrow : w0.grownBy w1 v.ownBlock) (hat : v'.ownBlock = v.ownBlock ∨ v'.ownBlock = some w0.heap.size) :
    ∃ g cap, v' = .slice (some ⟨g, 0, none⟩) (ts.length + 1) cap ∧ Pushed n₀ Bx E ts W v n t g cap w1 := by
  obtain ⟨g, cap, rfl⟩ := ownsRow_succ hown
  have hvw : some Bx ≠ v.ownBlock := hv.not_row (by decide) hrow
  have hG0 : GrS W w1 (fun b => some b = v.ownBlock) := (h0.mono (fun _ _ h => h.elim)).trans ((grs_grown hgrow))
  have hbx1 : Boxed w1 Bx 23 v := hG0.boxed hv (fun h => hvw h)
  have hgne : g ≠ Bx := fun e => by
    have := hbx1.not_row (by decide) hown
    rw [← e] at this
    exact this rfl
  have hold : W.heap.size ≤ g ∨ v.ownBlock = some g := by
    rcases hat with h | h
    · right; exact h.symm
    · left
      simp only [Value.ownBlock, Option.some.injEq] at h
      rw [h]; exact h0.size
  have hmono : ∀ b, b < W.heap.size → (some b ≠ v.ownBlock ∧ b ≠ Bx ∧ E b) → (b ≠ g ∧ b ≠ Bx ∧ E b) := fun b hb h => ⟨fun e => by
    rcases hold with h' | h'
    · omega
    · exact h.1 (by rw [h', e]), h.2⟩
  refine ⟨g, cap, rfl, hbx1, ⟨ns, hown, hns, fun i hi hj => ?_⟩, ?_, hG0.mono (fun k _ h => Or.inl h), hgne, hold⟩
  · exact nodeP_mono (nodeP_kept (P := fun b => (some b ≠ v.ownBlock ∧ b ≠ Bx ∧ E b) ∧ (b ≠ g ∧ b ≠ Bx ∧ E b)) (nodeP_mono (hN i hi hj) (fun b hb hp => ⟨hp, hmono b hb hp⟩)) hG0 (fun b hb h => hb.1.1 h)) (fun b _ hb => hb.2)
  · exact nodeP_mono (nodeP_kept (P := fun b => (some b ≠ v.ownBlock ∧ b ≠ Bx ∧ E b) ∧ (b ≠ g ∧ b ≠ Bx ∧ E b)) (nodeP_mono hn (fun b hb hp => ⟨hp, hmono b hb hp⟩)) hG0 (fun b hb h => hb.1.1 h)) (fun b _ hb => hb.2)
/-- The node stored, and then the level; or the other way. -/
theorem pushed_done {n₀ Bx : Nat} {E : Nat → Prop} {ts : List Tr} {W w1 : World} {v : Value} {n : N3} {t : Tr} {g cap : Nat} (h : Pushed n₀ Bx E ts W v n t g cap w1) {k : Nat} (hk : k = ts.length * 3) :
    (Lvl n₀ Bx E (ts ++ [t]) ((((w1.setCell ⟨g, k, none⟩ n.1).setCell ⟨g, k + 1, none⟩ n.2.1).setCell ⟨g, k + 2, none⟩ n.2.2).setCell ⟨Bx, 0, none⟩ (.slice (some ⟨g, 0, none⟩) (ts.length + 1) cap)) ∧
      GrS W ((((w1.setCell ⟨g, k, none⟩ n.1).setCell ⟨g, k + 1, none⟩ n.2.1).setCell ⟨g, k + 2, none⟩ n.2.2).setCell ⟨Bx, 0, none⟩ (.slice (some ⟨g, 0, none⟩) (ts.length + 1) cap)) (fun b => some b = v.ownBlock ∨ b = Bx)) ∧
    (Lvl n₀ Bx E (ts ++ [t]) ((((w1.setCell ⟨Bx, 0, none⟩ (.slice (some ⟨g, 0, none⟩) (ts.length + 1) cap)).setCell ⟨g, k, none⟩ n.1).setCell ⟨g, k + 1, none⟩ n.2.1).setCell ⟨g, k + 2, none⟩ n.2.2) ∧
      GrS W ((((w1.setCell ⟨Bx, 0, none⟩ (.slice (some ⟨g, 0, none⟩) (ts.length + 1) cap)).setCell ⟨g, k, none⟩ n.1).setCell ⟨g, k + 1, none⟩ n.2.1).setCell ⟨g, k + 2, none⟩ n.2.2) (fun b => some b = v.ownBlock ∨ b = Bx)) := by
  subst hk
  obtain ⟨hbx, ⟨ns, hrow, hns, hN⟩, hn, hgr, hne, hold⟩ := h
  have S3 : ∀ w, GrS w (((w.setCell ⟨g, ts.length * 3, none⟩ n.1).setCell ⟨g, ts.length * 3 + 1, none⟩ n.2.1).setCell ⟨g, ts.length * 3 + 2, none⟩ n.2.2) (fun b => b = g) := fun w => ((grs_set _ _ _ _).trans (grs_set _ _ _ _)).trans (grs_set _ _ _ _)
  have SB : ∀ w u, GrS w (w.setCell ⟨Bx, 0, none⟩ u) (fun b => b = Bx) := fun w u => grs_set _ _ _ _
  have rows : ∀ w : World, w.ownsRow n₀ 25 3 (.slice (some ⟨g, 0, none⟩) (ts.length + 1) cap) (ts.length + 1) (cellsE nodeE ns ++ nodeE nilN) → (((w.setCell ⟨g, ts.length * 3, none⟩ n.1).setCell ⟨g, ts.length * 3 + 1, none⟩ n.2.1).setCell ⟨g, ts.length * 3 + 2, none⟩ n.2.2).ownsRow n₀ 25 3 (.slice (some ⟨g, 0, none⟩) (ts.length + 1) cap) (ts.length + 1) (cellsE nodeE (ns ++ [n])) := fun w hw => by
    have := owns_set9 (owns_set9 (owns_set9 hw (ts.length * 3) n.1) (ts.length * 3 + 1) n.2.1) (ts.length * 3 + 2) n.2.2
    rw [← hns] at this ⊢
    rw [cellsN_set ns nilN n] at this
    exact this
  have hlt1 : Bx < w1.heap.size := hbx.lt
  have toW : ∀ {w2 : World}, GrS w1 w2 (fun b => b = g ∨ b = Bx) → GrS W w2 (fun b => some b = v.ownBlock ∨ b = Bx) := fun {w2} h2 =>
    ⟨h2.os.trans hgr.os, h2.tape.trans hgr.tape, h2.output.trans hgr.output, Nat.le_trans hgr.size h2.size, fun k hk hnr => (h2.block k (Nat.lt_of_lt_of_le hk hgr.size) (fun e => by
      rcases e with rfl | rfl
      · rcases hold with h' | h'
        · omega
        · exact hnr (Or.inl h'.symm)
      · exact hnr (Or.inr rfl))).trans (hgr.block k hk hnr)⟩
  have lv : ∀ w2 : World, GrS w1 w2 (fun b => b = g ∨ b = Bx) → Boxed w2 Bx 23 (.slice (some ⟨g, 0, none⟩) (ts.length + 1) cap) → w2.ownsRow n₀ 25 3 (.slice (some ⟨g, 0, none⟩) (ts.length + 1) cap) (ts.length + 1) (cellsE nodeE (ns ++ [n])) → Lvl n₀ Bx E (ts ++ [t]) w2 := fun w2 h2 hb2 hr2 => by
    have e : (ts ++ [t]).length = ts.length + 1 := by simp
    refine ⟨_, ns ++ [n], hb2, by rw [e]; exact hr2, by simp [hns], fun i hi hj => ?_⟩
    have km : ∀ {m : N3} {s : Tr}, NodeP w1 (fun b => b ≠ g ∧ b ≠ Bx ∧ E b) m s → NodeP w2 (fun b => some b ≠ (Value.slice (some ⟨g, 0, none⟩) (ts.length + 1) cap).ownBlock ∧ b ≠ Bx ∧ E b) m s := fun hm =>
      nodeP_mono (nodeP_kept hm h2 (fun b hb h => h.elim hb.1 hb.2.1)) (fun b _ hb => ⟨fun e => hb.1 (by simpa [Value.ownBlock] using e), hb.2⟩)
    by_cases hl : i < ns.length
    · rw [List.getElem_append_left hl, List.getElem_append_left (by omega)]
      exact km (hN i hl (by omega))
    · have hi' : i = ns.length := by simp at hi; omega
      subst hi'
      rw [List.getElem_append_right (Nat.le_refl _), List.getElem_append_right (by omega)]
      simp only [Nat.sub_self, hns, List.getElem_cons_zero]
      exact km hn
  have mg : ∀ {a b : World}, GrS a b (fun x => x = g) → GrS a b (fun x => x = g ∨ x = Bx) := fun h => h.mono fun _ _ e => Or.inl e
  have mb : ∀ {a b : World}, GrS a b (fun x => x = Bx) → GrS a b (fun x => x = g ∨ x = Bx) := fun h => h.mono fun _ _ e => Or.inr e
  constructor
  · have hG := (mg (S3 w1)).trans (mb (SB _ (.slice (some ⟨g, 0, none⟩) (ts.length + 1) cap)))
    refine ⟨lv _ hG (((S3 w1).boxed hbx (fun e => hne e.symm)).set _) ((SB _ _).owns (rows w1 hrow) (fun q hq => ?_)), toW hG⟩
    simp only [Value.ownBlock, Option.some.injEq] at hq
    subst hq
    exact hne
  · have hG := (mb (SB w1 (.slice (some ⟨g, 0, none⟩) (ts.length + 1) cap))).trans (mg (S3 _))
    refine ⟨lv _ hG ((S3 _).boxed (hbx.set _) (fun e => hne e.symm)) (rows _ ((SB w1 _).owns hrow (fun q hq => ?_))), toW hG⟩
    simp only [Value.ownBlock, Option.some.injEq] at hq
    subst hq
    exact hne
end Go.Proofs.Ytdlgpcjdaaeliaa
