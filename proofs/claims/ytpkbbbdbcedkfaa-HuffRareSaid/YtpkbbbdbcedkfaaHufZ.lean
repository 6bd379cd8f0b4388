/- The state of the document's once: its lengths, its trees. No program walked. -/
import Derived.Test.YtpkbbbdbcedkfaaHufX
import Derived.Test.YtpkbbbdbcedkfaaHufJ
namespace Go.Proofs.Ytpkbbbdbcedkfaa
open Go.RowKit

theorem perm_eraseIdx {α : Type} (l : List α) : ∀ k (hk : k < l.length), l.Perm (l[k] :: l.eraseIdx k) := by
  induction l with
  | nil => intro k hk; simp at hk
  | cons a l ih =>
    intro k hk
    cases k with
    | zero => exact List.Perm.refl _
    | succ k =>
      have := ih k (by simpa using hk)
      exact (this.cons a).trans (.swap ..)
theorem map_eraseIdx' {α β : Type} (f : α → β) (l : List α) : ∀ k, (l.eraseIdx k).map f = (l.map f).eraseIdx k := by
  induction l with
  | nil => intro k; rfl
  | cons a l ih =>
    intro k
    cases k with
    | zero => rfl
    | succ k => rw [List.eraseIdx_cons_succ, List.map_cons, List.map_cons, List.eraseIdx_cons_succ, ih]
theorem length_eraseIdx' {α : Type} (l : List α) (k : Nat) (hk : k < l.length) : (l.eraseIdx k).length + 1 = l.length := by
  have := (perm_eraseIdx l k hk).length_eq
  simpa using this.symm
theorem dep_bd (t : HT) (s : Nat) : 0 ≤ dep t s ∧ dep t s < (syms t).length := by
  induction t with
  | leaf w n => exact ⟨Int.le_refl _, by show (0 : Int) < _; simp [syms]⟩
  | node l r ihl ihr =>
    rw [dep, syms, List.length_append]
    split
    · omega
    · split
      · omega
      · omega
theorem depF_bd (F : List HT) (s : Nat) : 0 ≤ depF F s ∧ depF F s ≤ (F.flatMap syms).length := by
  induction F with
  | nil => exact ⟨Int.le_refl _, Int.le_refl _⟩
  | cons t F ih =>
    have := dep_bd t s
    rw [depF_cons, List.flatMap_cons, List.length_append]
    omega
theorem incTo_next {L : List Int} {ss : List Nat} (hnd : ss.Nodup) {j : Nat} (hj : j < ss.length) (hs : ss[j] < L.length) :
    (incTo L (ss.take j))[ss[j]]? = some L[ss[j]] ∧ (incTo L (ss.take j)).set ss[j] (L[ss[j]] + 1) = incTo L (ss.take (j + 1)) := by
  have hnd' : (ss.take j).Nodup := hnd.sublist (List.take_sublist _ _)
  have hni : ss[j] ∉ ss.take j := fun h => by
    have h2 := List.take_append_drop j ss
    have h3 : (ss.take j ++ ss.drop j).Nodup := by rw [h2]; exact hnd
    exact (List.nodup_append.1 h3).2.2 _ h _ (by rw [List.drop_eq_getElem_cons hj]; exact List.mem_cons_self ..) rfl
  have h1 := incTo_at (ss.take j) L hnd' ss[j] hs
  rw [if_neg hni, Int.add_zero, List.getElem?_eq_getElem hs, Option.getD_some] at h1
  have hl : ss[j] < (incTo L (ss.take j)).length := by rw [incTo_length]; exact hs
  rw [List.getElem?_eq_getElem hl, Option.getD_some] at h1
  have h2 : (incTo L (ss.take j))[ss[j]]? = some L[ss[j]] := by rw [List.getElem?_eq_getElem hl, h1]
  refine ⟨h2, ?_⟩
  rw [List.take_succ_eq_append_getElem hj, incTo_snoc, h2, Option.getD_some]

/-- A row of symbols that nobody writes. -/
def InB (w : World) (o p : Option Nat) (v : Value) (l : List Nat) : Prop := ∃ b cap, v = .slice (some ⟨b, 0, none⟩) l.length cap ∧ l.length ≤ cap ∧ b < w.heap.size ∧ o ≠ some b ∧ p ≠ some b ∧ ∀ i (hi : i < l.length), w.cell? ⟨b, i, none⟩ = some (.int .i64 (l[i] : Nat))
theorem inB_keep {w w' : World} {o p o' p' : Option Nat} {v : Value} {l : List Nat} (h : InB w o p v l) (hsz : w.heap.size ≤ w'.heap.size) (hk : ∀ b, b < w.heap.size → o ≠ some b → p ≠ some b → w'.heap[b]? = w.heap[b]?)
    (ho : ∀ b, b < w.heap.size → o' = some b → o = some b) (hp : ∀ b, b < w.heap.size → p' = some b → p = some b) : InB w' o' p' v l := by
  obtain ⟨b, cap, hv, hl, hb, h1, h2, hc⟩ := h
  exact ⟨b, cap, hv, hl, Nat.lt_of_lt_of_le hb hsz, fun e => h1 (ho b hb e), fun e => h2 (hp b hb e), fun i hi => by rw [World.cell?_of_block (w := w) (hk b hb h1 h2)]; exact hc i hi⟩

abbrev trP (p : HT × Value) : Int × Nat × Value := (wt p.1, nm p.1, p.2)
theorem ltP_trP (a b : HT × Value) : ltP (trP a) (trP b) = ltT a.1 b.1 := rfl
/-- The lengths L in vo, the trees D in vl; X: trees besides, whose rows stay. -/
structure St (n0 : Nat) (w : World) (vo vl : Value) (L : List Int) (D X : List (HT × Value)) : Prop where
  out : w.ownsRow n0 3 1 vo L.length (L.map (Value.int .i64))
  l : w.ownsRow n0 45 3 vl D.length (cells3 (D.map trP))
  ne : ∀ b, vo.ownBlock = some b → vl.ownBlock ≠ some b
  tr : ∀ p ∈ D ++ X, InB w vo.ownBlock vl.ownBlock p.2 (syms p.1)
  base : n0 ≤ w.heap.size
section
variable {n0 : Nat} {w w' : World} {vo vl vo' vl' : Value} {L L' : List Int} {D X : List (HT × Value)}
theorem st_below (h : St n0 w vo vl L D X) (hb : Below w.heap.size w w') : St n0 w' vo vl L D X :=
  ⟨owns_below h.out hb, owns_below h.l hb, h.ne, fun p hp => inB_keep (h.tr p hp) hb.size (fun b hb' _ _ => hb.block b hb') (fun _ _ e => e) (fun _ _ e => e), Nat.le_trans h.base hb.size⟩
theorem st_alloc (h : St n0 w vo vl L D X) (o : Obj) : St n0 (w.alloc o) vo vl L D X := st_below h ((Below.refl _ _).alloc (Nat.le_refl _) o)
theorem st_drew (h : St n0 w vo vl L D X) : St n0 w.drew vo vl L D X := st_below h (Below.refl _ _).drew
theorem at_other {o o' : Option Nat} {n : Nat} (h : o' = o ∨ o' = some n) : ∀ b, b < n → o' = some b → o = some b := fun b hb e => by
  rcases h with h | h
  · rw [← h]; exact e
  · rw [h] at e; injection e with e; omega
/-- The lengths' row has grown. -/
theorem st_out (h : St n0 w vo vl L D X) (ho : w'.ownsRow n0 3 1 vo' L'.length (L'.map (Value.int .i64))) (hg : w.grownBy w' vo.ownBlock) (hat : vo'.ownBlock = vo.ownBlock ∨ vo'.ownBlock = some w.heap.size) : St n0 w' vo' vl L' D X := by
  refine ⟨ho, h.l.kept hg ?_, fun b hb e => ?_, fun p hp => ?_, Nat.le_trans h.base hg.size⟩
  · cases hv : vl.ownBlock with
    | none => exact Or.inl rfl
    | some b => exact Or.inr fun e => h.ne b e.symm hv
  · have hlt := owns_lt h.l b e
    exact h.ne b (at_other hat b hlt hb) e
  · exact inB_keep (h.tr p hp) hg.size (fun b hb h1 _ => hg.block b hb (fun e => h1 e.symm)) (at_other hat) (fun _ _ e => e)
/-- A tree more. -/
theorem st_l {T : HT} {v : Value} (h : St n0 w vo vl L D X) (hT : InB w vo.ownBlock vl.ownBlock v (syms T)) (hl : w'.ownsRow n0 45 3 vl' (D.length + 1) (cells3 (D.map trP) ++ [.int .i64 (wt T), .int .i64 (nm T : Nat), v])) (hg : w.grownBy w' vl.ownBlock) (hat : vl'.ownBlock = vl.ownBlock ∨ vl'.ownBlock = some w.heap.size) : St n0 w' vo vl' L (D ++ [(T, v)]) X := by
  refine ⟨h.out.kept hg ?_, by rw [List.length_append, List.map_append, cells3_append]; exact hl, fun b hb e => ?_, fun p hp => ?_, Nat.le_trans h.base hg.size⟩
  · cases hv : vo.ownBlock with
    | none => exact Or.inl rfl
    | some b => exact Or.inr fun e => h.ne b hv e.symm
  · have hlt := owns_lt h.out b hb
    exact h.ne b hb (at_other hat b hlt e)
  · refine inB_keep (o := vo.ownBlock) (p := vl.ownBlock) (w := w) ?_ hg.size (fun b hb _ h2 => hg.block b hb (fun e => h2 e.symm)) (fun _ _ e => e) (at_other hat)
    rcases List.mem_append.1 hp with hp | hp
    · rcases List.mem_append.1 hp with hp | hp
      · exact h.tr p (List.mem_append_left _ hp)
      · rw [List.mem_singleton.1 hp]; exact hT
    · exact h.tr p (List.mem_append_right _ hp)
/-- A tree is taken out. -/
theorem st_without (h : St n0 w vo vl L D X) (k : Nat) (hk : k < D.length) (hb : Below w.heap.size w w') (hl : w'.ownsRow w.heap.size 45 3 vl' ((D.map trP).eraseIdx k).length (cells3 ((D.map trP).eraseIdx k))) : St n0 w' vo vl' L (D.eraseIdx k) (D[k] :: X) := by
  refine ⟨owns_below h.out hb, ?_, fun b hb' e => ?_, fun p hp => ?_, Nat.le_trans h.base hb.size⟩
  · have e : (D.map trP).eraseIdx k = (D.eraseIdx k).map trP := (map_eraseIdx' trP D k).symm
    rw [e, List.length_map] at hl
    exact owns_base hl h.base
  · have h1 := owns_lt h.out b hb'
    have h2 := owns_block hl b e
    omega
  · refine inB_keep (o := vo.ownBlock) (p := vl.ownBlock) (w := w) (h.tr p ?_) hb.size (fun b hb' _ _ => hb.block b hb') (fun _ _ e => e) (fun b hb' e => by have := owns_block hl b e; omega)
    rcases List.mem_append.1 hp with hp | hp
    · exact List.mem_append_left _ (List.mem_of_mem_eraseIdx hp)
    · rcases List.mem_cons.1 hp with rfl | hp
      · exact List.mem_append_left _ (List.getElem_mem hk)
      · exact List.mem_append_right _ hp
/-- A length is laid. -/
theorem st_set {g n cap : Nat} (h : St n0 w (.slice (some ⟨g, 0, none⟩) n cap) vl L D X) (hn : L.length = n) (j : Nat) (x : Int) : St n0 (w.setCell ⟨g, j, none⟩ (.int .i64 x)) (.slice (some ⟨g, 0, none⟩) n cap) vl (L.set j x) D X := by
  subst hn
  obtain ⟨h1, h2⟩ := h.out.stored j (.int .i64 x)
  exact st_out h (by rw [List.length_set, List.map_set]; exact h1) h2 (Or.inl rfl)
/-- Trees besides: whichever. -/
theorem st_more {Y : List (HT × Value)} (h : St n0 w vo vl L D X) (hY : ∀ p ∈ Y, InB w vo.ownBlock vl.ownBlock p.2 (syms p.1)) : St n0 w vo vl L D Y :=
  ⟨h.out, h.l, h.ne, fun p hp => by
    rcases List.mem_append.1 hp with hp | hp
    · exact h.tr p (List.mem_append_left _ hp)
    · exact hY p hp, h.base⟩
end
/-- The cells of a tree. -/
theorem st_cells {n0 : Nat} {w : World} {vo vl : Value} {L : List Int} {D X : List (HT × Value)} (h : St n0 w vo vl L D X) (hp : 0 < D.length) : ∃ g cap, vl = .slice (some ⟨g, 0, none⟩) D.length cap ∧ ∀ k (hk : k < D.length), w.cell? ⟨g, k * 3, none⟩ = some (.int .i64 (wt D[k].1)) ∧ w.cell? ⟨g, k * 3 + 1, none⟩ = some (.int .i64 (nm D[k].1 : Nat)) ∧ w.cell? ⟨g, k * 3 + 2, none⟩ = some D[k].2 := by
  rcases h.l.2 with ⟨_, h0⟩ | ⟨g, cap, cur, hv, _⟩
  · omega
  · have hl := h.l
    rw [hv] at hl
    refine ⟨g, cap, hv, fun k hk => ?_⟩
    have hg := cells3_get (D.map trP) k (by rw [List.length_map]; exact hk)
    rw [List.getElem_map] at hg
    rw [hl.cellAt (k * 3) (by omega), hl.cellAt (k * 3 + 1) (by omega), hl.cellAt (k * 3 + 2) (by omega)]
    exact hg
theorem least_st {n0 : Nat} {w : World} {vo vl : Value} {L : List Int} {D X : List (HT × Value)} (h : St n0 w vo vl L D X) (hp : 0 < D.length) (hl : D.length ≤ 1000000) :
    Calls Try.prog 25 #[vl] w fun e w' => ∃ k : Nat, ∃ hk : k < D.length, e = .returned (.int .i64 k) ∧ Hid (∀ x ∈ D, leT D[k].1 x.1) ∧ Below w.heap.size w w' := by
  refine (least_any vl (D.map trP) w (trs_of_owns h.l).1 (by rw [List.length_map]; exact hp) (by rw [List.length_map]; exact hl)).mono ?_
  rintro e w' ⟨k, hk, rfl, hall, hb⟩
  rw [List.length_map] at hk
  refine ⟨k, hk, rfl, fun x hx => ?_, hb⟩
  obtain ⟨j, hj, rfl⟩ := List.getElem_of_mem hx
  have := hall.out j (by rw [List.length_map]; exact hj)
  rw [List.getElem_map, List.getElem_map] at this
  exact this
theorem without_st {n0 : Nat} {w : World} {vo vl : Value} {L : List Int} {D X : List (HT × Value)} (h : St n0 w vo vl L D X) (k : Nat) (hk : k < D.length) (hl : D.length ≤ 1000000) :
    Calls Try.prog 26 #[vl, .int .i64 k] w fun e w' => ∃ a cap, e = .returned (.slice a (D.eraseIdx k).length cap) ∧ St n0 w' vo (.slice a (D.eraseIdx k).length cap) L (D.eraseIdx k) (D[k] :: X) ∧ Below w.heap.size w w' := by
  refine (without_any vl (D.map trP) k w (trs_of_owns h.l).1 (by rw [List.length_map]; exact hk) (by rw [List.length_map]; exact hl) ?_).mono ?_
  · intro t ht
    obtain ⟨p, hp, rfl⟩ := List.mem_map.1 ht
    obtain ⟨b, cap, hv, _⟩ := h.tr p (List.mem_append_left _ hp)
    show p.2.oneCell' = true
    rw [hv]; rfl
  · rintro e w' ⟨v', rfl, hown, hb⟩
    have hst := st_without h k hk hb hown
    obtain ⟨a, cap, rfl, _⟩ := owns_shape hst.l
    exact ⟨a, cap, rfl, hst, hb⟩
/-- How far the putting together is. -/
structure Mid (f : List Int) (L : List Int) (F : List HT) : Prop where
  red : ∀ T, Red F T → Red (initT f) T
  deps : L = depsL F f.length
  syms : (F.flatMap syms).Perm ((initT f).flatMap syms)
  some : 1 ≤ F.length
  sum : wtSum F ≤ 1000000000
  pos : Pos F
  two : 2 ≤ (initT f).length
theorem mid_init {f : List Int} (hl : f.length ≤ 1000) (hf : ∀ x ∈ f, 0 ≤ x ∧ x ≤ 1000000) (h2 : 2 ≤ (initT f).length) : Mid f (List.replicate f.length 0) (initT f) :=
  ⟨fun _ h => h, (depsL_init f f.length).symm, List.Perm.refl _, by omega, by
    have h := initTo_sum f (m := 1000000) (by omega) (fun x hx => (hf x hx).2) f.length (Nat.le_refl _)
    rw [initTo_all] at h
    omega, initT_pos f, h2⟩
theorem mid_le {f L : List Int} {F : List HT} (h : Mid f L F) : (F.flatMap syms).length ≤ f.length := by
  rw [h.syms.length_eq, ← initT_nm, List.length_map, ← initTo_all]
  exact initTo_le f f.length
theorem mid_nodup {f L : List Int} {F : List HT} (h : Mid f L F) : (F.flatMap syms).Nodup := h.syms.nodup_iff.2 (initT_syms f).1
theorem mid_lt {f L : List Int} {F : List HT} (h : Mid f L F) : ∀ s ∈ F.flatMap syms, s < f.length := fun s hs => (initT_syms f).2 s (h.syms.mem_iff.1 hs)
theorem mid_one {f L : List Int} {T : HT} (h : Mid f L [T]) : OnceR f L := by
  refine Or.inr (Or.inr ⟨h.two, T, h.red T (.one T), ?_⟩)
  rw [h.deps]
  have h1 := mid_nodup h
  have h2 := mid_lt h
  simp only [List.flatMap_cons, List.flatMap_nil, List.append_nil] at h1 h2
  exact depsL_one h1 h2
theorem mid_step {f L : List Int} {F R : List HT} {a b : HT} (h : Mid f L F) (hp : F.Perm (a :: b :: R)) (ha : ∀ x ∈ b :: R, leT a x) (hb : ∀ x ∈ R, leT b x) :
    Mid f (incTo L (syms a ++ syms b)) (R ++ [.node a b]) := by
  have hpp : (R ++ [HT.node a b]).Perm (.node a b :: R) := List.perm_append_comm (l₁ := R) (l₂ := [HT.node a b])
  have hnd : (syms a ++ syms b).Nodup := by
    have := (flat_perm hp).nodup_iff.1 (mid_nodup h)
    simp only [List.flatMap_cons] at this
    rw [← List.append_assoc] at this
    exact (List.nodup_append.1 this).1
  have hpos := pos_perm hp h.pos
  refine ⟨fun T hT => h.red T (.step hp ha hb (red_perm hT hpp.symm)), ?_, ?_, by simp, ?_, ?_, h.two⟩
  · rw [h.deps, depsL_perm hp, depsL_node hnd, depsL_perm hpp.symm]
  · refine (flat_perm hpp).trans (.trans ?_ h.syms)
    rw [flat_node]
    exact flat_perm hp.symm
  · rw [wtSum_perm hpp, wtSum_node, ← wtSum_perm hp]; exact h.sum
  · refine pos_perm hpp.symm fun x hx => ?_
    rcases List.mem_cons.1 hx with rfl | hx
    · have h1 := hpos a (List.mem_cons_self ..)
      have h2 := hpos b (List.mem_cons_of_mem _ (List.mem_cons_self ..))
      show 0 < wt a + wt b
      omega
    · exact hpos x (List.mem_cons_of_mem _ (List.mem_cons_of_mem _ hx))
end Go.Proofs.Ytpkbbbdbcedkfaa
