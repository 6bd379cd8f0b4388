/- Worlds in which a level of nodes is built. No condition; no program text. -/
import Derived.Test.YtdlgpcjdaaeliaaTreW
namespace Go.Proofs.Ytdlgpcjdaaeliaa
open Go.RowKit Go.Shelf

/-- All but what R says is as it was. -/
structure GrS (w w' : World) (R : Nat → Prop) : Prop where
  os : w'.os = w.os
  tape : w'.tape = w.tape
  output : w'.output = w.output
  size : w.heap.size ≤ w'.heap.size
  block : ∀ k, k < w.heap.size → ¬ R k → w'.heap[k]? = w.heap[k]?
theorem grs_refl (w : World) (R : Nat → Prop) : GrS w w R := ⟨rfl, rfl, rfl, Nat.le_refl _, fun _ _ _ => rfl⟩
theorem GrS.trans {a b c : World} {R : Nat → Prop} (h : GrS a b R) (k : GrS b c R) : GrS a c R :=
  ⟨k.os.trans h.os, k.tape.trans h.tape, k.output.trans h.output, Nat.le_trans h.size k.size, fun i hi hr => (k.block i (Nat.lt_of_lt_of_le hi h.size) hr).trans (h.block i hi hr)⟩
theorem GrS.mono {a b : World} {R R' : Nat → Prop} (h : GrS a b R) (hr : ∀ k, k < a.heap.size → R k → R' k) : GrS a b R' :=
  ⟨h.os, h.tape, h.output, h.size, fun i hi hn => h.block i hi fun hR => hn (hr i hi hR)⟩
theorem grs_grown {a b : World} {row : Option Nat} (h : a.grownBy b row) : GrS a b (fun k => some k = row) := ⟨h.os, h.tape, h.output, h.size, fun i hi hn => h.block i hi hn⟩
theorem grs_alloc (a : World) (o : Obj) (R : Nat → Prop) : GrS a (a.alloc o) R := (grs_grown (World.grownBy_alloc a o none)).mono (fun k _ h => by cases h)
theorem grs_drew (a : World) (R : Nat → Prop) : GrS a a.drew R := ⟨rfl, rfl, rfl, Nat.le_refl _, fun _ _ _ => rfl⟩
theorem grs_set (a : World) (b o : Nat) (v : Value) : GrS a (a.setCell ⟨b, o, none⟩ v) (fun k => k = b) := (grs_grown (grown_setCell9 a ⟨b, o, none⟩ v)).mono (fun k _ h => by cases h; rfl)
theorem GrS.cell {a b : World} {R : Nat → Prop} (h : GrS a b R) {k o : Nat} (hk : k < a.heap.size) (hr : ¬ R k) : b.cell? ⟨k, o, none⟩ = a.cell? ⟨k, o, none⟩ := World.cell?_of_block (a := ⟨k, o, none⟩) (h.block k hk hr)
theorem GrS.frozen {a b : World} {R : Nat → Prop} (h : GrS a b R) {k o : Nat} (hk : k < a.heap.size) (hr : ¬ R k) : b.frozen? ⟨k, o, none⟩ = a.frozen? ⟨k, o, none⟩ := World.frozen?_of_block (a := ⟨k, o, none⟩) (h.block k hk hr)
theorem GrS.below {a b : World} {R : Nat → Prop} {B : Nat} (h : GrS a b R) (hB : B ≤ a.heap.size) (hr : ∀ k, R k → B ≤ k) : Below B a b :=
  ⟨h.os, h.tape, h.output, h.size, fun k hk => h.block k (by omega) fun hR => by have := hr k hR; omega⟩
theorem GrS.boxed {a b : World} {R : Nat → Prop} {B : Nat} {t : TypeId} {v : Value} (h : GrS a b R) (hb : Boxed a B t v) (hr : ¬ R B) : Boxed b B t v := (h.block B hb.lt hr).trans hb
theorem GrS.owns {a b : World} {R : Nat → Prop} {base e size n : Nat} {v : Value} {cs : List Value} (h : GrS a b R) (ho : a.ownsRow base e size v n cs) (hr : ∀ g, v.ownBlock = some g → ¬ R g) : b.ownsRow base e size v n cs := by
  have hlt := owns_lt ho
  obtain ⟨hl, ho⟩ := ho
  refine ⟨hl, ?_⟩
  rcases ho with h0 | ⟨g, cap, cur, rfl, hg, hc, hn, hm, hs, ht⟩
  · exact Or.inl h0
  · exact Or.inr ⟨g, cap, cur, rfl, hg, (h.block g (hlt g rfl) (hr g rfl)).trans hc, hn, hm, hs, ht⟩
theorem GrS.nd3 {a b : World} {R : Nat → Prop} {B : Nat} {v0 v1 v2 : Value} (h : GrS a b R) (hn : Nd3 a B v0 v1 v2) (hr : ¬ R B) : Nd3 b B v0 v1 v2 :=
  ⟨Nat.lt_of_lt_of_le hn.lt h.size, (h.cell hn.lt hr).trans hn.c0, (h.cell hn.lt hr).trans hn.c1, (h.cell hn.lt hr).trans hn.c2, (h.frozen hn.lt hr).trans hn.f0, (h.frozen hn.lt hr).trans hn.f1, (h.frozen hn.lt hr).trans hn.f2⟩
theorem GrS.others {a b : World} {R : Nat → Prop} (h : GrS a b R) (hr : ∀ k o, R k → a.heap[k]? = some o → o.isCells = true) : KeepsOthers a b :=
  ⟨h.size, fun k o hk ho => (h.block k (by
    rcases Nat.lt_or_ge k a.heap.size with h' | h'
    · exact h'
    · rw [Array.getElem?_eq_none h'] at hk; cases hk) fun hR => by rw [hr k o hR hk] at ho; cases ho).trans hk⟩
theorem Nd3.set0 {w : World} {b : Nat} {v0 v1 v2 : Value} (h : Nd3 w b v0 v1 v2) (u : Value) : Nd3 (w.setCell ⟨b, 0, none⟩ u) b u v1 v2 :=
  ⟨by simpa [World.setCell] using h.lt, set_cell_same h.c0, set_cell_ne h.c1 (by decide), set_cell_ne h.c2 (by decide), by rw [World.frozen?_setCell]; exact h.f0, by rw [World.frozen?_setCell]; exact h.f1, by rw [World.frozen?_setCell]; exact h.f2⟩
theorem Nd3.set1 {w : World} {b : Nat} {v0 v1 v2 : Value} (h : Nd3 w b v0 v1 v2) (u : Value) : Nd3 (w.setCell ⟨b, 1, none⟩ u) b v0 u v2 :=
  ⟨by simpa [World.setCell] using h.lt, set_cell_ne h.c0 (by decide), set_cell_same h.c1, set_cell_ne h.c2 (by decide), by rw [World.frozen?_setCell]; exact h.f0, by rw [World.frozen?_setCell]; exact h.f1, by rw [World.frozen?_setCell]; exact h.f2⟩
theorem Nd3.set2 {w : World} {b : Nat} {v0 v1 v2 : Value} (h : Nd3 w b v0 v1 v2) (u : Value) : Nd3 (w.setCell ⟨b, 2, none⟩ u) b v0 v1 u :=
  ⟨by simpa [World.setCell] using h.lt, set_cell_ne h.c0 (by decide), set_cell_ne h.c1 (by decide), set_cell_same h.c2, by rw [World.frozen?_setCell]; exact h.f0, by rw [World.frozen?_setCell]; exact h.f1, by rw [World.frozen?_setCell]; exact h.f2⟩

/-- A store into a row of the call's own. -/
theorem heap_set9 {w : World} {g i : Nat} {cur : Array Value} {e : TypeId} {z : Nat × Nat} (h : w.heap[g]? = some (.cells cur e z)) (v : Value) : (w.setCell ⟨g, i, none⟩ v).heap[g]? = some (.cells (cur.setIfInBounds i v) e z) := by
  obtain ⟨hlt, hk⟩ := Array.getElem?_eq_some_iff.1 h
  show (w.heap.modify g _)[g]? = _
  rw [Array.getElem?_eq_getElem (by rw [Array.size_modify]; exact hlt), Array.getElem_modify_self, hk]
  rfl
theorem owns_set9 {w : World} {base e size n cap g : Nat} {cs : List Value} (h : w.ownsRow base e size (.slice (some ⟨g, 0, none⟩) n cap) n cs) (i : Nat) (v : Value) :
    (w.setCell ⟨g, i, none⟩ v).ownsRow base e size (.slice (some ⟨g, 0, none⟩) n cap) n (cs.set i v) := by
  obtain ⟨hl, h⟩ := h
  refine ⟨by rw [List.length_set]; exact hl, ?_⟩
  rcases h with ⟨h, _⟩ | ⟨g', cap', cur, hv, h1, h2, h3, h4, h5, h6⟩
  · cases h
  · injection hv with q1 q2 q3
    injection q1 with q1
    injection q1 with q1
    subst q1 q3
    refine Or.inr ⟨g, cap, cur.setIfInBounds i v, rfl, h1, heap_set9 h2 v, h3, h4, by rw [Array.size_setIfInBounds]; exact h5, ?_⟩
    rw [← h6, Array.toList_setIfInBounds, List.take_set]

/-! ### Nodes whose blocks meet P -/
def SlP {α : Type} (w : World) (P : Nat → Prop) (v : Value) (k : Nat) (E : α → List Value) (xs : List α) : Prop :=
  ∃ a cap, v = .slice a xs.length cap ∧ xs.length ≤ cap ∧ (a = none → cap = 0) ∧
    (xs = [] ∨ ∃ b off, a = some ⟨b, off, none⟩ ∧ b < w.heap.size ∧ P b ∧ ∀ i (hi : i < xs.length), ∀ j, j < k → w.cell? ⟨b, off + (i * k + j), none⟩ = (E xs[i])[j]?)
section
variable {α : Type} {w w' : World} {P P' : Nat → Prop} {v : Value} {k : Nat} {E : α → List Value} {xs : List α}
theorem slP_of (h : SlP w P v k E xs) : SlOf w v k E xs := by
  obtain ⟨a, cap, hv, hl, hn, hc⟩ := h
  refine ⟨a, cap, hv, hl, hn, hc.imp id ?_⟩
  rintro ⟨b, off, ha, hb, _, hcell⟩
  exact ⟨b, off, ha, hb, hcell⟩
theorem slP_kept (h : SlP w P v k E xs) {R : Nat → Prop} (hg : GrS w w' R) (hr : ∀ b, P b → ¬ R b) : SlP w' P v k E xs := by
  obtain ⟨a, cap, hv, hl, hn, hc⟩ := h
  refine ⟨a, cap, hv, hl, hn, hc.imp id ?_⟩
  rintro ⟨b, off, ha, hb, hp, hcell⟩
  exact ⟨b, off, ha, Nat.lt_of_lt_of_le hb hg.size, hp, fun i hi j hj => (hg.cell hb (hr b hp)).trans (hcell i hi j hj)⟩
theorem slP_mono (h : SlP w P v k E xs) (hp : ∀ b, b < w.heap.size → P b → P' b) : SlP w P' v k E xs := by
  obtain ⟨a, cap, hv, hl, hn, hc⟩ := h
  refine ⟨a, cap, hv, hl, hn, hc.imp id ?_⟩
  rintro ⟨b, off, ha, hb, h1, hcell⟩
  exact ⟨b, off, ha, hb, hp b hb h1, hcell⟩
theorem slP_owns (hE : EncOk E k) {base e n : Nat} (h : w.ownsRow base e k v n (cellsE E xs)) : SlP w (fun b => v.ownBlock = some b) v k E xs := by
  obtain ⟨a, cap, hv, hl, hn, hc⟩ := (sl_of_ownsE hE h).1
  refine ⟨a, cap, hv, hl, hn, hc.imp id ?_⟩
  rintro ⟨b, off, ha, hb, hcell⟩
  exact ⟨b, off, ha, hb, by rw [hv, ha]; rfl, hcell⟩
end
theorem intE_ok : EncOk intE 1 := ⟨by decide, fun _ => rfl, fun x u hu => by
  simp only [List.mem_cons, List.not_mem_nil, or_false] at hu
  subst hu; rfl⟩

inductive NodeP (w : World) (P : Nat → Prop) : N3 → Tr → Prop where
  | mk {kv vv xv : Value} {ks vs : List Int} {kids : List Tr} (ns : List N3) (hk : SlP w P kv 1 intE ks) (hv : SlP w P vv 1 intE vs) (hx : SlP w P xv 3 nodeE ns)
      (lk : ks.length ≤ maxLen) (lv : vs.length ≤ maxLen) (lx : kids.length ≤ maxLen) (hl : ns.length = kids.length)
      (h : ∀ i (hi : i < ns.length) (hj : i < kids.length), NodeP w P ns[i] kids[i]) : NodeP w P (kv, vv, xv) (.nd ks vs kids)
theorem nodeP_of {w : World} {P : Nat → Prop} {n : N3} {t : Tr} (h : NodeP w P n t) : NodeV w n t := by
  induction h with
  | mk ns hk hv hx lk lv lx hl _ ih => exact .mk ns (slP_of hk) (slP_of hv) (slP_of hx) lk lv lx hl ih
theorem nodeP_kept {w w' : World} {P R : Nat → Prop} {n : N3} {t : Tr} (h : NodeP w P n t) (hg : GrS w w' R) (hr : ∀ b, P b → ¬ R b) : NodeP w' P n t := by
  induction h with
  | mk ns hk hv hx lk lv lx hl _ ih => exact .mk ns (slP_kept hk hg hr) (slP_kept hv hg hr) (slP_kept hx hg hr) lk lv lx hl ih
theorem nodeP_mono {w : World} {P P' : Nat → Prop} {n : N3} {t : Tr} (h : NodeP w P n t) (hp : ∀ b, b < w.heap.size → P b → P' b) : NodeP w P' n t := by
  induction h with
  | mk ns hk hv hx lk lv lx hl _ ih => exact .mk ns (slP_mono hk hp) (slP_mono hv hp) (slP_mono hx hp) lk lv lx hl ih
end Go.Proofs.Ytdlgpcjdaaeliaa
