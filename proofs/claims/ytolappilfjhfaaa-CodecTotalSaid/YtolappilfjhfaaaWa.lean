/- A small text of lemmas on worlds in which all that was there is as it was. No condition. Lemmas that open the arguments of a row: a slice of whatever flat elements reads as a list. No condition; no program. Lemmas on slices that read as lists, and on rows of the call's own. No condition; no program. More lemmas on rows of the call's own. No condition; no program. -/
import Derived.WalkKit
import Derived.Below
import Derived.Lib.Hide
import Derived.ProofKit
import Derived.OpenShut
import Derived.SizedLaws
import Derived.Deep.Slices
import Derived.Deep.Strs
import Derived.Lib.SmallJoins
import Derived.OwnWalk
namespace Go.Proofs.Ytolappilfjhfaaa
open Go.RowKit

/-- All cells that were there in W read in w' as they did; nothing of W has turned. -/
abbrev Held (W w' : World) : Prop := (∀ b o, b < W.heap.size → w'.cell? ⟨b, o, none⟩ = W.cell? ⟨b, o, none⟩) ∧ Below W.heap.size W w'

theorem held_of {W w' : World} (h : Below W.heap.size W w') : Held W w' := ⟨fun b o hb => h.cell (p := ⟨b, o, none⟩) hb, h⟩
theorem held_refl (W : World) : Held W W := held_of (Below.refl _ _)
theorem held_drew {W a : World} (h : Held W a) : Held W a.drew := held_of h.2.drew
theorem held_call {n : Nat} {W a b : World} (hb : Below n a b) (h : Held W a) (hn : a.heap.size = n := by rfl) : Held W b :=
  held_of (h.2.trans (hb.mono (by rw [← hn]; exact h.2.size)))
theorem held_start {W : World} : Held W W.drew := held_drew (held_refl W)

theorem set_cell_same {w : World} {a : Addr} {u v : Value} (h : w.cell? a = some u) : (w.setCell a v).cell? a = some v := World.cell?_setCell_same w a v h
theorem set_cell_ne {w : World} {b o o' : Nat} {v : Value} {x : Option Value} (h : w.cell? ⟨b, o, none⟩ = x) (hne : o' ≠ o) : (w.setCell ⟨b, o', none⟩ v).cell? ⟨b, o, none⟩ = x := by
  rw [World.cell?_setCell_other w _ _ _ (by intro h; cases h; exact hne rfl)]; exact h

/-- Four cells of one block, stored one behind the other. -/
theorem put4 {w : World} {b : Nat} {x0 x1 x2 x3 : Value} (v0 v1 v2 v3 : Value) (h0 : w.cell? ⟨b, 0, none⟩ = some x0) (h1 : w.cell? ⟨b, 1, none⟩ = some x1) (h2 : w.cell? ⟨b, 2, none⟩ = some x2) (h3 : w.cell? ⟨b, 3, none⟩ = some x3) :
    ∃ wf, (((w.setCell ⟨b, 0, none⟩ v0).setCell ⟨b, 1, none⟩ v1).setCell ⟨b, 2, none⟩ v2).setCell ⟨b, 3, none⟩ v3 = wf ∧ wf.cell? ⟨b, 0, none⟩ = some v0 ∧ wf.cell? ⟨b, 1, none⟩ = some v1 ∧ wf.cell? ⟨b, 2, none⟩ = some v2 ∧ wf.cell? ⟨b, 3, none⟩ = some v3 ∧
      Below b w wf :=
  ⟨_, rfl, set_cell_ne (set_cell_ne (set_cell_ne (set_cell_same h0) (by decide)) (by decide)) (by decide), set_cell_ne (set_cell_ne (set_cell_same (set_cell_ne h1 (by decide))) (by decide)) (by decide),
    set_cell_ne (set_cell_same (set_cell_ne (set_cell_ne h2 (by decide)) (by decide))) (by decide), set_cell_same (set_cell_ne (set_cell_ne (set_cell_ne h3 (by decide)) (by decide)) (by decide)),
    ((((Below.refl b w).setCell (p := ⟨b, 0, none⟩) (Nat.le_refl b) v0).setCell (p := ⟨b, 1, none⟩) (Nat.le_refl b) v1).setCell (p := ⟨b, 2, none⟩) (Nat.le_refl b) v2).setCell (p := ⟨b, 3, none⟩) (Nat.le_refl b) v3⟩
end Go.Proofs.Ytolappilfjhfaaa
namespace Go.Proofs.Ytolappilfjhfaaa
open Go.ChangeShapes Go.WideShapes Go.ChangeAt Go.RowKit Go.Deep

theorem bd_i64 {n : Int} (h : (Lit.int .i64 n).wf = true) : -9223372036854775808 ≤ n ∧ n ≤ 9223372036854775807 := by
  simpa [Lit.wf, IntKind.min, IntKind.max, IntKind.bits, IntKind.signed] using h
theorem bd_u8 {n : Int} (h : (Lit.int .u8 n).wf = true) : 0 ≤ n ∧ n ≤ 255 := by
  simpa [Lit.wf, IntKind.min, IntKind.max, IntKind.bits, IntKind.signed] using h

/-- The slice value v reads in w as the list xs, each element k cells, written by E. -/
def SlOf {α : Type} (w : World) (v : Value) (k : Nat) (E : α → List Value) (xs : List α) : Prop :=
  ∃ a cap, v = .slice a xs.length cap ∧ xs.length ≤ cap ∧ (a = none → cap = 0) ∧
    (xs = [] ∨ ∃ b off, a = some ⟨b, off, none⟩ ∧ b < w.heap.size ∧ ∀ i (hi : i < xs.length), ∀ j, j < k → w.cell? ⟨b, off + (i * k + j), none⟩ = (E xs[i])[j]?)

theorem add_add (a : Addr) (i j : Nat) (h : a.spot = none) : (a.add i).add j = a.add (i + j) := by
  obtain ⟨b, o, s⟩ := a
  simp only at h
  subst h
  unfold Addr.add
  by_cases hi : i = 0 <;> by_cases hj : j = 0 <;> simp_all <;> omega

theorem add_none (b o i : Nat) : (⟨b, o, none⟩ : Addr).add i = ⟨b, o + i, none⟩ := by
  unfold Addr.add
  by_cases hi : i = 0 <;> simp_all

theorem exists_list {α : Type} (n : Nat) (p : Nat → α → Prop) (h : ∀ i, i < n → ∃ x, p i x) : ∃ xs : List α, xs.length = n ∧ ∀ i (hi : i < xs.length), p i xs[i] := by
  induction n with
  | zero => exact ⟨[], rfl, fun i hi => by simp at hi⟩
  | succ n ih =>
    obtain ⟨xs, hl, hx⟩ := ih fun i hi => h i (by omega)
    obtain ⟨x, hp⟩ := h n (by omega)
    refine ⟨xs ++ [x], by simp [hl], fun i hi => ?_⟩
    simp only [List.length_append, List.length_cons, List.length_nil] at hi
    by_cases hin : i < xs.length
    · rw [List.getElem_append_left hin]; exact hx i hin
    · obtain rfl : i = n := by omega
      rw [List.getElem_append_right (by omega)]
      simpa [hl] using hp

section
variable {H : Type} {enc : TypeId × Value → H} {P : Program} {W : World}

/-- A slice parameter opened: its elements as a list; its room within the reach. -/
theorem sl_open {α : Type} {b0 : Nat} {t e : TypeId} {v : Value} {d : DataW H} {p : List MemPlace} {ts : List TypeId} {ds : List (DataW H)} {j k : Nat} (E : α → List Value) (Ok : α → Prop)
    (ht : P.underlying t = some (.slice e)) (hk : P.cellsOf e = k) (hk0 : 0 < k)
    (hE : ∀ n cs y, DataW.trod enc P W 0 (fun _ => true) true n e cs = some y → cs.length = k → ∃ x, cs = E x ∧ Ok x)
    (hsz : (DataW.weightsEach P ts ds).all (· ≤ reachBytes) = true) (hts : ts[j]? = some t) (hds : ds[j]? = some d)
    (hv : Value.okWide P W .any b0 t v) (h : DataW.Trod enc P W 0 (fun _ => true) true t v d p) :
    ∃ xs : List α, SlOf W v k E xs ∧ (∀ x ∈ xs, Ok x) ∧ xs.length * P.bytesOf e ≤ reachBytes := by
  obtain ⟨a0, len0, cap0, rfl⟩ := okWide_slice ht hv
  obtain ⟨fuel, hf⟩ := h
  rcases open_slice ht hf with ⟨hcs, hx⟩ | ⟨a, len, cap, m, n, D, Pl, hcs, hb, hl, hm, hmm, hx, hel⟩
  · simp [Value.cells] at hcs
    obtain ⟨rfl, rfl, rfl⟩ := hcs
    exact ⟨[], ⟨none, 0, rfl, by simp, fun _ => rfl, Or.inl rfl⟩, by simp, by simp⟩
  · simp [Value.cells] at hcs
    obtain ⟨rfl, rfl, rfl⟩ := hcs
    simp only [if_true] at hmm
    subst hmm
    simp only [Prod.mk.injEq] at hx
    obtain ⟨rfl, _⟩ := hx
    have hr := sized_slice hsz hts hds ht
    simp only [List.length_map, List.length_range] at hr
    obtain ⟨xs, hlen, hxs⟩ := exists_list (α := α) len0 (fun i x => W.cells? 0 (a.add (i * P.cellsOf e)) (P.cellsOf e) = some (E x) ∧ (E x).length = k ∧ Ok x) (fun i hi => by
      obtain ⟨cs', h1, h2⟩ := hel i (by omega)
      have hlk := (World.cells?_some h1).2.1
      obtain ⟨x, hx, hok⟩ := hE _ _ _ h2 (by rw [hlk, hk])
      exact ⟨x, by rw [h1, hx], by rw [← hx, hlk, hk], hok⟩)
    refine ⟨xs, ⟨some a, m, by rw [hlen], by omega, nofun, ?_⟩, fun x hx => ?_, ?_⟩
    · by_cases h0 : xs = []
      · exact Or.inl h0
      · right
        have hpos : 0 < xs.length := List.length_pos_iff.2 h0
        have cell : ∀ i (hi : i < xs.length), ∀ j, j < k → W.cell? ((a.add (i * k)).add j) = (E xs[i])[j]? := by
          intro i hi j hj
          have h1 := (World.cells?_some (hxs i hi).1).2.2 j (by omega)
          rw [hk] at h1
          exact h1
        have c0 := cell 0 hpos 0 hk0
        have e0 : (E xs[0]).length = k := (hxs 0 hpos).2.1
        rw [List.getElem?_eq_getElem (by omega)] at c0
        have hsp : a.spot = none := by
          have := World.cell?_spot c0
          rw [Nat.zero_mul] at this
          simpa [Addr.add] using this
        obtain ⟨b, off, sp⟩ := a
        simp only at hsp
        subst hsp
        refine ⟨b, off, rfl, ?_, fun i hi j hj => ?_⟩
        · have := World.block_lt_of_cell? W _ c0
          rw [add_none, add_none] at this
          exact this
        · have := cell i hi j hj
          rw [add_none, add_none] at this
          rw [← Nat.add_assoc]
          exact this
    · obtain ⟨i, hi, rfl⟩ := List.getElem_of_mem hx
      exact (hxs i hi).2.2
    · have : xs.length ≤ len0 + (m - len0) := by omega
      exact Nat.le_trans (Nat.mul_le_mul_right _ this) hr
end
end Go.Proofs.Ytolappilfjhfaaa
namespace Go.Proofs.Ytolappilfjhfaaa
open Go.RowKit

section
variable {α : Type} {w w' : World} {v : Value} {k : Nat} {E : α → List Value} {xs : List α}

theorem sl_below (h : SlOf w v k E xs) (hb : Below w.heap.size w w') : SlOf w' v k E xs := by
  obtain ⟨a, cap, hv, hl, hn, hc⟩ := h
  refine ⟨a, cap, hv, hl, hn, ?_⟩
  rcases hc with hc | ⟨b, off, ha, hb0, hcell⟩
  · exact Or.inl hc
  · refine Or.inr ⟨b, off, ha, Nat.lt_of_lt_of_le hb0 hb.size, fun i hi j hj => ?_⟩
    rw [hb.cell (p := ⟨b, off + (i * k + j), none⟩) hb0]
    exact hcell i hi j hj

/-- The two makes of a slice whose elements are one cell each. -/
theorem sl_one {f : α → Value} (h : SlOf w v 1 (fun x => [f x]) xs) :
    (xs = [] ∧ ∃ a cap, v = .slice a 0 cap ∧ (a = none → cap = 0)) ∨
    (0 < xs.length ∧ ∃ b off cap, v = .slice (some ⟨b, off, none⟩) xs.length cap ∧ xs.length ≤ cap ∧ b < w.heap.size ∧ ∀ i (hi : i < xs.length), w.cell? ⟨b, off + i, none⟩ = some (f xs[i])) := by
  obtain ⟨a, cap, hv, hl, hn, hc⟩ := h
  by_cases h0 : xs = []
  · subst h0; exact Or.inl ⟨rfl, a, cap, hv, hn⟩
  · rcases hc with hc | ⟨b, off, ha, hb0, hcell⟩
    · exact absurd hc h0
    · subst ha
      refine Or.inr ⟨List.length_pos_iff.2 h0, b, off, cap, hv, hl, hb0, fun i hi => ?_⟩
      simpa using hcell i hi 0 (by omega)

theorem sl_one_mk {f : α → Value} {b off cap : Nat} (hl : xs.length ≤ cap) (hb : b < w.heap.size) (hc : ∀ i (hi : i < xs.length), w.cell? ⟨b, off + i, none⟩ = some (f xs[i])) :
    SlOf w (.slice (some ⟨b, off, none⟩) xs.length cap) 1 (fun x => [f x]) xs :=
  ⟨_, cap, rfl, hl, nofun, Or.inr ⟨b, off, rfl, hb, fun i hi j hj => (by
    obtain rfl : j = 0 := by omega
    simpa using hc i hi)⟩⟩

theorem sl_nil {cap : Nat} {a : Option Addr} (hn : a = none → cap = 0) : SlOf w (.slice a 0 cap) k E ([] : List α) := ⟨a, cap, rfl, Nat.zero_le _, hn, Or.inl rfl⟩

/-- A row of the call's own reads as a list. -/
theorem sl_of_owns {base e n : Nat} {f : α → Value} (h : w.ownsRow base e 1 v n (xs.map f)) : SlOf w v 1 (fun x => [f x]) xs ∧ n = xs.length := by
  obtain ⟨hl, h⟩ := h
  simp only [List.length_map, Nat.mul_one] at hl
  subst hl
  refine ⟨?_, rfl⟩
  rcases h with ⟨rfl, h0⟩ | ⟨g, cap, cur, rfl, hg, hc, hn, hm, hs, ht⟩
  · obtain rfl := List.length_eq_zero_iff.1 h0
    exact sl_nil fun _ => rfl
  · refine sl_one_mk hn (by
      rcases Nat.lt_or_ge g w.heap.size with h | h
      · exact h
      · rw [Array.getElem?_eq_none h] at hc; cases hc) fun i hi => ?_
    have h1 : (cur.toList.take (xs.length * 1))[i]? = (xs.map f)[i]? := by rw [ht]
    rw [List.getElem?_take_of_lt (by omega), List.getElem?_map, List.getElem?_eq_getElem hi] at h1
    simp only [World.cell?, hc, Nat.zero_add]
    simpa using h1

/-- A row of the call's own stays so where nothing of it has turned. -/
theorem owns_below {base e n size : Nat} {cs : List Value} (h : w.ownsRow base e size v n cs) (hb : Below w.heap.size w w') : w'.ownsRow base e size v n cs := by
  obtain ⟨hl, h⟩ := h
  refine ⟨hl, ?_⟩
  rcases h with h | ⟨g, cap, cur, rfl, hg, hc, hn, hm, hs, ht⟩
  · exact Or.inl h
  · have hlt : g < w.heap.size := by
      rcases Nat.lt_or_ge g w.heap.size with h | h
      · exact h
      · rw [Array.getElem?_eq_none h] at hc; cases hc
    exact Or.inr ⟨g, cap, cur, rfl, hg, by rw [hb.block g hlt]; exact hc, hn, hm, hs, ht⟩
theorem owns_base {base base' e n size : Nat} {cs : List Value} (h : w.ownsRow base e size v n cs) (hb : base' ≤ base) : w.ownsRow base' e size v n cs := by
  obtain ⟨hl, h⟩ := h
  refine ⟨hl, ?_⟩
  rcases h with h | ⟨g, cap, cur, rfl, hg, hc, hn, hm, hs, ht⟩
  · exact Or.inl h
  · exact Or.inr ⟨g, cap, cur, rfl, Nat.le_trans hb hg, hc, hn, hm, hs, ht⟩
/-- The block of a row of the call's own lies from base on. -/
theorem owns_block {base e n size : Nat} {cs : List Value} (h : w.ownsRow base e size v n cs) : ∀ b, v.ownBlock = some b → base ≤ b := by
  obtain ⟨_, h⟩ := h
  intro b hb
  rcases h with ⟨rfl, _⟩ | ⟨g, cap, cur, rfl, hg, _⟩
  · cases hb
  · simp only [Value.ownBlock, Option.some.injEq] at hb; omega
/-- The shape of such a value. -/
theorem owns_shape {base e n size : Nat} {cs : List Value} (h : w.ownsRow base e size v n cs) : ∃ a cap, v = .slice a n cap ∧ n ≤ cap ∧ (a = none → cap = 0) := by
  obtain ⟨_, h⟩ := h
  rcases h with ⟨rfl, rfl⟩ | ⟨g, cap, cur, rfl, hg, _, hn, _⟩
  · exact ⟨_, _, rfl, Nat.le_refl _, fun _ => rfl⟩
  · exact ⟨_, _, rfl, hn, nofun⟩
/-- A block that has just been laid reads as a list. -/
theorem sl_alloc {f : α → Value} (w : World) (e : TypeId) (xs : List α) (cap : Nat) (hc : xs.length ≤ cap) : SlOf (w.alloc (.cells (xs.map f).toArray e)) (.slice (some ⟨w.heap.size, 0, none⟩) xs.length cap) 1 (fun x => [f x]) xs :=
  sl_one_mk hc (by simp) fun i hi => by
    rw [Nat.zero_add, World.cell?_alloc_new]
    simp [hi]
end
end Go.Proofs.Ytolappilfjhfaaa
namespace Go.Proofs.Ytolappilfjhfaaa
open Go.RowKit
theorem owns_lt {w : World} {v : Value} {base e n size : Nat} {cs : List Value} (h : w.ownsRow base e size v n cs) : ∀ b, v.ownBlock = some b → b < w.heap.size := by
  obtain ⟨_, h⟩ := h
  intro b hb
  rcases h with ⟨rfl, _⟩ | ⟨g, cap, cur, rfl, hg, hc, _⟩
  · cases hb
  · simp only [Value.ownBlock, Option.some.injEq] at hb
    subst hb
    rcases Nat.lt_or_ge g w.heap.size with h | h
    · exact h
    · rw [Array.getElem?_eq_none h] at hc; cases hc
end Go.Proofs.Ytolappilfjhfaaa
