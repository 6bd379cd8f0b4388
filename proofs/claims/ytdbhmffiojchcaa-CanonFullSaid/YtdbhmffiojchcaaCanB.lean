/- Lemmas on a block of cells, whole and cell by cell; the cells of a book. Conditions: numbers fit. -/
import Derived.Test.YtdbhmffiojchcaaCanA
import Derived.Laws.Rows
import Derived.Laws.Tables
import Derived.Laws.ResultCell
import Derived.Laws.CopyOwn
import Derived.RegionTactic
import Derived.ChangeAlike
import Derived.BigRegion
namespace Go.Proofs.Ytdbhmffiojchcaa
open Go.RowKit

/-- The block K of w holds the cells cs. -/
def Arr (w : World) (K : Nat) (t : TypeId) (cs : List Value) : Prop := w.heap[K]? = some (.cells cs.toArray t (0, 0))
theorem arr_cell {w : World} {K : Nat} {t : TypeId} {cs : List Value} (h : Arr w K t cs) (i : Nat) : w.cell? ⟨K, i, none⟩ = cs[i]? := by
  rw [cell_of_row w K i _ t (0, 0) h]; simp
theorem arr_frozen {w : World} {K : Nat} {t : TypeId} {cs : List Value} (h : Arr w K t cs) (i : Nat) : w.frozen? ⟨K, i, none⟩ = false := frozen_of_row w K i _ t h
theorem arr_set {w : World} {K : Nat} {t : TypeId} {cs : List Value} (h : Arr w K t cs) (i : Nat) (v : Value) : Arr (w.setCell ⟨K, i, none⟩ v) K t (cs.set i v) := by
  have := heap_setCell_same w K i _ t v h
  simpa [Arr] using this
theorem arr_other {w : World} {K K' i : Nat} {t : TypeId} {cs : List Value} {v : Value} (h : Arr w K t cs) (hne : K ≠ K') : Arr (w.setCell ⟨K', i, none⟩ v) K t cs := by
  unfold Arr
  rw [Below.heap_setCell _ _ _ _ (show K ≠ (⟨K', i, none⟩ : Addr).block from hne)]; exact h
theorem arr_below {w w' : World} {K B : Nat} {t : TypeId} {cs : List Value} (h : Arr w K t cs) (hb : Below B w w') (hK : K < B) : Arr w' K t cs := by
  unfold Arr; rw [hb.block K hK]; exact h
theorem arr_drew {w : World} {K : Nat} {t : TypeId} {cs : List Value} (h : Arr w K t cs) : Arr w.drew K t cs := h
theorem arr_lt {w : World} {K : Nat} {t : TypeId} {cs : List Value} (h : Arr w K t cs) : K < w.heap.size := by
  rcases Nat.lt_or_ge K w.heap.size with q | q
  · exact q
  · unfold Arr at h; rw [Array.getElem?_eq_none q] at h; cases h
theorem arr_new (w : World) (cs : List Value) (t : TypeId) : Arr (w.alloc (.cells cs.toArray t)) w.heap.size t cs := by
  unfold Arr; exact heap_alloc_new w _
theorem arr_old {w : World} {K : Nat} {t : TypeId} {cs : List Value} (h : Arr w K t cs) (o : Obj) : Arr (w.alloc o) K t cs := by
  unfold Arr; rw [Below.heap_alloc w o K (arr_lt h)]; exact h

section
variable {P : Program} {ops : Array Oper} {rest : List Oper} {o : Oper} {a : Act} {w : World} {Q : Exit → Act → World → Prop}
/-- A whole value into a block. -/
theorem wpList_store_arr (hgd : o.guard = none) (ty : TypeId) (x y : Operand) (ho : o.op = .store ty x y) (g : Nat) (cells old : List Value) (n : Nat) (hx : a.eval x = .pointer (some ⟨g, 0, none⟩)) (hy : a.eval y = .agg cells.toArray)
    (t : TypeId) (hg : Arr w g t old) (hi : (P.info? ty).map (·.size) = some n) (hold : old.length = n) (hnew : cells.length = n) (h1 : cells.all (·.oneCell') = true)
    (h : ∀ w2, Arr w2 g t cells → (∀ B, B ≤ g → Below B w w2) → w2.heap.size = w.heap.size → (∀ k, k ≠ g → w2.heap[k]? = w.heap[k]?) → wpList P ops Q rest (a.put o.dst undef) w2) : wpList P ops Q (o :: rest) a w := by
  refine wpList_store_row hgd ty x y ho g cells.toArray hx hy t old.toArray hg (by rw [hi]; simp [hnew]) (by simp [hold, hnew]) (by simpa using h1) ?_
  exact h _ (setRow_heap w g _ _ t _ hg) (fun B hB => below_setRow (Below.refl _ _) hB _) (by simp) (fun k hk => setRow_other w g k _ hk)
/-- A whole value out of a block. -/
theorem wpList_load_arr (hgd : o.guard = none) (ty : TypeId) (x : Operand) (ho : o.op = .load ty x) (g : Nat) (cells : List Value) (n : Nat) (hx : a.eval x = .pointer (some ⟨g, 0, none⟩))
    (t : TypeId) (hg : Arr w g t cells) (d : TypeDesc) (hu : P.underlying ty = some d) (hd : (match d with | .struct _ | .array _ _ => true | _ => false) = true) (hi : (P.info? ty).map (·.size) = some n) (hn : cells.length = n)
    (h : wpList P ops Q rest (a.put o.dst (.agg cells.toArray)) w) : wpList P ops Q (o :: rest) a w :=
  wpList_load_row hgd ty x ho g hx t cells.toArray (0, 0) d hg hu hd (by rw [hi]; simp [hn]) h
end
/-- Two results, the first one out of a block. -/
theorem results_arr {P : Program} {fn : Func} {p u : Tmp} {ty : TypeId} (h : fn.results = #[.cell p ty, .tmp u]) (tmps : Array Value) (w : World) (g : Nat) (cells : List Value) (n : Nat) (hp : tmps.getD p undef = .pointer (some ⟨g, 0, none⟩))
    (t : TypeId) (hg : Arr w g t cells) (d : TypeDesc) (hu : P.underlying ty = some d) (hd : (match d with | .struct _ | .array _ _ => true | _ => false) = true) (hi : (P.info? ty).map (·.size) = some n) (hn : cells.length = n) :
    (results fn tmps).run P w = .ok (.tuple #[.agg cells.toArray, tmps.getD u undef]) w := by
  rw [results_cell_tmp h, hp]
  simp [asAddr, Result.andThen, run_loadVar_row w g t ty cells.toArray (0, 0) d hg hu hd (by rw [hi]; simp [hn])]

/-- The cells of a book. -/
def bookOf (m f : Nat → Int) : List Value := (List.range 16).map (fun j => .int .i64 (m j)) ++ (List.range 16).map (fun j => .int .i64 (f j))
theorem bookOf_length (m f : Nat → Int) : (bookOf m f).length = 32 := by simp [bookOf]
theorem bookOf_one (m f : Nat → Int) : (bookOf m f).all (·.oneCell') = true := by
  simp [bookOf, Value.oneCell']
theorem bookOf_many (m f : Nat → Int) {j : Nat} (h : j < 16) : (bookOf m f)[j]? = some (.int .i64 (m j)) := by
  unfold bookOf
  rw [List.getElem?_append_left (by simp; omega)]
  simp [h]
theorem bookOf_first (m f : Nat → Int) {j : Nat} (h : j < 16) : (bookOf m f)[16 + j]? = some (.int .i64 (f j)) := by
  unfold bookOf
  rw [List.getElem?_append_right (by simp)]
  simp [h]
theorem bookOf_set_many (m f m' : Nat → Int) {j : Nat} (hj : j < 16) (v : Int) (h1 : m' j = v) (h2 : ∀ i, i ≠ j → m' i = m i) : (bookOf m f).set j (.int .i64 v) = bookOf m' f := by
  unfold bookOf
  rw [List.set_append_left _ _ (by simp; omega)]
  congr 1
  apply List.ext_getElem
  · simp
  · intro i hi1 hi2
    rw [List.getElem_set]
    by_cases e : j = i
    · subst e; simp [h1]
    · simp [e, h2 i (by omega)]
theorem bookOf_set_first (m f f' : Nat → Int) {j : Nat} (v : Int) (h1 : f' j = v) (h2 : ∀ i, i ≠ j → f' i = f i) : (bookOf m f).set (16 + j) (.int .i64 v) = bookOf m f' := by
  unfold bookOf
  rw [List.set_append_right _ _ (by simp)]
  congr 1
  simp only [List.length_map, List.length_range, Nat.add_sub_cancel_left]
  apply List.ext_getElem
  · simp
  · intro i hi1 hi2
    rw [List.getElem_set]
    by_cases e : j = i
    · subst e; simp [h1]
    · simp [e, h2 i (by omega)]
theorem bookOf_zero : bookOf (fun _ => 0) (fun _ => 0) = List.replicate 32 (.int .i64 0) := rfl
theorem bookOf_congr {m f m' f' : Nat → Int} (h : ∀ j, j < 16 → m j = m' j ∧ f j = f' j) : bookOf m f = bookOf m' f' := by
  unfold bookOf
  congr 1 <;> exact List.map_congr_left fun j hj => by first | rw [(h j (List.mem_range.1 hj)).1] | rw [(h j (List.mem_range.1 hj)).2]
theorem info_book : (Try.prog.info? 65).map (·.size) = some 32 := by kernel_rfl
theorem info_arr16 : (Try.prog.info? 63).map (·.size) = some 16 := by kernel_rfl

/-- The book of lengths: how many of each, from 1 on. -/
def manyB (l : List Int) (n : Nat) : Int := if n = 0 then 0 else cntL l n
def firstB (l : List Int) (N n : Nat) : Int := if n < N then firstC l n else 0
theorem manyB_snoc (l : List Int) (x : Int) (h : 0 ≤ x) (n : Nat) : manyB (l ++ [x]) n = manyB l n + if 0 < x ∧ x = n then 1 else 0 := by
  unfold manyB
  by_cases h0 : n = 0
  · subst h0
    simp; omega
  · rw [if_neg h0, if_neg h0, cntL_snoc]
    by_cases e : x = n
    · rw [if_pos e, if_pos (by omega)]; omega
    · rw [if_neg e, if_neg (by omega)]; omega
theorem manyB_bd (l : List Int) (n : Nat) : 0 ≤ manyB l n ∧ manyB l n ≤ l.length := by
  unfold manyB
  have := cntL_le l n
  split <;> omega
theorem firstC_step (l : List Int) (n : Nat) : firstC l (n + 1) = (firstC l n + manyB l n) * 2 := rfl
end Go.Proofs.Ytdbhmffiojchcaa
