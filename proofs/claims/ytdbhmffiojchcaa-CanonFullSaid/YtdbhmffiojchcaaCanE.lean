/- Rows of codes: two cells each. The contract of Codes of the program. Conditions: numbers fit. -/
import Derived.Test.YtdbhmffiojchcaaCanD
namespace Go.Proofs.Ytdbhmffiojchcaa
open Go.RowKit

abbrev codeE : Int × Int → List Value := fun c => [.int .i64 c.1, .int .i64 c.2]
def cellsC (l : List (Int × Int)) : List Value := l.flatMap codeE
theorem cellsC_cons (c : Int × Int) (l : List (Int × Int)) : cellsC (c :: l) = .int .i64 c.1 :: .int .i64 c.2 :: cellsC l := rfl
theorem cellsC_length (l : List (Int × Int)) : (cellsC l).length = l.length * 2 := by
  induction l with
  | nil => rfl
  | cons t l ih => rw [cellsC_cons]; simp only [List.length_cons, ih]; omega
theorem cellsC_get (l : List (Int × Int)) : ∀ i (hi : i < l.length), (cellsC l)[i * 2]? = some (.int .i64 l[i].1) ∧ (cellsC l)[i * 2 + 1]? = some (.int .i64 l[i].2) := by
  induction l with
  | nil => intro i hi; simp at hi
  | cons t l ih =>
    intro i hi
    rw [cellsC_cons]
    rcases i with _ | i
    · exact ⟨rfl, rfl⟩
    · have := ih i (by simpa using hi)
      rw [show (i + 1) * 2 = i * 2 + 1 + 1 by omega]
      simpa using this
theorem cellsC_set (l : List (Int × Int)) (c : Int × Int) : ∀ k, k < l.length → ((cellsC l).set (k * 2) (.int .i64 c.1)).set (k * 2 + 1) (.int .i64 c.2) = cellsC (l.set k c) := by
  induction l with
  | nil => intro k hk; simp at hk
  | cons t l ih =>
    intro k hk
    rcases k with _ | k
    · rfl
    · have := ih k (by simpa using hk)
      rw [show (k + 1) * 2 = k * 2 + 1 + 1 by omega, cellsC_cons, List.set_cons_succ, List.set_cons_succ, List.set_cons_succ, List.set_cons_succ, List.set_cons_succ, cellsC_cons, ← this]
theorem cellsC_append (a b : List (Int × Int)) : cellsC (a ++ b) = cellsC a ++ cellsC b := by simp [cellsC]
theorem cellsC_zero (n : Nat) : (madeCells #[Value.int .i64 0, Value.int .i64 0] (n * 2)).toList = cellsC (List.replicate n (0, 0)) := by
  apply List.ext_getElem?
  intro i
  have h1 : (madeCells #[Value.int .i64 0, Value.int .i64 0] (n * 2)).toList.length = n * 2 := by simp [madeCells]
  by_cases hi : i < n * 2
  · have h2 := cellsC_get (List.replicate n ((0 : Int), (0 : Int))) (i / 2) (by simp; omega)
    rw [List.getElem?_eq_getElem (by omega)]
    rcases Nat.mod_two_eq_zero_or_one i with h | h
    · rw [show i / 2 * 2 = i by omega] at h2
      rw [h2.1]
      simp [madeCells, h]
    · rw [show i / 2 * 2 + 1 = i by omega] at h2
      rw [h2.2]
      simp [madeCells, h]
  · rw [List.getElem?_eq_none (by omega), List.getElem?_eq_none (by rw [cellsC_length]; simp; omega)]
theorem info_code : (Try.prog.info? 53).map (fun i => (i.zero, i.size, i.bytes)) = some (some (.agg #[.int .i64 0, .int .i64 0]), 2, 16) := by kernel_rfl

/-- A row of the call's own reads as codes. -/
theorem codes_of_owns {w : World} {base e n : Nat} {v : Value} {l : List (Int × Int)} (h : w.ownsRow base e 2 v n (cellsC l)) : SlOf w v 2 codeE l ∧ n = l.length := by
  obtain ⟨hl, h⟩ := h
  rw [cellsC_length] at hl
  obtain rfl : n = l.length := by omega
  refine ⟨?_, rfl⟩
  rcases h with ⟨rfl, h0⟩ | ⟨g, cap, cur, rfl, hg, hc, hn, hm, hs, ht⟩
  · obtain rfl := List.length_eq_zero_iff.1 h0
    exact sl_nil fun _ => rfl
  · refine ⟨_, cap, rfl, hn, nofun, Or.inr ⟨g, 0, rfl, ?_, fun i hi j hj => ?_⟩⟩
    · rcases Nat.lt_or_ge g w.heap.size with h | h
      · exact h
      · rw [Array.getElem?_eq_none h] at hc; cases hc
    · have h1 : (cur.toList.take (l.length * 2))[i * 2 + j]? = (cellsC l)[i * 2 + j]? := by rw [ht]
      rw [List.getElem?_take_of_lt (by omega)] at h1
      have h2 : (cellsC l)[i * 2 + j]? = (codeE l[i])[j]? := by
        have := cellsC_get l i hi
        rcases j with _ | _ | j
        · exact this.1
        · exact this.2
        · omega
      rw [h2] at h1
      simp only [World.cell?, hc, Nat.zero_add]
      simpa using h1
/-- The two makes of such a slice. -/
theorem sl_codes {w : World} {v : Value} {l : List (Int × Int)} (h : SlOf w v 2 codeE l) :
    (l = [] ∧ ∃ a cap, v = .slice a 0 cap ∧ (a = none → cap = 0)) ∨
    (0 < l.length ∧ ∃ b off cap, v = .slice (some ⟨b, off, none⟩) l.length cap ∧ l.length ≤ cap ∧ b < w.heap.size ∧ ∀ i (hi : i < l.length), w.cell? ⟨b, off + i * 2, none⟩ = some (.int .i64 l[i].1) ∧ w.cell? ⟨b, off + i * 2 + 1, none⟩ = some (.int .i64 l[i].2)) := by
  obtain ⟨a, cap, hv, hl, hn, hc⟩ := h
  by_cases h0 : l = []
  · subst h0; exact Or.inl ⟨rfl, a, cap, hv, hn⟩
  · rcases hc with hc | ⟨b, off, ha, hb0, hcell⟩
    · exact absurd hc h0
    · subst ha
      exact Or.inr ⟨List.length_pos_iff.2 h0, b, off, cap, hv, hl, hb0, fun i hi => ⟨hcell i hi 0 (by omega), hcell i hi 1 (by omega)⟩⟩

/-- The codes of lengths. -/
def codeAt (l : List Int) (s : Nat) : Int × Int := if 0 < l[s]?.getD 0 then (l[s]?.getD 0, codeC l s) else (0, 0)
def codesL (l : List Int) : List (Int × Int) := (List.range l.length).map (codeAt l)
def codesR (l : List Int) : List (Int × Int) := if lensOk l = true then codesL l else []
theorem codesL_length (l : List Int) : (codesL l).length = l.length := by simp [codesL]
theorem codesL_get {l : List Int} {s : Nat} (hs : s < l.length) : (codesL l)[s]'(by rw [codesL_length]; exact hs) = codeAt l s := by simp [codesL]
/-- .. as far as the first k symbols. -/
def codesTo (l : List Int) (k : Nat) : List (Int × Int) := (List.range l.length).map fun s => if s < k then codeAt l s else (0, 0)
theorem codesTo_length (l : List Int) (k : Nat) : (codesTo l k).length = l.length := by simp [codesTo]
theorem codesTo_zero (l : List Int) : codesTo l 0 = List.replicate l.length (0, 0) := by
  apply List.ext_getElem
  · simp [codesTo]
  · intro i h1 h2; simp [codesTo]
theorem codesTo_all (l : List Int) : codesTo l l.length = codesL l := by
  apply List.ext_getElem
  · simp [codesTo, codesL]
  · intro i h1 h2
    have : i < l.length := by simpa [codesTo] using h1
    simp [codesTo, codesL, this]
theorem codesTo_succ {l : List Int} {k : Nat} (_hk : k < l.length) : (codesTo l k).set k (codeAt l k) = codesTo l (k + 1) := by
  apply List.ext_getElem
  · simp [codesTo]
  · intro i h1 h2
    rw [List.getElem_set]
    by_cases e : k = i
    · subst e; simp [codesTo]
    · have : i < k ↔ i < k + 1 := by omega
      simp [codesTo, e, this]
theorem codesTo_skip {l : List Int} {k : Nat} (hk : k < l.length) (h0 : l[k] = 0) : codesTo l k = codesTo l (k + 1) := by
  rw [← codesTo_succ hk]
  apply List.ext_getElem
  · simp [codesTo]
  · intro i h1 h2
    rw [List.getElem_set]
    by_cases e : k = i
    · subst e; simp [codesTo, codeAt, List.getElem?_eq_getElem hk, h0]
    · rw [if_neg e]

section
variable {P : Program} {ops : Array Oper} {rest : List Oper} {o : Oper} {a : Act} {w : World} {Q : Exit → Act → World → Prop}
theorem run_loadVar_sub (w : World) (g off : Nat) (t ty : TypeId) (cells sub : List Value) (d : TypeDesc) (hg : Arr w g t cells) (hsub : ∀ j u, sub[j]? = some u → cells[off + j]? = some u)
    (hu : P.underlying ty = some d) (hd : (match d with | .struct _ | .array _ _ => true | _ => false) = true) (hi : (P.info? ty).map (·.size) = some sub.length) :
    (loadVar ty ⟨g, off, none⟩).run P w = .ok (.agg sub.toArray) w := by
  have hl : (loadCells ⟨g, off, none⟩ sub.length).run P w = .ok sub.toArray w :=
    run_loadCells_list (P := P) w ⟨g, off, none⟩ sub (fun j v hv => by rw [add_none, arr_cell hg]; exact hsub j v hv)
  cases hq : P.info? ty with
  | none => simp [hq] at hi
  | some i =>
    have hs : i.size = sub.length := by simpa [hq] using hi
    have hagg : (isAgg ty).run P w = .ok true w := by
      unfold isAgg
      rw [Sem.run_bind, run_underlying hu w]
      cases d <;> simp_all
    simp [loadVar, Sem.run_bind, hagg, sizeOf, typeInfo, hq, hs, hl]
/-- A part of a block, whole. -/
theorem wpList_load_sub (hgd : o.guard = none) (ty : TypeId) (x : Operand) (ho : o.op = .load ty x) (g off : Nat) (cells sub : List Value) (hx : a.eval x = .pointer (some ⟨g, off, none⟩))
    (t : TypeId) (hg : Arr w g t cells) (hsub : ∀ j u, sub[j]? = some u → cells[off + j]? = some u) (d : TypeDesc) (hu : P.underlying ty = some d) (hd : (match d with | .struct _ | .array _ _ => true | _ => false) = true)
    (hi : (P.info? ty).map (·.size) = some sub.length) (h : wpList P ops Q rest (a.put o.dst (.agg sub.toArray)) w) : wpList P ops Q (o :: rest) a w :=
  wpList_plain hgd fun K hK => by
    unfold Oper.wp execOp
    simp only [ho, hx, Instr.loadAt, Instr.sureAddr, Sem.run_bind, Sem.run_pure, Result.andThen_ok, run_loadVar_sub w g off t ty cells sub d hg hsub hu hd hi]
    exact hK _ _ h
end

/-- The cells of the codes that come next. -/
def rowI (f : Nat → Int) : List Value := (List.range 16).map fun j => .int .i64 (f j)
theorem rowI_length (f : Nat → Int) : (rowI f).length = 16 := by simp [rowI]
theorem rowI_one (f : Nat → Int) : (rowI f).all (·.oneCell') = true := by simp [rowI, Value.oneCell']
theorem rowI_get (f : Nat → Int) {j : Nat} (h : j < 16) : (rowI f)[j]? = some (.int .i64 (f j)) := by simp [rowI, h]
theorem rowI_set (f f' : Nat → Int) {j : Nat} (v : Int) (h1 : f' j = v) (h2 : ∀ i, i ≠ j → f' i = f i) : (rowI f).set j (.int .i64 v) = rowI f' := by
  apply List.ext_getElem
  · simp [rowI]
  · intro i hi1 hi2
    rw [List.getElem_set]
    by_cases e : j = i
    · subst e; simp [rowI, h1]
    · simp [rowI, e, h2 i (by omega)]
theorem rowI_congr {f f' : Nat → Int} (h : ∀ j, j < 16 → f j = f' j) : rowI f = rowI f' := List.map_congr_left fun j hj => by rw [h j (List.mem_range.1 hj)]
theorem book_first_sub (l : List Int) : ∀ j u, (rowI (firstC l))[j]? = some u → (bookCells l)[16 + j]? = some u := by
  intro j u hj
  have hlt : j < 16 := by
    rcases Nat.lt_or_ge j 16 with h | h
    · exact h
    · rw [List.getElem?_eq_none (by rw [rowI_length]; exact h)] at hj; cases hj
  rw [rowI_get _ hlt] at hj
  unfold bookCells
  rw [bookOf_first _ _ hlt, ← hj]
  simp [firstB, hlt]
/-- The code that comes next, of each length, behind k symbols. -/
def nextB (l : List Int) (k n : Nat) : Int := if n = 0 then 0 else firstC l n + cntL (l.take k) n
theorem nextB_zero (l : List Int) : rowI (nextB l 0) = rowI (firstC l) := by
  refine rowI_congr fun j _ => ?_
  unfold nextB
  by_cases h : j = 0
  · subst h; rfl
  · rw [if_neg h]; simp [cntL]
theorem nextB_same {l : List Int} {k n : Nat} (hk : k < l.length) (h : l[k] = n) (hn : 0 < n) : nextB l (k + 1) n = nextB l k n + 1 ∧ ∀ i, i ≠ n → nextB l (k + 1) i = nextB l k i := by
  have hT := List.take_succ_eq_append_getElem hk
  refine ⟨?_, fun i hi => ?_⟩
  · unfold nextB
    rw [if_neg (by omega), if_neg (by omega), hT, cntL_snoc, if_pos h]; omega
  · unfold nextB
    by_cases h0 : i = 0
    · rw [if_pos h0, if_pos h0]
    · rw [if_neg h0, if_neg h0, hT, cntL_snoc, if_neg (by omega)]; simp
theorem nextB_skip {l : List Int} {k : Nat} (hk : k < l.length) (h : l[k] = 0) : rowI (nextB l (k + 1)) = rowI (nextB l k) := by
  refine rowI_congr fun i _ => ?_
  unfold nextB
  by_cases h0 : i = 0
  · rw [if_pos h0, if_pos h0]
  · rw [if_neg h0, if_neg h0, List.take_succ_eq_append_getElem hk, cntL_snoc, if_neg (by omega)]; simp
theorem nextB_code {l : List Int} {k n : Nat} (hk : k < l.length) (h : l[k] = n) (hn : 0 < n) : codeAt l k = ((n : Int), nextB l k n) := by
  have e : l[k]?.getD 0 = (n : Int) := by rw [List.getElem?_eq_getElem hk, Option.getD_some, h]
  unfold codeAt nextB codeC
  rw [e, if_pos (by omega), if_neg (by omega), Int.toNat_natCast]
theorem nextB_bd {l : List Int} (hok : lensOk l = true) {k n : Nat} (hn : n < 16) : 0 ≤ nextB l k n ∧ nextB l k n ≤ 65536 := by
  unfold nextB
  rcases n with _ | n
  · simp
  · rw [if_neg (by omega)]
    have h1 := first_cnt_le hok (n := n) (by omega)
    have h2 := cntL_take_le l k (n + 1)
    have h3 := p2_mono (m := n + 1) (n := 15) (by omega)
    have h4 := firstC_nonneg l (n + 1)
    rw [p2_15] at h3
    omega
end Go.Proofs.Ytdbhmffiojchcaa
