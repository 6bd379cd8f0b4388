/- Rows in memory whose elements are some cells each: copied, appended where there is room, cleared. No condition; no program. -/
import Derived.Test.YtdlgpcjdaaeliaaSl
import Derived.Laws.CopyRow
import Derived.Laws.CopyOwn
import Derived.Lib.AppendZerosOnto
import Derived.Shelf.Spec.SlicesInsert
namespace Go.Proofs.Ytdlgpcjdaaeliaa
open Go.RowKit Go.Lib

/-- Cells laid over others, from some place on. -/
def putL (cur : List Value) (o : Nat) (cs : List Value) : List Value := cur.take o ++ cs ++ cur.drop (o + cs.length)
theorem putL_length {cur cs : List Value} {o : Nat} (h : o + cs.length ≤ cur.length) : (putL cur o cs).length = cur.length := by
  unfold putL; simp only [List.length_append, List.length_take, List.length_drop]; omega
theorem putL_take_lo {cur cs : List Value} {o m : Nat} (h : o ≤ cur.length) (hm : m ≤ o) : (putL cur o cs).take m = cur.take m := by
  unfold putL
  rw [List.append_assoc, List.take_append_of_le_length (by rw [List.length_take]; omega), List.take_take, Nat.min_eq_left hm]
theorem putL_take_hi {cur cs : List Value} {o : Nat} (h : o ≤ cur.length) : (putL cur o cs).take (o + cs.length) = cur.take o ++ cs := by
  unfold putL
  rw [List.take_left']
  rw [List.length_append, List.length_take]; omega
theorem putL_drop {cur cs : List Value} {o : Nat} (h : o ≤ cur.length) : (putL cur o cs).drop (o + cs.length) = cur.drop (o + cs.length) := by
  unfold putL
  rw [List.drop_left']
  rw [List.length_append, List.length_take]; omega

section
variable {P : Program} (w : World)

theorem run_copy_rowk (dT sT ty elem : TypeId) (k g o dLen dCap : Nat) (a : Addr) (sLen sCap n : Nat) (cur : List Value) (t : TypeId) (cs : List Value)
    (hu : P.underlying dT = some (.slice elem)) (hs : (P.info? elem).map (·.size) = some k)
    (hg : w.heap[g]? = some (.cells cur.toArray t (0, 0))) (hn : Nat.min sLen dLen = n) (hl : cs.length = n * k)
    (hsrc : ∀ j v, cs[j]? = some v → w.cell? (a.add j) = some v) (hfit : o + cs.length ≤ cur.length) (h1 : ∀ v ∈ cs, v.oneCell' = true) :
    (Builtin.copy_ #[dT, sT] ty #[.slice (some ⟨g, o, none⟩) dLen dCap, .slice (some a) sLen sCap]).run P w = .ok (goInt n) (w.setRow g (putL cur o cs).toArray) := by
  have hlc := run_loadCells_list (P := P) w a cs hsrc
  rw [hl] at hlc
  have hst := run_storeCells_at P g o t cs 0 cur.toArray w hg (by simpa using hfit) h1
  cases hq : P.info? elem with
  | none => simp [hq] at hs
  | some i =>
    have hi : i.size = k := by simpa [hq] using hs
    simp [Builtin.copy_, run_underlying hu, Builtin.lenOf, Builtin.firstCells, sizeOf, typeInfo, hq, hi, hn, hlc, hst, putL]

theorem run_append_rowk (t ty e : TypeId) (i : TypeInfo) (k : Nat) (ht : P.underlying t = some (.slice e)) (hi : P.info? e = some i) (hk : i.size = k)
    (g n cap : Nat) (cur : List Value) (tt : TypeId) (hg : w.heap[g]? = some (.cells cur.toArray tt (0, 0))) (ad : Addr) (m c : Nat) (news : List Value) (hn : news.length = m * k)
    (hsrc : ∀ j u, news[j]? = some u → w.cell? (ad.add j) = some u) (h1 : ∀ u ∈ news, u.oneCell' = true) (hroom : n + m ≤ cap) (hfit : n * k + news.length ≤ cur.length) :
    (Builtin.append_ #[t, t] ty #[.slice (some ⟨g, 0, none⟩) n cap, .slice (some ad) m c]).run P w = .ok (.slice (some ⟨g, 0, none⟩) (n + m) cap) (w.setRow g (putL cur (n * k) news).toArray) := by
  subst hk
  have hf := run_firstCells_some (P := P) w i.size m ad m c news hn hsrc
  have hst := run_storeCells_at P g (n * i.size) tt news 0 cur.toArray w hg (by simpa using hfit) h1
  have ha : (⟨g, 0, none⟩ : Addr).add (n * i.size) = ⟨g, n * i.size, none⟩ := by rw [add_none, Nat.zero_add]
  simp [Builtin.append_, run_underlying ht, sizeOf, typeInfo, hi, Builtin.lenOf, hroom, hf, ha, hst, putL]

theorem run_clear_row1 (t e ty : TypeId) (z : Value) (zs : List Value) (ht : P.underlying t = some (.slice e)) (hv : ∀ w, (zeroValue e).run P w = .ok z w) (hz : (Builtin.zeroCells z.cells 1).toList = zs) (h1 : ∀ u ∈ zs, u.oneCell' = true)
    (g o c : Nat) (cur : List Value) (tt : TypeId) (hg : w.heap[g]? = some (.cells cur.toArray tt (0, 0))) (hfit : o + zs.length ≤ cur.length) :
    (Builtin.clear_ #[t] ty #[.slice (some ⟨g, o, none⟩) 1 c]).run P w = .ok (.tuple #[]) (w.setRow g (putL cur o zs).toArray) := by
  have hst := run_storeCells_at P g o tt zs 0 cur.toArray w hg (by simpa using hfit) h1
  simp [Builtin.clear_, run_underlying ht, hv, hz, hst, putL]
end

section
variable {P : Program} {ops : Array Oper} {rest : List Oper} {o : Oper} {a : Act} {w : World} {Q : Exit → Act → World → Prop}
theorem wpList_clear_run (hgd : o.guard = none) (x : Operand) (t : TypeId)
    (ho : o.op = .call { callee := .builtin .clear, args := #[x], argTypes := #[t] }) (v : Value) (hx : a.eval x = v) {v' : Value} {w' : World}
    (hr : (Builtin.clear_ #[t] o.type #[v]).run P w = .ok v' w') (h : wpList P ops Q rest (a.put o.dst v') w') : wpList P ops Q (o :: rest) a w :=
  wpList_plain hgd fun K hK => by
    unfold Oper.wp execOp
    simp only [ho, resolve, invoke, builtin, Sem.run_bind, Sem.run_pure, Result.andThen_ok, List.map_toArray, List.map_cons, List.map_nil, hx, hr]
    exact hK _ _ h
theorem step_append_run {K : Act → World → Prop} {E : Prop} (hg : o.guard = none) (s x : Operand) (t tn : TypeId)
    (hop : o.op = .call { callee := .builtin .append, args := #[s, x], argTypes := #[t, tn] }) (v u : Value) (hd : a.eval s = v) (hx : a.eval x = u) {v' : Value} {w' : World}
    (hr : (Builtin.append_ #[t, tn] o.type #[v, u]).run P w = .ok v' w') (hK : K (a.put o.dst v') w') :
    if Region.wanted o (yielded ops a.tmps) = true then Oper.wp P o a w K Q else E := by
  have hw : Region.wanted o (yielded ops a.tmps) = true := by simp [Region.wanted, hg]
  rw [if_pos hw]
  unfold Oper.wp
  simp [execOp, hop, resolve, invoke, builtin, hd, hx, hr, Result.andThen]
  exact hK
end

/-- A row, by its whole block. -/
theorem owns_row {w : World} {base e n size cap g : Nat} {cs : List Value} (h : w.ownsRow base e size (.slice (some ⟨g, 0, none⟩) n cap) n cs) :
    ∃ cur : List Value, base ≤ g ∧ w.heap[g]? = some (.cells cur.toArray e (0, 0)) ∧ n ≤ cap ∧ cap ≤ maxLen ∧ cur.length = cap * size ∧ cur.take (n * size) = cs := by
  obtain ⟨hl, h⟩ := h
  rcases h with ⟨h, _⟩ | ⟨g', cap', cur, hv, h1, h2, h3, h4, h5, h6⟩
  · cases h
  · injection hv with q1 q2 q3
    injection q1 with q1
    injection q1 with q1
    subst q1 q3
    exact ⟨cur.toList, h1, by simpa using h2, h3, h4, by simpa using h5, h6⟩
theorem owns_of_row {w : World} {base e n size cap g : Nat} {cs cur : List Value} (h1 : base ≤ g) (h2 : w.heap[g]? = some (.cells cur.toArray e (0, 0))) (h3 : n ≤ cap) (h4 : cap ≤ maxLen) (h5 : cur.length = cap * size) (h6 : cur.take (n * size) = cs) :
    w.ownsRow base e size (.slice (some ⟨g, 0, none⟩) n cap) n cs := by
  refine ⟨?_, Or.inr ⟨g, cap, cur.toArray, rfl, h1, h2, h3, h4, by simpa using h5, by simpa using h6⟩⟩
  rw [← h6, List.length_take, h5]
  exact Nat.min_eq_left (Nat.mul_le_mul_right _ h3)
theorem below_row {B g : Nat} {w w' : World} (h : Below B w w') (hg : B ≤ g) (cs : Array Value) : Below B w (w'.setRow g cs) := below_setRow h hg cs
theorem cell_row_other {w : World} {g b o : Nat} {cs : Array Value} (hne : g ≠ b) : (w.setRow g cs).cell? ⟨b, o, none⟩ = w.cell? ⟨b, o, none⟩ := by
  unfold World.setRow World.cell?
  simp only
  rw [Array.getElem?_modify]
  simp [hne]
theorem cell_row_same {w : World} {g o : Nat} {cur : List Value} {e : TypeId} (hg : w.heap[g]? = some (.cells cur.toArray e (0, 0))) : w.cell? ⟨g, o, none⟩ = cur[o]? := by
  unfold World.cell?
  simp [hg]
end Go.Proofs.Ytdlgpcjdaaeliaa
