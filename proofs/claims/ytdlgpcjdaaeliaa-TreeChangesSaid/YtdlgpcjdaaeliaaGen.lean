/- Slices of elements of some cells each, whatever the element: rows of the call's own read as lists; append from such a slice. Conditions: numbers fit. -/
import Derived.Test.YtdlgpcjdaaeliaaSl2
import Derived.Test.YtdlgpcjdaaeliaaSl3
import Derived.Maps.AppendAt
import Derived.Deep.AppendLies
import Derived.Laws.AppendOwnNone
namespace Go.Proofs.Ytdlgpcjdaaeliaa
open Go.RowKit

/-- Each element k cells, all of one cell. -/
structure EncOk {α : Type} (E : α → List Value) (k : Nat) : Prop where
  pos : 0 < k
  len : ∀ x, (E x).length = k
  one : ∀ x, ∀ u ∈ E x, u.oneCell' = true

section
variable {α : Type} {E : α → List Value} {k : Nat}
abbrev cellsE (E : α → List Value) (l : List α) : List Value := l.flatMap E
theorem cellsE_cons (x : α) (l : List α) : cellsE E (x :: l) = E x ++ cellsE E l := List.flatMap_cons
theorem cellsE_length (h : EncOk E k) (l : List α) : (cellsE E l).length = l.length * k := by
  induction l with
  | nil => simp
  | cons x l ih => rw [cellsE_cons, List.length_append, ih, h.len, List.length_cons, Nat.succ_mul, Nat.add_comm]
theorem cellsE_get (h : EncOk E k) (l : List α) : ∀ i (hi : i < l.length) j, j < k → (cellsE E l)[i * k + j]? = (E l[i])[j]? := by
  induction l with
  | nil => intro i hi; simp at hi
  | cons x l ih =>
    intro i hi j hj
    rw [cellsE_cons]
    rcases i with _ | i
    · rw [Nat.zero_mul, Nat.zero_add, List.getElem?_append_left (by rw [h.len]; exact hj)]; rfl
    · rw [List.getElem?_append_right (by rw [h.len, Nat.succ_mul]; omega), h.len, show (i + 1) * k + j - k = i * k + j by rw [Nat.succ_mul]; omega]
      exact ih i (by simpa using hi) j hj
theorem cellsE_append (a b : List α) : cellsE E (a ++ b) = cellsE E a ++ cellsE E b := by simp
theorem cellsE_one (h : EncOk E k) (l : List α) : ∀ u ∈ cellsE E l, u.oneCell' = true := by
  intro u hu
  obtain ⟨x, _, hx⟩ := List.mem_flatMap.1 hu
  exact h.one x u hx

/-- A row of the call's own reads as a list. -/
theorem sl_of_ownsE (hE : EncOk E k) {w : World} {base e n : Nat} {v : Value} {l : List α} (h : w.ownsRow base e k v n (cellsE E l)) : SlOf w v k E l ∧ n = l.length := by
  obtain ⟨hl, h⟩ := h
  rw [cellsE_length hE] at hl
  obtain rfl : n = l.length := (Nat.eq_of_mul_eq_mul_right hE.pos hl).symm
  refine ⟨?_, rfl⟩
  rcases h with ⟨rfl, h0⟩ | ⟨g, cap, cur, rfl, hg, hc, hn, hm, hs, ht⟩
  · obtain rfl := List.length_eq_zero_iff.1 h0
    exact sl_nil fun _ => rfl
  · refine ⟨_, cap, rfl, hn, nofun, Or.inr ⟨g, 0, rfl, ?_, fun i hi j hj => ?_⟩⟩
    · rcases Nat.lt_or_ge g w.heap.size with h | h
      · exact h
      · rw [Array.getElem?_eq_none h] at hc; cases hc
    · have hlt : i * k + j < l.length * k := by
        have : (i + 1) * k ≤ l.length * k := Nat.mul_le_mul_right _ hi
        rw [Nat.succ_mul] at this
        omega
      have h1 : (cur.toList.take (l.length * k))[i * k + j]? = (cellsE E l)[i * k + j]? := by rw [ht]
      rw [List.getElem?_take_of_lt hlt, cellsE_get hE l i hi j hj] at h1
      simp only [World.cell?, hc, Nat.zero_add]
      simpa using h1

/-- The cells of a slice, one behind the other. -/
theorem sl_run (hE : EncOk E k) {w : World} {a : Option Addr} {n cap : Nat} {l : List α} (h : SlOf w (.slice a n cap) k E l) :
    l = [] ∨ ∃ b off, a = some ⟨b, off, none⟩ ∧ b < w.heap.size ∧ ∀ j u, (cellsE E l)[j]? = some u → w.cell? ⟨b, off + j, none⟩ = some u := by
  obtain ⟨a', cap', hv', hl, hn, hc⟩ := h
  injection hv' with h1 h2 h3
  subst h1
  rcases hc with rfl | ⟨b, off, rfl, hb, hcell⟩
  · exact Or.inl rfl
  · refine Or.inr ⟨b, off, rfl, hb, fun j u hj => ?_⟩
    have hlen : j < l.length * k := by
      rcases Nat.lt_or_ge j (cellsE E l).length with h | h
      · rw [cellsE_length hE] at h; exact h
      · rw [List.getElem?_eq_none h] at hj; cases hj
    have hdiv : j / k < l.length := Nat.div_lt_of_lt_mul (by rw [Nat.mul_comm]; exact hlen)
    have hmod : j % k < k := Nat.mod_lt _ hE.pos
    have hjj : j / k * k + j % k = j := by rw [Nat.mul_comm]; exact Nat.div_add_mod j k
    have hg := cellsE_get hE l (j / k) hdiv (j % k) hmod
    rw [hjj, hj] at hg
    have := hcell (j / k) hdiv (j % k) hmod
    rw [hjj] at this
    rw [this, ← hg]

/-- A part of a slice. -/
theorem sl_part {w : World} {b off n cap : Nat} {l : List α} (h : SlOf w (.slice (some ⟨b, off, none⟩) n cap) k E l) (i m c : Nat) (him : i + m ≤ l.length) (hmc : m ≤ c) :
    SlOf w (.slice (some ⟨b, off + i * k, none⟩) m c) k E ((l.drop i).take m) := by
  obtain ⟨a', cap', hv', hl, hn, hc⟩ := h
  injection hv' with h1 h2 h3
  have hlen : ((l.drop i).take m).length = m := by rw [List.length_take, List.length_drop]; omega
  refine ⟨some ⟨b, off + i * k, none⟩, c, by rw [hlen], by rw [hlen]; exact hmc, nofun, ?_⟩
  rcases hc with rfl | ⟨b', off', hab, hb, hcell⟩
  · left; simp
  · rw [← h1] at hab
    injection hab with hab
    injection hab with q1 q2 q3
    subst q1 q2
    refine Or.inr ⟨b, off + i * k, rfl, hb, fun x hx j hj => ?_⟩
    rw [hlen] at hx
    rw [List.getElem_take, List.getElem_drop]
    have := hcell (i + x) (by omega) j hj
    rw [Nat.add_mul] at this
    rw [show off + i * k + (x * k + j) = off + (i * k + x * k + j) by omega]
    exact this

theorem cells_newE (w : World) (cs : List Value) (t : TypeId) : ∀ j u, cs[j]? = some u → (w.alloc (.cells cs.toArray t)).cell? ((⟨w.heap.size, 0, none⟩ : Addr).add j) = some u := by
  intro j u hj
  rw [add_none, Nat.zero_add, World.cell?_alloc_new]
  simpa using hj

variable {P : Program} {w : World} {ops : Array Oper} {rest : List Oper} {o : Oper} {a : Act} {Q : Exit → Act → World → Prop}
theorem wpList_append_slE (hE : EncOk E k) {ys : List α} (hgd : o.guard = none) (s x : Operand) (t : TypeId)
    (ho : o.op = .call { callee := .builtin .append, args := #[s, x], argTypes := #[t, t] })
    (base : Nat) (e : TypeId) (i : TypeInfo) (z : Value) (bytes : Nat) (ht : P.underlying t = some (.slice e)) (hi : P.info? e = some i) (hz : i.zero = some z)
    (hsize : i.size = k) (hby : i.bytes = bytes) (hzs : z.cells.size = k)
    (v : Value) (n : Nat) (xs : List Value) (hs : a.eval s = v) (hown : w.ownsRow base e k v n xs)
    (u : Value) (hx : a.eval x = u) (hsrc : SlOf w u k E ys)
    (h63 : n + ys.length ≤ maxLen) (hbytes : (n + ys.length) * bytes ≤ 140737488355328) (hbase : base ≤ w.heap.size)
    (h : ∀ v' w', w'.ownsRow base e k v' (n + ys.length) (xs ++ cellsE E ys) → w.grownBy w' v.ownBlock → (v'.ownBlock = v.ownBlock ∨ v'.ownBlock = some w.heap.size) → wpList P ops Q rest (a.put o.dst v') w') : wpList P ops Q (o :: rest) a w := by
  obtain ⟨ad, cap, rfl, hlc, hn, hcc⟩ := id hsrc
  rcases sl_run hE hsrc with rfl | ⟨b, off, rfl, hb, hcell⟩
  · cases ad with
    | none =>
      obtain rfl := hn rfl
      exact wpList_append_own_none hgd s x t ho base e i k ht hi v n xs hs hown hx (h v w (by simpa using hown) (grown_refl _ _) (Or.inl rfl))
    | some ad =>
      exact wpList_append_own_at _ hgd s x t ho base e i z k bytes ht hi hz hsize hby hzs hE.pos v n xs hs hown ad 0 cap [] hx (by simp) (fun j u hj => by simp at hj) (fun u hu => by simp at hu) h63 hbytes hbase
        (fun v' w' g1 g2 _ g4 => h v' w' (by simpa using g1) g2 g4)
  · exact wpList_append_own_at _ hgd s x t ho base e i z k bytes ht hi hz hsize hby hzs hE.pos v n xs hs hown ⟨b, off, none⟩ ys.length cap (cellsE E ys) hx (by rw [cellsE_length hE])
      (fun j u hj => by rw [add_none]; exact hcell j u hj) (cellsE_one hE ys) h63 hbytes hbase
      (fun v' w' g1 g2 _ g4 => h v' w' g1 g2 g4)
end

/-- Two numbers, one behind the other. -/
abbrev pairE : Int × Int → List Value := fun p => [.int .i64 p.1, .int .i64 p.2]
theorem pairE_ok : EncOk pairE 2 := ⟨by decide, fun _ => rfl, fun x u hu => by
  simp only [List.mem_cons, List.not_mem_nil, or_false] at hu
  rcases hu with rfl | rfl <;> rfl⟩
abbrev Prs (w : World) (v : Value) (l : List (Int × Int)) : Prop := SlOf w v 2 pairE l
theorem prs_at {w : World} {a : Option Addr} {n cap : Nat} {l : List (Int × Int)} (hv : Prs w (.slice a n cap) l) {k : Nat} (hk : k < l.length) :
    ∃ b off, a = some ⟨b, off, none⟩ ∧ b < w.heap.size ∧ w.cell? ⟨b, off + k * 2, none⟩ = some (.int .i64 l[k].1) ∧ w.cell? ⟨b, off + k * 2 + 1, none⟩ = some (.int .i64 l[k].2) := by
  obtain ⟨a', cap', hv', hl, hn, hc⟩ := hv
  injection hv' with h1 h2 h3
  subst h1
  rcases hc with rfl | ⟨b, off, rfl, hb, hcell⟩
  · simp at hk
  · exact ⟨b, off, rfl, hb, by simpa using hcell k hk 0 (by omega), by simpa [Nat.add_assoc] using hcell k hk 1 (by omega)⟩
end Go.Proofs.Ytdlgpcjdaaeliaa
