/- Lemmas that open the arguments of a row: a slice of whatever flat elements reads as a list. No condition; no program. -/
import Derived.ProofKit
import Derived.OpenShut
import Derived.SizedLaws
import Derived.Deep.Slices
import Derived.Deep.Strs
import Derived.Lib.SmallJoins
import Derived.Below
namespace Go.Proofs.Ytdlgpcjdaaeliaa
open Go.ChangeShapes Go.WideShapes Go.ChangeAt Go.RowKit Go.Deep

theorem bd_i64 {n : Int} (h : (Lit.int .i64 n).wf = true) : -9223372036854775808 ≤ n ∧ n ≤ 9223372036854775807 := by
  simpa [Lit.wf, IntKind.min, IntKind.max, IntKind.bits, IntKind.signed] using h
theorem bd_u8 {n : Int} (h : (Lit.int .u8 n).wf = true) : 0 ≤ n ∧ n ≤ 255 := by
  simpa [Lit.wf, IntKind.min, IntKind.max, IntKind.bits, IntKind.signed] using h

/-- The slice value v reads in w as the list xs, each element k cells, written by E. -/
def SlOf {α : Type} (w : World) (v : Value) (k : Nat) (E : α → List Value) (xs : List α) : Prop :=
  ∃ a cap, v = .slice a xs.length cap ∧ xs.length ≤ cap ∧ (a = none → cap = 0) ∧
    (xs = [] ∨ ∃ b off, a = some ⟨b, off, none⟩ ∧ b < w.heap.size ∧ ∀ i (hi : i < xs.length), ∀ j, j < k → w.cell? ⟨b, off + (i * k + j), none⟩ = (E xs[i])[j]?)

theorem add_add (a : Addr) (i j : Nat) (h : a.spot = none) : (a.add i).add j = a.add (i + j) := by
  obtain ⟨b, o, s⟩ := a
  simp only at h
  subst h
  unfold Addr.add
  by_cases hi : i = 0 <;> by_cases hj : j = 0 <;> simp_all <;> omega

theorem add_none (b o i : Nat) : (⟨b, o, none⟩ : Addr).add i = ⟨b, o + i, none⟩ := by
  unfold Addr.add
  by_cases hi : i = 0 <;> simp_all

theorem exists_list {α : Type} (n : Nat) (p : Nat → α → Prop) (h : ∀ i, i < n → ∃ x, p i x) : ∃ xs : List α, xs.length = n ∧ ∀ i (hi : i < xs.length), p i xs[i] := by
  induction n with
  | zero => exact ⟨[], rfl, fun i hi => by simp at hi⟩
  | succ n ih =>
    obtain ⟨xs, hl, hx⟩ := ih fun i hi => h i (by omega)
    obtain ⟨x, hp⟩ := h n (by omega)
    refine ⟨xs ++ [x], by simp [hl], fun i hi => ?_⟩
    simp only [List.length_append, List.length_cons, List.length_nil] at hi
    by_cases hin : i < xs.length
    · rw [List.getElem_append_left hin]; exact hx i hin
    · obtain rfl : i = n := by omega
      rw [List.getElem_append_right (by omega)]
      simpa [hl] using hp

section
variable {H : Type} {enc : TypeId × Value → H} {P : Program} {W : World}

/-- A slice parameter opened: its elements as a list; its room within the reach. -/
theorem sl_open {α : Type} {b0 : Nat} {t e : TypeId} {v : Value} {d : DataW H} {p : List MemPlace} {ts : List TypeId} {ds : List (DataW H)} {j k : Nat} (E : α → List Value) (Ok : α → Prop)
    (ht : P.underlying t = some (.slice e)) (hk : P.cellsOf e = k) (hk0 : 0 < k)
    (hE : ∀ n cs y, DataW.trod enc P W 0 (fun _ => true) true n e cs = some y → cs.length = k → ∃ x, cs = E x ∧ Ok x)
    (hsz : (DataW.weightsEach P ts ds).all (· ≤ reachBytes) = true) (hts : ts[j]? = some t) (hds : ds[j]? = some d)
    (hv : Value.okWide P W .any b0 t v) (h : DataW.Trod enc P W 0 (fun _ => true) true t v d p) :
    ∃ xs : List α, SlOf W v k E xs ∧ (∀ x ∈ xs, Ok x) ∧ xs.length * P.bytesOf e ≤ reachBytes := by
  obtain ⟨a0, len0, cap0, rfl⟩ := okWide_slice ht hv
  obtain ⟨fuel, hf⟩ := h
  rcases open_slice ht hf with ⟨hcs, hx⟩ | ⟨a, len, cap, m, n, D, Pl, hcs, hb, hl, hm, hmm, hx, hel⟩
  · simp [Value.cells] at hcs
    obtain ⟨rfl, rfl, rfl⟩ := hcs
    exact ⟨[], ⟨none, 0, rfl, by simp, fun _ => rfl, Or.inl rfl⟩, by simp, by simp⟩
  · simp [Value.cells] at hcs
    obtain ⟨rfl, rfl, rfl⟩ := hcs
    simp only [if_true] at hmm
    subst hmm
    simp only [Prod.mk.injEq] at hx
    obtain ⟨rfl, _⟩ := hx
    have hr := sized_slice hsz hts hds ht
    simp only [List.length_map, List.length_range] at hr
    obtain ⟨xs, hlen, hxs⟩ := exists_list (α := α) len0 (fun i x => W.cells? 0 (a.add (i * P.cellsOf e)) (P.cellsOf e) = some (E x) ∧ (E x).length = k ∧ Ok x) (fun i hi => by
      obtain ⟨cs', h1, h2⟩ := hel i (by omega)
      have hlk := (World.cells?_some h1).2.1
      obtain ⟨x, hx, hok⟩ := hE _ _ _ h2 (by rw [hlk, hk])
      exact ⟨x, by rw [h1, hx], by rw [← hx, hlk, hk], hok⟩)
    refine ⟨xs, ⟨some a, m, by rw [hlen], by omega, nofun, ?_⟩, fun x hx => ?_, ?_⟩
    · by_cases h0 : xs = []
      · exact Or.inl h0
      · right
        have hpos : 0 < xs.length := List.length_pos_iff.2 h0
        have cell : ∀ i (hi : i < xs.length), ∀ j, j < k → W.cell? ((a.add (i * k)).add j) = (E xs[i])[j]? := by
          intro i hi j hj
          have h1 := (World.cells?_some (hxs i hi).1).2.2 j (by omega)
          rw [hk] at h1
          exact h1
        have c0 := cell 0 hpos 0 hk0
        have e0 : (E xs[0]).length = k := (hxs 0 hpos).2.1
        rw [List.getElem?_eq_getElem (by omega)] at c0
        have hsp : a.spot = none := by
          have := World.cell?_spot c0
          rw [Nat.zero_mul] at this
          simpa [Addr.add] using this
        obtain ⟨b, off, sp⟩ := a
        simp only at hsp
        subst hsp
        refine ⟨b, off, rfl, ?_, fun i hi j hj => ?_⟩
        · have := World.block_lt_of_cell? W _ c0
          rw [add_none, add_none] at this
          exact this
        · have := cell i hi j hj
          rw [add_none, add_none] at this
          rw [← Nat.add_assoc]
          exact this
    · obtain ⟨i, hi, rfl⟩ := List.getElem_of_mem hx
      exact (hxs i hi).2.2
    · have : xs.length ≤ len0 + (m - len0) := by omega
      exact Nat.le_trans (Nat.mul_le_mul_right _ this) hr
end
end Go.Proofs.Ytdlgpcjdaaeliaa
