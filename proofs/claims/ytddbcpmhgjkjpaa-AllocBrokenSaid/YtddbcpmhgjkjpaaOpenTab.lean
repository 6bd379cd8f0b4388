/- A parameter that is a slice of slices of slots opened: it reads as a list of tables. No condition. -/
import Derived.Test.YtddbcpmhgjkjpaaOpen
import Derived.Test.YtddbcpmhgjkjpaaAlcA
namespace Go.Proofs.Ytddbcpmhgjkjpaa
open Go.ChangeShapes Go.WideShapes Go.ChangeAt Go.RowKit Go.Deep

section
variable {H : Type} {enc : TypeId × Value → H} {P : Program} {W : World}

/-- A slice that lies in memory opened: its elements as a list. -/
theorem sl_open_in {α : Type} {t e : TypeId} {cs : List Value} {y : DataW H × List MemPlace} {k n : Nat} (E : α → List Value) (Ok : α → Prop)
    (ht : P.underlying t = some (.slice e)) (hk : P.cellsOf e = k) (hk0 : 0 < k)
    (hE : ∀ n cs y, DataW.trod enc P W 0 (fun _ => true) true n e cs = some y → cs.length = k → ∃ x, cs = E x ∧ Ok x)
    (h : DataW.trod enc P W 0 (fun _ => true) true n t cs = some y) :
    ∃ (v : Value) (xs : List α), cs = [v] ∧ SlOf W v k E xs ∧ xs.length ≤ maxLen := by
  rcases open_slice ht h with ⟨hcs, hx⟩ | ⟨a, len, cap, m, n, D, Pl, hcs, hb, hl, hm, hmm, hx, hel⟩
  · exact ⟨.slice none 0 0, [], hcs, ⟨none, 0, rfl, by simp, fun _ => rfl, Or.inl rfl⟩, by simp⟩
  · simp only [if_true] at hmm
    subst hmm
    obtain ⟨xs, hlen, hxs⟩ := exists_list (α := α) len (fun i x => W.cells? 0 (a.add (i * P.cellsOf e)) (P.cellsOf e) = some (E x) ∧ (E x).length = k ∧ Ok x) (fun i hi => by
      obtain ⟨cs', h1, h2⟩ := hel i (by omega)
      have hlk := (World.cells?_some h1).2.1
      obtain ⟨x, hx, hok⟩ := hE _ _ _ h2 (by rw [hlk, hk])
      exact ⟨x, by rw [h1, hx], by rw [← hx, hlk, hk], hok⟩)
    refine ⟨.slice (some a) len m, xs, hcs, ⟨some a, m, by rw [hlen], by omega, nofun, ?_⟩, by omega⟩
    by_cases h0 : xs = []
    · exact Or.inl h0
    · right
      have hpos : 0 < xs.length := List.length_pos_iff.2 h0
      have cell : ∀ i (hi : i < xs.length), ∀ j, j < k → W.cell? ((a.add (i * k)).add j) = (E xs[i])[j]? := by
        intro i hi j hj
        have h1 := (World.cells?_some (hxs i hi).1).2.2 j (by omega)
        rw [hk] at h1
        exact h1
      have c0 := cell 0 hpos 0 hk0
      have e0 : (E xs[0]).length = k := (hxs 0 hpos).2.1
      rw [List.getElem?_eq_getElem (by omega)] at c0
      have hsp : a.spot = none := by
        have := World.cell?_spot c0
        rw [Nat.zero_mul] at this
        simpa [Addr.add] using this
      obtain ⟨b, off, sp⟩ := a
      simp only at hsp
      subst hsp
      refine ⟨b, off, rfl, ?_, fun i hi j hj => ?_⟩
      · have := World.block_lt_of_cell? W _ c0
        rw [add_none, add_none] at this
        exact this
      · have := cell i hi j hj
        rw [add_none, add_none] at this
        rw [← Nat.add_assoc]
        exact this

/-- A parameter of tables opened. -/
theorem tab_open {b0 : Nat} {t e i : TypeId} {v : Value} {d : DataW H} {p : List MemPlace} {ts : List TypeId} {ds : List (DataW H)} {j : Nat} (Ok : Us → Prop)
    (ht : P.underlying t = some (.slice e)) (he : P.underlying e = some (.slice i)) (hk : P.cellsOf e = 1) (hki : P.cellsOf i = 4)
    (hE : ∀ n cs y, DataW.trod enc P W 0 (fun _ => true) true n i cs = some y → cs.length = 4 → ∃ x, cs = useE x ∧ Ok x)
    (hsz : (DataW.weightsEach P ts ds).all (· ≤ reachBytes) = true) (hts : ts[j]? = some t) (hds : ds[j]? = some d)
    (hv : Value.okWide P W .any b0 t v) (h : DataW.Trod enc P W 0 (fun _ => true) true t v d p) :
    ∃ ls : List (List Us), TabV W v ls ∧ (∀ l ∈ ls, l.length ≤ maxLen) ∧ ls.length * P.bytesOf e ≤ reachBytes := by
  obtain ⟨xs, h1, h2, h3⟩ := sl_open (α := Value × List Us) (fun q => [q.1]) (fun q => UseV W q.1 q.2 ∧ q.2.length ≤ maxLen) ht hk (by decide) (fun n cs y hy _ => by
    obtain ⟨v, l, hcs, hu, hl⟩ := sl_open_in useE Ok he hki (by decide) hE hy
    exact ⟨(v, l), hcs, hu, hl⟩) hsz hts hds hv h
  refine ⟨xs.map (·.2), ⟨xs.map (·.1), ?_, by simp, fun i hi hj => ?_⟩, fun l hl => ?_, by simpa using h3⟩
  · obtain ⟨a, cap, hv, hl, hn, hc⟩ := h1
    refine ⟨a, cap, by simpa using hv, by simpa using hl, hn, ?_⟩
    rcases hc with hc | ⟨b, off, ha, hb, hcell⟩
    · subst hc; exact Or.inl rfl
    · refine Or.inr ⟨b, off, ha, hb, fun i hi j hj => ?_⟩
      have := hcell i (by simpa using hi) j hj
      simpa using this
  · simp only [List.length_map] at hi
    simpa using (h2 xs[i] (List.getElem_mem hi)).1
  · obtain ⟨x, hx, rfl⟩ := List.mem_map.1 hl
    exact (h2 x hx).2
end
end Go.Proofs.Ytddbcpmhgjkjpaa
