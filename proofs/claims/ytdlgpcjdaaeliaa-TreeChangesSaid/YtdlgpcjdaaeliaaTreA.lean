/- Trees: nodes in memory that read as trees; a parameter that is a node opened. No condition. -/
import Derived.Test.YtdlgpcjdaaeliaaSl2
namespace Go.Proofs.Ytdlgpcjdaaeliaa
open Go.ChangeShapes Go.WideShapes Go.ChangeAt Go.RowKit Go.Deep

/-- A tree: keys, values, kids. -/
inductive Tr where
  | nd (keys vals : List Int) (kids : List Tr)

abbrev intE : Int → List Value := fun x => [.int .i64 x]
abbrev N3 := Value × Value × Value
abbrev nodeE : N3 → List Value := fun n => [n.1, n.2.1, n.2.2]

/-- A node that reads as a tree. -/
inductive NodeV (w : World) : N3 → Tr → Prop where
  | mk {kv vv xv : Value} {ks vs : List Int} {kids : List Tr} (ns : List N3) (hk : SlOf w kv 1 intE ks) (hv : SlOf w vv 1 intE vs) (hx : SlOf w xv 3 nodeE ns)
      (lk : ks.length ≤ maxLen) (lv : vs.length ≤ maxLen) (lx : kids.length ≤ maxLen) (hl : ns.length = kids.length)
      (h : ∀ i (hi : i < ns.length) (hj : i < kids.length), NodeV w ns[i] kids[i]) : NodeV w (kv, vv, xv) (.nd ks vs kids)

theorem node_below {w w' : World} {n : N3} {t : Tr} (h : NodeV w n t) (hb : Below w.heap.size w w') : NodeV w' n t := by
  induction h with
  | mk ns hk hv hx lk lv lx hl _ ih => exact .mk ns (sl_below hk hb) (sl_below hv hb) (sl_below hx hb) lk lv lx hl ih

section
variable {H : Type} {enc : TypeId × Value → H} {P : Program} {W : World}

/-- A slice that lies in memory opened, its elements read with less fuel. -/
theorem sl_open_fuel {α : Type} {t e : TypeId} {cs : List Value} {y : DataW H × List MemPlace} {k fuel : Nat} (E : α → List Value) (Ok : α → Prop)
    (ht : P.underlying t = some (.slice e)) (hk : P.cellsOf e = k) (hk0 : 0 < k)
    (hE : ∀ n cs y, n < fuel → DataW.trod enc P W 0 (fun _ => true) true n e cs = some y → cs.length = k → ∃ x, cs = E x ∧ Ok x)
    (h : DataW.trod enc P W 0 (fun _ => true) true fuel t cs = some y) :
    ∃ (v : Value) (xs : List α), cs = [v] ∧ SlOf W v k E xs ∧ (∀ x ∈ xs, Ok x) ∧ xs.length ≤ maxLen := by
  rcases DataW.trod_slice ht h with ⟨hcs, hx⟩ | ⟨a, len, cap, elems, rest, n, hn, hcs, _, hb, hl, hm, hel, hget, _⟩
  · exact ⟨.slice none 0 0, [], hcs, ⟨none, 0, rfl, by simp, fun _ => rfl, Or.inl rfl⟩, by simp, by simp⟩
  · obtain ⟨xs, hlen, hxs⟩ := exists_list (α := α) len (fun i x => W.cells? 0 (a.add (i * P.cellsOf e)) (P.cellsOf e) = some (E x) ∧ (E x).length = k ∧ Ok x) (fun i hi => by
      have h1 := hget i hi
      rw [List.getElem?_eq_getElem (by omega)] at h1
      rw [Option.bind_eq_some_iff] at h1
      obtain ⟨cs', h2, h3⟩ := h1
      have hlk := (World.cells?_some h2).2.1
      obtain ⟨x, hx, hok⟩ := hE n _ _ (by omega) h3 (by rw [hlk, hk])
      exact ⟨x, by rw [h2, hx], by rw [← hx, hlk, hk], hok⟩)
    refine ⟨.slice (some a) len cap, xs, hcs, ⟨some a, cap, by rw [hlen], by omega, nofun, ?_⟩, fun x hx => ?_, by omega⟩
    · by_cases h0 : xs = []
      · exact Or.inl h0
      · right
        have hpos : 0 < xs.length := List.length_pos_iff.2 h0
        have cell : ∀ i (hi : i < xs.length), ∀ j, j < k → W.cell? ((a.add (i * k)).add j) = (E xs[i])[j]? := by
          intro i hi j hj
          have h1 := (World.cells?_some (hxs i hi).1).2.2 j (by omega)
          rw [hk] at h1
          exact h1
        have c0 := cell 0 hpos 0 hk0
        have e0 : (E xs[0]).length = k := (hxs 0 hpos).2.1
        rw [List.getElem?_eq_getElem (by omega)] at c0
        have hsp : a.spot = none := by
          have := World.cell?_spot c0
          rw [Nat.zero_mul] at this
          simpa [Addr.add] using this
        obtain ⟨b, off, sp⟩ := a
        simp only at hsp
        subst hsp
        refine ⟨b, off, rfl, ?_, fun i hi j hj => ?_⟩
        · have := World.block_lt_of_cell? W _ c0
          rw [add_none, add_none] at this
          exact this
        · have := cell i hi j hj
          rw [add_none, add_none] at this
          rw [← Nat.add_assoc]
          exact this
    · obtain ⟨i, hi, rfl⟩ := List.getElem_of_mem hx
      exact (hxs i hi).2.2

theorem enc_int {ti : TypeId} (hi : P.underlying ti = some (.int .i64)) (n : Nat) (cs : List Value) (y : DataW H × List MemPlace) (h : DataW.trod enc P W 0 (fun _ => true) true n ti cs = some y) : ∃ x, cs = intE x ∧ True := by
  obtain ⟨b, rfl, _⟩ := DataW.trod_int hi h
  exact ⟨b, rfl, trivial⟩

/-- A node opened: it reads as a tree. -/
theorem node_open {tn ts tk ti : TypeId} {f0 f1 f2 : Field} (hs : P.underlying tn = some (.struct #[f0, f1, f2])) (hc : P.cellsOf tn = 3) (ft0 : f0.type = tk) (ft1 : f1.type = tk) (ft2 : f2.type = ts) (fo0 : f0.offset = 0) (fo1 : f1.offset = 1) (fo2 : f2.offset = 2)
    (hk : P.underlying tk = some (.slice ti)) (hck : P.cellsOf tk = 1) (hci : P.cellsOf ti = 1) (hi : P.underlying ti = some (.int .i64)) (hsl : P.underlying ts = some (.slice tn)) (hcs : P.cellsOf ts = 1) :
    ∀ (fuel : Nat) (cs : List Value) (y : DataW H × List MemPlace), DataW.trod enc P W 0 (fun _ => true) true fuel tn cs = some y → cs.length = 3 → ∃ (n : N3), cs = nodeE n ∧ ∃ t, NodeV W n t := by
  intro fuel
  induction fuel using Nat.strongRecOn with
  | _ fuel ih =>
    intro cs y h hl
    obtain ⟨c0, c1, c2, rfl⟩ : ∃ c0 c1 c2, cs = [c0, c1, c2] := by
      match cs, hl with
      | [c0, c1, c2], _ => exact ⟨c0, c1, c2, rfl⟩
    obtain ⟨xs, n, hn, _, _, hxl, hf⟩ := DataW.trod_struct hs h
    match xs, hxl with
    | [y0, y1, y2], _ =>
      have h0 := hf 0 f0 rfl
      have h1 := hf 1 f1 rfl
      have h2 := hf 2 f2 rfl
      rw [ft0, fo0, hck] at h0
      rw [ft1, fo1, hck] at h1
      rw [ft2, fo2, hcs] at h2
      simp only [List.drop_zero, List.drop_succ_cons, List.take_succ_cons, List.take_zero, List.getElem?_cons_zero, List.getElem?_cons_succ] at h0 h1 h2
      obtain ⟨v0, ks, e0, s0, _, l0⟩ := sl_open_fuel intE (fun _ => True) hk hci (by decide) (fun n cs y _ h _ => enc_int hi n cs y h) h0
      obtain ⟨v1, vs, e1, s1, _, l1⟩ := sl_open_fuel intE (fun _ => True) hk hci (by decide) (fun n cs y _ h _ => enc_int hi n cs y h) h1
      obtain ⟨v2, ns, e2, s2, o2, l2⟩ := sl_open_fuel nodeE (fun m => ∃ t, NodeV W m t) hsl hc (by decide) (fun n' cs y hlt h hl => by
        obtain ⟨m, hm, ht⟩ := ih n' (by omega) cs y h hl
        exact ⟨m, hm, ht⟩) h2
      obtain rfl := List.singleton_inj.1 e0
      obtain rfl := List.singleton_inj.1 e1
      obtain rfl := List.singleton_inj.1 e2
      obtain ⟨kids, hkl, hkv⟩ := exists_list (α := Tr) ns.length (fun i t => ∀ hi : i < ns.length, NodeV W ns[i] t) (fun i hi => by
        obtain ⟨t, ht⟩ := o2 ns[i] (List.getElem_mem hi)
        exact ⟨t, fun _ => ht⟩)
      exact ⟨(c0, c1, c2), rfl, .nd ks vs kids, .mk ns s0 s1 s2 l0 l1 (by omega) hkl.symm fun i hi hj => hkv i hj hi⟩
end
end Go.Proofs.Ytdlgpcjdaaeliaa
