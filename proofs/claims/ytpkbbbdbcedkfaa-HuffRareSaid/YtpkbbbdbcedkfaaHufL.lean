/- The contract of Lens. Conditions: numbers fit. -/
import Derived.Test.YtpkbbbdbcedkfaaHufG
import Derived.Test.YtpkbbbdbcedkfaaHufY
namespace Go.Proofs.Ytpkbbbdbcedkfaa
open Go.RowKit

theorem below_step' {w a b : World} (h : Below w.heap.size w a) (h2 : Below a.heap.size a b) : Below w.heap.size w b := h.trans (h2.mono h.size)
abbrev IntsV (w : World) (v : Value) (l : List Int) : Prop := SlOf w v 1 (fun x => [.int .i64 x]) l

set_option maxHeartbeats 400000 in
theorem clone_ints (v : Value) (bs : List Int) (w : World) (hv : IntsV w v bs) (hl : bs.length ≤ 1000000) (hp : 0 < bs.length) :
    Calls Try.prog 17 #[v] w fun e w' => ∃ v', e = .returned v' ∧ Lens w.heap.size w' v' bs ∧ Below w.heap.size w w' := by
  obtain ⟨i0, hi, hz0, hz1, hz2⟩ := info_parts info_int
  rcases sl_one hv with ⟨rfl, a0, c0, rfl, hn0⟩ | ⟨hp0, b0, o0, c0, rfl, hc0, hb0, cell0⟩
  · simp at hp
  · have hq := fun wx : World => Lib.run_eql_slice_nil (P := Try.prog) wx 22 3 (some ⟨b0, o0, none⟩) bs.length c0 0 0 Try.underlying22
    have hnews : ∀ (j : Nat) (u : Value), (bs.map (Value.int .i64))[j]? = some u → (w.alloc (.cells #[] 3)).cell? ((⟨b0, o0, none⟩ : Addr).add j) = some u := by
      intro j u hj
      rw [add_none, World.cell?_alloc_lt _ _ _ hb0]
      rw [List.getElem?_map] at hj
      cases hjb : bs[j]? with
      | none => rw [hjb] at hj; cases hj
      | some x =>
        rw [hjb] at hj
        obtain ⟨hlt, rfl⟩ := List.getElem?_eq_some_iff.1 hjb
        rw [cell0 j hlt]
        exact hj
    have Hnews := Lib.hid hnews
    clear hnews cell0 hv
    go_enter Try.func17, Try.ntmps17
    go_wp2_with (at_builtin; refine wpList_append_own _ rfl _ _ 22 rfl w.heap.size 3 i0 (.int .i64 0) 1 8 Try.underlying22 hi hz0 hz1 hz2 rfl (by decide) _ _ _ rfl (owns_none w 3 1) ⟨b0, o0, none⟩ bs.length c0 (bs.map (Value.int .i64)) rfl ?hl Hnews.out ?h1 ?h63 ?hby ?hbase ?_)
    case hl => simp
    case h1 => exact fun u hu => by obtain ⟨b, _, rfl⟩ := List.mem_map.1 hu; rfl
    case h63 => simp [maxLen]; omega
    case hby => omega
    case hbase => simp
    intro v' w' hown hgrow _
    go_wp2
    go_ret
    exact ⟨v', rfl, by unfold Lens; simpa using hown, ((Below.refl _ _).alloc (Nat.le_refl _) _).grown hgrow (by simp) (fun k hk => by simp only [Value.ownBlock, Option.some.injEq] at hk; omega)⟩

set_option maxHeartbeats 1000000 in
theorem max_any (v : Value) (l : List Int) (w : World) (hv : IntsV w v l) (hl : l.length ≤ 1000000) (hp : 0 < l.length) :
    Calls Try.prog 19 #[v] w fun e w' => ∃ m, e = .returned (.int .i64 m) ∧ Hid (m ∈ l ∧ ∀ x ∈ l, x ≤ m) ∧ w = w' := by
  rcases sl_one hv with ⟨rfl, _⟩ | ⟨_, b0, o0, c0, rfl, hc0, hb0, cell0⟩
  · simp at hp
  · have e00 := cell0 0 hp
    rw [Nat.add_zero] at e00
    have Hcell := Lib.hid cell0
    have g0 : (0 : Int) < (l.length : Int) := by omega
    have g1 : ¬ (l.length : Int) < 1 := by omega
    clear cell0 hv
    obtain ⟨x0, hx0⟩ : ∃ x0, l[0] = x0 := ⟨_, rfl⟩
    rw [hx0] at e00
    have Hx0 := Lib.hid hx0
    clear hx0
    go_enter Try.func19, Try.ntmps19
    go_wp2
    go_loop [3, 4] (fun m i => ∃ (k : Nat) (y : Int), 1 ≤ k ∧ k ≤ l.length ∧ i = .int .i64 k ∧ m = .int .i64 y ∧ y ∈ l ∧ ∀ x ∈ l.take k, x ≤ y) (fun _ i => l.length - (intOf i).toNat)
    case atStart =>
      refine ⟨1, x0, Nat.le_refl _, hp, rfl, rfl, by rw [← Hx0.out]; exact List.getElem_mem hp, fun x hx => ?_⟩
      rw [show l.take 1 = [l[0]] by rw [List.take_one, List.head?_eq_getElem?, List.getElem?_eq_getElem hp]; rfl] at hx
      rw [List.mem_singleton.1 hx, Hx0.out]; exact Int.le_refl _
    case round =>
      obtain ⟨k, y, hk1, hk, rfl, rfl, hy, hall⟩ := hrel
      have Hy := Lib.hid hy
      have Hall := Lib.hid hall
      clear hy hall
      by_cases hlt : k < l.length
      · have e0 := Hcell.out k hlt
        have HT := Lib.hid (List.take_succ_eq_append_getElem hlt)
        have Hmem := Lib.hid (List.getElem_mem hlt)
        have g2 : (k : Int) < (l.length : Int) := by omega
        have g3 : (0 : Int) ≤ (k : Int) := by omega
        generalize l[k] = x at *
        by_cases hxy : y < x
        · go_wp2
          refine ⟨⟨k + 1, x, by omega, by omega, by go_num, by first | rfl | (congr 1; omega), Hmem.out, fun z hz => ?_⟩, by simp [intOf]; omega⟩
          rw [HT.out, List.mem_append, List.mem_singleton] at hz
          rcases hz with hz | rfl
          · have := Hall.out z hz; omega
          · exact Int.le_refl _
        · go_wp2
          refine ⟨⟨k + 1, y, by omega, by omega, by go_num, by first | rfl | (congr 1; omega), Hy.out, fun z hz => ?_⟩, by simp [intOf]; omega⟩
          rw [HT.out, List.mem_append, List.mem_singleton] at hz
          rcases hz with hz | rfl
          · exact Hall.out z hz
          · omega
      · obtain rfl : k = l.length := by omega
        go_wp2
        go_ret
        exact ⟨y, rfl, ⟨Hy.out, fun x hx => Hall.out x (by rw [List.take_length]; exact hx)⟩, rfl⟩
end Go.Proofs.Ytpkbbbdbcedkfaa
