/- Contracts of the document's least, without. Conditions: numbers fit. -/
import Derived.Test.YtpkbbbdbcedkfaaHufN
import Derived.Test.YtpkbbbdbcedkfaaSl3
namespace Go.Proofs.Ytpkbbbdbcedkfaa
open Go.RowKit

/-- A tree of the document, as cells: its weight, its number, its symbols' slice. -/
abbrev TrE : Int × Nat × Value → List Value := fun t => [.int .i64 t.1, .int .i64 t.2.1, t.2.2]
def cells3 (l : List (Int × Nat × Value)) : List Value := l.flatMap TrE
theorem cells3_cons (c : Int × Nat × Value) (l : List (Int × Nat × Value)) : cells3 (c :: l) = .int .i64 c.1 :: .int .i64 c.2.1 :: c.2.2 :: cells3 l := rfl
theorem cells3_append (a b : List (Int × Nat × Value)) : cells3 (a ++ b) = cells3 a ++ cells3 b := by simp [cells3]
theorem cells3_length (l : List (Int × Nat × Value)) : (cells3 l).length = l.length * 3 := by
  induction l with
  | nil => rfl
  | cons t l ih => rw [cells3_cons]; simp only [List.length_cons, ih]; omega
theorem cells3_get (l : List (Int × Nat × Value)) : ∀ i (hi : i < l.length), (cells3 l)[i * 3]? = some (.int .i64 l[i].1) ∧ (cells3 l)[i * 3 + 1]? = some (.int .i64 l[i].2.1) ∧ (cells3 l)[i * 3 + 2]? = some l[i].2.2 := by
  induction l with
  | nil => intro i hi; simp at hi
  | cons t l ih =>
    intro i hi
    rw [cells3_cons]
    rcases i with _ | i
    · exact ⟨rfl, rfl, rfl⟩
    · have := ih i (by simpa using hi)
      rw [show (i + 1) * 3 = i * 3 + 1 + 1 + 1 by omega]
      simpa using this
theorem cells3_take (l : List (Int × Nat × Value)) : ∀ k, cells3 (l.take k) = (cells3 l).take (k * 3) := by
  induction l with
  | nil => intro k; simp [cells3]
  | cons t l ih =>
    intro k
    cases k with
    | zero => simp [cells3]
    | succ k => rw [List.take_succ_cons, cells3_cons, cells3_cons, show (k + 1) * 3 = k * 3 + 1 + 1 + 1 by omega, List.take_succ_cons, List.take_succ_cons, List.take_succ_cons, ih]
theorem cells3_drop (l : List (Int × Nat × Value)) : ∀ k, cells3 (l.drop k) = (cells3 l).drop (k * 3) := by
  induction l with
  | nil => intro k; simp [cells3]
  | cons t l ih =>
    intro k
    cases k with
    | zero => simp
    | succ k => rw [List.drop_succ_cons, cells3_cons, show (k + 1) * 3 = k * 3 + 1 + 1 + 1 by omega, List.drop_succ_cons, List.drop_succ_cons, List.drop_succ_cons, ih]
/-- A slice that reads as trees of the document. -/
abbrev TrsV (w : World) (v : Value) (l : List (Int × Nat × Value)) : Prop := SlOf w v 3 TrE l
theorem trs_cells {w : World} {v : Value} {l : List (Int × Nat × Value)} (hv : TrsV w v l) (hp : 0 < l.length) :
    ∃ b off cap, v = .slice (some ⟨b, off, none⟩) l.length cap ∧ l.length ≤ cap ∧ b < w.heap.size ∧ ∀ k (hk : k < l.length), w.cell? ⟨b, off + k * 3, none⟩ = some (.int .i64 l[k].1) ∧ w.cell? ⟨b, off + k * 3 + 1, none⟩ = some (.int .i64 l[k].2.1) ∧ w.cell? ⟨b, off + k * 3 + 2, none⟩ = some l[k].2.2 := by
  obtain ⟨a, cap, rfl, hl, hn, hc⟩ := hv
  rcases hc with rfl | ⟨b, off, rfl, hb, hcell⟩
  · exact absurd hp (by simp)
  · exact ⟨b, off, cap, rfl, hl, hb, fun k hk => ⟨by simpa using hcell k hk 0 (by omega), by simpa [Nat.add_assoc] using hcell k hk 1 (by omega), by simpa [Nat.add_assoc] using hcell k hk 2 (by omega)⟩⟩
def ltP (a b : Int × Nat × Value) : Bool := decide (a.1 < b.1 ∨ (a.1 = b.1 ∧ a.2.1 < b.2.1))

set_option maxRecDepth 100000 in
set_option maxHeartbeats 4000000 in
theorem least_any (v : Value) (l : List (Int × Nat × Value)) (w : World) (hv : TrsV w v l) (hp : 0 < l.length) (hl : l.length ≤ 1000000) :
    Calls Try.prog 25 #[v] w fun e w' => ∃ k : Nat, ∃ hk : k < l.length, e = .returned (.int .i64 k) ∧ Hid (∀ j (hj : j < l.length), ltP l[j] l[k] = false) ∧ Below w.heap.size w w' := by
  obtain ⟨b, off, cap, rfl, hlc, hbl, hcell⟩ := trs_cells hv hp
  have Hcell := Lib.hid hcell
  clear hcell hv
  go_enter Try.func25, Try.ntmps25
  go_wp2_with fail
  go_loopw [3, 4] (fun a i wr => ∃ k j : Nat, ∃ hk : k < l.length, a = .int .i64 k ∧ i = .int .i64 j ∧ 1 ≤ j ∧ j ≤ l.length ∧ (∀ x (hx : x < l.length), x < j → ltP l[x] l[k] = false) ∧ ∃ m, wr = w.drewN m) (fun _ i _ => l.length - (intOf i).toNat)
  case atStart => exact ⟨0, 1, hp, rfl, rfl, Nat.le_refl _, hp, fun x hx h => by obtain rfl : x = 0 := by omega
                                                                                 simp [ltP], 0, rfl⟩
  case round =>
    obtain ⟨k, j, hk, rfl, rfl, hj1, hj, hall, m, hm⟩ := hrel
    have Hall := Lib.hid hall
    clear hall
    by_cases hjl : j < l.length
    · obtain ⟨e0, e1, _⟩ := Hcell.out j hjl
      obtain ⟨f0, f1, _⟩ := Hcell.out k hk
      have E0 : wr.cell? ⟨b, off + j * 3, none⟩ = some (.int .i64 l[j].1) := by rw [hm]; exact e0
      have E1 : wr.cell? ⟨b, off + j * 3 + 1, none⟩ = some (.int .i64 l[j].2.1) := by rw [hm]; exact e1
      have F0 : wr.cell? ⟨b, off + k * 3, none⟩ = some (.int .i64 l[k].1) := by rw [hm]; exact f0
      have F1 : wr.cell? ⟨b, off + k * 3 + 1, none⟩ = some (.int .i64 l[k].2.1) := by rw [hm]; exact f1
      have Hm := Lib.hid hm
      have Hlt : Hid (ltP l[j] l[k] = decide (l[j].1 < l[k].1 ∨ (l[j].1 = l[k].1 ∧ l[j].2.1 < l[k].2.1))) := rfl
      have Htr : Hid (ltP l[j] l[k] = true → ∀ x (hx : x < l.length), x < j + 1 → ltP l[x] l[j] = false) := by
        intro h x hx hxj
        by_cases e : x = j
        · subst e; simp [ltP]
        · have h1 := Hall.out x hx (by omega)
          simp only [ltP, decide_eq_false_iff_not, decide_eq_true_eq] at h h1 ⊢
          omega
      have Hfa : Hid (ltP l[j] l[k] = false → ∀ x (hx : x < l.length), x < j + 1 → ltP l[x] l[k] = false) := by
        intro h x hx hxj
        by_cases e : x = j
        · subst e; exact h
        · exact Hall.out x hx (by omega)
      have g0 : (j : Int) < (l.length : Int) := by omega
      have g1 : (0 : Int) ≤ (j : Int) := by omega
      have g2 : (k : Int) < (l.length : Int) := by omega
      have g3 : (0 : Int) ≤ (k : Int) := by omega
      clear e0 e1 f0 f1 hm
      generalize l[j].1 = x1 at *
      generalize l[j].2.1 = x2 at *
      generalize l[k].1 = y1 at *
      generalize l[k].2.1 = y2 at *
      by_cases h1 : x1 < y1
      · have b1 : decide (x1 < y1) = true := by simpa using h1
        have HT : Hid (ltP l[j] l[k] = true) := by unfold Hid; rw [Hlt.out]; simp; omega
        go_wp2_with fail
        go_quiet (fail)
        go_wp2_with fail
        exact ⟨⟨j, j + 1, hjl, by go_num, by go_num, by omega, by omega, Htr.out HT.out, _, by rw [Hm.out]; simp only [World.drewN_drewN]; rfl⟩, by simp [intOf]; omega⟩
      · have b1 : decide (x1 < y1) = false := by simpa using h1
        by_cases h2 : x1 = y1
        · have b2 : (x1 == y1) = true := by simpa using h2
          by_cases h3 : x2 < y2
          · have b3 : decide ((x2 : Int) < (y2 : Int)) = true := by simp; omega
            have HT : Hid (ltP l[j] l[k] = true) := by unfold Hid; rw [Hlt.out]; simp; omega
            clear h2
            go_wp2_with fail
            go_quiet (fail)
            go_wp2_with fail
            exact ⟨⟨j, j + 1, hjl, by go_num, by go_num, by omega, by omega, Htr.out HT.out, _, by rw [Hm.out]; simp only [World.drewN_drewN]; rfl⟩, by simp [intOf]; omega⟩
          · have b3 : decide ((x2 : Int) < (y2 : Int)) = false := by simp; omega
            have HF : Hid (ltP l[j] l[k] = false) := by unfold Hid; rw [Hlt.out]; simp; omega
            clear h2
            go_wp2_with fail
            go_quiet (fail)
            go_wp2_with fail
            exact ⟨⟨k, j + 1, hk, by go_num, by go_num, by omega, by omega, Hfa.out HF.out, _, by rw [Hm.out]; simp only [World.drewN_drewN]; rfl⟩, by simp [intOf]; omega⟩
        · have b2 : (x1 == y1) = false := by simpa using h2
          have HF : Hid (ltP l[j] l[k] = false) := by unfold Hid; rw [Hlt.out]; simp; omega
          go_wp2_with fail
          go_quiet (fail)
          go_wp2_with fail
          exact ⟨⟨k, j + 1, hk, by go_num, by go_num, by omega, by omega, Hfa.out HF.out, _, by rw [Hm.out]; simp only [World.drewN_drewN]; rfl⟩, by simp [intOf]; omega⟩
    · obtain rfl : j = l.length := by omega
      have Hm := Lib.hid hm
      clear hm
      go_wp2_with fail
      go_ret
      exact ⟨k, hk, rfl, fun x hx => Hall.out x hx hx, by rw [Hm.out]; exact below_drewN5 (Below.refl _ _) m⟩
end Go.Proofs.Ytpkbbbdbcedkfaa
