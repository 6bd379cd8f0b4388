/- Contracts of the document's least, without. Conditions: numbers fit. The contract of the document's without. Conditions: numbers fit. The state of the document's once: its lengths, its trees. No program walked. The contract of the document's once: whether and what trees are put together. Conditions: numbers fit. Contracts of the document's Once and Deep. Conditions: numbers fit. A drawn region whose first operations must come one by one, and whose later ones only read: the first ones are walked as they come, the later ones once, in the order of the text. No condition. -/
import Derived.Deep.AppendLies
import Derived.Deep.CutRange
import Derived.Deep.QuietTactic
import Derived.BigQuiet
import Derived.WalkKit
import Derived.Lib.Hide
import Derived.Test.YtolappilfjhfaaaWe
import Derived.Test.YtolappilfjhfaaaWs
import Derived.Test.YtolappilfjhfaaaW0
namespace Go.Proofs.Ytolappilfjhfaaa
open Go.RowKit

/-- A tree of the document, as cells: its weight, its number, its symbols' slice. -/
abbrev TrE : Int × Nat × Value → List Value := fun t => [.int .i64 t.1, .int .i64 t.2.1, t.2.2]
def cells3 (l : List (Int × Nat × Value)) : List Value := l.flatMap TrE
theorem cells3_cons (c : Int × Nat × Value) (l : List (Int × Nat × Value)) : cells3 (c :: l) = .int .i64 c.1 :: .int .i64 c.2.1 :: c.2.2 :: cells3 l := rfl
theorem cells3_append (a b : List (Int × Nat × Value)) : cells3 (a ++ b) = cells3 a ++ cells3 b := by simp [cells3]
theorem cells3_length (l : List (Int × Nat × Value)) : (cells3 l).length = l.length * 3 := by
  induction l with
  | nil => rfl
  | cons t l ih => rw [cells3_cons]; simp only [List.length_cons, ih]; omega
theorem cells3_get (l : List (Int × Nat × Value)) : ∀ i (hi : i < l.length), (cells3 l)[i * 3]? = some (.int .i64 l[i].1) ∧ (cells3 l)[i * 3 + 1]? = some (.int .i64 l[i].2.1) ∧ (cells3 l)[i * 3 + 2]? = some l[i].2.2 := by
  induction l with
  | nil => intro i hi; simp at hi
  | cons t l ih =>
    intro i hi
    rw [cells3_cons]
    rcases i with _ | i
    · exact ⟨rfl, rfl, rfl⟩
    · have := ih i (by simpa using hi)
      rw [show (i + 1) * 3 = i * 3 + 1 + 1 + 1 by omega]
      simpa using this
theorem cells3_take (l : List (Int × Nat × Value)) : ∀ k, cells3 (l.take k) = (cells3 l).take (k * 3) := by
  induction l with
  | nil => intro k; simp [cells3]
  | cons t l ih =>
    intro k
    cases k with
    | zero => simp [cells3]
    | succ k => rw [List.take_succ_cons, cells3_cons, cells3_cons, show (k + 1) * 3 = k * 3 + 1 + 1 + 1 by omega, List.take_succ_cons, List.take_succ_cons, List.take_succ_cons, ih]
theorem cells3_drop (l : List (Int × Nat × Value)) : ∀ k, cells3 (l.drop k) = (cells3 l).drop (k * 3) := by
  induction l with
  | nil => intro k; simp [cells3]
  | cons t l ih =>
    intro k
    cases k with
    | zero => simp
    | succ k => rw [List.drop_succ_cons, cells3_cons, show (k + 1) * 3 = k * 3 + 1 + 1 + 1 by omega, List.drop_succ_cons, List.drop_succ_cons, List.drop_succ_cons, ih]
/-- A slice that reads as trees of the document. -/
abbrev TrsV (w : World) (v : Value) (l : List (Int × Nat × Value)) : Prop := SlOf w v 3 TrE l
theorem trs_cells {w : World} {v : Value} {l : List (Int × Nat × Value)} (hv : TrsV w v l) (hp : 0 < l.length) :
    ∃ b off cap, v = .slice (some ⟨b, off, none⟩) l.length cap ∧ l.length ≤ cap ∧ b < w.heap.size ∧ ∀ k (hk : k < l.length), w.cell? ⟨b, off + k * 3, none⟩ = some (.int .i64 l[k].1) ∧ w.cell? ⟨b, off + k * 3 + 1, none⟩ = some (.int .i64 l[k].2.1) ∧ w.cell? ⟨b, off + k * 3 + 2, none⟩ = some l[k].2.2 := by
  obtain ⟨a, cap, rfl, hl, hn, hc⟩ := hv
  rcases hc with rfl | ⟨b, off, rfl, hb, hcell⟩
  · exact absurd hp (by simp)
  · exact ⟨b, off, cap, rfl, hl, hb, fun k hk => ⟨by simpa using hcell k hk 0 (by omega), by simpa [Nat.add_assoc] using hcell k hk 1 (by omega), by simpa [Nat.add_assoc] using hcell k hk 2 (by omega)⟩⟩
def ltP (a b : Int × Nat × Value) : Bool := decide (a.1 < b.1 ∨ (a.1 = b.1 ∧ a.2.1 < b.2.1))

set_option maxRecDepth 100000 in
set_option maxHeartbeats 4000000 in
theorem least_any (v : Value) (l : List (Int × Nat × Value)) (w : World) (hv : TrsV w v l) (hp : 0 < l.length) (hl : l.length ≤ 1000000) :
    Calls Try.prog 76 #[v] w fun e w' => ∃ k : Nat, ∃ hk : k < l.length, e = .returned (.int .i64 k) ∧ Hid (∀ j (hj : j < l.length), ltP l[j] l[k] = false) ∧ Below w.heap.size w w' := by
  obtain ⟨b, off, cap, rfl, hlc, hbl, hcell⟩ := trs_cells hv hp
  have Hcell := Lib.hid hcell
  clear hcell hv
  go_enter Try.func76, Try.ntmps76
  go_wp2_with fail
  go_loopw [3, 4] (fun a i wr => ∃ k j : Nat, ∃ hk : k < l.length, a = .int .i64 k ∧ i = .int .i64 j ∧ 1 ≤ j ∧ j ≤ l.length ∧ (∀ x (hx : x < l.length), x < j → ltP l[x] l[k] = false) ∧ ∃ m, wr = w.drewN m) (fun _ i _ => l.length - (intOf i).toNat)
  case atStart => exact ⟨0, 1, hp, rfl, rfl, Nat.le_refl _, hp, fun x hx h => by obtain rfl : x = 0 := by omega
                                                                                 simp [ltP], 0, rfl⟩
  case round =>
    obtain ⟨k, j, hk, rfl, rfl, hj1, hj, hall, m, hm⟩ := hrel
    have Hall := Lib.hid hall
    clear hall
    by_cases hjl : j < l.length
    · obtain ⟨e0, e1, _⟩ := Hcell.out j hjl
      obtain ⟨f0, f1, _⟩ := Hcell.out k hk
      have E0 : wr.cell? ⟨b, off + j * 3, none⟩ = some (.int .i64 l[j].1) := by rw [hm]; exact e0
      have E1 : wr.cell? ⟨b, off + j * 3 + 1, none⟩ = some (.int .i64 l[j].2.1) := by rw [hm]; exact e1
      have F0 : wr.cell? ⟨b, off + k * 3, none⟩ = some (.int .i64 l[k].1) := by rw [hm]; exact f0
      have F1 : wr.cell? ⟨b, off + k * 3 + 1, none⟩ = some (.int .i64 l[k].2.1) := by rw [hm]; exact f1
      have Hm := Lib.hid hm
      have Hlt : Hid (ltP l[j] l[k] = decide (l[j].1 < l[k].1 ∨ (l[j].1 = l[k].1 ∧ l[j].2.1 < l[k].2.1))) := rfl
      have Htr : Hid (ltP l[j] l[k] = true → ∀ x (hx : x < l.length), x < j + 1 → ltP l[x] l[j] = false) := by
        intro h x hx hxj
        by_cases e : x = j
        · subst e; simp [ltP]
        · have h1 := Hall.out x hx (by omega)
          simp only [ltP, decide_eq_false_iff_not, decide_eq_true_eq] at h h1 ⊢
          omega
      have Hfa : Hid (ltP l[j] l[k] = false → ∀ x (hx : x < l.length), x < j + 1 → ltP l[x] l[k] = false) := by
        intro h x hx hxj
        by_cases e : x = j
        · subst e; exact h
        · exact Hall.out x hx (by omega)
      have g0 : (j : Int) < (l.length : Int) := by omega
      have g1 : (0 : Int) ≤ (j : Int) := by omega
      have g2 : (k : Int) < (l.length : Int) := by omega
      have g3 : (0 : Int) ≤ (k : Int) := by omega
      clear e0 e1 f0 f1 hm
      generalize l[j].1 = x1 at *
      generalize l[j].2.1 = x2 at *
      generalize l[k].1 = y1 at *
      generalize l[k].2.1 = y2 at *
      by_cases h1 : x1 < y1
      · have b1 : decide (x1 < y1) = true := by simpa using h1
        have HT : Hid (ltP l[j] l[k] = true) := by unfold Hid; rw [Hlt.out]; simp; omega
        go_wp2_with fail
        go_quiet (fail)
        go_wp2_with fail
        exact ⟨⟨j, j + 1, hjl, by go_num, by go_num, by omega, by omega, Htr.out HT.out, _, by rw [Hm.out]; simp only [World.drewN_drewN]; rfl⟩, by simp [intOf]; omega⟩
      · have b1 : decide (x1 < y1) = false := by simpa using h1
        by_cases h2 : x1 = y1
        · have b2 : (x1 == y1) = true := by simpa using h2
          by_cases h3 : x2 < y2
          · have b3 : decide ((x2 : Int) < (y2 : Int)) = true := by simp; omega
            have HT : Hid (ltP l[j] l[k] = true) := by unfold Hid; rw [Hlt.out]; simp; omega
            clear h2
            go_wp2_with fail
            go_quiet (fail)
            go_wp2_with fail
            exact ⟨⟨j, j + 1, hjl, by go_num, by go_num, by omega, by omega, Htr.out HT.out, _, by rw [Hm.out]; simp only [World.drewN_drewN]; rfl⟩, by simp [intOf]; omega⟩
          · have b3 : decide ((x2 : Int) < (y2 : Int)) = false := by simp; omega
            have HF : Hid (ltP l[j] l[k] = false) := by unfold Hid; rw [Hlt.out]; simp; omega
            clear h2
            go_wp2_with fail
            go_quiet (fail)
            go_wp2_with fail
            exact ⟨⟨k, j + 1, hk, by go_num, by go_num, by omega, by omega, Hfa.out HF.out, _, by rw [Hm.out]; simp only [World.drewN_drewN]; rfl⟩, by simp [intOf]; omega⟩
        · have b2 : (x1 == y1) = false := by simpa using h2
          have HF : Hid (ltP l[j] l[k] = false) := by unfold Hid; rw [Hlt.out]; simp; omega
          go_wp2_with fail
          go_quiet (fail)
          go_wp2_with fail
          exact ⟨⟨k, j + 1, hk, by go_num, by go_num, by omega, by omega, Hfa.out HF.out, _, by rw [Hm.out]; simp only [World.drewN_drewN]; rfl⟩, by simp [intOf]; omega⟩
    · obtain rfl : j = l.length := by omega
      have Hm := Lib.hid hm
      clear hm
      go_wp2_with fail
      go_ret
      exact ⟨k, hk, rfl, fun x hx => Hall.out x hx hx, by rw [Hm.out]; exact below_drewN5 (Below.refl _ _) m⟩
end Go.Proofs.Ytolappilfjhfaaa
namespace Go.Proofs.Ytolappilfjhfaaa
open Go.RowKit

theorem info_tr : (Try.prog.info? 106).map (fun i => (i.zero, i.size, i.bytes)) = some (some (.agg #[.int .i64 0, .int .i64 0, .slice none 0 0]), 3, 40) := by kernel_rfl
theorem tr_one {l : List (Int × Nat × Value)} (h : ∀ t ∈ l, t.2.2.oneCell' = true) : ∀ u ∈ cells3 l, u.oneCell' = true := by
  intro u hu
  obtain ⟨t, ht, hu⟩ := List.mem_flatMap.1 hu
  simp only [TrE, List.mem_cons, List.not_mem_nil, or_false] at hu
  rcases hu with rfl | rfl | rfl
  · rfl
  · rfl
  · exact h t ht
/-- A row of the call's own reads as trees of the document. -/
theorem trs_of_owns {w : World} {base e n : Nat} {v : Value} {l : List (Int × Nat × Value)} (h : w.ownsRow base e 3 v n (cells3 l)) : TrsV w v l ∧ n = l.length := by
  obtain ⟨hl, h⟩ := h
  rw [cells3_length] at hl
  obtain rfl : n = l.length := by omega
  refine ⟨?_, rfl⟩
  rcases h with ⟨rfl, h0⟩ | ⟨g, cap, cur, rfl, hg, hc, hn, hm, hs, ht⟩
  · obtain rfl := List.length_eq_zero_iff.1 h0
    exact sl_nil fun _ => rfl
  · refine ⟨_, cap, rfl, hn, nofun, Or.inr ⟨g, 0, rfl, ?_, fun i hi j hj => ?_⟩⟩
    · rcases Nat.lt_or_ge g w.heap.size with h | h
      · exact h
      · rw [Array.getElem?_eq_none h] at hc; cases hc
    · have h1 : (cur.toList.take (l.length * 3))[i * 3 + j]? = (cells3 l)[i * 3 + j]? := by rw [ht]
      rw [List.getElem?_take_of_lt (by omega)] at h1
      have h2 : (cells3 l)[i * 3 + j]? = (TrE l[i])[j]? := by
        have := cells3_get l i hi
        rcases j with _ | _ | _ | j
        · exact this.1
        · exact this.2.1
        · exact this.2.2
        · omega
      rw [h2] at h1
      simp only [World.cell?, hc, Nat.zero_add]
      simpa using h1
/-- The cells of a part, from some place on. -/
theorem trs_part {w : World} {b off : Nat} {l : List (Int × Nat × Value)} (hc : ∀ k (hk : k < l.length), w.cell? ⟨b, off + k * 3, none⟩ = some (.int .i64 l[k].1) ∧ w.cell? ⟨b, off + k * 3 + 1, none⟩ = some (.int .i64 l[k].2.1) ∧ w.cell? ⟨b, off + k * 3 + 2, none⟩ = some l[k].2.2) (i n : Nat) :
    ∀ j u, (cells3 ((l.drop i).take n))[j]? = some u → w.cell? ((⟨b, off + i * 3, none⟩ : Addr).add j) = some u := by
  intro j u hj
  rw [add_none]
  have hlen : j < (cells3 ((l.drop i).take n)).length := by
    rcases Nat.lt_or_ge j (cells3 ((l.drop i).take n)).length with h | h
    · exact h
    · rw [List.getElem?_eq_none h] at hj; cases hj
  rw [cells3_length] at hlen
  have hk : j / 3 < ((l.drop i).take n).length := by omega
  have hkl : i + j / 3 < l.length := by
    rw [List.length_take, List.length_drop] at hk; omega
  have hg := cells3_get ((l.drop i).take n) (j / 3) hk
  have he : ((l.drop i).take n)[j / 3] = l[i + j / 3] := by rw [List.getElem_take, List.getElem_drop]
  rw [he] at hg
  have hcell := hc (i + j / 3) hkl
  have h3 : j % 3 = 0 ∨ j % 3 = 1 ∨ j % 3 = 2 := by omega
  rcases h3 with h | h | h
  · rw [show j = j / 3 * 3 by omega] at hj
    rw [hg.1] at hj
    rw [show off + i * 3 + j = off + (i + j / 3) * 3 by omega, hcell.1]; exact hj
  · rw [show j = j / 3 * 3 + 1 by omega] at hj
    rw [hg.2.1] at hj
    rw [show off + i * 3 + j = off + (i + j / 3) * 3 + 1 by omega, hcell.2.1]; exact hj
  · rw [show j = j / 3 * 3 + 2 by omega] at hj
    rw [hg.2.2] at hj
    rw [show off + i * 3 + j = off + (i + j / 3) * 3 + 2 by omega, hcell.2.2]; exact hj

set_option maxRecDepth 100000 in
set_option maxHeartbeats 4000000 in
theorem without_any (v : Value) (l : List (Int × Nat × Value)) (k : Nat) (w : World) (hv : TrsV w v l) (hk : k < l.length) (hl : l.length ≤ 1000000) (h1 : ∀ t ∈ l, t.2.2.oneCell' = true) :
    Calls Try.prog 77 #[v, .int .i64 k] w fun e w' => ∃ v', e = .returned v' ∧ w'.ownsRow w.heap.size 106 3 v' (l.eraseIdx k).length (cells3 (l.eraseIdx k)) ∧ Below w.heap.size w w' := by
  obtain ⟨i0, hi, hz0, hz1, hz2⟩ := info_parts info_tr
  obtain ⟨b, off, cap, rfl, hlc, hbl, hcell⟩ := trs_cells hv (by omega)
  have Hcell := Lib.hid hcell
  have hp1 := trs_part hcell 0 k
  rw [List.drop_zero, Nat.zero_mul, Nat.add_zero] at hp1
  have hp1' : ∀ j u, (cells3 (l.take k))[j]? = some u → (w.alloc (.cells #[] 106)).cell? ((⟨b, off, none⟩ : Addr).add j) = some u := fun j u hj => by
    have := hp1 j u hj
    rw [add_none] at this ⊢
    rw [World.cell?_alloc_lt _ _ _ hbl]; exact this
  have Hp1 := Lib.hid hp1'
  have HE := Lib.hid (owns_none w 106 3)
  have Ho1 := Lib.hid (tr_one (l := l.take k) fun t ht => h1 t (List.mem_of_mem_take ht))
  have Ho2 := Lib.hid (tr_one (l := l.drop (k + 1)) fun t ht => h1 t (List.mem_of_mem_drop ht))
  have hlt : (l.take k).length = k := by rw [List.length_take]; omega
  have Hl1 : Hid ((cells3 (l.take k)).length = k * 3) := by unfold Hid; rw [cells3_length, hlt]
  have Hl2 : Hid ((cells3 (l.drop (k + 1))).length = (l.length - (k + 1)) * 3) := by unfold Hid; rw [cells3_length, List.length_drop]
  have Her : Hid (cells3 (l.eraseIdx k) = cells3 (l.take k) ++ cells3 (l.drop (k + 1)) ∧ (l.eraseIdx k).length = k + (l.length - (k + 1))) := by
    unfold Hid
    rw [List.eraseIdx_eq_take_drop_succ, cells3_append, List.length_append, hlt, List.length_drop]; exact ⟨rfl, rfl⟩
  have hp2 := trs_part hcell (k + 1) (l.length - (k + 1))
  rw [List.take_of_length_le (by rw [List.length_drop]; exact Nat.le_refl _)] at hp2
  have Hp2 := Lib.hid hp2
  have g0 : (k : Int) ≤ (cap : Int) := by omega
  have g1 : (k : Int) + 1 ≤ (l.length : Int) := by omega
  have g2 : (0 : Int) ≤ (k : Int) + 1 := by omega
  have t1 : ((k : Int) + 1).toNat = k + 1 := by omega
  clear hcell hp1 hp1' hp2 hv hlt h1
  by_cases hcap : cap = k + 1
  · subst hcap
    have hlk : l.length = k + 1 := by omega
    have HD : Hid (cells3 (l.drop (k + 1)) = []) := by unfold Hid; rw [List.drop_of_length_le (by omega)]; rfl
    go_enter Try.func77, Try.ntmps77
    go_wp2_with (first
    | (at_builtin; refine wpList_append_own _ rfl _ _ 104 rfl w.heap.size 106 i0 _ 3 40 Try.underlying104 hi hz0 hz1 hz2 rfl (by decide) _ _ _ rfl HE.out ⟨b, off, none⟩ k _ (cells3 (l.take k)) rfl Hl1.out Hp1.out Ho1.out (by simp [maxLen]; omega) (by omega) (by simp) ?_
       intro v1 w1 hown1 hg1 _
       have hb1 : Below w.heap.size w w1 := ((Below.refl _ _).alloc (Nat.le_refl _) _).grown hg1 (by simp) (fun k hk => owns_block HE.out k hk)
       rw [List.nil_append, Nat.zero_add] at hown1
       obtain ⟨a1, c1, rfl, _⟩ := owns_shape hown1
       have Hown1 := Lib.hid hown1
       have Hb1 := Lib.hid hb1
       clear hown1 hb1 hg1)
    | (at_builtin; refine wpList_append_own _ rfl _ _ 104 rfl w.heap.size 106 i0 _ 3 40 Try.underlying104 hi hz0 hz1 hz2 rfl (by decide) (.slice a1 k c1) _ _ rfl Hown1.out ⟨b, off, none⟩ 0 0 ([]) rfl (by simp) (fun j u hj => by simp at hj) (fun u hu => by simp at hu) (by simp [maxLen]; omega) (by omega) Hb1.out.size ?_
       intro v2 w2 hown2 hg2 _
       have hb2 : Below w.heap.size w w2 := Hb1.out.grown hg2 Hb1.out.size (fun k hk => owns_block Hown1.out k hk)
       have Hown2 := Lib.hid hown2
       have Hb2 := Lib.hid hb2
       clear hown2 hb2 hg2)
    | fail)
    go_ret
    exact ⟨_, rfl, by rw [Her.out.1, Her.out.2, HD.out, hlk, Nat.sub_self]; exact Hown2.out, Hb2.out⟩
  · go_enter Try.func77, Try.ntmps77
    have Hp2' : Hid (∀ w1, Below w.heap.size w w1 → ∀ j u, (cells3 (l.drop (k + 1)))[j]? = some u → w1.cell? ((⟨b, off + (k + 1) * 3, none⟩ : Addr).add j) = some u) := fun w1 h j u hj => by
      have := Hp2.out j u hj
      rw [add_none] at this ⊢
      rw [h.cell (p := ⟨b, off + (k + 1) * 3 + j, none⟩) hbl]; exact this
    go_wp2_with (first
    | (at_builtin; refine wpList_append_own _ rfl _ _ 104 rfl w.heap.size 106 i0 _ 3 40 Try.underlying104 hi hz0 hz1 hz2 rfl (by decide) _ _ _ rfl HE.out ⟨b, off, none⟩ k _ (cells3 (l.take k)) rfl Hl1.out Hp1.out Ho1.out (by simp [maxLen]; omega) (by omega) (by simp) ?_
       intro v1 w1 hown1 hg1 _
       have hb1 : Below w.heap.size w w1 := ((Below.refl _ _).alloc (Nat.le_refl _) _).grown hg1 (by simp) (fun k hk => owns_block HE.out k hk)
       rw [List.nil_append, Nat.zero_add] at hown1
       obtain ⟨a1, c1, rfl, _⟩ := owns_shape hown1
       have Hown1 := Lib.hid hown1
       have Hb1 := Lib.hid hb1
       clear hown1 hb1 hg1)
    | (at_builtin; refine wpList_append_own _ rfl _ _ 104 rfl w.heap.size 106 i0 _ 3 40 Try.underlying104 hi hz0 hz1 hz2 rfl (by decide) (.slice a1 k c1) _ _ rfl Hown1.out ⟨b, off + (k + 1) * 3, none⟩ (l.length - (k + 1)) (cap - (k + 1)) (cells3 (l.drop (k + 1))) rfl Hl2.out (Hp2'.out _ Hb1.out) Ho2.out (by simp [maxLen]; omega) (by omega) Hb1.out.size ?_
       intro v2 w2 hown2 hg2 _
       have hb2 : Below w.heap.size w w2 := Hb1.out.grown hg2 Hb1.out.size (fun k hk => owns_block Hown1.out k hk)
       have Hown2 := Lib.hid hown2
       have Hb2 := Lib.hid hb2
       clear hown2 hb2 hg2)
    | fail)
    go_ret
    exact ⟨_, rfl, by rw [Her.out.1, Her.out.2]; exact Hown2.out, Hb2.out⟩
end Go.Proofs.Ytolappilfjhfaaa
namespace Go.Proofs.Ytolappilfjhfaaa
open Go.RowKit

theorem perm_eraseIdx {α : Type} (l : List α) : ∀ k (hk : k < l.length), l.Perm (l[k] :: l.eraseIdx k) := by
  induction l with
  | nil => intro k hk; simp at hk
  | cons a l ih =>
    intro k hk
    cases k with
    | zero => exact List.Perm.refl _
    | succ k =>
      have := ih k (by simpa using hk)
      exact (this.cons a).trans (.swap ..)
theorem map_eraseIdx' {α β : Type} (f : α → β) (l : List α) : ∀ k, (l.eraseIdx k).map f = (l.map f).eraseIdx k := by
  induction l with
  | nil => intro k; rfl
  | cons a l ih =>
    intro k
    cases k with
    | zero => rfl
    | succ k => rw [List.eraseIdx_cons_succ, List.map_cons, List.map_cons, List.eraseIdx_cons_succ, ih]
theorem length_eraseIdx' {α : Type} (l : List α) (k : Nat) (hk : k < l.length) : (l.eraseIdx k).length + 1 = l.length := by
  have := (perm_eraseIdx l k hk).length_eq
  simpa using this.symm
theorem dep_bd (t : HT) (s : Nat) : 0 ≤ dep t s ∧ dep t s < (syms t).length := by
  induction t with
  | leaf w n => exact ⟨Int.le_refl _, by show (0 : Int) < _; simp [syms]⟩
  | node l r ihl ihr =>
    rw [dep, syms, List.length_append]
    split
    · omega
    · split
      · omega
      · omega
theorem depF_bd (F : List HT) (s : Nat) : 0 ≤ depF F s ∧ depF F s ≤ (F.flatMap syms).length := by
  induction F with
  | nil => exact ⟨Int.le_refl _, Int.le_refl _⟩
  | cons t F ih =>
    have := dep_bd t s
    rw [depF_cons, List.flatMap_cons, List.length_append]
    omega
theorem incTo_next {L : List Int} {ss : List Nat} (hnd : ss.Nodup) {j : Nat} (hj : j < ss.length) (hs : ss[j] < L.length) :
    (incTo L (ss.take j))[ss[j]]? = some L[ss[j]] ∧ (incTo L (ss.take j)).set ss[j] (L[ss[j]] + 1) = incTo L (ss.take (j + 1)) := by
  have hnd' : (ss.take j).Nodup := hnd.sublist (List.take_sublist _ _)
  have hni : ss[j] ∉ ss.take j := fun h => by
    have h2 := List.take_append_drop j ss
    have h3 : (ss.take j ++ ss.drop j).Nodup := by rw [h2]; exact hnd
    exact (List.nodup_append.1 h3).2.2 _ h _ (by rw [List.drop_eq_getElem_cons hj]; exact List.mem_cons_self ..) rfl
  have h1 := incTo_at (ss.take j) L hnd' ss[j] hs
  rw [if_neg hni, Int.add_zero, List.getElem?_eq_getElem hs, Option.getD_some] at h1
  have hl : ss[j] < (incTo L (ss.take j)).length := by rw [incTo_length]; exact hs
  rw [List.getElem?_eq_getElem hl, Option.getD_some] at h1
  have h2 : (incTo L (ss.take j))[ss[j]]? = some L[ss[j]] := by rw [List.getElem?_eq_getElem hl, h1]
  refine ⟨h2, ?_⟩
  rw [List.take_succ_eq_append_getElem hj, incTo_snoc, h2, Option.getD_some]

/-- A row of symbols that nobody writes. -/
def InB (w : World) (o p : Option Nat) (v : Value) (l : List Nat) : Prop := ∃ b cap, v = .slice (some ⟨b, 0, none⟩) l.length cap ∧ l.length ≤ cap ∧ b < w.heap.size ∧ o ≠ some b ∧ p ≠ some b ∧ ∀ i (hi : i < l.length), w.cell? ⟨b, i, none⟩ = some (.int .i64 (l[i] : Nat))
theorem inB_keep {w w' : World} {o p o' p' : Option Nat} {v : Value} {l : List Nat} (h : InB w o p v l) (hsz : w.heap.size ≤ w'.heap.size) (hk : ∀ b, b < w.heap.size → o ≠ some b → p ≠ some b → w'.heap[b]? = w.heap[b]?)
    (ho : ∀ b, b < w.heap.size → o' = some b → o = some b) (hp : ∀ b, b < w.heap.size → p' = some b → p = some b) : InB w' o' p' v l := by
  obtain ⟨b, cap, hv, hl, hb, h1, h2, hc⟩ := h
  exact ⟨b, cap, hv, hl, Nat.lt_of_lt_of_le hb hsz, fun e => h1 (ho b hb e), fun e => h2 (hp b hb e), fun i hi => by rw [World.cell?_of_block (w := w) (hk b hb h1 h2)]; exact hc i hi⟩

abbrev trP (p : HT × Value) : Int × Nat × Value := (wt p.1, nm p.1, p.2)
theorem ltP_trP (a b : HT × Value) : ltP (trP a) (trP b) = ltT a.1 b.1 := rfl
/-- The lengths L in vo, the trees D in vl; X: trees besides, whose rows stay. -/
structure St (n0 : Nat) (w : World) (vo vl : Value) (L : List Int) (D X : List (HT × Value)) : Prop where
  out : w.ownsRow n0 3 1 vo L.length (L.map (Value.int .i64))
  l : w.ownsRow n0 106 3 vl D.length (cells3 (D.map trP))
  ne : ∀ b, vo.ownBlock = some b → vl.ownBlock ≠ some b
  tr : ∀ p ∈ D ++ X, InB w vo.ownBlock vl.ownBlock p.2 (syms p.1)
  base : n0 ≤ w.heap.size
section
variable {n0 : Nat} {w w' : World} {vo vl vo' vl' : Value} {L L' : List Int} {D X : List (HT × Value)}
theorem st_below (h : St n0 w vo vl L D X) (hb : Below w.heap.size w w') : St n0 w' vo vl L D X :=
  ⟨owns_below h.out hb, owns_below h.l hb, h.ne, fun p hp => inB_keep (h.tr p hp) hb.size (fun b hb' _ _ => hb.block b hb') (fun _ _ e => e) (fun _ _ e => e), Nat.le_trans h.base hb.size⟩
theorem st_alloc (h : St n0 w vo vl L D X) (o : Obj) : St n0 (w.alloc o) vo vl L D X := st_below h ((Below.refl _ _).alloc (Nat.le_refl _) o)
theorem st_drew (h : St n0 w vo vl L D X) : St n0 w.drew vo vl L D X := st_below h (Below.refl _ _).drew
theorem at_other {o o' : Option Nat} {n : Nat} (h : o' = o ∨ o' = some n) : ∀ b, b < n → o' = some b → o = some b := fun b hb e => by
  rcases h with h | h
  · rw [← h]; exact e
  · rw [h] at e; injection e with e; omega
/-- The lengths' row has grown. -/
theorem st_out (h : St n0 w vo vl L D X) (ho : w'.ownsRow n0 3 1 vo' L'.length (L'.map (Value.int .i64))) (hg : w.grownBy w' vo.ownBlock) (hat : vo'.ownBlock = vo.ownBlock ∨ vo'.ownBlock = some w.heap.size) : St n0 w' vo' vl L' D X := by
  refine ⟨ho, h.l.kept hg ?_, fun b hb e => ?_, fun p hp => ?_, Nat.le_trans h.base hg.size⟩
  · cases hv : vl.ownBlock with
    | none => exact Or.inl rfl
    | some b => exact Or.inr fun e => h.ne b e.symm hv
  · have hlt := owns_lt h.l b e
    exact h.ne b (at_other hat b hlt hb) e
  · exact inB_keep (h.tr p hp) hg.size (fun b hb h1 _ => hg.block b hb (fun e => h1 e.symm)) (at_other hat) (fun _ _ e => e)
/-- A tree more. -/
theorem st_l {T : HT} {v : Value} (h : St n0 w vo vl L D X) (hT : InB w vo.ownBlock vl.ownBlock v (syms T)) (hl : w'.ownsRow n0 106 3 vl' (D.length + 1) (cells3 (D.map trP) ++ [.int .i64 (wt T), .int .i64 (nm T : Nat), v])) (hg : w.grownBy w' vl.ownBlock) (hat : vl'.ownBlock = vl.ownBlock ∨ vl'.ownBlock = some w.heap.size) : St n0 w' vo vl' L (D ++ [(T, v)]) X := by
  refine ⟨h.out.kept hg ?_, by rw [List.length_append, List.map_append, cells3_append]; exact hl, fun b hb e => ?_, fun p hp => ?_, Nat.le_trans h.base hg.size⟩
  · cases hv : vo.ownBlock with
    | none => exact Or.inl rfl
    | some b => exact Or.inr fun e => h.ne b hv e.symm
  · have hlt := owns_lt h.out b hb
    exact h.ne b hb (at_other hat b hlt e)
  · refine inB_keep (o := vo.ownBlock) (p := vl.ownBlock) (w := w) ?_ hg.size (fun b hb _ h2 => hg.block b hb (fun e => h2 e.symm)) (fun _ _ e => e) (at_other hat)
    rcases List.mem_append.1 hp with hp | hp
    · rcases List.mem_append.1 hp with hp | hp
      · exact h.tr p (List.mem_append_left _ hp)
      · rw [List.mem_singleton.1 hp]; exact hT
    · exact h.tr p (List.mem_append_right _ hp)
/-- A tree is taken out. -/
theorem st_without (h : St n0 w vo vl L D X) (k : Nat) (hk : k < D.length) (hb : Below w.heap.size w w') (hl : w'.ownsRow w.heap.size 106 3 vl' ((D.map trP).eraseIdx k).length (cells3 ((D.map trP).eraseIdx k))) : St n0 w' vo vl' L (D.eraseIdx k) (D[k] :: X) := by
  refine ⟨owns_below h.out hb, ?_, fun b hb' e => ?_, fun p hp => ?_, Nat.le_trans h.base hb.size⟩
  · have e : (D.map trP).eraseIdx k = (D.eraseIdx k).map trP := (map_eraseIdx' trP D k).symm
    rw [e, List.length_map] at hl
    exact owns_base hl h.base
  · have h1 := owns_lt h.out b hb'
    have h2 := owns_block hl b e
    omega
  · refine inB_keep (o := vo.ownBlock) (p := vl.ownBlock) (w := w) (h.tr p ?_) hb.size (fun b hb' _ _ => hb.block b hb') (fun _ _ e => e) (fun b hb' e => by have := owns_block hl b e; omega)
    rcases List.mem_append.1 hp with hp | hp
    · exact List.mem_append_left _ (List.mem_of_mem_eraseIdx hp)
    · rcases List.mem_cons.1 hp with rfl | hp
      · exact List.mem_append_left _ (List.getElem_mem hk)
      · exact List.mem_append_right _ hp
/-- A length is laid. -/
theorem st_set {g n cap : Nat} (h : St n0 w (.slice (some ⟨g, 0, none⟩) n cap) vl L D X) (hn : L.length = n) (j : Nat) (x : Int) : St n0 (w.setCell ⟨g, j, none⟩ (.int .i64 x)) (.slice (some ⟨g, 0, none⟩) n cap) vl (L.set j x) D X := by
  subst hn
  obtain ⟨h1, h2⟩ := h.out.stored j (.int .i64 x)
  exact st_out h (by rw [List.length_set, List.map_set]; exact h1) h2 (Or.inl rfl)
/-- Trees besides: whichever. -/
theorem st_more {Y : List (HT × Value)} (h : St n0 w vo vl L D X) (hY : ∀ p ∈ Y, InB w vo.ownBlock vl.ownBlock p.2 (syms p.1)) : St n0 w vo vl L D Y :=
  ⟨h.out, h.l, h.ne, fun p hp => by
    rcases List.mem_append.1 hp with hp | hp
    · exact h.tr p (List.mem_append_left _ hp)
    · exact hY p hp, h.base⟩
end
/-- The cells of a tree. -/
theorem st_cells {n0 : Nat} {w : World} {vo vl : Value} {L : List Int} {D X : List (HT × Value)} (h : St n0 w vo vl L D X) (hp : 0 < D.length) : ∃ g cap, vl = .slice (some ⟨g, 0, none⟩) D.length cap ∧ ∀ k (hk : k < D.length), w.cell? ⟨g, k * 3, none⟩ = some (.int .i64 (wt D[k].1)) ∧ w.cell? ⟨g, k * 3 + 1, none⟩ = some (.int .i64 (nm D[k].1 : Nat)) ∧ w.cell? ⟨g, k * 3 + 2, none⟩ = some D[k].2 := by
  rcases h.l.2 with ⟨_, h0⟩ | ⟨g, cap, cur, hv, _⟩
  · omega
  · have hl := h.l
    rw [hv] at hl
    refine ⟨g, cap, hv, fun k hk => ?_⟩
    have hg := cells3_get (D.map trP) k (by rw [List.length_map]; exact hk)
    rw [List.getElem_map] at hg
    rw [hl.cellAt (k * 3) (by omega), hl.cellAt (k * 3 + 1) (by omega), hl.cellAt (k * 3 + 2) (by omega)]
    exact hg
theorem least_st {n0 : Nat} {w : World} {vo vl : Value} {L : List Int} {D X : List (HT × Value)} (h : St n0 w vo vl L D X) (hp : 0 < D.length) (hl : D.length ≤ 1000000) :
    Calls Try.prog 76 #[vl] w fun e w' => ∃ k : Nat, ∃ hk : k < D.length, e = .returned (.int .i64 k) ∧ Hid (∀ x ∈ D, leT D[k].1 x.1) ∧ Below w.heap.size w w' := by
  refine (least_any vl (D.map trP) w (trs_of_owns h.l).1 (by rw [List.length_map]; exact hp) (by rw [List.length_map]; exact hl)).mono ?_
  rintro e w' ⟨k, hk, rfl, hall, hb⟩
  rw [List.length_map] at hk
  refine ⟨k, hk, rfl, fun x hx => ?_, hb⟩
  obtain ⟨j, hj, rfl⟩ := List.getElem_of_mem hx
  have := hall.out j (by rw [List.length_map]; exact hj)
  rw [List.getElem_map, List.getElem_map] at this
  exact this
theorem without_st {n0 : Nat} {w : World} {vo vl : Value} {L : List Int} {D X : List (HT × Value)} (h : St n0 w vo vl L D X) (k : Nat) (hk : k < D.length) (hl : D.length ≤ 1000000) :
    Calls Try.prog 77 #[vl, .int .i64 k] w fun e w' => ∃ a cap, e = .returned (.slice a (D.eraseIdx k).length cap) ∧ St n0 w' vo (.slice a (D.eraseIdx k).length cap) L (D.eraseIdx k) (D[k] :: X) ∧ Below w.heap.size w w' := by
  refine (without_any vl (D.map trP) k w (trs_of_owns h.l).1 (by rw [List.length_map]; exact hk) (by rw [List.length_map]; exact hl) ?_).mono ?_
  · intro t ht
    obtain ⟨p, hp, rfl⟩ := List.mem_map.1 ht
    obtain ⟨b, cap, hv, _⟩ := h.tr p (List.mem_append_left _ hp)
    show p.2.oneCell' = true
    rw [hv]; rfl
  · rintro e w' ⟨v', rfl, hown, hb⟩
    have hst := st_without h k hk hb hown
    obtain ⟨a, cap, rfl, _⟩ := owns_shape hst.l
    exact ⟨a, cap, rfl, hst, hb⟩
/-- How far the putting together is. -/
structure Mid (f : List Int) (L : List Int) (F : List HT) : Prop where
  red : ∀ T, Red F T → Red (initT f) T
  deps : L = depsL F f.length
  syms : (F.flatMap syms).Perm ((initT f).flatMap syms)
  some : 1 ≤ F.length
  sum : wtSum F ≤ 1000000000
  pos : Pos F
  two : 2 ≤ (initT f).length
theorem mid_init {f : List Int} (hl : f.length ≤ 1000) (hf : ∀ x ∈ f, 0 ≤ x ∧ x ≤ 1000000) (h2 : 2 ≤ (initT f).length) : Mid f (List.replicate f.length 0) (initT f) :=
  ⟨fun _ h => h, (depsL_init f f.length).symm, List.Perm.refl _, by omega, by
    have h := initTo_sum f (m := 1000000) (by omega) (fun x hx => (hf x hx).2) f.length (Nat.le_refl _)
    rw [initTo_all] at h
    omega, initT_pos f, h2⟩
theorem mid_le {f L : List Int} {F : List HT} (h : Mid f L F) : (F.flatMap syms).length ≤ f.length := by
  rw [h.syms.length_eq, ← initT_nm, List.length_map, ← initTo_all]
  exact initTo_le f f.length
theorem mid_nodup {f L : List Int} {F : List HT} (h : Mid f L F) : (F.flatMap syms).Nodup := h.syms.nodup_iff.2 (initT_syms f).1
theorem mid_lt {f L : List Int} {F : List HT} (h : Mid f L F) : ∀ s ∈ F.flatMap syms, s < f.length := fun s hs => (initT_syms f).2 s (h.syms.mem_iff.1 hs)
theorem mid_one {f L : List Int} {T : HT} (h : Mid f L [T]) : OnceR f L := by
  refine Or.inr (Or.inr ⟨h.two, T, h.red T (.one T), ?_⟩)
  rw [h.deps]
  have h1 := mid_nodup h
  have h2 := mid_lt h
  simp only [List.flatMap_cons, List.flatMap_nil, List.append_nil] at h1 h2
  exact depsL_one h1 h2
theorem mid_step {f L : List Int} {F R : List HT} {a b : HT} (h : Mid f L F) (hp : F.Perm (a :: b :: R)) (ha : ∀ x ∈ b :: R, leT a x) (hb : ∀ x ∈ R, leT b x) :
    Mid f (incTo L (syms a ++ syms b)) (R ++ [.node a b]) := by
  have hpp : (R ++ [HT.node a b]).Perm (.node a b :: R) := List.perm_append_comm (l₁ := R) (l₂ := [HT.node a b])
  have hnd : (syms a ++ syms b).Nodup := by
    have := (flat_perm hp).nodup_iff.1 (mid_nodup h)
    simp only [List.flatMap_cons] at this
    rw [← List.append_assoc] at this
    exact (List.nodup_append.1 this).1
  have hpos := pos_perm hp h.pos
  refine ⟨fun T hT => h.red T (.step hp ha hb (red_perm hT hpp.symm)), ?_, ?_, by simp, ?_, ?_, h.two⟩
  · rw [h.deps, depsL_perm hp, depsL_node hnd, depsL_perm hpp.symm]
  · refine (flat_perm hpp).trans (.trans ?_ h.syms)
    rw [flat_node]
    exact flat_perm hp.symm
  · rw [wtSum_perm hpp, wtSum_node, ← wtSum_perm hp]; exact h.sum
  · refine pos_perm hpp.symm fun x hx => ?_
    rcases List.mem_cons.1 hx with rfl | hx
    · have h1 := hpos a (List.mem_cons_self ..)
      have h2 := hpos b (List.mem_cons_of_mem _ (List.mem_cons_self ..))
      show 0 < wt a + wt b
      omega
    · exact hpos x (List.mem_cons_of_mem _ (List.mem_cons_of_mem _ hx))
end Go.Proofs.Ytolappilfjhfaaa
namespace Go.Proofs.Ytolappilfjhfaaa
open Go.RowKit

theorem cells_three_new (w : World) (x y z : Value) (t : TypeId) : ∀ j u, [x, y, z][j]? = some u → (w.alloc (.cells #[x, y, z] t)).cell? ((⟨w.heap.size, 0, none⟩ : Addr).add j) = some u := by
  intro j u hj
  rw [add_none, Nat.zero_add, World.cell?_alloc_new]
  simpa using hj
theorem three_one (x y : Int) (a : Option Addr) (n c : Nat) : ∀ u ∈ [Value.int .i64 x, .int .i64 y, .slice a n c], u.oneCell' = true := by
  intro u hu
  simp only [List.mem_cons, List.not_mem_nil, or_false] at hu
  rcases hu with rfl | rfl | rfl <;> rfl
theorem inB_new {n0 : Nat} {w : World} {vo vl : Value} {L : List Int} {D X : List (HT × Value)} (h : St n0 w vo vl L D X) (k : Nat) (o : Obj) :
    InB ((w.alloc (.cells #[.int .i64 k] 3)).alloc o) vo.ownBlock vl.ownBlock (.slice (some ⟨w.heap.size, 0, none⟩) 1 1) [k] := by
  refine ⟨w.heap.size, 1, rfl, Nat.le_refl _, by simp; omega, fun e => ?_, fun e => ?_, fun i hi => ?_⟩
  · have := owns_lt h.out _ e; omega
  · have := owns_lt h.l _ e; omega
  · obtain rfl : i = 0 := by simpa using hi
    rw [World.cell?_alloc_lt _ _ _ (by simp), World.cell?_alloc_new]; rfl
theorem rep_snocH (k : Nat) : (List.replicate (k + 1) (0 : Int)).map (Value.int .i64) = (List.replicate k (0 : Int)).map (Value.int .i64) ++ [.int .i64 0] ∧ (List.replicate (k + 1) (0 : Int)).length = (List.replicate k (0 : Int)).length + 1 := by
  rw [List.replicate_succ', List.map_append, List.length_append]; exact ⟨rfl, rfl⟩
theorem asz (w : World) (o : Obj) : (w.alloc o).heap.size = w.heap.size + 1 := by simp
abbrev sE : Nat → Value := fun s => .int .i64 (s : Nat)
theorem inB_news {w : World} {o p : Option Nat} {b n q : Nat} {l : List Nat} (h : InB w o p (.slice (some ⟨b, 0, none⟩) n q) l) : n = l.length ∧ b < w.heap.size ∧ ∀ W', Below w.heap.size w W' → ∀ j u, (l.map sE)[j]? = some u → W'.cell? ((⟨b, 0, none⟩ : Addr).add j) = some u := by
  obtain ⟨b', q', hv, _, hb, _, _, hc⟩ := h
  injection hv with h1 h2 h3
  injection h1 with h1
  injection h1 with h1
  subst h1
  refine ⟨h2, hb, fun W' hW j u hj => ?_⟩
  rw [add_none, Nat.zero_add, hW.cell (p := ⟨b, j, none⟩) hb]
  rw [List.getElem?_map] at hj
  cases hjb : l[j]? with
  | none => rw [hjb] at hj; cases hj
  | some y =>
    rw [hjb] at hj
    obtain ⟨hlt, rfl⟩ := List.getElem?_eq_some_iff.1 hjb
    rw [hc j hlt]
    exact hj
theorem sE_one (l : List Nat) : ∀ u ∈ l.map sE, u.oneCell' = true := fun u hu => by obtain ⟨y, _, rfl⟩ := List.mem_map.1 hu; rfl
theorem syms_pos (T : HT) : 0 < (syms T).length := by
  induction T with
  | leaf w n => simp [syms]
  | node l r ihl _ => rw [syms, List.length_append]; omega
theorem grown_trans {a b c : World} {row : Option Nat} (h : a.grownBy b row) (k : b.grownBy c row) : a.grownBy c row :=
  ⟨k.os.trans h.os, k.tape.trans h.tape, k.output.trans h.output, Nat.le_trans h.size k.size, fun i hi hr => (k.block i (Nat.lt_of_lt_of_le hi h.size) hr).trans (h.block i hi hr)⟩
theorem inB_of_owns {w : World} {o p : Option Nat} {base g n q : Nat} {l : List Nat} (h : w.ownsRow base 3 1 (.slice (some ⟨g, 0, none⟩) n q) n (l.map sE)) (ho : o ≠ some g) (hp : p ≠ some g) : InB w o p (.slice (some ⟨g, 0, none⟩) n q) l ∧ n = l.length := by
  have hn : n = l.length := by have := h.1; rw [List.length_map] at this; omega
  subst hn
  have hlt := owns_lt h _ rfl
  obtain ⟨a, c, hv, hc, _⟩ := owns_shape h
  injection hv with _ _ h3
  subst h3
  refine ⟨⟨g, q, rfl, hc, hlt, ho, hp, fun i hi => ?_⟩, rfl⟩
  rw [h.cellAt i (by omega), List.getElem?_map, List.getElem?_eq_getElem hi]; rfl
def lenV : Value → Nat
  | .slice _ n _ => n
  | _ => 0

set_option maxRecDepth 100000 in
set_option maxHeartbeats 4000000 in
theorem once_any (v : Value) (f : List Int) (w : World) (hv : IntsV w v f) (hl : f.length ≤ 300) (hf : ∀ x ∈ f, 0 ≤ x ∧ x ≤ 1000000) :
    Calls Try.prog 60 #[v] w fun e w' => ∃ v' L, e = .returned v' ∧ Lens w.heap.size w' v' L ∧ OnceR f L ∧ Below w.heap.size w w' := by
  obtain ⟨i0, hi, hz0, hz1, hz2⟩ := info_parts info_int
  obtain ⟨j0, hJ, hjz0, hjz1, hjz2⟩ := info_parts info_tr
  have HV := Lib.hid hv
  obtain ⟨aX, cX, rfl, hcX, hnX, hcellX⟩ := hv
  clear hcellX hnX
  have HF := Lib.hid hf
  clear hf
  have HS0 : Hid (St w.heap.size ((w.alloc (.cells #[] 3)).alloc (.cells #[] 106)) (.slice (some ⟨w.heap.size, 0, none⟩) 0 0) (.slice (some ⟨w.heap.size + 1, 0, none⟩) 0 0) [] [] []) := by
    refine ⟨(owns_none w 3 1).alloc _, owns_base ?_ (Nat.le_succ _), fun b e e' => ?_, (fun p hp => by cases hp), by simp; omega⟩
    · have h := owns_none (w.alloc (.cells #[] 3)) 106 3
      rw [asz] at h
      exact h
    · simp only [Value.ownBlock, Option.some.injEq] at e e'; omega
  have HB0 : Hid (Below w.heap.size w ((w.alloc (.cells #[] 3)).alloc (.cells #[] 106))) := ((Below.refl _ _).alloc (Nat.le_refl _) _).alloc (by simp) _
  go_enter Try.func60, Try.ntmps60
  go_wp2_with fail
  go_loopw [3, 4, 5] (fun vo vl i wr => ∃ (k : Nat) (D : List (HT × Value)), i = .int .i64 k ∧ k ≤ f.length ∧ D.map (·.1) = initTo f k ∧ St w.heap.size wr vo vl (List.replicate k 0) D [] ∧ Below w.heap.size w wr) (fun _ _ i _ => f.length - (intOf i).toNat)
  case atStart => exact ⟨0, [], rfl, Nat.zero_le _, rfl, HS0.out, HB0.out⟩
  case round =>
    obtain ⟨k, D, rfl, hk, hD, hst, hb⟩ := hrel
    have HD := Lib.hid hD
    have HS := Lib.hid hst
    have Hb := Lib.hid hb
    have hDl : D.length ≤ k := by
      have h := congrArg List.length hD
      rw [List.length_map] at h
      have := initTo_le f k
      omega
    have ho := hst.out
    rw [List.length_replicate] at ho
    obtain ⟨a0, c0, rfl, _⟩ := owns_shape ho
    obtain ⟨aL, cL, rfl, _⟩ := owns_shape hst.l
    clear hD hst hb HS0 HB0 ho
    by_cases hlt : k < f.length
    · rcases sl_one HV.out with ⟨rfl, _⟩ | ⟨_, bX, oX, cX', hveq, _, hbX, cellX⟩
      · simp at hlt
      injection hveq with q1 q2 q3
      subst q1 q3
      have CellX := Lib.hid cellX
      have g0 : (k : Int) < (f.length : Int) := by omega
      have g1 : (0 : Int) ≤ (k : Int) := by omega
      have Hyes := Lib.hid (fun h => initTo_yes (f := f) hlt h)
      have Hno := Lib.hid (fun h => initTo_no (f := f) hlt h)
      have HR := Lib.hid (rep_snocH k)
      have hsz := Hb.out.size
      clear cellX q2
      obtain ⟨x, hx⟩ : ∃ x, f[k] = x := ⟨_, rfl⟩
      have Hx := Lib.hid hx
      rw [hx] at Hyes Hno
      clear hx
      have HE3 : Hid (∀ w3, Below w.heap.size w w3 → w3.cell? ⟨bX, oX + k, none⟩ = some (.int .i64 x)) := fun w3 h => by
        rw [h.cell (p := ⟨bX, oX + k, none⟩) hbX, CellX.out k hlt, Hx.out]
      by_cases hx0 : 0 < x
      · go_wp2_with (first
          | (at_builtin; refine wpList_append_own_at _ rfl _ _ 50 rfl w.heap.size 3 i0 (.int .i64 0) 1 8 Try.underlying50 hi hz0 hz1 hz2 rfl (by decide) (.slice a0 k c0) _ _ rfl (HS.out.out.alloc _) ⟨wr.heap.size, 0, none⟩ 1 1 [.int .i64 0] rfl rfl (cell_one_new _ _ _) (by simp [Value.oneCell']) (by simp [maxLen]; omega) (by simp; omega) (by simp; omega) ?_
             intro v3 w3 hown3 hg3 _ hat3
             have HS3 := Lib.hid (st_out (L' := List.replicate (k + 1) 0) (st_alloc HS.out _) (by rw [HR.out.1, HR.out.2]; exact hown3) hg3 hat3)
             have hb3 := (Hb.out.alloc hsz _).grown hg3 (by simp; omega) (fun b hbk => owns_block HS.out.out b hbk)
             have e3 := HE3.out w3 hb3
             have Hb3 := Lib.hid hb3
             have hs3 := hb3.size
             clear hown3 hg3 hat3 hb3)
          | (at_builtin; refine wpList_append_own_at _ rfl _ _ 104 rfl w.heap.size 106 j0 _ 3 40 Try.underlying104 hJ hjz0 hjz1 hjz2 rfl (by decide) (.slice aL D.length cL) _ _ rfl ((HS3.out.l.alloc _).alloc _) ⟨w3.heap.size + 1, 0, none⟩ 1 1 [.int .i64 x, .int .i64 k, .slice (some ⟨w3.heap.size, 0, none⟩) 1 1] rfl rfl (by have h := cells_three_new (w3.alloc (.cells #[.int .i64 k] 3)) (.int .i64 x) (.int .i64 k) (.slice (some ⟨w3.heap.size, 0, none⟩) 1 1) 106; rw [asz] at h; exact h) (three_one _ _ _ _ _) (by simp [maxLen]; omega) (by omega) (by simp; omega) ?_
             intro v4 w4 hown4 hg4 _ hat4
             have HS4 := Lib.hid (st_l (T := .leaf x k) (st_alloc (st_alloc HS3.out _) _) (inB_new HS3.out k _) hown4 hg4 hat4)
             have hb4 := ((Hb3.out.alloc hs3 _).alloc (by simp; omega) _).grown hg4 (by simp; omega) (fun b hbk => owns_block HS3.out.l b hbk)
             have Hb4 := Lib.hid hb4
             clear hown4 hg4 hat4 hb4)
          | fail)
        exact ⟨⟨k + 1, D ++ [(.leaf x k, .slice (some ⟨w3.heap.size, 0, none⟩) 1 1)], by go_num, by omega, by rw [List.map_append, HD.out, Hyes.out hx0]; rfl, HS4.out, Hb4.out⟩, by simp [intOf]; omega⟩
      · go_wp2_with (first
          | (at_builtin; refine wpList_append_own_at _ rfl _ _ 50 rfl w.heap.size 3 i0 (.int .i64 0) 1 8 Try.underlying50 hi hz0 hz1 hz2 rfl (by decide) (.slice a0 k c0) _ _ rfl (HS.out.out.alloc _) ⟨wr.heap.size, 0, none⟩ 1 1 [.int .i64 0] rfl rfl (cell_one_new _ _ _) (by simp [Value.oneCell']) (by simp [maxLen]; omega) (by simp; omega) (by simp; omega) ?_
             intro v3 w3 hown3 hg3 _ hat3
             have HS3 := Lib.hid (st_out (L' := List.replicate (k + 1) 0) (st_alloc HS.out _) (by rw [HR.out.1, HR.out.2]; exact hown3) hg3 hat3)
             have hb3 := (Hb.out.alloc hsz _).grown hg3 (by simp; omega) (fun b hbk => owns_block HS.out.out b hbk)
             have e3 := HE3.out w3 hb3
             have Hb3 := Lib.hid hb3
             clear hown3 hg3 hat3 hb3)
          | fail)
        exact ⟨⟨k + 1, D, by go_num, by omega, by rw [HD.out, Hno.out hx0], HS3.out, Hb3.out⟩, by simp [intOf]; omega⟩
    · obtain rfl : k = f.length := by omega
      have hDI : D.map (·.1) = initT f := by rw [← initTo_all]; exact HD.out
      clear HD
      by_cases h0 : D.length = 0
      · have hD0 : D = [] := List.length_eq_zero_iff.1 h0
        have HI : Hid (initT f = []) := by unfold Hid; rw [← hDI, hD0]; rfl
        have HO : Hid (OnceR f (List.replicate f.length 0)) := Or.inl ⟨HI.out, rfl⟩
        rw [h0] at HS ⊢
        have HL : Hid (Lens w.heap.size wr (.slice a0 f.length c0) (List.replicate f.length 0)) := HS.out.out
        clear hD0 hDI h0 hDl HI HS
        go_wp2_with fail
        go_loopw [4] (fun vl wq => vl = .slice aL 0 cL ∧ wq = wr) (fun _ _ => 0)
        case atStart => exact ⟨rfl, rfl⟩
        case round =>
          obtain ⟨rfl, rfl⟩ := hrel
          go_wp2_with fail
          go_ret
          exact ⟨_, _, rfl, HL.out, HO.out, Hb.out⟩
      · obtain ⟨g0, d0, hvo, hg0, hgs⟩ := World.ownsRow.form HS.out.out (by rw [List.length_replicate]; omega)
        obtain ⟨gL, dL, hvl, cellL⟩ := st_cells HS.out (by omega)
        injection hvo with p1 p2 p3
        injection hvl with r1 r2 r3
        subst p1 p3 r1 r3
        clear p2 r2
        have hwb : w.heap.size ≤ wr.heap.size := Hb.out.size
        by_cases h1 : D.length = 1
        · obtain ⟨p, hD1⟩ : ∃ p, D = [p] := List.length_eq_one_iff.1 h1
          subst hD1
          have hi1 : initT f = [p.1] := hDI.symm
          obtain ⟨j, hj, hjp, hpj⟩ := initT_mem.1 (show p.1 ∈ initT f by rw [hi1]; exact List.mem_singleton.2 rfl)
          have e1 := (cellL 0 (by omega)).2.1
          simp only [List.getElem_cons_zero] at e1
          rw [hpj] at e1
          replace e1 : wr.cell? ⟨gL, 1, none⟩ = some (.int .i64 (j : Nat)) := e1
          have HO : Hid (OnceR f ((List.replicate f.length 0).set j 1)) := Or.inr (Or.inl ⟨f[j], j, by rw [hi1, hpj], rfl⟩)
          have hl1 := HS.out.out
          rw [List.length_replicate] at hl1
          have e2 : wr.cell? ⟨g0, j, none⟩ = some (.int .i64 0) := by
            rw [hl1.cellAt j (by omega), List.getElem?_map, List.getElem?_replicate, if_pos hj]; rfl
          have e3 : wr.frozen? ⟨g0, j, none⟩ = false := hl1.frozenAt j
          have HL : Hid (Lens w.heap.size (wr.setCell ⟨g0, j, none⟩ (.int .i64 1)) (.slice (some ⟨g0, 0, none⟩) f.length c0) ((List.replicate f.length 0).set j 1)) := (st_set HS.out (by rw [List.length_replicate]) j 1).out
          have HB1 := Lib.hid (Hb.out.setCell (p := ⟨g0, j, none⟩) hg0 (.int .i64 1))
          have g1 : (j : Int) < (f.length : Int) := by omega
          have g2 : (0 : Int) ≤ (j : Int) := by omega
          clear hl1 hpj hjp hi1 hDI cellL HS h0 hDl
          simp only [List.length_cons, List.length_nil, Nat.zero_add] at *
          go_wp2_with fail
          obtain ⟨W1, hW1⟩ : ∃ W1, W1 = wr.setCell ⟨g0, j, none⟩ (.int .i64 1) := ⟨_, rfl⟩
          rw [← hW1] at HL HB1 ⊢
          clear hW1
          go_loopw [4] (fun vl wq => vl = .slice (some ⟨gL, 0, none⟩) 1 cL ∧ wq = W1) (fun _ _ => 0)
          case atStart => exact ⟨rfl, rfl⟩
          case round =>
            obtain ⟨rfl, rfl⟩ := hrel
            go_wp2_with fail
            go_ret
            exact ⟨_, _, rfl, HL.out, HO.out, HB1.out⟩
        · have HM : Hid (Mid f (List.replicate f.length 0) (D.map (·.1))) := by
            unfold Hid
            rw [hDI]
            exact mid_init (by omega) HF.out (by rw [← hDI, List.length_map]; omega)
          have d1 : ((D.length : Int) == 1) = false := by simp; omega
          clear cellL hDI h1 HF HV
          go_wp2_with fail
          clear d1
          go_loopw [4] (fun vl wr => ∃ L D, L.length = f.length ∧ 1 ≤ D.length ∧ D.length ≤ 300 ∧ Mid f L (D.map (·.1)) ∧ St w.heap.size wr (.slice (some ⟨g0, 0, none⟩) f.length c0) vl L D [] ∧ Below w.heap.size w wr) (fun vl _ => lenV vl)
          case atStart => exact ⟨_, D, List.length_replicate, by omega, by omega, HM.out, HS.out, Hb.out⟩
          case round =>
            clear HM HS Hb hDl h0
            obtain ⟨L, D, hL, hD1, hD3, hm, hst, hb⟩ := hrel
            have HL := Lib.hid hL
            have HM := Lib.hid hm
            have HS := Lib.hid hst
            have Hb := Lib.hid hb
            obtain ⟨g1, c1, rfl, cell1⟩ := st_cells hst (by omega)
            clear hL hm hst hb
            by_cases h2 : 2 ≤ D.length
            · have g2 : (1 : Int) < (D.length : Int) := by omega
              have hls := least_st HS.out (by omega) (by omega)
              go_wp2_with fail
              refine hls.mono ?_
              rintro e w1 ⟨k, hk, rfl, hmin1, hb1⟩
              have HS1 := Lib.hid (st_below HS.out hb1)
              have Hb1 := Lib.hid (Hb.out.trans (hb1.mono Hb.out.size))
              have Hmin1 := Lib.hid hmin1
              obtain ⟨e0, e1, e2⟩ := cell1 k hk
              have hg1 : g1 < wr.heap.size := owns_lt HS.out.l _ rfl
              have hv1 : g0 < w1.heap.size := Nat.lt_of_lt_of_le (owns_lt HS.out.out _ rfl) hb1.size
              rw [← hb1.cell (p := ⟨g1, k * 3, none⟩) hg1] at e0
              rw [← hb1.cell (p := ⟨g1, k * 3 + 1, none⟩) hg1] at e1
              rw [← hb1.cell (p := ⟨g1, k * 3 + 2, none⟩) hg1] at e2
              have hw1 := without_st (st_alloc HS1.out (.cells #[.int .i64 (wt D[k].1), .int .i64 (nm D[k].1 : Nat), D[k].2] 106)) k hk (by omega)
              have hin := HS1.out.tr D[k] (List.mem_append_left _ (List.getElem_mem hk))
              have Hperm1 := Lib.hid (perm_eraseIdx D k hk)
              have hlen1 := length_eraseIdx' D k hk
              obtain ⟨⟨T1, v1⟩, hp1⟩ : ∃ p, D[k] = p := ⟨_, rfl⟩
              obtain ⟨D1, hD1⟩ : ∃ D1, D.eraseIdx k = D1 := ⟨_, rfl⟩
              rw [hp1, hD1] at hw1 Hperm1
              rw [hp1] at e0 e1 e2 Hmin1 hin
              dsimp only at e0 e1 e2 Hmin1 hw1 hin
              obtain ⟨b1, q1, rfl, _⟩ := hin
              rw [hD1] at hlen1
              have g3 : (k : Int) < (D.length : Int) := by omega
              have g4 : (0 : Int) ≤ (k : Int) := by omega
              clear hls hb1 hmin1 cell1 hg1 hp1 hD1
              go_wp2_with fail
              refine hw1.mono ?_
              rintro e w2 ⟨a2, c2, rfl, hst2, hb2⟩
              have hs1 := hb2.size
              rw [asz] at hs1
              have a0 : w2.cell? ⟨w1.heap.size, 0, none⟩ = some (.int .i64 (wt T1)) := by rw [hb2.cell (p := ⟨w1.heap.size, 0, none⟩) (by rw [asz]; exact Nat.lt_succ_self _), World.cell?_alloc_new]; rfl
              have a1 : w2.cell? ⟨w1.heap.size, 1, none⟩ = some (.int .i64 (nm T1 : Nat)) := by rw [hb2.cell (p := ⟨w1.heap.size, 1, none⟩) (by rw [asz]; exact Nat.lt_succ_self _), World.cell?_alloc_new]; rfl
              have a2' : w2.cell? ⟨w1.heap.size, 2, none⟩ = some (.slice (some ⟨b1, 0, none⟩) (syms T1).length q1) := by rw [hb2.cell (p := ⟨w1.heap.size, 2, none⟩) (by rw [asz]; exact Nat.lt_succ_self _), World.cell?_alloc_new]; rfl
              have Hb2 := Lib.hid ((Hb1.out.alloc Hb1.out.size _).trans (hb2.mono (by rw [asz]; have := Hb1.out.size; omega)))
              obtain ⟨A, hA⟩ : ∃ A, A = w1.heap.size := ⟨_, rfl⟩
              have Hsz := Lib.hid (show w.heap.size ≤ A ∧ A < w2.heap.size from ⟨by rw [hA]; exact Hb1.out.size, by omega⟩)
              have HgA : Hid (g0 < A) := by unfold Hid; omega
              rw [← hA] at a0 a1 a2' ⊢
              have HA0 := Lib.hid a0
              have HA1 := Lib.hid a1
              have HA2 := Lib.hid a2'
              have HS2 := Lib.hid hst2
              obtain ⟨g2', c2', hv2, cell2⟩ := st_cells hst2 (by omega)
              injection hv2 with s1 s2 s3
              subst s1 s3
              have hls := least_st HS2.out (by omega) (by omega)
              clear hw1 hst2 hb2 hs1 hA hv1 e0 e1 e2 HS1 Hb1 g2 g3 g4 a0 a1 a2' s2
              go_wp2_with fail
              refine hls.mono ?_
              rintro e w3 ⟨k2, hk2, rfl, hmin2, hb3⟩
              have HS3 := Lib.hid (st_below HS2.out hb3)
              have hin := HS3.out.tr D1[k2] (List.mem_append_left _ (List.getElem_mem hk2))
              have Hb3 := Lib.hid (Hb2.out.trans (hb3.mono Hb2.out.size))
              have Hmin2 := Lib.hid hmin2
              obtain ⟨e0, e1, e2⟩ := cell2 k2 hk2
              have hg1 : g2' < w2.heap.size := owns_lt HS2.out.l _ rfl
              rw [← hb3.cell (p := ⟨g2', k2 * 3, none⟩) hg1] at e0
              rw [← hb3.cell (p := ⟨g2', k2 * 3 + 1, none⟩) hg1] at e1
              rw [← hb3.cell (p := ⟨g2', k2 * 3 + 2, none⟩) hg1] at e2
              have hw2 := without_st (st_alloc HS3.out (.cells #[.int .i64 (wt D1[k2].1), .int .i64 (nm D1[k2].1 : Nat), D1[k2].2] 106)) k2 hk2 (by omega)
              have Hperm2 := Lib.hid (perm_eraseIdx D1 k2 hk2)
              have hlen2 := length_eraseIdx' D1 k2 hk2
              obtain ⟨⟨T2, v2⟩, hp2⟩ : ∃ p, D1[k2] = p := ⟨_, rfl⟩
              obtain ⟨D2, hD2⟩ : ∃ D2, D1.eraseIdx k2 = D2 := ⟨_, rfl⟩
              rw [hp2, hD2] at hw2 Hperm2
              rw [hp2] at e0 e1 e2 Hmin2 hin
              dsimp only at e0 e1 e2 Hmin2 hw2 hin
              obtain ⟨b2, q2, rfl, _⟩ := hin
              rw [hD2] at hlen2
              have g3 : (k2 : Int) < (D1.length : Int) := by omega
              have g4 : (0 : Int) ≤ (k2 : Int) := by omega
              have Ha := Lib.hid (hb3.cell (p := ⟨A, 0, none⟩) Hsz.out.2)
              have Ha1 := Lib.hid (hb3.cell (p := ⟨A, 1, none⟩) Hsz.out.2)
              have Ha2 := Lib.hid (hb3.cell (p := ⟨A, 2, none⟩) Hsz.out.2)
              have Hs3 : Hid (A < w3.heap.size) := Nat.lt_of_lt_of_le Hsz.out.2 hb3.size
              clear hls hb3 hmin2 cell2 hg1 hp2 hD2
              go_wp2_with fail
              refine hw2.mono ?_
              rintro e w4 ⟨a4, c4, rfl, hst4, hb4⟩
              have hs3 := hb4.size
              rw [asz] at hs3
              have f0 : w4.cell? ⟨w3.heap.size, 0, none⟩ = some (.int .i64 (wt T2)) := by rw [hb4.cell (p := ⟨w3.heap.size, 0, none⟩) (by rw [asz]; exact Nat.lt_succ_self _), World.cell?_alloc_new]; rfl
              have f1 : w4.cell? ⟨w3.heap.size, 1, none⟩ = some (.int .i64 (nm T2 : Nat)) := by rw [hb4.cell (p := ⟨w3.heap.size, 1, none⟩) (by rw [asz]; exact Nat.lt_succ_self _), World.cell?_alloc_new]; rfl
              have f2 : w4.cell? ⟨w3.heap.size, 2, none⟩ = some (.slice (some ⟨b2, 0, none⟩) (syms T2).length q2) := by rw [hb4.cell (p := ⟨w3.heap.size, 2, none⟩) (by rw [asz]; exact Nat.lt_succ_self _), World.cell?_alloc_new]; rfl
              have a0 : w4.cell? ⟨A, 0, none⟩ = some (.int .i64 (wt T1)) := by rw [hb4.cell (p := ⟨A, 0, none⟩) (by rw [asz]; exact Nat.lt_succ_of_lt Hs3.out), World.cell?_alloc_lt _ _ _ Hs3.out, Ha.out, HA0.out]
              have a1 : w4.cell? ⟨A, 1, none⟩ = some (.int .i64 (nm T1 : Nat)) := by rw [hb4.cell (p := ⟨A, 1, none⟩) (by rw [asz]; exact Nat.lt_succ_of_lt Hs3.out), World.cell?_alloc_lt _ _ _ Hs3.out, Ha1.out, HA1.out]
              have a2' : w4.cell? ⟨A, 2, none⟩ = some (.slice (some ⟨b1, 0, none⟩) (syms T1).length q1) := by rw [hb4.cell (p := ⟨A, 2, none⟩) (by rw [asz]; exact Nat.lt_succ_of_lt Hs3.out), World.cell?_alloc_lt _ _ _ Hs3.out, Ha2.out, HA2.out]
              have Hb4 := Lib.hid ((Hb3.out.alloc Hb3.out.size _).trans (hb4.mono (by rw [asz]; have := Hb3.out.size; omega)))
              obtain ⟨B, hB⟩ : ∃ B, B = w3.heap.size := ⟨_, rfl⟩
              have HszB := Lib.hid (show A < w4.heap.size ∧ B < w4.heap.size from ⟨by have := Hs3.out; omega, by omega⟩)
              have HgB : Hid (g0 < B) := by have := Hs3.out; have := HgA.out; unfold Hid; omega
              rw [← hB] at f0 f1 f2 ⊢
              have HS4 := Lib.hid hst4
              have HN1 := Lib.hid (inB_news (HS4.out.tr (T1, .slice (some ⟨b1, 0, none⟩) (syms T1).length q1) (List.mem_append_right _ (List.mem_cons_of_mem _ (List.mem_cons_self ..)))))
              have HN2 := Lib.hid (inB_news (HS4.out.tr (T2, .slice (some ⟨b2, 0, none⟩) (syms T2).length q2) (List.mem_append_right _ (List.mem_cons_self ..))))
              have hq1 : (D.map (·.1)).Perm (T1 :: D1.map (·.1)) := Hperm1.out.map (·.1)
              have hq2 : (D1.map (·.1)).Perm (T2 :: D2.map (·.1)) := Hperm2.out.map (·.1)
              have hpF : (D.map (·.1)).Perm (T1 :: T2 :: D2.map (·.1)) := hq1.trans (hq2.cons T1)
              clear hq1 hq2
              have HPF := Lib.hid hpF
              have HMS := Lib.hid (mid_step HM.out hpF (fun x hx => by
                rcases List.mem_cons.1 hx with rfl | hx
                · exact Hmin1.out _ (Hperm1.out.mem_iff.2 (List.mem_cons_of_mem _ (Hperm2.out.mem_iff.2 (List.mem_cons_self ..))))
                · obtain ⟨y, hy, rfl⟩ := List.mem_map.1 hx
                  exact Hmin1.out _ (Hperm1.out.mem_iff.2 (List.mem_cons_of_mem _ (Hperm2.out.mem_iff.2 (List.mem_cons_of_mem _ hy))))) (fun x hx => by
                obtain ⟨y, hy, rfl⟩ := List.mem_map.1 hx
                exact Hmin2.out _ (Hperm2.out.mem_iff.2 (List.mem_cons_of_mem _ hy))))
              have hfl := mid_le HM.out
              have hfp := (flat_perm hpF).length_eq
              simp only [List.flatMap_cons, List.length_append] at hfp
              have hn1 := syms_pos T1
              have hn2 := syms_pos T2
              have hn12 : (syms T1).length + (syms T2).length ≤ 300 := by omega
              have HE := Lib.hid (owns_none w4 3 1)
              clear hw2 hst4 hb4 hs3 hB e0 e1 e2 HS3 Hb3 g3 g4 Ha Ha1 Ha2 HA0 HA1 HA2 HS2 Hb2 Hs3 Hsz Hmin1 Hmin2 Hperm1 Hperm2 hpF hfp hfl
              have u1 : (w4.alloc (.cells #[] 3)).cell? ⟨A, 2, none⟩ = some (.slice (some ⟨b1, 0, none⟩) (syms T1).length q1) := by rw [World.cell?_alloc_lt _ _ _ HszB.out.1]; exact a2'
              have u2 : (w4.alloc (.cells #[] 3)).cell? ⟨B, 2, none⟩ = some (.slice (some ⟨b2, 0, none⟩) (syms T2).length q2) := by rw [World.cell?_alloc_lt _ _ _ HszB.out.2]; exact f2
              have u3 : (w4.alloc (.cells #[] 3)).drew.cell? ⟨A, 2, none⟩ = some (.slice (some ⟨b1, 0, none⟩) (syms T1).length q1) := u1
              have u4 : (w4.alloc (.cells #[] 3)).drew.cell? ⟨B, 2, none⟩ = some (.slice (some ⟨b2, 0, none⟩) (syms T2).length q2) := u2
              go_upto_region 18 with fail
              go_cut [10] from 48 to 105 (fun x wx => ∃ g6 q6, x = .slice (some ⟨g6, 0, none⟩) ((syms T1).length + (syms T2).length) q6 ∧ wx.ownsRow w4.heap.size 3 1 (.slice (some ⟨g6, 0, none⟩) ((syms T1).length + (syms T2).length) q6) ((syms T1).length + (syms T2).length) ((syms T1).map sE ++ (syms T2).map sE) ∧ Below w4.heap.size w4 wx)
              case first =>
                go_region_law (first
                  | (refine step_append_lies _ rfl (.tmp 69) (.tmp 71) 50 rfl w4.heap.size 3 i0 (.int .i64 0) 1 8 Try.underlying50 hi hz0 hz1 hz2 rfl (by decide) (.slice (some ⟨w4.heap.size, 0, none⟩) 0 0) 0 [] (by simp [Act.eval]) HE.out ⟨b1, 0, none⟩ (syms T1).length q1 ((syms T1).map sE) (by simp [Act.eval]) (by simp) (HN1.out.2.2 _ (by first | exact ((Below.refl _ _).alloc (Nat.le_refl _) _).drew | exact (Below.refl _ _).drew.alloc (Nat.le_refl _) _)) (sE_one _) hn1 (by simp [maxLen]; omega) (by omega) (by simp) _ rfl ?_
                     intro g5 q5 w5 hown5 hg5 hat5 hlt5
                     rw [Nat.zero_add, List.nil_append] at hown5
                     have hb5 : Below w4.heap.size w4 w5 := Below.grown (by first | exact ((Below.refl _ _).alloc (Nat.le_refl _) _).drew | exact (Below.refl _ _).drew.alloc (Nat.le_refl _) _) hg5 (by simp) (fun k hk => by simp only [Value.ownBlock, Option.some.injEq] at hk; omega)
                     have f25 : w5.cell? ⟨B, 2, none⟩ = some (.slice (some ⟨b2, 0, none⟩) (syms T2).length q2) := by rw [hb5.cell (p := ⟨B, 2, none⟩) HszB.out.2]; exact f2
                     have Hown5 := Lib.hid hown5
                     have Hb5 := Lib.hid hb5
                     clear hown5 hg5 hat5 hlt5 hb5)
                  | (refine step_append_lies _ rfl (.tmp 72) (.tmp 74) 50 rfl w4.heap.size 3 i0 (.int .i64 0) 1 8 Try.underlying50 hi hz0 hz1 hz2 rfl (by decide) (.slice (some ⟨g5, 0, none⟩) (syms T1).length q5) (syms T1).length ((syms T1).map sE) (by simp [Act.eval]) Hown5.out ⟨b2, 0, none⟩ (syms T2).length q2 ((syms T2).map sE) (by simp [Act.eval]) (by simp) (HN2.out.2.2 _ (by first | exact Hb5.out | exact Hb5.out.drew)) (sE_one _) hn2 (by simp [maxLen]; omega) (by omega) (by first | exact Hb5.out.size | skip) _ rfl ?_
                     intro g6 q6 w6 hown6 hg6 hat6 hlt6
                     have hb6 : Below w4.heap.size w4 w6 := Below.grown (by first | exact Hb5.out | exact Hb5.out.drew) hg6 (Hb5.out.size) (fun k hk => owns_block Hown5.out k hk)
                     have Hown6 := Lib.hid hown6
                     have Hb6 := Lib.hid hb6
                     clear hown6 hg6 hat6 hlt6 hb6))
                all_goals (go_wp2_with fail; go_meet; exact ⟨g6, q6, rfl, Hown6.out, Hb6.out⟩)
              case rest =>
              obtain ⟨g6, q6, rfl, hown6, hb6⟩ := hcut
              have a0 := (hb6.cell (p := ⟨A, 0, none⟩) HszB.out.1).trans a0
              have a1 := (hb6.cell (p := ⟨A, 1, none⟩) HszB.out.1).trans a1
              have f0 := (hb6.cell (p := ⟨B, 0, none⟩) HszB.out.2).trans f0
              have f1 := (hb6.cell (p := ⟨B, 1, none⟩) HszB.out.2).trans f1
              have hg6 := owns_block hown6 g6 rfl
              have hgl : ∀ b, (Value.slice a4 D2.length c4).ownBlock = some b → b < w4.heap.size := owns_lt HS4.out.l
              have hga : g0 < w4.heap.size := Nat.lt_trans HgA.out HszB.out.1
              rw [← List.map_append] at hown6
              obtain ⟨hin6, hn6⟩ := inB_of_owns (o := (Value.slice (some ⟨g0, 0, none⟩) f.length c0).ownBlock) (p := (Value.slice a4 D2.length c4).ownBlock) hown6 (by simp only [Value.ownBlock, ne_eq, Option.some.injEq]; omega) (fun e => by have := hgl _ e; omega)
              have hstc := st_more (Y := [(.node T1 T2, .slice (some ⟨g6, 0, none⟩) ((syms T1).length + (syms T2).length) q6)]) (st_below HS4.out hb6) (fun p hp => by rw [List.mem_singleton.1 hp]; exact hin6)
              have hnd : (syms T1 ++ syms T2).Nodup := by
                have := (flat_perm HPF.out).nodup_iff.1 (mid_nodup HM.out)
                simp only [List.flatMap_cons] at this
                rw [← List.append_assoc] at this
                exact (List.nodup_append.1 this).1
              have hsl : ∀ s ∈ syms T1 ++ syms T2, s < f.length := fun s hs => mid_lt HM.out s ((flat_perm HPF.out).mem_iff.2 (by
                simp only [List.flatMap_cons]
                rcases List.mem_append.1 hs with h | h
                · exact List.mem_append_left _ h
                · exact List.mem_append_right _ (List.mem_append_left _ h)))
              have hLb : ∀ s (hs : s < L.length), 0 ≤ L[s] ∧ L[s] ≤ 300 := by
                have hml := mid_le HM.out
                have hd := HM.out.deps
                intro s hs
                have := depF_bd (D.map (·.1)) s
                have e : L[s] = depF (D.map (·.1)) s := by simp only [hd, depsL, List.getElem_map, List.getElem_range]
                omega
              obtain ⟨ss, hss⟩ : ∃ ss, syms T1 ++ syms T2 = ss := ⟨_, rfl⟩
              have hss2 : syms (.node T1 T2) = ss := hss
              rw [hn6, hss] at hstc
              rw [hss] at hnd hsl HMS
              rw [hn6, hss]
              have Hss := Lib.hid hss2
              have Hstc := Lib.hid hstc
              have Hnd := Lib.hid hnd
              have Hsl := Lib.hid hsl
              have HLb := Lib.hid hLb
              have hD2l : D2.length ≤ 300 := by omega
              have Hlen : Hid (D2.length + 2 = D.length) := by unfold Hid; omega
              have hssl : ss.length ≤ 300 := by rw [← hss, List.length_append]; exact hn12
              have Hb6 := Lib.hid (Hb4.out.trans (hb6.mono Hb4.out.size))
              have HA0 := Lib.hid a0
              have HA1 := Lib.hid a1
              have HB0 := Lib.hid f0
              have HB1 := Lib.hid f1
              have hposF := pos_perm HPF.out HM.out.pos
              have hw1 : 0 < wt T1 := hposF T1 (List.mem_cons_self ..)
              have hw2 : 0 < wt T2 := hposF T2 (List.mem_cons_of_mem _ (List.mem_cons_self ..))
              have hpos2 : Pos (D2.map (·.1)) := fun x hx => hposF x (List.mem_cons_of_mem _ (List.mem_cons_of_mem _ hx))
              have hws2 := HM.out.sum
              rw [wtSum_perm HPF.out, wtSum_cons, wtSum_cons] at hws2
              have hn2' := wtSum_nonneg hpos2
              have hwsum : wt T1 + wt T2 ≤ 1000000000 := by omega
              have hgA := HgA.out
              have hgB := HgB.out
              clear hown6 hg6 hgl hga hin6 hn6 hstc hnd hsl hLb hss hss2 hb6 a0 a1 f0 f1 a2' f2 u1 u2 u3 u4 HN1 HN2 HPF hposF hpos2 hws2 hn2' HszB HgA HgB hn12 hn1 hn2 HE HS4 HM HS Hb hlen1 hlen2
              go_wp2_with fail
              go_loopw [11] (fun i wr => ∃ j : Nat, i = .int .i64 j ∧ j ≤ ss.length ∧ St w.heap.size wr (.slice (some ⟨g0, 0, none⟩) f.length c0) (.slice a4 D2.length c4) (incTo L (ss.take j)) D2 [(.node T1 T2, .slice (some ⟨g6, 0, none⟩) ss.length q6)] ∧ wc.grownBy wr (some g0)) (fun i _ => ss.length - (intOf i).toNat)
              case atStart => exact ⟨0, rfl, Nat.zero_le _, Hstc.out, grown_refl _ _⟩
              case round =>
                clear Hstc
                obtain ⟨j, rfl, hj, hst, hg⟩ := hrel
                have HS := Lib.hid hst
                have Hg := Lib.hid hg
                clear hst hg
                by_cases hjl : j < ss.length
                · have hin := HS.out.tr _ (List.mem_append_right _ (List.mem_cons_self ..))
                  rw [Hss.out] at hin
                  have e0 := (inB_news hin).2.2 _ (Below.refl _ _) j (sE ss[j]) (by rw [List.getElem?_map, List.getElem?_eq_getElem hjl]; rfl)
                  rw [add_none, Nat.zero_add] at e0
                  have hsl := Hsl.out ss[j] (List.getElem_mem hjl)
                  have hsL : ss[j] < L.length := by rw [HL.out]; exact hsl
                  have hbd := HLb.out ss[j] hsL
                  obtain ⟨n1, n2⟩ := incTo_next Hnd.out hjl hsL
                  have hlen : (incTo L (ss.take j)).length = f.length := by rw [incTo_length]; exact HL.out
                  have ho := HS.out.out
                  rw [hlen] at ho
                  have e1 : wr.cell? ⟨g0, ss[j], none⟩ = some (.int .i64 L[ss[j]]) := by rw [ho.cellAt ss[j] (by omega), List.getElem?_map, n1]; rfl
                  have e2 : wr.frozen? ⟨g0, ss[j], none⟩ = false := ho.frozenAt ss[j]
                  have hset := st_set HS.out hlen ss[j] (L[ss[j]] + 1)
                  rw [n2] at hset
                  have Hset := Lib.hid hset
                  have Hgs := Lib.hid (grown_trans Hg.out (ho.stored ss[j] (.int .i64 (L[ss[j]] + 1))).2)
                  have g1 : (j : Int) < (ss.length : Int) := by omega
                  have g2 : (0 : Int) ≤ (j : Int) := by omega
                  clear hin n1 n2 hlen ho hset
                  dsimp only [sE] at e0
                  generalize L[ss[j]] = y at *
                  clear hsL
                  generalize ss[j] = s at *
                  have g3 : (s : Int) < (f.length : Int) := by omega
                  have g4 : (0 : Int) ≤ (s : Int) := by omega
                  go_wp2_with fail
                  exact ⟨⟨j + 1, by go_num, by omega, Hset.out, Hgs.out⟩, by simp [intOf]; omega⟩
                · obtain rfl : j = ss.length := by omega
                  have hst := HS.out
                  rw [List.take_length] at hst
                  have a0 := Hg.out.cell HA0.out (by simp only [ne_eq, Option.some.injEq]; omega)
                  have a1 := Hg.out.cell HA1.out (by simp only [ne_eq, Option.some.injEq]; omega)
                  have f0 := Hg.out.cell HB0.out (by simp only [ne_eq, Option.some.injEq]; omega)
                  have f1 := Hg.out.cell HB1.out (by simp only [ne_eq, Option.some.injEq]; omega)
                  have HSt := Lib.hid hst
                  have HBl := Lib.hid (Hb6.out.grown Hg.out Hb6.out.size (fun k hk => by injection hk with hk; omega))
                  have x1 : IntKind.i64.wrap (wt T1 + wt T2) = wt T1 + wt T2 := IntWalk.i64_in _ (by omega)
                  have hLl : (incTo L ss).length = f.length := by rw [incTo_length]; exact HL.out
                  have HLl := Lib.hid hLl
                  have hsz9 := HBl.out.size
                  clear hst HA0 HA1 HB0 HB1 HS hLl
                  rcases (show (min (nm T1) (nm T2) = nm T2 ∧ nm T2 < nm T1) ∨ (min (nm T1) (nm T2) = nm T1 ∧ ¬ nm T2 < nm T1) by omega) with ⟨hmin, hmn⟩ | ⟨hmin, hmn⟩
                  · have Hmin : Hid (nm (.node T1 T2) = nm T2) := hmin
                    clear hmin
                    go_wp2_with (first
                      | (at_builtin; refine wpList_append_own_at _ rfl _ _ 104 rfl w.heap.size 106 j0 _ 3 40 Try.underlying104 hJ hjz0 hjz1 hjz2 rfl (by decide) (.slice a4 D2.length c4) _ _ rfl (HSt.out.l.alloc _) ⟨wr.heap.size, 0, none⟩ 1 1 [.int .i64 (wt T1 + wt T2), .int .i64 (nm T2 : Nat), .slice (some ⟨g6, 0, none⟩) ss.length q6] rfl rfl (cells_three_new wr _ _ _ _) (three_one _ _ _ _ _) (by simp [maxLen]; omega) (by omega) (by simp; omega) ?_
                         intro v9 w9 hown9 hg9 _ hat9
                         have HS9 := Lib.hid (st_l (T := .node T1 T2) (v := .slice (some ⟨g6, 0, none⟩) ss.length q6) (st_alloc HSt.out _) ((st_alloc HSt.out _).tr _ (List.mem_append_right _ (List.mem_cons_self ..))) (by rw [Hmin.out]; exact hown9) hg9 hat9)
                         have hb9 := (HBl.out.alloc hsz9 _).grown hg9 (by simp; omega) (fun b hbk => owns_block HSt.out.l b hbk)
                         have Hsh9 := Lib.hid (owns_shape hown9)
                         have Hb9 := Lib.hid hb9
                         clear hown9 hg9 hat9 hb9)
                      | fail)
                    have hst9 := st_more (Y := []) HS9.out (fun p hp => by cases hp)
                    obtain ⟨a9, c9, rfl, _⟩ := Hsh9.out
                    refine ⟨⟨incTo L ss, D2 ++ [(.node T1 T2, .slice (some ⟨g6, 0, none⟩) ss.length q6)], HLl.out, by simp, by simp; have := Hlen.out; omega, by rw [List.map_append]; exact HMS.out, hst9, Hb9.out⟩, ?_⟩
                    show D2.length + 1 < D.length
                    have := Hlen.out; omega
                  · have Hmin : Hid (nm (.node T1 T2) = nm T1) := hmin
                    clear hmin
                    go_wp2_with (first
                      | (at_builtin; refine wpList_append_own_at _ rfl _ _ 104 rfl w.heap.size 106 j0 _ 3 40 Try.underlying104 hJ hjz0 hjz1 hjz2 rfl (by decide) (.slice a4 D2.length c4) _ _ rfl (HSt.out.l.alloc _) ⟨wr.heap.size, 0, none⟩ 1 1 [.int .i64 (wt T1 + wt T2), (.int .i64 (nm T1 : Nat)), .slice (some ⟨g6, 0, none⟩) ss.length q6] rfl rfl (cells_three_new wr _ _ _ _) (three_one _ _ _ _ _) (by simp [maxLen]; omega) (by omega) (by simp; omega) ?_
                         intro v9 w9 hown9 hg9 _ hat9
                         have HS9 := Lib.hid (st_l (T := .node T1 T2) (v := .slice (some ⟨g6, 0, none⟩) ss.length q6) (st_alloc HSt.out _) ((st_alloc HSt.out _).tr _ (List.mem_append_right _ (List.mem_cons_self ..))) (by rw [Hmin.out]; exact hown9) hg9 hat9)
                         have hb9 := (HBl.out.alloc hsz9 _).grown hg9 (by simp; omega) (fun b hbk => owns_block HSt.out.l b hbk)
                         have Hsh9 := Lib.hid (owns_shape hown9)
                         have Hb9 := Lib.hid hb9
                         clear hown9 hg9 hat9 hb9)
                      | fail)
                    have hst9 := st_more (Y := []) HS9.out (fun p hp => by cases hp)
                    obtain ⟨a9, c9, rfl, _⟩ := Hsh9.out
                    refine ⟨⟨incTo L ss, D2 ++ [(.node T1 T2, .slice (some ⟨g6, 0, none⟩) ss.length q6)], HLl.out, by simp, by simp; have := Hlen.out; omega, by rw [List.map_append]; exact HMS.out, hst9, Hb9.out⟩, ?_⟩
                    show D2.length + 1 < D.length
                    have := Hlen.out; omega
            · obtain ⟨p, hD1⟩ : ∃ p, D = [p] := List.length_eq_one_iff.1 (by omega)
              subst hD1
              have HO := Lib.hid (mid_one HM.out)
              have ho := HS.out.out
              clear cell1
              simp only [List.length_cons, List.length_nil, Nat.zero_add] at *
              go_wp2_with fail
              go_ret
              exact ⟨_, _, rfl, ho, HO.out, Hb.out⟩
end Go.Proofs.Ytolappilfjhfaaa
namespace Go.Proofs.Ytolappilfjhfaaa
open Go.RowKit

/-- Is a length above 15? -/
def deepB (L : List Int) : Bool := L.any fun x => decide (15 < x)
theorem deepB_false {L : List Int} : deepB L = false ↔ maxOk L := by
  unfold deepB maxOk
  rw [List.any_eq_false]
  constructor
  · intro h x hx; have := h x hx; simp at this; exact this
  · intro h x hx; have := h x hx; simp; exact this

set_option maxRecDepth 100000 in
set_option maxHeartbeats 1000000 in
theorem deep_any (v : Value) (f : List Int) (w : World) (hv : IntsV w v f) (hl : f.length ≤ 140737488355328) :
    Calls Try.prog 61 #[v] w fun e w' => e = .returned (.bool (deepB f)) ∧ w = w' := by
  have HV := Lib.hid hv
  obtain ⟨aX, cX, rfl, hcX, hnX, hcellX⟩ := hv
  clear hcellX hnX
  go_enter Try.func61, Try.ntmps61
  go_wp2_with fail
  go_loop [3] (fun i => ∃ k : Nat, k ≤ f.length ∧ i = .int .i64 k ∧ ∀ x ∈ f.take k, x ≤ 15) (fun i => f.length - (intOf i).toNat)
  case atStart => exact ⟨0, Nat.zero_le _, rfl, by simp⟩
  case round =>
    obtain ⟨k, hk, rfl, hall⟩ := hrel
    have Hall := Lib.hid hall
    clear hall
    by_cases hlt : k < f.length
    · rcases sl_one HV.out with ⟨rfl, _⟩ | ⟨_, bX, oX, cX', hveq, _, hbX, cellX⟩
      · simp at hlt
      injection hveq with q1 q2 q3
      subst q1 q3
      have e0 := cellX k hlt
      have HT := Lib.hid (List.take_succ_eq_append_getElem hlt)
      have hmem : f[k] ∈ f := List.getElem_mem hlt
      have hbad : 15 < f[k] → deepB f = true := fun hx => List.any_eq_true.2 ⟨_, hmem, by simpa using hx⟩
      have Hbad := Lib.hid hbad
      have g2 : (k : Int) < (f.length : Int) := by omega
      have g3 : (0 : Int) ≤ (k : Int) := by omega
      clear cellX q2 hmem hbad
      generalize f[k] = x at *
      by_cases hx0 : 15 < x
      · have HNo := Lib.hid (Hbad.out (by omega))
        have b1 : decide (15 < x) = true := by simpa using hx0
        go_wp2_with fail
        go_ret
        exact ⟨by rw [HNo.out]; rfl, rfl⟩
      have b1 : decide (15 < x) = false := by simpa using hx0
      go_wp2_with fail
      exact ⟨⟨k + 1, by omega, by go_num, fun y hy => by
        rw [HT.out, List.mem_append, List.mem_singleton] at hy
        rcases hy with hy | rfl
        · exact Hall.out y hy
        · omega⟩, by simp [intOf]; omega⟩
    · obtain rfl : k = f.length := by omega
      have hm : deepB f = false := by
        have hrg := Hall.out
        rw [List.take_length] at hrg
        exact deepB_false.2 hrg
      have HM := Lib.hid hm
      clear hm
      go_wp2_with fail
      go_ret
      exact ⟨by rw [HM.out]; rfl, rfl⟩
end Go.Proofs.Ytolappilfjhfaaa
namespace Go.Proofs.Ytolappilfjhfaaa
open Go.RowKit

section
variable {P : Program} {l : List Oper} {Q : Exit → Act → World → Prop} {a : Act} {w : World}

theorem reg_start {id : Nat} (hm : P.follows .mixedOrders = true) (n : Nat) (hn : l.toArray.size = n)
    (h : wpAny P .any l.toArray Q n (Array.replicate n false) a w.drew) : (Code.region id l.toArray true).wp P Q a w := by
  subst hn
  exact wp_region_any hm h
/-- The next one must come. -/
theorem reg_forced {fuel : Nat} {listed : Array Bool} {o : Oper} (k : Nat) (ho : l[k]? = some o) (hr : Region.ready .any l.toArray listed = [k])
    (h : ∀ K' : Act → World → Prop, Hid (∀ a w, wpAny P .any l.toArray Q fuel (listed.setIfInBounds k true) a w → K' a w) → if Region.wanted o (yielded l.toArray a.tmps) = true then Oper.wp P o a w K' Q else K' (a.put o.dst undef) w) :
    wpAny P .any l.toArray Q (fuel + 1) listed a w := by
  refine wpAny_ready hr (by simp) (AllReady.cons (by simpa using ho) h AllReady.nil)
/-- The rest only reads. -/
theorem reg_rest {fuel : Nat} {listed : Array Bool} (k : Nat) (hf : fuel = (l.drop k).length) (hs : Region.noSelect l.toArray = true)
    (hB : Region.lexFrom .any l.toArray (l.drop k).length k listed = true)
    (h : wpQuiet P l.toArray (fun w' => ∃ n, w' = w.drewN n) (fun a' => ∀ w', (∃ n, w' = w.drewN n) → Q .normal a' w') (l.drop k) a) :
    wpAny P .any l.toArray Q fuel listed a w := by
  subst hf
  refine wpAny_of_quiet (C := fun w' => ∃ n, w' = w.drewN n) (Q := fun a' => ∀ w', (∃ n, w' = w.drewN n) → Q .normal a' w') (fun _ w' hw' h => h w' hw') _ _ _ _ ⟨0, rfl⟩ ?_
  exact wpAnyQ_lex hs (l.drop k) k listed a (fun j => by rw [List.getElem?_drop]; simp) hB h
end
end Go.Proofs.Ytolappilfjhfaaa
