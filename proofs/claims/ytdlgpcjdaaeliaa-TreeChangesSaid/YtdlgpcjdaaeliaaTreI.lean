/- The document's Walk, Cut, Put. Conditions: numbers fit. -/
import Derived.Test.YtdlgpcjdaaeliaaTreH
namespace Go.Proofs.Ytdlgpcjdaaeliaa
open Go.RowKit

def walkP (l : List (Int × Int)) (a b : Int) : List (Int × Int) := l.filter fun p => decide (a ≤ p.1) && decide (p.1 < b)
def cutP (l : List (Int × Int)) (x : Int) : List (Int × Int) := l.filter fun p => p.1 != x
/-- Pairs with one more, or another value, from a place on; laid: it lies already. -/
def putR (k v : Int) : List (Int × Int) → Bool → List (Int × Int)
  | [], laid => if laid then [] else [(k, v)]
  | x :: l, laid => (if laid = false ∧ k ≤ x.1 then [(k, v)] else []) ++ (if x.1 ≠ k then [x] else []) ++ putR k v l (laid || decide (k ≤ x.1))
def putP (l : List (Int × Int)) (k v : Int) : List (Int × Int) := putR k v l false
theorem putR_len (k v : Int) : ∀ (l : List (Int × Int)) (b : Bool), (putR k v l b).length ≤ l.length + 1
  | [], b => by rw [putR]; split <;> simp
  | x :: l, b => by
    have ht := putR_len2 k v l
    have := putR_len k v l (b || decide (k ≤ x.1))
    rw [putR, List.length_append, List.length_append, List.length_cons]
    by_cases h : b = false ∧ k ≤ x.1
    · have h1 : (b || decide (k ≤ x.1)) = true := by simp [h.2]
      rw [h1, if_pos h] at *
      split <;> simp <;> omega
    · rw [if_neg h]
      split <;> simp <;> omega
where putR_len2 (k v : Int) : ∀ (l : List (Int × Int)), (putR k v l true).length ≤ l.length
  | [] => by simp [putR]
  | x :: l => by
    rw [putR, if_neg (by simp), List.nil_append, List.length_append, List.length_cons, Bool.true_or]
    have := putR_len2 k v l
    split <;> simp <;> omega

/-- A row of pairs in a function's own memory. -/
abbrev OwnQ (w : World) (base : Nat) (v : Value) (n : Nat) (l : List (Int × Int)) : Prop := w.ownsRow base 51 2 v n (cellsE pairE l)

set_option maxRecDepth 100000 in
set_option maxHeartbeats 8000000 in
theorem walkR_any (u : Value) (l : List (Int × Int)) (x y : Int) (w : World) (hu : Prs w u l) (hl : l.length ≤ 1000000) :
    Calls Try.prog 17 #[u, .int .i64 x, .int .i64 y] w fun e w' => ∃ (a : Option Addr) (cap : Nat) (r : List (Int × Int)), e = .returned (.slice a r.length cap) ∧ Hid (r = walkP l x y) ∧ OwnP w' w.heap.size (.slice a r.length cap) r ∧ Below w.heap.size w w' := by
  obtain ⟨i0, hi, hz0, hz1, hz2⟩ := info_parts info_pair
  have HU := Lib.hid hu
  obtain ⟨a1, c1, rfl⟩ := sl_shape hu
  clear hu
  have HOe := Lib.hid (owns_emptyE w 51 2)
  go_enter Try.func17, Try.ntmps17
  go_wp2_with fail
  go_loopw [7, 8] (fun uo ui wr => ∃ (k m : Nat) (r : List (Int × Int)) (a : Option Addr) (c : Nat), ui = .int .i64 k ∧ uo = .slice a m c ∧ k ≤ l.length ∧ m ≤ k ∧ Hid (r = walkP (l.take k) x y) ∧ OwnQ wr w.heap.size (.slice a m c) m r ∧ Below w.heap.size w wr) (fun _ ui _ => l.length - (intOf ui).toNat)
  case atStart => exact ⟨0, 0, [], _, _, rfl, rfl, Nat.zero_le _, Nat.zero_le _, by unfold Hid; simp [walkP], HOe.out, (Below.refl _ _).alloc (Nat.le_refl _) _⟩
  case round =>
    obtain ⟨k, m, r, a0, c0, rfl, rfl, hk, hmk, hr, hown, hm⟩ := hrel
    have Hm := Lib.hid hm
    have HO := Lib.hid hown
    clear hown
    by_cases hkl : k < l.length
    · obtain ⟨b1, o1, hveq, hb1, E0, E1⟩ := prs_at (sl_below HU.out hm) hkl
      subst hveq
      have HS : Hid (walkP (l.take (k + 1)) x y = walkP (l.take k) x y ++ if (decide (x ≤ l[k].1) && decide (l[k].1 < y)) = true then [l[k]] else []) := by
        unfold Hid walkP
        rw [List.take_succ_eq_append_getElem hkl, List.filter_append, List.filter_cons, List.filter_nil]
      have hsr := hm.size
      clear hm
      generalize l[k] = t at *
      obtain ⟨tb, td⟩ := t
      dsimp only at E0 E1 HS
      by_cases h1 : x ≤ tb
      · have b1 : decide (x ≤ tb) = true := decide_eq_true h1
        by_cases h2 : tb < y
        · have b2 : decide (tb < y) = true := decide_eq_true h2
          have HN : Hid (r ++ [(tb, td)] = walkP (l.take (k + 1)) x y) := by unfold Hid; rw [HS.out, b1, b2, hr.out]; rfl
          clear HS h1 h2
          go_wp2_with (first
            | (at_builtin; refine wpList_append_own_at _ rfl _ _ 32 rfl w.heap.size 51 i0 _ 2 16 Try.underlying32 hi hz0 hz1 hz2 rfl (by decide) (.slice a0 m c0) _ _ rfl (HO.out.alloc _) ⟨wr.heap.size, 0, none⟩ 1 1 (pairE (tb, td)) rfl rfl (cells_newE _ _ _) (pairE_ok.one _) (by simp [maxLen]; omega) (by omega) (by simp; omega) ?_; intro v3 w3 hown3 hgrow3 _ hloc3)
            | fail)
          obtain ⟨a3, c3, rfl, _⟩ := owns_shape hown3
          have HB3 := Lib.hid ((Hm.out.alloc hsr _).grown hgrow3 (by simp; omega) (fun b hbk => owns_block HO.out b hbk))
          have HO3 := Lib.hid hown3
          clear hown3 hgrow3 hloc3
          go_wp2_with fail
          exact ⟨⟨k + 1, m + 1, r ++ [(tb, td)], a3, c3, by go_num, rfl, by omega, by omega, HN.out, by unfold OwnQ; rw [cellsE_append]; exact HO3.out, HB3.out⟩, by simp [intOf]; omega⟩
        · have b2 : decide (tb < y) = false := decide_eq_false h2
          have HN : Hid (r = walkP (l.take (k + 1)) x y) := by unfold Hid; rw [HS.out, b1, b2, if_neg (by simp), List.append_nil, hr.out]
          clear HS h1 h2
          go_wp2_with fail
          exact ⟨⟨k + 1, m, r, a0, c0, by go_num, rfl, by omega, by omega, HN.out, HO.out, Hm.out⟩, by simp [intOf]; omega⟩
      · have b1 : decide (x ≤ tb) = false := decide_eq_false h1
        have HN : Hid (r = walkP (l.take (k + 1)) x y) := by unfold Hid; rw [HS.out, b1, if_neg (by simp), List.append_nil, hr.out]
        clear HS h1
        go_wp2_with fail
        exact ⟨⟨k + 1, m, r, a0, c0, by go_num, rfl, by omega, by omega, HN.out, HO.out, Hm.out⟩, by simp [intOf]; omega⟩
    · obtain rfl : k = l.length := by omega
      have HN : Hid (r = walkP l x y) := by unfold Hid; rw [hr.out, List.take_length]
      have hml := (sl_of_ownsE pairE_ok HO.out).2
      have Hml := Lib.hid hml
      clear hm hml
      go_wp2_with fail
      go_ret
      exact ⟨a0, c0, r, by rw [Hml.out]; rfl, HN.out, by rw [← Hml.out]; unfold OwnP; rw [← Hml.out]; exact HO.out, Hm.out⟩

set_option maxRecDepth 100000 in
set_option maxHeartbeats 8000000 in
theorem cutR_any (u : Value) (l : List (Int × Int)) (x : Int) (w : World) (hu : Prs w u l) (hl : l.length ≤ 1000000) :
    Calls Try.prog 20 #[u, .int .i64 x] w fun e w' => ∃ (a : Option Addr) (cap : Nat) (r : List (Int × Int)), e = .returned (.slice a r.length cap) ∧ Hid (r = cutP l x) ∧ OwnP w' w.heap.size (.slice a r.length cap) r ∧ Below w.heap.size w w' := by
  obtain ⟨i0, hi, hz0, hz1, hz2⟩ := info_parts info_pair
  have HU := Lib.hid hu
  obtain ⟨a1, c1, rfl⟩ := sl_shape hu
  clear hu
  have HOe := Lib.hid (owns_emptyE w 51 2)
  go_enter Try.func20, Try.ntmps20
  go_wp2_with fail
  go_loopw [5, 6] (fun uo ui wr => ∃ (k m : Nat) (r : List (Int × Int)) (a : Option Addr) (c : Nat), ui = .int .i64 k ∧ uo = .slice a m c ∧ k ≤ l.length ∧ m ≤ k ∧ Hid (r = cutP (l.take k) x) ∧ OwnQ wr w.heap.size (.slice a m c) m r ∧ Below w.heap.size w wr) (fun _ ui _ => l.length - (intOf ui).toNat)
  case atStart => exact ⟨0, 0, [], _, _, rfl, rfl, Nat.zero_le _, Nat.zero_le _, by unfold Hid; simp [cutP], HOe.out, (Below.refl _ _).alloc (Nat.le_refl _) _⟩
  case round =>
    obtain ⟨k, m, r, a0, c0, rfl, rfl, hk, hmk, hr, hown, hm⟩ := hrel
    have Hm := Lib.hid hm
    have HO := Lib.hid hown
    clear hown
    by_cases hkl : k < l.length
    · obtain ⟨b1, o1, hveq, hb1, E0, E1⟩ := prs_at (sl_below HU.out hm) hkl
      subst hveq
      have HS : Hid (cutP (l.take (k + 1)) x = cutP (l.take k) x ++ if (l[k].1 != x) = true then [l[k]] else []) := by
        unfold Hid cutP
        rw [List.take_succ_eq_append_getElem hkl, List.filter_append, List.filter_cons, List.filter_nil]
      have hsr := hm.size
      clear hm
      generalize l[k] = t at *
      obtain ⟨tb, td⟩ := t
      dsimp only at E0 E1 HS
      by_cases h1 : tb = x
      · have b1 : (tb != x) = false := by simpa using h1
        have HN : Hid (r = cutP (l.take (k + 1)) x) := by unfold Hid; rw [HS.out, b1, if_neg (by simp), List.append_nil, hr.out]
        clear HS h1
        go_wp2_with fail
        exact ⟨⟨k + 1, m, r, a0, c0, by go_num, rfl, by omega, by omega, HN.out, HO.out, Hm.out⟩, by simp [intOf]; omega⟩
      · have b1 : (tb != x) = true := by simpa using h1
        have HN : Hid (r ++ [(tb, td)] = cutP (l.take (k + 1)) x) := by unfold Hid; rw [HS.out, b1, hr.out]; rfl
        clear HS h1
        go_wp2_with (first
          | (at_builtin; refine wpList_append_own_at _ rfl _ _ 32 rfl w.heap.size 51 i0 _ 2 16 Try.underlying32 hi hz0 hz1 hz2 rfl (by decide) (.slice a0 m c0) _ _ rfl (HO.out.alloc _) ⟨wr.heap.size, 0, none⟩ 1 1 (pairE (tb, td)) rfl rfl (cells_newE _ _ _) (pairE_ok.one _) (by simp [maxLen]; omega) (by omega) (by simp; omega) ?_; intro v3 w3 hown3 hgrow3 _ hloc3)
          | fail)
        obtain ⟨a3, c3, rfl, _⟩ := owns_shape hown3
        have HB3 := Lib.hid ((Hm.out.alloc hsr _).grown hgrow3 (by simp; omega) (fun b hbk => owns_block HO.out b hbk))
        have HO3 := Lib.hid hown3
        clear hown3 hgrow3 hloc3
        go_wp2_with fail
        exact ⟨⟨k + 1, m + 1, r ++ [(tb, td)], a3, c3, by go_num, rfl, by omega, by omega, HN.out, by unfold OwnQ; rw [cellsE_append]; exact HO3.out, HB3.out⟩, by simp [intOf]; omega⟩
    · obtain rfl : k = l.length := by omega
      have HN : Hid (r = cutP l x) := by unfold Hid; rw [hr.out, List.take_length]
      have hml := (sl_of_ownsE pairE_ok HO.out).2
      have Hml := Lib.hid hml
      clear hm hml
      go_wp2_with fail
      go_ret
      exact ⟨a0, c0, r, by rw [Hml.out]; rfl, HN.out, by rw [← Hml.out]; unfold OwnP; rw [← Hml.out]; exact HO.out, Hm.out⟩
set_option maxRecDepth 100000 in
set_option maxHeartbeats 8000000 in
theorem putR_any (u : Value) (l : List (Int × Int)) (x y : Int) (w : World) (hu : Prs w u l) (hl : l.length ≤ 1000000) :
    Calls Try.prog 22 #[u, .int .i64 x, .int .i64 y] w fun e w' => ∃ (a : Option Addr) (cap : Nat) (r : List (Int × Int)), e = .returned (.slice a r.length cap) ∧ Hid (r = putP l x y) ∧ OwnP w' w.heap.size (.slice a r.length cap) r ∧ Below w.heap.size w w' := by
  obtain ⟨i0, hi, hz0, hz1, hz2⟩ := info_parts info_pair
  have HU := Lib.hid hu
  obtain ⟨a1, c1, rfl⟩ := sl_shape hu
  clear hu
  have HOe := Lib.hid (owns_emptyE w 51 2)
  have HLn : Hid ((putP l x y).length ≤ l.length + 1) := putR_len x y l false
  go_enter Try.func22, Try.ntmps22
  go_wp2_with fail
  go_loopw [7, 8, 9] (fun uo ub ui wr => ∃ (k m : Nat) (r : List (Int × Int)) (a : Option Addr) (c : Nat) (b : Bool), ui = .int .i64 k ∧ ub = .bool b ∧ uo = .slice a m c ∧ k ≤ l.length ∧ m ≤ 1000001 ∧ Hid (m = r.length) ∧ Hid (r ++ putR x y (l.drop k) b = putP l x y) ∧ OwnQ wr w.heap.size (.slice a m c) m r ∧ Below w.heap.size w wr) (fun _ _ ui _ => l.length - (intOf ui).toNat)
  case atStart => exact ⟨0, 0, [], _, _, false, rfl, rfl, rfl, Nat.zero_le _, Nat.zero_le _, rfl, rfl, HOe.out, (Below.refl _ _).alloc (Nat.le_refl _) _⟩
  case round =>
    obtain ⟨k, m, r, a0, c0, b, rfl, rfl, rfl, hk, hmk, hml, hr, hown, hm⟩ := hrel
    have Hm := Lib.hid hm
    have HO := Lib.hid hown
    clear hown
    by_cases hkl : k < l.length
    · obtain ⟨bx, o1, hveq, hb1, E0, E1⟩ := prs_at HU.out hkl
      subst hveq
      have HC : Hid (∀ wx, Below w.heap.size w wx → wx.cell? ⟨bx, o1 + k * 2, none⟩ = some (.int .i64 l[k].1) ∧ wx.cell? ⟨bx, o1 + k * 2 + 1, none⟩ = some (.int .i64 l[k].2)) :=
        fun wx hx => ⟨(hx.cell (p := ⟨bx, o1 + k * 2, none⟩) hb1).trans E0, (hx.cell (p := ⟨bx, o1 + k * 2 + 1, none⟩) hb1).trans E1⟩
      clear E0 E1
      obtain ⟨E0, E1⟩ := HC.out wr hm
      have HS : Hid (putR x y (l.drop k) b = (if b = false ∧ x ≤ l[k].1 then [(x, y)] else []) ++ (if l[k].1 ≠ x then [l[k]] else []) ++ putR x y (l.drop (k + 1)) (b || decide (x ≤ l[k].1))) := by
        unfold Hid
        rw [List.drop_eq_getElem_cons hkl, putR]
      have hsr := hm.size
      clear hm
      generalize l[k] = t at *
      obtain ⟨tb, td⟩ := t
      dsimp only at E0 E1 HS HC
      cases b with
      | false =>
        by_cases h1 : x ≤ tb
        · have b1 : decide (x ≤ tb) = true := decide_eq_true h1
          by_cases h2 : tb = x
          · have b2 : (tb != x) = false := by simpa using h2
            have HN : Hid ((r ++ [(x, y)]) ++ putR x y (l.drop (k + 1)) true = putP l x y) := by
              unfold Hid; rw [← hr.out, HS.out, if_pos ⟨rfl, h1⟩, if_neg (by simpa using h2), b1]; simp
            have HM9 : Hid (m + 1 ≤ 1000001) := by have h := HLn.out; rw [← HN.out] at h; simp only [List.length_append, List.length_cons, List.length_nil] at h; have := hml.out; unfold Hid; omega
            clear HS h1 h2
            go_wp2_with (first
              | (at_builtin; refine wpList_append_own_at _ rfl _ _ 32 rfl w.heap.size 51 i0 _ 2 16 Try.underlying32 hi hz0 hz1 hz2 rfl (by decide) (.slice a0 m c0) _ _ rfl (HO.out.alloc _) ⟨wr.heap.size, 0, none⟩ 1 1 (pairE (x, y)) rfl rfl (cells_newE _ _ _) (pairE_ok.one _) (by simp [maxLen]; omega) (by omega) (by have := Hm.out.size; simp; omega) ?_; intro v3 w3 hown3 hgrow3 _ hloc3
                 have HB3 := Lib.hid ((Hm.out.alloc Hm.out.size _).grown hgrow3 (by have := Hm.out.size; simp; omega) (fun b hbk => owns_block HO.out b hbk))
                 obtain ⟨E0', E1'⟩ := HC.out w3 HB3.out
                 obtain ⟨a3, c3, rfl, _⟩ := owns_shape hown3
                 have HO3 := Lib.hid hown3
                 clear hown3 hgrow3 hloc3)
              | fail)
            go_wp2_with fail
            exact ⟨⟨k + 1, m + 1, r ++ [(x, y)], a3, c3, true, by go_num, rfl, rfl, by omega, HM9.out, by unfold Hid; rw [hml.out]; simp, HN.out, by unfold OwnQ; rw [cellsE_append]; exact HO3.out, HB3.out⟩, by simp [intOf]; omega⟩
          · have b2 : (tb != x) = true := by simpa using h2
            have HN : Hid ((r ++ [(x, y)] ++ [(tb, td)]) ++ putR x y (l.drop (k + 1)) true = putP l x y) := by
              unfold Hid; rw [← hr.out, HS.out, if_pos ⟨rfl, h1⟩, if_pos (by simpa using h2), b1]; simp
            have HM9 : Hid (m + 1 + 1 ≤ 1000001) := by have h := HLn.out; rw [← HN.out] at h; simp only [List.length_append, List.length_cons, List.length_nil] at h; have := hml.out; unfold Hid; omega
            clear HS h1 h2
            go_wp2_with (first
              | (at_builtin; refine wpList_append_own_at _ rfl _ _ 32 rfl w.heap.size 51 i0 _ 2 16 Try.underlying32 hi hz0 hz1 hz2 rfl (by decide) (.slice a0 m c0) _ _ rfl (HO.out.alloc _) ⟨wr.heap.size, 0, none⟩ 1 1 (pairE (x, y)) rfl rfl (cells_newE _ _ _) (pairE_ok.one _) (by simp [maxLen]; omega) (by omega) (by have := Hm.out.size; simp; omega) ?_; intro v3 w3 hown3 hgrow3 _ hloc3
                 have HB3 := Lib.hid ((Hm.out.alloc Hm.out.size _).grown hgrow3 (by have := Hm.out.size; simp; omega) (fun b hbk => owns_block HO.out b hbk))
                 obtain ⟨E0', E1'⟩ := HC.out w3 HB3.out
                 obtain ⟨a3, c3, rfl, _⟩ := owns_shape hown3
                 have HO3 := Lib.hid hown3
                 clear hown3 hgrow3 hloc3)
              | (at_builtin; refine wpList_append_own_at _ rfl _ _ 32 rfl w.heap.size 51 i0 _ 2 16 Try.underlying32 hi hz0 hz1 hz2 rfl (by decide) (.slice a3 (m + 1) c3) _ _ rfl (HO3.out.alloc _) ⟨w3.heap.size, 0, none⟩ 1 1 (pairE (tb, td)) rfl rfl (cells_newE _ _ _) (pairE_ok.one _) (by simp [maxLen]; omega) (by omega) (by have := HB3.out.size; simp; omega) ?_; intro v4 w4 hown4 hgrow4 _ hloc4
                 have HB4 := Lib.hid ((HB3.out.alloc HB3.out.size _).grown hgrow4 (by have := HB3.out.size; simp; omega) (fun b hbk => owns_block HO3.out b hbk))
                 obtain ⟨a4, c4, rfl, _⟩ := owns_shape hown4
                 have HO4 := Lib.hid hown4
                 clear hown4 hgrow4 hloc4)
              | fail)
            go_wp2_with fail
            exact ⟨⟨k + 1, m + 1 + 1, r ++ [(x, y)] ++ [(tb, td)], a4, c4, true, by go_num, rfl, rfl, by omega, HM9.out, by unfold Hid; rw [hml.out]; simp, HN.out, by unfold OwnQ; rw [cellsE_append, cellsE_append]; exact HO4.out, HB4.out⟩, by simp [intOf]; omega⟩
        · have b1 : decide (x ≤ tb) = false := decide_eq_false h1
          have b2 : (tb != x) = true := by simp; omega
          have HN : Hid ((r ++ [(tb, td)]) ++ putR x y (l.drop (k + 1)) false = putP l x y) := by
            unfold Hid; rw [← hr.out, HS.out, if_neg (by simp [h1]), if_pos (by simp; omega), b1]; simp
          have HM9 : Hid (m + 1 ≤ 1000001) := by have h := HLn.out; rw [← HN.out] at h; simp only [List.length_append, List.length_cons, List.length_nil] at h; have := hml.out; unfold Hid; omega
          clear HS h1
          go_wp2_with (first
            | (at_builtin; refine wpList_append_own_at _ rfl _ _ 32 rfl w.heap.size 51 i0 _ 2 16 Try.underlying32 hi hz0 hz1 hz2 rfl (by decide) (.slice a0 m c0) _ _ rfl (HO.out.alloc _) ⟨wr.heap.size, 0, none⟩ 1 1 (pairE (tb, td)) rfl rfl (cells_newE _ _ _) (pairE_ok.one _) (by simp [maxLen]; omega) (by omega) (by have := Hm.out.size; simp; omega) ?_; intro v3 w3 hown3 hgrow3 _ hloc3
               have HB3 := Lib.hid ((Hm.out.alloc Hm.out.size _).grown hgrow3 (by have := Hm.out.size; simp; omega) (fun b hbk => owns_block HO.out b hbk))
               obtain ⟨E0', E1'⟩ := HC.out w3 HB3.out
               obtain ⟨a3, c3, rfl, _⟩ := owns_shape hown3
               have HO3 := Lib.hid hown3
               clear hown3 hgrow3 hloc3)
            | fail)
          go_wp2_with fail
          exact ⟨⟨k + 1, m + 1, r ++ [(tb, td)], a3, c3, false, by go_num, rfl, rfl, by omega, HM9.out, by unfold Hid; rw [hml.out]; simp, HN.out, by unfold OwnQ; rw [cellsE_append]; exact HO3.out, HB3.out⟩, by simp [intOf]; omega⟩
      | true =>
        by_cases h2 : tb = x
        · have b2 : (tb != x) = false := by simpa using h2
          have HN : Hid (r ++ putR x y (l.drop (k + 1)) true = putP l x y) := by
            unfold Hid; rw [← hr.out, HS.out, if_neg (by simp), if_neg (by simpa using h2)]; simp
          clear HS h2
          go_wp2_with fail
          exact ⟨⟨k + 1, m, r, a0, c0, true, by go_num, rfl, rfl, by omega, hmk, hml.out, HN.out, HO.out, Hm.out⟩, by simp [intOf]; omega⟩
        · have b2 : (tb != x) = true := by simpa using h2
          have HN : Hid ((r ++ [(tb, td)]) ++ putR x y (l.drop (k + 1)) true = putP l x y) := by
            unfold Hid; rw [← hr.out, HS.out, if_neg (by simp), if_pos (by simpa using h2)]; simp
          have HM9 : Hid (m + 1 ≤ 1000001) := by have h := HLn.out; rw [← HN.out] at h; simp only [List.length_append, List.length_cons, List.length_nil] at h; have := hml.out; unfold Hid; omega
          clear HS h2
          go_wp2_with (first
            | (at_builtin; refine wpList_append_own_at _ rfl _ _ 32 rfl w.heap.size 51 i0 _ 2 16 Try.underlying32 hi hz0 hz1 hz2 rfl (by decide) (.slice a0 m c0) _ _ rfl (HO.out.alloc _) ⟨wr.heap.size, 0, none⟩ 1 1 (pairE (tb, td)) rfl rfl (cells_newE _ _ _) (pairE_ok.one _) (by simp [maxLen]; omega) (by omega) (by have := Hm.out.size; simp; omega) ?_; intro v3 w3 hown3 hgrow3 _ hloc3
               have HB3 := Lib.hid ((Hm.out.alloc Hm.out.size _).grown hgrow3 (by have := Hm.out.size; simp; omega) (fun b hbk => owns_block HO.out b hbk))
               obtain ⟨E0', E1'⟩ := HC.out w3 HB3.out
               obtain ⟨a3, c3, rfl, _⟩ := owns_shape hown3
               have HO3 := Lib.hid hown3
               clear hown3 hgrow3 hloc3)
            | fail)
          go_wp2_with fail
          exact ⟨⟨k + 1, m + 1, r ++ [(tb, td)], a3, c3, true, by go_num, rfl, rfl, by omega, HM9.out, by unfold Hid; rw [hml.out]; simp, HN.out, by unfold OwnQ; rw [cellsE_append]; exact HO3.out, HB3.out⟩, by simp [intOf]; omega⟩
    · obtain rfl : k = l.length := by omega
      rw [List.drop_length, putR] at hr
      have hsr := hm.size
      clear hm
      cases b with
      | false =>
        have HN : Hid (r ++ [(x, y)] = putP l x y) := by have h := hr.out; unfold Hid; simpa using h
        have HM9 : Hid (m + 1 ≤ 1000001) := by have h := HLn.out; rw [← HN.out] at h; simp only [List.length_append, List.length_cons, List.length_nil] at h; have := hml.out; unfold Hid; omega
        clear hr
        go_wp2_with (first
          | (at_builtin; refine wpList_append_own_at _ rfl _ _ 32 rfl w.heap.size 51 i0 _ 2 16 Try.underlying32 hi hz0 hz1 hz2 rfl (by decide) (.slice a0 m c0) _ _ rfl (HO.out.alloc _) ⟨wr.heap.size, 0, none⟩ 1 1 (pairE (x, y)) rfl rfl (cells_newE _ _ _) (pairE_ok.one _) (by simp [maxLen]; omega) (by omega) (by have := Hm.out.size; simp; omega) ?_; intro v3 w3 hown3 hgrow3 _ hloc3
             have HB3 := Lib.hid ((Hm.out.alloc Hm.out.size _).grown hgrow3 (by have := Hm.out.size; simp; omega) (fun b hbk => owns_block HO.out b hbk))
             obtain ⟨a3, c3, rfl, _⟩ := owns_shape hown3
             have HO3 := Lib.hid hown3
             clear hown3 hgrow3 hloc3)
          | fail)
        have hm1 : m + 1 = (r ++ [(x, y)]).length := by rw [hml.out]; simp
        have Hm1 := Lib.hid hm1
        clear hm1
        go_wp2_with fail
        go_ret
        exact ⟨a3, c3, r ++ [(x, y)], by rw [← Hm1.out]; rfl, HN.out, by unfold OwnP; rw [← Hm1.out, cellsE_append]; exact HO3.out, HB3.out⟩
      | true =>
        have HN : Hid (r = putP l x y) := by have h := hr.out; unfold Hid; simpa using h
        clear hr
        go_wp2_with fail
        go_ret
        exact ⟨a0, c0, r, by rw [← hml.out]; rfl, HN.out, by unfold OwnP; rw [← hml.out]; exact HO.out, Hm.out⟩
end Go.Proofs.Ytdlgpcjdaaeliaa
