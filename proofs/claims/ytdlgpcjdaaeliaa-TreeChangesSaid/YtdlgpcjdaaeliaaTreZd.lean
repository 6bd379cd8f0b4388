/- The law's fixed. Conditions: none. -/
import Derived.Test.YtdlgpcjdaaeliaaTreO
import Derived.Test.YtdlgpcjdaaeliaaTreH
import Derived.Test.YtdlgpcjdaaeliaaTreZc
namespace Go.Proofs.Ytdlgpcjdaaeliaa
open Go.RowKit Go.Shelf
attribute [local go_sem] Oper.semAt_some

theorem fivP_5 : fivP 5 = [(1, 10), (2, 20), (3, 30), (4, 40), (5, 50)] := by decide
theorem fiv_bld (n : Nat) (hn : n ≤ 9) : fiv (n + 1) = bldT (fivP (n + 1)) := by
  obtain ⟨h1, h2⟩ := fiv_ok n (by omega)
  obtain ⟨_, _, hr⟩ := may_parts h1
  rw [fiv, putTr, if_pos h1, betw_put _ _ _ hr, h2, fivP]
theorem five_high : hgtR (fiv 5) = 2 := by
  obtain ⟨h1, h2⟩ := fiv_ok 5 (by omega)
  unfold hgtR
  rw [if_pos h1, fiv_bld 4 (by omega), fivP_5]
  decide
theorem five_pairs : pairsT (fiv 5) = [(1, 10), (2, 20), (3, 30), (4, 40), (5, 50)] := by rw [(fiv_ok 5 (by omega)).2, fivP_5]
theorem five_may : mayT16 (fiv 5) = true := (fiv_ok 5 (by omega)).1
theorem five_got : gotT (fiv 5) 3 = some 30 := by rw [gotT_eq five_may, five_pairs]; decide
theorem five_cut3 : cutOk (fiv 5) 3 = true := by rw [cutOk_eq five_may, five_pairs]; decide
theorem five_cut9 : cutOk (fiv 5) 9 = false := by rw [cutOk_eq five_may, five_pairs]; decide
theorem five_gone : gotT (cutTr (fiv 5) 3) 3 = none := by
  obtain ⟨h1, h2⟩ := cut_ok five_may (by rw [five_pairs]; decide) 3 (by rw [five_pairs]; decide)
  rw [gotT_eq h1, h2, five_pairs]; decide
theorem five_walk : walkT (fiv 5) 2 4 = [(2, 20), (3, 30)] := by rw [walkT_eq five_may, five_pairs]; decide
theorem one_not : mayT16 (.nd [1] [] []) = false := by decide

/-- A node put into a box of its own. -/
theorem nd_boxed (W : World) (u0 u1 u2 : Value) : ∃ Wa W2, W.alloc (.cells #[.slice none 0 0, .slice none 0 0, .slice none 0 0] 25) = Wa ∧ Nd3 Wa W.heap.size (.slice none 0 0) (.slice none 0 0) (.slice none 0 0) ∧
    ((Wa.setCell ⟨W.heap.size, 0, none⟩ u0).setCell ⟨W.heap.size, 1, none⟩ u1).setCell ⟨W.heap.size, 2, none⟩ u2 = W2 ∧ Nd3 W2 W.heap.size u0 u1 u2 ∧ Below W.heap.size W W2 ∧ W.heap.size < W2.heap.size :=
  ⟨_, _, rfl, Nd3.new _ _ _ _ _, rfl, (Nd3.new _ _ _ _ _).set _ _ _, below_set3 ((Below.refl _ _).alloc (Nat.le_refl _) _) (Nat.le_refl _) _ _ _, ((Nd3.new W (.slice none 0 0) (.slice none 0 0) (.slice none 0 0) 25).set u0 u1 u2).lt⟩
theorem two_lit (W : World) (a b c d : Int) : Prs (W.alloc (.cells #[.int .i64 a, .int .i64 b, .int .i64 c, .int .i64 d] 51)) (.slice (some ⟨W.heap.size, 0, none⟩) 2 2) [(a, b), (c, d)] := by
  refine ⟨_, 2, rfl, by simp, by simp, Or.inr ⟨W.heap.size, 0, rfl, by simp, fun i hi j hj => ?_⟩⟩
  rw [World.cell?_alloc_new]
  simp only [List.length_cons, List.length_nil] at hi
  match i, j, hi, hj with
  | 0, 0, _, _ => rfl
  | 0, 1, _, _ => rfl
  | 1, 0, _, _ => rfl
  | 1, 1, _, _ => rfl
theorem one_lit (W : World) : NodeV (W.alloc (.cells #[.int .i64 1] 3)) (.slice (some ⟨W.heap.size, 0, none⟩) 1 1, .slice none 0 0, .slice none 0 0) (.nd [1] [] []) := by
  refine .mk [] ⟨_, 1, rfl, by simp, by simp, Or.inr ⟨W.heap.size, 0, rfl, by simp, fun i hi j hj => ?_⟩⟩ ⟨none, 0, rfl, by simp, fun _ => rfl, Or.inl rfl⟩ ⟨none, 0, rfl, by simp, fun _ => rfl, Or.inl rfl⟩ (by simp [maxLen]) (by simp) (by simp) rfl (fun i hi => by simp at hi)
  rw [World.cell?_alloc_new]
  simp only [List.length_cons, List.length_nil] at hi
  match i, j, hi, hj with
  | 0, 0, _, _ => rfl

set_option maxRecDepth 100000 in
set_option maxHeartbeats 4000000 in
theorem fixed_any (w : World) :
    Calls Try.prog 8 #[] w fun e w' => e = .returned (.bool true) ∧ Below w.heap.size w w' := by
  go_enter Try.func8, Try.ntmps8
  go_wp2_with fail
  refine (five_any w).mono ?_
  rintro e W1 ⟨c0, c1, c2, rfl, hnP, hb1⟩
  have hn := nodeP_of hnP
  obtain ⟨a0, a1, a2, n0, k0, n1, k1, n2, k2, rfl, rfl, rfl⟩ := node_shape hn
  obtain ⟨Wa, W2, hWa, hna, hW2, hn2, hb2, hs2⟩ := nd_boxed W1 (.slice a0 n0 k0) (.slice a1 n1 k1) (.slice a2 n2 k2)
  have HN := Lib.hid hn
  have HB1 := Lib.hid hb1
  have HB2 := Lib.hid hb2
  have hlen : (pairsT (fiv 5)).length ≤ 1000000 := by rw [five_pairs]; decide
  obtain ⟨g0, g1, g2, g3, g4, g5, g6⟩ := hna
  have HN2 := Lib.hid hn2
  obtain ⟨p00, p0, p1, p2, z0, z1, z2⟩ := hn2
  have hget : Calls Try.prog 10 #[.agg #[.slice a0 n0 k0, .slice a1 n1 k1, .slice a2 n2 k2], .int .i64 3] W2 (fun e w'' => e = .returned (.tuple #[.int .i64 30, .bool true]) ∧ Below W2.heap.size W2 w'') := by
    have h := get_any HN.out 3 W2 HB2.out
    rw [five_got] at h
    exact h
  clear hn hnP hb1 hb2
  go_wp2_with fail
  refine hget.mono ?_
  rintro e W3 ⟨rfl, hb3⟩
  have HW := Lib.hid (HB1.out.trans (HB2.out.mono HB1.out.size))
  clear hget g0 g1 g2 g3 g4 g5 g6 hWa hW2
  have HB3 := Lib.hid (HB2.out.trans (hb3.mono HB2.out.size))
  have HN3 := Lib.hid (HN2.out.kept hb3)
  clear p00 p0 p1 p2 z0 z1 z2
  obtain ⟨p00, p0, p1, p2, z0, z1, z2⟩ := HN3.out
  clear hb3
  have hcut := cut_any HN.out 3 W3 HB3.out hlen
  dsimp only at hcut
  go_wp2_with fail
  refine hcut.mono ?_
  rintro e W4 ⟨u0, u1, u2, ok, t', rfl, hok, ht, hnu, hb4⟩
  obtain rfl : ok = true := hok.out.trans five_cut3
  obtain rfl : t' = cutTr (fiv 5) 3 := ht.out
  have HU := Lib.hid (nodeP_of hnu)
  obtain ⟨b0, b1, b2, m0, j0, m1, j1, m2, j2, rfl, rfl, rfl⟩ := node_shape HU.out
  have HB4 := Lib.hid (HB3.out.trans (hb4.mono HB3.out.size))
  have HN4 := Lib.hid (HN3.out.kept hb4)
  clear p00 p0 p1 p2 z0 z1 z2
  obtain ⟨p00, p0, p1, p2, z0, z1, z2⟩ := HN4.out
  clear hcut hb4 hnu hok ht
  obtain ⟨Wb, W5, hWb, hna, hW5, hn5, hb5, hs5⟩ := nd_boxed W4 (.slice b0 m0 j0) (.slice b1 m1 j1) (.slice b2 m2 j2)
  obtain ⟨g0, g1, g2, g3, g4, g5, g6⟩ := hna
  have HU5 := Lib.hid hn5
  obtain ⟨y00, y0, y1, y2, _, _, _⟩ := hn5
  have HB5 := Lib.hid (HB4.out.trans (hb5.mono HB4.out.size))
  have HN5 := Lib.hid (HN4.out.kept hb5)
  clear p00 p0 p1 p2 z0 z1 z2
  obtain ⟨p00, p0, p1, p2, z0, z1, z2⟩ := HN5.out
  have hget : Calls Try.prog 10 #[.agg #[.slice b0 m0 j0, .slice b1 m1 j1, .slice b2 m2 j2], .int .i64 3] W5 (fun e w'' => e = .returned (.tuple #[.int .i64 0, .bool false]) ∧ Below W5.heap.size W5 w'') := by
    have h := get_any HU.out 3 W5 hb5
    rw [five_gone] at h
    exact h
  clear hb5
  go_wp2_with fail
  refine hget.mono ?_
  rintro e W6 ⟨rfl, hb6⟩
  have HB6 := Lib.hid (HB5.out.trans (hb6.mono HB5.out.size))
  have HN6 := Lib.hid (HN5.out.kept hb6)
  clear p00 p0 p1 p2 z0 z1 z2
  obtain ⟨p00, p0, p1, p2, z0, z1, z2⟩ := HN6.out
  clear hget hb6 g0 g1 g2 g3 g4 g5 g6 hWb hW5 y00 y0 y1 y2
  have hcut := cut_any HN.out 9 W6 HB6.out hlen
  dsimp only at hcut
  go_wp2_with fail
  refine hcut.mono ?_
  rintro e W7 ⟨x0, x1, x2, ok, t', rfl, hok, ht, hnx, hb7⟩
  obtain rfl : ok = false := hok.out.trans five_cut9
  obtain ⟨d0, d1, d2, i0, l0, i1, l1, i2, l2, rfl, rfl, rfl⟩ := node_shape (nodeP_of hnx)
  have HB7 := Lib.hid (HB6.out.trans (hb7.mono HB6.out.size))
  have HN7 := Lib.hid (HN6.out.kept hb7)
  clear p00 p0 p1 p2 z0 z1 z2
  obtain ⟨p00, p0, p1, p2, z0, z1, z2⟩ := HN7.out
  clear hcut hb7 hnx hok ht
  obtain ⟨Wc, W8, hWc, hna, hW8, hn8, hb8, hs8⟩ := nd_boxed W7 (.slice d0 i0 l0) (.slice d1 i1 l1) (.slice d2 i2 l2)
  obtain ⟨g0, g1, g2, g3, g4, g5, g6⟩ := hna
  have HB8 := Lib.hid (HB7.out.trans (hb8.mono HB7.out.size))
  have HN8 := Lib.hid (HN7.out.kept hb8)
  clear p00 p0 p1 p2 z0 z1 z2
  obtain ⟨p00, p0, p1, p2, z0, z1, z2⟩ := HN8.out
  clear hb8 hn8
  have hhgt : Calls Try.prog 13 #[.agg #[.slice a0 n0 k0, .slice a1 n1 k1, .slice a2 n2 k2]] W8 (fun e w'' => e = .returned (.int .i64 2) ∧ Below W8.heap.size W8 w'') := by
    have h := height_any HN.out W8 HB8.out
    rw [five_high] at h
    exact h
  go_wp2_with fail
  refine hhgt.mono ?_
  rintro e W9 ⟨rfl, hb9⟩
  have HB9 := Lib.hid (HB8.out.trans (hb9.mono HB8.out.size))
  have HN9 := Lib.hid (HN8.out.kept hb9)
  clear p00 p0 p1 p2 z0 z1 z2
  obtain ⟨p00, p0, p1, p2, z0, z1, z2⟩ := HN9.out
  clear hhgt hb9 g0 g1 g2 g3 g4 g5 g6 hWc hW8
  have hmay : Calls Try.prog 11 #[.agg #[.slice a0 n0 k0, .slice a1 n1 k1, .slice a2 n2 k2]] W9 (fun e w'' => e = .returned (.bool true) ∧ Below W9.heap.size W9 w'') := by
    have h := may_any HN.out W9 HB9.out
    rw [five_may] at h
    exact h
  go_wp2_with fail
  refine hmay.mono ?_
  rintro e W10 ⟨rfl, hb10⟩
  have HB10 := Lib.hid (HB9.out.trans (hb10.mono HB9.out.size))
  have HN10 := Lib.hid (HN9.out.kept hb10)
  clear p00 p0 p1 p2 z0 z1 z2
  obtain ⟨p00, p0, p1, p2, z0, z1, z2⟩ := HN10.out
  clear hmay hb10
  have hwalk := walk_any HN.out 2 4 W10 HB10.out hlen
  dsimp only at hwalk
  go_wp2_with fail
  refine hwalk.mono ?_
  rintro e W11 ⟨aw, cw, r, rfl, hr, hown, hb11⟩
  obtain rfl : r = [(2, 20), (3, 30)] := hr.out.trans five_walk
  have HB11 := Lib.hid (HB10.out.trans (hb11.mono HB10.out.size))
  have HN11 := Lib.hid (HN10.out.kept hb11)
  clear p00 p0 p1 p2 z0 z1 z2
  obtain ⟨p00, p0, p1, p2, z0, z1, z2⟩ := HN11.out
  clear hwalk hb11 hr
  have hP : Prs W11 (.slice aw 2 cw) [(2, 20), (3, 30)] := (sl_of_ownsE pairE_ok hown).1
  have hsame := sameP_eq (.slice aw 2 cw) (.slice (some ⟨W11.heap.size, 0, none⟩) 2 2) [(2, 20), (3, 30)] (W11.alloc (.cells #[.int .i64 2, .int .i64 20, .int .i64 3, .int .i64 30] 51)) (sl_below hP ((Below.refl _ _).alloc (Nat.le_refl _) _)) (two_lit W11 2 20 3 30) (by simp)
  clear hown hP
  go_wp2_with fail
  refine hsame.mono ?_
  rintro e W12 ⟨rfl, hb12⟩
  have HB12 := Lib.hid (HB11.out.trans ((((Below.refl W11.heap.size W11).alloc (Nat.le_refl _) _).trans (hb12.mono (by simp))).mono HB11.out.size))
  clear hsame hb12
  have hmay := may_any (one_lit W12) (W12.alloc (.cells #[.int .i64 1] 3)) (Below.refl _ _)
  rw [one_not] at hmay
  dsimp only at hmay
  go_wp2_with fail
  refine hmay.mono ?_
  rintro e W13 ⟨rfl, hb13⟩
  go_wp2_with fail
  go_ret
  exact ⟨rfl, HB1.out.trans ((HB12.out.trans ((((Below.refl W12.heap.size W12).alloc (Nat.le_refl _) _).trans (hb13.mono (by simp))).mono HB12.out.size)).mono HB1.out.size)⟩
end Go.Proofs.Ytdlgpcjdaaeliaa
