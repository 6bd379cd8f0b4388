/- The law TreeKeeps. Conditions: none. -/
import Derived.Test.YtdlgpcjdaaeliaaTreZd
import Derived.Test.YtdlgpcjdaaeliaaTreM
import Derived.Test.YtdlgpcjdaaeliaaTreI
namespace Go.Proofs.Ytdlgpcjdaaeliaa
open Go.RowKit Go.Shelf
attribute [local go_sem] Oper.semAt_some

set_option maxRecDepth 100000 in
set_option maxHeartbeats 4000000 in
theorem keeps_any {w : World} {n3 : N3} {t : Tr} (h : NodeV w n3 t) (x y : Int) :
    Calls Try.prog 5 #[.agg #[n3.1, n3.2.1, n3.2.2], .int .i64 x, .int .i64 y] w fun e w' => e = .returned (.bool true) ∧ Below w.heap.size w w' := by
  obtain ⟨v0, v1, v2⟩ := n3
  obtain ⟨a0, a1, a2, n0, k0, n1, k1, n2, k2, rfl, rfl, rfl⟩ := node_shape h
  obtain ⟨W1, hW, e0, e1, e2, hs1, hb1⟩ := boxed3 w (.slice a0 n0 k0) (.slice a1 n1 k1) (.slice a2 n2 k2) 25
  have HN1 : Hid (Nd3 W1 w.heap.size (.slice a0 n0 k0) (.slice a1 n1 k1) (.slice a2 n2 k2)) := by rw [← hW]; exact Nd3.new _ _ _ _ _
  have HN := Lib.hid h
  have HB1 := Lib.hid hb1
  clear h hb1 e0 e1 e2
  obtain ⟨p00, p0, p1, p2, z0, z1, z2⟩ := HN1.out
  dsimp only
  go_enter Try.func5, Try.ntmps5
  go_wp2_with fail
  refine (fixed_any W1).mono ?_
  rintro e W2 ⟨rfl, hb2⟩
  have HB2 := Lib.hid (HB1.out.trans (hb2.mono HB1.out.size))
  have HN2 := Lib.hid (HN1.out.kept hb2)
  clear p00 p0 p1 p2 z0 z1 z2
  obtain ⟨p00, p0, p1, p2, z0, z1, z2⟩ := HN2.out
  have hsm := small_any HN.out W2 HB2.out
  dsimp only at hsm
  clear hb2
  go_wp2_with fail
  refine hsm.mono ?_
  rintro e W3 ⟨rfl, hb3⟩
  have HB3 := Lib.hid (HB2.out.trans (hb3.mono HB2.out.size))
  have HN3 := Lib.hid (HN2.out.kept hb3)
  clear p00 p0 p1 p2 z0 z1 z2
  obtain ⟨p00, p0, p1, p2, z0, z1, z2⟩ := HN3.out
  clear hb3 hsm
  cases hsmall : smallT t with
  | false =>
    go_wp2_with fail
    refine (fixed_any W3).mono ?_
    rintro e W4 ⟨rfl, hb4⟩
    have HB4 := Lib.hid (HB3.out.trans (hb4.mono HB3.out.size))
    clear hb4
    go_wp2_with fail
    go_ret
    exact ⟨rfl, HB4.out⟩
  | true =>
  have hlen := small_pairs hsmall
  have hmy := mayR_any HN.out W3 HB3.out (by omega)
  dsimp only at hmy
  clear hsmall
  go_wp2_with fail
  refine hmy.mono ?_
  rintro e W4 ⟨rfl, hb4⟩
  have HB4 := Lib.hid (HB3.out.trans (hb4.mono HB3.out.size))
  have HN4 := Lib.hid (HN3.out.kept hb4)
  clear p00 p0 p1 p2 z0 z1 z2
  obtain ⟨p00, p0, p1, p2, z0, z1, z2⟩ := HN4.out
  clear hb4 hmy
  cases hmay : mayT16 t with
  | false =>
    go_wp2_with fail
    refine (fixed_any W4).mono ?_
    rintro e W5 ⟨rfl, hb5⟩
    have HB5 := Lib.hid (HB4.out.trans (hb5.mono HB4.out.size))
    clear hb5
    go_wp2_with fail
    go_ret
    exact ⟨rfl, HB5.out⟩
  | true =>
  have hpr := pairs_any HN.out W4 HB4.out (by omega)
  dsimp only at hpr
  have Hput := Lib.hid (put_ok hmay (by omega) x y)
  have hgp := get_put x y (pairsT t)
  have Hcut := Lib.hid (cut_ok (t := putTr t x y) (put_ok hmay (by omega) x y).1 (by rw [(put_ok hmay (by omega) x y).2]; have := put_len (pairsT t) x y; omega) x (by rw [(put_ok hmay (by omega) x y).2, hgp]; simp))
  have Hok : Hid (cutOk (putTr t x y) x = true) := by unfold Hid; rw [cutOk_eq (put_ok hmay (by omega) x y).1, (put_ok hmay (by omega) x y).2, hgp]; rfl
  have Hgot : Hid (gotT (putTr t x y) x = some y) := by unfold Hid; rw [gotT_eq (put_ok hmay (by omega) x y).1, (put_ok hmay (by omega) x y).2, hgp]
  have hplen : (pairsT (putTr t x y)).length ≤ 12001 := by rw [Hput.out.2]; have := put_len (pairsT t) x y; omega
  have hclen : (pairsT (cutTr (putTr t x y) x)).length ≤ 12000 := by rw [Hcut.out.2, Hput.out.2, cut_put]; have := cutP_len (pairsT t) x; omega
  have HM := Lib.hid hmay
  clear hmay hgp
  go_wp2_with fail
  refine hpr.mono ?_
  rintro e W5 ⟨aP, cP, l, rfl, hl, hown, hb5⟩
  obtain rfl : l = pairsT t := hl.out
  have HP5 := Lib.hid (sl_of_ownsE pairE_ok hown).1
  have HB5 := Lib.hid (HB4.out.trans (hb5.mono HB4.out.size))
  have HN5 := Lib.hid (HN4.out.kept hb5)
  clear p00 p0 p1 p2 z0 z1 z2
  obtain ⟨p00, p0, p1, p2, z0, z1, z2⟩ := HN5.out
  clear hb5 hpr hl hown
  have hput := put_any HN.out x y W5 HB5.out (by omega)
  dsimp only at hput
  go_wp2_with fail
  refine hput.mono ?_
  rintro e W6 ⟨c0, c1, c2, t', rfl, ht, hnu, hb6⟩
  obtain rfl : t' = putTr t x y := ht.out
  have HU := Lib.hid (nodeP_of hnu)
  obtain ⟨b0, b1, b2, m0, j0, m1, j1, m2, j2, rfl, rfl, rfl⟩ := node_shape HU.out
  have HB6 := Lib.hid (HB5.out.trans (hb6.mono HB5.out.size))
  have HN6 := Lib.hid (HN5.out.kept hb6)
  clear p00 p0 p1 p2 z0 z1 z2
  obtain ⟨p00, p0, p1, p2, z0, z1, z2⟩ := HN6.out
  have HP6 := Lib.hid (sl_below HP5.out hb6)
  clear hput hb6 hnu ht
  obtain ⟨Wb, W7, hWb, hna, hW7, hn7, hb7, hs7⟩ := nd_boxed W6 (.slice b0 m0 j0) (.slice b1 m1 j1) (.slice b2 m2 j2)
  obtain ⟨g0, g1, g2, g3, g4, g5, g6⟩ := hna
  have HU7 := Lib.hid hn7
  obtain ⟨y00, y0, y1, y2, _, _, _⟩ := hn7
  have HB7 := Lib.hid (HB6.out.trans (hb7.mono HB6.out.size))
  have HN7 := Lib.hid (HN6.out.kept hb7)
  clear p00 p0 p1 p2 z0 z1 z2
  obtain ⟨p00, p0, p1, p2, z0, z1, z2⟩ := HN7.out
  have HP7 := Lib.hid (sl_below HP6.out hb7)
  have HBU7 := Lib.hid hb7
  have hcut := cut_any HU.out x W7 hb7 (by omega)
  dsimp only at hcut
  clear hb7
  go_wp2_with fail
  refine hcut.mono ?_
  rintro e W8 ⟨c0, c1, c2, ok, t', rfl, hok, ht, hnc, hb8⟩
  obtain rfl : ok = true := hok.out.trans Hok.out
  obtain rfl : t' = cutTr (putTr t x y) x := ht.out
  have HC := Lib.hid (nodeP_of hnc)
  obtain ⟨d0, d1, d2, i0, l0, i1, l1, i2, l2, rfl, rfl, rfl⟩ := node_shape HC.out
  have HB8 := Lib.hid (HB7.out.trans (hb8.mono HB7.out.size))
  have HN8 := Lib.hid (HN7.out.kept hb8)
  clear p00 p0 p1 p2 z0 z1 z2
  obtain ⟨p00, p0, p1, p2, z0, z1, z2⟩ := HN8.out
  have HBU8 := Lib.hid (HBU7.out.trans (hb8.mono HBU7.out.size))
  have HU8 := Lib.hid (HU7.out.kept hb8)
  clear y00 y0 y1 y2
  obtain ⟨y00, y0, y1, y2, _, _, _⟩ := HU8.out
  have HP8 := Lib.hid (sl_below HP7.out hb8)
  clear hcut hb8 hnc hok ht g0 g1 g2 g3 g4 g5 g6 hWb hW7
  obtain ⟨Wc, W9, hWc, hna, hW9, hn9, hb9, hs9⟩ := nd_boxed W8 (.slice d0 i0 l0) (.slice d1 i1 l1) (.slice d2 i2 l2)
  obtain ⟨g0, g1, g2, g3, g4, g5, g6⟩ := hna
  have HC9 := Lib.hid hn9
  have HBC9 := Lib.hid hb9
  obtain ⟨q00, q0, q1, q2, _, _, _⟩ := hn9
  have HB9 := Lib.hid (HB8.out.trans (hb9.mono HB8.out.size))
  have HN9 := Lib.hid (HN8.out.kept hb9)
  clear p00 p0 p1 p2 z0 z1 z2
  obtain ⟨p00, p0, p1, p2, z0, z1, z2⟩ := HN9.out
  have HBU9 := Lib.hid (HBU8.out.trans (hb9.mono HBU8.out.size))
  have HU9 := Lib.hid (HU8.out.kept hb9)
  clear y00 y0 y1 y2
  obtain ⟨y00, y0, y1, y2, _, _, _⟩ := HU9.out
  have HP9 := Lib.hid (sl_below HP8.out hb9)
  clear hb9
  have hget : Calls Try.prog 10 #[.agg #[.slice b0 m0 j0, .slice b1 m1 j1, .slice b2 m2 j2], .int .i64 x] W9 (fun e w'' => e = .returned (.tuple #[.int .i64 y, .bool true]) ∧ Below W9.heap.size W9 w'') := by
    have h := get_any HU.out x W9 HBU9.out
    rw [Hgot.out] at h
    exact h
  go_wp2_with fail
  refine hget.mono ?_
  rintro e W10 ⟨rfl, hb10⟩
  have HB10 := Lib.hid (HB9.out.trans (hb10.mono HB9.out.size))
  have HN10 := Lib.hid (HN9.out.kept hb10)
  clear p00 p0 p1 p2 z0 z1 z2
  obtain ⟨p00, p0, p1, p2, z0, z1, z2⟩ := HN10.out
  have HBU10 := Lib.hid (HBU9.out.trans (hb10.mono HBU9.out.size))
  have HU10 := Lib.hid (HU9.out.kept hb10)
  clear y00 y0 y1 y2
  obtain ⟨y00, y0, y1, y2, _, _, _⟩ := HU10.out
  have HP10 := Lib.hid (sl_below HP9.out hb10)
  have HBC10 := Lib.hid (HBC9.out.trans (hb10.mono HBC9.out.size))
  have HC10 := Lib.hid (HC9.out.kept hb10)
  clear q00 q0 q1 q2
  obtain ⟨q00, q0, q1, q2, _, _, _⟩ := HC10.out
  clear hget hb10 g0 g1 g2 g3 g4 g5 g6 hWc hW9
  have hpr := pairs_any HN.out W10 HB10.out (by omega)
  dsimp only at hpr
  go_wp2_with fail
  refine hpr.mono ?_
  rintro e W11 ⟨aQ, cQ, l, rfl, hl, hown, hb11⟩
  obtain rfl : l = pairsT t := hl.out
  have hQ := (sl_of_ownsE pairE_ok hown).1
  have HB11 := Lib.hid (HB10.out.trans (hb11.mono HB10.out.size))
  have HN11 := Lib.hid (HN10.out.kept hb11)
  clear p00 p0 p1 p2 z0 z1 z2
  obtain ⟨p00, p0, p1, p2, z0, z1, z2⟩ := HN11.out
  have HBU11 := Lib.hid (HBU10.out.trans (hb11.mono HBU10.out.size))
  have HU11 := Lib.hid (HU10.out.kept hb11)
  clear y00 y0 y1 y2
  obtain ⟨y00, y0, y1, y2, _, _, _⟩ := HU11.out
  have HP11 := Lib.hid (sl_below HP10.out hb11)
  have HBC11 := Lib.hid (HBC10.out.trans (hb11.mono HBC10.out.size))
  have HC11 := Lib.hid (HC10.out.kept hb11)
  clear q00 q0 q1 q2
  obtain ⟨q00, q0, q1, q2, _, _, _⟩ := HC11.out
  have hsame := sameP_eq _ _ _ W11 hQ HP11.out (by omega)
  clear hpr hl hown hb11
  go_wp2_with fail
  refine hsame.mono ?_
  rintro e W12 ⟨rfl, hb12⟩
  have HB12 := Lib.hid (HB11.out.trans (hb12.mono HB11.out.size))
  have HN12 := Lib.hid (HN11.out.kept hb12)
  clear p00 p0 p1 p2 z0 z1 z2
  obtain ⟨p00, p0, p1, p2, z0, z1, z2⟩ := HN12.out
  have HBU12 := Lib.hid (HBU11.out.trans (hb12.mono HBU11.out.size))
  have HU12 := Lib.hid (HU11.out.kept hb12)
  clear y00 y0 y1 y2
  obtain ⟨y00, y0, y1, y2, _, _, _⟩ := HU12.out
  have HP12 := Lib.hid (sl_below HP11.out hb12)
  have HBC12 := Lib.hid (HBC11.out.trans (hb12.mono HBC11.out.size))
  have HC12 := Lib.hid (HC11.out.kept hb12)
  clear q00 q0 q1 q2
  obtain ⟨q00, q0, q1, q2, _, _, _⟩ := HC12.out
  clear hsame hb12 hQ
  have hpr := pairs_any HU.out W12 HBU12.out (by omega)
  dsimp only at hpr
  go_wp2_with fail
  refine hpr.mono ?_
  rintro e W13 ⟨aQ, cQ, l, rfl, hl, hown, hb13⟩
  obtain rfl : l = putP (pairsT t) x y := hl.out.trans Hput.out.2
  have hQ := (sl_of_ownsE pairE_ok hown).1
  have HB13 := Lib.hid (HB12.out.trans (hb13.mono HB12.out.size))
  have HN13 := Lib.hid (HN12.out.kept hb13)
  clear p00 p0 p1 p2 z0 z1 z2
  obtain ⟨p00, p0, p1, p2, z0, z1, z2⟩ := HN13.out
  have HBU13 := Lib.hid (HBU12.out.trans (hb13.mono HBU12.out.size))
  have HU13 := Lib.hid (HU12.out.kept hb13)
  clear y00 y0 y1 y2
  obtain ⟨y00, y0, y1, y2, _, _, _⟩ := HU13.out
  have HP13 := Lib.hid (sl_below HP12.out hb13)
  have HBC13 := Lib.hid (HBC12.out.trans (hb13.mono HBC12.out.size))
  have HC13 := Lib.hid (HC12.out.kept hb13)
  clear q00 q0 q1 q2
  obtain ⟨q00, q0, q1, q2, _, _, _⟩ := HC13.out
  have hpR := putR_any _ _ x y W13 HP13.out (by omega)
  clear hpr hl hown hb13
  go_wp2_with fail
  refine hpR.mono ?_
  rintro e W14 ⟨aR, cR, r, rfl, hr, hown, hb14⟩
  obtain rfl : r = putP (pairsT t) x y := hr.out
  have hQ2 := (sl_of_ownsE pairE_ok hown).1
  have HB14 := Lib.hid (HB13.out.trans (hb14.mono HB13.out.size))
  have HN14 := Lib.hid (HN13.out.kept hb14)
  clear p00 p0 p1 p2 z0 z1 z2
  obtain ⟨p00, p0, p1, p2, z0, z1, z2⟩ := HN14.out
  have HBU14 := Lib.hid (HBU13.out.trans (hb14.mono HBU13.out.size))
  have HU14 := Lib.hid (HU13.out.kept hb14)
  clear y00 y0 y1 y2
  obtain ⟨y00, y0, y1, y2, _, _, _⟩ := HU14.out
  have HP14 := Lib.hid (sl_below HP13.out hb14)
  have HBC14 := Lib.hid (HBC13.out.trans (hb14.mono HBC13.out.size))
  have HC14 := Lib.hid (HC13.out.kept hb14)
  clear q00 q0 q1 q2
  obtain ⟨q00, q0, q1, q2, _, _, _⟩ := HC14.out
  have hpl : (putP (pairsT t) x y).length ≤ 12001 := by have := put_len (pairsT t) x y; omega
  have hsame := sameP_eq _ _ _ W14 (sl_below hQ hb14) hQ2 (by omega)
  clear hpR hr hown hb14
  go_wp2_with fail
  refine hsame.mono ?_
  rintro e W15 ⟨rfl, hb15⟩
  have HB15 := Lib.hid (HB14.out.trans (hb15.mono HB14.out.size))
  have HN15 := Lib.hid (HN14.out.kept hb15)
  clear p00 p0 p1 p2 z0 z1 z2
  obtain ⟨p00, p0, p1, p2, z0, z1, z2⟩ := HN15.out
  have HBU15 := Lib.hid (HBU14.out.trans (hb15.mono HBU14.out.size))
  have HU15 := Lib.hid (HU14.out.kept hb15)
  clear y00 y0 y1 y2
  obtain ⟨y00, y0, y1, y2, _, _, _⟩ := HU15.out
  have HP15 := Lib.hid (sl_below HP14.out hb15)
  have HBC15 := Lib.hid (HBC14.out.trans (hb15.mono HBC14.out.size))
  have HC15 := Lib.hid (HC14.out.kept hb15)
  clear q00 q0 q1 q2
  obtain ⟨q00, q0, q1, q2, _, _, _⟩ := HC15.out
  clear hsame hb15 hQ hQ2
  have hpr := pairs_any HC.out W15 HBC15.out (by omega)
  dsimp only at hpr
  go_wp2_with fail
  refine hpr.mono ?_
  rintro e W16 ⟨aQ, cQ, l, rfl, hl, hown, hb16⟩
  obtain rfl : l = cutP (pairsT t) x := hl.out.trans (by rw [Hcut.out.2, Hput.out.2, cut_put])
  have hQ := (sl_of_ownsE pairE_ok hown).1
  have HB16 := Lib.hid (HB15.out.trans (hb16.mono HB15.out.size))
  have HN16 := Lib.hid (HN15.out.kept hb16)
  clear p00 p0 p1 p2 z0 z1 z2
  obtain ⟨p00, p0, p1, p2, z0, z1, z2⟩ := HN16.out
  have HBU16 := Lib.hid (HBU15.out.trans (hb16.mono HBU15.out.size))
  have HU16 := Lib.hid (HU15.out.kept hb16)
  clear y00 y0 y1 y2
  obtain ⟨y00, y0, y1, y2, _, _, _⟩ := HU16.out
  have HP16 := Lib.hid (sl_below HP15.out hb16)
  have HBC16 := Lib.hid (HBC15.out.trans (hb16.mono HBC15.out.size))
  have HC16 := Lib.hid (HC15.out.kept hb16)
  clear q00 q0 q1 q2
  obtain ⟨q00, q0, q1, q2, _, _, _⟩ := HC16.out
  have hcR := cutR_any _ _ x W16 HP16.out (by omega)
  clear hpr hl hown hb16
  go_wp2_with fail
  refine hcR.mono ?_
  rintro e W17 ⟨aR, cR, r, rfl, hr, hown, hb17⟩
  obtain rfl : r = cutP (pairsT t) x := hr.out
  have hQ2 := (sl_of_ownsE pairE_ok hown).1
  have HB17 := Lib.hid (HB16.out.trans (hb17.mono HB16.out.size))
  have HN17 := Lib.hid (HN16.out.kept hb17)
  clear p00 p0 p1 p2 z0 z1 z2
  obtain ⟨p00, p0, p1, p2, z0, z1, z2⟩ := HN17.out
  have hcl : (cutP (pairsT t) x).length ≤ 12000 := by have := cutP_len (pairsT t) x; omega
  have hsame := sameP_eq _ _ _ W17 (sl_below hQ hb17) hQ2 (by omega)
  clear hcR hr hown hb17
  go_wp2_with fail
  refine hsame.mono ?_
  rintro e W18 ⟨rfl, hb18⟩
  have HB18 := Lib.hid (HB17.out.trans (hb18.mono HB17.out.size))
  clear hsame hb18 hQ hQ2
  go_wp2_with fail
  go_ret
  exact ⟨rfl, HB18.out⟩
end Go.Proofs.Ytdlgpcjdaaeliaa
