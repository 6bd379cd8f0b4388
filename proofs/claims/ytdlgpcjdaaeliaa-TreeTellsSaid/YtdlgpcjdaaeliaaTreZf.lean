/- The law TreeTells. Conditions: none. -/
import Derived.Test.YtdlgpcjdaaeliaaTreZd
import Derived.Test.YtdlgpcjdaaeliaaTreM
import Derived.Test.YtdlgpcjdaaeliaaTreI
import Derived.Test.YtdlgpcjdaaeliaaHeld
import Derived.Test.YtdlgpcjdaaeliaaRegH
namespace Go.Proofs.Ytdlgpcjdaaeliaa
open Go.RowKit Go.Shelf
attribute [local go_sem] Oper.semAt_some

set_option maxRecDepth 100000 in
set_option maxHeartbeats 4000000 in
theorem tells_any {w : World} {n3 : N3} {t : Tr} (h : NodeV w n3 t) (x y z : Int) :
    Calls Try.prog 3 #[.agg #[n3.1, n3.2.1, n3.2.2], .agg #[.int .i64 x, .int .i64 y, .int .i64 z]] w fun e w' => e = .returned (.bool true) ∧ Below w.heap.size w w' := by
  obtain ⟨v0, v1, v2⟩ := n3
  obtain ⟨a0, a1, a2, n0, k0, n1, k1, n2, k2, rfl, rfl, rfl⟩ := node_shape h
  obtain ⟨W0, hW0, e0, e1, e2, hs0, hb0⟩ := boxed3 w (.slice a0 n0 k0) (.slice a1 n1 k1) (.slice a2 n2 k2) 25
  have HN0 : Hid (Nd3 W0 w.heap.size (.slice a0 n0 k0) (.slice a1 n1 k1) (.slice a2 n2 k2)) := by rw [← hW0]; exact Nd3.new _ _ _ _ _
  obtain ⟨W1, hW1, f0, f1, f2, hs1, hb1⟩ := boxed3 W0 (.int .i64 x) (.int .i64 y) (.int .i64 z) 27
  have HQ1 : Hid (Nd3 W1 W0.heap.size (.int .i64 x) (.int .i64 y) (.int .i64 z)) := by rw [← hW1]; exact Nd3.new _ _ _ _ _
  have HN1 := Lib.hid (HN0.out.kept hb1)
  have HN := Lib.hid h
  have HB1 := Lib.hid (hb0.trans (hb1.mono (Nat.le_of_lt hs0)))
  clear h hb1 hb0 e0 e1 e2 f0 f1 f2
  obtain ⟨p00, p0, p1, p2, z0, z1, z2⟩ := HN1.out
  obtain ⟨q00, q0, q1, q2, _, _, _⟩ := HQ1.out
  dsimp only
  go_enter Try.func3, Try.ntmps3
  have hsm := small_any HN.out W1 HB1.out
  dsimp only at hsm
  go_wp2_with fail
  refine hsm.mono ?_
  rintro e W2 ⟨rfl, hb2⟩
  have HB2 := Lib.hid (HB1.out.trans (hb2.mono HB1.out.size))
  have HN2 := Lib.hid (HN1.out.kept hb2)
  have HQ2 := Lib.hid (HQ1.out.kept hb2)
  clear p00 p0 p1 p2 z0 z1 z2 q00 q0 q1 q2
  obtain ⟨p00, p0, p1, p2, z0, z1, z2⟩ := HN2.out
  obtain ⟨q00, q0, q1, q2, _, _, _⟩ := HQ2.out
  clear hb2 hsm
  cases hsmall : smallT t with
  | false =>
    go_wp2_with fail
    refine (fixed_any W2).mono ?_
    rintro e W3 ⟨rfl, hb3⟩
    have HB3 := Lib.hid (HB2.out.trans (hb3.mono HB2.out.size))
    clear hb3
    go_wp2_with fail
    go_ret
    exact ⟨rfl, HB3.out⟩
  | true =>
  have hlen := small_pairs hsmall
  have hmy := mayR_any HN.out W2 HB2.out (by omega)
  dsimp only at hmy
  clear hsmall
  go_wp2_with fail
  refine hmy.mono ?_
  rintro e W3 ⟨rfl, hb3⟩
  have HB3 := Lib.hid (HB2.out.trans (hb3.mono HB2.out.size))
  have HN3 := Lib.hid (HN2.out.kept hb3)
  have HQ3 := Lib.hid (HQ2.out.kept hb3)
  clear p00 p0 p1 p2 z0 z1 z2 q00 q0 q1 q2
  obtain ⟨p00, p0, p1, p2, z0, z1, z2⟩ := HN3.out
  obtain ⟨q00, q0, q1, q2, _, _, _⟩ := HQ3.out
  clear hb3 hmy
  obtain ⟨gi, hgi⟩ : ∃ gi, (gotT t x).getD 0 = gi := ⟨_, rfl⟩
  obtain ⟨gb, hgb⟩ : ∃ gb, (gotT t x).isSome = gb := ⟨_, rfl⟩
  have hgt : Calls Try.prog 10 #[.agg #[.slice a0 n0 k0, .slice a1 n1 k1, .slice a2 n2 k2], .int .i64 x] W3 (fun e w'' => e = .returned (.tuple #[.int .i64 gi, .bool gb]) ∧ Below W3.heap.size W3 w'') := by
    have h := get_any HN.out x W3 HB3.out
    rw [← hgi, ← hgb]
    exact h
  go_wp2_with fail
  refine hgt.mono ?_
  rintro e W4 ⟨rfl, hb4⟩
  have HB4 := Lib.hid (HB3.out.trans (hb4.mono HB3.out.size))
  have HN4 := Lib.hid (HN3.out.kept hb4)
  have HQ4 := Lib.hid (HQ3.out.kept hb4)
  clear p00 p0 p1 p2 z0 z1 z2 q00 q0 q1 q2
  obtain ⟨p00, p0, p1, p2, z0, z1, z2⟩ := HN4.out
  obtain ⟨q00, q0, q1, q2, _, _, _⟩ := HQ4.out
  clear hb4 hgt
  have hmy := may_any HN.out W4 HB4.out
  dsimp only at hmy
  go_wp2_with fail
  refine hmy.mono ?_
  rintro e W5 ⟨rfl, hb5⟩
  have HB5 := Lib.hid (HB4.out.trans (hb5.mono HB4.out.size))
  have HN5 := Lib.hid (HN4.out.kept hb5)
  have HQ5 := Lib.hid (HQ4.out.kept hb5)
  clear p00 p0 p1 p2 z0 z1 z2 q00 q0 q1 q2
  obtain ⟨p00, p0, p1, p2, z0, z1, z2⟩ := HN5.out
  obtain ⟨q00, q0, q1, q2, _, _, _⟩ := HQ5.out
  clear hb5 hmy
  cases hmay : mayT16 t with
  | false =>
    have hg0 : gotT t x = none := by unfold gotT; rw [hmay]; rfl
    have hw0 : walkT t x z = [] := by unfold walkT; rw [hmay]; rfl
    have hh0 : hgtR t = 0 := by unfold hgtR; rw [hmay]; rfl
    rw [hg0] at hgi hgb
    obtain rfl : (0 : Int) = gi := hgi
    obtain rfl : false = gb := hgb
    clear hmay hg0
    go_wp2_with fail
    refine (fixed_any W5).mono ?_
    rintro e W6 ⟨rfl, hb6⟩
    have HB6 := Lib.hid (HB5.out.trans (hb6.mono HB5.out.size))
    have HN6 := Lib.hid (HN5.out.kept hb6)
    have HQ6 := Lib.hid (HQ5.out.kept hb6)
    clear p00 p0 p1 p2 z0 z1 z2 q00 q0 q1 q2
    obtain ⟨p00, p0, p1, p2, z0, z1, z2⟩ := HN6.out
    obtain ⟨q00, q0, q1, q2, _, _, _⟩ := HQ6.out
    clear hb6
    have hwk := walk_any HN.out x z W6 HB6.out (by omega)
    dsimp only at hwk
    go_wp2_with fail
    refine hwk.mono ?_
    rintro e W7 ⟨aw, cw, r, rfl, hr, _, hb7⟩
    obtain rfl : r = [] := hr.out.trans hw0
    have HB7 := Lib.hid (HB6.out.trans (hb7.mono HB6.out.size))
    have HN7 := Lib.hid (HN6.out.kept hb7)
    have HQ7 := Lib.hid (HQ6.out.kept hb7)
    clear p00 p0 p1 p2 z0 z1 z2 q00 q0 q1 q2
    obtain ⟨p00, p0, p1, p2, z0, z1, z2⟩ := HN7.out
    obtain ⟨q00, q0, q1, q2, _, _, _⟩ := HQ7.out
    clear hb7 hwk hr
    have hht := height_any HN.out W7 HB7.out
    rw [hh0] at hht
    dsimp only at hht
    go_wp2_with fail
    refine hht.mono ?_
    rintro e W8 ⟨rfl, hb8⟩
    have HB8 := Lib.hid (HB7.out.trans (hb8.mono HB7.out.size))
    clear hb8 hht
    go_wp2_with fail
    go_ret
    exact ⟨rfl, HB8.out⟩
  | true =>
  have hg0 : gotT t x = getP (pairsT t) x := gotT_eq hmay x
  have Hw0 : Hid (walkT t x z = walkP (pairsT t) x z) := walkT_eq hmay x z
  have Hh0 : Hid (hgtR t = deepT t 40) := by unfold Hid hgtR; rw [hmay]; rfl
  rw [hg0] at hgi hgb
  clear hmay hg0
  have hpr := pairs_any HN.out W5 HB5.out (by omega)
  dsimp only at hpr
  go_wp2_with fail
  refine hpr.mono ?_
  rintro e W6 ⟨aP, cP, l, rfl, hl, hown, hb6⟩
  obtain rfl : l = pairsT t := hl.out
  have HP6 := Lib.hid (sl_of_ownsE pairE_ok hown).1
  have HB6 := Lib.hid (HB5.out.trans (hb6.mono HB5.out.size))
  have HN6 := Lib.hid (HN5.out.kept hb6)
  have HQ6 := Lib.hid (HQ5.out.kept hb6)
  clear p00 p0 p1 p2 z0 z1 z2 q00 q0 q1 q2
  obtain ⟨p00, p0, p1, p2, z0, z1, z2⟩ := HN6.out
  obtain ⟨q00, q0, q1, q2, _, _, _⟩ := HQ6.out
  clear hpr hb6 hl hown
  have hgR : Calls Try.prog 15 #[.slice aP (pairsT t).length cP, .int .i64 x] W6 (fun e w'' => e = .returned (.tuple #[.int .i64 gi, .bool gb]) ∧ Below W6.heap.size W6 w'') := by
    have h := getR_any _ _ x W6 HP6.out (by omega)
    rw [← hgi, ← hgb]
    exact h
  go_wp2_with fail
  refine hgR.mono ?_
  rintro e W7 ⟨rfl, hb7⟩
  have HB7 := Lib.hid (HB6.out.trans (hb7.mono HB6.out.size))
  have HN7 := Lib.hid (HN6.out.kept hb7)
  have HQ7 := Lib.hid (HQ6.out.kept hb7)
  clear p00 p0 p1 p2 z0 z1 z2 q00 q0 q1 q2
  obtain ⟨p00, p0, p1, p2, z0, z1, z2⟩ := HN7.out
  obtain ⟨q00, q0, q1, q2, _, _, _⟩ := HQ7.out
  have HP7 := Lib.hid (sl_below HP6.out hb7)
  clear hgR hb7
  clear hgi hgb
  have hfx : ∀ wx, Held W7 wx → Calls Try.prog 8 #[] wx fun e w' => e = .returned (.bool true) ∧ Below wx.heap.size wx w' := fun wx _ => fixed_any wx
  have hwk : ∀ wx, Held W7 wx → Calls Try.prog 12 #[.agg #[.slice a0 n0 k0, .slice a1 n1 k1, .slice a2 n2 k2], .int .i64 x, .int .i64 z] wx fun e w' => ∃ (a : Option Addr) (n cap : Nat), e = .returned (.slice a n cap) ∧ Prs w' (.slice a n cap) (walkP (pairsT t) x z) ∧ Below wx.heap.size wx w' := fun wx hx => by
    refine (walk_any HN.out x z wx (HB7.out.trans (hx.2.mono HB7.out.size)) (by omega)).mono ?_
    rintro e w' ⟨a, cap, r, rfl, hr, hown, hb⟩
    obtain rfl : r = walkP (pairsT t) x z := hr.out.trans Hw0.out
    exact ⟨a, _, cap, rfl, (sl_of_ownsE pairE_ok hown).1, hb⟩
  have hwR : ∀ wx, Held W7 wx → Calls Try.prog 17 #[.slice aP (pairsT t).length cP, .int .i64 x, .int .i64 z] wx fun e w' => ∃ (a : Option Addr) (n cap : Nat), e = .returned (.slice a n cap) ∧ Prs w' (.slice a n cap) (walkP (pairsT t) x z) ∧ Below wx.heap.size wx w' := fun wx hx => by
    refine (walkR_any _ _ x z wx (sl_below HP7.out hx.2) (by omega)).mono ?_
    rintro e w' ⟨a, cap, r, rfl, hr, hown, hb⟩
    obtain rfl : r = walkP (pairsT t) x z := hr.out
    exact ⟨a, _, cap, rfl, (sl_of_ownsE pairE_ok hown).1, hb⟩
  have hsame : ∀ (wx : World) (u v : Value), Prs wx u (walkP (pairsT t) x z) → Prs wx v (walkP (pairsT t) x z) → Calls Try.prog 16 #[u, v] wx fun e w' => e = .returned (.bool true) ∧ Below wx.heap.size wx w' := fun wx u v h1 h2 => sameP_eq u v _ wx h1 h2 (by have := walk_len (pairsT t) x z; omega)
  have hht : ∀ wx, Held W7 wx → Calls Try.prog 13 #[.agg #[.slice a0 n0 k0, .slice a1 n1 k1, .slice a2 n2 k2]] wx fun e w' => e = .returned (.int .i64 (deepT t 40 : Nat)) ∧ Below wx.heap.size wx w' := fun wx hx => by
    have h := height_any HN.out wx (HB7.out.trans (hx.2.mono HB7.out.size))
    rw [Hh0.out] at h; exact h
  have hdp : ∀ wx, Held W7 wx → Calls Try.prog 18 #[.agg #[.slice a0 n0 k0, .slice a1 n1 k1, .slice a2 n2 k2], .int .i64 40] wx fun e w' => e = .returned (.int .i64 (deepT t 40 : Nat)) ∧ Below wx.heap.size wx w' := fun wx hx =>
    deep_any HN.out 40 wx (HB7.out.trans (hx.2.mono HB7.out.size)) (Nat.le_refl _)
  generalize (pairsT t).length = np at *
  generalize deepT t 40 = dt at *
  go_wp2_with fail
  refine regh_start (S := Held W7) (by kernel_rfl) 34 rfl held_start (fun hHeld => ?_)
  refine regh_call 0 rfl (by kernel_rfl) (fun K hK => ?_)
  go_simp
  go_at_call 8
  refine (hfx _ (by first | assumption | exact held_start)).mono ?_
  rintro e w8 ⟨rfl, hb8⟩
  go_wp2_with fail
  refine hK.out _ _ (held_call (by assumption) (by first | assumption | exact held_start)) (fun hHeld1 => ?_)
  clear hK K
  try simp only [Act.put, List.setIfInBounds_toArray, List.set_cons_zero, List.set_cons_succ]
  refine regh_take 1 rfl (by kernel_rfl) (by kernel_rfl) (by kernel_rfl) (fun _ _ _ h => h) (by rfl) (by intro w hSw; go_simp; with_reducible rfl) (by assumption) ?_
  try simp only [Act.put, List.setIfInBounds_toArray, List.set_cons_zero, List.set_cons_succ]
  refine regh_take 2 rfl (by kernel_rfl) (by kernel_rfl) (by kernel_rfl) (fun _ _ _ h => h) (by rfl) (by intro w hSw; go_simp; with_reducible rfl) (by assumption) ?_
  try simp only [Act.put, List.setIfInBounds_toArray, List.set_cons_zero, List.set_cons_succ]
  refine regh_take 3 rfl (by kernel_rfl) (by kernel_rfl) (by kernel_rfl) (fun _ _ _ h => h) (by rfl) (by intro w hSw; go_simp; with_reducible rfl) (by assumption) ?_
  try simp only [Act.put, List.setIfInBounds_toArray, List.set_cons_zero, List.set_cons_succ]
  refine regh_take (v := .bool true) 4 rfl (by kernel_rfl) (by kernel_rfl) (by kernel_rfl) (fun _ _ _ h => h) (by rfl) (by intro w hSw; go_simp) (by assumption) ?_
  try simp only [Act.put, List.setIfInBounds_toArray, List.set_cons_zero, List.set_cons_succ]
  refine regh_take 5 rfl (by kernel_rfl) (by kernel_rfl) (by kernel_rfl) (fun _ _ _ h => h) (by rfl) (by intro w hSw; go_simp; with_reducible rfl) (by assumption) ?_
  try simp only [Act.put, List.setIfInBounds_toArray, List.set_cons_zero, List.set_cons_succ]
  refine regh_take 6 rfl (by kernel_rfl) (by kernel_rfl) (by kernel_rfl) (fun _ _ _ h => h) (by rfl) (by intro w hSw; go_simp; with_reducible rfl) (by assumption) ?_
  try simp only [Act.put, List.setIfInBounds_toArray, List.set_cons_zero, List.set_cons_succ]
  refine regh_take 7 rfl (by kernel_rfl) (by kernel_rfl) (by kernel_rfl) (fun _ _ _ h => h) (by rfl) (by intro w hSw; go_simp; with_reducible rfl) (by assumption) ?_
  try simp only [Act.put, List.setIfInBounds_toArray, List.set_cons_zero, List.set_cons_succ]
  refine regh_take 8 rfl (by kernel_rfl) (by kernel_rfl) (by kernel_rfl) (fun _ _ _ h => h) (by rfl) (by intro w hSw; go_simp; with_reducible rfl) (by assumption) ?_
  try simp only [Act.put, List.setIfInBounds_toArray, List.set_cons_zero, List.set_cons_succ]
  refine regh_take (v := .bool true) 9 rfl (by kernel_rfl) (by kernel_rfl) (by kernel_rfl) (fun _ _ _ h => h) (by rfl) (by intro w hSw; go_simp) (by assumption) ?_
  try simp only [Act.put, List.setIfInBounds_toArray, List.set_cons_zero, List.set_cons_succ]
  refine regh_take 10 rfl (by kernel_rfl) (by kernel_rfl) (by kernel_rfl) (fun _ _ _ h => h) (by rfl) (by intro w hSw; go_simp; with_reducible rfl) (by assumption) ?_
  try simp only [Act.put, List.setIfInBounds_toArray, List.set_cons_zero, List.set_cons_succ]
  refine regh_take 11 rfl (by kernel_rfl) (by kernel_rfl) (by kernel_rfl) (fun _ _ _ h => h) (by rfl) (by intro w hSw; go_simp; with_reducible rfl) (by assumption) ?_
  try simp only [Act.put, List.setIfInBounds_toArray, List.set_cons_zero, List.set_cons_succ]
  refine regh_take 12 rfl (by kernel_rfl) (by kernel_rfl) (by kernel_rfl) (fun _ _ _ h => h) (by rfl) (by intro w hSw; go_simp; with_reducible rfl) (by assumption) ?_
  try simp only [Act.put, List.setIfInBounds_toArray, List.set_cons_zero, List.set_cons_succ]
  refine regh_take 13 rfl (by kernel_rfl) (by kernel_rfl) (by kernel_rfl) (fun _ _ _ h => h) (by rfl) (by intro w hSw; go_simp; with_reducible rfl) (by assumption) ?_
  try simp only [Act.put, List.setIfInBounds_toArray, List.set_cons_zero, List.set_cons_succ]
  refine regh_take 14 rfl (by kernel_rfl) (by kernel_rfl) (by kernel_rfl) (fun _ _ _ h => h) (by rfl) (by intro w hSw; go_simp; with_reducible rfl) (by assumption) ?_
  try simp only [Act.put, List.setIfInBounds_toArray, List.set_cons_zero, List.set_cons_succ]
  refine regh_take 15 rfl (by kernel_rfl) (by kernel_rfl) (by kernel_rfl) (fun _ _ _ h => h) (by rfl) (by intro w hSw; go_simp; with_reducible rfl) (by assumption) ?_
  try simp only [Act.put, List.setIfInBounds_toArray, List.set_cons_zero, List.set_cons_succ]
  refine regh_take 16 rfl (by kernel_rfl) (by kernel_rfl) (by kernel_rfl) (fun _ _ _ h => h) (by rfl) (by intro w hSw; go_simp; with_reducible rfl) (by assumption) ?_
  try simp only [Act.put, List.setIfInBounds_toArray, List.set_cons_zero, List.set_cons_succ]
  refine regh_take 18 rfl (by kernel_rfl) (by kernel_rfl) (by kernel_rfl) (fun _ _ _ h => h) (by rfl) (by intro w hSw; go_simp; with_reducible rfl) (by assumption) ?_
  try simp only [Act.put, List.setIfInBounds_toArray, List.set_cons_zero, List.set_cons_succ]
  refine regh_take 19 rfl (by kernel_rfl) (by kernel_rfl) (by kernel_rfl) (fun _ _ _ h => h) (by rfl) (by intro w hSw; go_simp; with_reducible rfl) (by assumption) ?_
  try simp only [Act.put, List.setIfInBounds_toArray, List.set_cons_zero, List.set_cons_succ]
  refine regh_take 20 rfl (by kernel_rfl) (by kernel_rfl) (by kernel_rfl) (fun _ _ _ h => h) (by rfl) (by intro w hSw; go_simp; with_reducible rfl) (by assumption) ?_
  try simp only [Act.put, List.setIfInBounds_toArray, List.set_cons_zero, List.set_cons_succ]
  refine regh_take 21 rfl (by kernel_rfl) (by kernel_rfl) (by kernel_rfl) (fun _ _ _ h => h) (by rfl) (by intro w hSw; go_simp; with_reducible rfl) (by assumption) ?_
  try simp only [Act.put, List.setIfInBounds_toArray, List.set_cons_zero, List.set_cons_succ]
  refine regh_take 22 rfl (by kernel_rfl) (by kernel_rfl) (by kernel_rfl) (fun _ _ _ h => h) (by rfl) (by intro w hSw; go_simp; with_reducible rfl) (by assumption) ?_
  try simp only [Act.put, List.setIfInBounds_toArray, List.set_cons_zero, List.set_cons_succ]
  refine regh_call 17 rfl (by kernel_rfl) (fun K hK => ?_)
  go_simp
  go_at_call 12
  refine (hwk _ (by first | assumption | exact held_start)).mono ?_
  rintro e w9 ⟨aw, nw, cw, rfl, hPw, hb9⟩
  go_wp2_with fail
  refine hK.out _ _ (held_call (by assumption) (by first | assumption | exact held_start)) (fun hHeld2 => ?_)
  clear hK K
  try simp only [Act.put, List.setIfInBounds_toArray, List.set_cons_zero, List.set_cons_succ]
  refine regh_call 23 rfl (by kernel_rfl) (fun K hK => ?_)
  go_simp
  go_at_call 17
  refine (hwR _ (by first | assumption | exact held_start)).mono ?_
  rintro e w10 ⟨ar, nr, cr, rfl, hPr, hb10⟩
  go_wp2_with fail
  refine hK.out _ _ (held_call (by assumption) (by first | assumption | exact held_start)) (fun hHeld3 => ?_)
  clear hK K
  try simp only [Act.put, List.setIfInBounds_toArray, List.set_cons_zero, List.set_cons_succ]
  refine regh_call 24 rfl (by kernel_rfl) (fun K hK => ?_)
  go_simp
  go_at_call 16
  refine (hsame _ _ _ (sl_below hPw hb10) hPr).mono ?_
  rintro e w11 ⟨rfl, hb11⟩
  go_wp2_with fail
  refine hK.out _ _ (held_call (by assumption) (by first | assumption | exact held_start)) (fun hHeld4 => ?_)
  clear hK K
  try simp only [Act.put, List.setIfInBounds_toArray, List.set_cons_zero, List.set_cons_succ]
  refine regh_take 25 rfl (by kernel_rfl) (by kernel_rfl) (by kernel_rfl) (fun _ _ _ h => h) (by rfl) (by intro w hSw; go_simp; with_reducible rfl) (by assumption) ?_
  try simp only [Act.put, List.setIfInBounds_toArray, List.set_cons_zero, List.set_cons_succ]
  refine regh_take 26 rfl (by kernel_rfl) (by kernel_rfl) (by kernel_rfl) (fun _ _ _ h => h) (by rfl) (by intro w hSw; go_simp; with_reducible rfl) (by assumption) ?_
  try simp only [Act.put, List.setIfInBounds_toArray, List.set_cons_zero, List.set_cons_succ]
  refine regh_take 27 rfl (by kernel_rfl) (by kernel_rfl) (by kernel_rfl) (fun _ _ _ h => h) (by rfl) (by intro w hSw; go_simp; with_reducible rfl) (by assumption) ?_
  try simp only [Act.put, List.setIfInBounds_toArray, List.set_cons_zero, List.set_cons_succ]
  refine regh_take 29 rfl (by kernel_rfl) (by kernel_rfl) (by kernel_rfl) (fun _ _ _ h => h) (by rfl) (by intro w hSw; go_simp; with_reducible rfl) (by assumption) ?_
  try simp only [Act.put, List.setIfInBounds_toArray, List.set_cons_zero, List.set_cons_succ]
  refine regh_call 28 rfl (by kernel_rfl) (fun K hK => ?_)
  go_simp
  go_at_call 13
  refine (hht _ (by first | assumption | exact held_start)).mono ?_
  rintro e w12 ⟨rfl, hb12⟩
  go_wp2_with fail
  refine hK.out _ _ (held_call (by assumption) (by first | assumption | exact held_start)) (fun hHeld5 => ?_)
  clear hK K
  try simp only [Act.put, List.setIfInBounds_toArray, List.set_cons_zero, List.set_cons_succ]
  refine regh_call 30 rfl (by kernel_rfl) (fun K hK => ?_)
  go_simp
  go_at_call 18
  refine (hdp _ (by first | assumption | exact held_start)).mono ?_
  rintro e w13 ⟨rfl, hb13⟩
  go_wp2_with fail
  refine hK.out _ _ (held_call (by assumption) (by first | assumption | exact held_start)) (fun hHeld6 => ?_)
  clear hK K
  try simp only [Act.put, List.setIfInBounds_toArray, List.set_cons_zero, List.set_cons_succ]
  refine regh_take (v := .bool true) 31 rfl (by kernel_rfl) (by kernel_rfl) (by kernel_rfl) (fun _ _ _ h => h) (by rfl) (by intro w hSw; go_simp) (by assumption) ?_
  try simp only [Act.put, List.setIfInBounds_toArray, List.set_cons_zero, List.set_cons_succ]
  refine regh_take 32 rfl (by kernel_rfl) (by kernel_rfl) (by kernel_rfl) (fun _ _ _ h => h) (by rfl) (by intro w hSw; go_simp; with_reducible rfl) (by assumption) ?_
  try simp only [Act.put, List.setIfInBounds_toArray, List.set_cons_zero, List.set_cons_succ]
  refine regh_take 33 rfl (by kernel_rfl) (by kernel_rfl) (by kernel_rfl) (fun _ _ _ h => h) (by rfl) (by intro w hSw; go_simp; with_reducible rfl) (by assumption) ?_
  try simp only [Act.put, List.setIfInBounds_toArray, List.set_cons_zero, List.set_cons_succ]
  refine regh_done (by kernel_rfl) ?_ _
  have HB8 := Lib.hid (HB7.out.trans (hHeld6.2.mono HB7.out.size))
  go_wp2_with fail
  go_ret
  exact ⟨rfl, HB8.out⟩
end Go.Proofs.Ytdlgpcjdaaeliaa
