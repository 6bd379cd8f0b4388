/- The law TreeWalks. Conditions: none. -/
import Derived.Test.YtdlgpcjdaaeliaaTreZd
import Derived.Test.YtdlgpcjdaaeliaaTreM
import Derived.Test.YtdlgpcjdaaeliaaTreI
import Derived.Test.YtdlgpcjdaaeliaaHeld
import Derived.Test.YtdlgpcjdaaeliaaRegH
namespace Go.Proofs.Ytdlgpcjdaaeliaa
open Go.RowKit Go.Shelf
attribute [local go_sem] Oper.semAt_some

set_option maxRecDepth 100000 in
set_option maxHeartbeats 4000000 in
theorem walks_any {w : World} {n3 : N3} {t : Tr} (h : NodeV w n3 t) (x y z : Int) :
    Calls Try.prog 6 #[.agg #[n3.1, n3.2.1, n3.2.2], .agg #[.int .i64 x, .int .i64 y, .int .i64 z]] w fun e w' => e = .returned (.bool true) ∧ Below w.heap.size w w' := by
  obtain ⟨i0, hi, hz0, hz1, hz2⟩ := info_parts info_pair
  obtain ⟨v0, v1, v2⟩ := n3
  obtain ⟨a0, a1, a2, n0, k0, n1, k1, n2, k2, rfl, rfl, rfl⟩ := node_shape h
  obtain ⟨W0, hW0, e0, e1, e2, hs0, hb0⟩ := boxed3 w (.slice a0 n0 k0) (.slice a1 n1 k1) (.slice a2 n2 k2) 25
  have HN0 : Hid (Nd3 W0 w.heap.size (.slice a0 n0 k0) (.slice a1 n1 k1) (.slice a2 n2 k2)) := by rw [← hW0]; exact Nd3.new _ _ _ _ _
  obtain ⟨W1, hW1, f0, f1, f2, hs1, hb1⟩ := boxed3 W0 (.int .i64 x) (.int .i64 y) (.int .i64 z) 27
  have HQ1 : Hid (Nd3 W1 W0.heap.size (.int .i64 x) (.int .i64 y) (.int .i64 z)) := by rw [← hW1]; exact Nd3.new _ _ _ _ _
  have HN1 := Lib.hid (HN0.out.kept hb1)
  have HN := Lib.hid h
  have HB1 := Lib.hid (hb0.trans (hb1.mono (Nat.le_of_lt hs0)))
  clear h hb1 hb0 e0 e1 e2 f0 f1 f2
  obtain ⟨p00, p0, p1, p2, z0, z1, z2⟩ := HN1.out
  obtain ⟨q00, q0, q1, q2, _, _, _⟩ := HQ1.out
  dsimp only
  go_enter Try.func6, Try.ntmps6
  go_wp2_with fail
  refine (fixed_any W1).mono ?_
  rintro e W2 ⟨rfl, hb2⟩
  have HB2 := Lib.hid (HB1.out.trans (hb2.mono HB1.out.size))
  have HN2 := Lib.hid (HN1.out.kept hb2)
  have HQ2 := Lib.hid (HQ1.out.kept hb2)
  clear p00 p0 p1 p2 z0 z1 z2 q00 q0 q1 q2
  obtain ⟨p00, p0, p1, p2, z0, z1, z2⟩ := HN2.out
  obtain ⟨q00, q0, q1, q2, _, _, _⟩ := HQ2.out
  have hsm := small_any HN.out W2 HB2.out
  dsimp only at hsm
  clear hb2
  go_wp2_with fail
  refine hsm.mono ?_
  rintro e W3 ⟨rfl, hb3⟩
  have HB3 := Lib.hid (HB2.out.trans (hb3.mono HB2.out.size))
  have HN3 := Lib.hid (HN2.out.kept hb3)
  have HQ3 := Lib.hid (HQ2.out.kept hb3)
  clear p00 p0 p1 p2 z0 z1 z2 q00 q0 q1 q2
  obtain ⟨p00, p0, p1, p2, z0, z1, z2⟩ := HN3.out
  obtain ⟨q00, q0, q1, q2, _, _, _⟩ := HQ3.out
  clear hb3 hsm
  cases hsmall : smallT t with
  | false =>
    go_wp2_with fail
    refine (fixed_any W3).mono ?_
    rintro e W4 ⟨rfl, hb4⟩
    have HB4 := Lib.hid (HB3.out.trans (hb4.mono HB3.out.size))
    clear hb4
    go_wp2_with fail
    go_ret
    exact ⟨rfl, HB4.out⟩
  | true =>
  have hlen := small_pairs hsmall
  have hmy := mayR_any HN.out W3 HB3.out (by omega)
  dsimp only at hmy
  clear hsmall
  go_wp2_with fail
  refine hmy.mono ?_
  rintro e W4 ⟨rfl, hb4⟩
  have HB4 := Lib.hid (HB3.out.trans (hb4.mono HB3.out.size))
  have HN4 := Lib.hid (HN3.out.kept hb4)
  have HQ4 := Lib.hid (HQ3.out.kept hb4)
  clear p00 p0 p1 p2 z0 z1 z2 q00 q0 q1 q2
  obtain ⟨p00, p0, p1, p2, z0, z1, z2⟩ := HN4.out
  obtain ⟨q00, q0, q1, q2, _, _, _⟩ := HQ4.out
  clear hb4 hmy
  cases hmay : mayT16 t with
  | false =>
    go_wp2_with fail
    refine (fixed_any W4).mono ?_
    rintro e W5 ⟨rfl, hb5⟩
    have HB5 := Lib.hid (HB4.out.trans (hb5.mono HB4.out.size))
    clear hb5
    go_wp2_with fail
    go_ret
    exact ⟨rfl, HB5.out⟩
  | true =>
  by_cases hxy : y < x
  · have b1 : decide (y < x) = true := decide_eq_true hxy
    go_wp2_with fail
    refine (fixed_any W4).mono ?_
    rintro e W5 ⟨rfl, hb5⟩
    have HB5 := Lib.hid (HB4.out.trans (hb5.mono HB4.out.size))
    clear hb5
    go_wp2_with fail
    go_ret
    exact ⟨rfl, HB5.out⟩
  have b1 : decide (y < x) = false := decide_eq_false hxy
  by_cases hyz : z < y
  · have b2 : decide (z < y) = true := decide_eq_true hyz
    go_wp2_with fail
    refine (fixed_any W4).mono ?_
    rintro e W5 ⟨rfl, hb5⟩
    have HB5 := Lib.hid (HB4.out.trans (hb5.mono HB4.out.size))
    clear hb5
    go_wp2_with fail
    go_ret
    exact ⟨rfl, HB5.out⟩
  have b2 : decide (z < y) = false := decide_eq_false hyz
  obtain ⟨_, _, hr⟩ := may_parts hmay
  have Hsplit := Lib.hid (walk_split (a := x) (b := y) (c := z) (by omega) (by omega) (pairsT t) hr)
  have Hmem : Hid (∀ p ∈ walkP (pairsT t) x z, gotT t p.1 = some p.2 ∧ x ≤ p.1 ∧ p.1 < z) := fun p hp => by
    obtain ⟨h1, h2, h3⟩ := walk_mem hp
    exact ⟨by rw [gotT_eq hmay]; exact get_mem _ hr p h1, h2, h3⟩
  have hwk : ∀ (c d : Int) wx, Held W4 wx → Calls Try.prog 12 #[.agg #[.slice a0 n0 k0, .slice a1 n1 k1, .slice a2 n2 k2], .int .i64 c, .int .i64 d] wx fun e w' => ∃ (a : Option Addr) (cap : Nat), e = .returned (.slice a (walkP (pairsT t) c d).length cap) ∧ Prs w' (.slice a (walkP (pairsT t) c d).length cap) (walkP (pairsT t) c d) ∧ Below wx.heap.size wx w' := fun c d wx hx => by
    refine (walk_any HN.out c d wx (HB4.out.trans (hx.2.mono HB4.out.size)) (by omega)).mono ?_
    rintro e w' ⟨a, cap, r, rfl, hr, hown, hb⟩
    obtain rfl : r = walkP (pairsT t) c d := hr.out.trans (walkT_eq hmay c d)
    exact ⟨a, cap, rfl, (sl_of_ownsE pairE_ok hown).1, hb⟩
  have hl1 : (walkP (pairsT t) x y).length ≤ 12000 := by have := walk_len (pairsT t) x y; omega
  have hl2 : (walkP (pairsT t) y z).length ≤ 12000 := by have := walk_len (pairsT t) y z; omega
  have hl3 : (walkP (pairsT t) x z).length ≤ 12000 := by have := walk_len (pairsT t) x z; omega
  have Hwk := Lib.hid hwk
  clear hmay hr hwk hxy hyz
  go_wp2_with fail
  refine regh_start (S := Held W4) (by kernel_rfl) 21 rfl held_start (fun hHeld => ?_)
  refine regh_take 0 rfl (by kernel_rfl) (by kernel_rfl) (by kernel_rfl) (fun _ _ _ h => h) (by rfl) (by intro w hSw; go_simp; with_reducible rfl) (by assumption) ?_
  try simp only [Act.put, List.setIfInBounds_toArray, List.set_cons_zero, List.set_cons_succ]
  refine regh_take 1 rfl (by kernel_rfl) (by kernel_rfl) (by kernel_rfl) (fun _ _ _ h => h) (by rfl) (by intro w hSw; go_simp; with_reducible rfl) (by assumption) ?_
  try simp only [Act.put, List.setIfInBounds_toArray, List.set_cons_zero, List.set_cons_succ]
  refine regh_take 2 rfl (by kernel_rfl) (by kernel_rfl) (by kernel_rfl) (fun _ _ _ h => h) (by rfl) (by intro w hSw; go_simp; with_reducible rfl) (by assumption) ?_
  try simp only [Act.put, List.setIfInBounds_toArray, List.set_cons_zero, List.set_cons_succ]
  refine regh_take 3 rfl (by kernel_rfl) (by kernel_rfl) (by kernel_rfl) (fun _ _ _ h => h) (by rfl) (by intro w hSw; go_simp; with_reducible rfl) (by assumption) ?_
  try simp only [Act.put, List.setIfInBounds_toArray, List.set_cons_zero, List.set_cons_succ]
  refine regh_take 4 rfl (by kernel_rfl) (by kernel_rfl) (by kernel_rfl) (fun _ _ _ h => h) (by rfl) (by intro w hSw; go_simp; with_reducible rfl) (by assumption) ?_
  try simp only [Act.put, List.setIfInBounds_toArray, List.set_cons_zero, List.set_cons_succ]
  refine regh_take 6 rfl (by kernel_rfl) (by kernel_rfl) (by kernel_rfl) (fun _ _ _ h => h) (by rfl) (by intro w hSw; go_simp; with_reducible rfl) (by assumption) ?_
  try simp only [Act.put, List.setIfInBounds_toArray, List.set_cons_zero, List.set_cons_succ]
  refine regh_take 7 rfl (by kernel_rfl) (by kernel_rfl) (by kernel_rfl) (fun _ _ _ h => h) (by rfl) (by intro w hSw; go_simp; with_reducible rfl) (by assumption) ?_
  try simp only [Act.put, List.setIfInBounds_toArray, List.set_cons_zero, List.set_cons_succ]
  refine regh_take 8 rfl (by kernel_rfl) (by kernel_rfl) (by kernel_rfl) (fun _ _ _ h => h) (by rfl) (by intro w hSw; go_simp; with_reducible rfl) (by assumption) ?_
  try simp only [Act.put, List.setIfInBounds_toArray, List.set_cons_zero, List.set_cons_succ]
  refine regh_take 9 rfl (by kernel_rfl) (by kernel_rfl) (by kernel_rfl) (fun _ _ _ h => h) (by rfl) (by intro w hSw; go_simp; with_reducible rfl) (by assumption) ?_
  try simp only [Act.put, List.setIfInBounds_toArray, List.set_cons_zero, List.set_cons_succ]
  refine regh_take 10 rfl (by kernel_rfl) (by kernel_rfl) (by kernel_rfl) (fun _ _ _ h => h) (by rfl) (by intro w hSw; go_simp; with_reducible rfl) (by assumption) ?_
  try simp only [Act.put, List.setIfInBounds_toArray, List.set_cons_zero, List.set_cons_succ]
  refine regh_take 12 rfl (by kernel_rfl) (by kernel_rfl) (by kernel_rfl) (fun _ _ _ h => h) (by rfl) (by intro w hSw; go_simp; with_reducible rfl) (by assumption) ?_
  try simp only [Act.put, List.setIfInBounds_toArray, List.set_cons_zero, List.set_cons_succ]
  refine regh_take 13 rfl (by kernel_rfl) (by kernel_rfl) (by kernel_rfl) (fun _ _ _ h => h) (by rfl) (by intro w hSw; go_simp; with_reducible rfl) (by assumption) ?_
  try simp only [Act.put, List.setIfInBounds_toArray, List.set_cons_zero, List.set_cons_succ]
  refine regh_take 14 rfl (by kernel_rfl) (by kernel_rfl) (by kernel_rfl) (fun _ _ _ h => h) (by rfl) (by intro w hSw; go_simp; with_reducible rfl) (by assumption) ?_
  try simp only [Act.put, List.setIfInBounds_toArray, List.set_cons_zero, List.set_cons_succ]
  refine regh_take 15 rfl (by kernel_rfl) (by kernel_rfl) (by kernel_rfl) (fun _ _ _ h => h) (by rfl) (by intro w hSw; go_simp; with_reducible rfl) (by assumption) ?_
  try simp only [Act.put, List.setIfInBounds_toArray, List.set_cons_zero, List.set_cons_succ]
  refine regh_take 16 rfl (by kernel_rfl) (by kernel_rfl) (by kernel_rfl) (fun _ _ _ h => h) (by rfl) (by intro w hSw; go_simp; with_reducible rfl) (by assumption) ?_
  try simp only [Act.put, List.setIfInBounds_toArray, List.set_cons_zero, List.set_cons_succ]
  refine regh_call 5 rfl (by kernel_rfl) (fun K hK => ?_)
  go_simp
  go_at_call 12
  refine (Hwk.out x y _ (by first | assumption | exact held_start)).mono ?_
  rintro e w5 ⟨aA, cA, rfl, hPA, hb5⟩
  go_wp2_with fail
  refine hK.out _ _ (held_call (by assumption) (by first | assumption | exact held_start)) (fun hHeld1 => ?_)
  clear hK K
  try simp only [Act.put, List.setIfInBounds_toArray, List.set_cons_zero, List.set_cons_succ]
  refine regh_call 11 rfl (by kernel_rfl) (fun K hK => ?_)
  go_simp
  go_at_call 12
  refine (Hwk.out y z _ (by first | assumption | exact held_start)).mono ?_
  rintro e w6 ⟨aB, cB, rfl, hPB, hb6⟩
  go_wp2_with fail
  refine hK.out _ _ (held_call (by assumption) (by first | assumption | exact held_start)) (fun hHeld2 => ?_)
  clear hK K
  try simp only [Act.put, List.setIfInBounds_toArray, List.set_cons_zero, List.set_cons_succ]
  refine regh_call 17 rfl (by kernel_rfl) (fun K hK => ?_)
  go_simp
  go_at_call 12
  refine (Hwk.out x z _ (by first | assumption | exact held_start)).mono ?_
  rintro e w7 ⟨aC, cC, rfl, hPC, hb7⟩
  go_wp2_with fail
  refine hK.out _ _ (held_call (by assumption) (by first | assumption | exact held_start)) (fun hHeld3 => ?_)
  clear hK K
  try simp only [Act.put, List.setIfInBounds_toArray, List.set_cons_zero, List.set_cons_succ]
  refine regh_take 18 rfl (by kernel_rfl) (by kernel_rfl) (by kernel_rfl) (fun _ _ _ h => h) (by rfl) (by intro w hSw; go_simp; with_reducible rfl) (by assumption) ?_
  try simp only [Act.put, List.setIfInBounds_toArray, List.set_cons_zero, List.set_cons_succ]
  refine regh_take 19 rfl (by kernel_rfl) (by kernel_rfl) (by kernel_rfl) (fun _ _ _ h => h) (by rfl) (by intro w hSw; go_simp; with_reducible rfl) (by assumption) ?_
  try simp only [Act.put, List.setIfInBounds_toArray, List.set_cons_zero, List.set_cons_succ]
  refine regh_take 20 rfl (by kernel_rfl) (by kernel_rfl) (by kernel_rfl) (fun _ _ _ h => h) (by rfl) (by intro w hSw; go_simp; with_reducible rfl) (by assumption) ?_
  try simp only [Act.put, List.setIfInBounds_toArray, List.set_cons_zero, List.set_cons_succ]
  refine regh_done (by kernel_rfl) ?_ _
  have hA7 := Lib.hid (sl_below (sl_below hPA hb6) hb7)
  have hB7 := Lib.hid (sl_below hPB hb7)
  have hC7 := Lib.hid hPC
  have hbb := hHeld3.2
  have HB7 := Lib.hid (HB4.out.trans (hbb.mono HB4.out.size))
  have HN7 := Lib.hid (HN4.out.kept hbb)
  have HQ7 := Lib.hid (HQ4.out.kept hbb)
  clear p00 p0 p1 p2 z0 z1 z2 q00 q0 q1 q2 hbb hHeld hHeld1 hHeld2 hHeld3 hPA hPB hPC hb5 hb6 hb7
  generalize walkP (pairsT t) x y = lA at *
  generalize walkP (pairsT t) y z = lB at *
  generalize walkP (pairsT t) x z = lC at *
  go_wp2_with fail
  go_loopw [8] (fun i wr => ∃ k : Nat, i = .int .i64 k ∧ k ≤ lC.length ∧ Below w7.heap.size w7 wr) (fun i _ => lC.length - (intOf i).toNat)
  case atStart => exact ⟨0, rfl, Nat.zero_le _, Below.refl _ _⟩
  case round =>
    obtain ⟨k, rfl, hk, hbr⟩ := hrel
    have HBr := Lib.hid (HB7.out.trans (hbr.mono HB7.out.size))
    have HNr := Lib.hid (HN7.out.kept hbr)
    have HQr := Lib.hid (HQ7.out.kept hbr)
    have Hbr := Lib.hid hbr
    obtain ⟨p00, p0, p1, p2, z0, z1, z2⟩ := HNr.out
    obtain ⟨q00, q0, q1, q2, _, _, _⟩ := HQr.out
    clear hbr
    by_cases hlt : k < lC.length
    · have g0 : (k : Int) < (lC.length : Int) := by omega
      have g1 : (0 : Int) ≤ (k : Int) := by omega
      have b5 : decide ((k : Int) < (lC.length : Int)) = true := decide_eq_true g0
      have b6 : decide (k < lC.length) = true := decide_eq_true hlt
      have x2 : IntKind.i64.wrap ((k : Int) + 1) = (k : Int) + 1 := IntWalk.i64_in _ (by omega)
      obtain ⟨bC, oC, hveq, hbC, c0, c1⟩ := prs_at (sl_below hC7.out Hbr.out) hlt
      subst hveq
      obtain ⟨hg, hge, hlo⟩ := Hmem.out lC[k] (List.getElem_mem hlt)
      have HGt : Hid (∀ wx, Held wr wx → Calls Try.prog 10 #[.agg #[.slice a0 n0 k0, .slice a1 n1 k1, .slice a2 n2 k2], .int .i64 lC[k].1] wx fun e w' => e = .returned (.tuple #[.int .i64 lC[k].2, .bool true]) ∧ Below wx.heap.size wx w') := fun wx hx => by
        have h := get_any HN.out lC[k].1 wx (HBr.out.trans (hx.2.mono HBr.out.size))
        rw [hg] at h
        exact h
      clear hg
      generalize lC[k] = ck at *
      obtain ⟨ck, cv⟩ := ck
      dsimp only at c0 c1 hge hlo HGt
      have b7 : decide (ck < x) = false := decide_eq_false (by omega)
      have b8 : decide (z ≤ ck) = false := decide_eq_false (by omega)
      have g3 : k ≤ 12000 := by omega
      generalize lC.length = nC at *
      go_wp2_with fail
      refine regh_start (S := Held wr) (by kernel_rfl) 12 rfl held_start (fun hHeld => ?_)
      refine regh_take 0 rfl (by kernel_rfl) (by kernel_rfl) (by kernel_rfl) (fun _ _ _ h => h) (by rfl) (by intro w hSw; go_simp; with_reducible rfl) (by assumption) ?_
      try simp only [Act.put, List.setIfInBounds_toArray, List.set_cons_zero, List.set_cons_succ]
      refine regh_take 1 rfl (by kernel_rfl) (by kernel_rfl) (by kernel_rfl) (fun _ _ _ h => h) (by rfl) (by intro w hSw; go_simp; with_reducible rfl) (by assumption) ?_
      try simp only [Act.put, List.setIfInBounds_toArray, List.set_cons_zero, List.set_cons_succ]
      refine regh_take 2 rfl (by kernel_rfl) (by kernel_rfl) (by kernel_rfl) (fun _ _ _ h => h) (by rfl) (by intro w hSw; go_simp; with_reducible rfl) (by assumption) ?_
      try simp only [Act.put, List.setIfInBounds_toArray, List.set_cons_zero, List.set_cons_succ]
      refine regh_take 3 rfl (by kernel_rfl) (by kernel_rfl) (by kernel_rfl) (fun _ _ _ h => h) (by rfl) (by intro w hSw; go_simp; with_reducible rfl) (by assumption) ?_
      try simp only [Act.put, List.setIfInBounds_toArray, List.set_cons_zero, List.set_cons_succ]
      refine regh_take 4 rfl (by kernel_rfl) (by kernel_rfl) (by kernel_rfl) (fun _ _ _ h => h) (by rfl) (by intro w hSw; go_simp; with_reducible rfl) (by assumption) ?_
      try simp only [Act.put, List.setIfInBounds_toArray, List.set_cons_zero, List.set_cons_succ]
      refine regh_take 5 rfl (by kernel_rfl) (by kernel_rfl) (by kernel_rfl) (fun _ _ _ h => h) (by rfl) (by intro w hSw; go_simp; with_reducible rfl) (by assumption) ?_
      try simp only [Act.put, List.setIfInBounds_toArray, List.set_cons_zero, List.set_cons_succ]
      refine regh_call 6 rfl (by kernel_rfl) (fun K hK => ?_)
      go_simp
      go_at_call 10
      refine (HGt.out _ (by first | assumption | exact held_start)).mono ?_
      rintro e w8 ⟨rfl, hb8⟩
      go_wp2_with fail
      refine hK.out _ _ (held_call (by assumption) (by first | assumption | exact held_start)) (fun hHeld4 => ?_)
      clear hK K
      try simp only [Act.put, List.setIfInBounds_toArray, List.set_cons_zero, List.set_cons_succ]
      refine regh_take 7 rfl (by kernel_rfl) (by kernel_rfl) (by kernel_rfl) (fun _ _ _ h => h) (by rfl) (by intro w hSw; go_simp; with_reducible rfl) (by assumption) ?_
      try simp only [Act.put, List.setIfInBounds_toArray, List.set_cons_zero, List.set_cons_succ]
      refine regh_take 8 rfl (by kernel_rfl) (by kernel_rfl) (by kernel_rfl) (fun _ _ _ h => h) (by rfl) (by intro w hSw; go_simp; with_reducible rfl) (by assumption) ?_
      try simp only [Act.put, List.setIfInBounds_toArray, List.set_cons_zero, List.set_cons_succ]
      refine regh_take 9 rfl (by kernel_rfl) (by kernel_rfl) (by kernel_rfl) (fun _ _ _ h => h) (by rfl) (by intro w hSw; go_simp; with_reducible rfl) (by assumption) ?_
      try simp only [Act.put, List.setIfInBounds_toArray, List.set_cons_zero, List.set_cons_succ]
      refine regh_take 10 rfl (by kernel_rfl) (by kernel_rfl) (by kernel_rfl) (fun _ _ _ h => h) (by rfl) (by intro w hSw; go_simp; with_reducible rfl) (by assumption) ?_
      try simp only [Act.put, List.setIfInBounds_toArray, List.set_cons_zero, List.set_cons_succ]
      refine regh_take 11 rfl (by kernel_rfl) (by kernel_rfl) (by kernel_rfl) (fun _ _ _ h => h) (by rfl) (by intro w hSw; go_simp; with_reducible rfl) (by assumption) ?_
      try simp only [Act.put, List.setIfInBounds_toArray, List.set_cons_zero, List.set_cons_succ]
      refine regh_done (by kernel_rfl) ?_ _
      have HB8 := Lib.hid (hHeld4.2)
      clear hHeld hHeld4
      have c0' := (HB8.out.cell (p := ⟨bC, oC + k * 2, none⟩) (by omega)).trans c0
      have c1' := (HB8.out.cell (p := ⟨bC, oC + k * 2 + 1, none⟩) (by omega)).trans c1
      have hbC8 : bC < w8.heap.size := Nat.lt_of_lt_of_le hbC HB8.out.size
      have HNs := Lib.hid (HNr.out.kept HB8.out)
      have HQs := Lib.hid (HQr.out.kept HB8.out)
      clear p00 p0 p1 p2 z0 z1 z2 q00 q0 q1 q2 c0 c1
      obtain ⟨p00, p0, p1, p2, z0, z1, z2⟩ := HNs.out
      obtain ⟨q00, q0, q1, q2, _, _, _⟩ := HQs.out
      go_wp2_with fail
      refine regh_start (S := Held w8) (by kernel_rfl) 31 rfl held_start (fun hHeld => ?_)
      refine regh_take 0 rfl (by kernel_rfl) (by kernel_rfl) (by kernel_rfl) (fun _ _ _ h => h) (by rfl) (by intro w hSw; go_simp; with_reducible rfl) (by assumption) ?_
      try simp only [Act.put, List.setIfInBounds_toArray, List.set_cons_zero, List.set_cons_succ]
      refine regh_take 1 rfl (by kernel_rfl) (by kernel_rfl) (by kernel_rfl) (fun _ _ _ h => h) (by rfl) (by intro w hSw; go_simp; with_reducible rfl) (by assumption) ?_
      try simp only [Act.put, List.setIfInBounds_toArray, List.set_cons_zero, List.set_cons_succ]
      refine regh_take 2 rfl (by kernel_rfl) (by kernel_rfl) (by kernel_rfl) (fun _ _ _ h => h) (by rfl) (by intro w hSw; go_simp; with_reducible rfl) (by assumption) ?_
      try simp only [Act.put, List.setIfInBounds_toArray, List.set_cons_zero, List.set_cons_succ]
      refine regh_take 3 rfl (by kernel_rfl) (by kernel_rfl) (by kernel_rfl) (fun _ _ _ h => h) (by rfl) (by intro w hSw; go_simp; with_reducible rfl) (by assumption) ?_
      try simp only [Act.put, List.setIfInBounds_toArray, List.set_cons_zero, List.set_cons_succ]
      refine regh_take 4 rfl (by kernel_rfl) (by kernel_rfl) (by kernel_rfl) (fun _ _ _ h => h) (by rfl) (by intro w hSw; go_simp; with_reducible rfl) (by assumption) ?_
      try simp only [Act.put, List.setIfInBounds_toArray, List.set_cons_zero, List.set_cons_succ]
      refine regh_take 5 rfl (by kernel_rfl) (by kernel_rfl) (by kernel_rfl) (fun _ _ _ h => h) (by rfl) (by intro w hSw; go_simp; with_reducible rfl) (by assumption) ?_
      try simp only [Act.put, List.setIfInBounds_toArray, List.set_cons_zero, List.set_cons_succ]
      refine regh_take 6 rfl (by kernel_rfl) (by kernel_rfl) (by kernel_rfl) (fun _ _ _ h => h) (by rfl) (by intro w hSw; go_simp; with_reducible rfl) (by assumption) ?_
      try simp only [Act.put, List.setIfInBounds_toArray, List.set_cons_zero, List.set_cons_succ]
      refine regh_take 7 rfl (by kernel_rfl) (by kernel_rfl) (by kernel_rfl) (fun _ _ _ h => h) (by rfl) (by intro w hSw; go_simp; with_reducible rfl) (by assumption) ?_
      try simp only [Act.put, List.setIfInBounds_toArray, List.set_cons_zero, List.set_cons_succ]
      refine regh_take 8 rfl (by kernel_rfl) (by kernel_rfl) (by kernel_rfl) (fun _ _ _ h => h) (by rfl) (by intro w hSw; go_simp; with_reducible rfl) (by assumption) ?_
      try simp only [Act.put, List.setIfInBounds_toArray, List.set_cons_zero, List.set_cons_succ]
      refine regh_take (v := .bool false) 9 rfl (by kernel_rfl) (by kernel_rfl) (by kernel_rfl) (fun _ _ _ h => h) (by rfl) (by intro w hSw; go_simp) (by assumption) ?_
      try simp only [Act.put, List.setIfInBounds_toArray, List.set_cons_zero, List.set_cons_succ]
      refine regh_take 10 rfl (by kernel_rfl) (by kernel_rfl) (by kernel_rfl) (fun _ _ _ h => h) (by rfl) (by intro w hSw; go_simp; with_reducible rfl) (by assumption) ?_
      try simp only [Act.put, List.setIfInBounds_toArray, List.set_cons_zero, List.set_cons_succ]
      refine regh_take 11 rfl (by kernel_rfl) (by kernel_rfl) (by kernel_rfl) (fun _ _ _ h => h) (by rfl) (by intro w hSw; go_simp; with_reducible rfl) (by assumption) ?_
      try simp only [Act.put, List.setIfInBounds_toArray, List.set_cons_zero, List.set_cons_succ]
      refine regh_take 12 rfl (by kernel_rfl) (by kernel_rfl) (by kernel_rfl) (fun _ _ _ h => h) (by rfl) (by intro w hSw; go_simp; with_reducible rfl) (by assumption) ?_
      try simp only [Act.put, List.setIfInBounds_toArray, List.set_cons_zero, List.set_cons_succ]
      refine regh_take 13 rfl (by kernel_rfl) (by kernel_rfl) (by kernel_rfl) (fun _ _ _ h => h) (by rfl) (by intro w hSw; go_simp; with_reducible rfl) (by assumption) ?_
      try simp only [Act.put, List.setIfInBounds_toArray, List.set_cons_zero, List.set_cons_succ]
      refine regh_take 14 rfl (by kernel_rfl) (by kernel_rfl) (by kernel_rfl) (fun _ _ _ h => h) (by rfl) (by intro w hSw; go_simp; with_reducible rfl) (by assumption) ?_
      try simp only [Act.put, List.setIfInBounds_toArray, List.set_cons_zero, List.set_cons_succ]
      refine regh_take 15 rfl (by kernel_rfl) (by kernel_rfl) (by kernel_rfl) (fun _ _ _ h => h) (by rfl) (by intro w hSw; go_simp; with_reducible rfl) (by assumption) ?_
      try simp only [Act.put, List.setIfInBounds_toArray, List.set_cons_zero, List.set_cons_succ]
      refine regh_take 16 rfl (by kernel_rfl) (by kernel_rfl) (by kernel_rfl) (fun _ _ _ h => h) (by rfl) (by intro w hSw; go_simp; with_reducible rfl) (by assumption) ?_
      try simp only [Act.put, List.setIfInBounds_toArray, List.set_cons_zero, List.set_cons_succ]
      refine regh_take 17 rfl (by kernel_rfl) (by kernel_rfl) (by kernel_rfl) (fun _ _ _ h => h) (by rfl) (by intro w hSw; go_simp; with_reducible rfl) (by assumption) ?_
      try simp only [Act.put, List.setIfInBounds_toArray, List.set_cons_zero, List.set_cons_succ]
      refine regh_take 18 rfl (by kernel_rfl) (by kernel_rfl) (by kernel_rfl) (fun _ _ _ h => h) (by rfl) (by intro w hSw; go_simp; with_reducible rfl) (by assumption) ?_
      try simp only [Act.put, List.setIfInBounds_toArray, List.set_cons_zero, List.set_cons_succ]
      refine regh_take (v := .bool false) 19 rfl (by kernel_rfl) (by kernel_rfl) (by kernel_rfl) (fun _ _ _ h => h) (by rfl) (by intro w hSw; go_simp) (by assumption) ?_
      try simp only [Act.put, List.setIfInBounds_toArray, List.set_cons_zero, List.set_cons_succ]
      refine regh_take 20 rfl (by kernel_rfl) (by kernel_rfl) (by kernel_rfl) (fun _ _ _ h => h) (by rfl) (by intro w hSw; go_simp; with_reducible rfl) (by assumption) ?_
      try simp only [Act.put, List.setIfInBounds_toArray, List.set_cons_zero, List.set_cons_succ]
      refine regh_take 21 rfl (by kernel_rfl) (by kernel_rfl) (by kernel_rfl) (fun _ _ _ h => h) (by rfl) (by intro w hSw; go_simp; with_reducible rfl) (by assumption) ?_
      try simp only [Act.put, List.setIfInBounds_toArray, List.set_cons_zero, List.set_cons_succ]
      refine regh_take 22 rfl (by kernel_rfl) (by kernel_rfl) (by kernel_rfl) (fun _ _ _ h => h) (by rfl) (by intro w hSw; go_simp; with_reducible rfl) (by assumption) ?_
      try simp only [Act.put, List.setIfInBounds_toArray, List.set_cons_zero, List.set_cons_succ]
      refine regh_take 23 rfl (by kernel_rfl) (by kernel_rfl) (by kernel_rfl) (fun _ _ _ h => h) (by rfl) (by intro w hSw; go_simp; with_reducible rfl) (by assumption) ?_
      try simp only [Act.put, List.setIfInBounds_toArray, List.set_cons_zero, List.set_cons_succ]
      refine regh_take 24 rfl (by kernel_rfl) (by kernel_rfl) (by kernel_rfl) (fun _ _ _ h => h) (by rfl) (by intro w hSw; go_simp; with_reducible rfl) (by assumption) ?_
      try simp only [Act.put, List.setIfInBounds_toArray, List.set_cons_zero, List.set_cons_succ]
      refine regh_take 25 rfl (by kernel_rfl) (by kernel_rfl) (by kernel_rfl) (fun _ _ _ h => h) (by rfl) (by intro w hSw; go_simp; with_reducible rfl) (by assumption) ?_
      try simp only [Act.put, List.setIfInBounds_toArray, List.set_cons_zero, List.set_cons_succ]
      refine regh_take 26 rfl (by kernel_rfl) (by kernel_rfl) (by kernel_rfl) (fun _ _ _ h => h) (by rfl) (by intro w hSw; go_simp; with_reducible rfl) (by assumption) ?_
      try simp only [Act.put, List.setIfInBounds_toArray, List.set_cons_zero, List.set_cons_succ]
      refine regh_take 27 rfl (by kernel_rfl) (by kernel_rfl) (by kernel_rfl) (fun _ _ _ h => h) (by rfl) (by intro w hSw; go_simp; with_reducible rfl) (by assumption) ?_
      try simp only [Act.put, List.setIfInBounds_toArray, List.set_cons_zero, List.set_cons_succ]
      refine regh_take 28 rfl (by kernel_rfl) (by kernel_rfl) (by kernel_rfl) (fun _ _ _ h => h) (by rfl) (by intro w hSw; go_simp; with_reducible rfl) (by assumption) ?_
      try simp only [Act.put, List.setIfInBounds_toArray, List.set_cons_zero, List.set_cons_succ]
      refine regh_take (v := .bool false) 29 rfl (by kernel_rfl) (by kernel_rfl) (by kernel_rfl) (fun _ _ _ h => h) (by rfl) (by intro w hSw; go_simp) (by assumption) ?_
      try simp only [Act.put, List.setIfInBounds_toArray, List.set_cons_zero, List.set_cons_succ]
      refine regh_take 30 rfl (by kernel_rfl) (by kernel_rfl) (by kernel_rfl) (fun _ _ _ h => h) (by rfl) (by intro w hSw; go_simp; with_reducible rfl) (by assumption) ?_
      try simp only [Act.put, List.setIfInBounds_toArray, List.set_cons_zero, List.set_cons_succ]
      refine regh_done (by kernel_rfl) ?_ _
      have HB9 := Lib.hid (HB8.out.trans (hHeld.2.mono HB8.out.size))
      clear hHeld
      go_wp2_with fail
      exact ⟨⟨k + 1, by go_num, by omega, Hbr.out.trans (HB9.out.mono Hbr.out.size)⟩, by simp [intOf]; omega⟩
    · obtain rfl : k = lC.length := by omega
      have HOe := Lib.hid (owns_emptyE wr 51 2)
      have HBe : Hid (Below wr.heap.size wr (wr.alloc (.cells #[] 51))) := (Below.refl _ _).alloc (Nat.le_refl _) _
      have HAe := Lib.hid (sl_below (sl_below hA7.out Hbr.out) HBe.out)
      have HCe := Lib.hid (sl_below (sl_below hC7.out Hbr.out) HBe.out)
      have HBBe := Lib.hid (sl_below (sl_below hB7.out Hbr.out) HBe.out)
      have hsum : lA.length + lB.length ≤ 12000 := by have := congrArg List.length Hsplit.out; rw [List.length_append] at this; omega
      have b5 : decide ((lC.length : Int) < (lC.length : Int)) = false := by simp
      go_wp2_with (first
        | (at_builtin; refine wpList_append_slE pairE_ok (ys := lA) rfl _ _ 32 rfl wr.heap.size 51 i0 _ 16 Try.underlying32 hi hz0 hz1 hz2 rfl _ 0 _ rfl HOe.out _ rfl HAe.out (by simp [maxLen]; omega) (by omega) (by simp) ?_; intro v4 w4 hown4 hgrow4 _
           have HB4' := Lib.hid (HBe.out.grown hgrow4 (by simp) (fun b hbk => owns_block HOe.out b hbk)))
        | (at_builtin; refine wpList_append_slE pairE_ok (ys := lB) rfl _ _ 32 rfl wr.heap.size 51 i0 _ 16 Try.underlying32 hi hz0 hz1 hz2 rfl _ _ _ rfl hown4 _ rfl (sl_below (sl_below hB7.out Hbr.out) HB4'.out) (by simp [maxLen]; omega) (by omega) HB4'.out.size ?_; intro v5 w5 hown5 hgrow5 _
           have HB5' := Lib.hid (HB4'.out.grown hgrow5 HB4'.out.size (fun b hbk => owns_block hown4 b hbk))))
      have hown6 : w5.ownsRow wr.heap.size 51 2 v5 (0 + lA.length + lB.length) (cellsE pairE lC) := by
        rw [← Hsplit.out, cellsE_append]
        rw [List.nil_append] at hown5
        exact hown5
      have hP := (sl_of_ownsE pairE_ok hown6).1
      have hsame := sameP_eq _ _ _ w5 hP (sl_below (sl_below hC7.out Hbr.out) HB5'.out) (by omega)
      refine hsame.mono ?_
      rintro e w9 ⟨rfl, hb9⟩
      have HB9 := Lib.hid (HBr.out.trans ((HB5'.out.trans (hb9.mono HB5'.out.size)).mono HBr.out.size))
      clear hsame hb9 hown4 hown5 hown6 hgrow4 hgrow5 hP
      go_wp2_with fail
      go_ret
      exact ⟨rfl, HB9.out⟩
end Go.Proofs.Ytdlgpcjdaaeliaa
