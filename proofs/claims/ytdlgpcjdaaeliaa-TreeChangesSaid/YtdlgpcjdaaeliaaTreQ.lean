/- The program's Get. Conditions: numbers fit. -/
import Derived.Test.YtdlgpcjdaaeliaaTreO
import Derived.Deep.LoopGhost
namespace Go.Proofs.Ytdlgpcjdaaeliaa
open Go.RowKit

def gotT (t : Tr) (k : Int) : Option Int := if mayT16 t = true then getP (pairsT t) k else none

set_option maxRecDepth 100000 in
set_option maxHeartbeats 4000000 in
theorem get_any {w : World} {n3 : N3} {t : Tr} (h : NodeV w n3 t) (x : Int) (w' : World) (hb : Below w.heap.size w w') :
    Calls Try.prog 10 #[.agg #[n3.1, n3.2.1, n3.2.2], .int .i64 x] w' fun e w'' => e = .returned (getV (gotT t x)) ∧ Below w'.heap.size w' w'' := by
  obtain ⟨v0, v1, v2⟩ := n3
  have HNd := Lib.hid (Nd3.new w' v0 v1 v2 25)
  obtain ⟨W1, hW, e0, e1, e2, hs1, hb0⟩ := boxed3 w' v0 v1 v2 25
  have HNd1 : Hid (Nd3 W1 w'.heap.size v0 v1 v2) := by rw [← hW]; exact HNd.out
  have hc := may_any h W1 (hb.trans (hb0.mono hb.size))
  have Hb0 := Lib.hid hb0
  have Hb := Lib.hid hb
  have HT := Lib.hid h
  dsimp only at hc ⊢
  clear h hb hb0 HNd
  cases hm : mayT16 t with
  | false =>
    rw [hm] at hc
    have HE : Hid (gotT t x = none) := by unfold Hid gotT; rw [hm]; rfl
    clear hm
    go_enter Try.func10, Try.ntmps10
    go_wp2_with fail
    refine hc.mono ?_
    rintro e w2 ⟨rfl, hb2⟩
    have HB2 := Lib.hid hb2
    clear hc hb2
    go_wp2_with fail
    refine bodyPost_ret (results_tmp2 rfl _ _ _) rfl ?_
    exact ⟨by rw [HE.out]; rfl, Hb0.out.trans (HB2.out.mono (Nat.le_of_lt hs1))⟩
  | true =>
    rw [hm] at hc
    obtain ⟨hdp, hsz, hpw⟩ := may_parts hm
    have HE : Hid (gotT t x = getP (pairsT t) x) := by unfold Hid gotT; rw [if_pos hm]
    have Hsz := Lib.hid hsz
    have Hpw := Lib.hid hpw
    clear hm hdp hsz hpw
    go_enter Try.func10, Try.ntmps10
    go_wp2_with fail
    refine hc.mono ?_
    rintro e w2 ⟨rfl, hb2⟩
    have HB2 := Lib.hid (Hb0.out.trans (hb2.mono (Nat.le_of_lt hs1)))
    have HNd2 := Lib.hid (HNd1.out.kept hb2)
    clear hc hb2 e0 e1 e2
    go_wp2_with fail
    go_loopg [] (nodesT t) (fun n wr => ∃ (t' : Tr) (u0 u1 u2 : Value), nodesT t' ≤ n ∧ Hid (getP (pairsT t') x = getP (pairsT t) x) ∧ Hid (sizedT t' 0 = true) ∧ Hid ((keysP (pairsT t')).Pairwise (· < ·)) ∧ Hid (NodeV w (u0, u1, u2) t') ∧ Nd3 wr w'.heap.size u0 u1 u2 ∧ Below w'.heap.size w' wr)
    case atStart => exact ⟨t, v0, v1, v2, Nat.le_refl _, rfl, Hsz.out, Hpw.out, HT.out, HNd2.out, HB2.out⟩
    case round =>
      obtain ⟨t', u0, u1, u2, hn, hg, hs, hp, hnd, hbx, hbr⟩ := hrel
      obtain ⟨ks, vs, kids, ns, aK, aV, aX, cK, cV, cX, rfl, rfl, rfl, rfl, sK, sV, sX, lk, lv, lx, hl, hkn⟩ := node_parts hnd.out
      have Hbx := Lib.hid hbx
      have Hbr := Lib.hid hbr
      obtain ⟨hlt, p0, p1, p2, z0, z1, z2⟩ := hbx
      have hbb : Below w.heap.size w wr := Hb.out.trans (hbr.mono Hb.out.size)
      have hnl : ns.length ≤ 9223372036854775807 := by unfold maxLen at lx; omega
      have Hl := Lib.hid hl
      have Hn := Lib.hid hn
      by_cases hz : ns.length = 0
      · have b1 : decide ((0 : Int) < (ns.length : Int)) = false := decide_eq_false (by omega)
        have b1n : decide (0 < ns.length) = false := decide_eq_false (by omega)
        obtain ⟨hvk, hpr, hk4⟩ := sized_leaf hs.out (by omega)
        have hix := index_any (.slice aK ks.length cK) ks x wr (sl_below sK hbb) (by omega)
        have HF : Hid (gotT t x = getP (ks.zip vs) x) := by unfold Hid; rw [HE.out, ← hg.out, hpr]
        have Hvk := Lib.hid hvk
        have HV := Lib.hid sV
        have Hbb := Lib.hid hbb
        clear hz hl hkn sK sV sX lk lv lx hbb hbr hn hpr hvk hg hs hp
        go_wp2_with fail
        refine hix.mono ?_
        rintro e w4 ⟨r, rfl, hr, hb4⟩
        have HB4 := Lib.hid (below_step9 Hbr.out hb4)
        have HBW := Lib.hid (below_step9 Hbb.out hb4)
        have q0 : w4.cell? ⟨w'.heap.size, 0, none⟩ = some (.slice aK ks.length cK) := (hb4.cell (p := ⟨w'.heap.size, 0, none⟩) hlt).trans p0
        have q1 : w4.cell? ⟨w'.heap.size, 1, none⟩ = some (.slice aV vs.length cV) := (hb4.cell (p := ⟨w'.heap.size, 1, none⟩) hlt).trans p1
        clear hb4 hix p0 p1 p2 z0 z1 z2
        rcases hr.out with ⟨i, hi, rfl, hix, hno⟩ | ⟨rfl, hno⟩
        · have hiv : i < vs.length := by rw [Hvk.out]; exact hi
          obtain ⟨bv, ov, hveq, hbv, vc⟩ := int_at (sl_below HV.out HBW.out) hiv
          subst hveq
          have HG : Hid (gotT t x = some vs[i]) := by unfold Hid; rw [HF.out, getP_zip i hi hiv hno hix]
          have b2 : decide ((i : Int) < 0) = false := decide_eq_false (by omega)
          have g0 : (0 : Int) ≤ (i : Int) := by omega
          have g1 : (i : Int) < (vs.length : Int) := by omega
          clear hr hix hno HF hi
          generalize vs[i]'hiv = y at *
          go_wp2_with fail
          refine bodyPost_ret (results_tmp2 rfl _ _ _) rfl ?_
          exact ⟨by rw [HG.out]; rfl, HB4.out⟩
        · have HG : Hid (gotT t x = none) := by unfold Hid; rw [HF.out, getP_zip_none hno]
          clear hr hno HF
          go_wp2_with fail
          refine bodyPost_ret (results_tmp2 rfl _ _ _) rfl ?_
          exact ⟨by rw [HG.out]; rfl, HB4.out⟩
      · have b1 : decide ((0 : Int) < (ns.length : Int)) = true := decide_eq_true (by omega)
        have b1n : decide (0 < ns.length) = true := decide_eq_true (by omega)
        have hkz : kids.length ≠ 0 := by omega
        obtain ⟨hkk, _, hk4⟩ := sized_inner hs.out hkz
        have hnk : ns.length = ks.length := by omega
        have Hnk := Lib.hid hnk
        have x1 : IntKind.i64.wrap ((ns.length : Int) - 1) = ((ns.length - 1 : Nat) : Int) := by rw [IntWalk.i64_in _ (by omega)]; omega
        have Hsel := Lib.hid (fun (i : Nat) (hi : i < kids.length) h1 h2 => get_kid hs.out hkz hp.out hi x h1 h2)
        have Hkn := Lib.hid hkn
        have HK := Lib.hid sK
        have HX := Lib.hid sX
        have Hbb := Lib.hid hbb
        have hn4 : ns.length ≤ 4 := by omega
        have hn0 : 0 < ns.length := by omega
        clear hl hkn sK sV sX lk lv lx hbb hbr hn hkk hnk hz hs hp
        go_wp2_with fail
        go_loopw [6] (fun ui wr' => ∃ i : Nat, ui = .int .i64 i ∧ i < ns.length ∧ Hid (∀ j (hj : j < ks.length), i < j → x < ks[j]) ∧ wr' = wr) (fun ui _ => (intOf ui).toNat)
        case atStart => exact ⟨ns.length - 1, rfl, by omega, fun j hj h => by have := Hnk.out; omega, rfl⟩
        case round =>
          obtain ⟨i, rfl, hi, hall, rfl⟩ := hrel
          have hik : i < ks.length := by have := Hnk.out; omega
          have hikd : i < kids.length := by have := Hl.out; omega
          obtain ⟨bk, ok, hveq, hbk, kc⟩ := int_at (sl_below HK.out Hbb.out) hik
          subst hveq
          have g0 : (0 : Int) ≤ (i : Int) := by omega
          have g1 : (i : Int) < (ks.length : Int) := by omega
          have g2 : (i : Int) < (ns.length : Int) := by omega
          by_cases hgo : 0 < i ∧ x < ks[i]
          · have b2 : decide ((0 : Int) < (i : Int)) = true := decide_eq_true (by omega)
            have b3 : decide (x < ks[i]) = true := decide_eq_true hgo.2
            have HA : Hid (∀ j (hj : j < ks.length), i - 1 < j → x < ks[j]) := fun j hj hij => by
              by_cases hji : j = i
              · subst hji; exact hgo.2
              · exact hall.out j hj (by omega)
            have x2 : IntKind.i64.wrap ((i : Int) - 1) = ((i - 1 : Nat) : Int) := by rw [IntWalk.i64_in _ (by omega)]; omega
            have hi0 : 0 < i := hgo.1
            clear hgo hall
            generalize ks[i]'hik = y at *
            go_wp2_with fail
            exact ⟨⟨i - 1, by go_num, by omega, HA.out, by first | rfl | trivial⟩, by simp [intOf]; omega⟩
          · have hsel := Hsel.out i hikd hall.out (by
              by_cases h0 : i = 0
              · exact Or.inl h0
              · exact Or.inr ⟨hik, by omega⟩)
            have hin : i < ns.length := hi
            obtain ⟨b, off, hveq, hblt, q0, q1, q2⟩ := kid_at (sl_below HX.out Hbb.out) hin
            subst hveq
            have hkid := Hkn.out i hin hikd
            have hnod := nodesL_get hikd
            have HN9 : Hid (nodesT kids[i] < nodesT (.nd ks vs kids)) := by unfold Hid; rw [nodesT]; omega
            have HS1 : Hid (getP (pairsT kids[i]) x = getP (pairsT t) x) := by unfold Hid; rw [← hsel.1, hg.out]
            have HS2 := Lib.hid hsel.2.1
            have HS3 := Lib.hid hsel.2.2
            have hcase : (decide ((0 : Int) < (i : Int)) = false) ∨ (decide ((0 : Int) < (i : Int)) = true ∧ decide (x < ks[i]) = false) := by
              by_cases h0 : 0 < i
              · right; exact ⟨decide_eq_true (by omega), decide_eq_false (fun h => hgo ⟨h0, h⟩)⟩
              · left; exact decide_eq_false (by omega)
            clear hgo hall hsel hnod
            generalize kids[i]'hikd = kid at *
            generalize hn3 : ns[i]'hin = n3 at *
            clear hn3
            obtain ⟨y0, y1, y2⟩ := n3
            have Hkid := Lib.hid hkid
            obtain ⟨aK', aV', aX', nK', cK', nV', cV', nX', cX', rfl, rfl, rfl⟩ := node_shape hkid
            dsimp only at q0 q1 q2
            clear hkid
            have Hset := Lib.hid (Hbx.out.set (.slice aK' nK' cK') (.slice aV' nV' cV') (.slice aX' nX' cX'))
            have Hbs := Lib.hid (below_set3 Hbr.out (Nat.le_refl _) (.slice aK' nK' cK') (.slice aV' nV' cV') (.slice aX' nX' cX'))
            generalize ks[i]'hik = y at *
            have Hfin := Lib.hid (Nat.le_trans (Nat.succ_le_of_lt HN9.out) Hn.out)
            rcases hcase with b2 | ⟨b2, b3⟩
            · have b2n : decide (0 < i) = false := decide_eq_false (by have := of_decide_eq_false b2; omega)
              have b2m : ¬ 0 < i := of_decide_eq_false b2n
              go_wp2_with fail
              go_roundg (nodesT kid)
              case measure => exact Hfin.out
              case rel => exact ⟨kid, _, _, _, Nat.le_refl _, HS1.out, HS2.out, HS3.out, Hkid.out, Hset.out, Hbs.out⟩
            · have b2n : decide (0 < i) = true := decide_eq_true (by have := of_decide_eq_true b2; omega)
              have b2m : 0 < i := of_decide_eq_true b2n
              have b4 : ¬ x < y := of_decide_eq_false b3
              have b5 : y ≤ x := by omega
              go_wp2_with fail
              go_roundg (nodesT kid)
              case measure => exact Hfin.out
              case rel => exact ⟨kid, _, _, _, Nat.le_refl _, HS1.out, HS2.out, HS3.out, Hkid.out, Hset.out, Hbs.out⟩
end Go.Proofs.Ytdlgpcjdaaeliaa
