/- May of the program, and of the document. Conditions: numbers fit. -/
import Derived.Test.YtdlgpcjdaaeliaaTreL
import Derived.Test.YtdlgpcjdaaeliaaTreI
namespace Go.Proofs.Ytdlgpcjdaaeliaa
open Go.RowKit

theorem chk_new9 (w : World) (t : TypeId) : Chk (w.alloc (.cells #[.int .i64 0, .bool false, .int .i64 0] t)) w.heap.size 0 none :=
  ⟨by simp, by rw [World.cell?_alloc_new]; rfl, by rw [World.cell?_alloc_new]; rfl, by rw [World.cell?_alloc_new]; rfl, by rw [World.frozen?_alloc_new], by rw [World.frozen?_alloc_new], by rw [World.frozen?_alloc_new]⟩

set_option maxRecDepth 100000 in
set_option maxHeartbeats 2000000 in
theorem may_any {w : World} {n3 : N3} {t : Tr} (h : NodeV w n3 t) (w' : World) (hb : Below w.heap.size w w') :
    Calls Try.prog 11 #[.agg #[n3.1, n3.2.1, n3.2.2]] w' fun e w'' => e = .returned (.bool (mayT16 t)) ∧ Below w'.heap.size w' w'' := by
  obtain ⟨v0, v1, v2⟩ := n3
  obtain ⟨W1, hW, e0, e1, e2, hs1, hb0⟩ := boxed3 w' v0 v1 v2 25
  have hc := node_any h 1 0 W1.heap.size none (W1.alloc (.cells #[.int .i64 0, .bool false, .int .i64 0] 57)) ((hb.trans (hb0.mono hb.size)).alloc (Nat.le_trans hb.size (Nat.le_of_lt hs1)) _) (Nat.le_trans hb.size (Nat.le_of_lt hs1)) (chk_new9 _ _) (by omega) (by omega)
  rw [chk_may] at hc
  have Hb0 := Lib.hid hb0
  dsimp only at hc ⊢
  have e0' : (W1.alloc (.cells #[.int .i64 0, .bool false, .int .i64 0] 57)).cell? ⟨w'.heap.size, 0, none⟩ = some v0 := by rw [World.cell?_alloc_lt _ _ _ hs1]; exact e0
  have e1' : (W1.alloc (.cells #[.int .i64 0, .bool false, .int .i64 0] 57)).cell? ⟨w'.heap.size, 1, none⟩ = some v1 := by rw [World.cell?_alloc_lt _ _ _ hs1]; exact e1
  have e2' : (W1.alloc (.cells #[.int .i64 0, .bool false, .int .i64 0] 57)).cell? ⟨w'.heap.size, 2, none⟩ = some v2 := by rw [World.cell?_alloc_lt _ _ _ hs1]; exact e2
  clear h hb hb0
  generalize mayT16 t = r at *
  go_enter Try.func11, Try.ntmps11
  go_wp2_with fail
  refine hc.mono ?_
  rintro e w2 ⟨rfl, hg, _⟩
  have Hg := Lib.hid hg
  clear hc hg
  go_wp2_with fail
  go_ret
  refine ⟨rfl, Hb0.out.trans (Below.grown (a := W1) (B := w'.heap.size) ((Below.refl _ _).alloc (Nat.le_of_lt hs1) _) Hg.out (by simp; omega) (fun k hk => by cases hk; exact Nat.le_of_lt hs1))⟩

/-- Keys that rise, one by one. -/
theorem riseK_step {l : List (Int × Int)} {k : Nat} (h1 : 1 ≤ k) (hk : k < l.length) : riseK (some (l[k - 1]).1) (keysP (l.drop k)) = (decide ((l[k - 1]).1 < l[k].1) && riseK (some l[k].1) (keysP (l.drop (k + 1)))) := by
  rw [List.drop_eq_getElem_cons hk]
  rfl

set_option maxRecDepth 100000 in
set_option maxHeartbeats 4000000 in
theorem mayR_any {w : World} {n3 : N3} {t : Tr} (h : NodeV w n3 t) (w' : World) (hb : Below w.heap.size w w') (hl : (pairsT t).length ≤ 1000000) :
    Calls Try.prog 9 #[.agg #[n3.1, n3.2.1, n3.2.2]] w' fun e w'' => e = .returned (.bool (mayT16 t)) ∧ Below w'.heap.size w' w'' := by
  obtain ⟨v0, v1, v2⟩ := n3
  obtain ⟨W1, hW, e0, e1, e2, hs1, hb0⟩ := boxed3 w' v0 v1 v2 25
  have hdp := deep_any h 40 W1 (hb.trans (hb0.mono hb.size)) (by omega)
  have hsz := fun (wx : World) (hx : Below W1.heap.size W1 wx) => sized_any h 0 wx (hb.trans ((hb0.trans (hx.mono (Nat.le_of_lt hs1))).mono hb.size)) (by omega)
  have hpr := fun (wx : World) (hx : Below W1.heap.size W1 wx) => pairs_any h wx (hb.trans ((hb0.trans (hx.mono (Nat.le_of_lt hs1))).mono hb.size)) hl
  have HM : Hid (mayT16 t = (decide (deepT t 40 ≠ 0) && sizedT t 0 && riseK none (keysP (pairsT t)))) := rfl
  have Hsz := Lib.hid hsz
  have Hpr := Lib.hid hpr
  have Hb0 := Lib.hid hb0
  have HL := Lib.hid hl
  dsimp only at hdp Hsz Hpr ⊢
  clear h hb hb0 hsz hpr hl
  by_cases hd0 : deepT t 40 = 0
  · have HE : Hid (mayT16 t = false) := by unfold Hid; rw [HM.out, hd0]; rfl
    rw [hd0] at hdp
    clear HM hd0
    go_enter Try.func9, Try.ntmps9
    go_wp2_with fail
    refine hdp.mono ?_
    rintro e w2 ⟨rfl, hb2⟩
    have HB2 := Lib.hid hb2
    clear hb2 hdp
    go_wp2_with fail
    go_ret
    exact ⟨by rw [HE.out]; rfl, Hb0.out.trans (HB2.out.mono (Nat.le_of_lt hs1))⟩
  · have b1 : ((deepT t 40 : Int) == 0) = false := beq_eq_false_iff_ne.2 (by omega)
    have HM2 : Hid (mayT16 t = (sizedT t 0 && riseK none (keysP (pairsT t)))) := by unfold Hid; rw [HM.out, decide_eq_true hd0, Bool.true_and]
    clear HM hd0
    generalize deepT t 40 = dd at *
    go_enter Try.func9, Try.ntmps9
    go_wp2_with fail
    refine hdp.mono ?_
    rintro e w2 ⟨rfl, hb2⟩
    have hsz2 := Hsz.out w2 hb2
    have f0 : w2.cell? ⟨w'.heap.size, 0, none⟩ = some v0 := (hb2.cell (p := ⟨w'.heap.size, 0, none⟩) hs1).trans e0
    have f1 : w2.cell? ⟨w'.heap.size, 1, none⟩ = some v1 := (hb2.cell (p := ⟨w'.heap.size, 1, none⟩) hs1).trans e1
    have f2 : w2.cell? ⟨w'.heap.size, 2, none⟩ = some v2 := (hb2.cell (p := ⟨w'.heap.size, 2, none⟩) hs1).trans e2
    have HB2 := Lib.hid hb2
    clear hb2 hdp Hsz
    cases hs : sizedT t 0 with
    | false =>
      rw [hs] at hsz2
      have HE : Hid (mayT16 t = false) := by unfold Hid; rw [HM2.out, hs]; rfl
      clear HM2 hs e0 e1 e2
      go_wp2_with fail
      refine hsz2.mono ?_
      rintro e w3 ⟨rfl, hb3⟩
      have HB3 := Lib.hid (below_step9 HB2.out hb3)
      clear hb3 hsz2
      go_wp2_with fail
      go_ret
      exact ⟨by rw [HE.out]; rfl, Hb0.out.trans (HB3.out.mono (Nat.le_of_lt hs1))⟩
    | true =>
      rw [hs] at hsz2
      have HM3 : Hid (mayT16 t = riseK none (keysP (pairsT t))) := by unfold Hid; rw [HM2.out, hs, Bool.true_and]
      clear HM2 hs
      go_wp2_with fail
      refine hsz2.mono ?_
      rintro e w3 ⟨rfl, hb3⟩
      have hb13 := below_step9 HB2.out hb3
      have HB3 := Lib.hid hb13
      have hpr3 := Hpr.out w3 hb13
      have f0 : w3.cell? ⟨w'.heap.size, 0, none⟩ = some v0 := (hb13.cell (p := ⟨w'.heap.size, 0, none⟩) hs1).trans e0
      have f1 : w3.cell? ⟨w'.heap.size, 1, none⟩ = some v1 := (hb13.cell (p := ⟨w'.heap.size, 1, none⟩) hs1).trans e1
      have f2 : w3.cell? ⟨w'.heap.size, 2, none⟩ = some v2 := (hb13.cell (p := ⟨w'.heap.size, 2, none⟩) hs1).trans e2
      clear hb3 hb13 hsz2 e0 e1 e2 Hpr
      go_wp2_with fail
      refine hpr3.mono ?_
      rintro e w4 ⟨a4, c4, l, rfl, hl4, hown4, hb4⟩
      have HB4 := Lib.hid (below_step9 HB3.out hb4)
      have HP := Lib.hid (sl_of_ownsE pairE_ok hown4).1
      have hll : l.length ≤ 1000000 := by rw [hl4.out]; exact HL.out
      have HM4 : Hid (mayT16 t = riseK none (keysP l)) := by unfold Hid; rw [HM3.out, hl4.out]
      clear hpr3 hb4 hown4 f0 f1 f2 HM3
      go_wp2_with fail
      go_loopw [4] (fun ui wr => ∃ k : Nat, ui = .int .i64 k ∧ 1 ≤ k ∧ (k ≤ l.length ∨ k = 1) ∧ Hid (∀ (hk : k - 1 < l.length), riseK none (keysP l) = riseK (some (l[k - 1]).1) (keysP (l.drop k))) ∧ Below w4.heap.size w4 wr) (fun ui _ => l.length - (intOf ui).toNat)
      case atStart =>
        refine ⟨1, rfl, Nat.le_refl _, Or.inr rfl, fun hk => ?_, Below.refl _ _⟩
        match l, hk with
        | x :: l, _ => rfl
      case round =>
        obtain ⟨k, rfl, hk1, hk, hr, hm⟩ := hrel
        have Hm := Lib.hid hm
        by_cases hkl : k < l.length
        · have hpw := sl_below HP.out hm
          obtain ⟨bx, o1, hveq, hb1, E0, E1⟩ := prs_at hpw hkl
          subst hveq
          obtain ⟨bx', o1', hveq, _, F0, F1⟩ := prs_at hpw (show k - 1 < l.length by omega)
          injection hveq with hveq
          injection hveq with t1 t2 t3
          subst t1 t2
          have HS := Lib.hid (riseK_step hk1 hkl)
          have HR := Lib.hid (hr.out (show k - 1 < l.length by omega))
          have x1 : IntKind.i64.wrap ((k : Int) - 1) = ((k - 1 : Nat) : Int) := by rw [IntWalk.i64_in _ (by omega)]; omega
          have g0 : ((k - 1 : Nat) : Int) < (l.length : Int) := by omega
          have g1 : (0 : Int) ≤ ((k - 1 : Nat) : Int) := by omega
          have g2 : (k : Int) < (l.length : Int) := by omega
          have g3 : (0 : Int) ≤ (k : Int) := by omega
          have HK9 : Hid (∀ x y : Int × Int, l[k]'hkl = x → l[k - 1]'(by omega) = y → (l[k + 1 - 1]'(by omega)).1 = x.1) := by
            intro x y hx hy
            rw [← hx]; rfl
          have HK8 := HK9.out _ _ rfl rfl
          have HK7 := Lib.hid HK8
          clear hm hpw hr HK9 HK8
          generalize l[k]'hkl = y at *
          generalize l[k - 1]'(by omega) = x at *
          obtain ⟨ya, yb⟩ := y
          obtain ⟨xa, xb⟩ := x
          dsimp only at E0 E1 F0 F1 HS HR HK7
          by_cases hxy : xa < ya
          · have b2 : decide (ya ≤ xa) = false := decide_eq_false (by omega)
            have HN : Hid (∀ (hk : k + 1 - 1 < l.length), riseK none (keysP l) = riseK (some (l[k + 1 - 1]).1) (keysP (l.drop (k + 1)))) := by
              intro _
              rw [HK7.out, HR.out, HS.out, decide_eq_true hxy, Bool.true_and]
            clear HS HR hxy
            go_wp2_with fail
            go_quiet (fail)
            go_wp2_with fail
            exact ⟨⟨k + 1, by go_num, by omega, by omega, HN.out, below_drewN9 Hm.out _⟩, by simp [intOf]; omega⟩
          · have b2 : decide (ya ≤ xa) = true := decide_eq_true (by omega)
            have HE : Hid (mayT16 t = false) := by unfold Hid; rw [HM4.out, HR.out, HS.out, decide_eq_false hxy, Bool.false_and]
            clear HS HR hxy
            go_wp2_with fail
            go_quiet (fail)
            go_wp2_with fail
            go_ret
            exact ⟨by rw [HE.out]; rfl, Hb0.out.trans ((below_drewN9 (below_step9 HB4.out Hm.out) _).mono (Nat.le_of_lt hs1))⟩
        · have HE : Hid (mayT16 t = true) := by
            unfold Hid
            rw [HM4.out]
            by_cases hl0 : l.length = 0
            · rw [List.length_eq_zero_iff.1 hl0]; rfl
            · rw [hr.out (by omega), List.drop_eq_nil_of_le (by omega)]; rfl
          clear hm hr
          go_wp2_with fail
          go_ret
          exact ⟨by rw [HE.out]; rfl, Hb0.out.trans ((below_step9 HB4.out Hm.out).mono (Nat.le_of_lt hs1))⟩
end Go.Proofs.Ytdlgpcjdaaeliaa
