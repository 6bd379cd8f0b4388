/- The program's check of a leaf: the walk. Conditions: numbers fit. -/
import Derived.Test.YtdlgpcjdaaeliaaTreH
import Derived.Test.YtdlgpcjdaaeliaaTreJ
namespace Go.Proofs.Ytdlgpcjdaaeliaa
open Go.RowKit

/-- The checker that lies at b. -/
structure Chk (w : World) (b : Nat) (D : Nat) (o : Option Int) : Prop where
  lt : b < w.heap.size
  c0 : w.cell? ⟨b, 0, none⟩ = some (.int .i64 D)
  c1 : w.cell? ⟨b, 1, none⟩ = some (.bool o.isSome)
  c2 : w.cell? ⟨b, 2, none⟩ = some (.int .i64 (o.getD 0))
  f0 : w.frozen? ⟨b, 0, none⟩ = false
  f1 : w.frozen? ⟨b, 1, none⟩ = false
  f2 : w.frozen? ⟨b, 2, none⟩ = false
theorem Chk.kept {w w' : World} {b D : Nat} {o : Option Int} (h : Chk w b D o) (hg : w.grownBy w' none) : Chk w' b D o :=
  ⟨Nat.lt_of_lt_of_le h.lt hg.size, (hg.cell_far ⟨b, 0, none⟩ h.lt (by simp)).trans h.c0, (hg.cell_far ⟨b, 1, none⟩ h.lt (by simp)).trans h.c1, (hg.cell_far ⟨b, 2, none⟩ h.lt (by simp)).trans h.c2,
    (hg.frozen_far ⟨b, 0, none⟩ h.lt (by simp)).trans h.f0, (hg.frozen_far ⟨b, 1, none⟩ h.lt (by simp)).trans h.f1, (hg.frozen_far ⟨b, 2, none⟩ h.lt (by simp)).trans h.f2⟩
theorem Chk.deep {w : World} {b D : Nat} {o : Option Int} (h : Chk w b D o) (d : Nat) : Chk (w.setCell ⟨b, 0, none⟩ (.int .i64 d)) b d o :=
  ⟨by simpa [World.setCell] using h.lt, set_cell_same h.c0, set_cell_ne h.c1 (by decide), set_cell_ne h.c2 (by decide), by rw [World.frozen?_setCell]; exact h.f0, by rw [World.frozen?_setCell]; exact h.f1, by rw [World.frozen?_setCell]; exact h.f2⟩
theorem Chk.key {w : World} {b D : Nat} {o : Option Int} (h : Chk w b D o) (x : Int) : Chk ((w.setCell ⟨b, 1, none⟩ (.bool true)).setCell ⟨b, 2, none⟩ (.int .i64 x)) b D (some x) :=
  ⟨by simpa [World.setCell] using h.lt, set_cell_ne (set_cell_ne h.c0 (by decide)) (by decide), set_cell_ne (set_cell_same h.c1) (by decide), set_cell_same (set_cell_ne h.c2 (by decide)),
    by rw [World.frozen?_setCell, World.frozen?_setCell]; exact h.f0, by rw [World.frozen?_setCell, World.frozen?_setCell]; exact h.f1, by rw [World.frozen?_setCell, World.frozen?_setCell]; exact h.f2⟩
theorem grown_setCell9 (w : World) (a : Addr) (u : Value) : w.grownBy (w.setCell a u) (some a.block) :=
  ⟨rfl, rfl, rfl, by simp [World.setCell], fun i _ hr => by
    unfold World.setCell
    simp only
    rw [Array.getElem?_modify]
    split
    · rename_i h; exact absurd (by rw [h]) hr
    · rfl⟩
theorem below_grown9 {B b : Nat} {w a c : World} (h : Below B w a) (hg : a.grownBy c (some b)) (hB : B ≤ a.heap.size) (hb : B ≤ b) : Below B w c :=
  h.grown hg hB (fun k hk => by cases hk; exact hb)

theorem cell_set_other9 {w : World} {b b' o o' : Nat} {v : Value} {x : Option Value} (h : w.cell? ⟨b, o, none⟩ = x) (hne : b ≠ b') : (w.setCell ⟨b', o', none⟩ v).cell? ⟨b, o, none⟩ = x := by
  rw [World.cell?_setCell_other _ _ _ _ (by intro e; cases e; exact hne rfl)]; exact h

def ChkIf (r : Bool) (w : World) (b D : Nat) (o : Option Int) : Prop := r = true → Chk w b D o

set_option maxRecDepth 100000 in
set_option maxHeartbeats 8000000 in
theorem leaf_any {w : World} (v0 v1 v2 : Value) (ks vs : List Int) (h0 : SlOf w v0 1 intE ks) (h1 : SlOf w v1 1 intE vs) (lk : ks.length ≤ maxLen) (lv : vs.length ≤ maxLen) (d D b : Nat) (o : Option Int) (w' : World) (hb : Below w.heap.size w w') (hwb : w.heap.size ≤ b) (hc : Chk w' b D o) (hd : 1 ≤ d) (hd2 : d ≤ 1000) :
    Calls Try.prog 32 #[.pointer (some ⟨b, 0, none⟩), .agg #[v0, v1, v2], .int .i64 d] w' fun e w'' => e = .returned (.bool (chkLeaf ks vs d (D, o)).1) ∧ w'.grownBy w'' (some b) ∧ ChkIf (chkLeaf ks vs d (D, o)).1 w'' b (chkLeaf ks vs d (D, o)).2.1 (chkLeaf ks vs d (D, o)).2.2 := by
  obtain ⟨aK, cK, rfl⟩ := sl_shape h0
  obtain ⟨aV, cV, rfl⟩ := sl_shape h1
  have hkl : ks.length ≤ 9223372036854775807 := by unfold maxLen at lk; omega
  have hvl : vs.length ≤ 9223372036854775807 := by unfold maxLen at lv; omega
  obtain ⟨W1, hW, e0, e1, e2, hs1, hb0⟩ := boxed3 w' (.slice aK ks.length cK) (.slice aV vs.length cV) v2 25
  have hg1 : w'.grownBy W1 none := by rw [← hW]; exact World.grownBy_alloc _ _ _
  have hC1 := hc.kept hg1
  have HG1 : Hid (w'.grownBy W1 (some b)) := hg1.but _
  have HK := Lib.hid h0
  have HB1 : Hid (Below w.heap.size w W1) := hb.trans (hb0.mono hb.size)
  have hbs := hb.size
  have hne : w'.heap.size ≠ b := by have := hc.lt; omega
  clear hg1 h0 h1 hc hb hb0 lk lv
  by_cases hl : vs.length = ks.length
  · have b1 : ((vs.length : Int) != (ks.length : Int)) = false := by simp [hl]
    have HL := Lib.hid hl
    clear hl
    by_cases hDd : D = 0 ∨ D = d
    · have HE : Hid (chkLeaf ks vs d (D, o) = (riseK o ks, (d, lastK o ks))) := by
        unfold Hid chkLeaf
        rw [if_neg (by simpa using HL.out), if_neg (by show ¬ (D ≠ 0 ∧ D ≠ d); omega)]
      by_cases hD : D = 0
      · subst hD
        have hC2 := hC1.deep d
        have hG2 : W1.grownBy (W1.setCell ⟨b, 0, none⟩ (.int .i64 d)) (some b) := grown_setCell9 _ _ _
        obtain ⟨q, p0, p1, p2, z0, z1, z2⟩ := hC1
        have hdd : ((d : Int) == 0) = false := beq_eq_false_iff_ne.2 (by omega)
        have hkey2 : (W1.setCell ⟨b, 0, none⟩ (.int .i64 d)).cell? ⟨w'.heap.size, 0, none⟩ = some (.slice aK ks.length cK) := cell_set_other9 e0 hne
        have HC2 := Lib.hid hC2
        have HG2 := Lib.hid hG2
        have Hkey2 := Lib.hid hkey2
        clear hC2 hG2 hDd hkey2
        go_enter Try.func32, Try.ntmps32
        go_wp2_with fail
        go_loopw [34] (fun i wr => ∃ (k : Nat) (o' : Option Int), i = .int .i64 k ∧ k ≤ ks.length ∧ Hid (riseK o ks = riseK o' (ks.drop k)) ∧ Hid (lastK o ks = lastK o' (ks.drop k)) ∧ Chk wr b d o' ∧ (W1.setCell ⟨b, 0, none⟩ (.int .i64 d)).grownBy wr (some b)) (fun i _ => ks.length - (intOf i).toNat)
        case atStart => exact ⟨0, o, rfl, Nat.zero_le _, rfl, rfl, HC2.out, grown_refl _ _⟩
        case round =>
          obtain ⟨k, o', rfl, hk, hr1, hr2, hcr, hgr⟩ := hrel
          have Hcr := Lib.hid hcr
          have Hgr := Lib.hid hgr
          obtain ⟨q', p0', p1', p2', z0', z1', z2'⟩ := hcr
          clear p0 p1 p2 z0 z1 z2
          by_cases hlt : k < ks.length
          · have g0 : (k : Int) < (ks.length : Int) := by omega
            have g1 : (0 : Int) ≤ (k : Int) := by omega
            have hbb : Below w.heap.size w wr := below_grown9 (below_grown9 HB1.out HG2.out HB1.out.size hwb) hgr ((below_grown9 HB1.out HG2.out HB1.out.size hwb)).size hwb
            obtain ⟨bk, ok, hveq, hbk, kc⟩ := int_at (sl_below HK.out hbb) hlt
            subst hveq
            have HS1 : Hid (riseK o' (ks.drop k) = riseK o' (ks[k] :: ks.drop (k + 1))) := by unfold Hid; rw [List.drop_eq_getElem_cons hlt]
            have HS2 : Hid (lastK o' (ks.drop k) = lastK (some ks[k]) (ks.drop (k + 1))) := by unfold Hid; rw [List.drop_eq_getElem_cons hlt, lastK]
            have HKey := Lib.hid (Hcr.out.key ks[k])
            have hgn : (W1.setCell ⟨b, 0, none⟩ (.int .i64 d)).grownBy ((wr.setCell ⟨b, 1, none⟩ (.bool true)).setCell ⟨b, 2, none⟩ (.int .i64 ks[k])) (some b) := World.grownBy.trans hgr ((grown_setCell9 wr ⟨b, 1, none⟩ (.bool true)).trans (grown_setCell9 _ ⟨b, 2, none⟩ _))
            have Hgn := Lib.hid hgn
            clear hgn hgr hbb
            generalize ks[k] = x at *
            cases o' with
            | none =>
              dsimp only [Option.isSome, Option.getD] at p1' p2'
              have HN1 : Hid (riseK o ks = riseK (some x) (ks.drop (k + 1))) := by unfold Hid; rw [hr1.out, HS1.out, riseK]
              have HN2 : Hid (lastK o ks = lastK (some x) (ks.drop (k + 1))) := by unfold Hid; rw [hr2.out, HS2.out]
              clear HS1 HS2 hr1 hr2
              go_wp2_with fail
              exact ⟨⟨k + 1, some x, by go_num, by omega, HN1.out, HN2.out, HKey.out, Hgn.out⟩, by simp [intOf]; omega⟩
            | some a =>
              dsimp only [Option.isSome, Option.getD] at p1' p2'
              by_cases hxa : x ≤ a
              · have b9 : decide (x ≤ a) = true := decide_eq_true hxa
                have HF : Hid (riseK o ks = false) := by unfold Hid; rw [hr1.out, HS1.out, riseK, decide_eq_false (by omega)]; rfl
                clear HS1 HS2 hr1 hr2 hxa
                go_wp2_with fail
                go_ret
                rw [HE.out, HF.out]
                exact ⟨rfl, (HG1.out.trans HG2.out).trans Hgr.out, nofun⟩
              · have b9 : decide (x ≤ a) = false := decide_eq_false hxa
                have HN1 : Hid (riseK o ks = riseK (some x) (ks.drop (k + 1))) := by unfold Hid; rw [hr1.out, HS1.out, riseK, decide_eq_true (by omega), Bool.true_and]
                have HN2 : Hid (lastK o ks = lastK (some x) (ks.drop (k + 1))) := by unfold Hid; rw [hr2.out, HS2.out]
                clear HS1 HS2 hr1 hr2 hxa
                go_wp2_with fail
                exact ⟨⟨k + 1, some x, by go_num, by omega, HN1.out, HN2.out, HKey.out, Hgn.out⟩, by simp [intOf]; omega⟩
          · obtain rfl : k = ks.length := by omega
            have HN1 : Hid (riseK o ks = true) := by unfold Hid; rw [hr1.out, List.drop_length]; cases o' <;> rfl
            have HN2 : Hid (lastK o ks = o') := by unfold Hid; rw [hr2.out, List.drop_length]; rfl
            clear hr1 hr2 hgr
            go_wp2_with fail
            go_ret
            rw [HE.out, HN1.out, HN2.out]
            exact ⟨rfl, (HG1.out.trans HG2.out).trans Hgr.out, fun _ => Hcr.out⟩
      · obtain rfl : D = d := by omega
        have HC2 := Lib.hid hC1
        obtain ⟨q, p0, p1, p2, z0, z1, z2⟩ := hC1
        have hdd : ((D : Int) == 0) = false := beq_eq_false_iff_ne.2 (by omega)
        clear hDd
        go_enter Try.func32, Try.ntmps32
        go_wp2_with fail
        go_loopw [34] (fun i wr => ∃ (k : Nat) (o' : Option Int), i = .int .i64 k ∧ k ≤ ks.length ∧ Hid (riseK o ks = riseK o' (ks.drop k)) ∧ Hid (lastK o ks = lastK o' (ks.drop k)) ∧ Chk wr b D o' ∧ W1.grownBy wr (some b)) (fun i _ => ks.length - (intOf i).toNat)
        case atStart => exact ⟨0, o, rfl, Nat.zero_le _, rfl, rfl, HC2.out, grown_refl _ _⟩
        case round =>
          obtain ⟨k, o', rfl, hk, hr1, hr2, hcr, hgr⟩ := hrel
          have Hcr := Lib.hid hcr
          have Hgr := Lib.hid hgr
          obtain ⟨q', p0', p1', p2', z0', z1', z2'⟩ := hcr
          clear p0 p1 p2 z0 z1 z2
          by_cases hlt : k < ks.length
          · have g0 : (k : Int) < (ks.length : Int) := by omega
            have g1 : (0 : Int) ≤ (k : Int) := by omega
            have hbb : Below w.heap.size w wr := below_grown9 HB1.out hgr (HB1.out).size hwb
            obtain ⟨bk, ok, hveq, hbk, kc⟩ := int_at (sl_below HK.out hbb) hlt
            subst hveq
            have HS1 : Hid (riseK o' (ks.drop k) = riseK o' (ks[k] :: ks.drop (k + 1))) := by unfold Hid; rw [List.drop_eq_getElem_cons hlt]
            have HS2 : Hid (lastK o' (ks.drop k) = lastK (some ks[k]) (ks.drop (k + 1))) := by unfold Hid; rw [List.drop_eq_getElem_cons hlt, lastK]
            have HKey := Lib.hid (Hcr.out.key ks[k])
            have hgn : W1.grownBy ((wr.setCell ⟨b, 1, none⟩ (.bool true)).setCell ⟨b, 2, none⟩ (.int .i64 ks[k])) (some b) := World.grownBy.trans hgr ((grown_setCell9 wr ⟨b, 1, none⟩ (.bool true)).trans (grown_setCell9 _ ⟨b, 2, none⟩ _))
            have Hgn := Lib.hid hgn
            clear hgn hgr hbb
            generalize ks[k] = x at *
            cases o' with
            | none =>
              dsimp only [Option.isSome, Option.getD] at p1' p2'
              have HN1 : Hid (riseK o ks = riseK (some x) (ks.drop (k + 1))) := by unfold Hid; rw [hr1.out, HS1.out, riseK]
              have HN2 : Hid (lastK o ks = lastK (some x) (ks.drop (k + 1))) := by unfold Hid; rw [hr2.out, HS2.out]
              clear HS1 HS2 hr1 hr2
              go_wp2_with fail
              exact ⟨⟨k + 1, some x, by go_num, by omega, HN1.out, HN2.out, HKey.out, Hgn.out⟩, by simp [intOf]; omega⟩
            | some a =>
              dsimp only [Option.isSome, Option.getD] at p1' p2'
              by_cases hxa : x ≤ a
              · have b9 : decide (x ≤ a) = true := decide_eq_true hxa
                have HF : Hid (riseK o ks = false) := by unfold Hid; rw [hr1.out, HS1.out, riseK, decide_eq_false (by omega)]; rfl
                clear HS1 HS2 hr1 hr2 hxa
                go_wp2_with fail
                go_ret
                rw [HE.out, HF.out]
                exact ⟨rfl, HG1.out.trans Hgr.out, nofun⟩
              · have b9 : decide (x ≤ a) = false := decide_eq_false hxa
                have HN1 : Hid (riseK o ks = riseK (some x) (ks.drop (k + 1))) := by unfold Hid; rw [hr1.out, HS1.out, riseK, decide_eq_true (by omega), Bool.true_and]
                have HN2 : Hid (lastK o ks = lastK (some x) (ks.drop (k + 1))) := by unfold Hid; rw [hr2.out, HS2.out]
                clear HS1 HS2 hr1 hr2 hxa
                go_wp2_with fail
                exact ⟨⟨k + 1, some x, by go_num, by omega, HN1.out, HN2.out, HKey.out, Hgn.out⟩, by simp [intOf]; omega⟩
          · obtain rfl : k = ks.length := by omega
            have HN1 : Hid (riseK o ks = true) := by unfold Hid; rw [hr1.out, List.drop_length]; cases o' <;> rfl
            have HN2 : Hid (lastK o ks = o') := by unfold Hid; rw [hr2.out, List.drop_length]; rfl
            clear hr1 hr2 hgr
            go_wp2_with fail
            go_ret
            rw [HE.out, HN1.out, HN2.out]
            exact ⟨rfl, HG1.out.trans Hgr.out, fun _ => Hcr.out⟩
    · have HE : Hid (chkLeaf ks vs d (D, o) = (false, (D, o))) := by
        unfold Hid chkLeaf
        rw [if_neg (by simpa using HL.out), if_pos (by show (D ≠ 0 ∧ D ≠ d); omega)]
      have hdd : ((D : Int) == 0) = false := beq_eq_false_iff_ne.2 (by omega)
      have hdd2 : ((D : Int) != (d : Int)) = true := by simp; omega
      clear hDd
      obtain ⟨q, p0, p1, p2, z0, z1, z2⟩ := hC1
      go_enter Try.func32, Try.ntmps32
      go_wp2_with fail
      go_ret
      rw [HE.out]
      exact ⟨rfl, HG1.out, nofun⟩
  · have b1 : ((vs.length : Int) != (ks.length : Int)) = true := by simp; omega
    have HE : Hid (chkLeaf ks vs d (D, o) = (false, (D, o))) := by unfold Hid chkLeaf; rw [if_pos (by simpa using hl)]
    clear hl
    obtain ⟨q, p0, p1, p2, z0, z1, z2⟩ := hC1
    go_enter Try.func32, Try.ntmps32
    go_wp2_with fail
    go_ret
    rw [HE.out]
    exact ⟨rfl, HG1.out, nofun⟩
end Go.Proofs.Ytdlgpcjdaaeliaa
