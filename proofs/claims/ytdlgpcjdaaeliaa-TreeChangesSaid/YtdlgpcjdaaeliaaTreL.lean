/- The program's check of a node: the walk. Conditions: numbers fit. -/
import Derived.Test.YtdlgpcjdaaeliaaTreK
namespace Go.Proofs.Ytdlgpcjdaaeliaa
open Go.RowKit

/-- All that was there but the block b reads as it did. -/
abbrev HeldB (b : Nat) (W w' : World) : Prop := (∀ x o, x < W.heap.size → x ≠ b → w'.cell? ⟨x, o, none⟩ = W.cell? ⟨x, o, none⟩) ∧ W.grownBy w' (some b)
theorem heldB_of {b : Nat} {W w' : World} (h : W.grownBy w' (some b)) : HeldB b W w' := ⟨fun x o hx hne => h.cell_far ⟨x, o, none⟩ hx (by simpa using hne), h⟩
theorem grown_drew9 (w : World) (row : Option Nat) : w.grownBy w.drew row := ⟨rfl, rfl, rfl, Nat.le_refl _, fun _ _ _ => rfl⟩

theorem bne_t9 {a b : Int} (h : a ≠ b) : (a != b) = true := bne_iff_ne.2 h
theorem bne_f9 {a b : Int} (h : a = b) : (a != b) = false := by rw [h]; simp
theorem grown_drewN9 {a w : World} {row : Option Nat} (h : a.grownBy w row) (n : Nat) : a.grownBy (w.drewN n) row := h.trans ⟨rfl, rfl, rfl, Nat.le_refl _, fun _ _ _ => rfl⟩
theorem int_block9 {w : World} {bk ok n c : Nat} {l : List Int} {k : Nat} (h : SlOf w (.slice (some ⟨bk, ok, none⟩) n c) 1 intE l) (hk : k < l.length) : bk < w.heap.size := by
  obtain ⟨b, o, he, hb, _⟩ := int_at h hk
  injection he with he
  injection he with he
  rw [he]; exact hb
theorem chkL_cons {kids : List Tr} {ks : List Int} {k d : Nat} {st : Ck} (hk : k < kids.length) : chkL (kids.drop k) (ks.drop k) d st =
    if headK kids[k] = none ∨ headK kids[k] ≠ ks[k]? then (false, st) else if (chkT kids[k] d st).1 = true then chkL (kids.drop (k + 1)) (ks.drop (k + 1)) d (chkT kids[k] d st).2 else (false, st) := by
  rw [List.drop_eq_getElem_cons hk, chkL, List.head?_drop, List.tail_drop]

set_option maxRecDepth 100000 in
set_option maxHeartbeats 8000000 in
theorem node_any {w : World} {n3 : N3} {t : Tr} (h : NodeV w n3 t) : ∀ (d D b : Nat) (o : Option Int) (w' : World), Below w.heap.size w w' → w.heap.size ≤ b → Chk w' b D o → 1 ≤ d → d ≤ 41 →
    Calls Try.prog 28 #[.pointer (some ⟨b, 0, none⟩), .agg #[n3.1, n3.2.1, n3.2.2], .int .i64 d] w' fun e w'' => e = .returned (.bool (chkT t d (D, o)).1) ∧ w'.grownBy w'' (some b) ∧ ChkIf (chkT t d (D, o)).1 w'' b (chkT t d (D, o)).2.1 (chkT t d (D, o)).2.2 := by
  induction h with
  | mk ns hk hv hx lk lv lx hl hn ih =>
    rename_i kv vv xv ks vs kids
    intro d D b o w' hb hwb hc hd1 hd2
    have HSK := Lib.hid hk
    have HSV := Lib.hid hv
    have hkl : ks.length ≤ 9223372036854775807 := by unfold maxLen at lk; omega
    have hvl : vs.length ≤ 9223372036854775807 := by unfold maxLen at lv; omega
    have hnl : ns.length ≤ 9223372036854775807 := by unfold maxLen at lx; omega
    have HLK := Lib.hid lk
    have HLV := Lib.hid lv
    obtain ⟨aK, cK, rfl⟩ := sl_shape hk
    obtain ⟨aV, cV, rfl⟩ := sl_shape hv
    obtain ⟨aX, cX, rfl⟩ := sl_shape hx
    dsimp only
    obtain ⟨W1, hW, e0, e1, e2, hs1, hb0⟩ := boxed3 w' (.slice aK ks.length cK) (.slice aV vs.length cV) (.slice aX ns.length cX) 25
    have hg1 : w'.grownBy W1 none := by rw [← hW]; exact World.grownBy_alloc _ _ _
    have HC1 := Lib.hid (hc.kept hg1)
    have HG1 : Hid (w'.grownBy W1 (some b)) := hg1.but _
    have HB1 : Hid (Below w.heap.size w W1) := hb.trans (hb0.mono hb.size)
    have hbs := hb.size
    have hne : w'.heap.size ≠ b := by have := hc.lt; omega
    have HX := Lib.hid hx
    have IH := Lib.hid ih
    have HN := Lib.hid hn
    have Hl := Lib.hid hl
    clear hk hv hx lk lv lx ih hl hb hb0 hn hg1 hc
    by_cases hA : 40 < d ∨ 4 < ks.length ∨ (1 < d ∧ ks.length < 2)
    · have HE : Hid (chkT (.nd ks vs kids) d (D, o) = (false, (D, o))) := by unfold Hid; rw [chkT, if_pos hA]
      by_cases h1 : 40 < d
      · have b1 : decide ((40 : Int) < (d : Int)) = true := decide_eq_true (by omega)
        have b1n : decide (40 < d) = true := decide_eq_true h1
        clear hA h1
        go_enter Try.func28, Try.ntmps28
        go_wp2_with fail
        go_ret
        rw [HE.out]
        exact ⟨rfl, HG1.out, nofun⟩
      have b1 : decide ((40 : Int) < (d : Int)) = false := decide_eq_false (by omega)
      have b1n : decide (40 < d) = false := decide_eq_false h1
      by_cases h2 : 4 < ks.length
      · have b2 : decide ((4 : Int) < (ks.length : Int)) = true := decide_eq_true (by omega)
        have b2n : decide (4 < ks.length) = true := decide_eq_true h2
        clear hA h1 h2
        go_enter Try.func28, Try.ntmps28
        go_wp2_with fail
        go_ret
        rw [HE.out]
        exact ⟨rfl, HG1.out, nofun⟩
      have b2 : decide ((4 : Int) < (ks.length : Int)) = false := decide_eq_false (by omega)
      have b2n : decide (4 < ks.length) = false := decide_eq_false h2
      have b3 : decide ((1 : Int) < (d : Int)) = true := decide_eq_true (by omega)
      have b3n : decide (1 < d) = true := decide_eq_true (by omega)
      have b4 : decide ((ks.length : Int) < 2) = true := decide_eq_true (by omega)
      have b4n : decide (ks.length < 2) = true := decide_eq_true (by omega)
      clear hA h1 h2
      go_enter Try.func28, Try.ntmps28
      go_wp2_with fail
      go_ret
      rw [HE.out]
      exact ⟨rfl, HG1.out, nofun⟩
    have b1 : decide ((40 : Int) < (d : Int)) = false := decide_eq_false (by omega)
    have b1n : decide (40 < d) = false := decide_eq_false (by omega)
    have b2 : decide ((4 : Int) < (ks.length : Int)) = false := decide_eq_false (by omega)
    have b2n : decide (4 < ks.length) = false := decide_eq_false (by omega)
    have HT1 : Hid (chkT (.nd ks vs kids) d (D, o) = if ns.length = 0 then chkLeaf ks vs d (D, o)
        else if vs.length ≠ 0 ∨ ns.length ≠ ks.length ∨ ns.length < 2 then (false, (D, o)) else chkL kids ks (d + 1) (D, o)) := by unfold Hid; rw [chkT, if_neg hA, Hl.out]
    have hd40 : d ≤ 40 := by omega
    by_cases hz : ns.length = 0
    · have hlf := leaf_any (.slice aK ks.length cK) (.slice aV vs.length cV) (.slice aX ns.length cX) ks vs HSK.out HSV.out HLK.out HLV.out d D b o W1 HB1.out hwb HC1.out hd1 (by omega)
      have HT2 : Hid (chkT (.nd ks vs kids) d (D, o) = chkLeaf ks vs d (D, o)) := by unfold Hid; rw [HT1.out, if_pos hz]
      have b5 : ((ns.length : Int) == 0) = true := beq_iff_eq.2 (by omega)
      have hq : decide (1 < d) = false ∨ decide (ks.length < 2) = false := by
        by_cases h1 : 1 < d
        · right; exact decide_eq_false (by omega)
        · left; exact decide_eq_false h1
      clear HT1 hz hA
      generalize chkLeaf ks vs d (D, o) = r at *
      rcases hq with b3n | b4n
      · have b3 : decide ((1 : Int) < (d : Int)) = false := decide_eq_false (by have := of_decide_eq_false b3n; omega)
        go_enter Try.func28, Try.ntmps28
        go_wp2_with fail
        refine hlf.mono ?_
        rintro e w2 ⟨rfl, hg2, hc2⟩
        have HG2 := Lib.hid hg2
        have Hc2 := Lib.hid hc2
        clear hg2 hc2 hlf
        go_wp2_with fail
        go_ret
        rw [HT2.out]
        exact ⟨rfl, HG1.out.trans HG2.out, Hc2.out⟩
      · have b4 : decide ((ks.length : Int) < 2) = false := decide_eq_false (by have := of_decide_eq_false b4n; omega)
        go_enter Try.func28, Try.ntmps28
        go_wp2_with fail
        all_goals
          refine hlf.mono ?_
          rintro e w2 ⟨rfl, hg2, hc2⟩
          have HG2 := Lib.hid hg2
          have Hc2 := Lib.hid hc2
          clear hg2 hc2 hlf
          go_wp2_with fail
          go_ret
          rw [HT2.out]
          exact ⟨rfl, HG1.out.trans HG2.out, Hc2.out⟩
    · have b5 : ((ns.length : Int) == 0) = false := beq_eq_false_iff_ne.2 (by omega)
      have HT2 : Hid (chkT (.nd ks vs kids) d (D, o) = if vs.length ≠ 0 ∨ ns.length ≠ ks.length ∨ ns.length < 2 then (false, (D, o)) else chkL kids ks (d + 1) (D, o)) := by unfold Hid; rw [HT1.out, if_neg hz]
      have hq : (∃ _ : decide (1 < d) = true, decide (ks.length < 2) = false) ∨ decide (1 < d) = false := by
        by_cases h1 : 1 < d
        · left; exact ⟨decide_eq_true h1, decide_eq_false (by omega)⟩
        · right; exact decide_eq_false h1
      have hb3 : decide ((1 : Int) < (d : Int)) = decide (1 < d) := by rw [decide_eq_decide]; omega
      have hb4 : decide ((ks.length : Int) < 2) = decide (ks.length < 2) := by rw [decide_eq_decide]; omega
      clear HT1 hz hA
      by_cases hB : vs.length ≠ 0 ∨ ns.length ≠ ks.length ∨ ns.length < 2
      · have HE : Hid (chkT (.nd ks vs kids) d (D, o) = (false, (D, o))) := by unfold Hid; rw [HT2.out, if_pos hB]
        by_cases h1 : vs.length = 0
        · have b6 : ((vs.length : Int) != 0) = false := by simp [h1]
          have b6n : (vs.length != 0) = false := by simp [h1]
          by_cases h2 : ns.length = ks.length
          · have b7 : ((ns.length : Int) != (ks.length : Int)) = false := by simp [h2]
            have b8 : decide ((ns.length : Int) < 2) = true := decide_eq_true (by omega)
            have b8n : decide (ns.length < 2) = true := decide_eq_true (by omega)
            clear hB h1 h2
            rcases hq with ⟨b3n, b4n⟩ | b3n
            · have b3 := hb3.trans b3n
              have b4 := hb4.trans b4n
              clear hb3 hb4
              go_enter Try.func28, Try.ntmps28
              go_wp2_with fail
              go_ret
              rw [HE.out]
              exact ⟨rfl, HG1.out, nofun⟩
            · have b3 := hb3.trans b3n
              clear hb3 hb4
              go_enter Try.func28, Try.ntmps28
              go_wp2_with fail
              go_ret
              rw [HE.out]
              exact ⟨rfl, HG1.out, nofun⟩
          · have b7 : ((ns.length : Int) != (ks.length : Int)) = true := bne_t9 (by omega)
            clear hB h1 h2
            rcases hq with ⟨b3n, b4n⟩ | b3n
            · have b3 := hb3.trans b3n
              have b4 := hb4.trans b4n
              clear hb3 hb4
              go_enter Try.func28, Try.ntmps28
              go_wp2_with fail
              go_ret
              rw [HE.out]
              exact ⟨rfl, HG1.out, nofun⟩
            · have b3 := hb3.trans b3n
              clear hb3 hb4
              go_enter Try.func28, Try.ntmps28
              go_wp2_with fail
              go_ret
              rw [HE.out]
              exact ⟨rfl, HG1.out, nofun⟩
        · have b6 : ((vs.length : Int) != 0) = true := bne_t9 (by omega)
          clear hB h1
          rcases hq with ⟨b3n, b4n⟩ | b3n
          · have b3 := hb3.trans b3n
            have b4 := hb4.trans b4n
            clear hb3 hb4
            go_enter Try.func28, Try.ntmps28
            go_wp2_with fail
            go_ret
            rw [HE.out]
            exact ⟨rfl, HG1.out, nofun⟩
          · have b3 := hb3.trans b3n
            clear hb3 hb4
            go_enter Try.func28, Try.ntmps28
            go_wp2_with fail
            go_ret
            rw [HE.out]
            exact ⟨rfl, HG1.out, nofun⟩
      · have HT3 : Hid (chkT (.nd ks vs kids) d (D, o) = chkL kids ks (d + 1) (D, o)) := by unfold Hid; rw [HT2.out, if_neg hB]
        have b6 : ((vs.length : Int) != 0) = false := bne_f9 (by omega)
        have b6n : (vs.length != 0) = false := by rw [show vs.length = 0 by omega]; rfl
        have b7 : ((ns.length : Int) != (ks.length : Int)) = false := bne_f9 (by omega)
        have b8 : decide ((ns.length : Int) < 2) = false := decide_eq_false (by omega)
        have b8n : decide (ns.length < 2) = false := decide_eq_false (by omega)
        have HNK : Hid (ns.length = ks.length) := by unfold Hid; omega
        have x1 : IntKind.i64.wrap ((d : Int) + 1) = ((d + 1 : Nat) : Int) := by rw [IntWalk.i64_in _ (by omega)]; omega
        clear hB HT2
        rcases hq with ⟨b3n, b4n⟩ | b3n
        · have b3 := hb3.trans b3n
          have b4 := hb4.trans b4n
          clear hb3 hb4
          go_enter Try.func28, Try.ntmps28
          go_wp2_with fail
          go_loopw [57] (fun i wr => ∃ (k D' : Nat) (o' : Option Int), i = .int .i64 k ∧ k ≤ ns.length ∧ Hid (chkL kids ks (d + 1) (D, o) = chkL (kids.drop k) (ks.drop k) (d + 1) (D', o')) ∧ Chk wr b D' o' ∧ W1.grownBy wr (some b)) (fun i _ => ns.length - (intOf i).toNat)
          case atStart => exact ⟨0, D, o, rfl, Nat.zero_le _, rfl, HC1.out, grown_refl _ _⟩
          case round =>
            obtain ⟨k, D', o', rfl, hk, hr, hcr, hgr⟩ := hrel
            have Hcr := Lib.hid hcr
            have Hgr := Lib.hid hgr
            have hbb : Below w.heap.size w wr := below_grown9 HB1.out hgr HB1.out.size hwb
            have hsr : w'.heap.size < wr.heap.size := Nat.lt_of_lt_of_le hs1 hgr.size
            have f0 : wr.cell? ⟨w'.heap.size, 0, none⟩ = some (.slice aK ks.length cK) := (hgr.cell_far ⟨w'.heap.size, 0, none⟩ hs1 (by simpa using hne)).trans e0
            clear hcr hgr e0 e1 e2
            by_cases hlt : k < ns.length
            · have g0 : (k : Int) < (ns.length : Int) := by omega
              have g1 : (0 : Int) ≤ (k : Int) := by omega
              have hkk : k < kids.length := by have := Hl.out; omega
              have hks : k < ks.length := by have := HNK.out; omega
              have g2 : (k : Int) < (ks.length : Int) := by omega
              obtain ⟨bx, off, hveq, hblt, q0, q1, q2⟩ := kid_at (sl_below HX.out hbb) hlt
              subst hveq
              obtain ⟨bk, ok, hveq, hbk, kc⟩ := int_at (sl_below HSK.out hbb) hks
              subst hveq
              have hnode := HN.out k hlt hkk
              have hcall := fun wx hx => IH.out k hlt hkk (d + 1) D' b o' wx hx hwb
              have HS : Hid (chkL (kids.drop k) (ks.drop k) (d + 1) (D', o') = if headK kids[k] = none ∨ headK kids[k] ≠ some ks[k] then (false, (D', o')) else if (chkT kids[k] (d + 1) (D', o')).1 = true then chkL (kids.drop (k + 1)) (ks.drop (k + 1)) (d + 1) (chkT kids[k] (d + 1) (D', o')).2 else (false, (D', o'))) := by
                unfold Hid; rw [chkL_cons hkk, List.getElem?_eq_getElem hks]
              have Hcall := Lib.hid hcall
              generalize ns[k] = n3 at *
              generalize kids[k] = kid at *
              obtain ⟨v0, v1, v2⟩ := n3
              cases hnode with
              | mk ns' sk' sv' sx' lk' lv' lx' hl' hn' =>
              rename_i ks' vs' kids'
              dsimp only at q0 q1 q2
              obtain ⟨aK', cK', rfl⟩ := sl_shape sk'
              obtain ⟨aV', cV', rfl⟩ := sl_shape sv'
              obtain ⟨aX', cX', rfl⟩ := sl_shape sx'
              have hkl' : ks'.length ≤ 9223372036854775807 := by unfold maxLen at lk'; omega
              have HHK : Hid (headK (.nd ks' vs' kids') = ks'.head?) := rfl
              have Hsk := Lib.hid (sl_below sk' hbb)
              dsimp only at Hcall
              clear hl' hn' sx' sv' hcall
              obtain ⟨W2, hW2, t0, t1, t2, hs2, hb2⟩ := boxed3 wr (.slice aK' ks'.length cK') (.slice aV' vs'.length cV') (.slice aX' ns'.length cX') 25
              have hg2 : wr.grownBy W2 none := by rw [← hW2]; exact World.grownBy_alloc _ _ _
              have Hg2 : Hid (W1.grownBy W2 (some b)) := Hgr.out.trans (hg2.but _)
              have Hc2 := Lib.hid (Hcr.out.kept hg2)
              have hb2w : Below w.heap.size w W2 := hbb.trans (hb2.mono hbb.size)
              have f02 : W2.cell? ⟨w'.heap.size, 0, none⟩ = some (.slice (some ⟨bk, ok, none⟩) ks.length cK) := (hg2.cell_far ⟨w'.heap.size, 0, none⟩ hsr (by simp)).trans f0
              have hsr2 : w'.heap.size < W2.heap.size := Nat.lt_of_lt_of_le hsr hg2.size
              have hrb : wr.heap.size ≠ b := by have := Hcr.out.lt; omega
              have kc2 : W2.cell? ⟨bk, ok + k, none⟩ = some (.int .i64 ks[k]) := (hb2.cell (p := ⟨bk, ok + k, none⟩) hbk).trans kc
              have hbkW : bk < W2.heap.size := Nat.lt_of_lt_of_le hbk hg2.size
              have hbkw : Hid (bk < w.heap.size) := int_block9 HSK.out hks
              have hbkb : bk ≠ b := by have := hbkw.out; omega
              have Hb2w := Lib.hid hb2w
              have HSk0 := Lib.hid sk'
              clear sk' lk' lv' lx' hbb hg2 hb2 hb2w f0 kc
              by_cases hk0 : ks'.length = 0
              · have b9 : ((ks'.length : Int) == 0) = true := beq_iff_eq.2 (by omega)
                have HE : Hid ((chkT (.nd ks vs kids) d (D, o)).1 = false) := by
                  unfold Hid
                  rw [HT3.out, hr.out, HS.out, if_pos (Or.inl (by rw [HHK.out, List.length_eq_zero_iff.1 hk0]; rfl))]
                clear hk0 HS hr HHK
                go_wp2_with fail
                go_quiet (fail)
                go_wp2_with fail
                go_ret
                rw [HE.out]
                exact ⟨rfl, grown_drewN9 (HG1.out.trans Hg2.out) _, nofun⟩
              have b9 : ((ks'.length : Int) == 0) = false := beq_eq_false_iff_ne.2 (by omega)
              have gk1 : (0 : Int) < (ks'.length : Int) := by omega
              have gk2 : 0 < ks'.length := by omega
              obtain ⟨bh, oh, hveq, hbh, kh⟩ := int_at HSk0.out gk2
              subst hveq
              have kh2 : W2.cell? ⟨bh, oh + 0, none⟩ = some (.int .i64 (ks'[0]'gk2)) := (Hb2w.out.cell (p := ⟨bh, oh + 0, none⟩) hbh).trans kh
              rw [Nat.add_zero] at kh2
              have hbhb : bh ≠ b := by omega
              have hbhW : bh < W2.heap.size := Nat.lt_of_lt_of_le hbh Hb2w.out.size
              have HHK2 : Hid (headK (.nd ks' vs' kids') = some (ks'[0]'gk2)) := by
                unfold Hid
                rw [HHK.out, List.head?_eq_getElem?, List.getElem?_eq_getElem gk2]
              clear kh HHK
              generalize ks'[0]'gk2 = x1 at *
              generalize hx2 : ks[k] = x2 at *
              clear hx2
              by_cases hxx : x1 = x2
              · subst hxx
                have hc3 := Hcall.out W2.drew (Hb2w.out.drew) (Hc2.out.kept (grown_drew9 _ _)) (by omega) (by omega)
                have HS2 : Hid (chkL (kids.drop k) (ks.drop k) (d + 1) (D', o') = if (chkT (.nd ks' vs' kids') (d + 1) (D', o')).1 = true then chkL (kids.drop (k + 1)) (ks.drop (k + 1)) (d + 1) (chkT (.nd ks' vs' kids') (d + 1) (D', o')).2 else (false, (D', o'))) := by
                  unfold Hid
                  rw [HS.out, if_neg (by rw [HHK2.out]; simp)]
                have b10 : (x1 != x1) = false := bne_f9 rfl
                clear HS hk0 HHK2 Hcall
                generalize chkT (.nd ks' vs' kids') (d + 1) (D', o') = R at *
                obtain ⟨r, D2, o2⟩ := R
                dsimp only at hc3 HS2
                go_wp2_with fail
                go_region_held3 (HeldB b W2) (first | exact heldB_of (grown_drew9 _ _) | exact heldB_of ((grown_drew9 _ _).trans hg9)) (first | (go_at_call 28; refine hc3.mono ?_; rintro e w9 ⟨rfl, hg9, hc9⟩))
                all_goals
                  have Hg9 : Hid (W1.grownBy w9 (some b)) := Hg2.out.trans ((grown_drew9 _ _).trans hg9)
                  have Hc9 := Lib.hid hc9
                  clear hg9 hc9
                  cases r with
                  | true =>
                    have HN : Hid (chkL kids ks (d + 1) (D, o) = chkL (kids.drop (k + 1)) (ks.drop (k + 1)) (d + 1) (D2, o2)) := by
                      unfold Hid; rw [hr.out, HS2.out, if_pos rfl]
                    clear HS2 hr
                    go_wp2_with fail
                    exact ⟨⟨k + 1, D2, o2, by go_num, by omega, HN.out, Hc9.out rfl, Hg9.out⟩, by simp [intOf]; omega⟩
                  | false =>
                    have HE : Hid ((chkT (.nd ks vs kids) d (D, o)).1 = false) := by
                      unfold Hid; rw [HT3.out, hr.out, HS2.out, if_neg (by simp)]
                    clear HS2 hr
                    go_wp2_with fail
                    go_ret
                    rw [HE.out]
                    exact ⟨rfl, HG1.out.trans Hg9.out, nofun⟩
              · have b10 : (x1 != x2) = true := bne_t9 hxx
                have HE : Hid ((chkT (.nd ks vs kids) d (D, o)).1 = false) := by
                  unfold Hid
                  rw [HT3.out, hr.out, HS.out, if_pos (Or.inr (by rw [HHK2.out]; simpa using hxx))]
                clear HS hr hk0 hxx HHK2
                go_wp2_with fail
                go_quiet (fail)
                go_wp2_with fail
                go_ret
                rw [HE.out]
                exact ⟨rfl, grown_drewN9 (HG1.out.trans Hg2.out) _, nofun⟩
            · obtain rfl : k = ns.length := by omega
              have HN : Hid (chkT (.nd ks vs kids) d (D, o) = (true, (D', o'))) := by
                unfold Hid
                rw [HT3.out, hr.out, List.drop_eq_nil_of_le (by have := Hl.out; omega), chkL]
              clear hr
              go_wp2_with fail
              go_ret
              rw [HN.out]
              exact ⟨rfl, HG1.out.trans Hgr.out, fun _ => Hcr.out⟩
        · have b3 := hb3.trans b3n
          clear hb3 hb4
          go_enter Try.func28, Try.ntmps28
          go_wp2_with fail
          go_loopw [57] (fun i wr => ∃ (k D' : Nat) (o' : Option Int), i = .int .i64 k ∧ k ≤ ns.length ∧ Hid (chkL kids ks (d + 1) (D, o) = chkL (kids.drop k) (ks.drop k) (d + 1) (D', o')) ∧ Chk wr b D' o' ∧ W1.grownBy wr (some b)) (fun i _ => ns.length - (intOf i).toNat)
          case atStart => exact ⟨0, D, o, rfl, Nat.zero_le _, rfl, HC1.out, grown_refl _ _⟩
          case round =>
            obtain ⟨k, D', o', rfl, hk, hr, hcr, hgr⟩ := hrel
            have Hcr := Lib.hid hcr
            have Hgr := Lib.hid hgr
            have hbb : Below w.heap.size w wr := below_grown9 HB1.out hgr HB1.out.size hwb
            have hsr : w'.heap.size < wr.heap.size := Nat.lt_of_lt_of_le hs1 hgr.size
            have f0 : wr.cell? ⟨w'.heap.size, 0, none⟩ = some (.slice aK ks.length cK) := (hgr.cell_far ⟨w'.heap.size, 0, none⟩ hs1 (by simpa using hne)).trans e0
            clear hcr hgr e0 e1 e2
            by_cases hlt : k < ns.length
            · have g0 : (k : Int) < (ns.length : Int) := by omega
              have g1 : (0 : Int) ≤ (k : Int) := by omega
              have hkk : k < kids.length := by have := Hl.out; omega
              have hks : k < ks.length := by have := HNK.out; omega
              have g2 : (k : Int) < (ks.length : Int) := by omega
              obtain ⟨bx, off, hveq, hblt, q0, q1, q2⟩ := kid_at (sl_below HX.out hbb) hlt
              subst hveq
              obtain ⟨bk, ok, hveq, hbk, kc⟩ := int_at (sl_below HSK.out hbb) hks
              subst hveq
              have hnode := HN.out k hlt hkk
              have hcall := fun wx hx => IH.out k hlt hkk (d + 1) D' b o' wx hx hwb
              have HS : Hid (chkL (kids.drop k) (ks.drop k) (d + 1) (D', o') = if headK kids[k] = none ∨ headK kids[k] ≠ some ks[k] then (false, (D', o')) else if (chkT kids[k] (d + 1) (D', o')).1 = true then chkL (kids.drop (k + 1)) (ks.drop (k + 1)) (d + 1) (chkT kids[k] (d + 1) (D', o')).2 else (false, (D', o'))) := by
                unfold Hid; rw [chkL_cons hkk, List.getElem?_eq_getElem hks]
              have Hcall := Lib.hid hcall
              generalize ns[k] = n3 at *
              generalize kids[k] = kid at *
              obtain ⟨v0, v1, v2⟩ := n3
              cases hnode with
              | mk ns' sk' sv' sx' lk' lv' lx' hl' hn' =>
              rename_i ks' vs' kids'
              dsimp only at q0 q1 q2
              obtain ⟨aK', cK', rfl⟩ := sl_shape sk'
              obtain ⟨aV', cV', rfl⟩ := sl_shape sv'
              obtain ⟨aX', cX', rfl⟩ := sl_shape sx'
              have hkl' : ks'.length ≤ 9223372036854775807 := by unfold maxLen at lk'; omega
              have HHK : Hid (headK (.nd ks' vs' kids') = ks'.head?) := rfl
              have Hsk := Lib.hid (sl_below sk' hbb)
              dsimp only at Hcall
              clear hl' hn' sx' sv' hcall
              obtain ⟨W2, hW2, t0, t1, t2, hs2, hb2⟩ := boxed3 wr (.slice aK' ks'.length cK') (.slice aV' vs'.length cV') (.slice aX' ns'.length cX') 25
              have hg2 : wr.grownBy W2 none := by rw [← hW2]; exact World.grownBy_alloc _ _ _
              have Hg2 : Hid (W1.grownBy W2 (some b)) := Hgr.out.trans (hg2.but _)
              have Hc2 := Lib.hid (Hcr.out.kept hg2)
              have hb2w : Below w.heap.size w W2 := hbb.trans (hb2.mono hbb.size)
              have f02 : W2.cell? ⟨w'.heap.size, 0, none⟩ = some (.slice (some ⟨bk, ok, none⟩) ks.length cK) := (hg2.cell_far ⟨w'.heap.size, 0, none⟩ hsr (by simp)).trans f0
              have hsr2 : w'.heap.size < W2.heap.size := Nat.lt_of_lt_of_le hsr hg2.size
              have hrb : wr.heap.size ≠ b := by have := Hcr.out.lt; omega
              have kc2 : W2.cell? ⟨bk, ok + k, none⟩ = some (.int .i64 ks[k]) := (hb2.cell (p := ⟨bk, ok + k, none⟩) hbk).trans kc
              have hbkW : bk < W2.heap.size := Nat.lt_of_lt_of_le hbk hg2.size
              have hbkw : Hid (bk < w.heap.size) := int_block9 HSK.out hks
              have hbkb : bk ≠ b := by have := hbkw.out; omega
              have Hb2w := Lib.hid hb2w
              have HSk0 := Lib.hid sk'
              clear sk' lk' lv' lx' hbb hg2 hb2 hb2w f0 kc
              by_cases hk0 : ks'.length = 0
              · have b9 : ((ks'.length : Int) == 0) = true := beq_iff_eq.2 (by omega)
                have HE : Hid ((chkT (.nd ks vs kids) d (D, o)).1 = false) := by
                  unfold Hid
                  rw [HT3.out, hr.out, HS.out, if_pos (Or.inl (by rw [HHK.out, List.length_eq_zero_iff.1 hk0]; rfl))]
                clear hk0 HS hr HHK
                go_wp2_with fail
                go_quiet (fail)
                go_wp2_with fail
                go_ret
                rw [HE.out]
                exact ⟨rfl, grown_drewN9 (HG1.out.trans Hg2.out) _, nofun⟩
              have b9 : ((ks'.length : Int) == 0) = false := beq_eq_false_iff_ne.2 (by omega)
              have gk1 : (0 : Int) < (ks'.length : Int) := by omega
              have gk2 : 0 < ks'.length := by omega
              obtain ⟨bh, oh, hveq, hbh, kh⟩ := int_at HSk0.out gk2
              subst hveq
              have kh2 : W2.cell? ⟨bh, oh + 0, none⟩ = some (.int .i64 (ks'[0]'gk2)) := (Hb2w.out.cell (p := ⟨bh, oh + 0, none⟩) hbh).trans kh
              rw [Nat.add_zero] at kh2
              have hbhb : bh ≠ b := by omega
              have hbhW : bh < W2.heap.size := Nat.lt_of_lt_of_le hbh Hb2w.out.size
              have HHK2 : Hid (headK (.nd ks' vs' kids') = some (ks'[0]'gk2)) := by
                unfold Hid
                rw [HHK.out, List.head?_eq_getElem?, List.getElem?_eq_getElem gk2]
              clear kh HHK
              generalize ks'[0]'gk2 = x1 at *
              generalize hx2 : ks[k] = x2 at *
              clear hx2
              by_cases hxx : x1 = x2
              · subst hxx
                have hc3 := Hcall.out W2.drew (Hb2w.out.drew) (Hc2.out.kept (grown_drew9 _ _)) (by omega) (by omega)
                have HS2 : Hid (chkL (kids.drop k) (ks.drop k) (d + 1) (D', o') = if (chkT (.nd ks' vs' kids') (d + 1) (D', o')).1 = true then chkL (kids.drop (k + 1)) (ks.drop (k + 1)) (d + 1) (chkT (.nd ks' vs' kids') (d + 1) (D', o')).2 else (false, (D', o'))) := by
                  unfold Hid
                  rw [HS.out, if_neg (by rw [HHK2.out]; simp)]
                have b10 : (x1 != x1) = false := bne_f9 rfl
                clear HS hk0 HHK2 Hcall
                generalize chkT (.nd ks' vs' kids') (d + 1) (D', o') = R at *
                obtain ⟨r, D2, o2⟩ := R
                dsimp only at hc3 HS2
                go_wp2_with fail
                go_region_held3 (HeldB b W2) (first | exact heldB_of (grown_drew9 _ _) | exact heldB_of ((grown_drew9 _ _).trans hg9)) (first | (go_at_call 28; refine hc3.mono ?_; rintro e w9 ⟨rfl, hg9, hc9⟩))
                all_goals
                  have Hg9 : Hid (W1.grownBy w9 (some b)) := Hg2.out.trans ((grown_drew9 _ _).trans hg9)
                  have Hc9 := Lib.hid hc9
                  clear hg9 hc9
                  cases r with
                  | true =>
                    have HN : Hid (chkL kids ks (d + 1) (D, o) = chkL (kids.drop (k + 1)) (ks.drop (k + 1)) (d + 1) (D2, o2)) := by
                      unfold Hid; rw [hr.out, HS2.out, if_pos rfl]
                    clear HS2 hr
                    go_wp2_with fail
                    exact ⟨⟨k + 1, D2, o2, by go_num, by omega, HN.out, Hc9.out rfl, Hg9.out⟩, by simp [intOf]; omega⟩
                  | false =>
                    have HE : Hid ((chkT (.nd ks vs kids) d (D, o)).1 = false) := by
                      unfold Hid; rw [HT3.out, hr.out, HS2.out, if_neg (by simp)]
                    clear HS2 hr
                    go_wp2_with fail
                    go_ret
                    rw [HE.out]
                    exact ⟨rfl, HG1.out.trans Hg9.out, nofun⟩
              · have b10 : (x1 != x2) = true := bne_t9 hxx
                have HE : Hid ((chkT (.nd ks vs kids) d (D, o)).1 = false) := by
                  unfold Hid
                  rw [HT3.out, hr.out, HS.out, if_pos (Or.inr (by rw [HHK2.out]; simpa using hxx))]
                clear HS hr hk0 hxx HHK2
                go_wp2_with fail
                go_quiet (fail)
                go_wp2_with fail
                go_ret
                rw [HE.out]
                exact ⟨rfl, grown_drewN9 (HG1.out.trans Hg2.out) _, nofun⟩
            · obtain rfl : k = ns.length := by omega
              have HN : Hid (chkT (.nd ks vs kids) d (D, o) = (true, (D', o'))) := by
                unfold Hid
                rw [HT3.out, hr.out, List.drop_eq_nil_of_le (by have := Hl.out; omega), chkL]
              clear hr
              go_wp2_with fail
              go_ret
              rw [HN.out]
              exact ⟨rfl, HG1.out.trans Hgr.out, fun _ => Hcr.out⟩
end Go.Proofs.Ytdlgpcjdaaeliaa
