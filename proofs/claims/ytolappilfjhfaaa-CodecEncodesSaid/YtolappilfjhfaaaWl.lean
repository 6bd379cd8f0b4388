/- The contract of the document's Write. Conditions: numbers fit. The contract of the document's lens. Conditions: numbers fit. The contract of the document's Read. Conditions: numbers fit. -/
import Derived.Test.YtolappilfjhfaaaWk
import Derived.Test.YtolappilfjhfaaaWi
import Derived.Test.YtolappilfjhfaaaWj
import Derived.Test.YtolappilfjhfaaaWc
import Derived.Test.YtolappilfjhfaaaWg
namespace Go.Proofs.Ytolappilfjhfaaa
open Go.RowKit

theorem rep_snocZ (k : Nat) : (List.replicate k (0 : Int)).map (Value.int .i64) ++ [.int .i64 0] = (List.replicate (k + 1) (0 : Int)).map (Value.int .i64) := by
  rw [List.replicate_succ', List.map_append]; rfl

set_option maxRecDepth 100000 in
set_option maxHeartbeats 16000000 in
theorem writeQ_any (v : Value) (l : List TokT) (w : World) (hv : ToksR w v l) :
    Calls Try.prog 17 #[v] w fun e w' => WriteV l w e w' := by
  obtain ⟨i0, hi, hz0, hz1, hz2⟩ := info_parts info_int
  obtain ⟨j0, hj, hj0, hj1, hj2⟩ := info_parts info_bool
  have HV := Lib.hid hv
  obtain ⟨a0, c0, rfl, _⟩ := hv
  by_cases h1000 : 1000 < l.length
  · have HNo := Lib.hid (wrOk_no (Or.inl h1000))
    have d1 : decide ((1000 : Int) < (l.length : Int)) = true := by simp; omega
    go_enter Try.func17, Try.ntmps17
    go_wp2_with fail
    go_ret2
    exact writeV_no HNo.out (Below.refl _ _)
  · have d1 : decide ((1000 : Int) < (l.length : Int)) = false := by simp; omega
    have hl : l.length ≤ 1000 := by omega
    have HO0 := Lib.hid (owns_none w 3 1)
    have HB0 : Hid (Below w.heap.size w (w.alloc (.cells #[] 3))) := (Below.refl _ _).alloc (Nat.le_refl _) _
    go_enter Try.func17, Try.ntmps17
    go_wp2_with fail
    go_loopw [4, 5] (fun uf ui wr => ∃ (k : Nat) (a : Option Addr) (cap : Nat), ui = .int .i64 k ∧ k ≤ 272 ∧ uf = .slice a k cap ∧ wr.ownsRow w.heap.size 3 1 (.slice a k cap) k ((List.replicate k (0 : Int)).map (Value.int .i64)) ∧ Below w.heap.size w wr) (fun _ ui _ => 272 - (intOf ui).toNat)
    case atStart => exact ⟨0, _, 0, rfl, by omega, rfl, HO0.out, HB0.out⟩
    case round =>
      obtain ⟨k, a, cap, rfl, hk, rfl, hown, hb⟩ := hrel
      have HO := Lib.hid hown
      have HB := Lib.hid hb
      have hsz := hb.size
      clear hown hb HO0 HB0
      by_cases hlt : k < 272
      · have g2 : (k : Int) < 272 := by omega
        go_wp2_with (first | (at_builtin; have hQ := HO.out.alloc (.cells #[.int .i64 0] 3); refine wpList_append_own_at _ rfl _ _ 50 rfl w.heap.size 3 i0 (.int .i64 0) 1 8 Try.underlying50 hi hz0 hz1 hz2 rfl (by decide) _ _ _ rfl hQ ⟨wr.heap.size, 0, none⟩ 1 1 [.int .i64 0] rfl rfl (cell_one_new _ _ _) (by simp [Value.oneCell']) (by simp [maxLen]; omega) (by omega) (by simp; omega) ?_
                              intro v3 w3 hown3 hg3 _ hat3
                              rw [rep_snocZ] at hown3
                              obtain ⟨a3, c3, rfl, _⟩ := owns_shape hown3
                              have HO3 := Lib.hid hown3
                              have HB3 := Lib.hid ((HB.out.alloc hsz _).grown hg3 (by simp; omega) (fun b hbk => owns_block HO.out b hbk))
                              clear hown3 hg3 hat3 hQ) | fail)
        exact ⟨⟨k + 1, a3, c3, by go_num, by omega, rfl, HO3.out, HB3.out⟩, by simp [intOf]; omega⟩
      · obtain rfl : k = 272 := by omega
        obtain ⟨g, rfl, hg⟩ := owns_addr HO.out (by omega)
        rw [show ((272 : Nat) : Int) = 272 from rfl]
        clear hlt
        go_wp2_with fail
        obtain ⟨wz, hwz⟩ : ∃ wz : World, wz = wr := ⟨_, rfl⟩
        subst hwz
        go_loopw [6] (fun ui wr => ∃ k : Nat, ui = .int .i64 k ∧ k ≤ l.length ∧ (∀ t ∈ l.take k, mayT t = true) ∧ wr.ownsRow w.heap.size 3 1 (.slice (some ⟨g, 0, none⟩) 272 cap) 272 ((timesL (l.take k)).map (Value.int .i64)) ∧ Below w.heap.size w wr) (fun ui _ => l.length - (intOf ui).toNat)
        case atStart => exact ⟨0, rfl, Nat.zero_le _, by simp, by rw [List.take_zero, timesL_nil]; exact HO.out, HB.out⟩
        case round =>
          obtain ⟨k, rfl, hk, hall, hown, hb⟩ := hrel
          have Hall := Lib.hid hall
          have HO1 := Lib.hid hown
          have HB1 := Lib.hid hb
          have hsz1 := hb.size
          clear hall hown hb HO HB
          by_cases hlt : k < l.length
          · obtain ⟨bT, oT, cT, hveq, _, hbT, hcell⟩ := toks_cells HV.out (by omega)
            injection hveq with q1 q2 q3
            subst q1 q3
            obtain ⟨e0, e1, e2⟩ := hcell k hlt
            rw [← HB1.out.cell (p := ⟨bT, oT + k * 3, none⟩) hbT] at e0
            rw [← HB1.out.cell (p := ⟨bT, oT + k * 3 + 1, none⟩) hbT] at e1
            rw [← HB1.out.cell (p := ⟨bT, oT + k * 3 + 2, none⟩) hbT] at e2
            have hbTr : bT < wr.heap.size := by omega
            have g2 : (k : Int) < (l.length : Int) := by omega
            have Hst : Hid (∀ s : Nat, s < 272 → symT l[k] = s → timesL (l.take (k + 1)) = (timesL (l.take k)).set s ((((l.take k).filter fun t => symT t == (s : Int)).length : Int) + 1)) := fun s hs h => timesL_step hlt hs h
            have Hmem : Hid (l[k] ∈ l) := List.getElem_mem hlt
            have HT := Lib.hid (List.take_succ_eq_append_getElem hlt)
            clear hcell q2
            generalize l[k] = t at *
            obtain ⟨tb, td, tn⟩ := t
            dsimp only at e0 e1 e2
            have hmay := mayR_any tb td tn wr
            go_wp2_with fail
            refine hmay.mono ?_
            rintro e w2 ⟨rfl, hb2⟩
            have HO2 := Lib.hid (owns_below HO1.out hb2)
            have HB2 := Lib.hid (below_step' HB1.out hb2)
            rw [← hb2.cell (p := ⟨bT, oT + k * 3, none⟩) hbTr] at e0
            rw [← hb2.cell (p := ⟨bT, oT + k * 3 + 1, none⟩) hbTr] at e1
            rw [← hb2.cell (p := ⟨bT, oT + k * 3 + 2, none⟩) hbTr] at e2
            clear hmay hb2
            by_cases hm : mayT (tb, td, tn) = true
            · obtain ⟨s0, s1, _, _⟩ := symT_yes hm
              obtain ⟨s, hs⟩ := Int.eq_ofNat_of_zero_le s0
              have hst2 := Hst.out s (by omega) hs
              have HT2 := Lib.hid hst2
              have hx := timesL_at (l.take k) (s := s) (by omega)
              have hxb : ((l.take k).filter fun t => symT t == (s : Int)).length ≤ k := Nat.le_trans (List.length_filter_le _ _) (List.length_take_le _ _)
              have Hm := Lib.hid hm
              have hsym := symbolR_any tb td tn w2
              rw [hs] at hsym
              rw [hm]
              have hs272 : (s : Int) < 272 := by omega
              clear hst2 hm s0 s1 hs Hst
              generalize ((l.take k).filter fun t => symT t == (s : Int)).length = x at *
              go_wp2_with fail
              refine hsym.mono ?_
              rintro e w3 ⟨rfl, hb3⟩
              have HO3 := Lib.hid (owns_below HO2.out hb3)
              have HB3 := Lib.hid (below_step' HB2.out hb3)
              have f0 := HO3.out.frozenAt s
              have f1 : w3.cell? ⟨g, s, none⟩ = some (.int .i64 x) := by rw [HO3.out.cellAt s (by omega), List.getElem?_map, hx]; rfl
              have hst := (HO3.out.stored s (.int .i64 ((x : Int) + 1))).1
              rw [← List.map_set, ← HT2.out] at hst
              have HO4 := Lib.hid hst
              have HB4 := Lib.hid (HB3.out.setCell (p := ⟨g, s, none⟩) hg (.int .i64 ((x : Int) + 1)))
              clear hst hx hsym hb3 e0 e1 e2
              go_wp2_with fail
              exact ⟨⟨k + 1, by go_num, by omega, fun t ht => by
                rw [HT.out, List.mem_append, List.mem_singleton] at ht
                rcases ht with ht | rfl
                · exact Hall.out t ht
                · exact Hm.out, HO4.out, HB4.out⟩, by simp [intOf]; omega⟩
            · have hm' : mayT (tb, td, tn) = false := by cases q : mayT (tb, td, tn) with
                | true => exact absurd q hm
                | false => rfl
              have HNo := Lib.hid (wrOk_no (Or.inr ⟨_, Hmem.out, hm'⟩))
              rw [hm']
              clear hm hm' Hst
              go_wp2_with fail
              go_ret2
              exact writeV_no HNo.out HB2.out
          · obtain rfl : k = l.length := by omega
            rw [List.take_length] at Hall HO1
            have hok : wrOk l = true := wrOk_iff.2 ⟨hl, Hall.out⟩
            have Hok := Lib.hid hok
            have hln := lensX_any (.slice (some ⟨g, 0, none⟩) 272 cap) (timesL l) wr (sl_of_owns HO1.out).1 (by rw [timesL_length]; omega)
            clear hok
            go_wp2_with fail
            refine hln.mono ?_
            rintro e w2 ⟨a2, c2, L, rfl, hLV, hL2, hb2⟩
            have hR : LensR (timesL l) L := hLV.out.1 (times_mayF hl)
            have HR := Lib.hid hR
            obtain ⟨t1, t2, t3⟩ := times_facts hR Hok.out
            have hL272 : L.length = 272 := t1
            rcases sl_one hL2 with ⟨h0, _⟩ | ⟨_, bL, oL, cL, hveq, _, hbL, hcellL⟩
            · rw [h0] at hL272; simp at hL272
            injection hveq with q1 q2 q3
            subst q1 q3
            have HL2 : Hid (IntsV w2 (.slice (some ⟨bL, oL, none⟩) 272 c2) L) := by unfold Hid; rw [← hL272]; exact hL2
            have HcL := Lib.hid hcellL
            have HLok := Lib.hid t2
            have Hthere := Lib.hid t3
            have H272 := Lib.hid hL272
            have HB2 := Lib.hid (below_step' HB1.out hb2)
            have HS0 : Hid (Bits (w2.alloc (.cells #[] 4)) (.slice (some ⟨w2.heap.size, 0, none⟩) 0 0) []) := by unfold Hid; exact sl_nil (fun h => by cases h)
            have HBz : Hid (Below w2.heap.size w2 (w2.alloc (.cells #[] 4))) := (Below.refl _ _).alloc (Nat.le_refl _) _
            rw [hL272]
            clear hln hLV hR t1 t2 t3 hb2 hL2 hL272 hcellL q2
            go_wp2_with fail
            go_loopw [8, 9, 10] (fun um uh ui wr => ∃ (k : Nat) (bs : List Bool) (a : Option Addr) (cap : Nat), ui = .int .i64 k ∧ k ≤ 272 ∧ um = .int .i64 (manyT L k : Nat) ∧ uh = .slice a bs.length cap ∧ Hid (bs = rowsT L k) ∧ Bits wr (.slice a bs.length cap) bs ∧ Below w2.heap.size w2 wr) (fun _ _ ui _ => 272 - (intOf ui).toNat)
            case atStart => exact ⟨0, [], _, 0, rfl, by omega, rfl, rfl, rfl, HS0.out, HBz.out⟩
            case round =>
              obtain ⟨wo, hwo⟩ : ∃ wo : World, wo = wr := ⟨_, rfl⟩
              subst hwo
              obtain ⟨k, bs, a, cap, rfl, hk, rfl, rfl, Hbs, hS, hB⟩ := hrel
              have HS4 := Lib.hid hS
              have HB4 := Lib.hid hB
              have hbl : bs.length ≤ 3536 := by have := rowsT_length L k; have := manyT_le L k; rw [Hbs.out]; omega
              have hml := manyT_le L k
              have hsz := hB.size
              clear hS hB HS0 HBz
              by_cases hlt : k < 272
              · have hkL : k < L.length := by rw [H272.out]; exact hlt
                have e1 := HcL.out k hkL
                rw [← HB4.out.cell (p := ⟨bL, oL + k, none⟩) hbL] at e1
                have hbLo : bL < wo.heap.size := by omega
                have HgL : Hid (L[k]?.getD 0 = L[k]) := by unfold Hid; rw [List.getElem?_eq_getElem hkL, Option.getD_some]
                have hr15 := (lensOk_parts HLok.out).2.1 _ (List.getElem_mem hkL)
                have HMs := Lib.hid (manyT_step L k)
                have HRs := Lib.hid (rowsT_step L k)
                have g2 : (k : Int) < 272 := by omega
                generalize hy : L[k] = y at *
                clear hy
                by_cases hp : 0 < y
                · rw [HgL.out, if_pos hp] at HMs HRs
                  have hw1 : IntKind.i64.wrap (((manyT L k : Nat) : Int) + 1) = ((manyT L k : Nat) : Int) + 1 := by rw [IntKind.wrap_i64]; omega
                  have hp9 : putOk (k : Int) 9 = true := by
                    have : p2 9 = 512 := by decide
                    simp only [putOk, decide_eq_true_eq]; exact ⟨by omega, by omega, by omega, by show (k : Int) < p2 9; omega⟩
                  have hp4 : putOk y 4 = true := by
                    have : p2 4 = 16 := by decide
                    simp only [putOk, decide_eq_true_eq]; exact ⟨by omega, by omega, by omega, by show y < p2 4; omega⟩
                  have Hp4 := Lib.hid hp4
                  have hput : ∀ W, Held wo W → Calls Try.prog 37 #[.slice a bs.length cap, .int .i64 k, .int .i64 9] W fun e w' => ∃ (a : Option Addr) (cap : Nat) (l : List Bool), e = .returned (.slice a l.length cap) ∧ Hid (l = bs ++ putL k (Int.toNat 9)) ∧ OwnB w' W.heap.size (.slice a l.length cap) l ∧ Below W.heap.size W w' := fun W hW =>
                    rput_any (.slice a bs.length cap) bs (k : Int) 9 W (sl_below HS4.out hW.2) (by omega) hp9
                  generalize manyT L k = mk at *
                  clear hp9 hp4
                  go_wp2_with fail
                  go_region_held3 (Held wo) (first | exact held_start | exact held_call (by assumption) (by assumption)) (first | (go_at_call 37; ((with_reducible refine (hput _ (by assumption)).mono ?_); rintro e w' ⟨a4, c4, b4, rfl, hb4, hO4, hb⟩)) | (go_at_call 37; refine (rput_any (.slice a4 b4.length c4) b4 y 4 _ (sl_of_owns hO4).1 (by rw [hb4.out, List.length_append, putL_length]; omega) Hp4.out).mono ?_; rintro e w' ⟨a5, c5, b5, rfl, hb5, hO5, hb⟩))
                  have hh : Held wo w' := by assumption
                  have HB6 := Lib.hid (HB4.out.trans (hh.2.mono HB4.out.size))
                  have HS6 := Lib.hid (sl_of_owns hO5).1
                  clear hh hput hO4 hO5 e1
                  go_wp2_with fail
                  exact ⟨⟨k + 1, b5, a5, c5, by go_num, by omega, by rw [HMs.out]; go_num, rfl, by unfold Hid; rw [hb5.out, hb4.out, Hbs.out, HRs.out]; simp, HS6.out, HB6.out⟩, by simp [intOf]; omega⟩
                · rw [HgL.out, if_neg hp] at HMs HRs
                  go_wp2_with fail
                  exact ⟨⟨k + 1, bs, a, cap, by go_num, by omega, by rw [HMs.out]; rfl, rfl, by unfold Hid; rw [HRs.out, List.append_nil]; exact Hbs.out, HS4.out, HB4.out⟩, by simp [intOf]; omega⟩
              · obtain rfl : k = 272 := by omega
                have hp9 : putOk ((manyT L 272 : Nat) : Int) 9 = true := by
                  have : p2 9 = 512 := by decide
                  simp only [putOk, decide_eq_true_eq]; exact ⟨by omega, by omega, by omega, by show ((manyT L 272 : Nat) : Int) < p2 9; omega⟩
                have hput := rput_any (.slice none 0 0) [] ((manyT L 272 : Nat) : Int) 9 wo (sl_nil fun _ => rfl) (by simp) hp9
                have HBo := Lib.hid (HB2.out.trans (HB4.out.mono HB2.out.size))
                have HHd : Hid (headB L = putL ((manyT L 272 : Nat) : Int) 9 ++ rowsT L 272) := rfl
                generalize manyT L 272 = mk at *
                rw [show ((272 : Nat) : Int) = 272 from rfl]
                clear hp9
                go_wp2_with fail
                refine hput.mono ?_
                rintro e w4 ⟨a4, c4, b4, rfl, hb4, hO4, hbw4⟩
                have Hsrc := Lib.hid (sl_below HS4.out hbw4)
                have HO5 := Lib.hid hO4
                have HBw4 := Lib.hid hbw4
                have hbl4 : b4.length = 9 := by rw [hb4.out, List.nil_append, putL_length]; rfl
                have Hbl4 := Lib.hid hbl4
                have hbl4' : b4.length ≤ 9 := by omega
                have hsz4 := hbw4.size
                clear hput hO4 hbw4 hbl4
                go_wp2_with (first | (at_builtin; refine wpList_append_sl (f := Value.bool) rfl _ _ 25 rfl wo.heap.size 4 j0 (.bool false) 1 Try.underlying25 hj hj0 hj1 hj2 rfl _ _ _ rfl HO5.out _ rfl Hsrc.out (fun _ => rfl) (by simp [maxLen]; omega) (by omega) hsz4 ?_
                                      intro v5 w5 hown5 hg5 _
                                      obtain ⟨a5, c5, rfl, _⟩ := owns_shape hown5
                                      have HS6 : Hid (OwnB w5 wo.heap.size (.slice a5 (b4 ++ bs).length c5) (b4 ++ bs)) := by
                                        have e5 : (b4 ++ bs).length = b4.length + bs.length := List.length_append
                                        unfold Hid OwnB
                                        rw [e5, List.map_append]; exact hown5
                                      have HB5 := Lib.hid (HBw4.out.grown hg5 hsz4 (fun j hj => owns_block HO5.out j hj))
                                      clear hown5 hg5) | fail)
                have E5 : Hid ((b4 ++ bs).length = b4.length + bs.length) := List.length_append
                have HHb : Hid (b4 ++ bs = headB L) := by unfold Hid; rw [HHd.out, hb4.out, Hbs.out, List.nil_append]; rfl
                go_loopw [11, 12] (fun o i wr => ∃ (k : Nat) (bq : List Bool) (aq : Option Addr) (cq : Nat), i = .int .i64 k ∧ k ≤ l.length ∧ o = .slice aq bq.length cq ∧ Hid (bq = headB L ++ (l.take k).flatMap (tokB L)) ∧ OwnB wr wo.heap.size (.slice aq bq.length cq) bq ∧ Below wo.heap.size wo wr) (fun _ i _ => l.length - (intOf i).toNat)
                case atStart => exact ⟨0, b4 ++ bs, a5, c5, rfl, Nat.zero_le _, by rw [E5.out], by unfold Hid; rw [HHb.out]; simp, HS6.out, HB5.out⟩
                case round =>
                  obtain ⟨wq, hwq⟩ : ∃ wq : World, wq = wr := ⟨_, rfl⟩
                  subst hwq
                  obtain ⟨k, bq, aq, cq, rfl, hk, rfl, Hbq, hO, hB⟩ := hrel
                  have HOq := Lib.hid hO
                  have HBq := Lib.hid hB
                  have HBw := Lib.hid (HBo.out.trans (hB.mono HBo.out.size))
                  have hszq := hB.size
                  have hbl : bq.length ≤ 27000 := by
                    have h1 := toksB_le HLok.out (l.take k)
                    have h2 := headB_length L
                    have h3 := manyT_le L 272
                    have h4 : (l.take k).length ≤ l.length := by rw [List.length_take]; omega
                    rw [Hbq.out, List.length_append]; omega
                  clear hO hB HS6 HB5
                  by_cases hlt : k < l.length
                  · obtain ⟨bT, oT, cT, hveq, _, hbT, hcell⟩ := toks_cells HV.out (by omega)
                    injection hveq with q1 q2 q3
                    subst q1 q3
                    obtain ⟨e0, e1, e2⟩ := hcell k hlt
                    have E1 := Lib.hid e1
                    have E2 := Lib.hid e2
                    rw [← HBw.out.cell (p := ⟨bT, oT + k * 3, none⟩) hbT] at e0
                    rw [← HBw.out.cell (p := ⟨bT, oT + k * 3 + 1, none⟩) hbT] at e1
                    rw [← HBw.out.cell (p := ⟨bT, oT + k * 3 + 2, none⟩) hbT] at e2
                    have g2 : (k : Int) < (l.length : Int) := by omega
                    have hmay := Hall.out _ (List.getElem_mem hlt)
                    obtain ⟨hs0, hs1⟩ := Hthere.out _ (List.getElem_mem hlt)
                    have HF : Hid ((l.take (k + 1)).flatMap (tokB L) = (l.take k).flatMap (tokB L) ++ tokB L l[k]) := by
                      unfold Hid; rw [List.take_succ_eq_append_getElem hlt, List.flatMap_append, List.flatMap_cons, List.flatMap_nil, List.append_nil]
                    clear hcell q2
                    generalize l[k] = t at *
                    obtain ⟨tb, td, tn⟩ := t
                    dsimp only at e0 e1 e2
                    obtain ⟨s0, s1, s2, _⟩ := symT_yes hmay
                    have hparts := mayT_parts hmay
                    obtain ⟨s, hs⟩ := Int.eq_ofNat_of_zero_le s0
                    have hs272 : s < 272 := by omega
                    have HTk : Hid (tokB L (tb, td, tn) = bitsC L s ++ (if 0 < tn then putL td 8 else [])) := by unfold Hid tokB; rw [hs, Int.toNat_natCast]
                    have hwo : writeOk L (s : Int) = true := by
                      rw [hs, Int.toNat_natCast] at hs0
                      have q : L[s]'hs0 ≠ 0 := by simpa [hs] using hs1
                      exact writeOk_iff.2 ⟨HLok.out, by omega, by omega, by rw [Int.toNat_natCast, List.getElem?_eq_getElem hs0, Option.getD_some]; exact q⟩
                    have Hwo := Lib.hid hwo
                    have hbc : (bitsC L s).length ≤ 15 := by
                      rw [bitsC_length]
                      by_cases h : s < L.length
                      · rw [List.getElem?_eq_getElem h, Option.getD_some]
                        have := (lensOk_parts HLok.out).2.1 _ (List.getElem_mem h)
                        omega
                      · rw [List.getElem?_eq_none (by omega)]; simp
                    have Hparts := Lib.hid hparts
                    have hsym := symbolR_any tb td tn wq
                    rw [hs] at hsym
                    clear hs hs0 hs1 s0 s1 s2 hparts hmay hwo
                    go_wp2_with fail
                    refine hsym.mono ?_
                    rintro e w6 ⟨rfl, hb6⟩
                    have HO7 := Lib.hid (owns_below HOq.out hb6)
                    have HB7 := Lib.hid (HBq.out.trans (hb6.mono hszq))
                    have hwr := writeR_yes (.slice (some ⟨bL, oL, none⟩) 272 c2) L (s : Int) w6 (sl_below (sl_below HL2.out HB4.out) HB7.out) (by rw [H272.out]; omega) Hwo.out
                    rw [Int.toNat_natCast] at hwr
                    have hsz7 := HB7.out.size
                    clear hsym hb6 e0 e1 e2
                    go_wp2_with fail
                    refine hwr.mono ?_
                    rintro e w7 ⟨ac, cc, bc, rfl, hbcE, hbits, hb7⟩
                    have HO8 := Lib.hid (owns_below HO7.out hb7)
                    have HB8 := Lib.hid (HB7.out.trans (hb7.mono hsz7))
                    have Hbits := Lib.hid hbits
                    have hsz8 := HB8.out.size
                    have hbc2 : bc.length ≤ 15 := by rw [hbcE.out]; exact hbc
                    rw [← hbcE.out] at HTk
                    clear hwr hb7 hbits hbc
                    have e9 : (bq ++ bc).length = bq.length + bc.length := List.length_append
                    have E9 := Lib.hid e9
                    clear e9
                    by_cases hn : 0 < tn
                    · have dn : decide (0 < tn) = true := by simpa using hn
                      rw [if_pos hn] at HTk
                      have hp8 : putOk td 8 = true := by
                        have q8 : p2 8 = 256 := by decide
                        have := Hparts.out
                        simp only [putOk, decide_eq_true_eq]; exact ⟨by omega, by omega, by omega, by show td < p2 8; omega⟩
                      have Hp8 := Lib.hid hp8
                      clear hp8 hn
                      go_wp2_with (first | (at_builtin; refine wpList_append_sl (f := Value.bool) rfl _ _ 25 rfl wo.heap.size 4 j0 (.bool false) 1 Try.underlying25 hj hj0 hj1 hj2 rfl _ _ _ rfl HO8.out _ rfl Hbits.out (fun _ => rfl) (by simp [maxLen]; omega) (by omega) hsz8 ?_
                                            intro v9 w9 hown9 hg9 _
                                            obtain ⟨a9, c9, rfl, _⟩ := owns_shape hown9
                                            have HO9 : Hid (OwnB w9 wo.heap.size (.slice a9 (bq ++ bc).length c9) (bq ++ bc)) := by
                                              have e5 : (bq ++ bc).length = bq.length + bc.length := List.length_append
                                              unfold Hid OwnB
                                              rw [e5, List.map_append]; exact hown9
                                            have HB9 := Lib.hid (HB8.out.grown hg9 hsz8 (fun j hj => owns_block HO8.out j hj))
                                            have HBw9 := Lib.hid (HBo.out.trans (HB9.out.mono HBo.out.size))
                                            have f1 := E1.out
                                            have f2 := E2.out
                                            rw [← HBw9.out.cell (p := ⟨bT, oT + k * 3 + 1, none⟩) hbT] at f1
                                            rw [← HBw9.out.cell (p := ⟨bT, oT + k * 3 + 2, none⟩) hbT] at f2
                                            clear hown9 hg9) | fail)
                      have hput := rput_any (.slice a9 (bq ++ bc).length c9) (bq ++ bc) td 8 w9 (sl_of_owns HO9.out).1 (by rw [E9.out]; omega) Hp8.out
                      rw [E9.out] at hput
                      generalize hbb : bq ++ bc = bb at *
                      have Hbb := Lib.hid hbb
                      clear hbb
                      refine hput.mono ?_
                      rintro e w10 ⟨a10, c10, b10, rfl, hb10, hO10, hbw10⟩
                      have HO10 := Lib.hid (owns_base hO10 HB9.out.size)
                      have HB10 := Lib.hid (HB9.out.trans (hbw10.mono HB9.out.size))
                      clear hput hO10 hbw10 f1 f2
                      go_wp2_with fail
                      exact ⟨⟨k + 1, b10, a10, c10, by go_num, by omega, rfl, by unfold Hid; rw [hb10.out, ← Hbb.out, Hbq.out, HF.out, HTk.out]; simp, HO10.out, HB10.out⟩, by simp [intOf]; omega⟩
                    · have dn : decide (0 < tn) = false := by simpa using hn
                      rw [if_neg hn, List.append_nil] at HTk
                      clear hn
                      go_wp2_with (first | (at_builtin; refine wpList_append_sl (f := Value.bool) rfl _ _ 25 rfl wo.heap.size 4 j0 (.bool false) 1 Try.underlying25 hj hj0 hj1 hj2 rfl _ _ _ rfl HO8.out _ rfl Hbits.out (fun _ => rfl) (by simp [maxLen]; omega) (by omega) hsz8 ?_
                                            intro v9 w9 hown9 hg9 _
                                            obtain ⟨a9, c9, rfl, _⟩ := owns_shape hown9
                                            have HO9 : Hid (OwnB w9 wo.heap.size (.slice a9 (bq ++ bc).length c9) (bq ++ bc)) := by
                                              have e5 : (bq ++ bc).length = bq.length + bc.length := List.length_append
                                              unfold Hid OwnB
                                              rw [e5, List.map_append]; exact hown9
                                            have HB9 := Lib.hid (HB8.out.grown hg9 hsz8 (fun j hj => owns_block HO8.out j hj))
                                            have HBw9 := Lib.hid (HBo.out.trans (HB9.out.mono HBo.out.size))
                                            have f2 := E2.out
                                            rw [← HBw9.out.cell (p := ⟨bT, oT + k * 3 + 2, none⟩) hbT] at f2
                                            clear hown9 hg9) | fail)
                      exact ⟨⟨k + 1, bq ++ bc, a9, c9, by go_num, by omega, by rw [E9.out], by unfold Hid; rw [Hbq.out, HF.out, HTk.out]; simp, HO9.out, HB9.out⟩, by simp [intOf]; omega⟩
                  · obtain rfl : k = l.length := by omega
                    have HW : Hid (WrV l bq) := ⟨fun _ => ⟨L, HR.out, by rw [Hbq.out, List.take_length, wrB_eq]⟩, fun h => by rw [Hok.out] at h; cases h⟩
                    go_wp2_with fail
                    go_ret2
                    exact ⟨aq, cq, bq, by rw [Hok.out]; rfl, HW.out, (sl_of_owns HOq.out).1, HBw.out⟩
end Go.Proofs.Ytolappilfjhfaaa
namespace Go.Proofs.Ytolappilfjhfaaa
open Go.RowKit

theorem takeR_num {bs : List Bool} {p width : Int} (h : takeOkR bs.length p width = true) : numO bs p width = some (takeN ((bs.drop p.toNat).take width.toNat)) := by
  unfold numO; rw [if_pos (by simpa [takeOkR] using h)]
theorem takeRNo_num {bs : List Bool} {p width : Int} (h : takeOkR bs.length p width = false) : numO bs p width = none := by
  unfold numO; rw [if_neg (by simpa [takeOkR] using h)]
/-- What Take of the document tells. -/
def numV (bs : List Bool) (p width : Int) : Value := match numO bs p width with
  | some n => .tuple #[.int .i64 n, .int .i64 (p + width), .bool true]
  | none => .tuple #[.int .i64 0, .int .i64 0, .bool false]
theorem takeRV (v : Value) (bs : List Bool) (p width : Int) (w : World) (hv : Bits w v bs) (hl : bs.length ≤ 140737488355328) (hpb : p ≤ 9223372036854775807) :
    Calls Try.prog 45 #[v, .int .i64 p, .int .i64 width] w fun e w' => e = .returned (numV bs p width) ∧ w = w' := by
  cases h : takeOkR bs.length p width with
  | true => unfold numV; rw [takeR_num h]; exact takeR_any v bs p width w hv hl h
  | false => unfold numV; rw [takeRNo_num h]; exact takeR_no v bs p width w hv hl hpb h
theorem numV_some {bs : List Bool} {p width n : Int} (h : numO bs p width = some n) : numV bs p width = .tuple #[.int .i64 n, .int .i64 (p + width), .bool true] := by unfold numV; rw [h]
theorem numV_none {bs : List Bool} {p width : Int} (h : numO bs p width = none) : numV bs p width = .tuple #[.int .i64 0, .int .i64 0, .bool false] := by unfold numV; rw [h]
theorem num_far {bs : List Bool} {p width : Int} (h : (bs.length : Int) < p) : numO bs p width = none := by
  unfold numO; rw [if_neg (by omega)]

/-- What the document's lens leaves: the lengths, where they may be. -/
def LensQ (bs : List Bool) (w : World) (e : Ending) (w' : World) : Prop :=
  ∃ (a : Option Addr) (cap : Nat) (L : List Int) (q : Int) (ok : Bool), e = .returned (.tuple #[.slice a L.length cap, .int .i64 q, .bool ok]) ∧ IntsV w' (.slice a L.length cap) L ∧
    ((lensO bs = some (L, q) ∧ ok = true ∧ L.length = 272) ∨ (lensO bs = none ∧ ok = false)) ∧ Below w.heap.size w w'
theorem lensQ_no {bs : List Bool} {w w' : World} (h : lensO bs = none) (hb : Below w.heap.size w w') : LensQ bs w (.returned (.tuple #[.slice none 0 0, .int .i64 0, .bool false])) w' :=
  ⟨none, 0, [], 0, false, rfl, sl_nil fun _ => rfl, Or.inr ⟨h, rfl⟩, hb⟩

set_option maxRecDepth 100000 in
set_option maxHeartbeats 16000000 in
theorem lensQ_any (v : Value) (bs : List Bool) (w : World) (hv : Bits w v bs) (hl : bs.length ≤ 140737488355328) :
    Calls Try.prog 43 #[v] w fun e w' => LensQ bs w e w' := by
  obtain ⟨i0, hi, hz0, hz1, hz2⟩ := info_parts info_int
  have HV := Lib.hid hv
  have HO0 := Lib.hid (owns_none w 3 1)
  have HB0 : Hid (Below w.heap.size w (w.alloc (.cells #[] 3))) := (Below.refl _ _).alloc (Nat.le_refl _) _
  clear hv
  go_enter Try.func43, Try.ntmps43
  go_wp2_with fail
  go_loopw [5, 6] (fun uf ui wr => ∃ (k : Nat) (a : Option Addr) (cap : Nat), ui = .int .i64 k ∧ k ≤ 272 ∧ uf = .slice a k cap ∧ wr.ownsRow w.heap.size 3 1 (.slice a k cap) k ((List.replicate k (0 : Int)).map (Value.int .i64)) ∧ Below w.heap.size w wr) (fun _ ui _ => 272 - (intOf ui).toNat)
  case atStart => exact ⟨0, _, 0, rfl, by omega, rfl, HO0.out, HB0.out⟩
  case round =>
    obtain ⟨k, a, cap, rfl, hk, rfl, hown, hb⟩ := hrel
    have HO := Lib.hid hown
    have HB := Lib.hid hb
    have hsz := hb.size
    clear hown hb HO0 HB0
    by_cases hlt : k < 272
    · have g2 : (k : Int) < 272 := by omega
      go_wp2_with (first | (at_builtin; have hQ := HO.out.alloc (.cells #[.int .i64 0] 3); refine wpList_append_own_at _ rfl _ _ 50 rfl w.heap.size 3 i0 (.int .i64 0) 1 8 Try.underlying50 hi hz0 hz1 hz2 rfl (by decide) _ _ _ rfl hQ ⟨wr.heap.size, 0, none⟩ 1 1 [.int .i64 0] rfl rfl (cell_one_new _ _ _) (by simp [Value.oneCell']) (by simp [maxLen]; omega) (by omega) (by simp; omega) ?_
                            intro v3 w3 hown3 hg3 _ hat3
                            rw [rep_snocZ] at hown3
                            obtain ⟨a3, c3, rfl, _⟩ := owns_shape hown3
                            have HO3 := Lib.hid hown3
                            have HB3 := Lib.hid ((HB.out.alloc hsz _).grown hg3 (by simp; omega) (fun b hbk => owns_block HO.out b hbk))
                            clear hown3 hg3 hat3 hQ) | fail)
      exact ⟨⟨k + 1, a3, c3, by go_num, by omega, rfl, HO3.out, HB3.out⟩, by simp [intOf]; omega⟩
    · obtain rfl : k = 272 := by omega
      obtain ⟨g, rfl, hg⟩ := owns_addr HO.out (by omega)
      have htk := takeRV v bs 0 9 wr (sl_below HV.out HB.out) hl (by decide)
      rw [show ((272 : Nat) : Int) = 272 from rfl]
      clear hlt
      cases hn : numO bs 0 9 with
      | none =>
        have HNo := Lib.hid (lensO_none0 hn)
        rw [numV_none hn] at htk
        clear hn
        go_wp2_with fail
        refine htk.mono ?_
        rintro e w1 ⟨rfl, rfl⟩
        go_wp2_with fail
        go_ret3
        exact lensQ_no HNo.out HB.out
      | some n =>
        obtain ⟨hn0', hn1, _⟩ := numO_bd hn
        obtain ⟨N, rfl⟩ := Int.eq_ofNat_of_zero_le hn0'
        have hN : (N : Int) < 512 := by have : p2 (Int.toNat 9) = 512 := by decide
                                        rw [this] at hn1; exact hn1
        have HN := Lib.hid hn
        rw [numV_some hn] at htk
        clear hn hn0' hn1
        go_wp2_with fail
        refine htk.mono ?_
        rintro e w1 ⟨rfl, rfl⟩
        clear htk
        go_wp2_with fail
        obtain ⟨wz, hwz⟩ : ∃ wz : World, wz = wr := ⟨_, rfl⟩
        subst hwz
        go_loopw [8, 10, 11] (fun up ah i wr => ∃ (k : Nat) (a p : Int) (L : List Int), i = .int .i64 k ∧ k ≤ N ∧ ah = .int .i64 a ∧ up = .int .i64 p ∧ Hid (p = 9 + 13 * (k : Int)) ∧ -1 ≤ a ∧ a < 272 ∧ L.length = 272 ∧ hdrO bs N 9 (-1) (List.replicate 272 0) = hdrO bs (N - k) p a L ∧ wr.ownsRow w.heap.size 3 1 (.slice (some ⟨g, 0, none⟩) 272 cap) 272 (L.map (Value.int .i64)) ∧ Below w.heap.size w wr) (fun _ _ i _ => N - (intOf i).toNat)
        case atStart => exact ⟨0, -1, _, _, rfl, Nat.zero_le _, rfl, rfl, rfl, by decide, by decide, List.length_replicate .., rfl, HO.out, HB.out⟩
        case round =>
          obtain ⟨k, a, p, L, rfl, hk, rfl, rfl, Hp, ha0, ha1, hL, hh, hown, hb⟩ := hrel
          have HL := Lib.hid hL
          have HH := Lib.hid hh
          have HO1 := Lib.hid hown
          have HB1 := Lib.hid hb
          clear hL hh hown hb HO HB
          by_cases hlt : k < N
          · have g2 : (k : Int) < (N : Int) := by omega
            have ek : N - k = (N - (k + 1)) + 1 := by omega
            have Hek := Lib.hid ek
            clear ek
            have hpb : 0 ≤ p ∧ p ≤ 10000 := by have := Hp.out; omega
            have HVr := Lib.hid (sl_below HV.out HB1.out)
            have ht1 := takeRV v bs p 9 wr HVr.out hl (by omega)
            cases hns : numO bs p 9 with
            | none =>
              have HNo : Hid (lensO bs = none) := lensO_none1 HN.out (by rw [HH.out, Hek.out]; exact hdr_none1 hns)
              have ht2 := takeRV v bs 0 4 wr HVr.out hl (by decide)
              rw [numV_none hns] at ht1
              cases hnk : numO bs 0 4 with
              | none =>
                rw [numV_none hnk] at ht2
                clear hns hnk
                go_wp2_with fail
                refine ht1.mono ?_
                rintro e w1 ⟨rfl, rfl⟩
                go_wp2_with fail
                refine ht2.mono ?_
                rintro e w1 ⟨rfl, rfl⟩
                go_wp2_with fail
                go_ret3
                exact lensQ_no HNo.out HB1.out
              | some m =>
                rw [numV_some hnk] at ht2
                clear hns hnk
                go_wp2_with fail
                refine ht1.mono ?_
                rintro e w1 ⟨rfl, rfl⟩
                go_wp2_with fail
                refine ht2.mono ?_
                rintro e w1 ⟨rfl, rfl⟩
                go_wp2_with fail
                go_ret3
                exact lensQ_no HNo.out HB1.out
            | some s =>
              obtain ⟨s0, s1, _⟩ := numO_bd hns
              have HNs := Lib.hid hns
              rw [numV_some hns] at ht1
              have ht2 := takeRV v bs (p + 9) 4 wr HVr.out hl (by omega)
              clear hns s1
              cases hnm : numO bs (p + 9) 4 with
              | none =>
                have HNo : Hid (lensO bs = none) := lensO_none1 HN.out (by rw [HH.out, Hek.out]; exact hdr_none2 HNs.out hnm)
                rw [numV_none hnm] at ht2
                clear hnm
                go_wp2_with fail
                refine ht1.mono ?_
                rintro e w1 ⟨rfl, rfl⟩
                go_wp2_with fail
                refine ht2.mono ?_
                rintro e w1 ⟨rfl, rfl⟩
                go_wp2_with fail
                go_ret3
                exact lensQ_no HNo.out HB1.out
              | some m =>
                obtain ⟨m0, m1, _⟩ := numO_bd hnm
                have HNm := Lib.hid hnm
                rw [numV_some hnm] at ht2
                clear hnm m1
                by_cases hbad : s ≤ a ∨ 272 ≤ s ∨ m = 0
                · have HNo : Hid (lensO bs = none) := lensO_none1 HN.out (by rw [HH.out, Hek.out]; exact hdr_bad HNs.out HNm.out hbad)
                  by_cases x1 : s ≤ a
                  · have b1 : decide (s ≤ a) = true := by simpa using x1
                    clear hbad
                    go_wp2_with fail
                    refine ht1.mono ?_
                    rintro e w1 ⟨rfl, rfl⟩
                    go_wp2_with fail
                    refine ht2.mono ?_
                    rintro e w1 ⟨rfl, rfl⟩
                    go_wp2_with fail
                    go_ret3
                    exact lensQ_no HNo.out HB1.out
                  by_cases x2 : 272 ≤ s
                  · have b1 : decide (s ≤ a) = false := by simpa using x1
                    have b2 : decide (272 ≤ s) = true := by simpa using x2
                    clear hbad
                    go_wp2_with fail
                    refine ht1.mono ?_
                    rintro e w1 ⟨rfl, rfl⟩
                    go_wp2_with fail
                    refine ht2.mono ?_
                    rintro e w1 ⟨rfl, rfl⟩
                    go_wp2_with fail
                    go_ret3
                    exact lensQ_no HNo.out HB1.out
                  obtain rfl : m = 0 := by omega
                  have b1 : decide (s ≤ a) = false := by simpa using x1
                  have b2 : decide (272 ≤ s) = false := by simpa using x2
                  clear hbad
                  go_wp2_with fail
                  refine ht1.mono ?_
                  rintro e w1 ⟨rfl, rfl⟩
                  go_wp2_with fail
                  refine ht2.mono ?_
                  rintro e w1 ⟨rfl, rfl⟩
                  go_wp2_with fail
                  go_ret3
                  exact lensQ_no HNo.out HB1.out
                · have hp13 : p + 9 + 4 = p + 13 := by omega
                  have HH2 : Hid (hdrO bs N 9 (-1) (List.replicate 272 0) = hdrO bs (N - (k + 1)) (p + 9 + 4) s (L.set s.toNat m)) := by
                    unfold Hid; rw [HH.out, Hek.out, hp13]; exact hdr_step HNs.out HNm.out hbad
                  have Hp2 : Hid (p + 9 + 4 = 9 + 13 * ((k + 1 : Nat) : Int)) := by have := Hp.out; unfold Hid; omega
                  have x1 : ¬ s ≤ a := fun q => hbad (Or.inl q)
                  have x2 : ¬ 272 ≤ s := fun q => hbad (Or.inr (Or.inl q))
                  have x3 : ¬ m = 0 := fun q => hbad (Or.inr (Or.inr q))
                  have b1 : decide (s ≤ a) = false := by simpa using x1
                  have b2 : decide (272 ≤ s) = false := by simpa using x2
                  have b3 : (m == 0) = false := by simpa using x3
                  obtain ⟨t, rfl⟩ := Int.eq_ofNat_of_zero_le s0
                  have ht : t < 272 := by omega
                  have htI : (t : Int) < 272 := by omega
                  have e1 := HO1.out.frozenAt t
                  have e0 : wr.cell? ⟨g, t, none⟩ = some (.int .i64 (L[t]'(by rw [HL.out]; exact ht))) := by rw [HO1.out.cellAt t (by omega), List.getElem?_map, List.getElem?_eq_getElem (by rw [HL.out]; exact ht)]; rfl
                  have hst := (HO1.out.stored t (.int .i64 m)).1
                  rw [← List.map_set] at hst
                  have Hst := Lib.hid hst
                  have HB2 := Lib.hid (HB1.out.setCell (p := ⟨g, t, none⟩) hg (.int .i64 m))
                  rw [Int.toNat_natCast] at HH2
                  generalize L[t]'(by rw [HL.out]; exact ht) = old at e0
                  clear hst hbad hp13
                  go_wp2_with fail
                  refine ht1.mono ?_
                  rintro e w1 ⟨rfl, rfl⟩
                  go_wp2_with fail
                  refine ht2.mono ?_
                  rintro e w1 ⟨rfl, rfl⟩
                  go_wp2_with fail
                  exact ⟨⟨k + 1, t, _, L.set t m, by go_num, by omega, rfl, rfl, Hp2.out, by omega, by omega, by rw [List.length_set]; exact HL.out, HH2.out, Hst.out, HB2.out⟩, by simp [intOf]; omega⟩
          · obtain rfl : k = N := by omega
            rw [Nat.sub_self] at HH
            have hf : lensO bs = if lensOk L = true then some (L, p) else none := lensO_some HN.out HH.out
            have Hf := Lib.hid hf
            have hcd := codesR_any (.slice (some ⟨g, 0, none⟩) 272 cap) L wr ((sl_of_owns HO1.out).1) (by rw [HL.out]; omega)
            clear hf
            have hsz := HB1.out.size
            have HRes : Hid ((lensO bs = some (L, p) ∧ lensOk L = true ∧ L.length = 272) ∨ (lensO bs = none ∧ lensOk L = false)) := by
              unfold Hid
              cases hok : lensOk L with
              | false => exact Or.inr ⟨by rw [Hf.out, hok]; rfl, rfl⟩
              | true => exact Or.inl ⟨by rw [Hf.out, hok]; rfl, rfl, HL.out⟩
            generalize lensOk L = ok at *
            go_wp2_with fail
            refine hcd.mono ?_
            rintro e w3 ⟨v3, rfl, _, hb3⟩
            have HB3 := Lib.hid (below_step' HB1.out hb3)
            have HS3 := Lib.hid (sl_below (sl_of_owns HO1.out).1 hb3)
            clear hcd hb3
            go_wp2_with fail
            go_ret3
            exact ⟨some ⟨g, 0, none⟩, cap, L, p, ok, by rw [HL.out]; rfl, by rw [HL.out]; exact HS3.out, HRes.out, HB3.out⟩
end Go.Proofs.Ytolappilfjhfaaa
namespace Go.Proofs.Ytolappilfjhfaaa
open Go.RowKit

theorem tok_lit {L : List Int} {bs : List Bool} {p q : Int} {s : Nat} (h : readO L bs p = some s) (hq : p + L[s]?.getD 0 = q) (h256 : s < 256) : tokO L bs p = some (((s : Int), 0, 0), q) := by
  unfold tokO; rw [h]; simp only []; rw [if_pos h256, hq]
theorem tok_cpy {L : List Int} {bs : List Bool} {p q d : Int} {s : Nat} (h : readO L bs p = some s) (hq : p + L[s]?.getD 0 = q) (h256 : ¬ s < 256) (hd : numO bs q 8 = some d) : tokO L bs p = some ((0, d, (s : Int) - 253), q + 8) := by
  unfold tokO; rw [h]; simp only []; rw [if_neg h256, hq, hd]
theorem tok_cpy_no {L : List Int} {bs : List Bool} {p q : Int} {s : Nat} (h : readO L bs p = some s) (hq : p + L[s]?.getD 0 = q) (h256 : ¬ s < 256) (hd : numO bs q 8 = none) : tokO L bs p = none := by
  unfold tokO; rw [h]; simp only []; rw [if_neg h256, hq, hd]
theorem tok_no {L : List Int} {bs : List Bool} {p : Int} (h : readO L bs p = none) : tokO L bs p = none := by
  unfold tokO; rw [h]

set_option maxRecDepth 100000 in
set_option maxHeartbeats 16000000 in
theorem readQ_any (v : Value) (bs : List Bool) (many : Int) (w : World) (hv : Bits w v bs) (hl : bs.length ≤ 140737488355328) :
    Calls Try.prog 22 #[v, .int .i64 many] w fun e w' => RdV bs many w e w' := by
  obtain ⟨i0, hi, hz0, hz1, hz2⟩ := info_parts info_tok
  have HV := Lib.hid hv
  obtain ⟨aV, cV, rfl, _⟩ := hv
  by_cases hm : many < 0 ∨ 1000 < many
  · have HN : Hid (rdO bs many = none) := by unfold Hid rdO; rw [if_pos hm]
    by_cases h1 : many < 0
    · have b1 : decide (many < 0) = true := by simpa using h1
      clear hm
      go_enter Try.func22, Try.ntmps22
      go_wp2_with fail
      go_ret3
      exact rdV_no HN.out (Below.refl _ _)
    · have h2 : 1000 < many := by omega
      have b1 : decide (many < 0) = false := by simpa using h1
      have b2 : decide (1000 < many) = true := by simpa using h2
      clear hm
      go_enter Try.func22, Try.ntmps22
      go_wp2_with fail
      go_ret3
      exact rdV_no HN.out (Below.refl _ _)
  · have m0 : ¬ many < 0 := fun q => hm (Or.inl q)
    have m1 : ¬ 1000 < many := fun q => hm (Or.inr q)
    have hN : rdO bs many = (match lensO bs with
      | some (L, p) => toksO L bs many (many.toNat + 1) 0 p []
      | none => none) := by unfold rdO; rw [if_neg hm]; rfl
    have HN := Lib.hid hN
    have b1 : decide (many < 0) = false := by simpa using m0
    have b2 : decide (1000 < many) = false := by simpa using m1
    clear hm hN
    have hln := lensQ_any (.slice aV bs.length cV) bs w HV.out hl
    go_enter Try.func22, Try.ntmps22
    go_wp2_with fail
    refine hln.mono ?_
    rintro e w2 ⟨a2, c2, L, q, ok, rfl, hL2, ⟨hL, rfl, hL272⟩ | ⟨hL, rfl⟩, hb2⟩
    rotate_left
    · have HNo : Hid (rdO bs many = none) := by unfold Hid; rw [HN.out, hL]
      have HB2 := Lib.hid hb2
      clear hln hL hL2 hb2
      go_wp2_with fail
      go_ret3
      exact rdV_no HNo.out HB2.out
    obtain ⟨hok, hq0, hqb⟩ := lensO_bd hL
    obtain ⟨_, hLb, _⟩ := lensOk_parts hok
    have HLb := Lib.hid hLb
    have HN2 : Hid (rdO bs many = toksO L bs many (many.toNat + 1) 0 q []) := by unfold Hid; rw [HN.out, hL]
    have HB2 := Lib.hid hb2
    have HL2 := Lib.hid hL2
    have H272 := Lib.hid hL272
    have HO0 : Hid ((w2.alloc (.cells #[] 30)).ownsRow w2.heap.size 30 3 (.slice (some ⟨w2.heap.size, 0, none⟩) 0 0) 0 []) := owns_none w2 30 3
    have HB0 : Hid (Below w2.heap.size w2 (w2.alloc (.cells #[] 30))) := (Below.refl _ _).alloc (Nat.le_refl _) _
    clear hln hL hL2 hb2 hL272 hLb hok HN
    go_wp2_with fail
    go_loopw [8, 10, 11] (fun up uo ut wr => ∃ (t p : Int) (out : List TokT) (a : Option Addr) (cap m : Nat), ut = .int .i64 t ∧ up = .int .i64 p ∧ uo = .slice a out.length cap ∧ 0 ≤ t ∧ t ≤ many ∧ many - t < m ∧ 0 ≤ p ∧ p ≤ bs.length ∧ (out.length : Int) ≤ t ∧ Hid (toksO L bs many (many.toNat + 1) 0 q [] = toksO L bs many m t p out) ∧ wr.ownsRow w2.heap.size 30 3 (.slice a out.length cap) out.length (cellsT out) ∧ Below w2.heap.size w2 wr) (fun _ _ ut _ => (many - intOf ut).toNat)
    case atStart => exact ⟨0, q, [], _, 0, many.toNat + 1, rfl, rfl, rfl, by decide, by omega, by omega, hq0, hqb, by decide, rfl, HO0.out, HB0.out⟩
    case round =>
      obtain ⟨wo, hwo⟩ : ∃ wo : World, wo = wr := ⟨_, rfl⟩
      subst hwo
      obtain ⟨t, p, out, a, cap, m, rfl, rfl, rfl, ht0, ht1, hmt, hp0, hpb, hot, HTk, hown, hb⟩ := hrel
      have HO := Lib.hid hown
      have HB := Lib.hid hb
      have HBw := Lib.hid (HB2.out.trans (hb.mono HB2.out.size))
      have hsz := hb.size
      obtain ⟨m', rfl⟩ : ∃ m', m = m' + 1 := ⟨m - 1, by omega⟩
      clear hown hb HO0 HB0
      by_cases hlt : t < many
      · have b3 : decide (t < many) = true := by simpa using hlt
        have hrd := readR_any (.slice a2 L.length c2) (.slice aV bs.length cV) L bs p wo (sl_below HL2.out HB.out) (sl_below HV.out HBw.out) (by rw [H272.out]; omega) hl (by omega)
        cases hro : readO L bs p with
        | none =>
          have HNo : Hid (rdO bs many = none) := by unfold Hid; rw [HN2.out, HTk.out]; exact toks_none hlt (tok_no hro)
          rw [readV_none hro] at hrd
          clear hro
          go_wp2_with fail
          refine hrd.mono ?_
          rintro e w3 ⟨rfl, hb3⟩
          have HB3 := Lib.hid (below_step' HBw.out hb3)
          clear hrd hb3
          go_wp2_with fail
          go_ret3
          exact rdV_no HNo.out HB3.out
        | some s =>
          rw [readV_some hro] at hrd
          have hs := readO_lt hro
          have hs272 : s < 272 := by rw [H272.out] at hs; exact hs
          have hk : 0 ≤ L[s]?.getD 0 ∧ L[s]?.getD 0 ≤ 15 := by rw [List.getElem?_eq_getElem hs]; exact HLb.out _ (List.getElem_mem hs)
          have hq2 := readO_bd hro
          obtain ⟨q', hq'⟩ : ∃ q', p + L[s]?.getD 0 = q' := ⟨_, rfl⟩
          have hqb' : 0 ≤ q' ∧ q' ≤ bs.length := by omega
          have Hro := Lib.hid hro
          have Hq' := Lib.hid hq'
          rw [hq'] at hrd
          clear hro hq' hk hq2 hs
          go_wp2_with fail
          refine hrd.mono ?_
          rintro e w3 ⟨rfl, hb3⟩
          have HO3 := Lib.hid (owns_below HO.out hb3)
          have HB3 := Lib.hid (HB.out.trans (hb3.mono hsz))
          have HBw3 := Lib.hid (below_step' HBw.out hb3)
          have hsz3 := HB3.out.size
          clear hrd hb3
          by_cases h256 : s < 256
          · have d1 : decide ((256 : Int) ≤ (s : Int)) = false := by simp; omega
            have htk := tok_lit Hro.out Hq'.out h256
            have hmayT : mayT ((s : Int), 0, 0) = true := by simp [mayT]; omega
            have hmm : max (0 : Int) 1 = 1 := by decide
            have HStep : Hid (toksO L bs many (many.toNat + 1) 0 q [] = toksO L bs many m' (t + 1) q' (out ++ [((s : Int), 0, 0)])) := by
              unfold Hid
              rw [HTk.out]
              exact toks_step hlt htk (by rw [hmayT]; simp only [Bool.true_eq_false, false_or, hmm]; omega)
            have hmay := mayR_any (s : Int) 0 0 (w3.alloc (.cells #[.int .i64 s, .int .i64 0, .int .i64 0] 30))
            rw [hmayT] at hmay
            have d2 : decide (t < 0) = false := by simp; omega
            have d3 : decide (many < t + 1) = false := by simp; omega
            have y : IntKind.i64.wrap (t + 1) = t + 1 := by rw [IntKind.wrap_i64]; omega
            clear htk hmayT hmm
            go_wp2_with fail
            refine hmay.mono ?_
            rintro e w4 ⟨rfl, hb4⟩
            obtain ⟨f0, f1, f2, hp4⟩ := cells3_newT hb4
            have HO4 := Lib.hid (owns_below (HO3.out.alloc (.cells #[.int .i64 s, .int .i64 0, .int .i64 0] 30)) hb4)
            have HB4 := Lib.hid (below_stepA2 HB3.out hb4)
            have hsz4 := HB4.out.size
            clear hmay hb4
            go_wp2_with (first | (at_builtin; have hQ := HO4.out.alloc (.cells #[.int .i64 s, .int .i64 0, .int .i64 0] 30); refine wpList_append_own_at _ rfl _ _ 22 rfl w2.heap.size 30 i0 _ 3 24 Try.underlying22 hi hz0 hz1 hz2 rfl (by decide) _ _ _ rfl hQ ⟨w4.heap.size, 0, none⟩ 1 1 (tokE ((s : Int), 0, 0)) rfl rfl (cells_three_newM _ _ _ _ _) (tokE_one _) (by simp [maxLen]; omega) (by omega) (by simp; omega) ?_
                                  intro v5 w5 hown5 hg5 _ hat5
                                  obtain ⟨a5, c5, rfl, _⟩ := owns_shape hown5
                                  have HO5 := Lib.hid hown5
                                  have HB5 := Lib.hid ((HB4.out.alloc hsz4 _).grown hg5 (by simp; omega) (fun b hbk => owns_block HO4.out b hbk))
                                  clear hown5 hg5 hat5 hQ) | fail)
            have hlen : (out ++ [((s : Int), (0 : Int), (0 : Int))]).length = out.length + 1 := by simp
            exact ⟨⟨t + 1, q', out ++ [((s : Int), 0, 0)], a5, c5, m', rfl, rfl, by rw [hlen], by omega, by omega, by omega, by omega, by omega, by rw [hlen]; omega, HStep.out, by rw [hlen, cellsT_snoc]; exact HO5.out, HB5.out⟩, by simp [intOf]; omega⟩
          · have d1 : decide ((256 : Int) ≤ (s : Int)) = true := by simp; omega
            have y1 : IntKind.i64.wrap ((s : Int) - 253) = (s : Int) - 253 := by rw [IntKind.wrap_i64]; omega
            have htR := takeRV (.slice aV bs.length cV) bs q' 8 (w3.alloc (.cells #[.int .i64 s, .int .i64 0, .int .i64 0] 30)) (sl_below HV.out (HBw3.out.alloc HBw3.out.size _)) hl (by omega)
            cases hd : numO bs q' 8 with
            | none =>
              have HNo : Hid (rdO bs many = none) := by unfold Hid; rw [HN2.out, HTk.out]; exact toks_none hlt (tok_cpy_no Hro.out Hq'.out h256 hd)
              have HB4 := Lib.hid (HBw3.out.alloc HBw3.out.size (.cells #[.int .i64 s, .int .i64 0, .int .i64 0] 30))
              rw [numV_none hd] at htR
              clear hd
              go_wp2_with fail
              refine htR.mono ?_
              rintro e w4 ⟨rfl, rfl⟩
              go_wp2_with fail
              go_ret3
              exact rdV_no HNo.out HB4.out
            | some d =>
              have htk := tok_cpy Hro.out Hq'.out h256 hd
              have hdb := numO_bd hd
              have q8 : p2 (Int.toNat 8) = 256 := by decide
              have hd256 : 0 ≤ d ∧ d < 256 := ⟨hdb.1, by have := hdb.2.1; rw [q8] at this; exact this⟩
              have hqb8 : q' + 8 ≤ bs.length := hdb.2.2
              rw [numV_some hd] at htR
              obtain ⟨n, hn⟩ : ∃ n : Int, (s : Int) - 253 = n := ⟨_, rfl⟩
              rw [hn] at htk y1
              have hn' : 3 ≤ n ∧ n ≤ 18 := by omega
              have Htk := Lib.hid htk
              have hmm : max n 1 = n := by omega
              have Hmm := Lib.hid hmm
              have hmay := mayR_any 0 d n (w3.alloc (.cells #[.int .i64 0, .int .i64 d, .int .i64 n] 30))
              clear hd hdb htk hmm q8
              go_wp2_with fail
              refine htR.mono ?_
              rintro e w4 ⟨rfl, rfl⟩
              clear htR
              go_wp2_with fail
              have Hn := Lib.hid hn
              have yn : IntKind.i64.wrap (t + n) = t + n := by rw [IntKind.wrap_i64]; omega
              have dn : decide (1 ≤ n) = true := by simp; omega
              clear hn y1
              cases hmt : mayT (0, d, n) with
              | false =>
                have HNo : Hid (rdO bs many = none) := by unfold Hid; rw [HN2.out, HTk.out]; exact toks_bad hlt Htk.out (Or.inl hmt)
                rw [hmt] at hmay
                clear hmt
                refine hmay.mono ?_
                rintro e w4 ⟨rfl, hb4⟩
                have HB4 := Lib.hid (below_stepA2 HBw3.out hb4 HBw3.out.size)
                clear hmay hb4
                go_wp2_with fail
                go_ret3
                exact rdV_no HNo.out HB4.out
              | true =>
                rw [hmt] at hmay
                refine hmay.mono ?_
                rintro e w4 ⟨rfl, hb4⟩
                obtain ⟨f0, f1, f2, hp4⟩ := cells3_newT hb4
                have HO4 := Lib.hid (owns_below (HO3.out.alloc (.cells #[.int .i64 0, .int .i64 d, .int .i64 n] 30)) hb4)
                have HB4 := Lib.hid (below_stepA2 HB3.out hb4)
                have HBw4 := Lib.hid (below_stepA2 HBw3.out hb4 HBw3.out.size)
                have hsz4 := HB4.out.size
                clear hmay hb4
                by_cases htd : t < d
                · have HNo : Hid (rdO bs many = none) := by unfold Hid; rw [HN2.out, HTk.out]; exact toks_bad hlt Htk.out (Or.inr (Or.inl htd))
                  have d2 : decide (t < d) = true := by simpa using htd
                  clear hmt
                  go_wp2_with fail
                  go_ret3
                  exact rdV_no HNo.out HBw4.out
                · have d2 : decide (t < d) = false := by simpa using htd
                  by_cases htm : many < t + n
                  · have HNo : Hid (rdO bs many = none) := by unfold Hid; rw [HN2.out, HTk.out]; exact toks_bad hlt Htk.out (Or.inr (Or.inr (by show many < t + max n 1; rw [Hmm.out]; exact htm)))
                    have d3 : decide (many < t + n) = true := by simpa using htm
                    clear hmt
                    go_wp2_with fail
                    go_ret3
                    exact rdV_no HNo.out HBw4.out
                  · have d3 : decide (many < t + n) = false := by simpa using htm
                    have HStep : Hid (toksO L bs many (many.toNat + 1) 0 q [] = toksO L bs many m' (t + n) (q' + 8) (out ++ [((0 : Int), d, n)])) := by
                      have q2 : toksO L bs many (m' + 1) t p out = toksO L bs many m' (t + max n 1) (q' + 8) (out ++ [((0 : Int), d, n)]) := toks_step hlt Htk.out (by rw [hmt]; simp only [Bool.true_eq_false, false_or, Hmm.out]; omega)
                      rw [Hmm.out] at q2
                      unfold Hid; rw [HTk.out]; exact q2
                    clear hmt
                    go_wp2_with (first | (at_builtin; have hQ := HO4.out.alloc (.cells #[.int .i64 0, .int .i64 d, .int .i64 n] 30); refine wpList_append_own_at _ rfl _ _ 22 rfl w2.heap.size 30 i0 _ 3 24 Try.underlying22 hi hz0 hz1 hz2 rfl (by decide) _ _ _ rfl hQ ⟨w4.heap.size, 0, none⟩ 1 1 (tokE ((0 : Int), d, n)) rfl rfl (cells_three_newM _ _ _ _ _) (tokE_one _) (by simp [maxLen]; omega) (by omega) (by simp; omega) ?_
                                          intro v5 w5 hown5 hg5 _ hat5
                                          obtain ⟨a5, c5, rfl, _⟩ := owns_shape hown5
                                          have HO5 := Lib.hid hown5
                                          have HB5 := Lib.hid ((HB4.out.alloc hsz4 _).grown hg5 (by simp; omega) (fun b hbk => owns_block HO4.out b hbk))
                                          clear hown5 hg5 hat5 hQ) | fail)
                    have hlen : (out ++ [((0 : Int), d, n)]).length = out.length + 1 := by simp
                    exact ⟨⟨t + n, q' + 8, out ++ [((0 : Int), d, n)], a5, c5, m', by rw [Hmm.out], rfl, by rw [hlen], by omega, by omega, by omega, by omega, by omega, by rw [hlen]; omega, HStep.out, by rw [hlen, cellsT_snoc]; exact HO5.out, HB5.out⟩, by simp [intOf]; omega⟩
      · obtain rfl : t = many := by omega
        have HYes : Hid (rdO bs t = some (out, p)) := by unfold Hid; rw [HN2.out, HTk.out]; exact toks_end (by omega)
        have b3 : decide (t < t) = false := by simp
        go_wp2_with fail
        go_ret3
        exact ⟨a, cap, out, p, true, rfl, (toks_of_owns HO.out).1, Or.inl ⟨HYes.out, rfl⟩, HBw.out⟩
end Go.Proofs.Ytolappilfjhfaaa
