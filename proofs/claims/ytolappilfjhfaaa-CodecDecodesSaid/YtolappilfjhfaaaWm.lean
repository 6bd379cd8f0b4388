/- The fixed calls of layer 7. No condition. The contract of the document's Same of tokens: are they? Conditions: numbers fit. The walk of PackWrites. Conditions: numbers fit. The walk of PackReads. Conditions: numbers fit. The walk of PackBack. Conditions: numbers fit. The walk of PackTells. Conditions: numbers fit. The walk of PackCut. Conditions: numbers fit. -/
import Derived.Test.YtolappilfjhfaaaWk
import Derived.Test.YtolappilfjhfaaaWj
import Derived.Test.YtolappilfjhfaaaWl
import Derived.Test.YtolappilfjhfaaaWh
import Derived.Test.YtolappilfjhfaaaWb
namespace Go.Proofs.Ytolappilfjhfaaa
open Go.RowKit

theorem below_drewP {B : Nat} {a w : World} (h : Below B a w) (n : Nat) : Below B a (w.drewN n) := h.trans ⟨rfl, rfl, rfl, Nat.le_refl _, fun _ _ => rfl⟩
theorem same_bits (u v : Value) (a b : List Bool) (w : World) (ha : Bits w u a) (hb : Bits w v b) (hla : a.length ≤ 9223372036854775806) (hlb : b.length ≤ 9223372036854775806) :
    Calls Try.prog 20 #[u, v] w fun e w' => e = .returned (.bool (a == b)) ∧ Below w.heap.size w w' :=
  (same_any u v a b w ha hb hla hlb).mono fun e w' ⟨he, n, hw⟩ => ⟨he, by rw [hw]; exact below_drewP (Below.refl _ _) n⟩
theorem same_toks (u v : Value) (l : List TokT) (w : World) (hu : ToksR w u l) (hv : ToksR w v l) (hp : 0 < l.length) (hl : l.length ≤ 1000000) :
    Calls Try.prog 23 #[u, v] w fun e w' => e = .returned (.bool true) ∧ Below w.heap.size w w' :=
  (same_eq u v l w hu hv hp hl).mono fun e w' ⟨he, n, hw⟩ => ⟨he, by rw [hw]; exact below_drewP (Below.refl _ _) n⟩

theorem many_zero {L : List Int} (h : ∀ s, s < 272 → ¬ 0 < L[s]?.getD 0) : ∀ k, k ≤ 272 → manyT L k = 0 ∧ rowsT L k = []
  | 0, _ => ⟨rfl, rfl⟩
  | k + 1, hk => by
    obtain ⟨h1, h2⟩ := many_zero h k (by omega)
    rw [manyT_step, rowsT_step, if_neg (h k (by omega)), if_neg (h k (by omega)), h1, h2]
    exact ⟨rfl, rfl⟩
theorem fx_nil {b : List Bool} (h : WrV [] b) : b = List.replicate 9 false := by
  obtain ⟨L, hL, rfl⟩ := h.1 (by decide)
  obtain ⟨h1, _, h3⟩ := lensR_facts hL (fun x hx => (timesL_bd [] x hx).1) (by rw [timesL_length]; omega)
  have h0 : ∀ s, s < 272 → ¬ 0 < L[s]?.getD 0 := fun s hs => by
    have hs1 : s < (timesL []).length := by rw [timesL_length]; exact hs
    have hs2 : s < L.length := by rw [h1]; exact hs1
    rw [List.getElem?_eq_getElem hs2, Option.getD_some, (h3 s hs1 hs2).1]
    have q := timesL_at [] hs
    rw [List.getElem?_eq_getElem hs1] at q
    injection q with q
    rw [q]; simp
  obtain ⟨k1, k2⟩ := many_zero h0 272 (Nat.le_refl _)
  unfold wrB
  rw [k1, k2]
  simp only [List.flatMap_nil, List.append_nil]
  decide

/-- The tokens of the fixed calls, and the lengths that they have. -/
def fxT : List TokT := [(97, 0, 0), (0, 1, 3)]
def fxLn : List Int := ((List.replicate 272 (0 : Int)).set 97 1).set 256 1
theorem fx_init : initT (timesL fxT) = [.leaf 1 97, .leaf 1 256] := by kernel_rfl
theorem fx_lens : LensR (timesL fxT) fxLn := by
  refine .stop (Or.inr (Or.inr ⟨by rw [fx_init]; decide, .node (.leaf 1 97) (.leaf 1 256), ?_, ?_⟩)) ?_
  · rw [fx_init]
    exact .step (List.Perm.refl _) (by intro x hx; rw [List.mem_singleton.1 hx]; show ltT _ _ = false; decide) (by intro x hx; cases hx) (.one _)
  · rw [timesL_length]; rfl
  · unfold maxOk; decide +kernel
theorem fx_ok : wrOk fxT = true := by decide
theorem fx_exl : exl 1000 fxT [] = some [97, 97, 97, 97] := by decide
theorem fx_len : (wrB fxLn fxT).length = 45 := by decide +kernel
theorem fx_wr {b : List Bool} (h : WrV fxT b) : b = wrB fxLn fxT := by
  obtain ⟨L, hL, rfl⟩ := h.1 fx_ok
  rw [lensR_det hL fx_lens]
theorem fx_rd4 : rdO (wrB fxLn fxT) 4 = some (fxT, 45) := by
  have := rd_wr fx_lens fx_ok fx_exl []
  rw [List.append_nil, fx_len] at this
  exact this
theorem fx_rd3 : rdO (wrB fxLn fxT) 3 = none := by
  obtain ⟨h1, h2, h3⟩ := times_facts fx_lens fx_ok
  obtain ⟨a1, a2⟩ := h3 (97, 0, 0) (List.mem_cons_self ..)
  obtain ⟨b1, b2⟩ := h3 (0, 1, 3) (List.mem_cons_of_mem _ (List.mem_cons_self ..))
  have t1 := tok_at h2 (show mayT (97, 0, 0) = true by decide) a1 a2 (headB fxLn) (tokB fxLn (0, 1, 3) ++ [])
  have t2 := tok_at h2 (show mayT (0, 1, 3) = true by decide) b1 b2 (headB fxLn ++ tokB fxLn (97, 0, 0)) []
  have e : wrB fxLn fxT = headB fxLn ++ (tokB fxLn (97, 0, 0) ++ (tokB fxLn (0, 1, 3) ++ [])) := by
    rw [wrB_eq]; simp [fxT]
  unfold rdO
  rw [if_neg (by decide), e, lens_head h1 h2]
  simp only []
  show toksO fxLn _ 3 (3 + 1) 0 _ [] = none
  rw [toks_step (by decide) t1 (by decide)]
  rw [List.append_assoc] at t2
  exact toks_bad (by decide) t2 (Or.inr (Or.inr (by decide)))
theorem fx_sym1 : symT (0, 1, 3) = 256 := by decide
theorem fx_sym2 : symT (300, 0, 0) = -1 := by decide

theorem writeP_ok (v : Value) (l : List TokT) (w : World) (hv : ToksR w v l) (hok : wrOk l = true) :
    Calls Try.prog 16 #[v] w fun e w' => ∃ (a : Option Addr) (cap : Nat) (b : List Bool), e = .returned (.tuple #[.slice a b.length cap, .bool true]) ∧ Hid (WrV l b) ∧ Bits w' (.slice a b.length cap) b ∧ Below w.heap.size w w' :=
  (writeP_any v l w hv).mono fun e w' ⟨a, c, b, h1, h2⟩ => ⟨a, c, b, by rw [hok] at h1; exact h1, h2⟩

set_option maxRecDepth 100000 in
set_option maxHeartbeats 8000000 in
theorem fixed07_any (w : World) : Calls Try.prog 15 #[] w fun e w' => e = .returned (.bool true) ∧ Below w.heap.size w w' := by
  have hmk : ∀ w, (Instr.makeSlice 25 (.int .i64 9) (.int .i64 9)).run Try.prog w = .ok (.slice (some ⟨w.heap.size, 0, none⟩) 9 9) (w.alloc (.cells #[.bool false, .bool false, .bool false, .bool false, .bool false, .bool false, .bool false, .bool false, .bool false] 4)) := fun _ => by kernel_rfl
  have c1 := writeP_ok (.slice none 0 0) [] w (sl_nil fun _ => rfl) (by decide)
  go_enter Try.func15, Try.ntmps15
  go_wp2_with fail
  refine c1.mono ?_
  rintro e w1 ⟨a1, cap1, b1, rfl, hw1, hs1, hb1⟩
  obtain rfl := fx_nil hw1
  have HS1 := Lib.hid hs1
  have HB1 := Lib.hid hb1
  have ht1 := toks_new2 w1 30 (97, 0, 0) (0, 1, 3)
  have c2 := writeP_ok (.slice (some ⟨w1.heap.size, 0, none⟩) 2 2) fxT (w1.alloc (.cells #[.int .i64 97, .int .i64 0, .int .i64 0, .int .i64 0, .int .i64 1, .int .i64 3] 30)) ht1 fx_ok
  have HT1 := Lib.hid ht1
  clear c1 hw1 hs1 hb1 ht1
  go_wp2_with fail
  refine c2.mono ?_
  rintro e w2 ⟨a2, cap2, b2, rfl, hw2, hs2, hb2⟩
  obtain rfl := fx_wr hw2
  have HS2 := Lib.hid hs2
  have HT2 := Lib.hid (sl_below HT1.out hb2)
  have HB12 : Hid (Below w1.heap.size w1 w2) := ((Below.refl w1.heap.size w1).alloc (Nat.le_refl _) _).trans (hb2.mono (by simp))
  rw [fx_len]
  rw [fx_len] at HS2
  have HS2b : Hid (Bits w2 (.slice a2 45 cap2) (wrB fxLn fxT)) := by unfold Hid; exact HS2.out
  have c3 := readP_any (.slice a2 45 cap2) (wrB fxLn fxT) 4 w2 HS2b.out (by rw [fx_len]; decide)
  clear c2 hw2 hs2 hb2
  go_wp2_with fail
  refine c3.mono ?_
  rintro e w3 ⟨a3, cap3, l3, q3, ok3, rfl, hs3, ⟨hr3, rfl⟩ | ⟨hr3, _⟩, hb3⟩
  rotate_left
  · rw [fx_rd4] at hr3; cases hr3
  rw [fx_rd4] at hr3
  injection hr3 with hr3
  injection hr3 with h1 h2
  subst h1 h2
  have HT3 := Lib.hid hs3
  have HT3a := Lib.hid (sl_below HT2.out hb3)
  have HB13 : Hid (Below w1.heap.size w1 w3) := HB12.out.trans (hb3.mono HB12.out.size)
  have c4 := readP_any (.slice a2 45 cap2) (wrB fxLn fxT) 3 w3 (sl_below HS2b.out hb3) (by rw [fx_len]; decide)
  clear c3 hb3 hs3
  go_wp2_with fail
  refine c4.mono ?_
  rintro e w4 ⟨a4, cap4, l4, q4, ok4, rfl, hs4, ⟨hr4, _⟩ | ⟨hr4, rfl, rfl, rfl⟩, hb4⟩
  · rw [fx_rd3] at hr4; cases hr4
  have HT4 := Lib.hid (sl_below HT3.out hb4)
  have HT4a := Lib.hid (sl_below HT3a.out hb4)
  have HB14 : Hid (Below w1.heap.size w1 w4) := HB13.out.trans (hb4.mono HB13.out.size)
  clear c4 hb4 hs4 hr4
  rw [show ([] : List TokT).length = 0 from rfl, show fxT.length = 2 from rfl]
  rw [show fxT.length = 2 from rfl] at HT4
  have hB5 := Lib.hid ((Below.refl w4.heap.size w4).alloc (Nat.le_refl _) (.cells #[.bool false, .bool false, .bool false, .bool false, .bool false, .bool false, .bool false, .bool false, .bool false] 4))
  have c5 := same_bits (.slice a1 9 cap1) (.slice (some ⟨w4.heap.size, 0, none⟩) 9 9) (List.replicate 9 false) (List.replicate 9 false) (w4.alloc (.cells #[.bool false, .bool false, .bool false, .bool false, .bool false, .bool false, .bool false, .bool false, .bool false] 4)) (sl_below (sl_below HS1.out HB14.out) hB5.out) (sl_alloc w4 4 (List.replicate 9 false) 9 (by decide)) (by decide) (by decide)
  rw [show (List.replicate 9 false == List.replicate 9 false) = true by decide] at c5
  go_wp2_with fail
  refine c5.mono ?_
  rintro e w5 ⟨rfl, hb5⟩
  have HT5 := Lib.hid (sl_below (sl_below HT4.out hB5.out) hb5)
  have HT5a := Lib.hid (sl_below (sl_below HT4a.out hB5.out) hb5)
  have HB15 : Hid (Below w1.heap.size w1 w5) := (HB14.out.trans (hB5.out.mono HB14.out.size)).trans (hb5.mono (by have := HB14.out.size; simp; omega))
  have c6 := same_toks (.slice (some ⟨w1.heap.size, 0, none⟩) 2 2) (.slice a3 2 cap3) fxT w5 HT5a.out HT5.out (by decide) (by decide)
  clear c5 hb5
  go_wp2_with fail
  refine c6.mono ?_
  rintro e w6 ⟨rfl, hb6⟩
  have HT6 := Lib.hid (sl_below HT5a.out hb6)
  have HB16 : Hid (Below w1.heap.size w1 w6) := HB15.out.trans (hb6.mono HB15.out.size)
  obtain ⟨b, off, cap, hv', hlc, hbl, hcell⟩ := toks_cells HT6.out (by decide)
  injection hv' with q1 q2 q3
  injection q1 with q1
  injection q1 with q1 q4 _
  subst q1 q4
  obtain ⟨e0, e1, e2⟩ := hcell 1 (by decide)
  have e1 : w6.cell? ⟨w1.heap.size, 4, none⟩ = some (.int .i64 1) := e1
  have e2 : w6.cell? ⟨w1.heap.size, 5, none⟩ = some (.int .i64 3) := e2
  have e0 : w6.cell? ⟨w1.heap.size, 3, none⟩ = some (.int .i64 0) := e0
  have c7 := symbol_any 0 1 3 w6
  rw [fx_sym1] at c7
  clear c6 hb6 hcell
  go_wp2_with fail
  refine c7.mono ?_
  rintro e w7 ⟨rfl, hb7⟩
  have HB17 : Hid (Below w1.heap.size w1 w7) := HB16.out.trans (hb7.mono HB16.out.size)
  have c8 := symbol_any 300 0 0 w7
  rw [fx_sym2] at c8
  clear c7 hb7 e0 e1 e2
  go_wp2_with fail
  refine c8.mono ?_
  rintro e w8 ⟨rfl, hb8⟩
  have HB18 : Hid (Below w1.heap.size w1 w8) := HB17.out.trans (hb8.mono HB17.out.size)
  clear c8 hb8
  go_wp2_with fail
  go_ret
  exact ⟨rfl, HB1.out.trans (HB18.out.mono HB1.out.size)⟩
end Go.Proofs.Ytolappilfjhfaaa
namespace Go.Proofs.Ytolappilfjhfaaa
open Go.RowKit

theorem beq_toks_no {l m : List TokT} (h : l ≠ m) : (l == m) = false := by simpa using h

set_option maxRecDepth 100000 in
set_option maxHeartbeats 8000000 in
theorem sameT_any (u v : Value) (l m : List TokT) (w : World) (hu : ToksR w u l) (hv : ToksR w v m) (hl : l.length ≤ 140737488355328) (hm : m.length ≤ 140737488355328) :
    Calls Try.prog 23 #[u, v] w fun e w' => e = .returned (.bool (l == m)) ∧ Below w.heap.size w w' := by
  have HU := Lib.hid hu
  have HV := Lib.hid hv
  obtain ⟨a1, c1, rfl, _⟩ := hu
  obtain ⟨a2, c2, rfl, _⟩ := hv
  by_cases hlen : l.length = m.length
  · rw [← hlen]
    go_enter Try.func23, Try.ntmps23
    have Hlen := Lib.hid hlen
    clear hlen
    go_wp2_with fail
    go_loopw [5] (fun ui wr => ∃ k : Nat, ui = .int .i64 k ∧ k ≤ l.length ∧ Hid (l.take k = m.take k) ∧ ∃ n, wr = w.drewN n) (fun ui _ => l.length - (intOf ui).toNat)
    case atStart => exact ⟨0, rfl, Nat.zero_le _, rfl, 0, rfl⟩
    case round =>
      obtain ⟨k, rfl, hk, Hpre, n, hn⟩ := hrel
      by_cases hkl : k < l.length
      · obtain ⟨b1, o1, d1, hve1, _, hb1, hc1⟩ := toks_cells HU.out (by omega)
        have hkm : k < m.length := by rw [← Hlen.out]; exact hkl
        obtain ⟨b2, o2, d2, hve2, _, hb2, hc2⟩ := toks_cells HV.out (by omega)
        injection hve1 with q1 q2 q3
        subst q1 q3
        injection hve2 with r1 r2 r3
        subst r1 r3
        obtain ⟨e0, e1, e2⟩ := hc1 k hkl
        obtain ⟨f0, f1, f2⟩ := hc2 k hkm
        have E0 : wr.cell? ⟨b1, o1 + k * 3, none⟩ = some (.int .i64 l[k].1) := by rw [hn]; exact e0
        have E1 : wr.cell? ⟨b1, o1 + k * 3 + 1, none⟩ = some (.int .i64 l[k].2.1) := by rw [hn]; exact e1
        have E2 : wr.cell? ⟨b1, o1 + k * 3 + 2, none⟩ = some (.int .i64 l[k].2.2) := by rw [hn]; exact e2
        have F0 : wr.cell? ⟨b2, o2 + k * 3, none⟩ = some (.int .i64 m[k].1) := by rw [hn]; exact f0
        have F1 : wr.cell? ⟨b2, o2 + k * 3 + 1, none⟩ = some (.int .i64 m[k].2.1) := by rw [hn]; exact f1
        have F2 : wr.cell? ⟨b2, o2 + k * 3 + 2, none⟩ = some (.int .i64 m[k].2.2) := by rw [hn]; exact f2
        have Hm := Lib.hid hn
        have HT1 := Lib.hid (List.take_succ_eq_append_getElem hkl)
        have HT2 := Lib.hid (List.take_succ_eq_append_getElem hkm)
        have g1 : (k : Int) < (l.length : Int) := by omega
        have Hne : Hid (l[k] ≠ m[k] → (l == m) = false) := fun h => beq_toks_no fun e => h (by subst e; rfl)
        clear e0 e1 e2 f0 f1 f2 hn hc1 hc2 q2 r2
        generalize l[k] = t at *
        generalize m[k] = s at *
        obtain ⟨tb, td, tn⟩ := t
        obtain ⟨sb, sd, sn⟩ := s
        dsimp only at E0 E1 E2 F0 F1 F2
        by_cases h : (tb, td, tn) = (sb, sd, sn)
        · injection h with h1 h
          injection h with h2 h3
          subst h1 h2 h3
          go_wp2_with fail
          go_quiet (fail)
          go_wp2_with fail
          exact ⟨⟨k + 1, by go_num, by omega, by unfold Hid; rw [HT1.out, HT2.out, Hpre.out], _, by rw [Hm.out]; simp only [World.drewN_drewN]; rfl⟩, by simp [intOf]; omega⟩
        · have HNo := Lib.hid (Hne.out h)
          have hc : tb ≠ sb ∨ (tb = sb ∧ td ≠ sd) ∨ (tb = sb ∧ td = sd ∧ tn ≠ sn) := by
            by_cases x1 : tb = sb
            · by_cases x2 : td = sd
              · by_cases x3 : tn = sn
                · exact absurd (by rw [x1, x2, x3]) h
                · exact Or.inr (Or.inr ⟨x1, x2, x3⟩)
              · exact Or.inr (Or.inl ⟨x1, x2⟩)
            · exact Or.inl x1
          clear h
          rcases hc with h | ⟨rfl, h⟩ | ⟨rfl, rfl, h⟩
          · have b0 : (tb == sb) = false := by simpa using h
            go_wp2_with fail
            go_quiet (fail)
            go_wp2_with fail
            go_ret
            exact ⟨by rw [HNo.out]; rfl, by rw [Hm.out]; simp only [World.drewN_drewN]; exact below_drewP (Below.refl _ _) _⟩
          · have b0 : (td == sd) = false := by simpa using h
            go_wp2_with fail
            go_quiet (fail)
            go_wp2_with fail
            go_ret
            exact ⟨by rw [HNo.out]; rfl, by rw [Hm.out]; simp only [World.drewN_drewN]; exact below_drewP (Below.refl _ _) _⟩
          · have b0 : (tn == sn) = false := by simpa using h
            go_wp2_with fail
            go_quiet (fail)
            go_wp2_with fail
            go_ret
            exact ⟨by rw [HNo.out]; rfl, by rw [Hm.out]; simp only [World.drewN_drewN]; exact below_drewP (Below.refl _ _) _⟩
      · obtain rfl : k = l.length := by omega
        have HY : Hid ((l == m) = true) := by
          have := Hpre.out
          rw [List.take_length, Hlen.out, List.take_length] at this
          unfold Hid; rw [this]; simp
        have Hm := Lib.hid hn
        clear hn
        go_wp2_with fail
        go_ret
        exact ⟨by rw [HY.out]; rfl, by rw [Hm.out]; exact below_drewP (Below.refl _ _) _⟩
  · have HNo := Lib.hid (beq_toks_no (l := l) (m := m) fun e => hlen (by rw [e]))
    have b0 : ((l.length : Int) == (m.length : Int)) = false := by simp; omega
    go_enter Try.func23, Try.ntmps23
    go_wp2_with fail
    go_ret
    exact ⟨by rw [HNo.out]; rfl, Below.refl _ _⟩
end Go.Proofs.Ytolappilfjhfaaa
namespace Go.Proofs.Ytolappilfjhfaaa
open Go.RowKit

theorem wrV_det {l : List TokT} {b c : List Bool} (hb : WrV l b) (hc : WrV l c) : b = c := by
  cases h : wrOk l with
  | true =>
    obtain ⟨L, hL, rfl⟩ := hb.1 h
    obtain ⟨M, hM, rfl⟩ := hc.1 h
    rw [lensR_det hL hM]
  | false => rw [hb.2 h, hc.2 h]
theorem wrV_le {l : List TokT} {b : List Bool} (hb : WrV l b) : b.length ≤ 30000 := by
  cases h : wrOk l with
  | true =>
    obtain ⟨L, hL, rfl⟩ := hb.1 h
    obtain ⟨_, h2, _⟩ := times_facts hL h
    have h3 := toksB_le h2 l
    have h4 := headB_length L
    have h5 := manyT_le L 272
    have h6 := (wrOk_iff.1 h).1
    rw [wrB_eq, List.length_append]; omega
  | false => rw [hb.2 h]; simp
theorem small_any (v : Value) (l : List TokT) (w : World) (hv : ToksR w v l) (hl : l.length ≤ 140737488355328) :
    Calls Try.prog 14 #[v] w fun e w' => e = .returned (.bool (decide (l.length ≤ 150))) ∧ w = w' := by
  obtain ⟨a0, c0, rfl, _⟩ := id hv
  by_cases h : l.length ≤ 150
  · have d : decide ((l.length : Int) ≤ 150) = true := by simp; omega
    have HD : Hid (decide (l.length ≤ 150) = true) := by unfold Hid; simp; omega
    go_enter Try.func14, Try.ntmps14
    go_wp2_with fail
    go_ret
    exact ⟨by rw [HD.out]; rfl, rfl⟩
  · have d : decide ((l.length : Int) ≤ 150) = false := by simp; omega
    have HD : Hid (decide (l.length ≤ 150) = false) := by unfold Hid; simp; omega
    go_enter Try.func14, Try.ntmps14
    go_wp2_with fail
    go_ret
    exact ⟨by rw [HD.out]; rfl, rfl⟩

set_option maxRecDepth 100000 in
set_option maxHeartbeats 8000000 in
theorem pwrites_walk (v : Value) (l : List TokT) (w : World) (hv : ToksR w v l) (hl : l.length ≤ 140737488355328) :
    Calls Try.prog 3 #[v] w fun e w' => e = .returned (.bool true) ∧ Below w.heap.size w w' := by
  have HV := Lib.hid hv
  have hsm := small_any v l w hv hl
  obtain ⟨a0, c0, rfl, _⟩ := hv
  by_cases hbad : l.length ≤ 150
  · rw [show decide (l.length ≤ 150) = true by simp; omega] at hsm
    have hc1 := writeP_any (.slice a0 l.length c0) l w HV.out
    go_enter Try.func3, Try.ntmps3
    go_wp2_with fail
    refine hsm.mono ?_
    rintro e w1 ⟨rfl, rfl⟩
    clear hsm
    go_wp2_with fail
    refine hc1.mono ?_
    rintro e w1 ⟨a1, c1, b1, rfl, hw1, hs1, hb1⟩
    have hc2 := writeQ_any (.slice a0 l.length c0) l w1 (sl_below HV.out hb1)
    clear hc1
    go_wp2_with fail
    refine hc2.mono ?_
    rintro e w2 ⟨a2, c2, b2, rfl, hw2, hs2, hb2⟩
    obtain rfl := wrV_det hw2 hw1
    have hle := wrV_le hw1
    have HS1 := Lib.hid (sl_below hs1 hb2)
    have HS2 := Lib.hid hs2
    have HB2 := Lib.hid (below_step' hb1 hb2)
    clear hc2 hw1 hw2 hs1 hs2 hb1 hb2
    generalize wrOk l = ok at *
    go_wp2_with fail
    go_loopw [7] (fun ui wr => ∃ k : Nat, ui = .int .i64 k ∧ k ≤ l.length ∧ Below w2.heap.size w2 wr) (fun ui _ => l.length - (intOf ui).toNat)
    case atStart => exact ⟨0, rfl, Nat.zero_le _, Below.refl _ _⟩
    case round =>
      obtain ⟨wo, hwo⟩ : ∃ wo : World, wo = wr := ⟨_, rfl⟩
      subst hwo
      obtain ⟨k, rfl, hk, hb⟩ := hrel
      have HB := Lib.hid hb
      have HBw := Lib.hid (HB2.out.trans (hb.mono HB2.out.size))
      have hsz := hb.size
      clear hb
      by_cases hlt : k < l.length
      · obtain ⟨bT, oT, cT, hveq, _, hbT, hcell⟩ := toks_cells HV.out (by omega)
        injection hveq with q1 q2 q3
        subst q1 q3
        obtain ⟨e0, e1, e2⟩ := hcell k hlt
        rw [← HBw.out.cell (p := ⟨bT, oT + k * 3, none⟩) hbT] at e0
        rw [← HBw.out.cell (p := ⟨bT, oT + k * 3 + 1, none⟩) hbT] at e1
        rw [← HBw.out.cell (p := ⟨bT, oT + k * 3 + 2, none⟩) hbT] at e2
        have hbTo : bT < wo.heap.size := by have := HBw.out.size; omega
        have g1 : (k : Int) < (l.length : Int) := by omega
        clear hcell q2
        generalize l[k] = t at *
        obtain ⟨tb, td, tn⟩ := t
        dsimp only at e0 e1 e2
        go_wp2_with fail
        go_region_held3 (Held wo) (first | exact held_start | exact held_call (by assumption) (by assumption)) (first | (go_at_call 18; refine (symbol_any tb td tn _).mono ?_; rintro e w' ⟨rfl, hb⟩) | (go_at_call 19; refine (symbolR_any tb td tn _).mono ?_; rintro e w' ⟨rfl, hb⟩))
        all_goals
          have hb9 := And.right (by assumption : Held wo _)
          have HB9 := Lib.hid (HB.out.trans (hb9.mono hsz))
          clear hb9
          go_wp2_with fail
          exact ⟨⟨k + 1, by go_num, by omega, HB9.out⟩, by simp [intOf]; omega⟩
      · obtain rfl : k = l.length := by omega
        have hf := fixed07_any wo
        clear hlt
        go_wp2_with fail
        refine hf.mono ?_
        rintro e w3 ⟨rfl, hb3⟩
        have hsame := same_bits (.slice a1 b2.length c1) (.slice a2 b2.length c2) b2 b2 w3 (sl_below (sl_below HS1.out HB.out) hb3) (sl_below (sl_below HS2.out HB.out) hb3) (by omega) (by omega)
        rw [show (b2 == b2) = true by simp] at hsame
        have HB3 := Lib.hid (below_step' HBw.out hb3)
        clear hf hb3
        go_wp2_with fail
        refine hsame.mono ?_
        rintro e w4 ⟨rfl, hb4⟩
        have HB4 := Lib.hid (below_step' HB3.out hb4)
        have hok : (ok == ok) = true := by simp
        clear hsame hb4
        go_wp2_with fail
        go_ret
        exact ⟨by first | rfl | simp, HB4.out⟩
  · rw [show decide (l.length ≤ 150) = false by simp; omega] at hsm
    go_enter Try.func3, Try.ntmps3
    go_wp2_with fail
    refine hsm.mono ?_
    rintro e w1 ⟨rfl, rfl⟩
    have hf := fixed07_any w
    clear hsm
    go_wp2_with fail
    refine hf.mono ?_
    rintro e w1 ⟨rfl, hb1⟩
    go_wp2_with fail
    go_ret
    exact ⟨rfl, hb1⟩
end Go.Proofs.Ytolappilfjhfaaa
namespace Go.Proofs.Ytolappilfjhfaaa
open Go.RowKit

theorem rdV_det {bs : List Bool} {many : Int} {l m : List TokT} {p q : Int} {a b : Bool} (h : (rdO bs many = some (l, p) ∧ a = true) ∨ (rdO bs many = none ∧ l = [] ∧ p = 0 ∧ a = false)) (k : (rdO bs many = some (m, q) ∧ b = true) ∨ (rdO bs many = none ∧ m = [] ∧ q = 0 ∧ b = false)) : l = m ∧ p = q ∧ a = b := by
  rcases h with ⟨h1, h2⟩ | ⟨h1, h2, h3, h4⟩
  · rcases k with ⟨k1, k2⟩ | ⟨k1, _⟩
    · rw [h1] at k1; injection k1 with k1; injection k1 with k1 k3; exact ⟨k1, k3, by rw [h2, k2]⟩
    · rw [h1] at k1; cases k1
  · rcases k with ⟨k1, _⟩ | ⟨_, k2, k3, k4⟩
    · rw [h1] at k1; cases k1
    · exact ⟨by rw [h2, k2], by rw [h3, k3], by rw [h4, k4]⟩
theorem rd_len {bs : List Bool} {many : Int} {l : List TokT} {p : Int} {a : Bool} (h : (rdO bs many = some (l, p) ∧ a = true) ∨ (rdO bs many = none ∧ l = [] ∧ p = 0 ∧ a = false)) : l.length ≤ 1000 ∧ 0 ≤ p ∧ p ≤ bs.length := by
  rcases h with ⟨h1, _⟩ | ⟨_, rfl, rfl, _⟩
  · obtain ⟨⟨r, hx, hr⟩, h9, hq, _, hm, _⟩ := rd_facts h1
    have := (exl_le hx).1
    simp only [List.length_nil] at this
    exact ⟨by omega, by omega, hq⟩
  · simp

set_option maxRecDepth 100000 in
set_option maxHeartbeats 8000000 in
theorem preads_walk (v : Value) (bs : List Bool) (many : Int) (w : World) (hv : Bits w v bs) (hl : bs.length ≤ 140737488355328) :
    Calls Try.prog 4 #[v, .int .i64 many] w fun e w' => e = .returned (.bool true) ∧ Below w.heap.size w w' := by
  have HV := Lib.hid hv
  obtain ⟨a0, c0, rfl, _⟩ := hv
  by_cases h1 : 3000 < bs.length
  · have d1 : decide ((3000 : Int) < (bs.length : Int)) = true := by simp; omega
    have hf := fixed07_any w
    go_enter Try.func4, Try.ntmps4
    go_wp2_with fail
    refine hf.mono ?_
    rintro e w1 ⟨rfl, hb1⟩
    go_wp2_with fail
    go_ret
    exact ⟨rfl, hb1⟩
  have d1 : decide ((3000 : Int) < (bs.length : Int)) = false := by simp; omega
  by_cases h2 : 150 < many
  · have d2 : decide (150 < many) = true := by simpa using h2
    have hf := fixed07_any w
    go_enter Try.func4, Try.ntmps4
    go_wp2_with fail
    refine hf.mono ?_
    rintro e w1 ⟨rfl, hb1⟩
    go_wp2_with fail
    go_ret
    exact ⟨rfl, hb1⟩
  have d2 : decide (150 < many) = false := by simpa using h2
  have hc1 := readP_any (.slice a0 bs.length c0) bs many w HV.out hl
  go_enter Try.func4, Try.ntmps4
  go_wp2_with fail
  refine hc1.mono ?_
  rintro e w1 ⟨a1, c1, l1, p1, ok1, rfl, hs1, hr1, hb1⟩
  have hc2 := readQ_any (.slice a0 bs.length c0) bs many w1 (sl_below HV.out hb1) hl
  have Hr1 := Lib.hid hr1
  have HS1 := Lib.hid hs1
  have HB1 := Lib.hid hb1
  clear hc1 hr1 hs1 hb1
  go_wp2_with fail
  refine hc2.mono ?_
  rintro e w2 ⟨a2, c2, l2, p2, ok2, rfl, hs2, hr2, hb2⟩
  obtain ⟨rfl, rfl, rfl⟩ := rdV_det hr2 Hr1.out
  have hle := rd_len hr2
  have HS3 := Lib.hid (sl_below HS1.out hb2)
  have HS2 := Lib.hid hs2
  have HB2 := Lib.hid (below_step' HB1.out hb2)
  have hf := fixed07_any w2
  clear hc2 hr2 hs2 hb2
  go_wp2_with fail
  refine hf.mono ?_
  rintro e w3 ⟨rfl, hb3⟩
  have hsame := sameT_any (.slice a1 l2.length c1) (.slice a2 l2.length c2) l2 l2 w3 (sl_below HS3.out hb3) (sl_below HS2.out hb3) (by omega) (by omega)
  rw [show (l2 == l2) = true by simp] at hsame
  have HB3 := Lib.hid (below_step' HB2.out hb3)
  have e1 : (p2 == p2) = true := by simp
  have e2 : (ok2 == ok2) = true := by simp
  clear hf hb3
  go_wp2_with fail
  refine hsame.mono ?_
  rintro e w4 ⟨rfl, hb4⟩
  have HB4 := Lib.hid (below_step' HB3.out hb4)
  clear hsame hb4
  go_wp2_with fail
  go_ret
  exact ⟨by first | rfl | simp, HB4.out⟩
end Go.Proofs.Ytolappilfjhfaaa
namespace Go.Proofs.Ytolappilfjhfaaa
open Go.RowKit

theorem exl_may {most : Int} : ∀ {ts : List TokT} {out r : List Int}, exl most ts out = some r → ∀ t ∈ ts, mayT t = true
  | [], _, _, _, t, ht => by cases ht
  | t :: ts, out, r, h, u, hu => by
    rw [exl] at h
    split at h
    · rename_i hc
      rcases List.mem_cons.1 hu with rfl | hu
      · exact hc.1
      · exact exl_may h u hu
    · cases h
theorem told_size {r : List Int} : (toldS (some r)).size = r.length := str_size r
theorem told_some {r : List Int} : toldB (some r) = true := rfl
theorem bits_take {w : World} {a : Option Addr} {n c : Nat} {l : List Bool} (h : Bits w (.slice a n c) l) (k : Nat) (hk : k ≤ l.length) : Bits w (.slice a k c) (l.take k) := by
  obtain ⟨a', cap, hv, hl, hn, hc⟩ := h
  injection hv with h1 h2 h3
  subst h1 h2 h3
  refine ⟨a, c, by rw [List.length_take, Nat.min_eq_left hk], by rw [List.length_take]; omega, hn, ?_⟩
  rcases hc with rfl | ⟨b, off, ha, hb, hcell⟩
  · left; simp
  · right
    refine ⟨b, off, ha, hb, fun i hi j hj => ?_⟩
    rw [List.length_take] at hi
    rw [hcell i (by omega) j hj, List.getElem_take]
theorem ownB_app {w : World} {base : Nat} {a : Option Addr} {c : Nat} {x y : List Bool} (h : w.ownsRow base 4 1 (.slice a (x.length + y.length) c) (x.length + y.length) (x.map .bool ++ y.map .bool)) : OwnB w base (.slice a (x.length + y.length) c) (x ++ y) := by
  unfold OwnB
  rw [List.length_append, List.map_append]; exact h

set_option maxRecDepth 100000 in
set_option maxHeartbeats 8000000 in
theorem pback_walk (v u : Value) (l : List TokT) (more : List Bool) (w : World) (hv : ToksR w v l) (hu : Bits w u more) (hl : l.length ≤ 140737488355328) (hlm : more.length ≤ 140737488355328) :
    Calls Try.prog 5 #[v, u] w fun e w' => e = .returned (.bool true) ∧ Below w.heap.size w w' := by
  obtain ⟨j0, hj, hj0, hj1, hj2⟩ := info_parts info_bool
  have HV := Lib.hid hv
  have HU := Lib.hid hu
  obtain ⟨a0, c0, rfl, _⟩ := hv
  obtain ⟨aU, cU, rfl, _⟩ := hu
  have hc1 := expandS_any (.slice a0 l.length c0) l 1000 w HV.out hl (by decide)
  go_enter Try.func5, Try.ntmps5
  go_wp2_with fail
  refine hc1.mono ?_
  rintro e w1 ⟨rfl, hb1⟩
  have hc2 := writeP_any (.slice a0 l.length c0) l w1 (sl_below HV.out hb1)
  have HB1 := Lib.hid hb1
  clear hc1 hb1
  go_wp2_with fail
  refine hc2.mono ?_
  rintro e w2 ⟨a2, c2, b2, rfl, hw2, hs2, hb2⟩
  have HW2 := Lib.hid hw2
  have HS2 := Lib.hid hs2
  have HB2 := Lib.hid (below_step' HB1.out hb2)
  have hle := wrV_le hw2
  have hf := fixed07_any w2
  clear hc2 hw2 hs2 hb2
  go_wp2_with fail
  refine hf.mono ?_
  rintro e w3 ⟨rfl, hb3⟩
  have HS3 := Lib.hid (sl_below HS2.out hb3)
  have HB3 := Lib.hid (below_step' HB2.out hb3)
  have hf := fixed07_any w3
  clear hb3
  cases hx : exl 1000 l [] with
  | none =>
    have ht : toldB none = false := rfl
    rw [ht]
    clear hx ht
    go_wp2_with fail
    refine hf.mono ?_
    rintro e w4 ⟨rfl, hb4⟩
    go_wp2_with fail
    go_ret
    exact ⟨rfl, below_step' HB3.out hb4⟩
  | some r =>
    rw [told_some]
    have hts : (toldS (some r)).size = r.length := told_size
    have Hx := Lib.hid hx
    generalize toldS (some r) = ts at *
    have Hts := Lib.hid hts
    clear hx hts
    by_cases h300 : 300 < l.length
    · have d1 : decide ((300 : Int) < (l.length : Int)) = true := by simp; omega
      go_wp2_with fail
      refine hf.mono ?_
      rintro e w4 ⟨rfl, hb4⟩
      go_wp2_with fail
      go_ret
      exact ⟨rfl, below_step' HB3.out hb4⟩
    have d1 : decide ((300 : Int) < (l.length : Int)) = false := by simp; omega
    by_cases h1000 : 1000 < more.length
    · have d2 : decide ((1000 : Int) < (more.length : Int)) = true := by simp; omega
      go_wp2_with fail
      refine hf.mono ?_
      rintro e w4 ⟨rfl, hb4⟩
      go_wp2_with fail
      go_ret
      exact ⟨rfl, below_step' HB3.out hb4⟩
    have d2 : decide ((1000 : Int) < (more.length : Int)) = false := by simp; omega
    have hok : wrOk l = true := wrOk_iff.2 ⟨by omega, exl_may Hx.out⟩
    have Hok := Lib.hid hok
    have hrd : Hid (rdO (b2 ++ more) r.length = some (l, (b2.length : Int))) := by
      obtain ⟨L, hL, rfl⟩ := HW2.out.1 hok
      exact rd_wr hL hok Hx.out more
    rw [hok]
    have HO4 : Hid ((w3.alloc (.cells #[] 4)).ownsRow w3.heap.size 4 1 (.slice (some ⟨w3.heap.size, 0, none⟩) 0 0) 0 (([] : List Bool).map .bool)) := owns_empty w3 4 1
    have HB4 : Hid (Below w3.heap.size w3 (w3.alloc (.cells #[] 4))) := (Below.refl _ _).alloc (Nat.le_refl _) _
    have HS4 := Lib.hid (sl_below HS3.out HB4.out)
    have HUw3 := Lib.hid (sl_below HU.out HB3.out)
    have h30 : b2.length ≤ 30000 := hle
    obtain ⟨w4, hw4⟩ : ∃ w4, w3.alloc (.cells #[] 4) = w4 := ⟨_, rfl⟩
    rw [hw4] at HO4 HB4 HS4
    clear hok hf
    go_wp2_with (first
      | (at_builtin; refine wpList_append_sl (f := Value.bool) rfl (.tmp 40) (.tmp 41) 25 rfl w3.heap.size 4 j0 (.bool false) 1 Try.underlying25 hj hj0 hj1 hj2 rfl _ _ _ rfl HO4.out _ rfl HS4.out (fun _ => rfl) (by simp [maxLen]; omega) (by omega) HB4.out.size ?_
         intro v5 w5 hown5 hg5 _
         rw [List.map_nil, List.nil_append, Nat.zero_add] at hown5
         obtain ⟨a5, c5, rfl, _⟩ := owns_shape hown5
         have HO5 := Lib.hid hown5
         have HB5 := Lib.hid (HB4.out.grown hg5 HB4.out.size (fun j hj => owns_block HO4.out j hj))
         have HU5 := Lib.hid (sl_below HUw3.out HB5.out)
         clear hown5 hg5)
      | (at_builtin; refine wpList_append_sl (f := Value.bool) rfl (.tmp 42) (.tmp 43) 25 rfl w3.heap.size 4 j0 (.bool false) 1 Try.underlying25 hj hj0 hj1 hj2 rfl _ _ _ rfl HO5.out _ rfl HU5.out (fun _ => rfl) (by simp [maxLen]; omega) (by omega) HB5.out.size ?_
         intro v6 w6 hown6 hg6 _
         obtain ⟨a6, c6, rfl, _⟩ := owns_shape hown6
         have HS6 := Lib.hid (sl_of_owns (ownB_app hown6)).1
         have HB6 := Lib.hid (HB5.out.grown hg6 HB5.out.size (fun j hj => owns_block HO5.out j hj))
         clear hown6 hg6)
      | fail)
    have hrd2 := readP_any (.slice a6 (b2.length + more.length) c6) (b2 ++ more) (ts.size : Int) w6 HS6.out (by rw [List.length_append]; omega)
    have HBw6 := Lib.hid (HB3.out.trans (HB6.out.mono HB3.out.size))
    clear hw4
    refine hrd2.mono ?_
    rintro e w7 ⟨a7, c7, l7, q7, ok7, rfl, hs7, ⟨hr7, rfl⟩ | ⟨hr7, _⟩, hb7⟩
    rotate_left
    · rw [Hts.out, hrd.out] at hr7; cases hr7
    rw [Hts.out, hrd.out] at hr7
    injection hr7 with hr7
    injection hr7 with h1 h2
    subst h1 h2
    have HBw7 := Lib.hid (below_step' HBw6.out hb7)
    have hsame := sameT_any (.slice a0 l.length c0) (.slice a7 l.length c7) l l w7 (sl_below HV.out HBw7.out) hs7 (by omega) (by omega)
    rw [show (l == l) = true by simp] at hsame
    clear hrd2 hs7 hb7
    go_wp2_with fail
    refine hsame.mono ?_
    rintro e w8 ⟨rfl, hb8⟩
    have HBw8 := Lib.hid (below_step' HBw7.out hb8)
    have e1 : ((b2.length : Int) == (b2.length : Int)) = true := by simp
    clear hsame hb8
    go_wp2_with fail
    go_ret
    exact ⟨by first | rfl | simp, HBw8.out⟩
end Go.Proofs.Ytolappilfjhfaaa
namespace Go.Proofs.Ytolappilfjhfaaa
open Go.RowKit

set_option maxRecDepth 100000 in
set_option maxHeartbeats 8000000 in
theorem ptells_walk (v u : Value) (bs : List Bool) (many : Int) (more : List Bool) (w : World) (hv : Bits w v bs) (hu : Bits w u more) (hl : bs.length ≤ 140737488355328) (hlm : more.length ≤ 140737488355328) :
    Calls Try.prog 6 #[v, .int .i64 many, u] w fun e w' => e = .returned (.bool true) ∧ Below w.heap.size w w' := by
  obtain ⟨j0, hj, hj0, hj1, hj2⟩ := info_parts info_bool
  have HV := Lib.hid hv
  have HU := Lib.hid hu
  obtain ⟨a0, c0, rfl, hlc, _⟩ := hv
  obtain ⟨aU, cU, rfl, _⟩ := hu
  have hc1 := readP_any (.slice a0 bs.length c0) bs many w HV.out hl
  go_enter Try.func6, Try.ntmps6
  go_wp2_with fail
  refine hc1.mono ?_
  rintro e w1 ⟨a1, c1, l1, p1, ok1, rfl, hs1, ⟨hr1, rfl⟩ | ⟨hr1, rfl, rfl, rfl⟩, hb1⟩
  rotate_left
  · have hf := fixed07_any w1
    have HB1 := Lib.hid hb1
    have hn : (([] : List TokT).length : Int) = 0 := rfl
    rw [show ([] : List TokT).length = 0 from rfl]
    clear hc1 hs1 hr1 hb1 hn
    go_wp2_with fail
    refine hf.mono ?_
    rintro e w2 ⟨rfl, hb2⟩
    have HB2 := Lib.hid (below_step' HB1.out hb2)
    have hf := fixed07_any w2
    clear hb2
    go_wp2_with fail
    refine hf.mono ?_
    rintro e w3 ⟨rfl, hb3⟩
    go_wp2_with fail
    go_ret
    exact ⟨by first | rfl | simp, below_step' HB2.out hb3⟩
  have hf := fixed07_any w1
  have HR1 := Lib.hid hr1
  obtain ⟨⟨r, hx, hrm⟩, hp9, hpb, hm0, hm1, _⟩ := rd_facts hr1
  have Hx := Lib.hid hx
  have Hrm := Lib.hid hrm
  have hll : l1.length ≤ 1000 := by have := (exl_le hx).1; simp only [List.length_nil] at this; omega
  have HB1 := Lib.hid hb1
  have HS1 := Lib.hid hs1
  clear hc1 hr1 hs1 hb1 hx hrm
  go_wp2_with fail
  refine hf.mono ?_
  rintro e w2 ⟨rfl, hb2⟩
  have HB2 := Lib.hid (below_step' HB1.out hb2)
  have HS2 := Lib.hid (sl_below HS1.out hb2)
  have hf := fixed07_any w2
  clear hb2
  by_cases h5000 : 5000 < bs.length
  · have d1 : decide ((5000 : Int) < (bs.length : Int)) = true := by simp; omega
    go_wp2_with fail
    refine hf.mono ?_
    rintro e w3 ⟨rfl, hb3⟩
    go_wp2_with fail
    go_ret
    exact ⟨by first | rfl | simp, below_step' HB2.out hb3⟩
  have d1 : decide ((5000 : Int) < (bs.length : Int)) = false := by simp; omega
  by_cases h1000 : 1000 < more.length
  · have d2 : decide ((1000 : Int) < (more.length : Int)) = true := by simp; omega
    go_wp2_with fail
    refine hf.mono ?_
    rintro e w3 ⟨rfl, hb3⟩
    go_wp2_with fail
    go_ret
    exact ⟨by first | rfl | simp, below_step' HB2.out hb3⟩
  have d2 : decide ((1000 : Int) < (more.length : Int)) = false := by simp; omega
  have hc2 := expandS_any (.slice a1 l1.length c1) l1 many w2 HS2.out (by omega) (by omega)
  rw [Hx.out, told_some] at hc2
  have hts : (toldS (some r)).size = r.length := told_size
  generalize toldS (some r) = ts at *
  have htm : (ts.size : Int) = many := by rw [hts]; exact Hrm.out
  have Htm := Lib.hid htm
  clear hts hf htm
  go_wp2_with fail
  refine hc2.mono ?_
  rintro e w3 ⟨rfl, hb3⟩
  have HB3 := Lib.hid (below_step' HB2.out hb3)
  have HS3 := Lib.hid (sl_below HS2.out hb3)
  obtain ⟨P, rfl⟩ := Int.eq_ofNat_of_zero_le (a := p1) (by omega)
  have e1 : ((ts.size : Int) == many) = true := by rw [Htm.out]; simp
  have e2 : ((ts.size : Int) != many) = false := by rw [Htm.out]; simp
  have d3 : decide ((P : Int) < 9) = false := by simp; omega
  have d4 : decide (bs.length < P) = false := by simp; omega
  have d4' : decide ((bs.length : Int) < (P : Int)) = false := by simp; omega
  have hP : P ≤ bs.length := by omega
  have hPc : P ≤ c0 := by omega
  have HO4 : Hid ((w3.alloc (.cells #[] 4)).ownsRow w3.heap.size 4 1 (.slice (some ⟨w3.heap.size, 0, none⟩) 0 0) 0 (([] : List Bool).map .bool)) := owns_empty w3 4 1
  have HB4 : Hid (Below w3.heap.size w3 (w3.alloc (.cells #[] 4))) := (Below.refl _ _).alloc (Nat.le_refl _) _
  have HBt := Lib.hid (bits_take HV.out P hP)
  have hlt : (bs.take P).length = P := by rw [List.length_take]; omega
  have HS4 := Lib.hid (sl_below (sl_below HBt.out HB3.out) HB4.out)
  have HUw3 := Lib.hid (sl_below HU.out HB3.out)
  have HMore : Hid (rdO (bs.take P ++ more) many = some (l1, (P : Int))) := by
    have := rd_more HR1.out more
    rw [Int.toNat_natCast] at this
    exact this
  obtain ⟨w4, hw4⟩ : ∃ w4, w3.alloc (.cells #[] 4) = w4 := ⟨_, rfl⟩
  rw [hw4] at HO4 HB4 HS4
  generalize hbt : bs.take P = bt at *
  have hlt' : bt.length ≤ P := by omega
  have Hlt := Lib.hid hlt
  clear hc2 hb3 hlt hbt
  go_wp2_with (first
    | (at_builtin; refine wpList_append_sl (f := Value.bool) rfl (.tmp 76) (.tmp 79) 25 rfl w3.heap.size 4 j0 (.bool false) 1 Try.underlying25 hj hj0 hj1 hj2 rfl _ _ _ rfl HO4.out _ rfl HS4.out (fun _ => rfl) (by simp [maxLen]; omega) (by omega) HB4.out.size ?_
       intro v5 w5 hown5 hg5 _
       rw [List.map_nil, List.nil_append, Nat.zero_add] at hown5
       obtain ⟨a5, c5, rfl, _⟩ := owns_shape hown5
       have HO5 := Lib.hid hown5
       have HB5 := Lib.hid (HB4.out.grown hg5 HB4.out.size (fun j hj => owns_block HO4.out j hj))
       have HU5 := Lib.hid (sl_below HUw3.out HB5.out)
       clear hown5 hg5)
    | (at_builtin; refine wpList_append_sl (f := Value.bool) rfl (.tmp 80) (.tmp 81) 25 rfl w3.heap.size 4 j0 (.bool false) 1 Try.underlying25 hj hj0 hj1 hj2 rfl _ _ _ rfl HO5.out _ rfl HU5.out (fun _ => rfl) (by simp [maxLen]; omega) (by omega) HB5.out.size ?_
       intro v6 w6 hown6 hg6 _
       obtain ⟨a6, c6, rfl, _⟩ := owns_shape hown6
       have HS6 := Lib.hid (sl_of_owns (ownB_app hown6)).1
       have HB6 := Lib.hid (HB5.out.grown hg6 HB5.out.size (fun j hj => owns_block HO5.out j hj))
       clear hown6 hg6)
    | fail)
  have hrd2 := readP_any (.slice a6 (bt.length + more.length) c6) (bt ++ more) many w6 HS6.out (by rw [List.length_append]; omega)
  have HBw6 := Lib.hid (HB3.out.trans (HB6.out.mono HB3.out.size))
  clear hw4
  refine hrd2.mono ?_
  rintro e w7 ⟨a7, c7, l7, q7, ok7, rfl, hs7, ⟨hr7, rfl⟩ | ⟨hr7, _⟩, hb7⟩
  rotate_left
  · rw [HMore.out] at hr7; cases hr7
  rw [HMore.out] at hr7
  injection hr7 with hr7
  injection hr7 with h1 h2
  subst h1 h2
  have HBw7 := Lib.hid (below_step' HBw6.out hb7)
  have hsame := sameT_any (.slice a1 l1.length c1) (.slice a7 l1.length c7) l1 l1 w7 (sl_below (sl_below HS3.out HB6.out) hb7) hs7 (by omega) (by omega)
  rw [show (l1 == l1) = true by simp] at hsame
  clear hrd2 hs7 hb7
  go_wp2_with fail
  refine hsame.mono ?_
  rintro e w8 ⟨rfl, hb8⟩
  have HBw8 := Lib.hid (below_step' HBw7.out hb8)
  have e3 : ((P : Int) == (P : Int)) = true := by simp
  clear hsame hb8
  go_wp2_with fail
  go_ret
  exact ⟨by first | rfl | simp, HBw8.out⟩
end Go.Proofs.Ytolappilfjhfaaa
namespace Go.Proofs.Ytolappilfjhfaaa
open Go.RowKit

set_option maxRecDepth 100000 in
set_option maxHeartbeats 8000000 in
theorem pcut_walk (v u : Value) (l m : List TokT) (p : Int) (w : World) (hv : ToksR w v l) (hu : ToksR w u m) (hl : l.length ≤ 140737488355328) (hlm : m.length ≤ 140737488355328) :
    Calls Try.prog 7 #[v, u, .int .i64 p] w fun e w' => e = .returned (.bool true) ∧ Below w.heap.size w w' := by
  have HV := Lib.hid hv
  have HU := Lib.hid hu
  obtain ⟨a0, c0, rfl, _⟩ := hv
  obtain ⟨aU, cU, rfl, _⟩ := hu
  have hc1 := expandS_any (.slice a0 l.length c0) l 1000 w HV.out hl (by decide)
  go_enter Try.func7, Try.ntmps7
  go_wp2_with fail
  refine hc1.mono ?_
  rintro e w1 ⟨rfl, hb1⟩
  have hc2 := expandS_any (.slice aU m.length cU) m 1000 w1 (sl_below HU.out hb1) hlm (by decide)
  have HB1 := Lib.hid hb1
  clear hc1 hb1
  go_wp2_with fail
  refine hc2.mono ?_
  rintro e w2 ⟨rfl, hb2⟩
  have HB2 := Lib.hid (below_step' HB1.out hb2)
  have hf := fixed07_any w2
  clear hc2 hb2
  go_wp2_with fail
  refine hf.mono ?_
  rintro e w3 ⟨rfl, hb3⟩
  have HB3 := Lib.hid (below_step' HB2.out hb3)
  have hf := fixed07_any w3
  clear hb3
  cases hx : exl 1000 l [] with
  | none =>
    have ht : toldB none = false := rfl
    rw [ht]
    clear hx ht
    go_wp2_with fail
    refine hf.mono ?_
    rintro e w4 ⟨rfl, hb4⟩
    go_wp2_with fail
    go_ret
    exact ⟨rfl, below_step' HB3.out hb4⟩
  | some r =>
    rw [told_some]
    have hts : (toldS (some r)).size = r.length := told_size
    have Hx := Lib.hid hx
    generalize toldS (some r) = ts at *
    have Hts := Lib.hid hts
    clear hx hts
    cases hy : exl 1000 m [] with
    | none =>
      have ht : toldB none = false := rfl
      rw [ht]
      clear hy ht
      go_wp2_with fail
      refine hf.mono ?_
      rintro e w4 ⟨rfl, hb4⟩
      go_wp2_with fail
      go_ret
      exact ⟨rfl, below_step' HB3.out hb4⟩
    | some s =>
      rw [told_some]
      have htu : (toldS (some s)).size = s.length := told_size
      have Hy := Lib.hid hy
      generalize toldS (some s) = tu at *
      have Htu := Lib.hid htu
      clear hy htu
      by_cases h1 : 200 < l.length
      · have d1 : decide ((200 : Int) < (l.length : Int)) = true := by simp; omega
        go_wp2_with fail
        refine hf.mono ?_
        rintro e w4 ⟨rfl, hb4⟩
        go_wp2_with fail
        go_ret
        exact ⟨rfl, below_step' HB3.out hb4⟩
      have d1 : decide ((200 : Int) < (l.length : Int)) = false := by simp; omega
      by_cases h2 : 200 < m.length
      · have d2 : decide ((200 : Int) < (m.length : Int)) = true := by simp; omega
        go_wp2_with fail
        refine hf.mono ?_
        rintro e w4 ⟨rfl, hb4⟩
        go_wp2_with fail
        go_ret
        exact ⟨rfl, below_step' HB3.out hb4⟩
      have d2 : decide ((200 : Int) < (m.length : Int)) = false := by simp; omega
      have hokl : wrOk l = true := wrOk_iff.2 ⟨by omega, exl_may Hx.out⟩
      have hokm : wrOk m = true := wrOk_iff.2 ⟨by omega, exl_may Hy.out⟩
      have hc3 := writeP_ok (.slice a0 l.length c0) l w3 (sl_below HV.out HB3.out) hokl
      have Hokl := Lib.hid hokl
      have Hokm := Lib.hid hokm
      clear hokl hokm hf
      go_wp2_with fail
      refine hc3.mono ?_
      rintro e w4 ⟨a4, c4, b4, rfl, hw4, hs4, hb4⟩
      have HB4 := Lib.hid (below_step' HB3.out hb4)
      have HW4 := Lib.hid hw4
      have HS4 := Lib.hid hs4
      have hle4 := wrV_le hw4
      have hc4 := writeP_ok (.slice aU m.length cU) m w4 (sl_below HU.out HB4.out) Hokm.out
      clear hc3 hw4 hs4 hb4
      go_wp2_with fail
      refine hc4.mono ?_
      rintro e w5 ⟨a5, c5, b5, rfl, hw5, hs5, hb5⟩
      have HB5 := Lib.hid (below_step' HB4.out hb5)
      have HW5 := Lib.hid hw5
      have HS5 := Lib.hid hs5
      have HS4' := Lib.hid (sl_below HS4.out hb5)
      have hle5 := wrV_le hw5
      clear hc4 hw5 hs5 hb5
      have HCut : Hid (∀ n : Nat, n < b4.length → rdO (b4.take n) r.length = none) := by
        intro n hn
        obtain ⟨L, hL, rfl⟩ := HW4.out.1 Hokl.out
        have q := rd_wr hL Hokl.out Hx.out []
        rw [List.append_nil] at q
        exact rd_cut q (by omega)
      have HInj : Hid (r.length = s.length → (b4 == b5) = (l == m)) := by
        intro hrs
        obtain ⟨L, hL, rfl⟩ := HW4.out.1 Hokl.out
        obtain ⟨M, hM, rfl⟩ := HW5.out.1 Hokm.out
        have q := wr_inj hL hM Hokl.out Hokm.out Hx.out Hy.out hrs
        rw [Bool.eq_iff_iff]
        simpa using q
      -- the last row, from whatever world
      have HEnd : Hid (∀ W, Below w5.heap.size w5 W → r.length = s.length → Calls Try.prog 20 #[.slice a4 b4.length c4, .slice a5 b5.length c5] W fun e w' => e = .returned (.bool (l == m)) ∧ Below W.heap.size W w') := fun W hW hrs => by
        have q := same_bits (.slice a4 b4.length c4) (.slice a5 b5.length c5) b4 b5 W (sl_below HS4'.out hW) (sl_below HS5.out hW) (by omega) (by omega)
        rw [HInj.out hrs] at q
        exact q
      have HEnd2 : Hid (∀ W, Below w.heap.size w W → Calls Try.prog 23 #[.slice a0 l.length c0, .slice aU m.length cU] W fun e w' => e = .returned (.bool (l == m)) ∧ Below W.heap.size W w') := fun W hW =>
        sameT_any (.slice a0 l.length c0) (.slice aU m.length cU) l m W (sl_below HV.out hW) (sl_below HU.out hW) (by omega) (by omega)
      have hbb : ((l == m) == (l == m)) = true := by simp
      generalize (l == m) = same at *
      by_cases hcut : 0 ≤ p ∧ p < b4.length
      · obtain ⟨n, rfl⟩ := Int.eq_ofNat_of_zero_le hcut.1
        have hn : n < b4.length := by omega
        have x1 : decide ((0 : Int) ≤ (n : Int)) = true := by simp
        have x2 : decide (n < b4.length) = true := by simp; omega
        have x2' : decide ((n : Int) < (b4.length : Int)) = true := by simp; omega
        have hlc4 : b4.length ≤ c4 := by obtain ⟨_, _, hv', hq, _⟩ := HS4.out; injection hv' with _ _ q3; rw [q3]; exact hq
        have hnc : n ≤ c4 := by omega
        have hct := HCut.out n hn
        have HBt := bits_take HS4'.out n (by omega)
        have hrd := readP_any (.slice a4 n c4) (b4.take n) (ts.size : Int) w5 HBt (by rw [List.length_take]; omega)
        rw [show ((ts.size : Nat) : Int) = ((r.length : Nat) : Int) by rw [Hts.out]] at hrd
        have Hct := Lib.hid hct
        have hTs := Hts.out
        clear hcut hct HBt
        go_wp2_with fail
        refine hrd.mono ?_
        rintro e w6 ⟨a6, c6, l6, q6, ok6, rfl, hs6, ⟨hr6, _⟩ | ⟨_, rfl, rfl, rfl⟩, hb6⟩
        · rw [Hct.out] at hr6; cases hr6
        have HB56 := Lib.hid hb6
        have HB6 := Lib.hid (below_step' HB5.out hb6)
        clear hrd hs6 hb6 hTs
        by_cases hrs : r.length = s.length
        · have z1 : ((ts.size : Int) == (tu.size : Int)) = true := by rw [Hts.out, Htu.out, hrs]; simp
          have z2 : ((ts.size : Int) != (tu.size : Int)) = false := by rw [Hts.out, Htu.out, hrs]; simp
          have he := HEnd.out w6 HB56.out hrs
          clear hrs
          go_wp2_with fail
          refine he.mono ?_
          rintro e w7 ⟨rfl, hb7⟩
          have HB7 := Lib.hid (below_step' HB6.out hb7)
          have he2 := HEnd2.out w7 HB7.out
          clear he hb7
          go_wp2_with fail
          refine he2.mono ?_
          rintro e w8 ⟨rfl, hb8⟩
          go_wp2_with fail
          go_ret
          exact ⟨by first | rfl | simp, below_step' HB7.out hb8⟩
        · have z1 : ((ts.size : Int) == (tu.size : Int)) = false := by rw [Hts.out, Htu.out]; simp; omega
          have z2 : ((ts.size : Int) != (tu.size : Int)) = true := by rw [Hts.out, Htu.out]; simp; omega
          clear hrs
          go_wp2_with fail
          go_ret
          exact ⟨by first | rfl | simp, HB6.out⟩
      · have hcc : p < 0 ∨ (0 ≤ p ∧ (b4.length : Int) ≤ p) := by omega
        clear hcut
        by_cases hrs : r.length = s.length
        · have z1 : ((ts.size : Int) == (tu.size : Int)) = true := by rw [Hts.out, Htu.out, hrs]; simp
          have z2 : ((ts.size : Int) != (tu.size : Int)) = false := by rw [Hts.out, Htu.out, hrs]; simp
          have he := HEnd.out w5 (Below.refl _ _) hrs
          clear hrs
          rcases hcc with hp | ⟨hp, hq⟩
          · have x1 : decide ((0 : Int) ≤ p) = false := by simp; omega
            go_wp2_with fail
            refine he.mono ?_
            rintro e w7 ⟨rfl, hb7⟩
            have HB7 := Lib.hid (below_step' HB5.out hb7)
            have he2 := HEnd2.out w7 HB7.out
            clear he hb7
            go_wp2_with fail
            refine he2.mono ?_
            rintro e w8 ⟨rfl, hb8⟩
            go_wp2_with fail
            go_ret
            exact ⟨by first | rfl | simp, below_step' HB7.out hb8⟩
          · have x1 : decide ((0 : Int) ≤ p) = true := by simpa using hp
            have x2 : decide (p < (b4.length : Int)) = false := by simp; omega
            go_wp2_with fail
            refine he.mono ?_
            rintro e w7 ⟨rfl, hb7⟩
            have HB7 := Lib.hid (below_step' HB5.out hb7)
            have he2 := HEnd2.out w7 HB7.out
            clear he hb7
            go_wp2_with fail
            refine he2.mono ?_
            rintro e w8 ⟨rfl, hb8⟩
            go_wp2_with fail
            go_ret
            exact ⟨by first | rfl | simp, below_step' HB7.out hb8⟩
        · have z1 : ((ts.size : Int) == (tu.size : Int)) = false := by rw [Hts.out, Htu.out]; simp; omega
          have z2 : ((ts.size : Int) != (tu.size : Int)) = true := by rw [Hts.out, Htu.out]; simp; omega
          clear hrs
          rcases hcc with hp | ⟨hp, hq⟩
          · have x1 : decide ((0 : Int) ≤ p) = false := by simp; omega
            go_wp2_with fail
            go_ret
            exact ⟨by first | rfl | simp, HB5.out⟩
          · have x1 : decide ((0 : Int) ≤ p) = true := by simpa using hp
            have x2 : decide (p < (b4.length : Int)) = false := by simp; omega
            go_wp2_with fail
            go_ret
            exact ⟨by first | rfl | simp, HB5.out⟩
end Go.Proofs.Ytolappilfjhfaaa
