/- A tree's pairs: the document's Pairs. Conditions: numbers fit. -/
import Derived.Test.YtdlgpcjdaaeliaaTreE
import Derived.Test.YtdlgpcjdaaeliaaGen
import Derived.Test.YtdlgpcjdaaeliaaTreF
namespace Go.Proofs.Ytdlgpcjdaaeliaa
open Go.RowKit

theorem info_pair : (Try.prog.info? 51).map (fun i => (i.zero, i.size, i.bytes)) = some (some (.agg #[.int .i64 0, .int .i64 0]), 2, 16) := by kernel_rfl
theorem owns_emptyE (w : World) (e : TypeId) (k : Nat) : (w.alloc (.cells #[] e)).ownsRow w.heap.size e k (.slice (some ⟨w.heap.size, 0, none⟩) 0 0) 0 [] :=
  ⟨by simp, Or.inr ⟨w.heap.size, 0, #[], rfl, Nat.le_refl _, heap_alloc_new w _, Nat.le_refl _, by simp [maxLen], by simp, by simp⟩⟩
theorem pairsL_le : ∀ (l : List Tr) (k : Nat) (hk : k < l.length), (pairsT l[k]).length ≤ (pairsL l).length
  | [], k, hk => by simp at hk
  | x :: l, 0, _ => by rw [pairsL, List.length_append]; exact Nat.le_add_right _ _
  | x :: l, k + 1, hk => by
    rw [pairsL, List.length_append]
    have := pairsL_le l k (by simpa using hk)
    simp only [List.getElem_cons_succ]
    omega
theorem pairsL_take_le (l : List Tr) (k : Nat) : (pairsL (l.take k)).length ≤ (pairsL l).length := by
  induction l generalizing k with
  | nil => simp
  | cons x l ih =>
    cases k with
    | zero => simp [pairsL]
    | succ k => rw [List.take_succ_cons, pairsL, pairsL, List.length_append, List.length_append]; have := ih k; omega
theorem zip_take_succ {ks vs : List Int} {k : Nat} (hk : k < ks.length) (hv : k < vs.length) : (ks.zip vs).take (k + 1) = (ks.zip vs).take k ++ [(ks[k], vs[k])] := by
  rw [List.take_succ_eq_append_getElem (by simp; omega), List.getElem_zip]

/-- What Pairs tells: a row of the call's own. -/
abbrev OwnP (w : World) (base : Nat) (v : Value) (l : List (Int × Int)) : Prop := w.ownsRow base 51 2 v l.length (cellsE pairE l)

set_option maxRecDepth 100000 in
set_option maxHeartbeats 4000000 in
theorem pairs_any {w : World} {n3 : N3} {t : Tr} (h : NodeV w n3 t) : ∀ (w' : World), Below w.heap.size w w' → (pairsT t).length ≤ 1000000 →
    Calls Try.prog 14 #[.agg #[n3.1, n3.2.1, n3.2.2]] w' fun e w'' => ∃ (a : Option Addr) (cap : Nat) (l : List (Int × Int)), e = .returned (.slice a l.length cap) ∧ Hid (l = pairsT t) ∧ OwnP w'' w'.heap.size (.slice a l.length cap) l ∧ Below w'.heap.size w' w'' := by
  induction h with
  | mk ns hk hv hx lk lv lx hl hn ih =>
    rename_i kv vv xv ks vs kids
    intro w' hb hm
    obtain ⟨i0, hi, hz0, hz1, hz2⟩ := info_parts info_pair
    obtain ⟨aK, cK, rfl⟩ := sl_shape hk
    obtain ⟨aV, cV, rfl⟩ := sl_shape hv
    obtain ⟨aX, cX, rfl⟩ := sl_shape hx
    dsimp only
    obtain ⟨W1, hW, e0, e1, e2, hs1, hb0⟩ := boxed3 w' (.slice aK ks.length cK) (.slice aV vs.length cV) (.slice aX ns.length cX) 25
    have HX := Lib.hid hx
    have HK := Lib.hid hk
    have HV := Lib.hid hv
    have Hbw := Lib.hid hb
    have Hb0 := Lib.hid hb0
    have IH := Lib.hid ih
    have Hl := Lib.hid hl
    have hnl : ns.length ≤ 9223372036854775807 := by unfold maxLen at lx; omega
    have hkl : ks.length ≤ 9223372036854775807 := by unfold maxLen at lk; omega
    have hvl : vs.length ≤ 9223372036854775807 := by unfold maxLen at lv; omega
    have HM := Lib.hid hm
    have HOe := Lib.hid (owns_emptyE W1 51 2)
    have HW1 : Hid (Below w.heap.size w W1) := Hbw.out.trans (Hb0.out.mono Hbw.out.size)
    clear hk hv hx lk lv lx ih hl hb hb0 hn hm
    by_cases hz : ns.length = 0
    · have b1 : ((ns.length : Int) == 0) = true := beq_iff_eq.2 (by omega)
      have HE : Hid (pairsT (.nd ks vs kids) = ks.zip vs) := by unfold Hid; rw [pairsT, if_pos (by have := Hl.out; omega)]
      have Hz := Lib.hid hz
      clear hz
      go_enter Try.func14, Try.ntmps14
      go_wp2_with fail
      go_loopw [3, 4] (fun uo ui wr => ∃ (k : Nat) (a : Option Addr) (c : Nat), k ≤ (ks.zip vs).length ∧ ui = .int .i64 k ∧ uo = .slice a k c ∧ wr.ownsRow W1.heap.size 51 2 (.slice a k c) k (cellsE pairE ((ks.zip vs).take k)) ∧ Below W1.heap.size W1 wr) (fun _ ui _ => (ks.zip vs).length - (intOf ui).toNat)
      case atStart => exact ⟨0, _, _, Nat.zero_le _, rfl, rfl, by rw [List.take_zero]; exact HOe.out, (Below.refl _ _).alloc (Nat.le_refl _) _⟩
      case round =>
        obtain ⟨k, a0, c0, hk, rfl, rfl, hown, hbr⟩ := hrel
        have hlz : (ks.zip vs).length = min ks.length vs.length := List.length_zip
        have Hlz := Lib.hid hlz
        have Hown := Lib.hid hown
        have Hbr := Lib.hid hbr
        have f0 : wr.cell? ⟨w'.heap.size, 0, none⟩ = some (.slice aK ks.length cK) := (hbr.cell (p := ⟨w'.heap.size, 0, none⟩) hs1).trans e0
        have f1 : wr.cell? ⟨w'.heap.size, 1, none⟩ = some (.slice aV vs.length cV) := (hbr.cell (p := ⟨w'.heap.size, 1, none⟩) hs1).trans e1
        have f2 : wr.cell? ⟨w'.heap.size, 2, none⟩ = some (.slice aX ns.length cX) := (hbr.cell (p := ⟨w'.heap.size, 2, none⟩) hs1).trans e2
        have hsr : W1.heap.size ≤ wr.heap.size := hbr.size
        clear hown hbr
        by_cases hlt : k < (ks.zip vs).length
        · have hk1 : k < ks.length := by omega
          have hk2 : k < vs.length := by omega
          have Hlt := Lib.hid hlt
          have g0 : (k : Int) < (ks.length : Int) := by omega
          have g1 : (k : Int) < (vs.length : Int) := by omega
          have g2 : (0 : Int) ≤ (k : Int) := by omega
          obtain ⟨bk, ok, hveq, hbk, kc⟩ := int_at (sl_below HK.out HW1.out) hk1
          subst hveq
          obtain ⟨bv, ov, hveq, hbv, vc⟩ := int_at (sl_below HV.out HW1.out) hk2
          subst hveq
          have hztake := Lib.hid (zip_take_succ hk1 hk2)
          generalize ks[k] = kx at *
          generalize vs[k] = vx at *
          have hbw := Lib.hid (owns_block Hown.out)
          have h64 : k ≤ 1000000 := by have := HM.out; rw [HE.out] at this; omega
          have HownD : Hid ((wr.drew.alloc (.cells #[.int .i64 kx, .int .i64 vx] 51)).ownsRow W1.heap.size 51 2 (.slice a0 k c0) k (cellsE pairE ((ks.zip vs).take k))) := by
            exact (owns_below Hown.out ((Below.refl _ _).drew)).alloc _
          have HBD : Hid (Below W1.heap.size W1 (wr.drew.alloc (.cells #[.int .i64 kx, .int .i64 vx] 51))) := (Hbr.out.drew).alloc hsr _
          have HS0 : Hid (Held W1 wr.drew) := held_drew (held_of Hbr.out)
          clear hlz hlt
          go_wp2_with fail
          go_region_held3 (Held W1) (first | exact HS0.out | exact held_of HBD.out | exact held_of HB3.out) (first
            | (refine step_append_lies _ (by rfl) _ _ 32 (by rfl) W1.heap.size 51 i0 _ 2 16 Try.underlying32 hi hz0 hz1 hz2 rfl (by decide) (.slice a0 k c0) k _ (by rfl) HownD.out ⟨wr.heap.size, 0, none⟩ 1 1 (pairE (kx, vx)) (by rfl) rfl (cells_newE wr.drew (pairE (kx, vx)) 51) (pairE_ok.one _) (by decide) (by simp [maxLen]; omega) (by omega) HBD.out.size _ rfl ?_
               intro g cap w3 hown3 hgrow3 hat3 hlt3
               have HO3 := Lib.hid hown3
               have HB3 := Lib.hid (HBD.out.grown hgrow3 HBD.out.size (fun b hbk => owns_block HownD.out b hbk))
               clear hown3 hgrow3 hat3 hlt3))
          go_wp2_with fail
          exact ⟨⟨k + 1, _, _, by have := Hlt.out; omega, by go_num, rfl, by
            have h := HO3.out
            rw [hztake.out, cellsE_append]
            exact h, HB3.out⟩, by have := Hlt.out; simp [intOf]; omega⟩
        · obtain rfl : k = (ks.zip vs).length := by omega
          have HO4 : Hid (OwnP wr W1.heap.size (.slice a0 (ks.zip vs).length c0) (ks.zip vs)) := by
            have h := Hown.out
            rw [List.take_length] at h
            exact h
          have Hlt := Lib.hid hlt
          clear Hown hlz hlt hk
          generalize hmz : (ks.zip vs).length = m at *
          have Hmz := Lib.hid hmz
          clear hmz
          have g2 : (0 : Int) ≤ (m : Int) := by omega
          have g3 : ¬ (m < ks.length ∧ m < vs.length) := by have := Hlz.out; omega
          have hz0' : ns.length = 0 := Hz.out
          rcases Nat.lt_or_ge m ks.length with q | q
          · have b3 : decide ((m : Int) < (ks.length : Int)) = true := decide_eq_true (by omega)
            have b3n : decide (m < ks.length) = true := decide_eq_true (by omega)
            have b4 : decide ((m : Int) < (vs.length : Int)) = false := decide_eq_false (by omega)
            have b4n : decide (m < vs.length) = false := decide_eq_false (by omega)
            clear q g3 hz0'
            go_wp2_with fail
            go_loopw [3, 5] (fun uo ui wr' => uo = .slice a0 m c0 ∧ ui = .int .i64 0 ∧ wr' = wr) (fun _ _ _ => 0)
            case atStart => exact ⟨rfl, rfl, rfl⟩
            case round =>
              obtain ⟨rfl, rfl, rfl⟩ := hrel
              have b9 : decide ((0 : Int) < (ns.length : Int)) = false := decide_eq_false (by have := Hz.out; omega)
              have b9n : decide (0 < ns.length) = false := decide_eq_false (by have := Hz.out; omega)
              go_wp2_with fail
              go_ret
              exact ⟨a0, c0, ks.zip vs, by rw [Hmz.out]; rfl, HE.out.symm, by rw [Hmz.out]; exact owns_base HO4.out (Nat.le_of_lt hs1), Hb0.out.trans (Hbr.out.mono (Nat.le_of_lt hs1))⟩
          · have b3 : decide ((m : Int) < (ks.length : Int)) = false := decide_eq_false (by omega)
            have b3n : decide (m < ks.length) = false := decide_eq_false (by omega)
            clear q g3 hz0'
            go_wp2_with fail
            go_loopw [3, 5] (fun uo ui wr' => uo = .slice a0 m c0 ∧ ui = .int .i64 0 ∧ wr' = wr) (fun _ _ _ => 0)
            case atStart => exact ⟨rfl, rfl, rfl⟩
            case round =>
              obtain ⟨rfl, rfl, rfl⟩ := hrel
              have b9 : decide ((0 : Int) < (ns.length : Int)) = false := decide_eq_false (by have := Hz.out; omega)
              have b9n : decide (0 < ns.length) = false := decide_eq_false (by have := Hz.out; omega)
              go_wp2_with fail
              go_ret
              exact ⟨a0, c0, ks.zip vs, by rw [Hmz.out]; rfl, HE.out.symm, by rw [Hmz.out]; exact owns_base HO4.out (Nat.le_of_lt hs1), Hb0.out.trans (Hbr.out.mono (Nat.le_of_lt hs1))⟩
    · have b1 : ((ns.length : Int) == 0) = false := beq_eq_false_iff_ne.2 (by omega)
      have HE : Hid (pairsT (.nd ks vs kids) = pairsL kids) := by unfold Hid; rw [pairsT, if_neg (by have := Hl.out; omega)]
      clear hz
      go_enter Try.func14, Try.ntmps14
      go_wp2_with fail
      go_loopw [3, 5] (fun uo ui wr => ∃ (k m : Nat) (l : List (Int × Int)) (a : Option Addr) (c : Nat), k ≤ ns.length ∧ ui = .int .i64 k ∧ uo = .slice a m c ∧ Hid (l = pairsL (kids.take k)) ∧ wr.ownsRow W1.heap.size 51 2 (.slice a m c) m (cellsE pairE l) ∧ Below W1.heap.size W1 wr) (fun _ ui _ => ns.length - (intOf ui).toNat)
      case atStart => exact ⟨0, 0, [], _, _, Nat.zero_le _, rfl, rfl, by unfold Hid; rw [List.take_zero, pairsL], HOe.out, (Below.refl _ _).alloc (Nat.le_refl _) _⟩
      case round =>
        obtain ⟨k, m, l, a0, c0, hk, rfl, rfl, hll, hown, hbr⟩ := hrel
        have hml : m = l.length := (sl_of_ownsE pairE_ok hown).2
        have Hml := Lib.hid hml
        have Hown := Lib.hid hown
        have Hbr := Lib.hid hbr
        have f2 : wr.cell? ⟨w'.heap.size, 2, none⟩ = some (.slice aX ns.length cX) := (hbr.cell (p := ⟨w'.heap.size, 2, none⟩) hs1).trans e2
        have hsr : W1.heap.size ≤ wr.heap.size := hbr.size
        clear hown hbr hml e0 e1 e2
        by_cases hlt : k < ns.length
        · have g0 : (k : Int) < (ns.length : Int) := by omega
          have g1 : (0 : Int) ≤ (k : Int) := by omega
          have hkk : k < kids.length := by have := Hl.out; omega
          have hbb : Below w.heap.size w wr := Hbw.out.trans ((Hb0.out.trans (Hbr.out.mono (Nat.le_of_lt hs1))).mono Hbw.out.size)
          obtain ⟨b, off, hveq, hblt, q0, q1, q2⟩ := kid_at (sl_below HX.out hbb) hlt
          subst hveq
          have hle1 := pairsL_le kids k hkk
          have hle2 := pairsL_take_le kids k
          have hle3 := pairsL_take_le kids (k + 1)
          rw [pairsL_take kids k hkk, List.length_append] at hle3
          have hm9 : (pairsL kids).length ≤ 1000000 := by rw [← HE.out]; exact HM.out
          have hcall := IH.out k hlt hkk wr hbb (by omega)
          have hm8 : m + (pairsT kids[k]).length ≤ 1000000 := by rw [Hml.out, hll.out]; omega
          have HN := Lib.hid (pairsL_take kids k hkk)
          clear hle1 hle2 hle3 hm9
          generalize pairsT kids[k] = lk at *
          generalize ns[k] = n3 at *
          obtain ⟨v0, v1, v2⟩ := n3
          dsimp only at q0 q1 q2 hcall
          go_wp2_with fail
          refine hcall.mono ?_
          rintro e w3 ⟨a3, c3, l3, rfl, hl3, hown3, hb3⟩
          have HO3 := Lib.hid hown3
          have HO2 := Lib.hid (owns_below Hown.out hb3)
          have HB3 := Lib.hid (below_step9 Hbr.out hb3)
          have hm7 : m + l3.length ≤ 1000000 := by rw [hl3.out]; exact hm8
          clear hb3 hcall hown3 hm8
          go_wp2_with (first
            | (at_builtin; refine wpList_append_slE pairE_ok (ys := l3) rfl _ _ 32 rfl W1.heap.size 51 i0 _ 16 Try.underlying32 hi hz0 hz1 hz2 rfl (.slice a0 m c0) m _ rfl HO2.out _ rfl (sl_of_ownsE pairE_ok HO3.out).1 (by simp [maxLen]; omega) (by omega) HB3.out.size ?_; intro v4 w4 hown4 hgrow4 _)
            | fail)
          obtain ⟨a4, c4, rfl, _⟩ := owns_shape hown4
          have HO4 := Lib.hid hown4
          have HB4 := Lib.hid (HB3.out.grown hgrow4 HB3.out.size (fun b hbk => owns_block HO2.out b hbk))
          clear hown4 hgrow4
          go_wp2_with fail
          exact ⟨⟨k + 1, m + l3.length, l ++ l3, a4, c4, by omega, by go_num, rfl, by unfold Hid; rw [HN.out, hll.out, hl3.out], by rw [cellsE_append]; exact HO4.out, HB4.out⟩, by simp [intOf]; omega⟩
        · obtain rfl : k = ns.length := by omega
          have HF : Hid (l = pairsT (.nd ks vs kids)) := by
            unfold Hid
            rw [HE.out, hll.out, List.take_of_length_le (by have := Hl.out; omega)]
          clear hll HE
          go_wp2_with fail
          go_ret
          exact ⟨a0, c0, l, by rw [Hml.out]; rfl, HF.out, by rw [← Hml.out]; unfold OwnP; rw [← Hml.out]; exact owns_base Hown.out (Nat.le_of_lt hs1), Hb0.out.trans (Hbr.out.mono (Nat.le_of_lt hs1))⟩
end Go.Proofs.Ytdlgpcjdaaeliaa
