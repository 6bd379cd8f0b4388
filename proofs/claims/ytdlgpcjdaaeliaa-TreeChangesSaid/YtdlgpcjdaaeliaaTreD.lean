/- How deep the leaves lie: the document's Deep. Conditions: numbers fit. -/
import Derived.Test.YtdlgpcjdaaeliaaTreC
namespace Go.Proofs.Ytdlgpcjdaaeliaa
open Go.RowKit

theorem deepL_cons {kids : List Tr} (h : 0 < kids.length) (m d : Nat) (hd : deepT kids[0] m = d) : deepL kids m = if sameL kids m d = true ∧ d ≠ 0 then d + 1 else 0 := by
  match kids, h with
  | k :: ks, _ =>
    simp only [List.getElem_cons_zero] at hd
    rw [deepL, sameL, hd]
    simp

set_option maxRecDepth 100000 in
set_option maxHeartbeats 4000000 in
theorem deep_any {w : World} {n3 : N3} {t : Tr} (h : NodeV w n3 t) : ∀ (m : Nat) (w' : World), Below w.heap.size w w' → m ≤ 40 →
    Calls Try.prog 18 #[.agg #[n3.1, n3.2.1, n3.2.2], .int .i64 m] w' fun e w'' => e = .returned (.int .i64 (deepT t m : Nat)) ∧ Below w'.heap.size w' w'' := by
  induction h with
  | mk ns hk hv hx lk lv lx hl _ ih =>
    rename_i kv vv xv ks vs kids _
    intro m w' hb hm
    obtain ⟨aK, cK, rfl⟩ := sl_shape hk
    obtain ⟨aV, cV, rfl⟩ := sl_shape hv
    obtain ⟨aX, cX, rfl⟩ := sl_shape hx
    dsimp only
    obtain ⟨W1, hW, e0, e1, e2, hs1, hb0⟩ := boxed3 w' (.slice aK ks.length cK) (.slice aV vs.length cV) (.slice aX ns.length cX) 25
    have HX := Lib.hid hx
    have Hbw := Lib.hid hb
    have Hb0 := Lib.hid hb0
    have IH := Lib.hid ih
    have Hl := Lib.hid hl
    have hnl : ns.length ≤ 9223372036854775807 := by unfold maxLen at lx; omega
    clear hk hv hx lk lv lx ih hl hb hb0
    by_cases hm0 : m = 0
    · subst hm0
      have HE : Hid (deepT (.nd ks vs kids) 0 = 0) := by unfold Hid; rw [deepT]; rfl
      go_enter Try.func18, Try.ntmps18
      go_wp2_with fail
      go_ret
      exact ⟨by rw [HE.out]; rfl, Hb0.out⟩
    have b0 : ((m : Int) == 0) = false := by simp; omega
    have HT : Hid (deepT (.nd ks vs kids) m = deepL kids (m - 1)) := by unfold Hid; rw [deepT, if_neg hm0]
    by_cases hz : ns.length = 0
    · have b1 : ((ns.length : Int) == 0) = true := beq_iff_eq.2 (by omega)
      have HE : Hid (deepT (.nd ks vs kids) m = 1) := by
        unfold Hid
        rw [HT.out, List.length_eq_zero_iff.1 (show kids.length = 0 by have := Hl.out; omega), deepL]
      clear hz hm0
      go_enter Try.func18, Try.ntmps18
      go_wp2_with fail
      go_ret
      exact ⟨by rw [HE.out]; rfl, Hb0.out⟩
    have b1 : ((ns.length : Int) == 0) = false := beq_eq_false_iff_ne.2 (by omega)
    have hpos : 0 < ns.length := Nat.pos_of_ne_zero hz
    have hkl : kids.length = ns.length := Hl.out.symm
    have hW1 : Below w.heap.size w W1 := Hbw.out.trans (Hb0.out.mono Hbw.out.size)
    obtain ⟨b, off, hveq, hblt, q0, q1, q2⟩ := kid_at (sl_below HX.out hW1) hpos
    subst hveq
    simp only [Nat.zero_mul, Nat.add_zero] at q0 q1 q2
    have hposk : 0 < kids.length := by omega
    have hcall := IH.out 0 hpos hposk (m - 1) W1 hW1 (by omega)
    have x1 : IntKind.i64.wrap ((m : Int) - 1) = ((m - 1 : Nat) : Int) := by rw [IntWalk.i64_in _ (by omega)]; omega
    have HDL := Lib.hid (deepL_cons (kids := kids) hposk (m - 1) _ rfl)
    have HD0 : Hid (∀ k (hk : k < kids.length), k < 1 → deepT kids[k] (m - 1) = deepT (kids[0]'hposk) (m - 1)) := by
      intro k hk h1
      obtain rfl : k = 0 := by omega
      rfl
    have hdl := deepT_le (kids[0]'hposk) (m - 1)
    have g00 : (0 : Int) < (ns.length : Int) := by omega
    clear hm0 hz
    generalize deepT (kids[0]'hposk) (m - 1) = d at *
    generalize hn0 : ns[0]'hpos = n3 at *
    obtain ⟨v0, v1, v2⟩ := n3
    dsimp only at q0 q1 q2 hcall
    clear hn0
    go_enter Try.func18, Try.ntmps18
    go_wp2_with fail
    refine hcall.mono ?_
    rintro e w2 ⟨rfl, hb2⟩
    have HB2 := Lib.hid hb2
    clear hb2 hcall q0 q1 q2
    go_wp2_with fail
    go_loopw [6] (fun i wr => ∃ k : Nat, 1 ≤ k ∧ k ≤ ns.length ∧ i = .int .i64 k ∧ (∀ j (hj : j < kids.length), j < k → deepT kids[j] (m - 1) = d) ∧ Below W1.heap.size W1 wr) (fun i _ => ns.length - (intOf i).toNat)
    case atStart => exact ⟨1, Nat.le_refl _, by omega, rfl, HD0.out, HB2.out⟩
    case round =>
      clear HD0 HB2
      obtain ⟨k, hk1, hk, rfl, hall, hbr⟩ := hrel
      have HA := Lib.hid hall
      have Hbr := Lib.hid hbr
      have f2 : wr.cell? ⟨w'.heap.size, 2, none⟩ = some (.slice (some ⟨b, off, none⟩) ns.length cX) := (hbr.cell (p := ⟨w'.heap.size, 2, none⟩) hs1).trans e2
      clear hall hbr e0 e1 e2
      by_cases hlt : k < ns.length
      · have g0 : (k : Int) < (ns.length : Int) := by omega
        have g1 : (0 : Int) ≤ (k : Int) := by omega
        have hkk : k < kids.length := by omega
        have hbb : Below w.heap.size w wr := Hbw.out.trans ((Hb0.out.trans (Hbr.out.mono (Nat.le_of_lt hs1))).mono Hbw.out.size)
        obtain ⟨b', off', hveq, hblt', q0, q1, q2⟩ := kid_at (sl_below HX.out hbb) hlt
        injection hveq with hveq
        injection hveq with t1 t2 t3
        subst t1 t2
        have hcall := IH.out k hlt hkk (m - 1) wr hbb (by omega)
        generalize ns[k] = n3 at *
        obtain ⟨v0, v1, v2⟩ := n3
        dsimp only at q0 q1 q2 hcall
        by_cases hd : deepT kids[k] (m - 1) = d
        · rw [hd] at hcall
          have HN : Hid (∀ j (hj : j < kids.length), j < k + 1 → deepT kids[j] (m - 1) = d) := by
            intro j hj h1
            by_cases hjk : j < k
            · exact HA.out j hj hjk
            · obtain rfl : j = k := by omega
              exact hd
          clear HA hd
          go_wp2_with fail
          refine hcall.mono ?_
          rintro e w3 ⟨rfl, hb3⟩
          have HB3 := Lib.hid (below_step9 Hbr.out hb3)
          clear hb3 hcall
          go_wp2_with fail
          exact ⟨⟨k + 1, by omega, by omega, by go_num, HN.out, HB3.out⟩, by simp [intOf]; omega⟩
        · have HE : Hid (deepT (.nd ks vs kids) m = 0) := by
            unfold Hid
            rw [HT.out, HDL.out, sameL_get kids (m - 1) d k hkk hd]; rfl
          have b2 : ((deepT kids[k] (m - 1) : Int) != (d : Int)) = true := by simp; omega
          generalize deepT kids[k] (m - 1) = dk at *
          clear HA hd
          go_wp2_with fail
          refine hcall.mono ?_
          rintro e w3 ⟨rfl, hb3⟩
          have HB3 := Lib.hid (below_step9 Hbr.out hb3)
          clear hb3 hcall
          go_wp2_with fail
          go_ret
          exact ⟨by rw [HE.out]; rfl, Hb0.out.trans (HB3.out.mono (Nat.le_of_lt hs1))⟩
      · obtain rfl : k = ns.length := by omega
        have HS : Hid (deepT (.nd ks vs kids) m = if d ≠ 0 then d + 1 else 0) := by
          unfold Hid
          rw [HT.out, HDL.out, sameL_all kids (m - 1) d fun j hj => HA.out j hj (by omega)]; simp
        have HBa := Lib.hid (Hb0.out.trans (Hbr.out.mono (Nat.le_of_lt hs1)))
        clear HA
        by_cases hd0 : d = 0
        · subst hd0
          go_wp2_with fail
          go_ret
          exact ⟨by rw [HS.out]; rfl, HBa.out⟩
        · have b3 : ((d : Int) == 0) = false := by simp; omega
          have x2 : IntKind.i64.wrap ((d : Int) + 1) = (d : Int) + 1 := IntWalk.i64_in _ (by omega)
          have HS2 : Hid (deepT (.nd ks vs kids) m = d + 1) := by unfold Hid; rw [HS.out, if_pos hd0]
          clear hd0 HS
          go_wp2_with fail
          go_ret
          exact ⟨by rw [HS2.out]; rfl, HBa.out⟩
end Go.Proofs.Ytdlgpcjdaaeliaa
