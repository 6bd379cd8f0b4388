/- Has each node as many keys as it may? The document's Sized. Conditions: numbers fit. -/
import Derived.Test.YtdlgpcjdaaeliaaTreE
import Derived.Test.YtdlgpcjdaaeliaaRegH
namespace Go.Proofs.Ytdlgpcjdaaeliaa
open Go.RowKit

theorem int_at {w : World} {a : Option Addr} {n cap : Nat} {l : List Int} (hv : SlOf w (.slice a n cap) 1 intE l) {k : Nat} (hk : k < l.length) : ∃ b off, a = some ⟨b, off, none⟩ ∧ b < w.heap.size ∧ w.cell? ⟨b, off + k, none⟩ = some (.int .i64 l[k]) := by
  rcases sl_one hv with ⟨rfl, _⟩ | ⟨_, b, off, cap', he, _, hb, hc⟩
  · simp at hk
  · injection he with he _ _
    exact ⟨b, off, he, hb, hc k hk⟩

set_option maxRecDepth 100000 in
set_option maxHeartbeats 8000000 in
theorem sized_any {w : World} {n3 : N3} {t : Tr} (h : NodeV w n3 t) : ∀ (low : Nat) (w' : World), Below w.heap.size w w' → low ≤ 4 →
    Calls Try.prog 26 #[.agg #[n3.1, n3.2.1, n3.2.2], .int .i64 low] w' fun e w'' => e = .returned (.bool (sizedT t low)) ∧ Below w'.heap.size w' w'' := by
  induction h with
  | mk ns hk hv hx lk lv lx hl hn ih =>
    rename_i kv vv xv ks vs kids
    intro low w' hb hm
    obtain ⟨aK, cK, rfl⟩ := sl_shape hk
    obtain ⟨aV, cV, rfl⟩ := sl_shape hv
    obtain ⟨aX, cX, rfl⟩ := sl_shape hx
    dsimp only
    obtain ⟨W1, hW, e0, e1, e2, hs1, hb0⟩ := boxed3 w' (.slice aK ks.length cK) (.slice aV vs.length cV) (.slice aX ns.length cX) 25
    have HX := Lib.hid hx
    have HK := Lib.hid hk
    have Hbw := Lib.hid hb
    have Hb0 := Lib.hid hb0
    have IH := Lib.hid ih
    have HN := Lib.hid hn
    have Hl := Lib.hid hl
    have hnl : ns.length ≤ 9223372036854775807 := by unfold maxLen at lx; omega
    clear hk hv hx lk lv lx ih hl hb hb0 hn
    have HT : Hid (sizedT (.nd ks vs kids) low = (decide (low ≤ ks.length ∧ ks.length ≤ 4) && (if ns.length = 0 then decide (vs.length = ks.length) else (decide (vs.length = 0 ∧ ns.length = ks.length ∧ 2 ≤ ks.length) && sizedL kids ks)))) := by
      unfold Hid; rw [sizedT, Hl.out]
    by_cases h1 : ks.length < low
    · have b1 : decide ((ks.length : Int) < (low : Int)) = true := decide_eq_true (by omega)
      have b1n : decide (ks.length < low) = true := decide_eq_true (by omega)
      have HE : Hid (sizedT (.nd ks vs kids) low = false) := by unfold Hid; rw [HT.out, decide_eq_false (by omega)]; rfl
      clear h1
      go_enter Try.func26, Try.ntmps26
      go_wp2_with fail
      go_ret
      exact ⟨by rw [HE.out]; rfl, Hb0.out⟩
    have b1 : decide ((ks.length : Int) < (low : Int)) = false := decide_eq_false (by omega)
    have b1n : decide (ks.length < low) = false := decide_eq_false (by omega)
    by_cases h2 : 4 < ks.length
    · have b2 : decide ((4 : Int) < (ks.length : Int)) = true := decide_eq_true (by omega)
      have b2n : decide (4 < ks.length) = true := decide_eq_true (by omega)
      have HE : Hid (sizedT (.nd ks vs kids) low = false) := by unfold Hid; rw [HT.out, decide_eq_false (by omega)]; rfl
      clear h1 h2
      go_enter Try.func26, Try.ntmps26
      go_wp2_with fail
      go_ret
      exact ⟨by rw [HE.out]; rfl, Hb0.out⟩
    have b2 : decide ((4 : Int) < (ks.length : Int)) = false := decide_eq_false (by omega)
    have b2n : decide (4 < ks.length) = false := decide_eq_false (by omega)
    have HT2 : Hid (sizedT (.nd ks vs kids) low = (if ns.length = 0 then decide (vs.length = ks.length) else (decide (vs.length = 0 ∧ ns.length = ks.length ∧ 2 ≤ ks.length) && sizedL kids ks))) := by
      unfold Hid; rw [HT.out, decide_eq_true (by omega), Bool.true_and]
    clear HT h1
    by_cases hz : ns.length = 0
    · have b3 : ((ns.length : Int) == 0) = true := beq_iff_eq.2 (by omega)
      have HE : Hid (sizedT (.nd ks vs kids) low = ((vs.length : Int) == (ks.length : Int))) := by
        unfold Hid; rw [HT2.out, if_pos hz]
        by_cases hq : vs.length = ks.length
        · rw [hq]; simp
        · rw [decide_eq_false hq]; exact (beq_eq_false_iff_ne.2 (by omega)).symm
      clear hz h2
      go_enter Try.func26, Try.ntmps26
      go_wp2_with fail
      go_ret
      exact ⟨by rw [HE.out]; rfl, Hb0.out⟩
    have b3 : ((ns.length : Int) == 0) = false := beq_eq_false_iff_ne.2 (by omega)
    have HT3 : Hid (sizedT (.nd ks vs kids) low = (decide (vs.length = 0 ∧ ns.length = ks.length ∧ 2 ≤ ks.length) && sizedL kids ks)) := by
      unfold Hid; rw [HT2.out, if_neg hz]
    clear HT2 hz
    by_cases h3 : 0 < vs.length
    · have b4 : decide ((0 : Int) < (vs.length : Int)) = true := decide_eq_true (by omega)
      have b4n : decide (0 < vs.length) = true := decide_eq_true h3
      have HE : Hid (sizedT (.nd ks vs kids) low = false) := by unfold Hid; rw [HT3.out, decide_eq_false (by omega)]; rfl
      clear h3 h2
      go_enter Try.func26, Try.ntmps26
      go_wp2_with fail
      go_ret
      exact ⟨by rw [HE.out]; rfl, Hb0.out⟩
    have b4 : decide ((0 : Int) < (vs.length : Int)) = false := decide_eq_false (by omega)
    have b4n : decide (0 < vs.length) = false := decide_eq_false h3
    by_cases h4 : ns.length = ks.length
    · by_cases h5 : ks.length < 2
      · have b5 : ((ns.length : Int) != (ks.length : Int)) = false := by simp [h4]
        have b6 : decide ((ks.length : Int) < 2) = true := decide_eq_true (by omega)
        have b6n : decide (ks.length < 2) = true := decide_eq_true h5
        have HE : Hid (sizedT (.nd ks vs kids) low = false) := by unfold Hid; rw [HT3.out, decide_eq_false (by omega)]; rfl
        clear h3 h4 h5 h2
        go_enter Try.func26, Try.ntmps26
        go_wp2_with fail
        go_ret
        exact ⟨by rw [HE.out]; rfl, Hb0.out⟩
      · have b5 : ((ns.length : Int) != (ks.length : Int)) = false := by simp [h4]
        have b6 : decide ((ks.length : Int) < 2) = false := decide_eq_false (by omega)
        have b6n : decide (ks.length < 2) = false := decide_eq_false h5
        have HT4 : Hid (sizedT (.nd ks vs kids) low = sizedL kids ks) := by unfold Hid; rw [HT3.out, decide_eq_true (by omega), Bool.true_and]
        have HH4 := Lib.hid h4
        clear h3 h4 h5 h2 HT3
        go_enter Try.func26, Try.ntmps26
        go_wp2_with fail
        go_loopw [6] (fun i wr => ∃ k : Nat, k ≤ ks.length ∧ i = .int .i64 k ∧ sizedL kids ks = sizedL (kids.drop k) (ks.drop k) ∧ Below W1.heap.size W1 wr) (fun i _ => ks.length - (intOf i).toNat)
        case atStart => exact ⟨0, Nat.zero_le _, rfl, by simp, Below.refl _ _⟩
        case round =>
          obtain ⟨k, hk, rfl, hc, hbr⟩ := hrel
          have HC := Lib.hid hc
          have Hbr := Lib.hid hbr
          have f0 : wr.cell? ⟨w'.heap.size, 0, none⟩ = some (.slice aK ks.length cK) := (hbr.cell (p := ⟨w'.heap.size, 0, none⟩) hs1).trans e0
          have f2 : wr.cell? ⟨w'.heap.size, 2, none⟩ = some (.slice aX ns.length cX) := (hbr.cell (p := ⟨w'.heap.size, 2, none⟩) hs1).trans e2
          have hsr : w'.heap.size < wr.heap.size := Nat.lt_of_lt_of_le hs1 hbr.size
          clear hc hbr e0 e1 e2
          by_cases hlt : k < ks.length
          · have g0 : (k : Int) < (ks.length : Int) := by omega
            have hkn : k < ns.length := by have := HH4.out; omega
            have g0' : (k : Int) < (ns.length : Int) := by omega
            have g1 : (0 : Int) ≤ (k : Int) := by omega
            have hkk : k < kids.length := by have := Hl.out; omega
            have HD := Lib.hid (sizedL_drop hkk hlt)
            have hbb : Below w.heap.size w wr := Hbw.out.trans ((Hb0.out.trans (Hbr.out.mono (Nat.le_of_lt hs1))).mono Hbw.out.size)
            obtain ⟨b, off, hveq, hblt, q0, q1, q2⟩ := kid_at (sl_below HX.out hbb) hkn
            subst hveq
            obtain ⟨bk, ok, hveq, hbk, kc⟩ := int_at (sl_below HK.out hbb) hlt
            subst hveq
            have hcall := fun wx (hx : Held wr wx) => IH.out k hkn hkk 2 wx (hbb.trans (hx.2.mono hbb.size)) (by omega)
            have hnode := HN.out k hkn hkk
            generalize ns[k] = n3 at *
            obtain ⟨v0, v1, v2⟩ := n3
            dsimp only at q0 q1 q2 hcall
            cases hf : sizedT kids[k] 2 with
            | false =>
              have HE : Hid (sizedT (.nd ks vs kids) low = false) := by unfold Hid; rw [HT4.out, HC.out, HD.out, hf]; rfl
              rw [hf] at hcall
              clear HC HD hf
              go_wp2_with fail
              refine regh_start (S := Held wr) (by kernel_rfl) 23 rfl held_start (fun hHeld => ?_)
              refine regh_take 0 rfl (by kernel_rfl) (by kernel_rfl) (by kernel_rfl) (fun _ _ _ h => h) (by rfl) (by intro w hSw; go_simp; with_reducible rfl) (by assumption) ?_
              try simp only [Act.put, List.setIfInBounds_toArray, List.set_cons_zero, List.set_cons_succ]
              refine regh_take 1 rfl (by kernel_rfl) (by kernel_rfl) (by kernel_rfl) (fun _ _ _ h => h) (by rfl) (by intro w hSw; go_simp; with_reducible rfl) (by assumption) ?_
              try simp only [Act.put, List.setIfInBounds_toArray, List.set_cons_zero, List.set_cons_succ]
              refine regh_take 2 rfl (by kernel_rfl) (by kernel_rfl) (by kernel_rfl) (fun _ _ _ h => h) (by rfl) (by intro w hSw; go_simp; with_reducible rfl) (by assumption) ?_
              try simp only [Act.put, List.setIfInBounds_toArray, List.set_cons_zero, List.set_cons_succ]
              refine regh_take 3 rfl (by kernel_rfl) (by kernel_rfl) (by kernel_rfl) (fun _ _ _ h => h) (by rfl) (by intro w hSw; go_simp; with_reducible rfl) (by assumption) ?_
              try simp only [Act.put, List.setIfInBounds_toArray, List.set_cons_zero, List.set_cons_succ]
              refine regh_take 4 rfl (by kernel_rfl) (by kernel_rfl) (by kernel_rfl) (fun _ _ _ h => h) (by rfl) (by intro w hSw; go_simp; with_reducible rfl) (by assumption) ?_
              try simp only [Act.put, List.setIfInBounds_toArray, List.set_cons_zero, List.set_cons_succ]
              refine regh_call 5 rfl (by kernel_rfl) (fun K hK => ?_)
              go_simp
              go_at_call 26
              refine (hcall _ (by first | assumption | exact held_start)).mono ?_
              rintro e w9 ⟨rfl, hb⟩
              go_wp2_with fail
              refine hK.out _ _ (held_call (by assumption) (by first | assumption | exact held_start)) (fun hHeld2 => ?_)
              clear hK K
              try simp only [Act.put, List.setIfInBounds_toArray, List.set_cons_zero, List.set_cons_succ]
              refine regh_take 6 rfl (by kernel_rfl) (by kernel_rfl) (by kernel_rfl) (fun _ _ _ h => h) (by rfl) (by intro w hSw; go_simp; with_reducible rfl) (by assumption) ?_
              try simp only [Act.put, List.setIfInBounds_toArray, List.set_cons_zero, List.set_cons_succ]
              refine regh_take 7 rfl (by kernel_rfl) (by kernel_rfl) (by kernel_rfl) (fun _ _ _ h => h) (by rfl) (by intro w hSw; go_simp; with_reducible rfl) (by assumption) ?_
              try simp only [Act.put, List.setIfInBounds_toArray, List.set_cons_zero, List.set_cons_succ]
              refine regh_skip 8 rfl (by kernel_rfl) (by kernel_rfl) (by kernel_rfl) (fun _ _ _ h => h) (by rfl) (by assumption) ?_
              try simp only [Act.put, List.setIfInBounds_toArray, List.set_cons_zero, List.set_cons_succ]
              refine regh_skip 9 rfl (by kernel_rfl) (by kernel_rfl) (by kernel_rfl) (fun _ _ _ h => h) (by rfl) (by assumption) ?_
              try simp only [Act.put, List.setIfInBounds_toArray, List.set_cons_zero, List.set_cons_succ]
              refine regh_skip 10 rfl (by kernel_rfl) (by kernel_rfl) (by kernel_rfl) (fun _ _ _ h => h) (by rfl) (by assumption) ?_
              try simp only [Act.put, List.setIfInBounds_toArray, List.set_cons_zero, List.set_cons_succ]
              refine regh_skip 11 rfl (by kernel_rfl) (by kernel_rfl) (by kernel_rfl) (fun _ _ _ h => h) (by rfl) (by assumption) ?_
              try simp only [Act.put, List.setIfInBounds_toArray, List.set_cons_zero, List.set_cons_succ]
              refine regh_skip 12 rfl (by kernel_rfl) (by kernel_rfl) (by kernel_rfl) (fun _ _ _ h => h) (by rfl) (by assumption) ?_
              try simp only [Act.put, List.setIfInBounds_toArray, List.set_cons_zero, List.set_cons_succ]
              refine regh_skip 13 rfl (by kernel_rfl) (by kernel_rfl) (by kernel_rfl) (fun _ _ _ h => h) (by rfl) (by assumption) ?_
              try simp only [Act.put, List.setIfInBounds_toArray, List.set_cons_zero, List.set_cons_succ]
              refine regh_skip 14 rfl (by kernel_rfl) (by kernel_rfl) (by kernel_rfl) (fun _ _ _ h => h) (by rfl) (by assumption) ?_
              try simp only [Act.put, List.setIfInBounds_toArray, List.set_cons_zero, List.set_cons_succ]
              refine regh_skip 15 rfl (by kernel_rfl) (by kernel_rfl) (by kernel_rfl) (fun _ _ _ h => h) (by rfl) (by assumption) ?_
              try simp only [Act.put, List.setIfInBounds_toArray, List.set_cons_zero, List.set_cons_succ]
              refine regh_skip 16 rfl (by kernel_rfl) (by kernel_rfl) (by kernel_rfl) (fun _ _ _ h => h) (by rfl) (by assumption) ?_
              try simp only [Act.put, List.setIfInBounds_toArray, List.set_cons_zero, List.set_cons_succ]
              refine regh_skip 17 rfl (by kernel_rfl) (by kernel_rfl) (by kernel_rfl) (fun _ _ _ h => h) (by rfl) (by assumption) ?_
              try simp only [Act.put, List.setIfInBounds_toArray, List.set_cons_zero, List.set_cons_succ]
              refine regh_skip 18 rfl (by kernel_rfl) (by kernel_rfl) (by kernel_rfl) (fun _ _ _ h => h) (by rfl) (by assumption) ?_
              try simp only [Act.put, List.setIfInBounds_toArray, List.set_cons_zero, List.set_cons_succ]
              refine regh_skip 19 rfl (by kernel_rfl) (by kernel_rfl) (by kernel_rfl) (fun _ _ _ h => h) (by rfl) (by assumption) ?_
              try simp only [Act.put, List.setIfInBounds_toArray, List.set_cons_zero, List.set_cons_succ]
              refine regh_skip 20 rfl (by kernel_rfl) (by kernel_rfl) (by kernel_rfl) (fun _ _ _ h => h) (by rfl) (by assumption) ?_
              try simp only [Act.put, List.setIfInBounds_toArray, List.set_cons_zero, List.set_cons_succ]
              refine regh_skip 21 rfl (by kernel_rfl) (by kernel_rfl) (by kernel_rfl) (fun _ _ _ h => h) (by rfl) (by assumption) ?_
              try simp only [Act.put, List.setIfInBounds_toArray, List.set_cons_zero, List.set_cons_succ]
              refine regh_take 22 rfl (by kernel_rfl) (by kernel_rfl) (by kernel_rfl) (fun _ _ _ h => h) (by rfl) (by intro w hSw; go_simp; with_reducible rfl) (by assumption) ?_
              try simp only [Act.put, List.setIfInBounds_toArray, List.set_cons_zero, List.set_cons_succ]
              refine regh_done (by kernel_rfl) ?_ _
              have HB3 := Lib.hid (below_step9 Hbr.out hHeld2.2)
              go_wp2_with fail
              go_ret
              exact ⟨by rw [HE.out]; rfl, Hb0.out.trans (HB3.out.mono (Nat.le_of_lt hs1))⟩
            | true =>
              obtain ⟨ks', vs', kids', hkt, hk2, hhead⟩ := sized_head hf
              rw [hkt] at hnode
              rw [hf] at hcall
              rw [hkt, ← hkt, hf, Bool.true_and, hhead] at HD
              cases hnode with
              | mk ns' sk' _ _ _ _ _ _ _ =>
              obtain ⟨aK', cK', rfl⟩ := sl_shape sk'
              obtain ⟨bk', ok', hveq, hbk', kc'⟩ := int_at (sl_below sk' hbb) (show 0 < ks'.length by omega)
              subst hveq
              rw [Nat.add_zero] at kc'
              have hh0 : ks'.head? = some ks'[0] := List.head?_eq_getElem? .. ▸ List.getElem?_eq_getElem _
              rw [hh0] at HD
              have hl' : ks'.length ≠ 0 := by omega
              have gk : (0 : Int) < (ks'.length : Int) := by omega
              have gkn : 0 < ks'.length := by omega
              have gkd : decide (0 < ks'.length) = true := decide_eq_true gkn
              have HBb := Lib.hid hbb
              clear hkt hhead hh0 sk' hf hbb
              obtain ⟨y, hy⟩ : ∃ y, y = (ks'[0]'(by omega) != ks[k]) := ⟨_, rfl⟩
              have HY := Lib.hid hy
              clear hy
              generalize ks'[0]'(by omega) = x1 at *
              generalize hx2 : ks[k] = x2 at *
              clear hx2
              go_wp2_with fail
              go_region_held3 (Held wr) (first | exact held_start | exact held_call (by assumption) (by first | assumption | exact held_start)) (first | (go_at_call 26; refine (hcall _ (by first | assumption | exact held_start)).mono ?_; rintro e w9 ⟨rfl, hb⟩))
              all_goals
                have hh : Held wr w9 := by assumption
                have HB3 := Lib.hid (below_step9 Hbr.out hh.2)
                rw [← HY.out]
                cases y with
                | true =>
                  have HE : Hid (sizedT (.nd ks vs kids) low = false) := by
                    unfold Hid
                    have hne : (some x1 == some x2) = false := by have := HY.out; simpa using this.symm
                    rw [HT4.out, HC.out, HD.out, hne]; rfl
                  go_wp2_with fail
                  go_ret
                  exact ⟨by rw [HE.out]; rfl, Hb0.out.trans (HB3.out.mono (Nat.le_of_lt hs1))⟩
                | false =>
                  have HNx : Hid (sizedL kids ks = sizedL (kids.drop (k + 1)) (ks.drop (k + 1))) := by
                    unfold Hid
                    have he : (some x1 == some x2) = true := by have := HY.out; simpa using this.symm
                    rw [HC.out, HD.out, he]; rfl
                  go_wp2_with fail
                  exact ⟨⟨k + 1, by omega, by go_num, HNx.out, HB3.out⟩, by simp [intOf]; omega⟩
          · obtain rfl : k = ks.length := by omega
            have HE : Hid (sizedT (.nd ks vs kids) low = true) := by
              unfold Hid; rw [HT4.out, HC.out, sizedL_end (by have := Hl.out; have := HH4.out; omega)]
            clear HC
            go_wp2_with fail
            go_ret
            exact ⟨by rw [HE.out]; rfl, Hb0.out.trans (Hbr.out.mono (Nat.le_of_lt hs1))⟩
    · have b5 : ((ns.length : Int) != (ks.length : Int)) = true := by simp; omega
      have HE : Hid (sizedT (.nd ks vs kids) low = false) := by unfold Hid; rw [HT3.out, decide_eq_false (by omega)]; rfl
      clear h3 h4 h2
      go_enter Try.func26, Try.ntmps26
      go_wp2_with fail
      go_ret
      exact ⟨by rw [HE.out]; rfl, Hb0.out⟩
end Go.Proofs.Ytdlgpcjdaaeliaa
