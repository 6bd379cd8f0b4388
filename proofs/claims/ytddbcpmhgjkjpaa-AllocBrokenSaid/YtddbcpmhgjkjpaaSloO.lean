/- Contract: Take of the program. Conditions: numbers fit. -/
import Derived.Test.YtddbcpmhgjkjpaaSloN
namespace Go.Proofs.Ytddbcpmhgjkjpaa
open Go.RowKit

set_option maxRecDepth 100000 in
set_option maxHeartbeats 8000000 in
theorem take_any (v : Value) (l : List Us) (n : Int) (w : World) (hv : UseV w v l) (hl : l.length ≤ 140737488355328) :
    Calls Try.prog 15 #[v, .int .i64 n] w fun e w' => TakeV l n w e w' := by
  have hm := may_any v l w hv hl
  have HUs := Lib.hid (fun w' (h : Below w.heap.size w w') => used_any v l w' (sl_below hv h) hl)
  have HCl := Lib.hid (fun w' (h : Below w.heap.size w w') (h16 : l.length ≤ 1000000) => clone_use v l w' (sl_below hv h) h16)
  have HV := Lib.hid hv
  obtain ⟨aX, cX, rfl, hcX, hnX, hcellX⟩ := hv
  clear hcellX hnX
  cases hmay : mayU l with
  | false =>
    rw [hmay] at hm
    have HK := Lib.hid (takeOk_bad (l := l) (n := n) (fun h => by rw [hmay] at h; cases h.1))
    clear hmay
    go_enter Try.func15, Try.ntmps15
    go_wp2_with fail
    refine hm.mono ?_
    rintro e w1 ⟨rfl, hb1⟩
    go_wp2_with fail
    refine bodyPost_ret (results_tmp3 rfl _ _ _) rfl ?_
    exact takeV_no HK.out hb1
  | true =>
    rw [hmay] at hm
    have HM := Lib.hid hmay
    have hl16 := mayU_len hmay
    clear hmay
    by_cases hn1 : n < 1
    · have HK := Lib.hid (takeOk_bad (l := l) (n := n) (fun h => by omega))
      have d1 : decide (n < 1) = true := by simpa using hn1
      go_enter Try.func15, Try.ntmps15
      go_wp2_with fail
      refine hm.mono ?_
      rintro e w1 ⟨rfl, hb1⟩
      go_wp2_with fail
      refine bodyPost_ret (results_tmp3 rfl _ _ _) rfl ?_
      exact takeV_no HK.out hb1
    by_cases hn8 : 8 < n
    · have HK := Lib.hid (takeOk_bad (l := l) (n := n) (fun h => by omega))
      have d1 : decide (n < 1) = false := by simpa using hn1
      have d2 : decide (8 < n) = true := by simpa using hn8
      go_enter Try.func15, Try.ntmps15
      go_wp2_with fail
      refine hm.mono ?_
      rintro e w1 ⟨rfl, hb1⟩
      go_wp2_with fail
      refine bodyPost_ret (results_tmp3 rfl _ _ _) rfl ?_
      exact takeV_no HK.out hb1
    have hin := Lib.hid (takeAt_in (l := l) (n := n) ⟨HM.out, by omega, by omega⟩)
    have HUL : Hid (usedU l = usedL l) := by unfold Hid usedU; rw [HM.out]; rfl
    have d1 : decide (n < 1) = false := by simpa using hn1
    have d2 : decide (8 < n) = false := by simpa using hn8
    cases hok : takeOk l n with
    | false =>
      have HK := Lib.hid hok
      have hneg : firstP (usedL l) n < 0 := by
        unfold takeOk at hok
        rw [hin.out] at hok
        simpa using hok
      clear hok
      obtain ⟨A, hA⟩ : ∃ A, firstP (usedL l) n = A := ⟨_, rfl⟩
      rw [hA] at hneg
      have HA := Lib.hid hA
      have d3 : decide (A < 0) = true := by simpa using hneg
      clear hA
      go_enter Try.func15, Try.ntmps15
      go_wp2_with fail
      refine hm.mono ?_
      rintro e w1 ⟨rfl, hb1⟩
      have hu := HUs.out _ hb1
      have Hb1 := Lib.hid hb1
      clear hm hb1
      go_wp2_with fail
      refine hu.mono ?_
      rintro e w2 ⟨a2, c2, rfl, hs2, hb2⟩
      have HB2 := Lib.hid (below_step9 Hb1.out hb2)
      rw [HUL.out] at hs2 ⊢
      have hf := first_any _ (usedL l) n w2 hs2 (by rw [usedL_length]; omega)
      rw [usedL_length, HA.out] at hf
      rw [usedL_length]
      clear hu hb2 hs2
      go_wp2_with fail
      refine hf.mono ?_
      rintro e w3 ⟨rfl, hb3⟩
      have HB3 := Lib.hid (below_step9 HB2.out hb3)
      clear hb3
      go_wp2_with fail
      refine bodyPost_ret (results_tmp3 rfl _ _ _) rfl ?_
      exact takeV_no HK.out HB3.out
    | true =>
      obtain ⟨_, _, _, A, hA1, hA2, _⟩ := takeOk_parts hok
      have HK := Lib.hid hok
      have HA := Lib.hid hA2
      have HT : Hid (takeU l n = insU l ((A : Int), n, 1, false) ∧ takeP l n = (A : Int)) := by
        unfold Hid
        have := take_yes hok
        rw [hA1] at this; exact this
      have d3 : decide ((A : Int) < 0) = false := by simp
      clear hok hA1 hA2
      go_enter Try.func15, Try.ntmps15
      go_wp2_with fail
      refine hm.mono ?_
      rintro e w1 ⟨rfl, hb1⟩
      have hu := HUs.out _ hb1
      have Hb1 := Lib.hid hb1
      clear hm hb1
      go_wp2_with fail
      refine hu.mono ?_
      rintro e w2 ⟨a2, c2, rfl, hs2, hb2⟩
      have HB2 := Lib.hid (below_step9 Hb1.out hb2)
      rw [HUL.out] at hs2 ⊢
      have hf := first_any _ (usedL l) n w2 hs2 (by rw [usedL_length]; omega)
      rw [usedL_length, HA.out] at hf
      rw [usedL_length]
      clear hu hb2 hs2
      go_wp2_with fail
      refine hf.mono ?_
      rintro e w3 ⟨rfl, hb3⟩
      have HB3 := Lib.hid (below_step9 HB2.out hb3)
      clear hb3 hf
      go_wp2_with fail
      clear d1 d2 d3
      go_loop [8] (fun i => ∃ k : Nat, k ≤ l.length ∧ i = .int .i64 k ∧ ∀ y ∈ l.take k, y.1 < (A : Int)) (fun i => l.length - (intOf i).toNat)
      case atStart => exact ⟨0, Nat.zero_le _, rfl, by simp⟩
      case round =>
        obtain ⟨k, hk, rfl, hall⟩ := hrel
        have Hall := Lib.hid hall
        clear hall
        have fin : ∀ (hex : ∀ h : k < l.length, ¬ l[k].1 < (A : Int)), Hid (insU l ((A : Int), n, 1, false) = betw l k ((A : Int), n, 1, false)) := fun hex => insU_betw hk Hall.out hex
        have hcl := HCl.out _ HB3.out (by omega)
        have Hcl := Lib.hid hcl
        clear hcl
        by_cases hlt : k < l.length
        · obtain ⟨b0, off, hveq, hblt, e0, e1, e2, e3⟩ := use_at (sl_below HV.out HB3.out) hlt
          subst hveq
          have Htk := Lib.hid (List.take_succ_eq_append_getElem hlt)
          have Fin : Hid (¬ l[k].1 < (A : Int) → insU l ((A : Int), n, 1, false) = betw l k ((A : Int), n, 1, false)) := fun h => (fin (fun _ => h)).out
          have g0 : (k : Int) < (l.length : Int) := by omega
          have g1 : (0 : Int) ≤ (k : Int) := by omega
          have b0' : decide ((k : Int) < (l.length : Int)) = true := by simpa using g0
          clear fin
          generalize l[k] = u at *
          obtain ⟨p, q, c, o⟩ := u
          dsimp only at e0 e1 e2 e3 Fin
          by_cases hA : p < (A : Int)
          · have b1 : decide (p < (A : Int)) = true := by simpa using hA
            have HN : Hid (∀ y ∈ l.take (k + 1), y.1 < (A : Int)) := by
              unfold Hid
              rw [Htk.out]
              intro y hy
              rcases List.mem_append.1 hy with hy | hy
              · exact Hall.out y hy
              · rw [List.mem_singleton.1 hy]; exact hA
            go_wp2_with fail
            exact ⟨⟨k + 1, by omega, by go_num, HN.out⟩, by simp [intOf]; omega⟩
          · have b1 : decide (p < (A : Int)) = false := by simpa using hA
            have HI := Lib.hid (Fin.out hA)
            clear hblt e1 e2 e3
            go_wp2_with fail
            refine Hcl.out.mono ?_
            rintro e w4 ⟨v4, rfl, hown, hb4⟩
            have hs4 := hb4.size
            have hlt4 := owns_lt hown
            have HB4 := Lib.hid (below_step9 HB3.out hb4)
            have hins := insert_use v4 l.length w4.heap.size w3.heap.size w.heap.size l ((A : Int), n, 1, false) k (w4.alloc (.cells #[.int .i64 (A : Int), .int .i64 n, .int .i64 1, .bool false] 41)) (hown.alloc _) (heap_alloc_new w4 _) (fun e => by have := hlt4 _ e; omega) hk (by omega) HB3.out.size (by simp; omega)
            clear hown hb4 hlt4
            go_wp2_with fail
            refine hins.mono ?_
            rintro e w5 ⟨v5, rfl, hown5, hb5⟩
            have HB5 := Lib.hid ((HB4.out.alloc HB4.out.size _).trans hb5)
            have hown5' := hown5
            rw [← HI.out] at hown5'
            obtain ⟨a5, c5, rfl, _⟩ := owns_shape hown5
            have HO5 := Lib.hid (use_of_owns hown5')
            clear hown5 hown5' hins hb5
            go_wp2_with fail
            refine bodyPost_ret (results_tmp3 rfl _ _ _) rfl ?_
            unfold TakeV
            have hlen := HO5.out.2
            rw [HT.out.1, HT.out.2, HK.out, ← hlen]
            exact ⟨_, _, rfl, HO5.out.1, HB5.out⟩
        · obtain rfl : k = l.length := by omega
          have HI := fin (fun h => absurd h (Nat.lt_irrefl _))
          have b0' : decide ((l.length : Int) < (l.length : Int)) = false := by simp
          clear fin
          go_wp2_with fail
          refine Hcl.out.mono ?_
          rintro e w4 ⟨v4, rfl, hown, hb4⟩
          have hs4 := hb4.size
          have hlt4 := owns_lt hown
          have HB4 := Lib.hid (below_step9 HB3.out hb4)
          have hins := insert_use v4 l.length w4.heap.size w3.heap.size w.heap.size l ((A : Int), n, 1, false) l.length (w4.alloc (.cells #[.int .i64 (A : Int), .int .i64 n, .int .i64 1, .bool false] 41)) (hown.alloc _) (heap_alloc_new w4 _) (fun e => by have := hlt4 _ e; omega) hk (by omega) HB3.out.size (by simp; omega)
          clear hown hb4 hlt4
          go_wp2_with fail
          refine hins.mono ?_
          rintro e w5 ⟨v5, rfl, hown5, hb5⟩
          have HB5 := Lib.hid ((HB4.out.alloc HB4.out.size _).trans hb5)
          have hown5' := hown5
          rw [← HI.out] at hown5'
          obtain ⟨a5, c5, rfl, _⟩ := owns_shape hown5
          have HO5 := Lib.hid (use_of_owns hown5')
          clear hown5 hown5' hins hb5
          go_wp2_with fail
          refine bodyPost_ret (results_tmp3 rfl _ _ _) rfl ?_
          unfold TakeV
          have hlen := HO5.out.2
          rw [HT.out.1, HT.out.2, HK.out, ← hlen]
          exact ⟨_, _, rfl, HO5.out.1, HB5.out⟩
end Go.Proofs.Ytddbcpmhgjkjpaa
