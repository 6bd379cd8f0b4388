/- down of container/heap, at a forest. Conditions: numbers fit. -/
import Derived.Test.YtpkbbbdbcedkfaaHufC
namespace Go.Proofs.Ytpkbbbdbcedkfaa
open Go.RowKit

theorem child_left_min {A : List HT} {n k : Nat} (h : ¬ 2 * k + 2 < n) : ∀ i, 0 < i → i < n → par i = k → leT (atT A (2 * k + 1)) (atT A i) := fun i h0 hi hp => by
  rcases par_child h0 hp with rfl | rfl
  · exact leT_refl _
  · omega
theorem child_min {A : List HT} {n k c d : Nat} (hcd : (c = 2 * k + 1 ∧ d = 2 * k + 2) ∨ (c = 2 * k + 2 ∧ d = 2 * k + 1)) (h : leT (atT A c) (atT A d)) : ∀ i, 0 < i → i < n → par i = k → leT (atT A c) (atT A i) := fun i h0 _ hp => by
  rcases par_child h0 hp with rfl | rfl <;> rcases hcd with ⟨rfl, rfl⟩ | ⟨rfl, rfl⟩
  · exact leT_refl _
  · exact h
  · exact h
  · exact leT_refl _

set_option maxRecDepth 100000 in
set_option maxHeartbeats 8000000 in
theorem down_any (B F : Nat) (A : List HT) (n : Nat) (w : World) (h : ForS B F w A) (hn : A.length = n + 1) (hl : A.length ≤ 1000000) (hh : HeapDn A n 0) :
    Calls Try.prog 28 #[forestV F, .int .i64 0, .int .i64 n] w fun e w' => (∃ b, e = .returned (.bool b)) ∧ ∃ A', ForS B F w' A' ∧ A'.Perm A ∧ Heap A' n ∧ atT A' n = atT A n ∧ Kp B w w' := by
  have H := Lib.hid h
  have HH := Lib.hid hh
  clear h hh
  go_enter Try.func28, Try.ntmps28
  go_wp2_with fail
  go_loopw [7] (fun i wr => ∃ (k : Nat) (A1 : List HT), i = .int .i64 k ∧ k ≤ n ∧ ForS B F wr A1 ∧ A1.Perm A ∧ HeapDn A1 n k ∧ atT A1 n = atT A n ∧ Kp B w wr) (fun i _ => n - (intOf i).toNat)
  case atStart => exact ⟨0, A, rfl, Nat.zero_le _, H.out, List.Perm.refl _, HH.out, rfl, Kp.refl _ _⟩
  case round =>
    obtain ⟨k, A1, rfl, hk, hfs, hp, hdn, hlast, hkp⟩ := hrel
    have hlen := hp.length_eq
    have Hp := Lib.hid hp
    have Hdn := Lib.hid hdn
    have Hkp := Lib.hid hkp
    have Hlast := Lib.hid hlast
    have Hfs := Lib.hid hfs
    clear hp hdn hkp hfs hlast H HH
    have g0 : (0 : Int) ≤ 2 * (k : Int) + 1 := by omega
    by_cases h1 : 2 * k + 1 < n
    · have hkn : k < n := by omega
      have g1 : 2 * (k : Int) + 1 < (n : Int) := by omega
      have d1 : decide ((n : Int) ≤ 2 * (k : Int) + 1) = false := by simp; omega
      have d2 : decide (2 * (k : Int) + 1 < 0) = false := by simp; omega
      obtain ⟨v, ps, hB, hF, hr⟩ := Hfs.out
      have hcell := fs_cell hF
      have m1 := meth_less F wr v hcell
      by_cases h2 : 2 * k + 2 < n
      · have g2 : 2 * (k : Int) + 1 + 1 < (n : Int) := by omega
        have d3 : decide (2 * (k : Int) + 1 + 1 < (n : Int)) = true := by simp; omega
        have hless := less_fs hB hF hr (2 * k + 2) (2 * k + 1) (by omega) (by omega) (by omega)
        rw [show (((2 * k + 2 : Nat)) : Int) = 2 * (k : Int) + 1 + 1 by omega, show (((2 * k + 1 : Nat)) : Int) = 2 * (k : Int) + 1 by omega] at hless
        clear hB hF hr hcell
        go_wp2_with fail
        refine hless.mono ?_
        rintro e wX ⟨rfl, hfsX, hkpX⟩
        have HkpX := Lib.hid (Hkp.out.trans hkpX)
        have HfsX := Lib.hid hfsX
        clear hless m1 hkpX hfsX
        cases hl2 : ltT (atT A1 (2 * k + 2)) (atT A1 (2 * k + 1)) with
        | true =>
          have Hl2 := Lib.hid hl2
          clear hl2
          have hcn : 2 * k + 2 < n := by omega
          obtain ⟨v3, ps3, hB3, hF3, hr3⟩ := HfsX.out
          have hcell3 := fs_cell hF3
          have m3 := meth_less F wX v3 hcell3
          have hless3 := less_fs hB3 hF3 hr3 (2 * k + 2) k (by omega) (by omega) (by omega)
          rw [show (((2 * k + 2 : Nat)) : Int) = 2 * (k : Int) + 1 + 1 by omega] at hless3
          clear hB3 hF3 hr3 hcell3
          go_wp2_with fail
          refine hless3.mono ?_
          rintro e w4 ⟨rfl, hfs4, hkp4⟩
          have Hkp4 := Lib.hid (HkpX.out.trans hkp4)
          clear hless3 m3 hkp4
          cases hlt : ltT (atT A1 (2 * k + 2)) (atT A1 k) with
          | false =>
            have Hlt := Lib.hid hlt
            have Hmin := Lib.hid (show ∀ i, 0 < i → i < n → par i = k → leT (atT A1 (2 * k + 2)) (atT A1 i) from child_min (Or.inr ⟨rfl, rfl⟩) (leT_of_lt Hl2.out))
            clear hlt
            go_wp2_with fail
            go_ret
            exact ⟨⟨_, rfl⟩, A1, hfs4, Hp.out, dn_end Hdn.out (fun i q1 q2 q3 => leT_trans Hlt.out (Hmin.out i q1 q2 q3)), Hlast.out, Hkp4.out⟩
          | true =>
            have Hlt := Lib.hid hlt
            have Hmin := Lib.hid (show ∀ i, 0 < i → i < n → par i = k → leT (atT A1 (2 * k + 2)) (atT A1 i) from child_min (Or.inr ⟨rfl, rfl⟩) (leT_of_lt Hl2.out))
            obtain ⟨v5, ps5, hB5, hF5, hr5⟩ := hfs4
            have hcell5 := fs_cell hF5
            have m5 := meth_swap F w4 v5 hcell5
            have hswap := swap_fs hB5 hF5 hr5 k (2 * k + 2) (by omega) (by omega) (by omega)
            rw [show (((2 * k + 2 : Nat)) : Int) = 2 * (k : Int) + 1 + 1 by omega] at hswap
            clear hlt hB5 hF5 hr5 hcell5
            go_wp2_with fail
            refine hswap.mono ?_
            rintro e w6 ⟨rfl, hfs6, hkp6⟩
            go_wp2_with fail
            refine ⟨⟨2 * k + 2, swapT A1 k (2 * k + 2), by congr 1, by omega, hfs6, (swapT_perm (by omega) (by omega)).trans Hp.out, dn_step (by omega) hkn hcn (par_right k) (by omega) Hdn.out Hmin.out Hlt.out, ?_, Hkp4.out.trans hkp6⟩, by simp [intOf]; omega⟩
            rw [swapT_at (by omega) (by omega), if_neg (by omega), if_neg (by omega)]
            exact Hlast.out
        | false =>
          have Hl2 := Lib.hid hl2
          clear hl2
          have hcn : 2 * k + 1 < n := by omega
          obtain ⟨v3, ps3, hB3, hF3, hr3⟩ := HfsX.out
          have hcell3 := fs_cell hF3
          have m3 := meth_less F wX v3 hcell3
          have hless3 := less_fs hB3 hF3 hr3 (2 * k + 1) k (by omega) (by omega) (by omega)
          rw [show (((2 * k + 1 : Nat)) : Int) = 2 * (k : Int) + 1 by omega] at hless3
          clear hB3 hF3 hr3 hcell3
          go_wp2_with fail
          refine hless3.mono ?_
          rintro e w4 ⟨rfl, hfs4, hkp4⟩
          have Hkp4 := Lib.hid (HkpX.out.trans hkp4)
          clear hless3 m3 hkp4
          cases hlt : ltT (atT A1 (2 * k + 1)) (atT A1 k) with
          | false =>
            have Hlt := Lib.hid hlt
            have Hmin := Lib.hid (show ∀ i, 0 < i → i < n → par i = k → leT (atT A1 (2 * k + 1)) (atT A1 i) from child_min (Or.inl ⟨rfl, rfl⟩) Hl2.out)
            clear hlt
            go_wp2_with fail
            go_ret
            exact ⟨⟨_, rfl⟩, A1, hfs4, Hp.out, dn_end Hdn.out (fun i q1 q2 q3 => leT_trans Hlt.out (Hmin.out i q1 q2 q3)), Hlast.out, Hkp4.out⟩
          | true =>
            have Hlt := Lib.hid hlt
            have Hmin := Lib.hid (show ∀ i, 0 < i → i < n → par i = k → leT (atT A1 (2 * k + 1)) (atT A1 i) from child_min (Or.inl ⟨rfl, rfl⟩) Hl2.out)
            obtain ⟨v5, ps5, hB5, hF5, hr5⟩ := hfs4
            have hcell5 := fs_cell hF5
            have m5 := meth_swap F w4 v5 hcell5
            have hswap := swap_fs hB5 hF5 hr5 k (2 * k + 1) (by omega) (by omega) (by omega)
            rw [show (((2 * k + 1 : Nat)) : Int) = 2 * (k : Int) + 1 by omega] at hswap
            clear hlt hB5 hF5 hr5 hcell5
            go_wp2_with fail
            refine hswap.mono ?_
            rintro e w6 ⟨rfl, hfs6, hkp6⟩
            go_wp2_with fail
            refine ⟨⟨2 * k + 1, swapT A1 k (2 * k + 1), by congr 1, by omega, hfs6, (swapT_perm (by omega) (by omega)).trans Hp.out, dn_step (by omega) hkn hcn (par_left k) (by omega) Hdn.out Hmin.out Hlt.out, ?_, Hkp4.out.trans hkp6⟩, by simp [intOf]; omega⟩
            rw [swapT_at (by omega) (by omega), if_neg (by omega), if_neg (by omega)]
            exact Hlast.out
      · have g2 : ¬ (2 * (k : Int) + 1 + 1 < (n : Int)) := by omega
        have d3 : decide (2 * (k : Int) + 1 + 1 < (n : Int)) = false := by simp; omega
        have HkpX := Hkp
        have HfsX := Hfs
        obtain ⟨wX, hwX⟩ : ∃ wX : World, wX = wr := ⟨_, rfl⟩
        subst hwX
        clear hB hF hr hcell m1
        have hcn : 2 * k + 1 < n := by omega
        obtain ⟨v3, ps3, hB3, hF3, hr3⟩ := HfsX.out
        have hcell3 := fs_cell hF3
        have m3 := meth_less F wX v3 hcell3
        have hless3 := less_fs hB3 hF3 hr3 (2 * k + 1) k (by omega) (by omega) (by omega)
        rw [show (((2 * k + 1 : Nat)) : Int) = 2 * (k : Int) + 1 by omega] at hless3
        clear hB3 hF3 hr3 hcell3
        go_wp2_with fail
        refine hless3.mono ?_
        rintro e w4 ⟨rfl, hfs4, hkp4⟩
        have Hkp4 := Lib.hid (HkpX.out.trans hkp4)
        clear hless3 m3 hkp4
        cases hlt : ltT (atT A1 (2 * k + 1)) (atT A1 k) with
        | false =>
          have Hlt := Lib.hid hlt
          have Hmin := Lib.hid (show ∀ i, 0 < i → i < n → par i = k → leT (atT A1 (2 * k + 1)) (atT A1 i) from child_left_min h2)
          clear hlt
          go_wp2_with fail
          go_ret
          exact ⟨⟨_, rfl⟩, A1, hfs4, Hp.out, dn_end Hdn.out (fun i q1 q2 q3 => leT_trans Hlt.out (Hmin.out i q1 q2 q3)), Hlast.out, Hkp4.out⟩
        | true =>
          have Hlt := Lib.hid hlt
          have Hmin := Lib.hid (show ∀ i, 0 < i → i < n → par i = k → leT (atT A1 (2 * k + 1)) (atT A1 i) from child_left_min h2)
          obtain ⟨v5, ps5, hB5, hF5, hr5⟩ := hfs4
          have hcell5 := fs_cell hF5
          have m5 := meth_swap F w4 v5 hcell5
          have hswap := swap_fs hB5 hF5 hr5 k (2 * k + 1) (by omega) (by omega) (by omega)
          rw [show (((2 * k + 1 : Nat)) : Int) = 2 * (k : Int) + 1 by omega] at hswap
          clear hlt hB5 hF5 hr5 hcell5
          go_wp2_with fail
          refine hswap.mono ?_
          rintro e w6 ⟨rfl, hfs6, hkp6⟩
          go_wp2_with fail
          refine ⟨⟨2 * k + 1, swapT A1 k (2 * k + 1), by congr 1, by omega, hfs6, (swapT_perm (by omega) (by omega)).trans Hp.out, dn_step (by omega) hkn hcn (par_left k) (by omega) Hdn.out Hmin.out Hlt.out, ?_, Hkp4.out.trans hkp6⟩, by simp [intOf]; omega⟩
          rw [swapT_at (by omega) (by omega), if_neg (by omega), if_neg (by omega)]
          exact Hlast.out
    · have g1 : (n : Int) ≤ 2 * (k : Int) + 1 := by omega
      have d1 : decide ((n : Int) ≤ 2 * (k : Int) + 1) = true := by simp; omega
      go_wp2_with fail
      go_ret
      exact ⟨⟨_, rfl⟩, A1, Hfs.out, Hp.out, dn_end Hdn.out (fun i q1 q2 q3 => by rcases par_child q1 q3 with h | h <;> omega), Hlast.out, Hkp.out⟩
end Go.Proofs.Ytpkbbbdbcedkfaa
