/- The walk of RunsMarks. Conditions: numbers fit. -/
import Derived.Test.YtkphhhnejgmgmaaRunsF
namespace Go.Proofs.Ytkphhhnejgmgmaa
open Go.RowKit

/-- A box of three. -/
theorem boxed3 (w : World) (v0 v1 v2 : Value) (t : TypeId) : ∃ W2, w.alloc (.cells #[v0, v1, v2] t) = W2 ∧
    W2.cell? ⟨w.heap.size, 0, none⟩ = some v0 ∧ W2.cell? ⟨w.heap.size, 1, none⟩ = some v1 ∧ W2.cell? ⟨w.heap.size, 2, none⟩ = some v2 ∧ w.heap.size < W2.heap.size ∧ Below w.heap.size w W2 :=
  ⟨_, rfl, by simp, by simp, by simp, by simp, (Below.refl _ _).alloc (Nat.le_refl _) _⟩

set_option maxHeartbeats 4000000 in
theorem marks_walk (v : Value) (bs : List Bool) (xa xn xk : Int) (w : World) (hv : BitsR w v bs) (hl : bs.length ≤ 140737488355328) (ba : xa ≤ 9223372036854775807) :
    Calls Try.prog 5 #[v, .agg #[.int .i64 xa, .int .i64 xn, .int .i64 xk]] w fun e w' => e = .returned (.bool true) ∧ Below w.heap.size w w' := by
  obtain ⟨a0, c0, rfl, _⟩ := id hv
  go_enter Try.func5, Try.ntmps5
  go_wp2_with fail
  obtain ⟨W2, hW2, e0, e1, e2, hw0, hbw⟩ := boxed3 w (.int .i64 xa) (.int .i64 xn) (.int .i64 xk) 31
  rw [hW2]
  clear hW2
  have hv2 := sl_below hv hbw
  cases hf : fitsI bs xa xn
  · refine (mark_no _ bs xa xn _ hv2 hl ba hf).mono ?_
    rintro e w1 ⟨rfl, rfl⟩
    go_wp2_with fail
    refine (fixed13_any _).mono ?_
    rintro e w1 ⟨rfl, hb1⟩
    go_wp2_with fail
    refine (fixed13_any _).mono ?_
    rintro e w2 ⟨rfl, hb2⟩
    go_wp2_with fail
    go_ret
    exact ⟨rfl, below_step (below_step hbw (hb1.mono (Nat.le_refl _))) hb2⟩
  · obtain ⟨P, M, rfl, rfl, hM1, hPM, hfit⟩ := fitsI_nats hf
    refine (mark_yes _ bs P M _ hv2 hl hf).mono ?_
    rintro e w1 ⟨a1, c1, l1, rfl, hl1, hs1, hb1⟩
    rw [Int.toNat_natCast, Int.toNat_natCast] at hl1
    have hlen1 : l1.length = bs.length := by rw [hl1.out, markP_length hPM]
    have Hlen1 := Lib.hid hlen1
    clear hlen1
    go_wp2_with fail
    refine (fixed13_any _).mono ?_
    rintro e w2 ⟨rfl, hb2⟩
    have hB2 := below_step hb1 hb2
    have hs2 := sl_below hs1 hb2
    clear hb1 hb2 hs1
    by_cases h1 : 100 < (bs.length : Int)
    · go_wp2_with fail
      refine (fixed13_any _).mono ?_
      rintro e w3 ⟨rfl, hb3⟩
      go_wp2_with fail
      go_ret
      exact ⟨rfl, below_step (below_step hbw hB2) hb3⟩
    · have hc2 := (held_of hB2).1
      go_wp2_with fail
      have hagain : fitsI l1 P M = false := by rw [hl1.out]; exact fitsI_mark hM1 hPM
      refine (mark_no _ l1 P M _ hs2 (by rw [Hlen1.out]; exact hl) ba hagain).mono ?_
      rintro e w3 ⟨rfl, rfl⟩
      have q0 : w2.cell? ⟨w.heap.size, 0, none⟩ = some (.int .i64 P) := by rw [hc2 _ _ hw0, e0]
      have q1 : w2.cell? ⟨w.heap.size, 1, none⟩ = some (.int .i64 M) := by rw [hc2 _ _ hw0, e1]
      have q2 : w2.cell? ⟨w.heap.size, 2, none⟩ = some (.int .i64 xk) := by rw [hc2 _ _ hw0, e2]
      have hv3 := sl_below hv2 hB2
      have HB : Below w.heap.size w w2 := below_step hbw hB2
      have hw2 : w.heap.size < w2.heap.size := Nat.lt_of_lt_of_le hw0 hB2.size
      clear hc2 hB2 hbw e0 e1 e2 hw0 hv2 hv hagain
      rcases sl_one hv3 with ⟨rfl, _⟩ | ⟨hp0, b0, o0, cc0, hq0, hcc0, hbb0, cell0⟩
      · exfalso; simp at hPM; omega
      rcases sl_one hs2 with ⟨hnil, _⟩ | ⟨hp1, b1, o1, cc1, hq1, hcc1, hbb1, cell1⟩
      · exfalso; have := Hlen1.out; rw [hnil] at this; simp at this; omega
      injection hq0 with r1 r2 r3
      subst r1 r3
      injection hq1 with r1 r2 r3
      subst r1 r3
      go_wp2_with fail
      go_loopw [9] (fun i wr => ∃ k : Nat, k ≤ bs.length ∧ i = .int .i64 k ∧ ∃ n, wr = w2.drewN n) (fun i _ => bs.length - (intOf i).toNat)
      case atStart => exact ⟨0, Nat.zero_le _, rfl, 0, rfl⟩
      case round =>
        obtain ⟨k, hk, rfl, nd, rfl⟩ := hrel
        by_cases hlt : k < bs.length
        · have f0 := cell0 k hlt
          have f1 := cell1 k (by rw [Hlen1.out]; exact hlt)
          have hx : l1[k]'(by rw [Hlen1.out]; exact hlt) = (bs[k] || (decide (P ≤ k) && decide (k < P + M))) := by
            have h1 : l1.getD k true = (if P ≤ k ∧ k < P + M then true else bs.getD k true) := by rw [hl1.out, markP_get hPM]
            rw [List.getD_eq_getElem?_getD, List.getElem?_eq_getElem (by rw [Hlen1.out]; exact hlt), List.getD_eq_getElem?_getD, List.getElem?_eq_getElem hlt] at h1
            simp only [Option.getD_some] at h1
            rw [h1]
            by_cases c : P ≤ k ∧ k < P + M
            · rw [if_pos c]; simp [c.1, c.2]
            · rw [if_neg c]
              have : (decide (P ≤ k) && decide (k < P + M)) = false := by
                rw [Bool.and_eq_false_iff, decide_eq_false_iff_not, decide_eq_false_iff_not]; omega
              rw [this, Bool.or_false]
          have s0 : (0 : Int) ≤ (k : Int) := by omega
          have s1 : (k : Int) < (bs.length : Int) := by omega
          have s2 : (k : Int) < (l1.length : Int) := by have := Hlen1.out; omega
          have s3 : IntKind.i64.wrap ((P : Int) + (M : Int)) = (P : Int) + (M : Int) := IntWalk.i64_in _ (by omega)
          have S3 := Lib.hid s3
          have Hx := Lib.hid hx
          clear cell0 cell1 hx s3
          generalize l1[k]'(by rw [Hlen1.out]; exact hlt) = x at *
          generalize bs[k] = y at *
          cases y
          · by_cases c1 : P ≤ k
            · by_cases c2 : k < P + M
              · obtain rfl : x = true := by rw [Hx.out]; simp [c1, c2]
                have d1 : decide ((P : Int) ≤ (k : Int)) = true := decide_eq_true (by omega)
                have d2 : decide ((k : Int) < (P : Int) + (M : Int)) = true := decide_eq_true (by omega)
                have s3 := S3.out
                go_wp2_with fail
                go_quiet (fail)
                go_wp2_with fail
                exact ⟨⟨k + 1, by omega, by go_num, _, rfl⟩, by simp [intOf]; omega⟩
              · obtain rfl : x = false := by rw [Hx.out]; simp [c2]
                have d1 : decide ((P : Int) ≤ (k : Int)) = true := decide_eq_true (by omega)
                have d2 : decide ((k : Int) < (P : Int) + (M : Int)) = false := decide_eq_false (by omega)
                have s3 := S3.out
                go_wp2_with fail
                go_quiet (fail)
                go_wp2_with fail
                exact ⟨⟨k + 1, by omega, by go_num, _, rfl⟩, by simp [intOf]; omega⟩
            · obtain rfl : x = false := by rw [Hx.out]; simp [c1]
              have d1 : decide ((P : Int) ≤ (k : Int)) = false := decide_eq_false (by omega)
              go_wp2_with fail
              go_quiet (fail)
              go_wp2_with fail
              exact ⟨⟨k + 1, by omega, by go_num, _, rfl⟩, by simp [intOf]; omega⟩
          · obtain rfl : x = true := by rw [Hx.out]; rfl
            go_wp2_with fail
            go_quiet (fail)
            go_wp2_with fail
            exact ⟨⟨k + 1, by omega, by go_num, _, rfl⟩, by simp [intOf]; omega⟩
        · obtain rfl : k = bs.length := by omega
          have hs3 : BitsR (w2.drewN nd) (.slice (some ⟨b1, o1, none⟩) l1.length c1) l1 := hs2
          have hv4 : BitsR (w2.drewN nd) (.slice (some ⟨b0, o0, none⟩) bs.length c0) bs := hv3
          have HB3 : Below w.heap.size w (w2.drewN nd) := below_drewN HB nd
          have g1 : ((l1.length : Int) == (bs.length : Int)) = true := by rw [Hlen1.out]; simp
          by_cases k1 : xk < 1
          · clear cell0 cell1
            go_wp2_with fail
            go_ret
            exact ⟨rfl, HB3⟩
          by_cases k2 : (M : Int) ≤ xk
          · clear cell0 cell1
            go_wp2_with fail
            go_ret
            exact ⟨rfl, HB3⟩
          obtain ⟨K, rfl⟩ := Int.eq_ofNat_of_zero_le (a := xk) (by omega)
          have hfa : fitsI bs P K = true := fitsI_of (by omega) (fits_mono hfit (by omega))
          have e0' : (w2.drewN nd).cell? ⟨w.heap.size, 0, none⟩ = some (.int .i64 P) := q0
          clear cell0 cell1 g1
          go_wp2_with fail
          refine (mark_yes _ bs P K _ hv4 hl hfa).mono ?_
          rintro e w4 ⟨a4, c4, l4, rfl, hl4, hs4, hb4⟩
          rw [Int.toNat_natCast, Int.toNat_natCast] at hl4
          have hc4 := (held_of hb4).1
          have hfb : fitsI l4 ((P + K : Nat) : Int) ((M - K : Nat) : Int) = true := by rw [hl4.out]; exact fitsI_of (by omega) (fits_parts (by omega) hfit)
          have u1 : ((P + K : Nat) : Int) = (P : Int) + (K : Int) := by omega
          have u2 : ((M - K : Nat) : Int) = (M : Int) - (K : Int) := by omega
          have hlen4 : l4.length ≤ 140737488355328 := by rw [hl4.out, markP_length (by omega)]; exact hl
          rw [u1, u2] at hfb
          have p0 : w4.cell? ⟨w.heap.size, 0, none⟩ = some (.int .i64 P) := by rw [hc4 _ _ hw2]; exact q0
          have p1 : w4.cell? ⟨w.heap.size, 1, none⟩ = some (.int .i64 M) := by rw [hc4 _ _ hw2]; exact q1
          have p2 : w4.cell? ⟨w.heap.size, 2, none⟩ = some (.int .i64 K) := by rw [hc4 _ _ hw2]; exact q2
          have Hfb := Lib.hid hfb
          clear hc4 hfb u1 u2
          go_wp2_with fail
          refine (mark_yes _ l4 _ _ _ hs4 hlen4 Hfb.out).mono ?_
          rintro e w5 ⟨a5, c5, l5, rfl, hl5, hs5, hb5⟩
          have q5 : l5 = l1 := by
            rw [hl5.out, hl4.out, hl1.out]
            rw [show ((P : Int) + (K : Int)).toNat = P + K by omega, show ((M : Int) - (K : Int)).toNat = M - K by omega]
            exact mark_parts (by omega) hPM
          have hqq : (l5 == l1) = true := by rw [q5]; exact beq_iff_eq.2 rfl
          have hl5n : l5.length ≤ 140737488355328 := by rw [q5, Hlen1.out]; exact hl
          have hl1n : l1.length ≤ 140737488355328 := by rw [Hlen1.out]; exact hl
          clear q5
          go_wp2_with fail
          refine (same_r _ _ l5 l1 _ hs5 (sl_below (sl_below hs3 hb4) hb5) (by omega) (by omega)).mono ?_
          rintro e w6 ⟨rfl, hb6⟩
          go_wp2_with fail
          go_ret
          exact ⟨rfl, below_step (below_step (below_step HB3 hb4) hb5) hb6⟩
end Go.Proofs.Ytkphhhnejgmgmaa
