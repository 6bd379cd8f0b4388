/- How broken what is free is: the program's answer and the document's. Conditions: numbers fit. -/
import Derived.Test.YtddbcpmhgjkjpaaAlcS
namespace Go.Proofs.Ytddbcpmhgjkjpaa
open Go.RowKit

def BrokenV (ls : List (List Us)) (r : Nat) : Prop :=
  (mayT ls = false ∧ r = 0) ∨ (mayT ls = true ∧ (ls.map freeN).sum = 0 ∧ NaNB r) ∨ (mayT ls = true ∧ (ls.map freeN).sum ≠ 0 ∧ NumB r ∧ brk (ls.map longN).sum (ls.map freeN).sum = some r)
theorem num_zero : NumB 0 := fun s t => by
  have : FloatKind.f64.format.read 0 = .number false 0 (-1074) := by decide +kernel
  rw [this]; nofun
theorem broken_same {ls : List (List Us)} {a b : Nat} (ha : BrokenV ls a) (hb : BrokenV ls b) : (NaNB a ∧ NaNB b) ∨ (a = b ∧ NumB a) := by
  rcases ha with ⟨h1, rfl⟩ | ⟨h1, h2, h3⟩ | ⟨h1, h2, h3, h4⟩
  · rcases hb with ⟨_, rfl⟩ | ⟨k1, _⟩ | ⟨k1, _⟩
    · exact Or.inr ⟨rfl, num_zero⟩
    · rw [h1] at k1; cases k1
    · rw [h1] at k1; cases k1
  · rcases hb with ⟨k1, _⟩ | ⟨_, _, k3⟩ | ⟨_, k2, _⟩
    · rw [h1] at k1; cases k1
    · exact Or.inl ⟨h3, k3⟩
    · exact absurd h2 k2
  · rcases hb with ⟨k1, _⟩ | ⟨_, k2, _⟩ | ⟨_, _, _, k4⟩
    · rw [h1] at k1; cases k1
    · exact absurd k2 h2
    · rw [h4] at k4; injection k4 with k4; exact Or.inr ⟨k4, h3⟩
theorem long_le_sum (ls : List (List Us)) : (ls.map longN).sum ≤ (ls.map freeN).sum := by
  induction ls with
  | nil => simp
  | cons l ls ih =>
    have h : longN l ≤ freeN l := long_free _
    simp only [List.map_cons, List.sum_cons]; omega
theorem brk_of {n m q r : Nat} (hq : floatBits .quo .f64 (floatOfInt .f64 n) (floatOfInt .f64 m) = some q) (hr : floatBits .sub .f64 4607182418800017408 q = some r) : brk n m = some r := by
  unfold brk; rw [hq]; exact hr

set_option maxRecDepth 100000 in
set_option maxHeartbeats 2000000 in
theorem brokenTP_any (v : Value) (ls : List (List Us)) (w : World) (hv : TabV w v ls) (hf : FewT ls) (h40 : ls.length ≤ 40) :
    Calls Try.prog 44 #[v] w fun e w' => ∃ r, e = .returned (.float .f64 r) ∧ BrokenV ls r ∧ Below w.heap.size w w' := by
  have hc := mayTP_any v ls w hv hf
  have hd : ∀ w1, Below w.heap.size w w1 → _ := fun w1 hb => eachI_any 73 (run_func_enter Try.func73 (by kernel_rfl) rfl) longN (fun v l w hv hl => longA_any v l w hv hl) v ls w1 (tab_below hv hb) hf
  have hd' : ∀ w1, Below w.heap.size w w1 → _ := fun w1 hb => eachI_any 65 (run_func_enter Try.func65 (by kernel_rfl) rfl) freeN (fun v l w hv hl => freeA_any v l w hv hl) v ls w1 (tab_below hv hb) hf
  have n1 := sum_bound longN longN_le ls
  have n2 := sum_bound freeN freeN_le ls
  have n3 := long_le_sum ls
  obtain ⟨aX, cX, rfl, hnX, _⟩ := tab_shape hv
  clear hv hnX hf
  cases hm : mayT ls with
  | false =>
    have HE : Hid (BrokenV ls 0) := Or.inl ⟨hm, rfl⟩
    rw [hm] at hc
    clear hd hd' hm
    go_enter Try.func44, Try.ntmps44
    go_wp2_with fail
    refine hc.mono ?_
    rintro e w1 ⟨rfl, hb1⟩
    go_wp2_with fail
    go_ret
    exact ⟨0, rfl, HE.out, hb1⟩
  | true =>
    have HM := Lib.hid hm
    rw [hm] at hc
    clear hm
    go_enter Try.func44, Try.ntmps44
    go_wp2_with fail
    refine hc.mono ?_
    rintro e w1 ⟨rfl, hb1⟩
    have HB1 := Lib.hid hb1
    have hd1 := hd w1 hb1
    clear hc hb1 hd
    go_wp2_with fail
    refine hd1.mono ?_
    rintro e w2 ⟨a2, c2, rfl, hs, hb2⟩
    have he := sumN_any _ _ w2 hs (by rw [List.length_map]; omega) (by omega)
    have HB2 := Lib.hid (below_step9 HB1.out hb2)
    clear hs hb2 hd1
    go_wp2_with fail
    refine he.mono ?_
    rintro e w3 ⟨rfl, rfl⟩
    have hd2 := hd' w2 HB2.out
    clear he hd'
    go_wp2_with fail
    refine hd2.mono ?_
    rintro e w4 ⟨a4, c4, rfl, hs, hb4⟩
    have he := sumN_any _ _ w4 hs (by rw [List.length_map]; omega) (by omega)
    have HB4 := Lib.hid (below_step9 HB2.out hb4)
    clear hs hb4 hd2
    go_wp2_with fail
    refine he.mono ?_
    rintro e w5 ⟨rfl, rfl⟩
    clear he
    have HBV : Hid (∀ q r, PartV (ls.map longN).sum (ls.map freeN).sum q → ((ls.map freeN).sum = 0 → NaNB r) → ((ls.map freeN).sum ≠ 0 → NumB r ∧ floatBits .sub .f64 4607182418800017408 q = some r) → BrokenV ls r) := by
      intro q r hp h1 h2
      rcases hp with ⟨z, _⟩ | ⟨z, hq, _⟩
      · exact Or.inr (Or.inl ⟨HM.out, z, h1 z⟩)
      · exact Or.inr (Or.inr ⟨HM.out, z, (h2 z).1, brk_of hq (h2 z).2⟩)
    have hp := partP_any (ls.map longN).sum (ls.map freeN).sum w4 (by omega) (by omega) (by omega)
    clear n1 n2 n3
    generalize (ls.map longN).sum = n at *
    generalize (ls.map freeN).sum = m at *
    go_wp2_with fail
    refine hp.mono ?_
    rintro e w6 ⟨q, rfl, hpv, hb6⟩
    have HB6 := Lib.hid (below_step9 HB4.out hb6)
    have HP := Lib.hid hpv
    clear hp hb6
    rcases hpv with ⟨hz, hq⟩ | ⟨hz, _, hq⟩
    · obtain ⟨r, hr, hrun⟩ := run_float_none (P := Try.prog) w6 .sub (Or.inl rfl) 61 4607182418800017408 q (nan_sub hq _)
      have HR := Lib.hid (HBV.out q r HP.out (fun _ => hr) (fun h => absurd hz h))
      clear hr hq hz
      go_wp2_with fail
      go_ret
      exact ⟨r, rfl, HR.out, HB6.out.drew⟩
    · obtain ⟨r, hr, hrn⟩ := sub_one hq
      have q1 : ∀ t w, (binOp .sub t (.float .f64 4607182418800017408) (.float .f64 q)).run Try.prog w = .ok (.float .f64 r) w := fun t w => run_float_arith w .sub t .f64 _ _ _ hr
      have HR := Lib.hid (HBV.out q r HP.out (fun h => absurd h hz) (fun _ => ⟨hrn, hr⟩))
      clear hr hq hz hrn
      go_wp2_with fail
      go_ret
      exact ⟨r, rfl, HR.out, HB6.out⟩

set_option maxRecDepth 100000 in
set_option maxHeartbeats 2000000 in
theorem brokenTR_any (v : Value) (ls : List (List Us)) (w : World) (hv : TabV w v ls) (hf : FewT ls) (h40 : ls.length ≤ 40) :
    Calls Try.prog 53 #[v] w fun e w' => ∃ r, e = .returned (.float .f64 r) ∧ BrokenV ls r ∧ Below w.heap.size w w' := by
  have hc := mayTR_any v ls w hv hf
  have hfr : ∀ w1, Below w.heap.size w w1 → _ := fun w1 hb => freeTR_any v ls w1 (tab_below hv hb) hf
  have n1 := sum_bound longN longN_le ls
  have n2 := sum_bound freeN freeN_le ls
  have n3 := long_le_sum ls
  have HV := Lib.hid hv
  have hf1 := hf.1
  obtain ⟨aX, cX, rfl, hnX, _⟩ := tab_shape hv
  clear hv hnX hf
  cases hm : mayT ls with
  | false =>
    have HE : Hid (BrokenV ls 0) := Or.inl ⟨hm, rfl⟩
    rw [hm] at hc
    clear hfr hm
    go_enter Try.func53, Try.ntmps53
    go_wp2_with fail
    refine hc.mono ?_
    rintro e w1 ⟨rfl, hb1⟩
    go_wp2_with fail
    go_ret
    exact ⟨0, rfl, HE.out, hb1⟩
  | true =>
    have HM := Lib.hid hm
    have HFT : Hid (freeTn ls = (ls.map freeN).sum) := by unfold Hid freeTn; rw [if_pos hm]
    rw [hm] at hc
    clear hm
    go_enter Try.func53, Try.ntmps53
    go_wp2_with fail
    refine hc.mono ?_
    rintro e w1 ⟨rfl, hb1⟩
    have HB1 := Lib.hid hb1
    clear hc hb1
    go_wp2_with fail
    go_loopw [3, 4] (fun s i wr => ∃ k : Nat, k ≤ ls.length ∧ i = .int .i64 k ∧ s = .int .i64 (((ls.map longN).take k).sum : Nat) ∧ Below w.heap.size w wr) (fun _ i _ => ls.length - (intOf i).toNat)
    case atStart => exact ⟨0, Nat.zero_le _, rfl, rfl, HB1.out⟩
    case round =>
      clear HB1
      obtain ⟨k, hk, rfl, rfl, hb⟩ := hrel
      have Hb := Lib.hid hb
      clear hb
      by_cases hlt : k < ls.length
      · have g0 : (k : Int) < (ls.length : Int) := by omega
        have g1 : (0 : Int) ≤ (k : Int) := by omega
        have hle := sum_take_le (ls.map longN) k
        have HA1 : Hid (((ls.map longN).take (k + 1)).sum = ((ls.map longN).take k).sum + longN ls[k]) := by
          unfold Hid
          rw [sum_le_take (by simpa using hlt)]; simp
        have hfl := longN_le ls[k]
        have x1 : IntKind.i64.wrap ((((ls.map longN).take k).sum : Nat) + (longN ls[k] : Int)) = (((ls.map longN).take k).sum : Nat) + (longN ls[k] : Int) := IntWalk.i64_in _ (by omega)
        generalize ((ls.map longN).take k).sum = y at *
        obtain ⟨b, off, au, cu, hveq, hblt, hcell, hu⟩ := tab_at (tab_below HV.out Hb.out) hlt
        subst hveq
        have hmx := hf1 _ (List.getElem_mem hlt)
        have hc := usedR_any _ _ wr hu (by omega)
        have Hus16 := Lib.hid (used_len ls[k])
        clear hu
        have HFN : Hid (longP (usedU ls[k]) = longN ls[k]) := rfl
        go_wp2_with fail
        refine hc.mono ?_
        rintro e w1 ⟨a1, c1, rfl, hs1, hb1⟩
        have HB1 := Lib.hid (below_step9 Hb.out hb1)
        have hd := rlong_any _ _ w1 hs1 (by have := Hus16.out; omega)
        rw [HFN.out] at hd
        clear hs1 hb1 hc
        go_wp2_with fail
        refine hd.mono ?_
        rintro e w2 ⟨rfl, rfl⟩
        clear hd
        generalize longN ls[k] = fn at *
        go_wp2_with fail
        exact ⟨⟨k + 1, by omega, by go_num, by rw [HA1.out]; rfl, HB1.out⟩, by simp [intOf]; omega⟩
      · obtain rfl : k = ls.length := by omega
        have HS : Hid (((ls.map longN).take ls.length).sum = (ls.map longN).sum) := by unfold Hid; rw [List.take_of_length_le (by simp)]
        rw [HS.out]
        have hfr1 := hfr wr Hb.out
        rw [HFT.out] at hfr1
        have HBV : Hid (∀ q r, PartV (ls.map longN).sum (ls.map freeN).sum q → ((ls.map freeN).sum = 0 → NaNB r) → ((ls.map freeN).sum ≠ 0 → NumB r ∧ floatBits .sub .f64 4607182418800017408 q = some r) → BrokenV ls r) := by
          intro q r hp h1 h2
          rcases hp with ⟨z, _⟩ | ⟨z, hq, _⟩
          · exact Or.inr (Or.inl ⟨HM.out, z, h1 z⟩)
          · exact Or.inr (Or.inr ⟨HM.out, z, (h2 z).1, brk_of hq (h2 z).2⟩)
        have HPP : Hid (∀ wx, _) := fun wx => partR_any (ls.map longN).sum (ls.map freeN).sum wx (by omega) (by omega) (by omega)
        clear n1 n2 n3 HS HFT hfr
        generalize (ls.map longN).sum = n at *
        generalize (ls.map freeN).sum = m at *
        go_wp2_with fail
        refine hfr1.mono ?_
        rintro e w2 ⟨rfl, hb2⟩
        have HB2 := Lib.hid (below_step9 Hb.out hb2)
        have hp := HPP.out w2
        clear hfr1 hb2
        go_wp2_with fail
        refine hp.mono ?_
        rintro e w6 ⟨q, rfl, hpv, hb6⟩
        have HB6 := Lib.hid (below_step9 HB2.out hb6)
        have HP := Lib.hid hpv
        clear hp hb6
        rcases hpv with ⟨hz, hq⟩ | ⟨hz, _, hq⟩
        · obtain ⟨r, hr, hrun⟩ := run_float_none (P := Try.prog) w6 .sub (Or.inl rfl) 61 4607182418800017408 q (nan_sub hq _)
          have HR := Lib.hid (HBV.out q r HP.out (fun _ => hr) (fun h => absurd hz h))
          clear hr hq hz
          go_wp2_with fail
          go_ret
          exact ⟨r, rfl, HR.out, HB6.out.drew⟩
        · obtain ⟨r, hr, hrn⟩ := sub_one hq
          have q1 : ∀ t w, (binOp .sub t (.float .f64 4607182418800017408) (.float .f64 q)).run Try.prog w = .ok (.float .f64 r) w := fun t w => run_float_arith w .sub t .f64 _ _ _ hr
          have HR := Lib.hid (HBV.out q r HP.out (fun h => absurd h hz) (fun _ => ⟨hrn, hr⟩))
          clear hr hq hz hrn
          go_wp2_with fail
          go_ret
          exact ⟨r, rfl, HR.out, HB6.out⟩
end Go.Proofs.Ytddbcpmhgjkjpaa
