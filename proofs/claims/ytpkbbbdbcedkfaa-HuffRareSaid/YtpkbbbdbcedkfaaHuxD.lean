/- The walk of HuffRare. Conditions: numbers fit. -/
import Derived.Test.YtpkbbbdbcedkfaaHuxC
import Derived.Test.YtpkbbbdbcedkfaaReg
namespace Go.Proofs.Ytpkbbbdbcedkfaa
open Go.RowKit

/-- What Once gives is one list alone. -/
theorem onceX_det (v : Value) (f L : List Int) (w : World) (hv : IntsV w v f) (hl : f.length ≤ 300) (hf : ∀ x ∈ f, 0 ≤ x ∧ x ≤ 1000000) (hL : Hid (OnceR f L)) :
    Calls Try.prog 14 #[v] w fun e w' => ∃ (a : Option Addr) (cap : Nat), e = .returned (.slice a f.length cap) ∧ IntsV w' (.slice a f.length cap) L ∧ Below w.heap.size w w' := by
  refine (onceX_any v f w hv hl hf).mono ?_
  rintro e w' ⟨a, cap, L', rfl, hL', hs, hb⟩
  obtain rfl := onceR_det hL'.out hL.out
  rw [onceR_length hL.out] at hs ⊢
  exact ⟨a, cap, rfl, hs, hb⟩
theorem mayF_zero {f : List Int} (h : mayF f = true) (hl : f.length ≤ 299) : mayF (f ++ [0]) = true := by
  obtain ⟨h1, h2⟩ := mayF_iff.1 h
  refine mayF_iff.2 ⟨by rw [List.length_append, List.length_singleton]; omega, fun x hx => ?_⟩
  rcases List.mem_append.1 hx with hx | hx
  · exact h2 x hx
  · rw [List.mem_singleton.1 hx]; omega
theorem lensR_parts {f L : List Int} (h : LensR f L) : (OnceR f L ∧ maxOk L) ∨ ∃ L0, OnceR f L0 ∧ ¬ maxOk L0 := by
  cases h with
  | stop h hm => exact Or.inl ⟨h, hm⟩
  | halve h hd _ => exact Or.inr ⟨_, h, hd⟩

theorem ints_take {w : World} {a : Option Addr} {m c : Nat} {l : List Int} (h : IntsV w (.slice a m c) l) (n : Nat) (hn : n ≤ l.length) : IntsV w (.slice a n c) (l.take n) := by
  obtain ⟨a', cap', hv', hl, hn0, hc⟩ := h
  injection hv' with h1 h2 h3
  subst h1 h3
  have hlen : (l.take n).length = n := by rw [List.length_take]; omega
  refine ⟨a, c, by rw [hlen], by omega, hn0, ?_⟩
  rcases hc with rfl | ⟨b, off, ha, hb, hcell⟩
  · left; simp
  · exact Or.inr ⟨b, off, ha, hb, fun i hi j hj => by rw [hcell i (by rw [hlen] at hi; omega) j hj, List.getElem_take]⟩

set_option maxRecDepth 100000 in
set_option maxHeartbeats 4000000 in
theorem hrare_walk (v : Value) (f : List Int) (A B : Int) (w : World) (hv : IntsV w v f) (hl : f.length ≤ 140737488355328) :
    Calls Try.prog 5 #[v, .int .i64 A, .int .i64 B] w fun e w' => e = .returned (.bool true) ∧ Below w.heap.size w w' := by
  obtain ⟨i0, hi, hz0, hz1, hz2⟩ := info_parts info_int
  have HV := Lib.hid hv
  obtain ⟨aX, cX, rfl, hcX, hnX, hcellX⟩ := hv
  clear hcellX hnX
  go_enter Try.func5, Try.ntmps5
  go_wp2_with fail
  refine (fixed05_any _).mono ?_
  rintro e w1 ⟨rfl, hb1⟩
  have HB1 := Lib.hid hb1
  have hm1 := mayF_any _ f w1 (sl_below HV.out hb1) hl
  clear hb1
  go_wp2_with fail
  refine hm1.mono ?_
  rintro e w2 ⟨rfl, rfl⟩
  clear hm1
  cases hmay : mayF f with
  | false =>
    go_wp2_with fail
    refine (fixed05_any _).mono ?_
    rintro e w3 ⟨rfl, hb3⟩
    go_wp2_with fail
    go_ret
    exact ⟨rfl, below_step' HB1.out hb3⟩
  | true =>
    have HMay := Lib.hid hmay
    obtain ⟨h300, hrg⟩ := mayF_iff.1 hmay
    have Hrg := Lib.hid hrg
    clear hmay hrg
    have c1 : decide ((299 : Int) < (f.length : Int)) = true ∨ f.length ≤ 299 := by
      by_cases h : f.length ≤ 299
      · exact Or.inr h
      · left; simp; omega
    rcases c1 with b1 | h299
    · go_wp2_with fail
      refine (fixed05_any _).mono ?_
      rintro e w3 ⟨rfl, hb3⟩
      go_wp2_with fail
      go_ret
      exact ⟨rfl, below_step' HB1.out hb3⟩
    have b1 : decide ((299 : Int) < (f.length : Int)) = false := by simp; omega
    by_cases hA : A < 0
    · have b2 : decide (A < 0) = true := by simpa using hA
      go_wp2_with fail
      refine (fixed05_any _).mono ?_
      rintro e w3 ⟨rfl, hb3⟩
      go_wp2_with fail
      go_ret
      exact ⟨rfl, below_step' HB1.out hb3⟩
    have b2 : decide (A < 0) = false := by simpa using hA
    by_cases hB : B < 0
    · have b3 : decide (B < 0) = true := by simpa using hB
      go_wp2_with fail
      refine (fixed05_any _).mono ?_
      rintro e w3 ⟨rfl, hb3⟩
      go_wp2_with fail
      go_ret
      exact ⟨rfl, below_step' HB1.out hb3⟩
    have b3 : decide (B < 0) = false := by simpa using hB
    by_cases hA2 : (f.length : Int) ≤ A
    · have b4 : decide ((f.length : Int) ≤ A) = true := by simpa using hA2
      go_wp2_with fail
      refine (fixed05_any _).mono ?_
      rintro e w3 ⟨rfl, hb3⟩
      go_wp2_with fail
      go_ret
      exact ⟨rfl, below_step' HB1.out hb3⟩
    by_cases hB2 : (f.length : Int) ≤ B
    · have b4 : decide ((f.length : Int) ≤ A) = false := by simpa using hA2
      have b5 : decide ((f.length : Int) ≤ B) = true := by simpa using hB2
      go_wp2_with fail
      refine (fixed05_any _).mono ?_
      rintro e w3 ⟨rfl, hb3⟩
      go_wp2_with fail
      go_ret
      exact ⟨rfl, below_step' HB1.out hb3⟩
    obtain ⟨a, rfl⟩ := Int.eq_ofNat_of_zero_le (a := A) (by omega)
    obtain ⟨b, rfl⟩ := Int.eq_ofNat_of_zero_le (a := B) (by omega)
    have ha : a < f.length := by omega
    have hb : b < f.length := by omega
    have b4 : decide ((f.length : Int) ≤ (a : Int)) = false := by simp; omega
    have b5 : decide ((f.length : Int) ≤ (b : Int)) = false := by simp; omega
    have hln := lens_any _ f w1 (sl_below HV.out HB1.out) hl
    clear hA hB hA2 hB2
    go_wp2_with fail
    refine hln.mono ?_
    rintro e w3 ⟨a3, c3, L, rfl, hL, hs3, hb3⟩
    have HLl : Hid (L.length = f.length) := lensR_length (hL.out.1 HMay.out)
    rw [HLl.out] at hs3 ⊢
    have HSL := Lib.hid hs3
    have HB3 := Lib.hid (below_step' HB1.out hb3)
    have HE := Lib.hid (owns_none w3 3 1)
    have HV3 := Lib.hid (sl_below (sl_below HV.out HB3.out) ((Below.refl _ _).alloc (Nat.le_refl _) (.cells #[] 3)))
    have Hmap : Hid (f.map (Value.int .i64) ++ [.int .i64 0] = (f ++ [0]).map (Value.int .i64) ∧ f.length + 1 = (f ++ [0]).length) := by unfold Hid; rw [List.map_append, List.length_append]; exact ⟨rfl, rfl⟩
    clear hln hs3 hb3 b1 b2 b3 b4 b5
    go_wp2_with (first
      | (at_builtin; refine wpList_append_sl rfl _ _ 22 rfl w3.heap.size 3 i0 (.int .i64 0) 8 Try.underlying22 hi hz0 hz1 hz2 rfl _ _ _ rfl HE.out _ rfl HV3.out (fun _ => rfl) (by simp [maxLen]; omega) (by omega) (by simp) ?_
         intro v4 w4 hown4 hg4 hat4
         rw [Nat.zero_add, List.nil_append] at hown4
         have hb4 : Below w3.heap.size w3 w4 := ((Below.refl _ _).alloc (Nat.le_refl _) _).grown hg4 (by simp) (fun b hbk => owns_block HE.out b hbk)
         have Hown4 := Lib.hid hown4
         have Hb4 := Lib.hid hb4
         have hsz4 := hb4.size
         clear hown4 hg4 hat4 hb4)
      | (at_builtin; refine wpList_append_own_at _ rfl _ _ 22 rfl w3.heap.size 3 i0 (.int .i64 0) 1 8 Try.underlying22 hi hz0 hz1 hz2 rfl (by decide) v4 _ _ rfl (Hown4.out.alloc _) ⟨w4.heap.size, 0, none⟩ 1 1 [.int .i64 0] rfl rfl (cell_one_new _ _ _) (by simp [Value.oneCell']) (by simp [maxLen]; omega) (by omega) (by simp; omega) ?_
         intro v5 w5 hown5 hg5 _ hat5
         rw [Hmap.out.1, Hmap.out.2] at hown5
         have hb5 := (Hb4.out.alloc hsz4 _).grown hg5 (by simp; omega) (fun b hbk => owns_block Hown4.out b hbk)
         have Hown5 := Lib.hid hown5
         have Hb5 := Lib.hid hb5
         clear hown5 hg5 hat5 hb5)
      | fail)
    have hs5 := Hown5.out
    obtain ⟨a5, c5, rfl, hc5, _⟩ := owns_shape hs5
    have hln := lens_any _ (f ++ [0]) w5 (ints_owned hs5).1 (by rw [← Hmap.out.2]; omega)
    rw [← Hmap.out.2] at hln ⊢
    clear hs5 Hown4 Hb4 hsz4 HE HV3 hc5
    go_wp2_with fail
    refine hln.mono ?_
    rintro e w6 ⟨a6, c6, L6, rfl, hL6, hs6, hb6⟩
    obtain rfl := lensR_det (hL6.out.1 (mayF_zero HMay.out h299)) (lensR_zero (hL.out.1 HMay.out))
    have HB36 := Lib.hid (below_step' Hb5.out hb6)
    have HB6 := Lib.hid (below_step' HB3.out HB36.out)
    have hl6 : (L ++ [0]).length = f.length + 1 := by rw [List.length_append, HLl.out]; rfl
    rw [hl6] at hs6 ⊢
    have hcap6 : f.length + 1 ≤ c6 := by obtain ⟨_, _, he, hh, _⟩ := hs6; injection he with _ _ he; subst he; rw [hl6] at hh; exact hh
    have hs6' := ints_take hs6 f.length (by rw [hl6]; omega)
    rw [List.take_left' HLl.out] at hs6'
    have hie := ints_eq _ _ L w6 hs6' (sl_below HSL.out HB36.out) (by rw [HLl.out]; omega)
    have d0 : ((f.length : Int) != (f.length : Int)) = false := by simp
    have d1 : (((f.length + 1 : Nat) : Int) != (f.length : Int) + 1) = false := by simp
    have d2 : ((f.length : Int) + 1 != (f.length : Int) + 1) = false := by simp
    have g6 : (f.length : Int) ≤ (c6 : Int) := by omega
    clear hln hL6 hb6 hl6 hs6 hs6'
    go_wp2_with fail
    refine hie.mono ?_
    rintro e w7 ⟨rfl, hb7⟩
    have HB7 := Lib.hid (below_step' HB6.out hb7)
    have HSL7 := Lib.hid (sl_below HSL.out (below_step' HB36.out hb7))
    have HSX7 := Lib.hid (sl_below HV.out HB7.out)
    clear hie hb7 d0 d1 d2 g6 hcap6
    rcases lensR_parts (hL.out.1 HMay.out) with ⟨h1, h2⟩ | ⟨L0, h1, h2⟩
    · have HO := Lib.hid h1
      have hdp : deepB L = false := deepB_false.2 h2
      have HO2 := Lib.hid h2
      rcases sl_one HSX7.out with ⟨rfl, _⟩ | ⟨_, bX, oX, cX', hveq, _, hbX, cellX⟩
      · simp at ha
      injection hveq with q1 q2 q3
      subst q1 q3
      have haL : a < L.length := by rw [HLl.out]; exact ha
      have hbL : b < L.length := by rw [HLl.out]; exact hb
      rcases sl_one HSL7.out with ⟨h0, _⟩ | ⟨_, bL, oL, cL', hveqL, _, hbL', cellL⟩
      · rw [h0] at haL; simp at haL
      rw [HLl.out] at hveqL
      injection hveqL with q4 q5 q6
      subst q4 q6
      have e0 := cellX a ha
      have e1 := cellX b hb
      have f0 := cellL a haL
      have f1 := cellL b hbL
      have hrl := Lib.hid (rare_law h1 h2 (fun x hx => (Hrg.out x hx).1) (a := a) (b := b) ha hb)
      have hb0 := (Hrg.out f[b] (List.getElem_mem hb)).1
      have hon := fun w' (h : Below w7.heap.size w7 w') => onceX_det _ f L w' (sl_below HSX7.out h) h300 (fun x hx => by have := Hrg.out x hx; omega) HO
      have Hon := Lib.hid hon
      have Hdp := fun w' v' (h : IntsV w' v' L) => deep_any v' L w' h (by rw [HLl.out]; omega)
      rw [hdp] at Hdp
      have HDp := Lib.hid Hdp
      have g0 : (a : Int) < (f.length : Int) := by omega
      have g1 : (0 : Int) ≤ (a : Int) := by omega
      have g2 : (b : Int) < (f.length : Int) := by omega
      have g3 : (0 : Int) ≤ (b : Int) := by omega
      clear cellX cellL q2 q5 hdp h1 h2 hon Hdp
      have Hr2 : Hid (f[b] < f[a] → 0 < f[b] → L[a] ≤ L[b]) := fun p q => hrl.out p q haL hbL
      clear hrl
      generalize f[a] = x at *
      generalize f[b] = y at *
      generalize L[a] = p at *
      generalize L[b] = q at *
      clear haL hbL
      go_wp2_with fail
      by_cases hxy : x ≤ y
      · have b1 : decide (x ≤ y) = true := by simpa using hxy
        refine reg_start (by kernel_rfl) 33 rfl ?_
        refine reg_forced 0 rfl (by kernel_rfl) (fun K hK => ?_)
        go_simp
        refine hK.out _ _ ?_
        clear hK K
        try simp only [Act.put, List.setIfInBounds_toArray, List.set_cons_zero, List.set_cons_succ]
        refine reg_forced 1 rfl (by kernel_rfl) (fun K hK => ?_)
        go_simp
        (go_at_call 14; refine (Hon.out _ (Below.refl _ _).drew).mono ?_; rintro e w8 ⟨a8, c8, rfl, hs8, hb8⟩; have HB8 := Lib.hid (below_step' (Below.refl _ _).drew hb8); have E0 := (HB8.out.cell (p := ⟨bX, oX + a, none⟩) hbX).trans e0; have E1 := (HB8.out.cell (p := ⟨bX, oX + b, none⟩) hbX).trans e1; have F0 := (HB8.out.cell (p := ⟨bL, oL + a, none⟩) hbL').trans f0; have F1 := (HB8.out.cell (p := ⟨bL, oL + b, none⟩) hbL').trans f1; clear hb8)
        go_wp2_with fail
        refine hK.out _ _ ?_
        clear hK K
        try simp only [Act.put, List.setIfInBounds_toArray, List.set_cons_zero, List.set_cons_succ]
        refine reg_forced 2 rfl (by kernel_rfl) (fun K hK => ?_)
        go_simp
        (go_at_call 13; refine (HDp.out _ _ hs8).mono ?_; rintro e w' ⟨rfl, rfl⟩)
        go_wp2_with fail
        refine hK.out _ _ ?_
        clear hK K
        try simp only [Act.put, List.setIfInBounds_toArray, List.set_cons_zero, List.set_cons_succ]
        refine reg_forced 3 rfl (by kernel_rfl) (fun K hK => ?_)
        go_simp
        refine hK.out _ _ ?_
        clear hK K
        try simp only [Act.put, List.setIfInBounds_toArray, List.set_cons_zero, List.set_cons_succ]
        refine reg_rest 4 (by kernel_rfl) (by kernel_rfl) (by kernel_rfl) ?_
        simp only [List.drop_succ_cons, List.drop_zero]
        repeat (first | go_big_quiet_step (fail) | quiet_step (fail))
        refine wpQuiet_nil ?_
        intro _ hw'
        obtain ⟨nq, hw''⟩ := hw'
        subst hw''
        go_wp2_with fail
        go_ret
        exact ⟨rfl, below_drewN5 (below_step' HB7.out HB8.out) _⟩
      · have b1 : decide (x ≤ y) = false := by simpa using hxy
        by_cases hy : y = 0
        · have b2 : (y == 0) = true := by simpa using hy
          clear hy
          refine reg_start (by kernel_rfl) 33 rfl ?_
          refine reg_forced 0 rfl (by kernel_rfl) (fun K hK => ?_)
          go_simp
          refine hK.out _ _ ?_
          clear hK K
          try simp only [Act.put, List.setIfInBounds_toArray, List.set_cons_zero, List.set_cons_succ]
          refine reg_forced 1 rfl (by kernel_rfl) (fun K hK => ?_)
          go_simp
          (go_at_call 14; refine (Hon.out _ (Below.refl _ _).drew).mono ?_; rintro e w8 ⟨a8, c8, rfl, hs8, hb8⟩; have HB8 := Lib.hid (below_step' (Below.refl _ _).drew hb8); have E0 := (HB8.out.cell (p := ⟨bX, oX + a, none⟩) hbX).trans e0; have E1 := (HB8.out.cell (p := ⟨bX, oX + b, none⟩) hbX).trans e1; have F0 := (HB8.out.cell (p := ⟨bL, oL + a, none⟩) hbL').trans f0; have F1 := (HB8.out.cell (p := ⟨bL, oL + b, none⟩) hbL').trans f1; clear hb8)
          go_wp2_with fail
          refine hK.out _ _ ?_
          clear hK K
          try simp only [Act.put, List.setIfInBounds_toArray, List.set_cons_zero, List.set_cons_succ]
          refine reg_forced 2 rfl (by kernel_rfl) (fun K hK => ?_)
          go_simp
          (go_at_call 13; refine (HDp.out _ _ hs8).mono ?_; rintro e w' ⟨rfl, rfl⟩)
          go_wp2_with fail
          refine hK.out _ _ ?_
          clear hK K
          try simp only [Act.put, List.setIfInBounds_toArray, List.set_cons_zero, List.set_cons_succ]
          refine reg_forced 3 rfl (by kernel_rfl) (fun K hK => ?_)
          go_simp
          refine hK.out _ _ ?_
          clear hK K
          try simp only [Act.put, List.setIfInBounds_toArray, List.set_cons_zero, List.set_cons_succ]
          refine reg_rest 4 (by kernel_rfl) (by kernel_rfl) (by kernel_rfl) ?_
          simp only [List.drop_succ_cons, List.drop_zero]
          repeat (first | go_big_quiet_step (fail) | quiet_step (fail))
          refine wpQuiet_nil ?_
          intro _ hw'
          obtain ⟨nq, hw''⟩ := hw'
          subst hw''
          go_wp2_with fail
          go_ret
          exact ⟨rfl, below_drewN5 (below_step' HB7.out HB8.out) _⟩
        · have b2 : (y == 0) = false := by simpa using hy
          have hpq := Hr2.out (by omega) (by omega)
          have b3 : decide (p ≤ q) = true := by simpa using hpq
          clear hy
          refine reg_start (by kernel_rfl) 33 rfl ?_
          refine reg_forced 0 rfl (by kernel_rfl) (fun K hK => ?_)
          go_simp
          refine hK.out _ _ ?_
          clear hK K
          try simp only [Act.put, List.setIfInBounds_toArray, List.set_cons_zero, List.set_cons_succ]
          refine reg_forced 1 rfl (by kernel_rfl) (fun K hK => ?_)
          go_simp
          (go_at_call 14; refine (Hon.out _ (Below.refl _ _).drew).mono ?_; rintro e w8 ⟨a8, c8, rfl, hs8, hb8⟩; have HB8 := Lib.hid (below_step' (Below.refl _ _).drew hb8); have E0 := (HB8.out.cell (p := ⟨bX, oX + a, none⟩) hbX).trans e0; have E1 := (HB8.out.cell (p := ⟨bX, oX + b, none⟩) hbX).trans e1; have F0 := (HB8.out.cell (p := ⟨bL, oL + a, none⟩) hbL').trans f0; have F1 := (HB8.out.cell (p := ⟨bL, oL + b, none⟩) hbL').trans f1; clear hb8)
          go_wp2_with fail
          refine hK.out _ _ ?_
          clear hK K
          try simp only [Act.put, List.setIfInBounds_toArray, List.set_cons_zero, List.set_cons_succ]
          refine reg_forced 2 rfl (by kernel_rfl) (fun K hK => ?_)
          go_simp
          (go_at_call 13; refine (HDp.out _ _ hs8).mono ?_; rintro e w' ⟨rfl, rfl⟩)
          go_wp2_with fail
          refine hK.out _ _ ?_
          clear hK K
          try simp only [Act.put, List.setIfInBounds_toArray, List.set_cons_zero, List.set_cons_succ]
          refine reg_forced 3 rfl (by kernel_rfl) (fun K hK => ?_)
          go_simp
          refine hK.out _ _ ?_
          clear hK K
          try simp only [Act.put, List.setIfInBounds_toArray, List.set_cons_zero, List.set_cons_succ]
          refine reg_rest 4 (by kernel_rfl) (by kernel_rfl) (by kernel_rfl) ?_
          simp only [List.drop_succ_cons, List.drop_zero]
          repeat (first | go_big_quiet_step (fail) | quiet_step (fail))
          refine wpQuiet_nil ?_
          intro _ hw'
          obtain ⟨nq, hw''⟩ := hw'
          subst hw''
          go_wp2_with fail
          go_ret
          exact ⟨rfl, below_drewN5 (below_step' HB7.out HB8.out) _⟩
    · have HO := Lib.hid h1
      have hdp : deepB L0 = true := by
        cases h : deepB L0 with
        | true => rfl
        | false => exact absurd (deepB_false.1 h) h2
      have hon := fun w' (h : Below w7.heap.size w7 w') => onceX_det _ f L0 w' (sl_below HSX7.out h) h300 (fun x hx => by have := Hrg.out x hx; omega) HO
      have Hon := Lib.hid hon
      have Hdp := fun w' v' (h : IntsV w' v' L0) => deep_any v' L0 w' h (by rw [onceR_length HO.out]; omega)
      rw [hdp] at Hdp
      have HDp := Lib.hid Hdp
      clear hdp h1 h2 hon Hdp
      go_wp2_with fail
      refine reg_start (by kernel_rfl) 33 rfl ?_
      refine reg_forced 0 rfl (by kernel_rfl) (fun K hK => ?_)
      go_simp
      refine hK.out _ _ ?_
      clear hK K
      try simp only [Act.put, List.setIfInBounds_toArray, List.set_cons_zero, List.set_cons_succ]
      refine reg_forced 1 rfl (by kernel_rfl) (fun K hK => ?_)
      go_simp
      (go_at_call 14; refine (Hon.out _ (Below.refl _ _).drew).mono ?_; rintro e w8 ⟨a8, c8, rfl, hs8, hb8⟩; have HB8 := Lib.hid (below_step' (Below.refl _ _).drew hb8); clear hb8)
      go_wp2_with fail
      refine hK.out _ _ ?_
      clear hK K
      try simp only [Act.put, List.setIfInBounds_toArray, List.set_cons_zero, List.set_cons_succ]
      refine reg_forced 2 rfl (by kernel_rfl) (fun K hK => ?_)
      go_simp
      (go_at_call 13; refine (HDp.out _ _ hs8).mono ?_; rintro e w' ⟨rfl, rfl⟩)
      go_wp2_with fail
      refine hK.out _ _ ?_
      clear hK K
      try simp only [Act.put, List.setIfInBounds_toArray, List.set_cons_zero, List.set_cons_succ]
      refine reg_forced 3 rfl (by kernel_rfl) (fun K hK => ?_)
      go_simp
      refine hK.out _ _ ?_
      clear hK K
      try simp only [Act.put, List.setIfInBounds_toArray, List.set_cons_zero, List.set_cons_succ]
      refine reg_rest 4 (by kernel_rfl) (by kernel_rfl) (by kernel_rfl) ?_
      simp only [List.drop_succ_cons, List.drop_zero]
      repeat (first | go_big_quiet_step (fail) | quiet_step (fail))
      refine wpQuiet_nil ?_
      intro _ hw'
      obtain ⟨nq, hw''⟩ := hw'
      subst hw''
      go_wp2_with fail
      go_ret
      exact ⟨rfl, below_drewN5 (below_step' HB7.out HB8.out) _⟩
end Go.Proofs.Ytpkbbbdbcedkfaa
