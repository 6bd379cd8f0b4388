/- The fixed calls of layer 5; the walk of HuffFull. Conditions: numbers fit. -/
import Derived.Test.YtpkbbbdbcedkfaaHufN
namespace Go.Proofs.Ytpkbbbdbcedkfaa
open Go.RowKit

theorem fix_red : Red [.leaf 3 0, .leaf 1 1, .leaf 1 2] (.node (.node (.leaf 1 1) (.leaf 1 2)) (.leaf 3 0)) := by
  refine .step (a := .leaf 1 1) (b := .leaf 1 2) (R := [.leaf 3 0]) (List.perm_append_comm (l₁ := [HT.leaf 3 0]) (l₂ := [HT.leaf 1 1, HT.leaf 1 2])) (fun x hx => ?_) (fun x hx => ?_) ?_
  · rcases List.mem_cons.1 hx with rfl | hx
    · rfl
    · rw [List.mem_singleton.1 hx]; rfl
  · rw [List.mem_singleton.1 hx]; rfl
  · refine .step (a := .node (.leaf 1 1) (.leaf 1 2)) (b := .leaf 3 0) (R := []) (List.Perm.refl _) (fun x hx => ?_) (fun x hx => by cases hx) (.one _)
    rw [List.mem_singleton.1 hx]; rfl
theorem fix_lens1 {L : List Int} (h : LensV [3, 1, 1, 0] L) : L = [1, 2, 2, 0] := by
  refine lensR_det (h.1 (by decide)) (.stop (Or.inr (Or.inr ⟨by decide, _, fix_red, rfl⟩)) (fun x hx => ?_))
  simp only [List.mem_cons, List.not_mem_nil, or_false] at hx
  omega
theorem fix_lens2 {L : List Int} (h : LensV [0, 5] L) : L = [0, 1] := by
  refine lensR_det (h.1 (by decide)) (.stop (Or.inr (Or.inl ⟨5, 1, rfl, rfl⟩)) (fun x hx => ?_))
  simp only [List.mem_cons, List.not_mem_nil, or_false] at hx
  omega
theorem fix_lens3 {L : List Int} (h : LensV [-1] L) : L = [] := h.2 (by decide)
theorem ints_new (w : World) (e : TypeId) (xs : List Int) : IntsV (w.alloc (.cells (xs.map (Value.int .i64)).toArray e)) (.slice (some ⟨w.heap.size, 0, none⟩) xs.length xs.length) xs := sl_alloc w e xs xs.length (Nat.le_refl _)

set_option maxRecDepth 100000 in
set_option maxHeartbeats 4000000 in
theorem fixed05_any (w : World) : Calls Try.prog 8 #[] w fun e w' => e = .returned (.bool true) ∧ Below w.heap.size w w' := by
  have c1 := lens_any _ [3, 1, 1, 0] _ (ints_new w 3 [3, 1, 1, 0]) (by decide)
  go_enter Try.func8, Try.ntmps8
  go_wp2_with fail
  refine c1.mono ?_
  rintro e w1 ⟨a1, p1, L1, rfl, hL1, hs1, hb1⟩
  have hB1 := below_step' ((Below.refl _ _).alloc (Nat.le_refl _) _) hb1
  obtain rfl := fix_lens1 hL1.out
  have HB1 := Lib.hid hB1
  clear c1 hb1 hL1 hB1
  have c2 := ints_eq _ _ [1, 2, 2, 0] _ (sl_below hs1 ((Below.refl _ _).alloc (Nat.le_refl _) _)) (ints_new w1 3 [1, 2, 2, 0]) (by decide)
  clear hs1
  go_wp2_with fail
  refine c2.mono ?_
  rintro e w2 ⟨rfl, hb2⟩
  have HB2 := Lib.hid (below_step' HB1.out (below_step' ((Below.refl _ _).alloc (Nat.le_refl _) _) hb2))
  clear c2 hb2 HB1
  have c3 := lens_any _ [0, 5] _ (ints_new w2 3 [0, 5]) (by decide)
  go_wp2_with fail
  refine c3.mono ?_
  rintro e w3 ⟨a3, p3, L3, rfl, hL3, hs3, hb3⟩
  have HB3 := Lib.hid (below_step' HB2.out (below_step' ((Below.refl _ _).alloc (Nat.le_refl _) _) hb3))
  obtain rfl := fix_lens2 hL3.out
  clear c3 hb3 hL3 HB2
  have c4 := ints_eq _ _ [0, 1] _ (sl_below hs3 ((Below.refl _ _).alloc (Nat.le_refl _) _)) (ints_new w3 3 [0, 1]) (by decide)
  clear hs3
  go_wp2_with fail
  refine c4.mono ?_
  rintro e w4 ⟨rfl, hb4⟩
  have HB4 := Lib.hid (below_step' HB3.out (below_step' ((Below.refl _ _).alloc (Nat.le_refl _) _) hb4))
  clear c4 hb4 HB3
  have c5 := cost_any _ _ [3, 1, 1] [1, 2, 2] _ (sl_below (ints_new w4 3 [3, 1, 1]) ((Below.refl _ _).alloc (Nat.le_refl _) (.cells #[.int .i64 1, .int .i64 2, .int .i64 2] 3))) (ints_new _ 3 [1, 2, 2]) rfl (by decide) (by decide) (by decide)
  have hc : costL [3, 1, 1] [1, 2, 2] = 7 := by decide
  rw [hc] at c5
  have hsz : (w4.alloc (.cells ([3, 1, 1].map (Value.int .i64)).toArray 3)).heap.size = w4.heap.size + 1 := by simp
  rw [hsz] at c5
  clear hc
  go_wp2_with fail
  refine c5.mono ?_
  rintro e w5 ⟨rfl, hb5⟩
  have HB5 := Lib.hid (below_step' HB4.out (below_step' (below_step' ((Below.refl _ _).alloc (Nat.le_refl _) _) ((Below.refl _ _).alloc (Nat.le_refl _) _)) hb5))
  clear c5 hb5 HB4 hsz
  have c6 := kraft_any _ [1, 2, 2, 0] _ (ints_new w5 3 [1, 2, 2, 0]) (by decide)
  have hk : kraftL [1, 2, 2, 0] = 32768 := by decide
  rw [hk] at c6
  clear hk
  go_wp2_with fail
  refine c6.mono ?_
  rintro e w6 ⟨rfl, rfl⟩
  have HB6 := Lib.hid (HB5.out.alloc HB5.out.size (.cells #[.int .i64 1, .int .i64 2, .int .i64 2, .int .i64 0] 3))
  clear c6 HB5
  have c7 := lens_any _ [-1] _ (ints_new (w5.alloc (.cells #[.int .i64 1, .int .i64 2, .int .i64 2, .int .i64 0] 3)) 3 [-1]) (by decide)
  have hsz : (w5.alloc (.cells #[.int .i64 1, .int .i64 2, .int .i64 2, .int .i64 0] 3)).heap.size = w5.heap.size + 1 := by simp
  rw [hsz] at c7
  clear hsz
  go_wp2_with fail
  refine c7.mono ?_
  rintro e w7 ⟨a7, p7, L7, rfl, hL7, hs7, hb7⟩
  obtain rfl := fix_lens3 hL7.out
  go_wp2_with fail
  go_ret
  exact ⟨rfl, below_step' HB6.out (below_step' ((Below.refl _ _).alloc (Nat.le_refl _) _) hb7)⟩

set_option maxRecDepth 100000 in
set_option maxHeartbeats 4000000 in
theorem hfull_walk (v : Value) (f : List Int) (w : World) (hv : IntsV w v f) (hl : f.length ≤ 140737488355328) :
    Calls Try.prog 3 #[v] w fun e w' => e = .returned (.bool true) ∧ Below w.heap.size w w' := by
  have HV := Lib.hid hv
  obtain ⟨aX, cX, rfl, hcX, hnX, hcellX⟩ := hv
  clear hcellX hnX
  go_enter Try.func3, Try.ntmps3
  go_wp2_with fail
  refine (fixed05_any _).mono ?_
  rintro e w1 ⟨rfl, hb1⟩
  have HB1 := Lib.hid hb1
  have hm1 := mayF_any _ f w1 (sl_below HV.out hb1) hl
  clear hb1
  go_wp2_with fail
  refine hm1.mono ?_
  rintro e w2 ⟨rfl, rfl⟩
  clear hm1
  cases hmay : mayF f with
  | false =>
    go_wp2_with fail
    refine (fixed05_any _).mono ?_
    rintro e w3 ⟨rfl, hb3⟩
    go_wp2_with fail
    go_ret
    exact ⟨rfl, below_step' HB1.out hb3⟩
  | true =>
    have HMay := Lib.hid hmay
    obtain ⟨h300, hrg⟩ := mayF_iff.1 hmay
    have Hrg := Lib.hid hrg
    have hln := lens_any _ f w1 (sl_below HV.out HB1.out) hl
    clear hmay hrg
    go_wp2_with fail
    refine hln.mono ?_
    rintro e w3 ⟨a3, c3, L, rfl, hL, hs3, hb3⟩
    have hLR := hL.out.1 HMay.out
    have hlen := lensR_length hLR
    obtain ⟨g, hon, hmx, hgl, hgf⟩ := lensR_once hLR
    obtain ⟨hg0, hgi⟩ := hgf (fun x hx => (Hrg.out x hx).1)
    obtain ⟨p1, p2', p3⟩ := once_full hon hmx hg0
    have hth : (initT g).length = thereL f := by
      rw [thereL_init]
      have : ∀ (a b : List Int), a.length = b.length → (∀ i (h1 : i < b.length) (h2 : i < a.length), 0 < a[i] ↔ 0 < b[i]) → thereL a = thereL b := by
        intro a
        induction a with
        | nil => intro b hb _; rw [List.length_eq_zero_iff.1 hb.symm]
        | cons x a ih =>
          intro b hb hi
          cases b with
          | nil => simp at hb
          | cons y b =>
            have h0 := hi 0 (by simp) (by simp)
            have := ih b (by simpa using hb) (fun i h1 h2 => by have := hi (i + 1) (by simpa using h1) (by simpa using h2); simpa using this)
            simp only [List.getElem_cons_zero] at h0
            unfold thereL at this ⊢
            by_cases hx : 0 < x
            · simp [hx, h0.1 hx, this]
            · have hy : ¬ 0 < y := fun h => hx (h0.2 h)
              simp [hx, hy, this]
      exact this g f hgl hgi
    rw [hth] at p2' p3
    have Hel : Hid (∀ i (hi : i < f.length) (hi' : i < L.length), (0 < L[i] ↔ 0 < f[i]) ∧ 0 ≤ L[i] ∧ L[i] ≤ 15) := fun i hi hi' => by
      have q := p1 i (by omega) hi'
      exact ⟨q.1.trans (hgi i hi (by omega)), q.2, hmx _ (List.getElem_mem hi')⟩
    have Hk1 := Lib.hid p2'
    have Hk2 := Lib.hid p3
    have Hlen := Lib.hid hlen
    have HB3 := Lib.hid (below_step' HB1.out hb3)
    have Hs3 := Lib.hid hs3
    have d0 : ((f.length : Int) != (f.length : Int)) = false := by simp
    rw [hlen] at hs3 ⊢
    clear hLR hlen hon hmx hgl hgf hg0 hgi p1 p2' p3 hth hL hln hb3 hs3
    go_wp2_with fail
    go_loopw [4] (fun ui wr => ∃ k : Nat, ui = .int .i64 k ∧ k ≤ f.length ∧ ∃ m, wr = w3.drewN m) (fun ui _ => f.length - (intOf ui).toNat)
    case atStart => exact ⟨0, rfl, Nat.zero_le _, 0, rfl⟩
    case round =>
      obtain ⟨k, rfl, hk, m, hm⟩ := hrel
      by_cases hkl : k < f.length
      · rcases sl_one (sl_below HV.out HB3.out) with ⟨rfl, _⟩ | ⟨_, bX, oX, cX', hveq, _, hbX, cellX⟩
        · simp at hkl
        injection hveq with q1 q2 q3
        subst q1 q3
        have hkL : k < L.length := by rw [Hlen.out]; exact hkl
        have hs3' := Hs3.out
        rw [Hlen.out] at hs3'
        rcases sl_one hs3' with ⟨h0, _⟩ | ⟨_, bL, oL, cL', hveqL, _, hbL, cellL⟩
        · rw [h0] at hkL; simp at hkL
        rw [Hlen.out] at hveqL
        injection hveqL with q4 q5 q6
        subst q4 q6
        have e0 := cellX k hkl
        have f0 := cellL k hkL
        have E0 : wr.cell? ⟨bX, oX + k, none⟩ = some (.int .i64 f[k]) := by rw [hm]; exact e0
        have F0 : wr.cell? ⟨bL, oL + k, none⟩ = some (.int .i64 L[k]) := by rw [hm]; exact f0
        have Hm := Lib.hid hm
        obtain ⟨r1, r2, r3⟩ := Hel.out k hkl hkL
        have g2 : (k : Int) < (f.length : Int) := by omega
        have g3 : (0 : Int) ≤ (k : Int) := by omega
        have d2 : decide (L[k] < 0) = false := by simp; omega
        have d3 : decide (15 < L[k]) = false := by simp; omega
        clear e0 f0 hm cellX cellL q2 q5 hs3'
        generalize f[k] = x at *
        generalize L[k] = y at *
        clear hkL
        by_cases hx : 0 < x
        · have hy : 0 < y := r1.2 hx
          have b1 : decide (0 < x) = true := by simpa using hx
          have b2 : decide (0 < y) = true := by simpa using hy
          clear r1
          go_wp2_with fail
          go_quiet (fail)
          go_wp2_with fail
          exact ⟨⟨k + 1, by go_num, by omega, _, by rw [Hm.out]; simp only [World.drewN_drewN]; rfl⟩, by simp [intOf]; omega⟩
        · have hy : ¬ 0 < y := fun h => hx (r1.1 h)
          have b1 : decide (0 < x) = false := by simpa using hx
          have b2 : decide (0 < y) = false := by simpa using hy
          clear r1
          go_wp2_with fail
          go_quiet (fail)
          go_wp2_with fail
          exact ⟨⟨k + 1, by go_num, by omega, _, by rw [Hm.out]; simp only [World.drewN_drewN]; rfl⟩, by simp [intOf]; omega⟩
      · have HBr : Hid (Below w3.heap.size w3 wr) := by unfold Hid; rw [hm]; exact below_drewN5 (Below.refl _ _) m
        obtain rfl : k = f.length := by omega
        have hs4 := sl_below Hs3.out HBr.out
        rw [Hlen.out] at hs4
        have hth := there_any _ f wr (sl_below HV.out (below_step' HB3.out HBr.out)) hl
        have hkf := kraft_any _ L wr hs4 (by rw [Hlen.out]; omega)
        have htl : thereL f ≤ f.length := List.length_filter_le _ _
        have Hkf := Lib.hid hkf
        clear hm hs4 hkf
        generalize thereL f = n0 at *
        go_wp2_with fail
        refine hth.mono ?_
        rintro e w4 ⟨rfl, rfl⟩
        clear hth
        by_cases hn : n0 < 2
        · have hk := Hk2.out hn
          have b1 : decide ((n0 : Int) < 2) = true := by simp; omega
          have hkf := Hkf.out
          rw [hk] at hkf
          have w1 : (16384 * (n0 : Int) == 16384 * (n0 : Int)) = true := by simp
          clear hk Hkf
          go_wp2_with fail
          refine hkf.mono ?_
          rintro e w5 ⟨rfl, rfl⟩
          go_wp2_with fail
          go_ret
          exact ⟨by simp, below_step' HB3.out HBr.out⟩
        · have hk := Hk1.out (by omega)
          have b1 : decide ((n0 : Int) < 2) = false := by simp; omega
          have b2 : decide ((2 : Int) ≤ (n0 : Int)) = true := by simp; omega
          have hkf := Hkf.out
          rw [hk] at hkf
          clear hk Hkf
          go_wp2_with fail
          refine hkf.mono ?_
          rintro e w5 ⟨rfl, rfl⟩
          go_wp2_with fail
          go_ret
          exact ⟨by simp, below_step' HB3.out HBr.out⟩
end Go.Proofs.Ytpkbbbdbcedkfaa
