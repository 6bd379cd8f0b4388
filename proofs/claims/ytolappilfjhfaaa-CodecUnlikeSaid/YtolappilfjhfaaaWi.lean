/- The contracts of both Symbols. No condition. The contract of the document's Lens. Conditions: numbers fit. -/
import Derived.Test.YtolappilfjhfaaaWg
import Derived.Test.YtolappilfjhfaaaW1
import Derived.Test.YtolappilfjhfaaaWf
import Derived.Test.YtolappilfjhfaaaWe
namespace Go.Proofs.Ytolappilfjhfaaa
open Go.RowKit

theorem boxed3s (w : World) (v0 v1 v2 : Value) (t : TypeId) : ∃ W2, w.alloc (.cells #[v0, v1, v2] t) = W2 ∧
    W2.cell? ⟨w.heap.size, 0, none⟩ = some v0 ∧ W2.cell? ⟨w.heap.size, 1, none⟩ = some v1 ∧ W2.cell? ⟨w.heap.size, 2, none⟩ = some v2 ∧ w.heap.size < W2.heap.size ∧ Below w.heap.size w W2 :=
  ⟨_, rfl, by simp, by simp, by simp, by simp, (Below.refl _ _).alloc (Nat.le_refl _) _⟩
theorem cells3_after {w W : World} {g : Nat} {v0 v1 v2 : Value} (hb : Below w.heap.size w W) (hg : g < w.heap.size) (e0 : w.cell? ⟨g, 0, none⟩ = some v0) (e1 : w.cell? ⟨g, 1, none⟩ = some v1) (e2 : w.cell? ⟨g, 2, none⟩ = some v2) :
    W.cell? ⟨g, 0, none⟩ = some v0 ∧ W.cell? ⟨g, 1, none⟩ = some v1 ∧ W.cell? ⟨g, 2, none⟩ = some v2 :=
  ⟨by rw [hb.cell (p := ⟨g, 0, none⟩) hg]; exact e0, by rw [hb.cell (p := ⟨g, 1, none⟩) hg]; exact e1, by rw [hb.cell (p := ⟨g, 2, none⟩) hg]; exact e2⟩
theorem below_twoS {w a b : World} (h : Below w.heap.size w a) (h2 : Below a.heap.size a b) : Below w.heap.size w b := h.trans (h2.mono h.size)

set_option maxRecDepth 100000 in
set_option maxHeartbeats 1000000 in
theorem symbol_any (b d n : Int) (w : World) :
    Calls Try.prog 18 #[.agg #[.int .i64 b, .int .i64 d, .int .i64 n]] w fun e w' => e = .returned (.int .i64 (symT (b, d, n))) ∧ Below w.heap.size w w' := by
  obtain ⟨W2, hW2, e0, e1, e2, hsz, hbw⟩ := boxed3s w (.int .i64 b) (.int .i64 d) (.int .i64 n) 30
  have hc := may_any b d n W2
  go_enter Try.func18, Try.ntmps18
  go_wp2_with fail
  clear hW2
  refine hc.mono ?_
  rintro e w3 ⟨rfl, hb3⟩
  obtain ⟨e0, e1, e2⟩ := cells3_after hb3 hsz e0 e1 e2
  have HB := Lib.hid (below_twoS hbw hb3)
  clear hb3 hbw hc hsz
  by_cases hm : mayT (b, d, n) = true
  · obtain ⟨s0, s1, s2, s3⟩ := symT_yes hm
    have hp := mayT_parts hm
    have Hs2 := Lib.hid s2
    have Hs3 := Lib.hid s3
    clear s2 s3
    by_cases hn : 0 < n
    · have d1 : decide (0 < n) = true := by simpa using hn
      have hw := (Hs2.out hn).1
      have Hw := Lib.hid hw
      have y : IntKind.i64.wrap (253 + n) = 253 + n := by rw [IntKind.wrap_i64]; omega
      clear hw s0 s1 hp
      go_wp2_with fail
      go_ret
      exact ⟨by rw [Hw.out]; rfl, HB.out⟩
    · have d1 : decide (0 < n) = false := by simpa using hn
      have hw := (Hs3.out hn).1
      have Hw := Lib.hid hw
      clear hw s0 s1 hp
      go_wp2_with fail
      go_ret
      exact ⟨by rw [Hw.out]; rfl, HB.out⟩
  · have hm' : mayT (b, d, n) = false := by cases q : mayT (b, d, n) with
      | true => exact absurd q hm
      | false => rfl
    have Hw := Lib.hid (symT_no hm')
    clear hm
    go_wp2_with fail
    go_ret
    exact ⟨by rw [Hw.out]; rfl, HB.out⟩


set_option maxRecDepth 100000 in
set_option maxHeartbeats 1000000 in
theorem symbolR_any (b d n : Int) (w : World) :
    Calls Try.prog 19 #[.agg #[.int .i64 b, .int .i64 d, .int .i64 n]] w fun e w' => e = .returned (.int .i64 (symT (b, d, n))) ∧ Below w.heap.size w w' := by
  obtain ⟨W2, hW2, e0, e1, e2, hsz, hbw⟩ := boxed3s w (.int .i64 b) (.int .i64 d) (.int .i64 n) 30
  have hc := mayR_any b d n W2
  go_enter Try.func19, Try.ntmps19
  go_wp2_with fail
  clear hW2
  refine hc.mono ?_
  rintro e w3 ⟨rfl, hb3⟩
  obtain ⟨e0, e1, e2⟩ := cells3_after hb3 hsz e0 e1 e2
  have HB := Lib.hid (below_twoS hbw hb3)
  clear hb3 hbw hc hsz
  by_cases hm : mayT (b, d, n) = true
  · obtain ⟨s0, s1, s2, s3⟩ := symT_yes hm
    have hp := mayT_parts hm
    have Hs2 := Lib.hid s2
    have Hs3 := Lib.hid s3
    clear s2 s3
    by_cases hn : 0 < n
    · have d1 : decide (0 < n) = true := by simpa using hn
      have hw := (Hs2.out hn).1
      have Hw := Lib.hid hw
      have y : IntKind.i64.wrap (253 + n) = 253 + n := by rw [IntKind.wrap_i64]; omega
      clear hw s0 s1 hp
      go_wp2_with fail
      go_ret
      exact ⟨by rw [Hw.out]; rfl, HB.out⟩
    · have d1 : decide (0 < n) = false := by simpa using hn
      have hw := (Hs3.out hn).1
      have Hw := Lib.hid hw
      clear hw s0 s1 hp
      go_wp2_with fail
      go_ret
      exact ⟨by rw [Hw.out]; rfl, HB.out⟩
  · have hm' : mayT (b, d, n) = false := by cases q : mayT (b, d, n) with
      | true => exact absurd q hm
      | false => rfl
    have Hw := Lib.hid (symT_no hm')
    clear hm
    go_wp2_with fail
    go_ret
    exact ⟨by rw [Hw.out]; rfl, HB.out⟩


end Go.Proofs.Ytolappilfjhfaaa
namespace Go.Proofs.Ytolappilfjhfaaa
open Go.RowKit

theorem halve_snoc {h : List Int} {k : Nat} (hk : k < h.length) : halve (h.take (k + 1)) = halve (h.take k) ++ [(h[k] + 1) / 2] := by
  rw [List.take_succ_eq_append_getElem hk]
  simp only [halve, List.map_append]; rfl

set_option maxRecDepth 100000 in
set_option maxHeartbeats 4000000 in
theorem lensX_any (v : Value) (f : List Int) (w : World) (hv : IntsV w v f) (hl : f.length ≤ 140737488355328) :
    Calls Try.prog 36 #[v] w fun e w' => ∃ (a : Option Addr) (cap : Nat) (L : List Int), e = .returned (.slice a L.length cap) ∧ Hid (LensV f L) ∧ IntsV w' (.slice a L.length cap) L ∧ Below w.heap.size w w' := by
  obtain ⟨i0, hi, hz0, hz1, hz2⟩ := info_parts info_int
  have hm := mayF_any v f w hv hl
  by_cases hmay : mayF f = true
  · have HMay := Lib.hid hmay
    rw [hmay] at hm
    obtain ⟨hf300, hfr⟩ := mayF_iff.1 hmay
    have hon := once_any v f w hv hf300 (fun x hx => by have := hfr x hx; omega)
    have HV := Lib.hid hv
    have HFr := Lib.hid hfr
    have H300 := Lib.hid hf300
    clear hmay hfr hv
    go_enter Try.func36, Try.ntmps36
    go_wp2_with fail
    refine hm.mono ?_
    rintro e w1 ⟨rfl, rfl⟩
    clear hm
    go_wp2_with fail
    refine hon.mono ?_
    rintro e w1 ⟨v1, L1, rfl, hown1, honce1, hb1⟩
    have Hown1 := Lib.hid hown1
    have Honce1 := Lib.hid honce1
    have Hb1 := Lib.hid hb1
    have HV1 := Lib.hid (sl_below HV.out hb1)
    clear hon hown1 honce1 hb1 hf300
    go_wp2_with fail
    go_loopg [0, 3] f.sum.toNat (fun n v0 v3 wr => ∃ h L : List Int, h.length = f.length ∧ h.sum.toNat ≤ n ∧ IntsV wr v0 h ∧ (∀ x ∈ h, 0 ≤ x ∧ x ≤ 100000) ∧ (∀ M, LensR h M → LensR f M) ∧ OnceR h L ∧ Lens w.heap.size wr v3 L ∧ Below w.heap.size w wr)
    case atStart => exact ⟨f, L1, rfl, Nat.le_refl _, HV1.out, HFr.out, fun L h => h, Honce1.out, Hown1.out, Hb1.out⟩
    case round =>
      obtain ⟨h, L, hlen, hsum, hv0, hrg, hchain, honce, hown, hb⟩ := hrel
      have Hlen := Lib.hid hlen
      have Hsum := Lib.hid hsum
      have HV0 := Lib.hid hv0
      have Hrg := Lib.hid hrg
      have Hchain := Lib.hid hchain
      have Honce := Lib.hid honce
      have Hown := Lib.hid hown
      have Hb := Lib.hid hb
      have HLl : Hid (L.length = f.length) := by unfold Hid; rw [onceR_length honce]; exact hlen
      obtain ⟨a3, c3, rfl, _⟩ := owns_shape hown
      have hdp := deep_any _ L wr (lens_sl hown) (by have := HLl.out; omega)
      clear hlen hsum hrg hchain honce hown hb Hown1 Hb1 Honce1 HV1
      obtain ⟨aX, cX, rfl, hcX, hnX, hcellX⟩ := hv0
      clear hcellX hnX hcX
      by_cases hd : deepB L = false
      · have HOk := Lib.hid (deepB_false.1 hd)
        rw [hd] at hdp
        clear hd
        go_wp2_with fail
        refine hdp.mono ?_
        rintro e w2 ⟨rfl, rfl⟩
        go_wp2_with fail
        go_ret
        exact ⟨_, _, L, rfl, ⟨fun _ => Hchain.out L (.stop Honce.out HOk.out), fun q => by rw [HMay.out] at q; cases q⟩, lens_sl Hown.out, Hb.out⟩
      · have hd' : deepB L = true := by cases q : deepB L with
          | true => rfl
          | false => exact absurd q hd
        have hdeep : ¬ maxOk L := fun q => hd (deepB_false.2 q)
        rw [hd'] at hdp
        have hlt' := halve_lt Honce.out (fun x hx => (Hrg.out x hx).1) (by have := Hlen.out; have := H300.out; omega) hdeep
        have hnn : 0 ≤ (halve h).sum := by
          have : ∀ l : List Int, (∀ x ∈ l, 0 ≤ x) → 0 ≤ l.sum := by
            intro l
            induction l with
            | nil => intro _; simp
            | cons x l ih => intro q; have := q x (List.mem_cons_self ..); have := ih fun y hy => q y (List.mem_cons_of_mem _ hy); simp only [List.sum_cons]; omega
          exact this _ (halve_nonneg fun x hx => (Hrg.out x hx).1)
        have Hlt' : Hid ((halve h).sum.toNat < gk) := by unfold Hid; have := Hsum.out; omega
        have Hch : Hid (∀ M, LensR (halve h) M → LensR f M) := fun M hM => Hchain.out M (.halve Honce.out hdeep hM)
        have Hrg2 : Hid (∀ x ∈ halve h, 0 ≤ x ∧ x ≤ 100000) := fun x hx => ⟨halve_nonneg (fun x hx => (Hrg.out x hx).1) x hx, halve_le (by omega) (fun x hx => (Hrg.out x hx).2) x hx⟩
        have hh300 : h.length ≤ 300 := by have := Hlen.out; have := H300.out; omega
        clear hlt' hnn hdeep Honce Hown Hchain hd hd'
        go_wp2_with fail
        refine hdp.mono ?_
        rintro e w2 ⟨rfl, rfl⟩
        clear hdp
        obtain ⟨wo, hwo⟩ : ∃ wo : World, wo = wr := ⟨_, rfl⟩
        subst hwo
        have HOw0 : Hid (Lens wo.heap.size (wo.alloc (.cells #[] 3)) (.slice (some ⟨wo.heap.size, 0, none⟩) 0 0) []) := owns_none wo 3 1
        have Hb0 : Hid (Below wo.heap.size wo (wo.alloc (.cells #[] 3))) := (Below.refl _ _).alloc (Nat.le_refl _) _
        obtain ⟨W0, hW0⟩ : ∃ W0, wo.alloc (.cells #[] 3) = W0 := ⟨_, rfl⟩
        rw [hW0] at HOw0 Hb0
        go_wp2_with fail
        clear hW0
        go_loopw [4, 5] (fun v4 i wq => ∃ k : Nat, i = .int .i64 k ∧ k ≤ h.length ∧ Lens wo.heap.size wq v4 (halve (h.take k)) ∧ Below wo.heap.size wo wq) (fun _ i _ => h.length - (intOf i).toNat)
        case atStart => exact ⟨0, rfl, Nat.zero_le _, HOw0.out, Hb0.out⟩
        case round =>
          obtain ⟨k, rfl, hk, hown, hbq⟩ := hrel
          have hlh : (halve (h.take k)).length = k := by rw [halve_length, List.length_take]; omega
          have ho := hown
          unfold Lens at ho
          rw [hlh] at ho
          have Hown := Lib.hid ho
          have Hlh := Lib.hid hlh
          have HVq := Lib.hid (sl_below HV0.out hbq)
          have Hbq := Lib.hid hbq
          have hszq := hbq.size
          obtain ⟨a4, c4, rfl, _⟩ := owns_shape ho
          clear ho hown hbq hlh HOw0 Hb0
          by_cases hlt : k < h.length
          · rcases sl_one HVq.out with ⟨rfl, _⟩ | ⟨_, bX, oX, cX', hveq, _, hbX, cellX⟩
            · simp at hlt
            injection hveq with q1 q2 q3
            subst q1 q3
            have e0 := cellX k hlt
            have HS := Lib.hid (halve_snoc hlt)
            have hx := Hrg.out h[k] (List.getElem_mem hlt)
            have g2 : (k : Int) < (h.length : Int) := by omega
            have g3 : (0 : Int) ≤ (k : Int) := by omega
            obtain ⟨x0, x1⟩ := hx
            clear cellX q2
            generalize h[k] = x at *
            have y0 : 0 ≤ x + 1 := by omega
            go_wp2_with (first | (at_builtin; have hQ := Hown.out.alloc (.cells #[.int .i64 ((x + 1) / 2)] 3); refine wpList_append_own_at _ rfl _ _ 50 rfl wo.heap.size 3 i0 (.int .i64 0) 1 8 Try.underlying50 hi hz0 hz1 hz2 rfl (by decide) _ _ _ rfl hQ ⟨wr.heap.size, 0, none⟩ 1 1 [.int .i64 ((x + 1) / 2)] rfl rfl (cell_one_new _ _ _) (by simp [Value.oneCell']) (by simp [maxLen]; omega) (by omega) (by simp; omega) ?_
                                  intro v3 w3 hown3 hg3 _ hat3
                                  have Hown3 := Lib.hid hown3
                                  have Hb3 := Lib.hid ((Hbq.out.alloc hszq _).grown hg3 (by simp; omega) (fun b hbk => owns_block Hown.out b hbk))
                                  clear hown3 hg3 hat3 hQ))
            exact ⟨⟨k + 1, by go_num, by omega, by
              have e : (halve (h.take k) ++ [(x + 1) / 2]).length = k + 1 := by rw [List.length_append, Hlh.out]; rfl
              unfold Lens
              rw [HS.out, e, List.map_append]
              exact Hown3.out, Hb3.out⟩, by simp [intOf]; omega⟩
          · obtain rfl : k = h.length := by omega
            have HVh : Hid (IntsV wr (.slice a4 h.length c4) (halve h)) := by
              have q := (sl_of_owns Hown.out).1
              rw [List.take_length] at q
              exact q
            have hon2 := once_any (.slice a4 h.length c4) (halve h) wr HVh.out (by rw [halve_length]; exact hh300) (fun x hx => by have := Hrg2.out x hx; omega)
            have HBw := Lib.hid (Hb.out.trans (Hbq.out.mono Hb.out.size))
            go_wp2_with fail
            refine hon2.mono ?_
            rintro e w5 ⟨v5, L5, rfl, hown5, honce5, hb5⟩
            have Hown5 := Lib.hid (owns_base hown5 HBw.out.size)
            have Honce5 := Lib.hid honce5
            have HB5 := Lib.hid (below_step' HBw.out hb5)
            have HV5 := Lib.hid (sl_below HVh.out hb5)
            clear hon2 hown5 honce5 hb5
            go_wp2_with fail
            go_roundg (halve h).sum.toNat
            case measure => exact Hlt'.out
            case rel =>
              refine ⟨halve h, L5, by rw [halve_length]; exact Hlen.out, Nat.le_refl _, HV5.out, Hrg2.out, Hch.out, Honce5.out, Hown5.out, HB5.out⟩
  · have hno : mayF f = false := by
      cases h : mayF f with
      | false => rfl
      | true => exact absurd h hmay
    have HNo := Lib.hid hno
    rw [hno] at hm
    clear hno hmay hv
    go_enter Try.func36, Try.ntmps36
    go_wp2_with fail
    refine hm.mono ?_
    rintro e w1 ⟨rfl, rfl⟩
    go_wp2_with fail
    go_ret
    exact ⟨none, 0, [], rfl, lensV_no HNo.out, sl_nil fun _ => rfl, Below.refl _ _⟩
end Go.Proofs.Ytolappilfjhfaaa
