/- The contract of Lens. Conditions: numbers fit. -/
import Derived.Test.YtpkbbbdbcedkfaaHufL
namespace Go.Proofs.Ytpkbbbdbcedkfaa
open Go.RowKit

/-- May symbols be there so often? -/
def mayF (f : List Int) : Bool := decide (f.length ≤ 300) && f.all fun n => decide (0 ≤ n ∧ n ≤ 100000)
theorem mayF_iff {f : List Int} : mayF f = true ↔ f.length ≤ 300 ∧ ∀ x ∈ f, 0 ≤ x ∧ x ≤ 100000 := by
  simp only [mayF, Bool.and_eq_true, decide_eq_true_eq, List.all_eq_true]
/-- What Lens tells. -/
def LensV (f L : List Int) : Prop := (mayF f = true → LensR f L) ∧ (mayF f = false → L = [])
theorem lensV_no {f : List Int} (h : mayF f = false) : LensV f [] := ⟨fun h' => absurd h' (by rw [h]; decide), fun _ => rfl⟩
theorem lensV_nil : LensV [] [] := ⟨fun _ => .stop (Or.inl ⟨rfl, rfl⟩) (fun x hx => by cases hx), fun _ => rfl⟩
theorem lens_sl {B : Nat} {w : World} {v : Value} {L : List Int} (h : Lens B w v L) : IntsV w v L := (sl_of_owns h).1
def halveTo (g : List Int) (k : Nat) : List Int := halve (g.take k) ++ g.drop k
theorem halveTo_length (g : List Int) (k : Nat) (_hk : k ≤ g.length) : (halveTo g k).length = g.length := by
  unfold halveTo; rw [List.length_append, halve_length, List.length_take, List.length_drop]; omega
theorem halveTo_at {g : List Int} {k : Nat} (hk : k < g.length) : (halveTo g k)[k]? = some g[k] := by
  unfold halveTo
  rw [List.getElem?_append_right (by rw [halve_length, List.length_take]; omega), halve_length, List.length_take, Nat.min_eq_left (by omega), Nat.sub_self, List.getElem?_drop, Nat.add_zero, List.getElem?_eq_getElem hk]
theorem halveTo_step {g : List Int} {k : Nat} (hk : k < g.length) : (halveTo g k).set k ((g[k] + 1) / 2) = halveTo g (k + 1) := by
  have hl : (halve (g.take k)).length = k := by rw [halve_length, List.length_take]; omega
  have e1 : g.drop k = g[k] :: g.drop (k + 1) := List.drop_eq_getElem_cons hk
  have e2 : halve (g.take (k + 1)) = halve (g.take k) ++ [(g[k] + 1) / 2] := by
    rw [List.take_succ_eq_append_getElem hk]
    simp only [halve, List.map_append]; rfl
  have : (halve (g.take k) ++ g[k] :: g.drop (k + 1)).set k ((g[k] + 1) / 2) = halve (g.take k) ++ (g[k] :: g.drop (k + 1)).set (k - k) ((g[k] + 1) / 2) := by
    rw [List.set_append_right _ _ (by omega), hl]
  unfold halveTo
  rw [e1, this, Nat.sub_self, List.set_cons_zero, e2, List.append_assoc]; rfl
theorem halveTo_skip {g : List Int} {k : Nat} (hk : k < g.length) (h0 : g[k] = 0) : halveTo g k = halveTo g (k + 1) := by
  rw [← halveTo_step hk, h0]
  apply List.ext_getElem?
  intro i
  by_cases e : k = i
  · subst e
    rw [List.getElem?_set_self (by rw [halveTo_length g k (by omega)]; exact hk), halveTo_at hk, h0]; rfl
  · rw [List.getElem?_set_ne e]

set_option maxRecDepth 100000 in
set_option maxHeartbeats 2000000 in
theorem lens_any (v : Value) (f : List Int) (w : World) (hv : IntsV w v f) (hl : f.length ≤ 140737488355328) :
    Calls Try.prog 10 #[v] w fun e w' => ∃ (a : Option Addr) (cap : Nat) (L : List Int), e = .returned (.slice a L.length cap) ∧ Hid (LensV f L) ∧ IntsV w' (.slice a L.length cap) L ∧ Below w.heap.size w w' := by
  have HV := Lib.hid hv
  obtain ⟨aX, cX, rfl, hcX, hnX, hcellX⟩ := hv
  clear hcellX hnX
  by_cases h0 : f.length = 0
  · obtain rfl := List.length_eq_zero_iff.1 h0
    have d0 : (([] : List Int).length : Int) = 0 := rfl
    go_enter Try.func10, Try.ntmps10
    go_wp2_with fail
    go_ret
    exact ⟨none, 0, [], rfl, lensV_nil, sl_nil fun _ => rfl, Below.refl _ _⟩
  by_cases h300 : 300 < f.length
  · have hno : mayF f = false := by
      cases h : mayF f with
      | false => rfl
      | true => have := (mayF_iff.1 h).1; omega
    have HNo := Lib.hid hno
    clear hno
    have d0 : ((f.length : Int) == 0) = false := by simp; exact fun h => h0 (by rw [h]; rfl)
    have d1 : decide ((300 : Int) < (f.length : Int)) = true := by simp; omega
    have g1 : (300 : Int) < (f.length : Int) := by omega
    go_enter Try.func10, Try.ntmps10
    go_wp2_with fail
    go_ret
    exact ⟨none, 0, [], rfl, lensV_no HNo.out, sl_nil fun _ => rfl, Below.refl _ _⟩
  have d0 : ((f.length : Int) == 0) = false := by simp; exact fun h => h0 (by rw [h]; rfl)
  have g1 : ¬ (300 : Int) < (f.length : Int) := by omega
  have d1 : decide ((300 : Int) < (f.length : Int)) = false := by simp; omega
  go_enter Try.func10, Try.ntmps10
  go_wp2_with fail
  go_loop [19] (fun i => ∃ k : Nat, k ≤ f.length ∧ i = .int .i64 k ∧ ∀ x ∈ f.take k, 0 ≤ x ∧ x ≤ 100000) (fun i => f.length - (intOf i).toNat)
  case atStart => exact ⟨0, Nat.zero_le _, rfl, by simp⟩
  case round =>
    obtain ⟨k, hk, rfl, hall⟩ := hrel
    have Hall := Lib.hid hall
    clear hall
    by_cases hlt : k < f.length
    · rcases sl_one HV.out with ⟨rfl, _⟩ | ⟨_, bX, oX, cX', hveq, _, hbX, cellX⟩
      · simp at hlt
      injection hveq with q1 q2 q3
      subst q1 q3
      have e0 := cellX k hlt
      have HT := Lib.hid (List.take_succ_eq_append_getElem hlt)
      have hmem : f[k] ∈ f := List.getElem_mem hlt
      have hbad : ¬ (0 ≤ f[k] ∧ f[k] ≤ 100000) → mayF f = false := fun hx => by
        cases h : mayF f with
        | false => rfl
        | true => exact absurd ((mayF_iff.1 h).2 _ hmem) hx
      have Hbad := Lib.hid hbad
      have g2 : (k : Int) < (f.length : Int) := by omega
      have g3 : (0 : Int) ≤ (k : Int) := by omega
      clear cellX q2 hmem hbad
      generalize f[k] = x at *
      by_cases hx0 : x < 0
      · have HNo := Lib.hid (Hbad.out (by omega))
        have b1 : decide (x < 0) = true := by simpa using hx0
        go_wp2_with fail
        go_ret
        exact ⟨none, 0, [], rfl, lensV_no HNo.out, sl_nil fun _ => rfl, Below.refl _ _⟩
      by_cases hx1 : 100000 < x
      · have HNo := Lib.hid (Hbad.out (by omega))
        have b1 : decide (x < 0) = false := by simpa using hx0
        have b2 : decide (100000 < x) = true := by simpa using hx1
        go_wp2_with fail
        go_ret
        exact ⟨none, 0, [], rfl, lensV_no HNo.out, sl_nil fun _ => rfl, Below.refl _ _⟩
      have b1 : decide (x < 0) = false := by simpa using hx0
      have b2 : decide (100000 < x) = false := by simpa using hx1
      go_wp2_with fail
      exact ⟨⟨k + 1, by omega, by go_num, fun y hy => by
        rw [HT.out, List.mem_append, List.mem_singleton] at hy
        rcases hy with hy | rfl
        · exact Hall.out y hy
        · omega⟩, by simp [intOf]; omega⟩
    · obtain rfl : k = f.length := by omega
      have hrange : ∀ x ∈ f, 0 ≤ x ∧ x ≤ 100000 := by have := Hall.out; rwa [List.take_length] at this
      have hmay : mayF f = true := mayF_iff.2 ⟨by omega, hrange⟩
      have HMay := Lib.hid hmay
      have HRange := Lib.hid hrange
      clear hmay hrange Hall
      go_wp2_with fail
      refine (clone_ints _ f w HV.out (by omega) (by omega)).mono ?_
      rintro e w1 ⟨v1, rfl, hown1, hb1⟩
      obtain ⟨g, cap, rfl, hBg, hgl⟩ := hown1.form (by omega)
      have Hown1 := Lib.hid hown1
      have Hb1 := Lib.hid hb1
      clear hown1 hb1
      go_wp2_with fail
      go_loopg [6] f.sum.toNat (fun n _ wr => ∃ h : List Int, h.length = f.length ∧ h.sum.toNat ≤ n ∧ Lens w.heap.size wr (.slice (some ⟨g, 0, none⟩) f.length cap) h ∧ (∀ x ∈ h, 0 ≤ x ∧ x ≤ 100000) ∧ (∀ L, LensR h L → LensR f L) ∧ Below w.heap.size w wr)
      case atStart => exact ⟨f, rfl, Nat.le_refl _, Hown1.out, HRange.out, fun L h => h, Hb1.out⟩
      case round =>
        obtain ⟨h, hlen, hsum, hown, hrg, hchain, hb⟩ := hrel
        have Hlen := Lib.hid hlen
        have Hsum := Lib.hid hsum
        have Hown := Lib.hid hown
        have Hrg := Lib.hid hrg
        have Hchain := Lib.hid hchain
        have Hb := Lib.hid hb
        have hdep := depths_any _ h wr (by have := lens_sl hown; exact this) (by omega) (fun x hx => by have := hrg x hx; omega)
        clear hlen hsum hown hrg hchain hb Hown1 Hb1
        go_wp2_with fail
        refine hdep.mono ?_
        rintro e w2 ⟨v2, L, rfl, hown2, honce, hb2⟩
        have HLl : Hid (L.length = f.length) := by unfold Hid; rw [onceR_length honce]; exact Hlen.out
        obtain ⟨gd, capd, rfl, hBgd, _⟩ := hown2.form (by have := HLl.out; omega)
        have Honce := Lib.hid honce
        have Hown2 := Lib.hid hown2
        have HbL := Lib.hid (below_step' Hb.out hb2)
        have HownW := Lib.hid (owns_below Hown.out hb2)
        have hmx := max_any _ L w2 (lens_sl hown2) (by have := HLl.out; omega) (by have := HLl.out; omega)
        clear hdep honce hown2 hb2
        go_wp2_with fail
        refine hmx.mono ?_
        rintro e w3 ⟨m, rfl, hm, rfl⟩
        clear hmx
        by_cases hm15 : m ≤ 15
        · have hok : maxOk L := fun x hx => by have := hm.out.2 x hx; omega
          have HOk := Lib.hid hok
          clear hok
          go_wp2_with fail
          go_ret
          exact ⟨_, _, L, rfl, ⟨fun _ => Hchain.out L (.stop Honce.out HOk.out), fun h => by rw [HMay.out] at h; cases h⟩, lens_sl Hown2.out, HbL.out⟩
        · have hdeep : ¬ maxOk L := fun h => hm15 (h m hm.out.1)
          have hlt' := halve_lt Honce.out (fun x hx => (Hrg.out x hx).1) (by have := Hlen.out; omega) hdeep
          have hnn : 0 ≤ (halve h).sum := by
            have : ∀ l : List Int, (∀ x ∈ l, 0 ≤ x) → 0 ≤ l.sum := by
              intro l
              induction l with
              | nil => intro _; simp
              | cons x l ih => intro q; have := q x (List.mem_cons_self ..); have := ih fun y hy => q y (List.mem_cons_of_mem _ hy); simp only [List.sum_cons]; omega
            exact this _ (halve_nonneg fun x hx => (Hrg.out x hx).1)
          have Hlt' : Hid ((halve h).sum.toNat < gk) := by unfold Hid; have := Hsum.out; omega
          have Hch : Hid (∀ L, LensR (halve h) L → LensR f L) := fun L' hL' => Hchain.out L' (.halve Honce.out hdeep hL')
          have Hrg2 : Hid (∀ x ∈ halve h, 0 ≤ x ∧ x ≤ 100000) := fun x hx => ⟨halve_nonneg (fun x hx => (Hrg.out x hx).1) x hx, halve_le (by omega) (fun x hx => (Hrg.out x hx).2) x hx⟩
          clear hlt' hnn hdeep Honce Hown2 Hown Hb Hchain hm
          go_wp2_with fail
          obtain ⟨wo, hwo⟩ : ∃ wo : World, wo = w2 := ⟨_, rfl⟩
          subst hwo
          go_loopw [40] (fun i wr => ∃ k : Nat, k ≤ f.length ∧ i = .int .i64 k ∧ wr.ownsRow w.heap.size 3 1 (.slice (some ⟨g, 0, none⟩) f.length cap) f.length ((halveTo h k).map (Value.int .i64)) ∧ Below w.heap.size w wr) (fun i _ => f.length - (intOf i).toNat)
          case atStart => exact ⟨0, Nat.zero_le _, rfl, by have q := HownW.out; unfold Lens at q; rw [Hlen.out] at q; exact q, HbL.out⟩
          case round =>
            obtain ⟨k, hk, rfl, hownk, hbk⟩ := hrel
            have Hownk := Lib.hid hownk
            have Hbk := Lib.hid hbk
            clear hownk hbk
            by_cases hlt : k < f.length
            · have hkh : k < h.length := by rw [Hlen.out]; exact hlt
              have e0 : wr.cell? ⟨g, k, none⟩ = some (.int .i64 h[k]) := by rw [Hownk.out.cellAt k (by omega), List.getElem?_map, halveTo_at hkh]; rfl
              have e1 := Hownk.out.frozenAt k
              have hx := Hrg.out h[k] (List.getElem_mem hkh)
              have Hskip := Lib.hid (fun q => halveTo_skip hkh q)
              have hst := (Hownk.out.stored k (.int .i64 ((h[k] + 1) / 2))).1
              rw [← List.map_set, halveTo_step hkh] at hst
              have Hst := Lib.hid hst
              have Hbs := Lib.hid (Hbk.out.setCell (p := ⟨g, k, none⟩) hBg (.int .i64 ((h[k] + 1) / 2)))
              have g2 : (k : Int) < (f.length : Int) := by omega
              have g3 : (0 : Int) ≤ (k : Int) := by omega
              obtain ⟨x0, x1⟩ := hx
              clear hst
              generalize h[k] = x at *
              clear hkh
              by_cases hx0 : 0 < x
              · have y0 : 0 ≤ x + 1 := by omega
                go_wp2_with fail
                exact ⟨⟨k + 1, by omega, by go_num, Hst.out, Hbs.out⟩, by simp [intOf]; omega⟩
              · obtain rfl : x = 0 := by omega
                go_wp2_with fail
                exact ⟨⟨k + 1, by omega, by go_num, by rw [← Hskip.out rfl]; exact Hownk.out, Hbk.out⟩, by simp [intOf]; omega⟩
            · obtain rfl : k = f.length := by omega
              go_wp2_with fail
              go_roundg (halve h).sum.toNat
              case measure => exact Hlt'.out
              case rel =>
                refine ⟨halve h, by rw [halve_length]; exact Hlen.out, Nat.le_refl _, ?_, Hrg2.out, Hch.out, Hbk.out⟩
                have q := Hownk.out
                have e : halveTo h f.length = halve h := by
                  unfold halveTo
                  rw [List.take_of_length_le (by rw [Hlen.out]; exact Nat.le_refl _), List.drop_of_length_le (by rw [Hlen.out]; exact Nat.le_refl _), List.append_nil]
                rw [e] at q
                unfold Lens
                rw [halve_length, Hlen.out]
                exact q
end Go.Proofs.Ytpkbbbdbcedkfaa
