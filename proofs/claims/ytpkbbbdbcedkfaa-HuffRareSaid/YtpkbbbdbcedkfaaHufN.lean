/- Contracts: may symbols be there so often; how many are there; are two lists alike; what lengths cost; the fixed calls of layer 5. Conditions: numbers fit. -/
import Derived.Test.YtpkbbbdbcedkfaaHufK
namespace Go.Proofs.Ytpkbbbdbcedkfaa
open Go.RowKit

theorem below_drewN5 {B : Nat} {a w : World} (h : Below B a w) (n : Nat) : Below B a (w.drewN n) := h.trans ⟨rfl, rfl, rfl, Nat.le_refl _, fun _ _ => rfl⟩

set_option maxHeartbeats 1000000 in
theorem mayF_any (v : Value) (f : List Int) (w : World) (hv : IntsV w v f) (hl : f.length ≤ 140737488355328) :
    Calls Try.prog 9 #[v] w fun e w' => e = .returned (.bool (mayF f)) ∧ w = w' := by
  have HV := Lib.hid hv
  obtain ⟨aX, cX, rfl, hcX, hnX, hcellX⟩ := hv
  clear hcellX hnX
  go_enter Try.func9, Try.ntmps9
  go_wp2_with fail
  go_loop [3] (fun i => ∃ k : Nat, k ≤ f.length ∧ i = .int .i64 k ∧ ∀ x ∈ f.take k, 0 ≤ x ∧ x ≤ 100000) (fun i => f.length - (intOf i).toNat)
  case atStart => exact ⟨0, Nat.zero_le _, rfl, by simp⟩
  case round =>
    obtain ⟨k, hk, rfl, hall⟩ := hrel
    have Hall := Lib.hid hall
    clear hall
    by_cases hlt : k < f.length
    · rcases sl_one HV.out with ⟨rfl, _⟩ | ⟨_, bX, oX, cX', hveq, _, hbX, cellX⟩
      · simp at hlt
      injection hveq with q1 q2 q3
      subst q1 q3
      have e0 := cellX k hlt
      have HT := Lib.hid (List.take_succ_eq_append_getElem hlt)
      have hmem : f[k] ∈ f := List.getElem_mem hlt
      have hbad : ¬ (0 ≤ f[k] ∧ f[k] ≤ 100000) → mayF f = false := fun hx => by
        cases h : mayF f with
        | false => rfl
        | true => exact absurd ((mayF_iff.1 h).2 _ hmem) hx
      have Hbad := Lib.hid hbad
      have g2 : (k : Int) < (f.length : Int) := by omega
      have g3 : (0 : Int) ≤ (k : Int) := by omega
      clear cellX q2 hmem hbad
      generalize f[k] = x at *
      by_cases hx0 : x < 0
      · have HNo := Lib.hid (Hbad.out (by omega))
        have b1 : decide (x < 0) = true := by simpa using hx0
        go_wp2_with fail
        go_ret
        exact ⟨by rw [HNo.out]; rfl, rfl⟩
      by_cases hx1 : 100000 < x
      · have HNo := Lib.hid (Hbad.out (by omega))
        have b1 : decide (x < 0) = false := by simpa using hx0
        have b2 : decide (100000 < x) = true := by simpa using hx1
        go_wp2_with fail
        go_ret
        exact ⟨by rw [HNo.out]; rfl, rfl⟩
      have b1 : decide (x < 0) = false := by simpa using hx0
      have b2 : decide (100000 < x) = false := by simpa using hx1
      go_wp2_with fail
      exact ⟨⟨k + 1, by omega, by go_num, fun y hy => by
        rw [HT.out, List.mem_append, List.mem_singleton] at hy
        rcases hy with hy | rfl
        · exact Hall.out y hy
        · omega⟩, by simp [intOf]; omega⟩
    · obtain rfl : k = f.length := by omega
      have hm : mayF f = decide ((f.length : Int) ≤ 300) := by
        have hrg := Hall.out
        rw [List.take_length] at hrg
        cases h : mayF f with
        | true => have := (mayF_iff.1 h).1; simp; omega
        | false =>
          by_cases h3 : f.length ≤ 300
          · have := mayF_iff.2 ⟨h3, hrg⟩; rw [h] at this; cases this
          · simp; omega
      have HM := Lib.hid hm
      clear hm
      go_wp2_with fail
      go_ret
      exact ⟨by rw [HM.out]; first | rfl | simp, rfl⟩

/-- How many symbols are there. -/
def thereL (f : List Int) : Nat := (f.filter fun x => decide (0 < x)).length
theorem thereL_init (f : List Int) : (initT f).length = thereL f := by
  have : ∀ k, k ≤ f.length → (initTo f k).length = thereL (f.take k) := by
    intro k
    induction k with
    | zero => intro _; rfl
    | succ k ih =>
      intro hk
      have hlt : k < f.length := by omega
      rw [List.take_succ_eq_append_getElem hlt]
      unfold thereL
      rw [List.filter_append]
      by_cases h : 0 < f[k]
      · rw [initTo_yes hlt h, List.length_append, List.length_append, ih (by omega)]
        simp [thereL, h]
      · rw [initTo_no hlt h, List.length_append, ih (by omega)]
        simp [thereL, h]
  have := this f.length (Nat.le_refl _)
  rwa [List.take_length, initTo_all] at this
set_option maxHeartbeats 1000000 in
theorem there_any (v : Value) (f : List Int) (w : World) (hv : IntsV w v f) (hl : f.length ≤ 140737488355328) :
    Calls Try.prog 11 #[v] w fun e w' => e = .returned (.int .i64 (thereL f)) ∧ w = w' := by
  have HV := Lib.hid hv
  obtain ⟨aX, cX, rfl, hcX, hnX, hcellX⟩ := hv
  clear hcellX hnX
  go_enter Try.func11, Try.ntmps11
  go_wp2_with fail
  go_loop [3, 4] (fun n i => ∃ k : Nat, k ≤ f.length ∧ i = .int .i64 k ∧ n = .int .i64 (thereL (f.take k))) (fun _ i => f.length - (intOf i).toNat)
  case atStart => exact ⟨0, Nat.zero_le _, rfl, rfl⟩
  case round =>
    obtain ⟨k, hk, rfl, rfl⟩ := hrel
    by_cases hlt : k < f.length
    · rcases sl_one HV.out with ⟨rfl, _⟩ | ⟨_, bX, oX, cX', hveq, _, hbX, cellX⟩
      · simp at hlt
      injection hveq with q1 q2 q3
      subst q1 q3
      have e0 := cellX k hlt
      have HT : Hid (thereL (f.take (k + 1)) = thereL (f.take k) + if 0 < f[k] then 1 else 0) := by
        unfold Hid thereL
        rw [List.take_succ_eq_append_getElem hlt, List.filter_append, List.length_append]
        by_cases h : 0 < f[k] <;> simp [h]
      have hle : thereL (f.take k) ≤ k := Nat.le_trans (List.length_filter_le _ _) (List.length_take_le k f)
      have g2 : (k : Int) < (f.length : Int) := by omega
      have g3 : (0 : Int) ≤ (k : Int) := by omega
      clear cellX q2
      generalize f[k] = x at *
      generalize thereL (f.take k) = n0 at *
      by_cases hx0 : 0 < x
      · rw [if_pos hx0] at HT
        go_wp2_with fail
        exact ⟨⟨k + 1, by omega, by go_num, by rw [HT.out]; first | rfl | go_num⟩, by simp [intOf]; omega⟩
      · rw [if_neg hx0] at HT
        go_wp2_with fail
        exact ⟨⟨k + 1, by omega, by go_num, by rw [HT.out]; rfl⟩, by simp [intOf]; omega⟩
    · obtain rfl : k = f.length := by omega
      have HT := Lib.hid (List.take_length (l := f))
      go_wp2_with fail
      go_ret
      exact ⟨rfl, rfl⟩

set_option maxRecDepth 100000 in
set_option maxHeartbeats 2000000 in
theorem ints_eq (u v : Value) (l : List Int) (w : World) (hu : IntsV w u l) (hv : IntsV w v l) (hl : l.length ≤ 1000000) :
    Calls Try.prog 16 #[u, v] w fun e w' => e = .returned (.bool true) ∧ Below w.heap.size w w' := by
  rcases sl_one hu with ⟨rfl, a1, c1, rfl, hn1⟩ | ⟨hp, b1, o1, c1, rfl, hl1, hb1, hc1⟩
  · rcases sl_one hv with ⟨_, a2, c2, rfl, hn2⟩ | ⟨hp, _⟩
    · go_enter Try.func16, Try.ntmps16
      go_wp2_with fail
      refine wp_loop_rounds 1 ?_
      rw [rounds_succ]
      go_wp2_with fail
      go_ret
      exact ⟨rfl, Below.refl _ _⟩
    · simp at hp
  rcases sl_one hv with ⟨h0, _⟩ | ⟨_, b2, o2, c2, rfl, hl2, hb2, hc2⟩
  · rw [h0] at hp; simp at hp
  have HC1 := Lib.hid hc1
  have HC2 := Lib.hid hc2
  clear hc1 hc2 hu hv
  go_enter Try.func16, Try.ntmps16
  go_wp2_with fail
  go_loopw [5] (fun ui wr => ∃ k : Nat, ui = .int .i64 k ∧ k ≤ l.length ∧ ∃ m, wr = w.drewN m) (fun ui _ => l.length - (intOf ui).toNat)
  case atStart => exact ⟨0, rfl, Nat.zero_le _, 0, rfl⟩
  case round =>
    obtain ⟨k, rfl, hk, m, hm⟩ := hrel
    by_cases hkl : k < l.length
    · have e0 := HC1.out k hkl
      have f0 := HC2.out k hkl
      have E0 : wr.cell? ⟨b1, o1 + k, none⟩ = some (.int .i64 l[k]) := by rw [hm]; exact e0
      have F0 : wr.cell? ⟨b2, o2 + k, none⟩ = some (.int .i64 l[k]) := by rw [hm]; exact f0
      have Hm := Lib.hid hm
      have g2 : (k : Int) < (l.length : Int) := by omega
      have g3 : (0 : Int) ≤ (k : Int) := by omega
      clear e0 f0 hm
      generalize l[k] = t at *
      have d1 : (t != t) = false := by simp
      go_wp2_with fail
      go_quiet (fail)
      go_wp2_with fail
      exact ⟨⟨k + 1, by go_num, by omega, _, by rw [Hm.out]; simp only [World.drewN_drewN]; rfl⟩, by simp [intOf]; omega⟩
    · have Hm := Lib.hid hm
      clear hm
      go_wp2_with fail
      go_ret
      exact ⟨rfl, by rw [Hm.out]; exact below_drewN5 (Below.refl _ _) m⟩

theorem cost_bd {f l : List Int} (hf : ∀ x ∈ f, 0 ≤ x ∧ x ≤ 100000) (hl : ∀ x ∈ l, 0 ≤ x ∧ x ≤ 1000) : ∀ k, k ≤ l.length → 0 ≤ costL f (l.take k) ∧ costL f (l.take k) ≤ 100000000 * k := by
  intro k
  induction k with
  | zero => intro _; simp [costL, sumG]
  | succ k ih =>
    intro hk
    have hlt : k < l.length := by omega
    obtain ⟨h1, h2⟩ := ih (by omega)
    have h3 := hl l[k] (List.getElem_mem hlt)
    have h4 : 0 ≤ f[k]?.getD 0 ∧ f[k]?.getD 0 ≤ 100000 := by
      by_cases h : k < f.length
      · rw [List.getElem?_eq_getElem h, Option.getD_some]; exact hf _ (List.getElem_mem h)
      · rw [List.getElem?_eq_none (by omega)]; decide
    have e : costL f (l.take (k + 1)) = costL f (l.take k) + f[k]?.getD 0 * l[k] := by
      unfold costL
      rw [sumG_take _ l 0 k hlt, Nat.zero_add]
    have h5 : 0 ≤ f[k]?.getD 0 * l[k] := Int.mul_nonneg h4.1 h3.1
    have h6 : f[k]?.getD 0 * l[k] ≤ 100000 * 1000 := Int.mul_le_mul h4.2 h3.2 h3.1 (by omega)
    rw [e]; omega

set_option maxHeartbeats 2000000 in
theorem cost_any (u v : Value) (f l : List Int) (w : World) (hu : IntsV w u f) (hv : IntsV w v l) (hlen : l.length = f.length) (hl : f.length ≤ 1000) (hf : ∀ x ∈ f, 0 ≤ x ∧ x ≤ 100000) (hl2 : ∀ x ∈ l, 0 ≤ x ∧ x ≤ 1000) :
    Calls Try.prog 15 #[u, v] w fun e w' => e = .returned (.int .i64 (costL f l)) ∧ Below w.heap.size w w' := by
  rcases sl_one hu with ⟨rfl, a1, c1, rfl, hn1⟩ | ⟨hp, b1, o1, c1, rfl, hl1, hb1, hc1⟩
  · have hl0 : l = [] := List.length_eq_zero_iff.1 hlen
    subst hl0
    obtain ⟨a2, c2, rfl, _⟩ := hv
    go_enter Try.func15, Try.ntmps15
    go_wp2_with fail
    refine wp_loop_rounds 1 ?_
    rw [rounds_succ]
    go_wp2_with fail
    go_ret
    exact ⟨rfl, Below.refl _ _⟩
  rcases sl_one hv with ⟨h0, _⟩ | ⟨_, b2, o2, c2, rfl, hl2', hb2, hc2⟩
  · rw [h0] at hlen; simp at hlen; omega
  have HC1 := Lib.hid hc1
  have HC2 := Lib.hid hc2
  have Hf := Lib.hid hf
  have Hl2 := Lib.hid hl2
  have Hlen := Lib.hid hlen
  have HB := Lib.hid (cost_bd hf hl2)
  rw [hlen]
  clear hc1 hc2 hu hv hf hl2 hlen
  go_enter Try.func15, Try.ntmps15
  go_wp2_with fail
  go_loopw [5, 12] (fun n ui wr => ∃ k : Nat, ui = .int .i64 k ∧ k ≤ f.length ∧ n = .int .i64 (costL f (l.take k)) ∧ ∃ m, wr = w.drewN m) (fun _ ui _ => f.length - (intOf ui).toNat)
  case atStart => exact ⟨0, rfl, Nat.zero_le _, by simp [costL, sumG], 0, rfl⟩
  case round =>
    obtain ⟨k, rfl, hk, rfl, m, hm⟩ := hrel
    by_cases hkl : k < f.length
    · have hkl2 : k < l.length := by rw [Hlen.out]; exact hkl
      have e0 := HC1.out k hkl
      have f0 := HC2.out k hkl2
      have E0 : wr.cell? ⟨b1, o1 + k, none⟩ = some (.int .i64 f[k]) := by rw [hm]; exact e0
      have F0 : wr.cell? ⟨b2, o2 + k, none⟩ = some (.int .i64 l[k]) := by rw [hm]; exact f0
      have Hm := Lib.hid hm
      have g2 : (k : Int) < (f.length : Int) := by omega
      have g3 : (0 : Int) ≤ (k : Int) := by omega
      have x1 := Hf.out f[k] (List.getElem_mem hkl)
      have x2 := Hl2.out l[k] (List.getElem_mem hkl2)
      have x3 := HB.out k (by omega)
      have hmul0 : 0 ≤ f[k] * l[k] := Int.mul_nonneg x1.1 x2.1
      have hmul1 : f[k] * l[k] ≤ 100000 * 1000 := Int.mul_le_mul x1.2 x2.2 x2.1 (by omega)
      have HS : Hid (costL f (l.take (k + 1)) = costL f (l.take k) + f[k] * l[k]) := by
        unfold Hid costL
        rw [sumG_take _ l 0 k hkl2, Nat.zero_add, List.getElem?_eq_getElem hkl, Option.getD_some]
      have w1 : IntKind.i64.wrap (f[k] * l[k]) = f[k] * l[k] := IntWalk.i64_in _ (by omega)
      have w2 : IntKind.i64.wrap (costL f (l.take k) + f[k] * l[k]) = costL f (l.take k) + f[k] * l[k] := IntWalk.i64_in _ (by omega)
      have w3 : wrap64 (f[k] * l[k]) = f[k] * l[k] := IntWalk.wrap64_in _ (by omega)
      clear e0 f0 hm x1 x2 x3 hmul0 hmul1
      generalize costL f (l.take k) = s at *
      generalize f[k] = p at *
      generalize l[k] = q at *
      clear hkl2
      go_wp2_with fail
      go_quiet (fail)
      go_wp2_with fail
      exact ⟨⟨k + 1, by go_num, by omega, by rw [HS.out], _, by rw [Hm.out]; simp only [World.drewN_drewN]; rfl⟩, by simp [intOf]; omega⟩
    · obtain rfl : k = f.length := by omega
      have Hm := Lib.hid hm
      have HT : Hid (l.take f.length = l) := by unfold Hid; rw [← Hlen.out, List.take_length]
      clear hm
      go_wp2_with fail
      go_ret
      exact ⟨by rw [HT.out]; rfl, by rw [Hm.out]; exact below_drewN5 (Below.refl _ _) m⟩
end Go.Proofs.Ytpkbbbdbcedkfaa
