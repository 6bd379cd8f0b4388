/- Contracts of the document's Put and Take. Conditions: numbers fit. -/
import Derived.Test.YtdbhmffiojchcaaBitsB
import Derived.Test.YtdbhmffiojchcaaSl3
namespace Go.Proofs.Ytdbhmffiojchcaa
open Go.RowKit

set_option maxHeartbeats 2000000 in
theorem putR_any (v : Value) (bs : List Bool) (n width : Int) (w : World) (hv : SlOf w v 1 (fun x => [.bool x]) bs) (hl : bs.length ≤ 140737488355232) (hok : putOk n width = true) :
    Calls Try.prog 34 #[v, .int .i64 n, .int .i64 width] w fun e w' => ∃ v', e = .returned (.tuple #[v', .bool true]) ∧ w'.ownsRow w.heap.size 4 1 v' (bs ++ putL n width.toNat).length ((bs ++ putL n width.toNat).map .bool) ∧ Below w.heap.size w w' := by
  obtain ⟨i0, hi, hz0, hz1, hz2⟩ := info_parts info_bool
  have hok' : 0 ≤ width ∧ width ≤ 30 ∧ 0 ≤ n ∧ n < p2 width.toNat := by simpa [putOk] using hok
  obtain ⟨h1, h2, h3, h4⟩ := hok'
  clear hok
  obtain ⟨W, rfl⟩ := Int.eq_ofNat_of_zero_le h1
  rw [Int.toNat_natCast] at h4
  rw [Int.toNat_natCast]
  have hp := p2_le (n := W) (by omega)
  have HV := Lib.hid hv
  clear hv
  go_enter Try.func34, Try.ntmps34
  go_wp2_with fail
  refine (power_any (W : Int) _ (by omega)).mono ?_
  rintro e w1 ⟨rfl, rfl⟩
  rw [Int.toNat_natCast]
  have h4' : ¬ p2 W ≤ n := by omega
  have HE := Lib.hid (owns_empty w 4 1)
  have HV2 := Lib.hid (sl_below HV.out ((Below.refl _ _).alloc (Nat.le_refl _) (.cells #[] 4)))
  go_wp2_with (first
    | (at_builtin; refine wpList_append_sl rfl _ _ 35 rfl w.heap.size 4 i0 (.bool false) 1 Try.underlying35 hi hz0 hz1 hz2 rfl _ _ _ rfl HE.out _ rfl HV2.out (fun _ => rfl) (by simp [maxLen]; omega) (by omega) (by simp) ?_; intro v1 w1 hown1 hg1 _)
    | fail)
  have hb1 : Below w.heap.size w w1 := ((Below.refl _ _).alloc (Nat.le_refl _) _).grown hg1 (by simp) (fun k hk => owns_block HE.out k hk)
  have Hown1 := Lib.hid hown1
  have Hb1 := Lib.hid hb1
  clear hown1 hb1 hg1 HE HV2 HV hp h4'
  go_loopw [8, 9] (fun out i wr => ∃ k : Nat, k ≤ W ∧ i = .int .i64 ((W : Int) - 1 - k) ∧ wr.ownsRow w.heap.size 4 1 out (bs.length + k) ((bs ++ (putL n W).take k).map .bool) ∧ Below w.heap.size w wr) (fun _ i _ => (intOf i + 1).toNat)
  case atStart => exact ⟨0, Nat.zero_le _, by simp, by simpa using Hown1.out, Hb1.out⟩
  case round =>
    obtain ⟨k, hk, rfl, hown, hb⟩ := hrel
    have Hown := Lib.hid hown
    have Hb := Lib.hid hb
    clear hown hb Hown1 Hb1
    by_cases hlt : k < W
    · have he : (putL n W)[k]'(by rw [putL_length]; exact hlt) = bitAt n (W - 1 - k) := by simp [putL]
      have Hstep := Lib.hid (List.take_succ_eq_append_getElem (i := k) (l := putL n W) (by rw [putL_length]; exact hlt))
      have He := Lib.hid he
      have g0 : 0 ≤ (W : Int) - 1 - k := by omega
      have hp1 := p2_pos (W - 1 - k)
      have hp2 := p2_le (n := W - 1 - k) (by omega)
      have hn63 : n < 4611686018427387904 := by have := p2_le (n := W) (by omega); omega
      have hx : wrap64 (n / p2 (W - 1 - k)) = n / p2 (W - 1 - k) := IntWalk.wrap64_in _ (by have := Int.ediv_le_self (p2 (W - 1 - k)) h3; have := Int.ediv_nonneg (b := p2 (W - 1 - k)) h3 (by omega); omega)
      have hq0 : 0 ≤ n / p2 (W - 1 - k) := Int.ediv_nonneg h3 (by omega)
      have HB : Hid (bitAt n (W - 1 - k) = (n / p2 (W - 1 - k) % 2 == 1)) := rfl
      clear he
      go_wp2_with fail
      refine (power_any ((W : Int) - 1 - k) _ (by omega)).mono ?_
      rintro e w1 ⟨rfl, rfl⟩
      rw [show ((W : Int) - 1 - k).toNat = W - 1 - k by omega]
      obtain ⟨a0, c0, rfl, _⟩ := owns_shape Hown.out
      go_wp2_with (at_builtin; refine wpList_append_own _ rfl _ _ 35 rfl w.heap.size 4 i0 (.bool false) 1 1 Try.underlying35 hi hz0 hz1 hz2 rfl (by decide) _ _ _ rfl (Hown.out.alloc _) ⟨wr.heap.size, 0, none⟩ 1 1 [.bool (n / p2 (W - 1 - k) % 2 == 1)] rfl rfl (cell_one_new _ _ _) (by simp [Value.oneCell']) (by simp [maxLen]; omega) (by omega) (by have := Hb.out.size; simp; omega) ?_; intro v2 w2 hown2 hgrow _)
      have hb2 : Below w.heap.size w w2 := ((Hb.out.alloc Hb.out.size _).grown hgrow (by have := Hb.out.size; simp; omega) (fun b hbk => owns_block Hown.out b hbk))
      rw [← HB.out] at hown2
      exact ⟨⟨k + 1, by omega, by rw [show ((W : Int) - 1 - ↑(k + 1)) = (W : Int) - 1 - k - 1 by omega], by
        rw [Hstep.out, He.out]
        simpa [Nat.add_assoc] using hown2, hb2⟩, by simp [intOf]; omega⟩
    · obtain rfl : k = W := by omega
      go_wp2_with fail
      go_ret2
      exact ⟨_, rfl, by
        have h := Hown.out
        rw [List.take_of_length_le (by rw [putL_length]; exact Nat.le_refl _)] at h
        rw [List.length_append, putL_length]
        exact h, Hb.out⟩

/-- May bits be taken? -/
def takeOkR (len : Nat) (at' width : Int) : Bool := decide (0 ≤ width ∧ width ≤ 30 ∧ 0 ≤ at' ∧ at' + width ≤ len)

set_option maxHeartbeats 2000000 in
theorem takeR_any (v : Value) (bs : List Bool) (p width : Int) (w : World) (hv : SlOf w v 1 (fun x => [.bool x]) bs) (hl : bs.length ≤ 140737488355328) (hok : takeOkR bs.length p width = true) :
    Calls Try.prog 36 #[v, .int .i64 p, .int .i64 width] w fun e w' => e = .returned (.tuple #[.int .i64 (takeN ((bs.drop p.toNat).take width.toNat)), .int .i64 (p + width), .bool true]) ∧ w = w' := by
  have hok' : 0 ≤ width ∧ width ≤ 30 ∧ 0 ≤ p ∧ p + width ≤ bs.length := by simpa [takeOkR] using hok
  obtain ⟨h1, h2, h3, h4⟩ := hok'
  clear hok
  obtain ⟨W, rfl⟩ := Int.eq_ofNat_of_zero_le h1
  obtain ⟨P, rfl⟩ := Int.eq_ofNat_of_zero_le h3
  rw [Int.toNat_natCast, Int.toNat_natCast]
  have hv0 := hv
  obtain ⟨aX, cX, rfl, hcX, hnX, hcellX⟩ := hv
  have HV := Lib.hid hv0
  clear hv0 hcellX hnX
  have hlen : ((bs.drop P).take W).length = W := by rw [List.length_take, List.length_drop]; omega
  have Hlen := Lib.hid hlen
  clear hlen
  have hp : (P : Int) ≤ (bs.length : Int) := by omega
  have x1 : IntKind.i64.wrap ((P : Int) + (W : Int)) = (P : Int) + (W : Int) := IntWalk.i64_in _ (by omega)
  go_enter Try.func36, Try.ntmps36
  go_wp2_with fail
  go_loop [9, 10] (fun n i => ∃ k : Nat, k ≤ W ∧ i = .int .i64 ((P : Int) + k) ∧ n = .int .i64 (takeN (((bs.drop P).take W).take k))) (fun _ i => P + W - (intOf i).toNat)
  case atStart => exact ⟨0, Nat.zero_le _, by simp, by simp [takeN]⟩
  case round =>
    obtain ⟨k, hk, rfl, rfl⟩ := hrel
    by_cases hlt : k < W
    · rcases sl_one HV.out with ⟨rfl, _⟩ | ⟨hp0, b0, o0, c0, hveq, hc0, hb0, cell0⟩
      · exfalso; simp at h4; omega
      · injection hveq with q1 q2 q3
        subst q1 q3
        have hkl : k < ((bs.drop P).take W).length := by rw [Hlen.out]; exact hlt
        have e0 : w.cell? ⟨b0, o0 + (P + k), none⟩ = some (.bool ((bs.drop P).take W)[k]) := by
          rw [cell0 (P + k) (by omega)]
          simp [List.getElem_take, List.getElem_drop]
        have HA := Lib.hid (List.take_succ_eq_append_getElem hkl)
        have hbd := takeN_bd (((bs.drop P).take W).take k)
        have hp2 := p2_le (n := (((bs.drop P).take W).take k).length) (by have := List.length_take_le k ((bs.drop P).take W); omega)
        have hp3 := p2_mono (m := (((bs.drop P).take W).take k).length) (n := 30) (by have := List.length_take_le k ((bs.drop P).take W); omega)
        have hp4 : p2 30 = 1073741824 := by decide
        have hbd2 : takeN (((bs.drop P).take W).take k) < 1073741824 := by omega
        have hbd1 := hbd.1
        have g0 : (P : Int) + (k : Int) < (P : Int) + (W : Int) := by omega
        have g1 : (P : Int) + (k : Int) < (bs.length : Int) := by omega
        have g2 : (0 : Int) ≤ (P : Int) + (k : Int) := by omega
        have g3 : ((P : Int) + (k : Int)).toNat = P + k := by omega
        have HT := Lib.hid (takeN_snoc (((bs.drop P).take W).take k) ((bs.drop P).take W)[k])
        clear hp2 hp3 hp4 hbd cell0 q2
        generalize ((bs.drop P).take W)[k] = x at *
        generalize hs : takeN (((bs.drop P).take W).take k) = s at *
        clear hs hkl
        cases x
        · go_wp2_with fail
          exact ⟨⟨k + 1, by omega, by go_num, by rw [HA.out, HT.out]; simp; omega⟩, by simp [intOf]; omega⟩
        · go_wp2_with fail
          exact ⟨⟨k + 1, by omega, by go_num, by rw [HA.out, HT.out]; simp; omega⟩, by simp [intOf]; omega⟩
    · obtain rfl : k = W := by omega
      have e0 := Lib.hid (List.take_of_length_le (Nat.le_of_eq Hlen.out))
      go_wp2_with fail
      go_ret3
      exact ⟨by simp [e0.out], rfl⟩

set_option maxHeartbeats 1000000 in
theorem takeR_no (v : Value) (bs : List Bool) (p width : Int) (w : World) (hv : SlOf w v 1 (fun x => [.bool x]) bs) (hl : bs.length ≤ 140737488355328) (hpb : p ≤ 9223372036854775807) (hok : takeOkR bs.length p width = false) :
    Calls Try.prog 36 #[v, .int .i64 p, .int .i64 width] w fun e w' => e = .returned (.tuple #[.int .i64 0, .int .i64 0, .bool false]) ∧ w = w' := by
  have hok' : ¬ (0 ≤ width ∧ width ≤ 30 ∧ 0 ≤ p ∧ p + width ≤ bs.length) := by simpa [takeOkR] using hok
  clear hok
  obtain ⟨a0, c0, rfl, hc0, hn0, _⟩ := hv
  by_cases h1 : width < 0
  · go_enter Try.func36, Try.ntmps36
    go_wp2
    go_ret3
    exact ⟨rfl, rfl⟩
  by_cases h2 : 30 < width
  · go_enter Try.func36, Try.ntmps36
    go_wp2
    go_ret3
    exact ⟨rfl, rfl⟩
  by_cases h3 : p < 0
  · go_enter Try.func36, Try.ntmps36
    go_wp2
    go_ret3
    exact ⟨rfl, rfl⟩
  by_cases h4 : (bs.length : Int) < p
  · go_enter Try.func36, Try.ntmps36
    go_wp2
    go_ret3
    exact ⟨rfl, rfl⟩
  have h5 : (bs.length : Int) < p + width := by omega
  clear hok'
  go_enter Try.func36, Try.ntmps36
  go_wp2
  go_ret3
  exact ⟨rfl, rfl⟩
end Go.Proofs.Ytdbhmffiojchcaa
