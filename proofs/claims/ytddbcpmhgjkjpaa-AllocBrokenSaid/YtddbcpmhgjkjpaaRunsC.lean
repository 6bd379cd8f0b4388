/- Contracts: the reference's Fits, First, Longest, Free; is a place used in some. Conditions: numbers fit. -/
import Derived.Test.YtddbcpmhgjkjpaaBools
import Derived.Test.YtddbcpmhgjkjpaaRunsP
namespace Go.Proofs.Ytddbcpmhgjkjpaa
open Go.RowKit

abbrev BitsR (w : World) (v : Value) (l : List Bool) : Prop := SlOf w v 1 (fun x => [.bool x]) l

def fitsI (bs : List Bool) (p m : Int) : Bool := decide (1 ≤ m ∧ 0 ≤ p) && fits bs p.toNat m.toNat
theorem fitsI_out {bs : List Bool} {p m : Int} (h : ¬ (1 ≤ m ∧ 0 ≤ p ∧ p + m ≤ bs.length)) : fitsI bs p m = false := by
  cases hf : fitsI bs p m with
  | false => rfl
  | true =>
    exfalso
    unfold fitsI at hf
    rw [Bool.and_eq_true, decide_eq_true_eq] at hf
    have := (fits_iff.1 hf.2).1
    exact h ⟨hf.1.1, hf.1.2, by omega⟩

set_option maxHeartbeats 1000000 in
theorem fits_any (v : Value) (bs : List Bool) (p m : Int) (w : World) (hv : BitsR w v bs) (hl : bs.length ≤ 140737488355328) (bp : p ≤ 9223372036854775807) :
    Calls Try.prog 31 #[v, .int .i64 p, .int .i64 m] w fun e w' => e = .returned (.bool (fitsI bs p m)) ∧ w = w' := by
  by_cases hin : 1 ≤ m ∧ 0 ≤ p ∧ p + m ≤ bs.length
  · obtain ⟨h1, h2, h3⟩ := hin
    obtain ⟨P, rfl⟩ := Int.eq_ofNat_of_zero_le h2
    obtain ⟨M, rfl⟩ := Int.eq_ofNat_of_zero_le (a := m) (by omega)
    have hfit : fitsI bs P M = fits bs P M := by simp [fitsI]; intro _; omega
    have Hfit := Lib.hid hfit
    clear hfit
    rcases sl_one hv with ⟨rfl, _⟩ | ⟨hp0, b0, o0, c0, rfl, hc0, hb0, cell0⟩
    · exfalso; simp at h3; omega
    · clear hv
      go_enter Try.func31, Try.ntmps31
      go_wp2
      go_loop [7] (fun i => ∃ k : Nat, k ≤ M ∧ i = .int .i64 k ∧ ∀ j, j < k → bs.getD (P + j) true = false) (fun i => M - (intOf i).toNat)
      case atStart => exact ⟨0, Nat.zero_le _, rfl, fun j hj => by omega⟩
      case round =>
        obtain ⟨k, hk, rfl, hpre⟩ := hrel
        have Hpre := Lib.hid hpre
        clear hpre
        by_cases hlt : k < M
        · have hPk : P + k < bs.length := by omega
          have e0 := cell0 (P + k) hPk
          have g0 : (0 : Int) ≤ (P : Int) + (k : Int) := by omega
          have g1 : (P : Int) + (k : Int) < (bs.length : Int) := by omega
          have hg : bs.getD (P + k) true = bs[P + k] := by rw [List.getD_eq_getElem?_getD, List.getElem?_eq_getElem hPk]; rfl
          have Hg := Lib.hid hg
          clear cell0 hg
          generalize bs[P + k] = x at *
          cases x
          · go_wp2
            exact ⟨⟨k + 1, by omega, by go_num, fun j hj => by
              by_cases e : j = k
              · subst e; exact Hg.out
              · exact Hpre.out j (by omega)⟩, by simp [intOf]; omega⟩
          · have fin : fits bs P M = false := by
              cases hf : fits bs P M with
              | false => rfl
              | true => have := (fits_iff.1 hf).2 k hlt; rw [Hg.out] at this; cases this
            have Fin := Lib.hid fin
            clear fin
            go_wp2
            go_ret
            exact ⟨ret_bool (by rw [Hfit.out, Fin.out]), rfl⟩
        · obtain rfl : k = M := by omega
          have fin : fits bs P k = true := fits_iff.2 ⟨by omega, Hpre.out⟩
          have Fin := Lib.hid fin
          clear fin cell0
          go_wp2
          go_ret
          exact ⟨ret_bool (by rw [Hfit.out, Fin.out]), rfl⟩
  · have Hout := Lib.hid (fitsI_out hin)
    obtain ⟨a0, c0, rfl, _⟩ := hv
    by_cases h1 : m < 1
    · go_enter Try.func31, Try.ntmps31
      go_wp2
      go_ret
      exact ⟨ret_bool Hout.out.symm, rfl⟩
    by_cases h2 : p < 0
    · go_enter Try.func31, Try.ntmps31
      go_wp2
      go_ret
      exact ⟨ret_bool Hout.out.symm, rfl⟩
    by_cases h3 : (bs.length : Int) < p
    · go_enter Try.func31, Try.ntmps31
      go_wp2
      go_ret
      exact ⟨ret_bool Hout.out.symm, rfl⟩
    have h4 : (bs.length : Int) - p < m := by omega
    clear hin
    go_enter Try.func31, Try.ntmps31
    go_wp2
    go_ret
    exact ⟨ret_bool Hout.out.symm, rfl⟩

theorem fitsI_nat {bs : List Bool} {k : Nat} {m : Int} : fitsI bs k m = (decide (1 ≤ m) && fits bs k m.toNat) := by
  unfold fitsI
  rw [Int.toNat_natCast]
  congr 1
  simp

set_option maxHeartbeats 1000000 in
theorem rfirst_any (v : Value) (bs : List Bool) (m : Int) (w : World) (hv : BitsR w v bs) (hl : bs.length ≤ 140737488355328) :
    Calls Try.prog 57 #[v, .int .i64 m] w fun e w' => e = .returned (.int .i64 (firstP bs m)) ∧ w = w' := by
  obtain ⟨a0, c0, rfl, _⟩ := id hv
  go_enter Try.func57, Try.ntmps57
  go_wp2
  go_loop [5] (fun i => ∃ k : Nat, k ≤ bs.length ∧ i = .int .i64 k ∧ ∀ j : Nat, j < k → fitsI bs j m = false) (fun i => bs.length - (intOf i).toNat)
  case atStart => exact ⟨0, Nat.zero_le _, rfl, fun j hj => by omega⟩
  case round =>
    obtain ⟨k, hk, rfl, hpre⟩ := hrel
    have Hpre := Lib.hid hpre
    clear hpre
    by_cases hlt : k < bs.length
    · cases hf : fitsI bs k m
      · go_wp2_with (go_at_call 31; refine (fits_any _ bs _ _ _ hv hl (by omega)).mono ?_; rintro e w' ⟨rfl, rfl⟩)
        exact ⟨⟨k + 1, by omega, by go_num, fun j hj => by
          by_cases e : j = k
          · subst e; exact hf
          · exact Hpre.out j (by omega)⟩, by simp [intOf]; omega⟩
      · have hm : 1 ≤ m := by rw [fitsI_nat, Bool.and_eq_true, decide_eq_true_eq] at hf; exact hf.1
        have fin : firstP bs m = k := by
          refine firstP_some hm (by rw [fitsI_nat, Bool.and_eq_true] at hf; exact hf.2) fun b hb => ?_
          have := Hpre.out b hb
          rw [fitsI_nat] at this
          simpa [hm] using this
        have Fin := Lib.hid fin
        clear fin
        go_wp2_with (go_at_call 31; refine (fits_any _ bs _ _ _ hv hl (by omega)).mono ?_; rintro e w' ⟨rfl, rfl⟩)
        go_ret
        exact ⟨ret_int Fin.out.symm, rfl⟩
    · obtain rfl : k = bs.length := by omega
      have fin : firstP bs m = -1 := by
        by_cases hm : m < 1
        · exact firstP_small hm
        · refine firstP_none (by omega) fun b => ?_
          by_cases hb : b < bs.length
          · have := Hpre.out b hb
            rw [fitsI_nat] at this
            simpa [show (1 : Int) ≤ m by omega] using this
          · cases hf : fits bs b m.toNat with
            | false => rfl
            | true => have := (fits_iff.1 hf).1; omega
      have Fin := Lib.hid fin
      clear fin
      go_wp2
      go_ret
      exact ⟨ret_int Fin.out.symm, rfl⟩

theorem first_long {bs : List Bool} {k : Nat} : (0 : Int) ≤ firstP bs ((k : Int) + 1) ↔ k < longP bs := by
  have h := long_iff bs (n := k + 1) (by omega)
  rcases firstP_cases bs (n := (k : Int) + 1) (by omega) with ⟨e, hn⟩ | ⟨a, e, ha, _⟩
  · rw [e]
    constructor
    · intro h'; omega
    · intro h'
      obtain ⟨q, hq⟩ := h.1 (by omega)
      have := hn q
      rw [show ((k : Int) + 1).toNat = k + 1 by omega, hq] at this
      cases this
  · rw [e]
    constructor
    · intro _
      have : fits bs a (k + 1) = true := by rw [show ((k : Int) + 1).toNat = k + 1 by omega] at ha; exact ha
      have := h.2 ⟨a, this⟩
      omega
    · intro _; omega

set_option maxHeartbeats 1000000 in
theorem rlong_any (v : Value) (bs : List Bool) (w : World) (hv : BitsR w v bs) (hl : bs.length ≤ 140737488355328) :
    Calls Try.prog 34 #[v] w fun e w' => e = .returned (.int .i64 (longP bs : Nat)) ∧ w = w' := by
  have hll := long_le bs
  go_enter Try.func34, Try.ntmps34
  go_wp2
  go_loop [3] (fun i => ∃ k : Nat, k ≤ longP bs ∧ i = .int .i64 k) (fun i => longP bs - (intOf i).toNat)
  case atStart => exact ⟨0, Nat.zero_le _, rfl⟩
  case round =>
    obtain ⟨k, hk, rfl⟩ := hrel
    by_cases hlt : k < longP bs
    · have hf := first_long.2 hlt
      go_wp2_with (go_at_call 57; refine (rfirst_any _ bs _ _ hv hl).mono ?_; rintro e w' ⟨rfl, rfl⟩)
      exact ⟨⟨k + 1, by omega, by go_num⟩, by simp [intOf]; omega⟩
    · have hf : ¬ (0 : Int) ≤ firstP bs ((k : Int) + 1) := fun h => hlt (first_long.1 h)
      obtain rfl : k = longP bs := by omega
      go_wp2_with (go_at_call 57; refine (rfirst_any _ bs _ _ hv hl).mono ?_; rintro e w' ⟨rfl, rfl⟩)
      go_ret
      exact ⟨rfl, rfl⟩

theorem freeP_snoc (l : List Bool) (b : Bool) : freeP (l ++ [b]) = freeP l + (if b then 0 else 1) := by
  cases b <;> simp [freeP]

set_option maxHeartbeats 1000000 in
theorem rfree_any (v : Value) (bs : List Bool) (w : World) (hv : BitsR w v bs) (hl : bs.length ≤ 140737488355328) :
    Calls Try.prog 33 #[v] w fun e w' => e = .returned (.int .i64 (freeP bs : Nat)) ∧ w = w' := by
  rcases sl_one hv with ⟨rfl, a0, c0, rfl, _⟩ | ⟨hp0, b0, o0, c0, rfl, hc0, hb0, cell0⟩
  · go_enter Try.func33, Try.ntmps33
    go_wp2
    refine wp_loop_rounds 1 ?_
    rw [rounds_succ]
    go_wp2
    go_ret
    exact ⟨rfl, rfl⟩
  · clear hv
    go_enter Try.func33, Try.ntmps33
    go_wp2
    go_loop [3, 4] (fun s i => ∃ k : Nat, k ≤ bs.length ∧ i = .int .i64 k ∧ s = .int .i64 (freeP (bs.take k) : Nat)) (fun _ i => bs.length - (intOf i).toNat)
    case atStart => exact ⟨0, Nat.zero_le _, rfl, rfl⟩
    case round =>
      obtain ⟨k, hk, rfl, rfl⟩ := hrel
      by_cases hlt : k < bs.length
      · have e0 := cell0 k hlt
        have HA := Lib.hid (List.take_succ_eq_append_getElem hlt)
        have HS := Lib.hid (freeP_snoc (bs.take k) bs[k])
        have hb := free_le (bs.take k)
        have hb2 := List.length_take_le k bs
        have g1 : (k : Int) < (bs.length : Int) := by omega
        clear cell0
        generalize bs[k] = x at *
        cases x
        · go_wp2
          exact ⟨⟨k + 1, by omega, by go_num, by rw [HA.out, HS.out]; simp⟩, by simp [intOf]; omega⟩
        · go_wp2
          exact ⟨⟨k + 1, by omega, by go_num, by rw [HA.out, HS.out]; simp⟩, by simp [intOf]; omega⟩
      · obtain rfl : k = bs.length := by omega
        go_wp2
        go_ret
        exact ⟨by simp, rfl⟩

set_option maxHeartbeats 1000000 in
theorem index_any (v : Value) (bs : List Bool) (w : World) (hv : BitsR w v bs) (hl : bs.length ≤ 140737488355328) :
    Calls Try.prog 68 #[v, .bool true] w fun e w' => e = .returned (.bool (bs.any id)) ∧ w = w' := by
  have idx : Calls Try.prog 89 #[v, .bool true] w fun e w' => (∃ r : Int, e = .returned (.int .i64 r) ∧ decide (0 ≤ r) = bs.any id) ∧ w = w' := by
    rcases sl_one hv with ⟨rfl, a0, c0, rfl, _⟩ | ⟨hp0, b0, o0, c0, rfl, hc0, hb0, cell0⟩
    · go_enter Try.func89, Try.ntmps89
      go_wp2
      refine wp_loop_rounds 1 ?_
      rw [rounds_succ]
      go_wp2
      go_ret
      exact ⟨⟨-1, rfl, rfl⟩, rfl⟩
    · clear hv
      go_enter Try.func89, Try.ntmps89
      go_wp2
      go_loop [8] (fun i => ∃ k : Nat, k ≤ bs.length ∧ i = .int .i64 k ∧ (bs.take k).any id = false) (fun i => bs.length - (intOf i).toNat)
      case atStart => exact ⟨0, Nat.zero_le _, rfl, rfl⟩
      case round =>
        obtain ⟨k, hk, rfl, hpre⟩ := hrel
        have Hpre := Lib.hid hpre
        clear hpre
        by_cases hlt : k < bs.length
        · have e0 := cell0 k hlt
          have HA := Lib.hid (List.take_succ_eq_append_getElem hlt)
          have hany : bs[k] = true → bs.any id = true := fun h => List.any_eq_true.2 ⟨bs[k], List.getElem_mem hlt, h⟩
          have Hany := Lib.hid hany
          have g1 : (k : Int) < (bs.length : Int) := by omega
          clear cell0 hany
          generalize bs[k] = x at *
          cases x
          · go_wp2
            exact ⟨⟨k + 1, by omega, by go_num, by rw [HA.out, List.any_append, Hpre.out]; rfl⟩, by simp [intOf]; omega⟩
          · go_wp2
            go_ret
            exact ⟨⟨k, rfl, by rw [Hany.out (by trivial)]; simp⟩, rfl⟩
        · obtain rfl : k = bs.length := by omega
          rw [List.take_length] at Hpre
          go_wp2
          go_ret
          exact ⟨⟨-1, rfl, by rw [Hpre.out]; rfl⟩, rfl⟩
  go_enter Try.func68, Try.ntmps68
  go_wp2_with fail
  refine idx.mono ?_
  rintro e w' ⟨⟨r, rfl, hr⟩, rfl⟩
  have Hr := Lib.hid hr
  clear hr
  go_wp2_with fail
  go_ret
  exact ⟨ret_bool Hr.out, rfl⟩
end Go.Proofs.Ytddbcpmhgjkjpaa
