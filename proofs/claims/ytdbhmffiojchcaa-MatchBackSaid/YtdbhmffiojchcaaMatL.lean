/- The walk of MatchBack. Conditions: numbers fit. -/
import Derived.Test.YtdbhmffiojchcaaMatK
namespace Go.Proofs.Ytdbhmffiojchcaa
open Go.RowKit

theorem str_numsL (s : ByteArray) : strOfNums (nums s.data.toList) = s := by
  unfold strOfNums nums
  rw [List.map_map]
  have : ((fun n : Int => UInt8.ofNat n.toNat) ∘ fun c : UInt8 => (c.toNat : Int)) = id := by
    funext c; simp
  rw [this]
  simp
theorem size_zero (s : ByteArray) (h : s.size = 0) : s = ByteArray.mk #[] := by
  obtain ⟨⟨l⟩⟩ := s
  have : l.length = 0 := h
  rw [List.length_eq_zero_iff.1 this]
/-- With a byte less room it is not told. -/
theorem spl_less (L : List UInt8) (h : 0 < L.length) : exl ((L.length : Int) - 1) (spl L L.length 0) [] = none := by
  cases he : exl ((L.length : Int) - 1) (spl L L.length 0) [] with
  | none => rfl
  | some r =>
    have h1 := exl_more (more := (L.length : Int)) (by omega) he
    have h2 := spl_back L (L.length : Int) (by omega) L.length 0 (by omega) (by omega)
    rw [List.take_zero] at h2
    have h3 : some r = some (nums L) := h1.symm.trans h2
    injection h3 with h3
    have hne : spl L L.length 0 ≠ [] := by
      intro e
      rw [e, exl] at h2
      injection h2 with h2
      have h7 : (nums L).length = 0 := by rw [← h2]; rfl
      rw [nums_length] at h7
      omega
    have h4 := exl_len he hne
    rw [h3, nums_length] at h4
    omega

set_option maxRecDepth 100000 in
set_option maxHeartbeats 8000000 in
theorem back4_walk (s : ByteArray) (w : World) (hs0 : s.size ≤ 9223372036854775807) :
    Calls Try.prog 4 #[.string s] w fun e w' => e = .returned (.bool true) ∧ Below w.heap.size w w' := by
  have hl : s.data.toList.length = s.size := by simp
  by_cases h2000 : 2000 < s.size
  · go_enter Try.func4, Try.ntmps4
    go_wp2_with fail
    refine (fixed04_any _).mono ?_
    rintro e w1 ⟨rfl, hb1⟩
    go_wp2_with fail
    refine (fixed04_any _).mono ?_
    rintro e w2 ⟨rfl, hb2⟩
    go_wp2_with fail
    go_ret
    exact ⟨rfl, below_stepB hb1 hb2⟩
  have hs : s.size ≤ 1099511627776 := by omega
  have hsb := spl_back s.data.toList (s.size : Int) (by omega) s.size 0 (by omega) (by omega)
  rw [List.take_zero, show nums [] = [] from rfl] at hsb
  have hless : s.size = 0 ∨ exl ((s.size : Int) - 1) (spl s.data.toList s.size 0) [] = none := by
    by_cases h0 : s.size = 0
    · exact Or.inl h0
    · right
      have := spl_less s.data.toList (by omega)
      rw [hl] at this
      exact this
  have hcount := spl_count s.data.toList s.size 0
  rw [hl, Nat.sub_zero] at hcount
  have Hmay := Lib.hid (spl_may s.data.toList s.size 0)
  have Hsb := Lib.hid hsb
  have Hless := Lib.hid hless
  have Hl := Lib.hid hl
  clear hsb hless hl
  have hstr : toldS (some (nums s.data.toList)) = s := str_numsL s
  have Hstr := Lib.hid hstr
  clear hstr
  go_enter Try.func4, Try.ntmps4
  go_wp2_with fail
  refine (fixed04_any _).mono ?_
  rintro e w1 ⟨rfl, hb1⟩
  have c1 := split_any s w1 hs
  generalize spl s.data.toList s.size 0 = l at *
  go_wp2_with fail
  refine c1.mono ?_
  rintro e w2 ⟨v, rfl, hv, ⟨a0, c0, rfl⟩, hb2⟩
  clear c1
  have HB2 := Lib.hid (below_stepB hb1 hb2)
  have c2 := expand_any _ _ (s.size : Int) w2 hv (by omega)
  rw [Hsb.out, Hstr.out, show toldB (some (nums s.data.toList)) = true from rfl] at c2
  clear hb1 hb2
  go_wp2_with fail
  refine c2.mono ?_
  rintro e w3 ⟨rfl, hb3⟩
  clear c2
  have HB3 := Lib.hid (below_stepB HB2.out hb3)
  have hv3 := sl_below hv hb3
  clear hb3 hv HB2
  have c3 := expand_any _ _ ((s.size : Int) - 1) w3 hv3 (by omega)
  generalize hlb : toldB (exl ((s.size : Int) - 1) l []) = lb at *
  generalize toldS (exl ((s.size : Int) - 1) l []) = ls at *
  have Hlb := Lib.hid hlb
  clear hlb
  go_wp2_with fail
  refine c3.mono ?_
  rintro e w4 ⟨rfl, hb4⟩
  clear c3
  have HB4 := Lib.hid (below_stepB HB3.out hb4)
  have hv4 := sl_below hv3 hb4
  clear hb4 hv3 HB3
  go_wp2_with fail
  go_loopw [8] (fun ui wr => ∃ k : Nat, ui = .int .i64 k ∧ k ≤ l.length ∧ Below w.heap.size w wr ∧ Below w4.heap.size w4 wr) (fun ui _ => l.length - (intOf ui).toNat)
  case atStart => exact ⟨0, rfl, Nat.zero_le _, HB4.out, Below.refl _ _⟩
  case round =>
    obtain ⟨k, rfl, hk, hbA, hbB⟩ := hrel
    by_cases hkl : k < l.length
    · obtain ⟨b, off, cap, hv', hlc, hbl, hcell⟩ := toks_cells (sl_below hv4 hbB) (by omega)
      injection hv' with q1 q2 q3
      subst q1 q3
      obtain ⟨e0, e1, e2⟩ := hcell k hkl
      have hm := Hmay.out _ (List.getElem_mem hkl)
      generalize l[k] = t at *
      obtain ⟨tb, td, tn⟩ := t
      dsimp only at e0 e1 e2
      have HA := Lib.hid hbA
      have HBB := Lib.hid hbB
      have Hc := Lib.hid hcell
      clear hbA hbB hcell
      have c6 := may_any tb td tn wr
      rw [hm] at c6
      clear hm
      go_wp2_with fail
      refine c6.mono ?_
      rintro e w6 ⟨rfl, hb6⟩
      have HA6 := Lib.hid (below_stepB HA.out hb6)
      have HBB6 := Lib.hid (below_stepB HBB.out hb6)
      clear hb6 c6
      go_wp2_with fail
      exact ⟨⟨k + 1, by go_num, by omega, HA6.out, HBB6.out⟩, by simp [intOf]; omega⟩
    · obtain rfl : k = l.length := by omega
      have hse : (s.toList == s.toList) = true := by simp
      have HA := Lib.hid hbA
      clear hbA hbB
      by_cases h0 : s.size = 0
      · obtain rfl : l = [] := List.length_eq_zero_iff.1 (by omega)
        obtain rfl := size_zero s h0
        have hse2 : ((ByteArray.mk #[]).toList == (ByteArray.mk #[]).toList) = true := by simp
        cases lb
        · go_wp2_with fail
          all_goals
            go_ret
            exact ⟨by first | rfl | (simp; done) | (simp; omega) | (exfalso; omega), HA.out⟩
        · go_wp2_with fail
          all_goals
            go_ret
            exact ⟨by first | rfl | (simp; done) | (simp; omega), HA.out⟩
      · have hlf : lb = false := by
          rw [← Hlb.out]
          rcases Hless.out with h | h
          · exact absurd h h0
          · rw [h]; rfl
        subst hlf
        go_wp2_with fail
        all_goals
          go_ret
          exact ⟨by first | rfl | (simp; done) | (simp; omega), HA.out⟩
end Go.Proofs.Ytdbhmffiojchcaa
