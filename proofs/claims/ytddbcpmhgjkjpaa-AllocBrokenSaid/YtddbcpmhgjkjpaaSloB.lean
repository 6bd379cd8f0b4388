/- The two Mays of a chunk's table. Conditions: numbers fit. -/
import Derived.Test.YtddbcpmhgjkjpaaSloA
namespace Go.Proofs.Ytddbcpmhgjkjpaa
open Go.RowKit

theorem endG_snoc (l : List Us) (u : Us) (e : Int) : endG e (l ++ [u]) = u.1 + u.2.1 := by rw [endG_append]; rfl
/-- One slot more, or none. -/
theorem may_next {l : List Us} {k : Nat} (hk : k < l.length) (hm : mayU (l.take k) = true) {p q c : Int} {o : Bool} (hu : l[k] = (p, q, c, o)) :
    ((1 ≤ q ∧ q ≤ 8 ∧ 0 ≤ p ∧ endG 0 (l.take k) ≤ p ∧ p + q ≤ 16 ∧ 0 ≤ c ∧ c ≤ 1000000 ∧ (0 < c ∨ o = true)) → mayU (l.take (k + 1)) = true ∧ endG 0 (l.take (k + 1)) = p + q) ∧
    (¬ (1 ≤ q ∧ q ≤ 8 ∧ 0 ≤ p ∧ endG 0 (l.take k) ≤ p ∧ p + q ≤ 16 ∧ 0 ≤ c ∧ c ≤ 1000000 ∧ (0 < c ∨ o = true)) → mayU l = false) := by
  rw [List.take_succ_eq_append_getElem hk, hu]
  constructor
  · rintro ⟨h1, h2, h3, h4, h5, h6, h7, h8⟩
    exact ⟨mayG_snoc.2 ⟨hm, oneU_iff.2 ⟨h1, h2, h3, h5, h6, h7, h8⟩, h4⟩, endG_snoc _ _ _⟩
  · intro hn
    cases h : mayU l with
    | false => rfl
    | true =>
      have h1 := mayU_take (k := k + 1) h
      rw [List.take_succ_eq_append_getElem hk, hu] at h1
      obtain ⟨_, h2, h3⟩ := mayG_snoc.1 h1
      have h4 := oneU_iff.1 h2
      exact absurd ⟨h4.1, h4.2.1, h4.2.2.1, h3, h4.2.2.2.1, h4.2.2.2.2.1, h4.2.2.2.2.2.1, h4.2.2.2.2.2.2⟩ hn

set_option maxRecDepth 100000 in
set_option maxHeartbeats 4000000 in
theorem may_any (v : Value) (l : List Us) (w : World) (hv : UseV w v l) (hl : l.length ≤ 140737488355328) :
    Calls Try.prog 21 #[v] w fun e w' => e = .returned (.bool (mayU l)) ∧ Below w.heap.size w w' := by
  have HV := Lib.hid hv
  obtain ⟨aX, cX, rfl, hcX, hnX, hcellX⟩ := hv
  clear hcellX hnX
  go_enter Try.func21, Try.ntmps21
  go_wp2_with fail
  go_loopw [3, 8] (fun e i wr => ∃ k : Nat, k ≤ l.length ∧ i = .int .i64 k ∧ mayU (l.take k) = true ∧ e = .int .i64 (endG 0 (l.take k)) ∧ Below w.heap.size w wr) (fun _ i _ => l.length - (intOf i).toNat)
  case atStart => exact ⟨0, Nat.zero_le _, rfl, rfl, rfl, Below.refl _ _⟩
  case round =>
    obtain ⟨k, hk, rfl, hm, rfl, hb⟩ := hrel
    have HM := Lib.hid hm
    have Hb := Lib.hid hb
    have hend := mayG_end (by omega) (by omega) hm
    clear hm hb
    by_cases hlt : k < l.length
    · obtain ⟨b, off, hveq, hblt, cells⟩ := use_at (sl_below HV.out Hb.out) hlt
      subst hveq
      obtain ⟨e0, e1, e2, e3⟩ := cells
      obtain ⟨p, q, c, o, hu⟩ : ∃ p q c o, l[k] = (p, q, c, o) := ⟨_, _, _, _, rfl⟩
      have hn := may_next hlt HM.out hu
      have Hbad := Lib.hid hn.2
      have Hgood := Lib.hid hn.1
      have hsz := Hb.out.size
      have HBa := Lib.hid (Hb.out.alloc hsz (.cells #[.int .i64 p, .int .i64 q, .int .i64 c, .bool o] 41))
      rw [hu] at e0 e1 e2 e3
      dsimp only at e0 e1 e2 e3
      have g0 : (k : Int) < (l.length : Int) := by omega
      have g1 : (0 : Int) ≤ (k : Int) := by omega
      clear hn hu
      generalize endG 0 (l.take k) = e at *
      by_cases t0 : q < 1
      · have b0 : decide (q < 1) = true := by simpa using t0
        have HNo := Lib.hid (Hbad.out (by omega))
        go_wp2_with fail
        go_ret
        exact ⟨by rw [HNo.out]; rfl, HBa.out⟩
      have b0 : decide (q < 1) = false := by simpa using t0
      by_cases t1 : 8 < q
      · have b1 : decide (8 < q) = true := by simpa using t1
        have HNo := Lib.hid (Hbad.out (by omega))
        go_wp2_with fail
        go_ret
        exact ⟨by rw [HNo.out]; rfl, HBa.out⟩
      have b1 : decide (8 < q) = false := by simpa using t1
      by_cases t2 : p < e
      · have b2 : decide (p < e) = true := by simpa using t2
        have HNo := Lib.hid (Hbad.out (by omega))
        go_wp2_with fail
        go_ret
        exact ⟨by rw [HNo.out]; rfl, HBa.out⟩
      have b2 : decide (p < e) = false := by simpa using t2
      by_cases t3 : 16 - q < p
      · have b3 : decide (16 - q < p) = true := by simpa using t3
        have HNo := Lib.hid (Hbad.out (by omega))
        go_wp2_with fail
        go_ret
        exact ⟨by rw [HNo.out]; rfl, HBa.out⟩
      have b3 : decide (16 - q < p) = false := by simpa using t3
      by_cases t4 : c < 0
      · have b4 : decide (c < 0) = true := by simpa using t4
        have HNo := Lib.hid (Hbad.out (by omega))
        go_wp2_with fail
        go_ret
        exact ⟨by rw [HNo.out]; rfl, HBa.out⟩
      have b4 : decide (c < 0) = false := by simpa using t4
      by_cases t5 : 1000000 < c
      · have b5 : decide (1000000 < c) = true := by simpa using t5
        have HNo := Lib.hid (Hbad.out (by omega))
        go_wp2_with fail
        go_ret
        exact ⟨by rw [HNo.out]; rfl, HBa.out⟩
      have b5 : decide (1000000 < c) = false := by simpa using t5
      by_cases t6 : c = 0
      · have b6 : (c == 0) = true := by simpa using t6
        have HC0 := Lib.hid t6
        cases o with
        | false =>
          have HNo := Lib.hid (Hbad.out (by intro h; have := h.2.2.2.2.2.2.2; simp at this; omega))
          clear t6
          go_wp2_with fail
          go_ret
          exact ⟨by rw [HNo.out]; rfl, HBa.out⟩
        | true =>
          have HG := Lib.hid (Hgood.out ⟨by omega, by omega, by omega, by omega, by omega, by omega, by omega, Or.inr rfl⟩)
          clear t6
          go_wp2_with fail
          exact ⟨⟨k + 1, by omega, by go_num, HG.out.1, by rw [HG.out.2], HBa.out⟩, by simp [intOf]; omega⟩
      · have b6 : (c == 0) = false := by simpa using t6
        have HG := Lib.hid (Hgood.out ⟨by omega, by omega, by omega, by omega, by omega, by omega, by omega, Or.inl (by omega)⟩)
        clear t6
        go_wp2_with fail
        exact ⟨⟨k + 1, by omega, by go_num, HG.out.1, by rw [HG.out.2], HBa.out⟩, by simp [intOf]; omega⟩
    · obtain rfl : k = l.length := by omega
      have HR : Hid (mayU l = true) := by have := HM.out; rw [List.take_length] at this; exact this
      go_wp2_with fail
      go_ret
      exact ⟨by rw [HR.out]; rfl, Hb.out⟩
end Go.Proofs.Ytddbcpmhgjkjpaa
