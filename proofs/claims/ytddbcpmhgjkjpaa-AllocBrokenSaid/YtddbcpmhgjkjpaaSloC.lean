/- The document's May of a chunk's table. Conditions: numbers fit. -/
import Derived.Test.YtddbcpmhgjkjpaaSloB
namespace Go.Proofs.Ytddbcpmhgjkjpaa
open Go.RowKit

set_option maxRecDepth 100000 in
set_option maxHeartbeats 4000000 in
theorem mayR_any (v : Value) (l : List Us) (w : World) (hv : UseV w v l) (hl : l.length ≤ 140737488355328) :
    Calls Try.prog 22 #[v] w fun e w' => e = .returned (.bool (mayU l)) ∧ Below w.heap.size w w' := by
  have HV := Lib.hid hv
  obtain ⟨aX, cX, rfl, hcX, hnX, hcellX⟩ := hv
  clear hcellX hnX
  go_enter Try.func22, Try.ntmps22
  go_wp2_with fail
  go_loopw [3] (fun i wr => ∃ k : Nat, k ≤ l.length ∧ i = .int .i64 k ∧ mayU (l.take k) = true ∧ Below w.heap.size w wr) (fun i _ => l.length - (intOf i).toNat)
  case atStart => exact ⟨0, Nat.zero_le _, rfl, rfl, Below.refl _ _⟩
  case round =>
    obtain ⟨k, hk, rfl, hm, hb⟩ := hrel
    have HM := Lib.hid hm
    have Hb := Lib.hid hb
    have hend := mayG_end (by omega) (by omega) hm
    clear hm hb
    by_cases hlt : k < l.length
    · obtain ⟨b, off, hveq, hblt, cells⟩ := use_at (sl_below HV.out Hb.out) hlt
      subst hveq
      obtain ⟨e0, e1, e2, e3⟩ := cells
      obtain ⟨p, q, c, o, hu⟩ : ∃ p q c o, l[k] = (p, q, c, o) := ⟨_, _, _, _, rfl⟩
      have hn := may_next hlt HM.out hu
      have Hbad := Lib.hid hn.2
      have Hgood := Lib.hid hn.1
      have hsz := Hb.out.size
      have HBa := Lib.hid (Hb.out.alloc hsz (.cells #[.int .i64 p, .int .i64 q, .int .i64 c, .bool o] 41))
      rw [hu] at e0 e1 e2 e3
      dsimp only at e0 e1 e2 e3
      have g0 : (k : Int) < (l.length : Int) := by omega
      have g1 : (0 : Int) ≤ (k : Int) := by omega
      have f0 : (wr.alloc (.cells #[.int .i64 p, .int .i64 q, .int .i64 c, .bool o] 41)).cell? ⟨wr.heap.size, 0, none⟩ = some (.int .i64 p) := by rw [World.cell?_alloc_new]; rfl
      rcases Nat.eq_zero_or_pos k with hk0 | hk0
      · subst hk0
        have z0 : decide ((0 : Int) < ((0 : Nat) : Int)) = false := by simp
        have he : endG 0 (l.take 0) = 0 := rfl
        rw [he] at Hbad Hgood
        simp only [Nat.zero_mul, Nat.add_zero] at e0 e1 e2 e3
        clear hn hu he hend
        by_cases t0 : q < 1
        · have b0 : decide (q < 1) = true := by simpa using t0
          have HNo := Lib.hid (Hbad.out (by omega))
          go_wp2_with fail
          go_ret
          exact ⟨by rw [HNo.out]; rfl, HBa.out⟩
        have b0 : decide (q < 1) = false := by simpa using t0
        by_cases t1 : 8 < q
        · have b1 : decide (8 < q) = true := by simpa using t1
          have HNo := Lib.hid (Hbad.out (by omega))
          go_wp2_with fail
          go_ret
          exact ⟨by rw [HNo.out]; rfl, HBa.out⟩
        have b1 : decide (8 < q) = false := by simpa using t1
        by_cases t2 : p < 0
        · have b2 : decide (p < 0) = true := by simpa using t2
          have HNo := Lib.hid (Hbad.out (by omega))
          go_wp2_with fail
          go_ret
          exact ⟨by rw [HNo.out]; rfl, HBa.out⟩
        have b2 : decide (p < 0) = false := by simpa using t2
        by_cases t3 : 16 < p
        · have b3 : decide (16 < p) = true := by simpa using t3
          have HNo := Lib.hid (Hbad.out (by omega))
          go_wp2_with fail
          go_ret
          exact ⟨by rw [HNo.out]; rfl, HBa.out⟩
        have b3 : decide (16 < p) = false := by simpa using t3
        by_cases t4 : 16 < p + q
        · have b4 : decide (16 < p + q) = true := by simpa using t4
          have HNo := Lib.hid (Hbad.out (by omega))
          go_wp2_with fail
          go_ret
          exact ⟨by rw [HNo.out]; rfl, HBa.out⟩
        have b4 : decide (16 < p + q) = false := by simpa using t4
        by_cases t5 : c < 0
        · have b5 : decide (c < 0) = true := by simpa using t5
          have HNo := Lib.hid (Hbad.out (by omega))
          go_wp2_with fail
          go_ret
          exact ⟨by rw [HNo.out]; rfl, HBa.out⟩
        have b5 : decide (c < 0) = false := by simpa using t5
        by_cases t6 : 1000000 < c
        · have b6 : decide (1000000 < c) = true := by simpa using t6
          have HNo := Lib.hid (Hbad.out (by omega))
          go_wp2_with fail
          go_ret
          exact ⟨by rw [HNo.out]; rfl, HBa.out⟩
        have b6 : decide (1000000 < c) = false := by simpa using t6
        by_cases t7 : c = 0
        · have b7 : (c == 0) = true := by simpa using t7
          have HC0 := Lib.hid t7
          cases o with
          | false =>
            have HNo := Lib.hid (Hbad.out (by intro h; have := h.2.2.2.2.2.2.2; simp at this; omega))
            clear t7
            go_wp2_with fail
            go_ret
            exact ⟨by rw [HNo.out]; rfl, HBa.out⟩
          | true =>
            have HG := Lib.hid (Hgood.out ⟨by omega, by omega, by omega, by omega, by omega, by omega, by omega, Or.inr rfl⟩)
            clear t7
            have HG2 := HG
            go_wp2_with fail
            go_quiet (fail)
            go_wp2_with fail
            exact ⟨⟨0 + 1, by omega, by go_num, HG.out.1, below_drewN9 HBa.out _⟩, by simp [intOf]; omega⟩
        · have b7 : (c == 0) = false := by simpa using t7
          have HG := Lib.hid (Hgood.out ⟨by omega, by omega, by omega, by omega, by omega, by omega, by omega, Or.inl (by omega)⟩)
          clear t7
          have HG2 := HG
          go_wp2_with fail
          go_quiet (fail)
          go_wp2_with fail
          exact ⟨⟨0 + 1, by omega, by go_num, HG.out.1, below_drewN9 HBa.out _⟩, by simp [intOf]; omega⟩
      · obtain ⟨j, rfl⟩ : ∃ j, k = j + 1 := ⟨k - 1, by omega⟩
        obtain ⟨b', off', hveq', hblt', cells'⟩ := use_at (sl_below HV.out Hb.out) (show j < l.length by omega)
        injection hveq' with q1
        injection q1 with q1 q2 q3
        subst q1 q2
        obtain ⟨c0, c1, _, _⟩ := cells'
        obtain ⟨p', q', c', o', hu'⟩ : ∃ p q c o, l[j] = (p, q, c, o) := ⟨_, _, _, _, rfl⟩
        have he : endG 0 (l.take (j + 1)) = p' + q' := by rw [List.take_succ_eq_append_getElem (show j < l.length by omega), hu']; exact endG_snoc _ _ _
        have hj := oneU_iff.1 ((mayU_iff.1 HM.out).1 l[j] (List.mem_take_iff_getElem.2 ⟨j, by omega, rfl⟩))
        rw [hu'] at c0 c1 hj
        dsimp only at c0 c1 hj
        obtain ⟨j1, j2, j3, j4, _⟩ := hj
        rw [he] at Hbad Hgood
        have z0 : decide ((0 : Int) < ((j + 1 : Nat) : Int)) = true := by simp
        have C0 : (wr.alloc (.cells #[.int .i64 p, .int .i64 q, .int .i64 c, .bool o] 41)).cell? ⟨b, off + j * 4, none⟩ = some (.int .i64 p') := by rw [World.cell?_alloc_lt _ _ _ hblt]; exact c0
        have C1 : (wr.alloc (.cells #[.int .i64 p, .int .i64 q, .int .i64 c, .bool o] 41)).cell? ⟨b, off + j * 4 + 1, none⟩ = some (.int .i64 q') := by rw [World.cell?_alloc_lt _ _ _ hblt]; exact c1
        clear hn hu he hend hu'
        have x2 : IntKind.i64.wrap (p' + q') = p' + q' := IntWalk.i64_in _ (by omega)
        by_cases t0 : q < 1
        · have b0 : decide (q < 1) = true := by simpa using t0
          have HNo := Lib.hid (Hbad.out (by omega))
          go_wp2_with fail
          go_ret
          exact ⟨by rw [HNo.out]; rfl, HBa.out⟩
        have b0 : decide (q < 1) = false := by simpa using t0
        by_cases t1 : 8 < q
        · have b1 : decide (8 < q) = true := by simpa using t1
          have HNo := Lib.hid (Hbad.out (by omega))
          go_wp2_with fail
          go_ret
          exact ⟨by rw [HNo.out]; rfl, HBa.out⟩
        have b1 : decide (8 < q) = false := by simpa using t1
        by_cases t2 : p < 0
        · have b2 : decide (p < 0) = true := by simpa using t2
          have HNo := Lib.hid (Hbad.out (by omega))
          go_wp2_with fail
          go_ret
          exact ⟨by rw [HNo.out]; rfl, HBa.out⟩
        have b2 : decide (p < 0) = false := by simpa using t2
        by_cases t3 : 16 < p
        · have b3 : decide (16 < p) = true := by simpa using t3
          have HNo := Lib.hid (Hbad.out (by omega))
          go_wp2_with fail
          go_ret
          exact ⟨by rw [HNo.out]; rfl, HBa.out⟩
        have b3 : decide (16 < p) = false := by simpa using t3
        by_cases t4 : 16 < p + q
        · have b4 : decide (16 < p + q) = true := by simpa using t4
          have HNo := Lib.hid (Hbad.out (by omega))
          go_wp2_with fail
          go_ret
          exact ⟨by rw [HNo.out]; rfl, HBa.out⟩
        have b4 : decide (16 < p + q) = false := by simpa using t4
        by_cases t5 : c < 0
        · have b5 : decide (c < 0) = true := by simpa using t5
          have HNo := Lib.hid (Hbad.out (by omega))
          go_wp2_with fail
          go_ret
          exact ⟨by rw [HNo.out]; rfl, HBa.out⟩
        have b5 : decide (c < 0) = false := by simpa using t5
        by_cases t6 : 1000000 < c
        · have b6 : decide (1000000 < c) = true := by simpa using t6
          have HNo := Lib.hid (Hbad.out (by omega))
          go_wp2_with fail
          go_ret
          exact ⟨by rw [HNo.out]; rfl, HBa.out⟩
        have b6 : decide (1000000 < c) = false := by simpa using t6
        by_cases t7 : c = 0
        · have b7 : (c == 0) = true := by simpa using t7
          cases o with
          | false =>
            have HNo := Lib.hid (Hbad.out (by intro h; have := h.2.2.2.2.2.2.2; simp at this; omega))
            clear t7
            go_wp2_with fail
            go_ret
            exact ⟨by rw [HNo.out]; rfl, HBa.out⟩
          | true =>
            by_cases tE : p < p' + q'
            · have bE : decide (p < p' + q') = true := by simpa using tE
              have HNo := Lib.hid (Hbad.out (by omega))
              clear t7
              go_wp2_with fail
              go_quiet (fail)
              go_wp2_with fail
              go_ret
              exact ⟨by rw [HNo.out]; rfl, below_drewN9 HBa.out _⟩
            have bE : decide (p < p' + q') = false := by simpa using tE
            have HG := Lib.hid (Hgood.out ⟨by omega, by omega, by omega, by omega, by omega, by omega, by omega, Or.inr rfl⟩)
            clear t7
            go_wp2_with fail
            go_quiet (fail)
            go_wp2_with fail
            exact ⟨⟨j + 1 + 1, by omega, by go_num, HG.out.1, below_drewN9 HBa.out _⟩, by simp [intOf]; omega⟩
        · have b7 : (c == 0) = false := by simpa using t7
          by_cases tE : p < p' + q'
          · have bE : decide (p < p' + q') = true := by simpa using tE
            have HNo := Lib.hid (Hbad.out (by omega))
            clear t7
            go_wp2_with fail
            go_quiet (fail)
            go_wp2_with fail
            go_ret
            exact ⟨by rw [HNo.out]; rfl, below_drewN9 HBa.out _⟩
          have bE : decide (p < p' + q') = false := by simpa using tE
          have HG := Lib.hid (Hgood.out ⟨by omega, by omega, by omega, by omega, by omega, by omega, by omega, Or.inl (by omega)⟩)
          clear t7
          go_wp2_with fail
          go_quiet (fail)
          go_wp2_with fail
          exact ⟨⟨j + 1 + 1, by omega, by go_num, HG.out.1, below_drewN9 HBa.out _⟩, by simp [intOf]; omega⟩
    · obtain rfl : k = l.length := by omega
      have HR : Hid (mayU l = true) := by have := HM.out; rw [List.take_length] at this; exact this
      go_wp2_with fail
      go_ret
      exact ⟨by rw [HR.out]; rfl, Hb.out⟩
end Go.Proofs.Ytddbcpmhgjkjpaa
