/- Contracts: the document's Commit, turn, Inc, Dec; two alike tables; is there an old slot. Conditions: numbers fit. -/
import Derived.Test.YtddbcpmhgjkjpaaSloF
namespace Go.Proofs.Ytddbcpmhgjkjpaa
open Go.RowKit

set_option maxRecDepth 100000 in
set_option maxHeartbeats 4000000 in
theorem commitR_any (v : Value) (l : List Us) (w : World) (hv : UseV w v l) (hl : l.length ≤ 140737488355328) :
    Calls Try.prog 30 #[v] w fun e w' => ∃ a cap, e = .returned (.slice a (commitU l).length cap) ∧ UseV w' (.slice a (commitU l).length cap) (commitU l) ∧ Below w.heap.size w w' := by
  obtain ⟨i0, hi, hz0, hz1, hz2⟩ := info_parts info_use
  have hm := fun w' (h : Below w.heap.size w w') => mayR_any v l w' (sl_below hv h) hl
  have HV := Lib.hid hv
  obtain ⟨aX, cX, rfl, hcX, hnX, hcellX⟩ := hv
  clear hcellX hnX
  have HE := Lib.hid (owns_empty w 41 4)
  cases hmay : mayU l with
  | false =>
    rw [hmay] at hm
    have HMc := Lib.hid hm
    have HU : Hid (commitU l = []) := by unfold Hid commitU; rw [hmay]; rfl
    have hpos : 0 < l.length := by
      rcases l with _ | ⟨u, l⟩
      · exact absurd hmay (by decide)
      · simp
    clear hmay hm
    have g0 : decide ((0 : Int) < (l.length : Int)) = true := by simp; omega
    go_enter Try.func30, Try.ntmps30
    go_wp2_with fail
    obtain ⟨W1, hW1⟩ : ∃ W1, W1 = w.alloc (.cells #[] 41) := ⟨_, rfl⟩
    have hb1 : Below w.heap.size w W1 := by rw [hW1]; exact (Below.refl _ _).alloc (Nat.le_refl _) _
    have HB1 := Lib.hid hb1
    rw [← hW1]
    clear hW1 hb1 HE
    go_loopw [3, 4] (fun vo i wr => i = .int .i64 0 ∧ vo = .slice (some ⟨w.heap.size, 0, none⟩) 0 0 ∧ wr = W1) (fun _ _ _ => 0)
    case atStart => exact ⟨rfl, rfl, rfl⟩
    case round =>
      obtain ⟨rfl, rfl, rfl⟩ := hrel
      go_wp2_with fail
      refine (HMc.out _ HB1.out).mono ?_
      rintro e w2 ⟨rfl, hb2⟩
      go_wp2_with fail
      go_ret
      rw [HU.out]
      exact ⟨_, _, rfl, sl_nil nofun, below_step9 HB1.out hb2⟩
  | true =>
    rw [hmay] at hm
    have HMc := Lib.hid hm
    have HU : Hid (commitU l = commitL l) := by unfold Hid commitU; rw [hmay]; rfl
    have hl16 := mayU_len hmay
    clear hmay hm
    go_enter Try.func30, Try.ntmps30
    go_wp2_with fail
    go_loopw [3, 4] (fun vo i wr => ∃ k : Nat, k ≤ l.length ∧ i = .int .i64 k ∧ wr.ownsRow w.heap.size 41 4 vo (commitL (l.take k)).length (cells4 (commitL (l.take k))) ∧ Below w.heap.size w wr) (fun _ i _ => l.length - (intOf i).toNat)
    case atStart => exact ⟨0, Nat.zero_le _, rfl, HE.out, (Below.refl _ _).alloc (Nat.le_refl _) _⟩
    case round =>
      clear HE
      obtain ⟨k, hk, rfl, hown, hbw⟩ := hrel
      obtain ⟨a0, c0, rfl, _⟩ := owns_shape hown
      by_cases hlt : k < l.length
      · have g0 : (k : Int) < (l.length : Int) := by omega
        have g1 : (0 : Int) ≤ (k : Int) := by omega
        have b0 : decide ((k : Int) < (l.length : Int)) = true := by simpa using g0
        have HO0 := Lib.hid hown
        have HB0 := Lib.hid hbw
        clear hown hbw
        go_wp2_with fail
        refine (HMc.out _ HB0.out).mono ?_
        rintro e w2 ⟨rfl, hb2⟩
        have Hown := Lib.hid (owns_below HO0.out hb2)
        have Hb := Lib.hid (below_step9 HB0.out hb2)
        clear hb2 HO0 HB0 b0
        obtain ⟨b0, off, hveq, hblt, cells⟩ := use_at (sl_below HV.out Hb.out) hlt
        subst hveq
        obtain ⟨e0, e1, e2, e3⟩ := cells
        have HN : Hid (commitL (l.take (k + 1)) = commitL (l.take k) ++ (if 0 < l[k].2.2.1 then [oldU l[k]] else [])) := by unfold Hid; rw [List.take_succ_eq_append_getElem hlt]; exact commitL_snoc _ _
        have hle := commitL_le (l.take k)
        have hle2 : (l.take k).length ≤ k := List.length_take_le _ _
        have hsz := Hb.out.size
        generalize l[k] = u at *
        generalize commitL (l.take k) = L0 at *
        obtain ⟨p, q, c, o⟩ := u
        dsimp only at e0 e1 e2 e3 HN
        by_cases hc : 0 < c
        · have b1 : decide (0 < c) = true := by simpa using hc
          rw [if_pos hc] at HN
          clear hc
          go_wp2_with (first
            | (at_builtin; refine wpList_append_own _ rfl _ _ 22 rfl w.heap.size 41 i0 _ 4 32 Try.underlying22 hi hz0 hz1 hz2 rfl (by decide) (.slice a0 L0.length c0) _ _ rfl ((Hown.out.alloc _).alloc _) ⟨w2.heap.size + 1, 0, none⟩ 1 1 (useE (p, q, c, true)) rfl rfl (by have h := cells_four9 (w2.alloc (.cells #[.int .i64 p, .int .i64 q, .int .i64 c, .bool true] 41)) (p, q, c, true) 41; rw [asz9] at h; exact h) (useE_one _) (by simp [maxLen]; omega) (by omega) (by simp; omega) ?_
               intro v3 w3 hown3 hg3 _
               have hb3 := ((Hb.out.alloc hsz _).alloc (by simp; omega) _).grown hg3 (by simp; omega) (fun b hbk => owns_block Hown.out b hbk)
               have HO3 := Lib.hid hown3
               have HB3 := Lib.hid hb3
               clear hown3 hg3 hb3)
            | fail)
          exact ⟨⟨k + 1, by omega, by go_num, by rw [HN.out, cells4_append, List.length_append]; exact HO3.out, HB3.out⟩, by simp [intOf]; omega⟩
        · have b1 : decide (0 < c) = false := by simpa using hc
          rw [if_neg hc, List.append_nil] at HN
          clear hc
          go_wp2_with fail
          exact ⟨⟨k + 1, by omega, by go_num, by rw [HN.out]; exact Hown.out, Hb.out⟩, by simp [intOf]; omega⟩
      · obtain rfl : k = l.length := by omega
        rw [List.take_length] at hown ⊢
        have HS := Lib.hid (use_of_owns hown).1
        have HB0 := Lib.hid hbw
        clear hown hbw
        go_wp2_with fail
        go_ret
        rw [HU.out]
        exact ⟨_, _, rfl, HS.out, HB0.out⟩

set_option maxRecDepth 100000 in
set_option maxHeartbeats 4000000 in
theorem same_use (u v : Value) (l : List Us) (w : World) (hu : UseV w u l) (hv : UseV w v l) (hl : l.length ≤ 1000000) :
    Calls Try.prog 28 #[u, v] w fun e w' => e = .returned (.bool true) ∧ Below w.heap.size w w' := by
  have HU := Lib.hid hu
  have HV := Lib.hid hv
  obtain ⟨aX, cX, rfl, hcX, hnX, hcellX⟩ := hu
  obtain ⟨aY, cY, rfl, hcY, hnY, hcellY⟩ := hv
  clear hcellX hnX hcellY hnY
  go_enter Try.func28, Try.ntmps28
  go_wp2_with fail
  go_loopw [5] (fun i wr => ∃ k : Nat, k ≤ l.length ∧ i = .int .i64 k ∧ ∃ m, wr = w.drewN m) (fun i _ => l.length - (intOf i).toNat)
  case atStart => exact ⟨0, Nat.zero_le _, rfl, 0, rfl⟩
  case round =>
    obtain ⟨k, hk, rfl, m, hm⟩ := hrel
    by_cases hlt : k < l.length
    · obtain ⟨b0, off, hveq, hblt, e0, e1, e2, e3⟩ := use_at HU.out hlt
      subst hveq
      obtain ⟨b1, off1, hveq, hblt1, f0, f1, f2, f3⟩ := use_at HV.out hlt
      subst hveq
      have E0 : wr.cell? ⟨b0, off + k * 4, none⟩ = some (.int .i64 l[k].1) := by rw [hm]; exact e0
      have E1 : wr.cell? ⟨b0, off + k * 4 + 1, none⟩ = some (.int .i64 l[k].2.1) := by rw [hm]; exact e1
      have E2 : wr.cell? ⟨b0, off + k * 4 + 2, none⟩ = some (.int .i64 l[k].2.2.1) := by rw [hm]; exact e2
      have E3 : wr.cell? ⟨b0, off + k * 4 + 3, none⟩ = some (.bool l[k].2.2.2) := by rw [hm]; exact e3
      have F0 : wr.cell? ⟨b1, off1 + k * 4, none⟩ = some (.int .i64 l[k].1) := by rw [hm]; exact f0
      have F1 : wr.cell? ⟨b1, off1 + k * 4 + 1, none⟩ = some (.int .i64 l[k].2.1) := by rw [hm]; exact f1
      have F2 : wr.cell? ⟨b1, off1 + k * 4 + 2, none⟩ = some (.int .i64 l[k].2.2.1) := by rw [hm]; exact f2
      have F3 : wr.cell? ⟨b1, off1 + k * 4 + 3, none⟩ = some (.bool l[k].2.2.2) := by rw [hm]; exact f3
      have Hm := Lib.hid hm
      have g0 : (k : Int) < (l.length : Int) := by omega
      have g1 : (0 : Int) ≤ (k : Int) := by omega
      clear e0 e1 e2 e3 f0 f1 f2 f3 hm
      generalize l[k] = x at *
      obtain ⟨p, q, c, o⟩ := x
      dsimp only at E0 E1 E2 E3 F0 F1 F2 F3
      go_wp2_with fail
      go_quiet (fail)
      go_wp2_with fail
      exact ⟨⟨k + 1, by omega, by go_num, _, by rw [Hm.out]; simp only [World.drewN_drewN]; rfl⟩, by simp [intOf]; omega⟩
    · obtain rfl : k = l.length := by omega
      have Hm := Lib.hid hm
      clear hm
      go_wp2_with fail
      go_ret
      exact ⟨rfl, by rw [Hm.out]; exact below_drewN9 (Below.refl _ _) m⟩
end Go.Proofs.Ytddbcpmhgjkjpaa
