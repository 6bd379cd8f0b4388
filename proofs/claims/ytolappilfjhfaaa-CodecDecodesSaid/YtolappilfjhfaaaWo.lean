/- The contract of the document's Unpack. Conditions: numbers fit. The contracts of the document's Alike, Longest, Split. Conditions: numbers fit. The contracts of the document's Split and Pack. Conditions: numbers fit. The contracts of the document's Encode, Decode, Sectors; the walks of CodecEncodes and CodecDecodes. Conditions: numbers fit. -/
import Derived.Deep.RegionLaw
import Derived.Deep.AppendLies
import Derived.Test.YtolappilfjhfaaaWb
import Derived.Test.YtolappilfjhfaaaWg
import Derived.Test.YtolappilfjhfaaaWd
import Derived.Test.YtolappilfjhfaaaWh
import Derived.Test.YtolappilfjhfaaaWe
import Derived.Test.YtolappilfjhfaaaWn
import Derived.Test.YtolappilfjhfaaaWl
namespace Go.Proofs.Ytolappilfjhfaaa
open Go.RowKit

theorem alloc_drew_comm (w : World) (o : Obj) : (w.alloc o).drew = w.drew.alloc o := rfl

set_option maxRecDepth 100000 in
set_option maxHeartbeats 8000000 in
theorem unpackR_any (s : ByteArray) (w : World) (hs : s.size ≤ 17592186044416) :
    Calls Try.prog 53 #[.string s] w fun e w' => ∃ v', e = .returned v' ∧ w'.ownsRow w.heap.size 4 1 v' (unpackL (numsOf s)).length ((unpackL (numsOf s)).map .bool) ∧ Below w.heap.size w w' := by
  obtain ⟨i0, hi, hz0, hz1, hz2⟩ := info_parts info_bool
  have HE := Lib.hid (owns_empty w 4 1)
  have HB0 : Hid (Below w.heap.size w (w.alloc (.cells #[] 4))) := (Below.refl _ _).alloc (Nat.le_refl _) _
  go_enter Try.func53, Try.ntmps53
  go_wp2_with fail
  go_loopw [3, 4] (fun v i wr => ∃ k : Nat, k ≤ s.size ∧ i = .int .i64 k ∧ wr.ownsRow w.heap.size 4 1 v (8 * k) ((unpackL ((numsOf s).take k)).map .bool) ∧ Below w.heap.size w wr) (fun _ i _ => s.size - (intOf i).toNat)
  case atStart => exact ⟨0, Nat.zero_le _, rfl, HE.out, HB0.out⟩
  case round =>
    obtain ⟨k, hk, rfl, hown, hb⟩ := hrel
    have Hown := Lib.hid hown
    have Hb := Lib.hid hb
    clear hown hb HE HB0
    by_cases hlt : k < s.size
    · have hcb := s[k].toNat_lt
      have HG := Lib.hid (numsOf_get s k hlt)
      have HS := Lib.hid (List.take_succ_eq_append_getElem (i := k) (l := numsOf s) (by rw [numsOf_length]; exact hlt))
      have g1 : (k : Int) < (s.size : Int) := by omega
      go_wp2_with fail
      obtain ⟨wo, hwo⟩ : ∃ wo : World, wo = wr := ⟨_, rfl⟩
      subst hwo
      go_loopw [3, 5] (fun v i wr => ∃ m : Nat, m ≤ 8 ∧ i = .int .i64 (7 - m) ∧ wr.ownsRow w.heap.size 4 1 v (8 * k + m) ((unpackL ((numsOf s).take k) ++ (putL s[k].toNat 8).take m).map .bool) ∧ Below w.heap.size w wr) (fun _ i _ => (intOf i + 1).toNat)
      case atStart => exact ⟨0, Nat.zero_le _, rfl, by simpa using Hown.out, Hb.out⟩
      case round =>
        obtain ⟨m, hm, rfl, hown2, hb2⟩ := hrel
        have Hown2 := Lib.hid hown2
        have Hb2 := Lib.hid hb2
        have hsz := hb2.size
        obtain ⟨a0, c0, rfl, _⟩ := owns_shape hown2
        clear hown2 hb2 Hown Hb
        by_cases hlm : m < 8
        · have he : (putL (s[k].toNat : Int) 8)[m]'(by rw [putL_length]; exact hlm) = bitAt s[k].toNat (7 - m) := by simp [putL]
          have Hstep := Lib.hid (List.take_succ_eq_append_getElem (i := m) (l := putL (s[k].toNat : Int) 8) (by rw [putL_length]; exact hlm))
          have He := Lib.hid he
          have g0 : 0 ≤ (7 : Int) - m := by omega
          have hpw := power_any ((7 : Int) - m)
          rw [show ((7 : Int) - m).toNat = 7 - m by omega] at hpw
          have hp1 := p2_pos (7 - m)
          have hp2 := p2_le (n := 7 - m) (by omega)
          have HBt : Hid (bitAt (s[k].toNat : Int) (7 - m) = ((s[k].toNat : Int) / p2 (7 - m) % 2 == 1)) := rfl
          clear he
          generalize hc : (s[k].toNat : Int) = cv at *
          have hcv : 0 ≤ cv ∧ cv < 256 := by omega
          have hx : wrap64 (cv / p2 (7 - m)) = cv / p2 (7 - m) := IntWalk.wrap64_in _ (by have := Int.ediv_le_self (p2 (7 - m)) hcv.1; have := Int.ediv_nonneg (b := p2 (7 - m)) hcv.1 (by omega); omega)
          have hq0 : 0 ≤ cv / p2 (7 - m) := Int.ediv_nonneg hcv.1 (by omega)
          generalize p2 (7 - m) = pw at *
          have w1 : IntKind.i64.wrap cv = cv := IntWalk.i64_in _ (by omega)
          have w2 : ¬ pw = 0 := by omega
          have w3 : cv.tdiv pw = cv / pw := Int.tdiv_eq_ediv_of_nonneg hcv.1
          have w4 : IntKind.i64.wrap (cv / pw) = cv / pw := IntWalk.i64_in _ (by have := Int.ediv_le_self pw hcv.1; omega)
          have w5 : (cv / pw).tmod 2 = cv / pw % 2 := Int.tmod_eq_emod_of_nonneg hq0
          have w6 : IntKind.i64.wrap (cv / pw % 2) = cv / pw % 2 := IntWalk.i64_in _ (by omega)
          have HownD : Hid (((wr.alloc (.cells #[.bool (cv / pw % 2 == 1)] 4)).drew).ownsRow w.heap.size 4 1 (.slice a0 (8 * k + m) c0) (8 * k + m) ((unpackL ((numsOf s).take k) ++ (putL cv 8).take m).map .bool)) := Hown2.out.alloc _
          have HnewsD : Hid (∀ j u, [Value.bool (cv / pw % 2 == 1)][j]? = some u → ((wr.alloc (.cells #[.bool (cv / pw % 2 == 1)] 4)).drew).cell? ((⟨wr.heap.size, 0, none⟩ : Addr).add j) = some u) := cell_one_new wr _ 4
          have HbaseD : Hid (w.heap.size ≤ ((wr.alloc (.cells #[.bool (cv / pw % 2 == 1)] 4)).drew).heap.size) := by unfold Hid; simp; omega
          have H63 : Hid (8 * k + m + 1 ≤ maxLen) := by unfold Hid; simp [maxLen]; omega
          have Hby : Hid ((8 * k + m + 1) * 1 ≤ 140737488355328) := by unfold Hid; omega
          have Hone : Hid (∀ u ∈ [Value.bool (cv / pw % 2 == 1)], u.oneCell' = true) := by unfold Hid; simp [Value.oneCell']
          have HgD : Hid (Below w.heap.size w ((wr.alloc (.cells #[.bool (cv / pw % 2 == 1)] 4)).drew)) := (Hb2.out.alloc hsz _).drew
          go_wp2_with fail
          go_region_law (first
            | (refine step_append_lies _ (by rfl) _ _ 25 (by rfl) w.heap.size 4 i0 (.bool false) 1 1 Try.underlying25 hi hz0 hz1 hz2 rfl (by decide) (.slice a0 (8 * k + m) c0) (8 * k + m) _ (by rfl) HownD.out ⟨wr.heap.size, 0, none⟩ 1 1 [.bool (cv / pw % 2 == 1)] (by rfl) rfl HnewsD.out Hone.out (by decide) H63.out Hby.out HbaseD.out _ rfl ?_
               intro g cap w1 hown1 hgrow hat hlt
               have Hown3 := Lib.hid hown1
               have Hb3 := Lib.hid (HgD.out.grown hgrow HbaseD.out (fun b hbk => owns_block HownD.out b hbk))
               clear hown1 hgrow hat hlt)
            | (go_simp; go_at_call 69; refine (hpw _ (by omega)).mono ?_; rintro e w' ⟨rfl, rfl⟩))
          all_goals
            go_wp2_with fail
            exact ⟨⟨m + 1, by omega, by rw [show ((7 : Int) - ↑(m + 1)) = 7 - m - 1 by omega], by
              have h := Hown3.out
              rw [← HBt.out] at h
              rw [Hstep.out, He.out]
              simpa [Nat.add_assoc] using h, Hb3.out⟩, by simp [intOf]; omega⟩
        · obtain rfl : m = 8 := by omega
          go_wp2_with fail
          exact ⟨⟨k + 1, by omega, by go_num, by
            have h := Hown2.out
            rw [List.take_of_length_le (l := putL (s[k].toNat : Int) 8) (by rw [putL_length]; exact Nat.le_refl _)] at h
            rw [HS.out, unpackL_snoc, HG.out]
            exact h, Hb2.out⟩, by simp [intOf]; omega⟩
    · obtain rfl : k = s.size := by omega
      obtain ⟨a0, c0, rfl, _⟩ := owns_shape Hown.out
      go_wp2_with fail
      go_ret
      exact ⟨_, rfl, by
        have h := Hown.out
        rw [List.take_of_length_le (by rw [numsOf_length]; exact Nat.le_refl _)] at h
        rw [unpackL_length, numsOf_length]
        exact h, Hb.out⟩
end Go.Proofs.Ytolappilfjhfaaa
namespace Go.Proofs.Ytolappilfjhfaaa
open Go.RowKit

theorem com_ge {L : List UInt8} {at' d n : Nat} (hn : n ≤ 18) (h : ∀ i, i < n → at' + i < L.length ∧ bt L (at' + i) = bt L (at' + i - d)) : n ≤ com L at' d := by
  rcases Nat.lt_or_ge (com L at' d) n with hc | hc
  · exfalso
    have hs := runF_spec (P := goesOn L at' d) 18 0
    rcases hs.2.2.2 with h1 | h1
    · have : com L at' d = 18 := by unfold com; omega
      omega
    · have h2 := h _ hc
      have : goesOn L at' d (com L at' d) = true := by simp [goesOn, h2.1, h2.2]
      unfold com at this
      rw [h1] at this; cases this
  · exact hc
/-- Are n bytes those d ahead? -/
def alk (L : List UInt8) (at' d n : Nat) : Bool := decide (d ≤ at' ∧ n ≤ com L at' d)
theorem best_first {L : List UInt8} {at' : Nat} : ∀ D d, 1 ≤ d → d < (best L at' D).2 → d ≤ at' → d ≤ 255 → com L at' d < (best L at' D).1
  | 0, d, h1, h2, _, _ => by simp [best] at h2
  | D + 1, d, h1, h2, h3, h4 => by
    rw [best] at h2 ⊢
    unfold upd at h2 ⊢
    split at h2
    · rename_i hc
      rw [if_pos hc]
      simp only at h2 ⊢
      by_cases h : 3 ≤ com L at' d
      · have := best_all (L := L) (at' := at') D d h1 (by omega) h3 h4 h
        omega
      · omega
    · rename_i hc
      rw [if_neg hc]
      exact best_first D d h1 h2 h3 h4
/-- The first that is found is the longest one. -/
theorem long_found {L : List UInt8} {at' n d : Nat} (hn : 3 ≤ n) (hn18 : n ≤ 18) (hd : 1 ≤ d) (hd255 : d ≤ 255) (h : alk L at' d n = true) (hmore : ∀ m, n < m → m ≤ 18 → ∀ e, 1 ≤ e → e ≤ 255 → alk L at' e m = false) (hless : ∀ e, 1 ≤ e → e < d → alk L at' e n = false) : longP L at' = (n, d) := by
  have ha : d ≤ at' ∧ n ≤ com L at' d := by simpa [alk] using h
  have h18 := com_le L at' d
  have hcn : com L at' d = n := by
    rcases Nat.lt_or_ge n (com L at' d) with hlt | hge
    · have := hmore _ hlt h18 d hd hd255
      simp [alk] at this
      omega
    · omega
  have hall := best_all (L := L) (at' := at') 255 d hd hd255 ha.1 hd255 (by omega)
  rcases best_is L at' 255 with h0 | ⟨b1, b2, b3, b4, b5, b6⟩
  · rw [h0] at hall; simp at hall; omega
  · have hb18 := best_le L at' 255
    have hbn : (best L at' 255).1 = n := by
      rcases Nat.lt_or_ge n (best L at' 255).1 with hlt | hge
      · have := hmore _ hlt hb18 (best L at' 255).2 b2 b4
        simp [alk] at this
        omega
      · omega
    have hbd : (best L at' 255).2 = d := by
      rcases Nat.lt_trichotomy (best L at' 255).2 d with hlt | heq | hgt
      · have := hless _ b2 hlt
        simp [alk] at this
        omega
      · exact heq
      · have := best_first (L := L) (at' := at') 255 d hd hgt ha.1 hd255
        omega
    unfold longP
    rw [← hbn, ← hbd]
theorem long_nothing {L : List UInt8} {at' : Nat} (hmore : ∀ m, 3 ≤ m → m ≤ 18 → ∀ e, 1 ≤ e → e ≤ 255 → alk L at' e m = false) : longP L at' = (0, 0) := by
  rcases best_is L at' 255 with h0 | ⟨b1, b2, b3, b4, b5, b6⟩
  · exact h0
  · have hb18 := best_le L at' 255
    have := hmore _ b1 hb18 _ b2 b4
    simp [alk] at this
    omega

set_option maxRecDepth 100000 in
set_option maxHeartbeats 2000000 in
theorem alike_any (s : ByteArray) (at' d n : Nat) (w : World) (hd : 1 ≤ d) (hn1 : 1 ≤ n) (hn : n ≤ 18) (ha : at' ≤ 17592186044416) (hd2 : d ≤ 255) (hs : s.size ≤ 17592186044416) :
    Calls Try.prog 82 #[.string s, .int .i64 at', .int .i64 d, .int .i64 n] w fun e w' => e = .returned (.bool (alk s.data.toList at' d n)) ∧ ∃ m, w' = w.drewN m := by
  have hl : s.data.toList.length = s.size := by simp
  have X0 : Hid (IntKind.i64.wrap ((at' : Int) + (n : Int)) = (at' : Int) + (n : Int)) := IntWalk.i64_in _ (by omega)
  by_cases hsz : s.size < at' + n
  · have b0 : decide ((s.size : Int) < (at' : Int) + (n : Int)) = true := by simp; omega
    have HNo : Hid (alk s.data.toList at' d n = false) := by
      unfold Hid
      rw [alk, decide_eq_false_iff_not]
      rintro ⟨_, h⟩
      by_cases h0 : at' ≤ s.data.toList.length
      · have := com_len s.data.toList at' d h0; omega
      · have : com s.data.toList at' d = 0 := by
          rcases Nat.eq_zero_or_pos (com s.data.toList at' d) with h | h
          · exact h
          · have := (com_on (L := s.data.toList) (at' := at') (d := d) (i := 0) h).1; omega
        omega
    have x0 := X0.out
    go_enter Try.func82, Try.ntmps82
    go_wp2_with fail
    go_ret
    exact ⟨by rw [HNo.out]; rfl, 0, rfl⟩
  have b0 : decide ((s.size : Int) < (at' : Int) + (n : Int)) = false := by simp; omega
  by_cases hda : at' < d
  · have b1 : decide (at' < d) = true := by simpa using hda
    have b1' : decide ((at' : Int) < (d : Int)) = true := by simp; omega
    have HNo : Hid (alk s.data.toList at' d n = false) := by
      unfold Hid
      rw [alk, decide_eq_false_iff_not]
      rintro ⟨h, _⟩
      omega
    have x0 := X0.out
    go_enter Try.func82, Try.ntmps82
    go_wp2_with fail
    go_ret
    exact ⟨by rw [HNo.out]; rfl, 0, rfl⟩
  have b1 : decide (at' < d) = false := by simpa using hda
  have b1' : decide ((at' : Int) < (d : Int)) = false := by simp; omega
  have x0 := X0.out
  go_enter Try.func82, Try.ntmps82
  go_wp2_with fail
  go_loopw [9] (fun i wr => ∃ j : Nat, j ≤ n ∧ i = .int .i64 j ∧ Hid (∀ i, i < j → at' + i < s.data.toList.length ∧ bt s.data.toList (at' + i) = bt s.data.toList (at' + i - d)) ∧ ∃ m, wr = w.drewN m) (fun i _ => n - (intOf i).toNat)
  case atStart => exact ⟨0, Nat.zero_le _, rfl, fun i h => by omega, 0, rfl⟩
  case round =>
    obtain ⟨j, hj, rfl, HA, m, rfl⟩ := hrel
    by_cases hjn : j < n
    · have g0 : decide (j < n) = true := by simpa using hjn
      have g0' : decide ((j : Int) < (n : Int)) = true := by simp; omega
      have x1 : IntKind.i64.wrap ((at' : Int) + (j : Int)) = (at' : Int) + (j : Int) := IntWalk.i64_in _ (by omega)
      have t1 : ((at' : Int) + (j : Int)).toNat = at' + j := by omega
      have c1 : (0 : Int) ≤ (at' : Int) + (j : Int) := by omega
      have hlt : at' + j < s.size := by omega
      have x2 : IntKind.i64.wrap ((at' : Int) + (j : Int) - (d : Int)) = (at' : Int) + (j : Int) - (d : Int) := IntWalk.i64_in _ (by omega)
      have t2 : ((at' : Int) + (j : Int) - (d : Int)).toNat = at' + j - d := by omega
      have c2 : (at' : Int) + (j : Int) < (s.size : Int) := by omega
      have c3 : (0 : Int) ≤ (at' : Int) + (j : Int) - (d : Int) := by omega
      have c5 : (d : Int) ≤ (at' : Int) + (j : Int) := by omega
      have c4 : (at' : Int) + (j : Int) - (d : Int) < (s.size : Int) := by omega
      have hlt2 : at' + j - d < s.size := by omega
      by_cases he : s[at' + j] = s[at' + j - d]
      · have x3 : ((s[at' + j].toNat : Int) == (s[at' + j - d].toNat : Int)) = true := by rw [he]; simp
        have x4 : ((s[at' + j].toNat : Int) != (s[at' + j - d].toNat : Int)) = false := by rw [he]; simp
        have HE := Lib.hid he
        clear he
        go_wp2_with fail
        go_quiet (fail)
        go_wp2_with fail
        exact ⟨⟨j + 1, by omega, by go_num, fun i hi => by
          by_cases e : i = j
          · subst e; rw [bt_get s _ hlt, bt_get s _ hlt2]; exact ⟨by omega, HE.out⟩
          · exact HA.out i (by omega), _, by first | rfl | exact World.drewN_drewN _ _ _⟩, by simp [intOf]; omega⟩
      · have hne : ¬ ((s[at' + j].toNat : Int) = (s[at' + j - d].toNat : Int)) := fun h => he (UInt8.toNat_inj.1 (by omega))
        have x3 : ((s[at' + j].toNat : Int) == (s[at' + j - d].toNat : Int)) = false := by simpa only [beq_eq_false_iff_ne, ne_eq] using hne
        have x4 : ((s[at' + j].toNat : Int) != (s[at' + j - d].toNat : Int)) = true := by simpa only [bne_iff_ne, ne_eq] using hne
        have HNo : Hid (alk s.data.toList at' d n = false) := by
          unfold Hid
          rw [alk, decide_eq_false_iff_not]
          rintro ⟨_, h⟩
          have := (com_on (L := s.data.toList) (at' := at') (d := d) (i := j) (by omega)).2
          rw [bt_get s _ hlt, bt_get s _ hlt2] at this
          exact he this
        clear he hne
        go_wp2_with fail
        go_quiet (fail)
        go_wp2_with fail
        go_ret
        exact ⟨by rw [HNo.out]; rfl, _, by first | rfl | exact World.drewN_drewN _ _ _⟩
    · obtain rfl : j = n := by omega
      have HY : Hid (alk s.data.toList at' d j = true) := by
        unfold Hid
        rw [alk, decide_eq_true_eq]
        exact ⟨by omega, com_ge hn HA.out⟩
      go_wp2_with fail
      go_ret
      exact ⟨by rw [HY.out]; rfl, _, rfl⟩

set_option maxRecDepth 100000 in
set_option maxHeartbeats 4000000 in
theorem longestR_any (s : ByteArray) (i : Nat) (w : World) (hs : s.size ≤ 17592186044416) (hi : i < s.size) :
    Calls Try.prog 68 #[.string s, .int .i64 i] w fun e w' => e = .returned (.tuple #[.int .i64 ((longP s.data.toList i).1 : Nat), .int .i64 ((longP s.data.toList i).2 : Nat)]) ∧ ∃ m, w' = w.drewN m := by
  have g1 : (i : Int) < (s.size : Int) := by omega
  have b0 : decide ((s.size : Int) ≤ (i : Int)) = false := by simp; omega
  have b0' : decide (s.size ≤ i) = false := by simp; omega
  go_enter Try.func68, Try.ntmps68
  go_wp2_with fail
  go_loopw [6] (fun un wr => ∃ n : Nat, un = .int .i64 n ∧ 2 ≤ n ∧ n ≤ 18 ∧ Hid (∀ m, n < m → m ≤ 18 → ∀ e, 1 ≤ e → e ≤ 255 → alk s.data.toList i e m = false) ∧ ∃ m, wr = w.drewN m) (fun un _ => (intOf un).toNat)
  case atStart => exact ⟨18, rfl, by omega, by omega, fun m h1 h2 => by omega, 0, rfl⟩
  case round =>
    obtain ⟨wo, hwo⟩ : ∃ wo : World, wo = wr := ⟨_, rfl⟩
    subst hwo
    obtain ⟨n, rfl, hn2, hn18, Hmore, q, hq⟩ := hrel
    have Hq := Lib.hid hq
    clear hq
    by_cases hn : 3 ≤ n
    · have g2 : (3 : Int) ≤ (n : Int) := by omega
      go_wp2_with fail
      go_loopw [7] (fun ud wr => ∃ d : Nat, ud = .int .i64 d ∧ 1 ≤ d ∧ d ≤ 256 ∧ Hid (∀ e, 1 ≤ e → e < d → alk s.data.toList i e n = false) ∧ ∃ m, wr = wo.drewN m) (fun ud _ => 256 - (intOf ud).toNat)
      case atStart => exact ⟨1, rfl, by omega, by omega, fun e h1 h2 => by omega, 0, rfl⟩
      case round =>
        obtain ⟨d, rfl, hd1, hd2, Hless, m, hm⟩ := hrel
        have Hm := Lib.hid hm
        clear hm
        by_cases hd : d ≤ 255
        · have g3 : (d : Int) ≤ 255 := by omega
          have hal := alike_any s i d n wr hd1 (by omega) hn18 (by omega) hd hs
          cases hk : alk s.data.toList i d n with
          | true =>
            have hlp := long_found hn hn18 hd1 hd hk Hmore.out Hless.out
            have Hlp := Lib.hid hlp
            rw [hk] at hal
            clear hk hlp
            go_wp2_with fail
            refine hal.mono ?_
            rintro e w1 ⟨rfl, m1, hm1⟩
            have Hm1 := Lib.hid hm1
            clear hm1 hal
            go_wp2_with fail
            go_ret2
            exact ⟨by rw [Hlp.out]; rfl, _, by rw [Hm1.out, Hm.out, Hq.out]; simp only [World.drewN_drewN]; rfl⟩
          | false =>
            rw [hk] at hal
            have Hk := Lib.hid hk
            clear hk
            go_wp2_with fail
            refine hal.mono ?_
            rintro e w1 ⟨rfl, m1, hm1⟩
            have Hm1 := Lib.hid hm1
            clear hm1 hal
            go_wp2_with fail
            exact ⟨⟨d + 1, by go_num, by omega, by omega, fun e h1 h2 => by
              by_cases h : e = d
              · subst h; exact Hk.out
              · exact Hless.out e h1 (by omega), _, by rw [Hm1.out, Hm.out]; simp only [World.drewN_drewN]; rfl⟩, by simp [intOf]; omega⟩
        · have g3 : ¬ (d : Int) ≤ 255 := by omega
          go_wp2_with fail
          exact ⟨⟨n - 1, by rw [show (((n - 1 : Nat) : Int)) = (n : Int) - 1 by omega], by omega, by omega, fun m' h1 h2 e h3 h4 => by
            by_cases h : m' = n
            · subst h; exact Hless.out e h3 (by omega)
            · exact Hmore.out m' (by omega) h2 e h3 h4, _, by rw [Hm.out, Hq.out]; simp only [World.drewN_drewN]; rfl⟩, by simp [intOf]; omega⟩
    · have g2 : ¬ (3 : Int) ≤ (n : Int) := by omega
      have Hlp := Lib.hid (long_nothing (fun m h1 h2 => Hmore.out m (by omega) h2))
      go_wp2_with fail
      go_ret2
      exact ⟨by rw [Hlp.out]; rfl, q, Hq.out⟩
end Go.Proofs.Ytolappilfjhfaaa
namespace Go.Proofs.Ytolappilfjhfaaa
open Go.RowKit

theorem spl_step (L : List UInt8) (f i : Nat) (h : i < L.length) : spl L (f + 1) i = if (longP L i).1 = 0 then (((bt L i).toNat : Int), 0, 0) :: spl L f (i + 1) else (0, ((longP L i).2 : Int), ((longP L i).1 : Int)) :: spl L f (i + (longP L i).1) := by
  conv => lhs; unfold spl
  rw [if_pos h]
theorem spl_end (L : List UInt8) (f i : Nat) (h : ¬ i < L.length) : spl L f i = [] := by
  cases f with
  | zero => rfl
  | succ f => unfold spl; rw [if_neg h]

set_option maxRecDepth 100000 in
set_option maxHeartbeats 4000000 in
theorem splitR_any (s : ByteArray) (w : World) (hs : s.size ≤ 1099511627776) :
    Calls Try.prog 48 #[.string s] w fun e w' => ∃ (a : Option Addr) (cap : Nat) (l : List TokT), e = .returned (.slice a l.length cap) ∧ Hid (l = spl s.data.toList s.size 0) ∧ ToksR w' (.slice a l.length cap) l ∧ Below w.heap.size w w' := by
  obtain ⟨i0, hi, hz0, hz1, hz2⟩ := info_parts info_tok
  have hl : s.data.toList.length = s.size := by simp
  have HO0 : Hid ((w.alloc (.cells #[] 30)).ownsRow w.heap.size 30 3 (.slice (some ⟨w.heap.size, 0, none⟩) 0 0) 0 []) := owns_none w 30 3
  have HB0 : Hid (Below w.heap.size w (w.alloc (.cells #[] 30))) := (Below.refl _ _).alloc (Nat.le_refl _) _
  go_enter Try.func48, Try.ntmps48
  go_wp2_with fail
  go_loopw [3, 4] (fun uo ui wr => ∃ (i f : Nat) (pre : List TokT) (a : Option Addr) (cap : Nat), ui = .int .i64 i ∧ i ≤ s.size ∧ s.size ≤ i + f ∧ uo = .slice a pre.length cap ∧ pre.length ≤ i ∧ Hid (spl s.data.toList s.size 0 = pre ++ spl s.data.toList f i) ∧ wr.ownsRow w.heap.size 30 3 (.slice a pre.length cap) pre.length (cellsT pre) ∧ Below w.heap.size w wr) (fun _ ui _ => s.size - (intOf ui).toNat)
  case atStart => exact ⟨0, s.size, [], _, 0, rfl, Nat.zero_le _, by omega, rfl, Nat.zero_le _, rfl, HO0.out, HB0.out⟩
  case round =>
    obtain ⟨i, f, pre, a, cap, rfl, hi1, hif, rfl, hpl, Hsp, hown, hb⟩ := hrel
    have HO := Lib.hid hown
    have HB := Lib.hid hb
    have hsz := hb.size
    clear hown hb HO0 HB0
    by_cases hlt : i < s.size
    · obtain ⟨f', rfl⟩ : ∃ f', f = f' + 1 := ⟨f - 1, by omega⟩
      have hst := spl_step s.data.toList f' i (by rw [hl]; exact hlt)
      have hlc := long_cases s.data.toList i
      have hbt := bt_get s i hlt
      have hcb := s[i].toNat_lt
      have g1 : (i : Int) < (s.size : Int) := by omega
      have hlg := longestR_any s i wr (by omega) hlt
      have Hst := Lib.hid hst
      have Hbt := Lib.hid hbt
      clear hst hbt
      by_cases h0 : (longP s.data.toList i).1 = 0
      · have Hst2 : Hid (spl s.data.toList s.size 0 = (pre ++ [((s[i].toNat : Int), 0, 0)]) ++ spl s.data.toList f' (i + 1)) := by
          unfold Hid; rw [Hsp.out, Hst.out, if_pos h0, Hbt.out]; simp
        rw [h0] at hlg
        clear hlc h0
        go_wp2_with fail
        refine hlg.mono ?_
        rintro e w2 ⟨rfl, m, hm⟩
        have HO2 : Hid (w2.ownsRow w.heap.size 30 3 (.slice a pre.length cap) pre.length (cellsT pre)) := by rw [hm]; exact HO.out
        have HB2 : Hid (Below w.heap.size w w2) := by rw [hm]; exact HB.out.trans ⟨rfl, rfl, rfl, Nat.le_refl _, fun _ _ => rfl⟩
        have hsz2 := HB2.out.size
        clear hm hlg
        go_wp2_with (first | (at_builtin; have hQ := HO2.out.alloc (.cells #[.int .i64 s[i].toNat, .int .i64 0, .int .i64 0] 30); refine wpList_append_own_at _ rfl _ _ 22 rfl w.heap.size 30 i0 _ 3 24 Try.underlying22 hi hz0 hz1 hz2 rfl (by decide) _ _ _ rfl hQ ⟨w2.heap.size, 0, none⟩ 1 1 (tokE ((s[i].toNat : Int), 0, 0)) rfl rfl (cells_three_newM _ _ _ _ _) (tokE_one _) (by simp [maxLen]; omega) (by omega) (by simp; omega) ?_
                              intro v5 w5 hown5 hg5 _ hat5
                              obtain ⟨a5, c5, rfl, _⟩ := owns_shape hown5
                              have HO5 := Lib.hid hown5
                              have HB5 := Lib.hid ((HB2.out.alloc hsz2 _).grown hg5 (by simp; omega) (fun b hbk => owns_block HO2.out b hbk))
                              clear hown5 hg5 hat5 hQ) | fail)
        have hlen : (pre ++ [((s[i].toNat : Int), (0 : Int), (0 : Int))]).length = pre.length + 1 := by simp
        exact ⟨⟨i + 1, f', pre ++ [((s[i].toNat : Int), 0, 0)], a5, c5, by go_num, by omega, by omega, by rw [hlen], by rw [hlen]; omega, Hst2.out, by rw [hlen, cellsT_snoc]; exact HO5.out, HB5.out⟩, by simp [intOf]; omega⟩
      · have hlc2 : 3 ≤ (longP s.data.toList i).1 ∧ (longP s.data.toList i).1 ≤ 18 ∧ i + (longP s.data.toList i).1 ≤ s.size := by
          rcases hlc with h | h
          · rw [h] at h0; exact absurd rfl h0
          · rw [hl] at h; omega
        have Hst2 : Hid (spl s.data.toList s.size 0 = (pre ++ [(0, ((longP s.data.toList i).2 : Int), ((longP s.data.toList i).1 : Int))]) ++ spl s.data.toList f' (i + (longP s.data.toList i).1)) := by
          unfold Hid; rw [Hsp.out, Hst.out, if_neg h0]; simp
        have hd255 := (long_le s.data.toList i).2
        generalize (longP s.data.toList i).1 = n at *
        generalize (longP s.data.toList i).2 = d at *
        have b1 : ((n : Int) == 0) = false := by simp; omega
        clear hlc h0
        go_wp2_with fail
        refine hlg.mono ?_
        rintro e w2 ⟨rfl, m, hm⟩
        have HO2 : Hid (w2.ownsRow w.heap.size 30 3 (.slice a pre.length cap) pre.length (cellsT pre)) := by rw [hm]; exact HO.out
        have HB2 : Hid (Below w.heap.size w w2) := by rw [hm]; exact HB.out.trans ⟨rfl, rfl, rfl, Nat.le_refl _, fun _ _ => rfl⟩
        have hsz2 := HB2.out.size
        clear hm hlg
        go_wp2_with (first | (at_builtin; have hQ := HO2.out.alloc (.cells #[.int .i64 0, .int .i64 d, .int .i64 n] 30); refine wpList_append_own_at _ rfl _ _ 22 rfl w.heap.size 30 i0 _ 3 24 Try.underlying22 hi hz0 hz1 hz2 rfl (by decide) _ _ _ rfl hQ ⟨w2.heap.size, 0, none⟩ 1 1 (tokE (0, (d : Int), (n : Int))) rfl rfl (cells_three_newM _ _ _ _ _) (tokE_one _) (by simp [maxLen]; omega) (by omega) (by simp; omega) ?_
                              intro v5 w5 hown5 hg5 _ hat5
                              obtain ⟨a5, c5, rfl, _⟩ := owns_shape hown5
                              have HO5 := Lib.hid hown5
                              have HB5 := Lib.hid ((HB2.out.alloc hsz2 _).grown hg5 (by simp; omega) (fun b hbk => owns_block HO2.out b hbk))
                              clear hown5 hg5 hat5 hQ) | fail)
        have hlen : (pre ++ [((0 : Int), (d : Int), (n : Int))]).length = pre.length + 1 := by simp
        exact ⟨⟨i + n, f', pre ++ [(0, (d : Int), (n : Int))], a5, c5, by rw [Int.natCast_add], by omega, by omega, by rw [hlen], by rw [hlen]; omega, Hst2.out, by rw [hlen, cellsT_snoc]; exact HO5.out, HB5.out⟩, by simp [intOf]; omega⟩
    · have hE : spl s.data.toList f i = [] := spl_end _ _ _ (by rw [hl]; exact hlt)
      have HE : Hid (pre = spl s.data.toList s.size 0) := by unfold Hid; rw [Hsp.out, hE, List.append_nil]
      clear hE
      go_wp2_with fail
      go_ret
      exact ⟨a, cap, pre, rfl, HE.out, (toks_of_owns HO.out).1, HB.out⟩

/-- The bits of a byte, up to k. -/
def byteTo (l : List Bool) (j k : Nat) : Int := takeN ((List.range k).map fun m => l.getD (8 * j + m) false)
theorem byteTo_step (l : List Bool) (j k : Nat) : byteTo l j (k + 1) = 2 * byteTo l j k + (if l.getD (8 * j + k) false then 1 else 0) := by
  unfold byteTo
  rw [List.range_succ, List.map_append, List.map_cons, List.map_nil, takeN_snoc]; omega
theorem byteTo_bd (l : List Bool) (j k : Nat) (hk : k ≤ 8) : 0 ≤ byteTo l j k ∧ byteTo l j k < 256 := by
  have := takeN_bd ((List.range k).map fun m => l.getD (8 * j + m) false)
  rw [List.length_map, List.length_range] at this
  have h2 := p2_mono hk
  rw [show p2 8 = 256 by decide] at h2
  unfold byteTo; omega
theorem byteTo_all (l : List Bool) (j : Nat) : byteTo l j 8 = byteVal l j := rfl

set_option maxRecDepth 100000 in
set_option maxHeartbeats 4000000 in
theorem packR_any (v : Value) (bs : List Bool) (w : World) (hv : SlOf w v 1 (fun x => [.bool x]) bs) (hl : bs.length ≤ 140737488355328) :
    Calls Try.prog 49 #[v] w fun e w' => e = .returned (.string (strOfNums (packL bs))) ∧ Below w.heap.size w w' := by
  obtain ⟨i0, hi, hz0, hz1, hz2⟩ := info_parts info_u8
  have HV := Lib.hid hv
  obtain ⟨aV, cV, rfl, _⟩ := hv
  have HO0 := Lib.hid (owns_none w 5 1)
  have HB0 : Hid (Below w.heap.size w (w.alloc (.cells #[] 5))) := (Below.refl _ _).alloc (Nat.le_refl _) _
  have hpn : packN bs.length = (bs.length + 7) / 8 := rfl
  go_enter Try.func49, Try.ntmps49
  go_wp2_with fail
  go_loopw [3, 4] (fun uo ui wr => ∃ (j : Nat) (a : Option Addr) (cap : Nat), ui = .int .i64 (8 * (j : Int)) ∧ j ≤ packN bs.length ∧ uo = .slice a j cap ∧ wr.ownsRow w.heap.size 5 1 (.slice a j cap) j (((List.range j).map (byteVal bs)).map (Value.int .u8)) ∧ Below w.heap.size w wr) (fun _ ui _ => 8 * packN bs.length - (intOf ui).toNat)
  case atStart => exact ⟨0, _, 0, rfl, Nat.zero_le _, rfl, HO0.out, HB0.out⟩
  case round =>
    obtain ⟨wo, hwo⟩ : ∃ wo : World, wo = wr := ⟨_, rfl⟩
    subst hwo
    obtain ⟨j, a, cap, rfl, hj, rfl, hown, hb⟩ := hrel
    have HO := Lib.hid hown
    have HB := Lib.hid hb
    have hsz := hb.size
    clear hown hb HO0 HB0
    by_cases hlt : j < packN bs.length
    · have h8 : 8 * j < bs.length := by omega
      have g1 : 8 * (j : Int) < (bs.length : Int) := by omega
      go_wp2_with fail
      go_loopw [5, 6] (fun un uk wr => ∃ k : Nat, uk = .int .i64 k ∧ k ≤ 8 ∧ un = .int .i64 (byteTo bs j k) ∧ ∃ m, wr = wo.drewN m) (fun _ uk _ => 8 - (intOf uk).toNat)
      case atStart => exact ⟨0, rfl, by omega, rfl, 0, rfl⟩
      case round =>
        obtain ⟨k, rfl, hk, rfl, m, hm⟩ := hrel
        have Hm := Lib.hid hm
        have hbd := byteTo_bd bs j k hk
        have HSt := Lib.hid (byteTo_step bs j k)
        by_cases hk8 : k < 8
        · have g2 : (k : Int) < 8 := by omega
          by_cases hin : 8 * j + k < bs.length
          · have g3 : decide (8 * (j : Int) + (k : Int) < (bs.length : Int)) = true := by simp; omega
            have t1 : (8 * (j : Int) + (k : Int)).toNat = 8 * j + k := by omega
            have t2 : (0 : Int) ≤ 8 * (j : Int) + (k : Int) := by omega
            have t3 : 8 * (j : Int) + (k : Int) < (bs.length : Int) := by omega
            rcases sl_one HV.out with ⟨h0, _⟩ | ⟨_, bX, oX, cX, hveq, _, hbX, cellX⟩
            · rw [h0] at hin; simp at hin
            injection hveq with q1 q2 q3
            subst q1 q3
            have e0 : wr.cell? ⟨bX, oX + (8 * j + k), none⟩ = some (.bool bs[8 * j + k]) := by
              rw [hm]
              show wo.cell? _ = _
              rw [HB.out.cell (p := ⟨bX, oX + (8 * j + k), none⟩) hbX]; exact cellX _ hin
            have hg : bs.getD (8 * j + k) false = bs[8 * j + k] := by rw [List.getD_eq_getElem?_getD, List.getElem?_eq_getElem hin, Option.getD_some]
            rw [hg] at HSt
            clear cellX q2 hm hg
            generalize bs[8 * j + k] = x at *
            generalize byteTo bs j k = nv at *
            cases x with
            | true =>
              rw [if_pos rfl] at HSt
              go_wp2_with fail
              exact ⟨⟨k + 1, by go_num, by omega, by rw [HSt.out], m, Hm.out⟩, by simp [intOf]; omega⟩
            | false =>
              rw [if_neg (by decide), Int.add_zero] at HSt
              go_wp2_with fail
              exact ⟨⟨k + 1, by go_num, by omega, by rw [HSt.out], m, Hm.out⟩, by simp [intOf]; omega⟩
          · have g3 : decide (8 * (j : Int) + (k : Int) < (bs.length : Int)) = false := by simp; omega
            have hg : bs.getD (8 * j + k) false = false := by rw [List.getD_eq_getElem?_getD, List.getElem?_eq_none (by omega)]; rfl
            rw [hg, if_neg (by decide), Int.add_zero] at HSt
            clear hm hg
            generalize byteTo bs j k = nv at *
            go_wp2_with fail
            exact ⟨⟨k + 1, by go_num, by omega, by rw [HSt.out], m, Hm.out⟩, by simp [intOf]; omega⟩
        · obtain rfl : k = 8 := by omega
          rw [byteTo_all] at hbd ⊢
          have hw1 : IntKind.u8.wrap (byteVal bs j) = byteVal bs j := by rw [show IntKind.u8.wrap (byteVal bs j) = byteVal bs j % 256 from rfl]; omega
          have HO2 : Hid (wr.ownsRow w.heap.size 5 1 (.slice a j cap) j (((List.range j).map (byteVal bs)).map (Value.int .u8))) := by rw [hm]; exact HO.out
          have HB2 : Hid (Below w.heap.size w wr) := by rw [hm]; exact HB.out.trans ⟨rfl, rfl, rfl, Nat.le_refl _, fun _ _ => rfl⟩
          have hsz2 := HB2.out.size
          have HR : Hid (((List.range j).map (byteVal bs)).map (Value.int .u8) ++ [.int .u8 (byteVal bs j)] = ((List.range (j + 1)).map (byteVal bs)).map (Value.int .u8)) := by
            unfold Hid; rw [List.range_succ, List.map_append, List.map_append]; rfl
          clear hm HSt
          generalize byteVal bs j = bv at *
          go_wp2_with (first | (at_builtin; have hQ := HO2.out.alloc (.cells #[.int .u8 bv] 5); refine wpList_append_own_at _ rfl _ _ 69 rfl w.heap.size 5 i0 (.int .u8 0) 1 1 Try.underlying69 hi hz0 hz1 hz2 rfl (by decide) _ _ _ rfl hQ ⟨wr.heap.size, 0, none⟩ 1 1 [.int .u8 bv] rfl rfl (cell_one_new _ _ _) (by simp [Value.oneCell']) (by simp [maxLen]; omega) (by omega) (by simp; omega) ?_
                                intro v5 w5 hown5 hg5 _ hat5
                                obtain ⟨a5, c5, rfl, _⟩ := owns_shape hown5
                                rw [HR.out] at hown5
                                have HO5 := Lib.hid hown5
                                have HB5 := Lib.hid ((HB2.out.alloc hsz2 _).grown hg5 (by simp; omega) (fun b hbk => owns_block HO2.out b hbk))
                                clear hown5 hg5 hat5 hQ) | fail)
          exact ⟨⟨j + 1, a5, c5, by go_num, by omega, rfl, HO5.out, HB5.out⟩, by simp [intOf]; omega⟩
    · have hje : j = packN bs.length := by omega
      have h8 : ¬ 8 * (j : Int) < (bs.length : Int) := by omega
      have HP : Hid ((List.range j).map (byteVal bs) = packL bs) := by rw [hje]; rfl
      have hcv := convert_sl (sl_of_owns HO.out).1
      rw [HP.out] at hcv
      clear hje
      go_wp2_with fail
      go_ret
      exact ⟨rfl, HB.out⟩
end Go.Proofs.Ytolappilfjhfaaa
namespace Go.Proofs.Ytolappilfjhfaaa
open Go.RowKit

theorem sectorsR_any (n : Int) (w : World) (hn : n ≤ 9223372036854775807) :
    Calls Try.prog 29 #[.int .i64 n] w fun e w' => e = .returned (.int .i64 (secN n)) ∧ w = w' := by
  by_cases h : n ≤ 0
  · have d : decide (n ≤ 0) = true := by simpa using h
    have HS : Hid (secN n = 0) := by unfold Hid secN; rw [if_pos h]
    go_enter Try.func29, Try.ntmps29
    go_wp2_with fail
    go_ret
    exact ⟨by rw [HS.out]; rfl, rfl⟩
  · have d : decide (n ≤ 0) = false := by simpa using h
    have HS : Hid (secN n = (n - 1) / 32 + 1) := by unfold Hid secN; rw [if_neg h]
    have h1 : 1 ≤ n := by omega
    have h2 : 0 ≤ n - 1 := by omega
    go_enter Try.func29, Try.ntmps29
    go_wp2_with fail
    go_ret
    exact ⟨by rw [HS.out]; rfl, rfl⟩
theorem writeQ_ok (v : Value) (l : List TokT) (w : World) (hv : ToksR w v l) (hok : wrOk l = true) :
    Calls Try.prog 17 #[v] w fun e w' => ∃ (a : Option Addr) (cap : Nat) (b : List Bool), e = .returned (.tuple #[.slice a b.length cap, .bool true]) ∧ Hid (WrV l b) ∧ Bits w' (.slice a b.length cap) b ∧ Below w.heap.size w w' :=
  (writeQ_any v l w hv).mono fun e w' ⟨a, c, b, h1, h2⟩ => ⟨a, c, b, by rw [hok] at h1; exact h1, h2⟩

set_option maxRecDepth 100000 in
set_option maxHeartbeats 8000000 in
theorem encodeR_any (s : ByteArray) (w : World) :
    Calls Try.prog 26 #[.string s] w fun e w' => ∃ (t : ByteArray) (p ok : Bool), e = .returned (.tuple #[.string t, .bool p, .bool ok]) ∧ Hid (EncV s t p ok) ∧ Below w.heap.size w w' := by
  by_cases h0 : s.size = 256
  · have b0 : ((s.size : Int) != 256) = false := by rw [h0]; decide
    have b1 : ((s.size : Int) == 256) = true := by rw [h0]; decide
    have H0 := Lib.hid h0
    have hok := spl_wrOk s (by omega)
    have Hok := Lib.hid hok
    have hc1 := splitR_any s w (by omega)
    clear h0 hok
    go_enter Try.func26, Try.ntmps26
    go_wp2_with fail
    refine hc1.mono ?_
    rintro e w1 ⟨a1, c1, l1, rfl, hl1, hv1, hb1⟩
    have hc2 := writeQ_ok (.slice a1 l1.length c1) l1 w1 hv1 (by rw [hl1.out]; exact Hok.out)
    have HB1 := Lib.hid hb1
    clear hc1 hv1 hb1
    go_wp2_with fail
    refine hc2.mono ?_
    rintro e w2 ⟨a2, c2, b2, rfl, hw2, hs2, hb2⟩
    have HB2 := Lib.hid (below_step' HB1.out hb2)
    have hle := wrV_le hw2
    have hw2' : Hid (WrV (splS s) b2) := by have q := hw2.out; rw [hl1.out] at q; exact q
    have HW2 := Lib.hid hw2'
    have hc3 := packR_any (.slice a2 b2.length c2) b2 w2 hs2 (by omega)
    have hsz := str_size (packL b2)
    have Hsz := Lib.hid hsz
    generalize hts : strOfNums (packL b2) = ts at *
    have Hts := Lib.hid hts
    clear hc2 hw2 hw2' hs2 hb2 hsz hts
    go_wp2_with fail
    refine hc3.mono ?_
    rintro e w3 ⟨rfl, hb3⟩
    have HB3 := Lib.hid (below_step' HB2.out hb3)
    clear hc3 hb3
    by_cases hlt : ts.size < 256
    · have d1 : decide ((ts.size : Int) < 256) = true := by simp; omega
      have d2 : decide (ts.size < 256) = true := by simp; omega
      go_wp2_with fail
      go_ret3
      refine ⟨ts, true, true, rfl, ⟨fun h => absurd H0.out h, fun _ => ⟨rfl, ?_⟩⟩, HB3.out⟩
      obtain ⟨L, hL, rfl⟩ := HW2.out.out.1 Hok.out
      exact ⟨L, hL, Or.inl ⟨by rw [← Hsz.out]; exact hlt, Hts.out.symm, rfl⟩⟩
    · have d1 : decide ((ts.size : Int) < 256) = false := by simp; omega
      have d2 : decide (ts.size < 256) = false := by simp; omega
      go_wp2_with fail
      go_ret3
      refine ⟨s, false, true, rfl, ⟨fun h => absurd H0.out h, fun _ => ⟨rfl, ?_⟩⟩, HB3.out⟩
      obtain ⟨L, hL, rfl⟩ := HW2.out.out.1 Hok.out
      exact ⟨L, hL, Or.inr ⟨by rw [← Hsz.out]; omega, rfl, rfl⟩⟩
  · have b0 : ((s.size : Int) != 256) = true := by simp; omega
    have b1 : ((s.size : Int) == 256) = false := by simp; omega
    have HE : Hid (EncV s (ByteArray.mk #[]) false false) := ⟨fun _ => ⟨rfl, rfl, rfl⟩, fun h => absurd h h0⟩
    clear h0
    go_enter Try.func26, Try.ntmps26
    go_wp2_with fail
    go_ret3
    exact ⟨_, false, false, rfl, HE.out, Below.refl _ _⟩

set_option maxRecDepth 100000 in
set_option maxHeartbeats 8000000 in
theorem decodeR_any (s : ByteArray) (p : Bool) (w : World) (hs : s.size ≤ 17592186044416) :
    Calls Try.prog 31 #[.string s, .bool p] w fun e w' => e = .returned (.tuple #[.string (decS s p), .bool (decB s p)]) ∧ Below w.heap.size w w' := by
  cases p with
  | false =>
    by_cases h0 : s.size = 256
    · have b0 : ((s.size : Int) != 256) = false := by rw [h0]; decide
      have b1 : ((s.size : Int) == 256) = true := by rw [h0]; decide
      have hd := dec_yes (decO_plain h0)
      have H1 : Hid (decS s false = s) := by unfold Hid; rw [hd.1, str_nums]
      have H2 := Lib.hid hd.2
      clear h0 hd
      go_enter Try.func31, Try.ntmps31
      go_wp2_with fail
      go_ret2
      exact ⟨by rw [H1.out, H2.out]; rfl, Below.refl _ _⟩
    · have b0 : ((s.size : Int) != 256) = true := by simp; omega
      have b1 : ((s.size : Int) == 256) = false := by simp; omega
      have hd := dec_no (decO_plain_no h0)
      have H1 := Lib.hid hd.1
      have H2 := Lib.hid hd.2
      clear h0 hd
      go_enter Try.func31, Try.ntmps31
      go_wp2_with fail
      go_ret2
      exact ⟨by rw [H1.out, H2.out]; rfl, Below.refl _ _⟩
  | true =>
    have hc1 := unpackR_any s w hs
    have hul := unpackL_length (numsOf s)
    rw [numsOf_length] at hul
    go_enter Try.func31, Try.ntmps31
    go_wp2_with fail
    refine hc1.mono ?_
    rintro e w1 ⟨v1, rfl, hown1, hb1⟩
    obtain ⟨a1, c1, rfl, hlc1, _⟩ := owns_shape hown1
    have HS1 := Lib.hid (sl_of_owns hown1).1
    have HB1 := Lib.hid hb1
    have hbits : (unpackL (numsOf s)).length ≤ 140737488355328 := by omega
    have hc2 := readQ_any (.slice a1 (unpackL (numsOf s)).length c1) (unpackL (numsOf s)) 256 w1 HS1.out hbits
    clear hc1 hown1 hb1 hul
    go_wp2_with fail
    refine hc2.mono ?_
    rintro e w2 ⟨a2, c2, l, q, ok, rfl, hs2, ⟨hr, rfl⟩ | ⟨hr, rfl, rfl, rfl⟩, hb2⟩
    rotate_left
    · have hd := dec_no (decO_none hr)
      have H1 := Lib.hid hd.1
      have H2 := Lib.hid hd.2
      have HB2 := Lib.hid (below_step' HB1.out hb2)
      rw [show ([] : List TokT).length = 0 from rfl]
      clear hc2 hs2 hr hb2 hd
      generalize unpackL (numsOf s) = bs at *
      go_wp2_with fail
      go_ret2
      exact ⟨by rw [H1.out, H2.out]; rfl, HB2.out⟩
    have HB2 := Lib.hid (below_step' HB1.out hb2)
    have HS2 := Lib.hid hs2
    have HS1b := Lib.hid (sl_below HS1.out hb2)
    obtain ⟨⟨r, hx, hrl⟩, h9, hqb, _, _, _⟩ := rd_facts hr
    have Hbad := Lib.hid (decO_bad hr)
    have Hgood := Lib.hid (decO_good hr)
    have hll : l.length ≤ 256 := by have := (exl_le hx).1; simp only [List.length_nil] at this; omega
    clear hc2 hs2 hr hb2 hx hrl
    generalize unpackL (numsOf s) = bs at *
    obtain ⟨Q, rfl⟩ := Int.eq_ofNat_of_zero_le (a := q) (by omega)
    rw [Int.toNat_natCast] at Hbad Hgood
    by_cases h8 : 8 ≤ (bs.length : Int) - Q
    · have hd := dec_no (Hbad.out (Or.inl h8))
      have H1 := Lib.hid hd.1
      have H2 := Lib.hid hd.2
      have d1 : decide (8 ≤ (bs.length : Int) - (Q : Int)) = true := by simpa using h8
      clear hd
      go_wp2_with fail
      go_ret2
      exact ⟨by rw [H1.out, H2.out]; rfl, HB2.out⟩
    have d1 : decide (8 ≤ (bs.length : Int) - (Q : Int)) = false := by simpa using h8
    have hQ : Q ≤ bs.length := by omega
    have HD : Hid ((∀ i (hi : i < bs.length), Q ≤ i → bs[i] = false) → decO s true = exl 256 l []) := fun h => Hgood.out (by
      rintro (h' | h')
      · exact h8 h'
      · rw [List.any_eq_true] at h'
        obtain ⟨x, hx, hx1⟩ := h'
        obtain ⟨i, hi, rfl⟩ := List.getElem_of_mem hx
        rw [List.length_drop] at hi
        rw [List.getElem_drop, h _ (by omega) (by omega)] at hx1
        cases hx1)
    have HNo : Hid (∀ i (hi : i < bs.length), Q ≤ i → bs[i] = true → decO s true = none) := fun i hi hQi hb => Hbad.out (Or.inr (by
      rw [List.any_eq_true]
      refine ⟨bs[i], ?_, hb⟩
      have : bs[i] = (bs.drop Q)[i - Q]'(by rw [List.length_drop]; omega) := by
        rw [List.getElem_drop]; congr 1; omega
      rw [this]; exact List.getElem_mem _))
    have hex := expandR_any (.slice a2 l.length c2) l 256 w2 HS2.out (by omega)
    clear Hbad Hgood
    go_wp2_with fail
    go_loop [10] (fun ui => ∃ j : Nat, ui = .int .i64 j ∧ Q ≤ j ∧ j ≤ bs.length ∧ Hid (∀ i (hi : i < bs.length), Q ≤ i → i < j → bs[i] = false)) (fun ui => bs.length - (intOf ui).toNat)
    case atStart => exact ⟨Q, rfl, Nat.le_refl _, hQ, fun i hi h1 h2 => by omega⟩
    case round =>
      obtain ⟨j, rfl, hjQ, hj, Hj⟩ := hrel
      by_cases hjl : j < bs.length
      · rcases sl_one HS1b.out with ⟨h0, _⟩ | ⟨_, bX, oX, cX, hveq, _, hbX, cellX⟩
        · rw [h0] at hjl; simp at hjl
        injection hveq with q1 q2 q3
        subst q1 q3
        have e0 := cellX j hjl
        have HNj := Lib.hid (HNo.out j hjl (by omega))
        have g1 : (j : Int) < (bs.length : Int) := by omega
        have Hnext : Hid (bs[j] = false → ∀ i (hi : i < bs.length), Q ≤ i → i < j + 1 → bs[i] = false) := fun h i hi h1 h2 => by
          by_cases e : i = j
          · subst e; exact h
          · exact Hj.out i hi h1 (by omega)
        clear cellX q2
        generalize bs[j] = x at *
        cases x with
        | false =>
          have Hn := Lib.hid (Hnext.out rfl)
          clear Hnext HNj
          go_wp2_with fail
          exact ⟨⟨j + 1, by go_num, by omega, by omega, Hn.out⟩, by simp [intOf]; omega⟩
        | true =>
          have hd := dec_no (HNj.out rfl)
          have H1 := Lib.hid hd.1
          have H2 := Lib.hid hd.2
          clear hd Hnext HNj
          go_wp2_with fail
          go_ret2
          exact ⟨by rw [H1.out, H2.out]; rfl, HB2.out⟩
      · have hd := HD.out (fun i hi h1 => Hj.out i hi h1 (by omega))
        have g1 : ¬ (j : Int) < (bs.length : Int) := by omega
        rw [← hd] at hex
        clear hd
        go_wp2_with fail
        refine hex.mono ?_
        rintro e w3 ⟨rfl, hb3⟩
        go_wp2_with fail
        go_ret2
        exact ⟨rfl, below_step' HB2.out hb3⟩

set_option maxRecDepth 100000 in
set_option maxHeartbeats 8000000 in
theorem cencodes_walk (s : ByteArray) (n : Int) (w : World) (hn : n ≤ 9223372036854775807) :
    Calls Try.prog 8 #[.string s, .int .i64 n] w fun e w' => e = .returned (.bool true) ∧ Below w.heap.size w w' := by
  have c1 := encode_any s w
  go_enter Try.func8, Try.ntmps8
  go_wp2_with fail
  refine c1.mono ?_
  rintro e w1 ⟨a, p, ok, rfl, h1, hb1⟩
  have HB1 := Lib.hid hb1
  have c2 := encodeR_any s w1
  clear c1 hb1
  go_wp2_with fail
  refine c2.mono ?_
  rintro e w2 ⟨b, q, is, rfl, h2, hb2⟩
  obtain ⟨rfl, rfl, rfl⟩ := encV_det h1.out h2.out
  have HB2 := Lib.hid (below_step' HB1.out hb2)
  have hf := fixed08_any w2
  clear c2 h1 h2 hb2
  go_wp2_with fail
  refine hf.mono ?_
  rintro e w3 ⟨rfl, hb3⟩
  have HB3 := Lib.hid (below_step' HB2.out hb3)
  have x1 := str_eq_yes a
  have x2 : (p == p) = true := by simp
  have x3 : (ok == ok) = true := by simp
  have c4 := sectors_any n w3 hn
  have c5 := sectorsR_any n w3 hn
  generalize secN n = k at *
  have x4 : (k == k) = true := by simp
  clear hf hb3
  go_wp2_with fail
  refine c4.mono ?_
  rintro e w4 ⟨rfl, rfl⟩
  go_wp2_with fail
  refine c5.mono ?_
  rintro e w4 ⟨rfl, rfl⟩
  go_wp2_with fail
  go_ret
  exact ⟨by first | rfl | simp, HB3.out⟩

set_option maxRecDepth 100000 in
set_option maxHeartbeats 8000000 in
theorem cdecodes_walk (s : ByteArray) (p : Bool) (w : World) :
    Calls Try.prog 9 #[.string s, .bool p] w fun e w' => e = .returned (.bool true) ∧ Below w.heap.size w w' := by
  by_cases hs : 400 < s.size
  · have d1 : decide ((400 : Int) < (s.size : Int)) = true := by simp; omega
    have d1' : decide (400 < s.size) = true := by simp; omega
    have hf := fixed08_any w
    go_enter Try.func9, Try.ntmps9
    go_wp2_with fail
    refine hf.mono ?_
    rintro e w1 ⟨rfl, hb1⟩
    go_wp2_with fail
    go_ret
    exact ⟨rfl, hb1⟩
  have d1 : decide ((400 : Int) < (s.size : Int)) = false := by simp; omega
  have d1' : decide (400 < s.size) = false := by simp; omega
  have c1 := decode_any s p w (by omega)
  have C2 : Hid (∀ W, Calls Try.prog 31 #[.string s, .bool p] W fun e w' => e = .returned (.tuple #[.string (decS s p), .bool (decB s p)]) ∧ Below W.heap.size W w') := fun W => decodeR_any s p W (by omega)
  generalize decS s p = ts at *
  generalize decB s p = tb at *
  have x1 := str_eq_yes ts
  have x2 : (tb == tb) = true := by simp
  go_enter Try.func9, Try.ntmps9
  go_wp2_with fail
  refine c1.mono ?_
  rintro e w1 ⟨rfl, hb1⟩
  have HB1 := Lib.hid hb1
  clear c1 hb1
  go_wp2_with fail
  refine (C2.out w1).mono ?_
  rintro e w2 ⟨rfl, hb2⟩
  have HB2 := Lib.hid (below_step' HB1.out hb2)
  have hf := fixed08_any w2
  clear hb2
  go_wp2_with fail
  refine hf.mono ?_
  rintro e w3 ⟨rfl, hb3⟩
  go_wp2_with fail
  go_ret
  exact ⟨by first | rfl | simp, below_step' HB2.out hb3⟩
end Go.Proofs.Ytolappilfjhfaaa
