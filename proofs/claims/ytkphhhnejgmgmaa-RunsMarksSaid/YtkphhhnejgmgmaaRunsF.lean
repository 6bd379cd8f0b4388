/- The walk of RunsFirst. Conditions: numbers fit. -/
import Derived.Test.YtkphhhnejgmgmaaRunsE
import Derived.Test.YtkphhhnejgmgmaaRunsQ
import Derived.Test.YtkphhhnejgmgmaaSl2
import Derived.Maps.AppendAt
namespace Go.Proofs.Ytkphhhnejgmgmaa
open Go.RowKit

set_option maxHeartbeats 2000000 in
theorem first_walk (v : Value) (bs : List Bool) (n ahead : Int) (w : World) (hv : BitsR w v bs) (hl : bs.length ≤ 140737488355328) (ba : ahead ≤ 9223372036854775807) :
    Calls Try.prog 4 #[v, .int .i64 n, .int .i64 ahead] w fun e w' => e = .returned (.bool true) ∧ Below w.heap.size w w' := by
  obtain ⟨a0, c0, rfl, _⟩ := id hv
  go_enter Try.func4, Try.ntmps4
  go_wp2_with fail
  refine (fixed13_any _).mono ?_
  rintro e w1 ⟨rfl, hb1⟩
  by_cases h1 : 100 < (bs.length : Int)
  · go_wp2_with fail
    refine (fixed13_any _).mono ?_
    rintro e w2 ⟨rfl, hb2⟩
    go_wp2_with fail
    go_ret
    exact ⟨rfl, below_step hb1 hb2⟩
  by_cases h2 : n < 1
  · go_wp2_with fail
    refine (fixed13_any _).mono ?_
    rintro e w2 ⟨rfl, hb2⟩
    go_wp2_with fail
    go_ret
    exact ⟨rfl, below_step hb1 hb2⟩
  obtain ⟨N, rfl⟩ := Int.eq_ofNat_of_zero_le (a := n) (by omega)
  have hN : 1 ≤ N := by omega
  have hll := long_le bs
  have hfl := free_le bs
  have hlf := long_free bs
  have hli := Lib.hid (long_iff bs hN)
  go_wp2_with fail
  refine (first_any _ bs N _ (sl_below hv hb1) hl).mono ?_
  rintro e w2 ⟨rfl, hb2⟩
  have hB2 := below_step hb1 hb2
  clear hb1 hb2
  rcases firstP_cases bs (n := (N : Int)) (by omega) with ⟨e1, hn⟩ | ⟨A, e1, hA, hA2⟩
  · have g1 : longP bs < N := by
      rcases Nat.lt_or_ge (longP bs) N with h | h
      · exact h
      · obtain ⟨q, hq⟩ := hli.out.1 h
        have := hn q
        rw [Int.toNat_natCast, hq] at this; cases this
    have g2 : fitsI bs ahead N = false := by
      cases hf : fitsI bs ahead N with
      | false => rfl
      | true =>
        obtain ⟨P, M, h3, h4, _, _, h5⟩ := fitsI_nats hf
        obtain rfl : N = M := by omega
        have := hn P
        rw [Int.toNat_natCast, h5] at this; cases this
    have G2 := Lib.hid g2
    clear g2 hn
    rw [e1]
    clear e1
    go_wp2_with fail
    refine (long_any _ bs _ (sl_below hv hB2) hl).mono ?_
    rintro e w3 ⟨rfl, hb3⟩
    have hB3 := below_step hB2 hb3
    go_wp2_with fail
    refine (mark_no _ bs ahead N _ (sl_below hv hB3) hl ba G2.out).mono ?_
    rintro e w4 ⟨rfl, rfl⟩
    go_wp2_with fail
    go_ret
    exact ⟨rfl, hB3⟩
  · rw [Int.toNat_natCast] at hA
    have g1 : N ≤ longP bs := hli.out.2 ⟨A, hA⟩
    have hAl := (fits_iff.1 hA).1
    have g2 : fitsI bs A N = true := fitsI_of hN hA
    have G2 := Lib.hid g2
    have g3 : fitsI bs ahead N = true → (A : Int) ≤ ahead := by
      intro hf
      obtain ⟨P, M, rfl, h4, _, _, h5⟩ := fitsI_nats hf
      obtain rfl : N = M := by omega
      rcases Nat.lt_or_ge P A with h | h
      · have := hA2 P h
        rw [Int.toNat_natCast, h5] at this; cases this
      · omega
    have G3 := Lib.hid g3
    have hfm := free_mark hA
    have HA := Lib.hid hA
    clear hA hA2 g2 g3
    rw [e1]
    clear e1
    have g4 : (0 : Int) ≤ (A : Int) := by omega
    go_wp2_with fail
    refine (long_any _ bs _ (sl_below hv hB2) hl).mono ?_
    rintro e w3 ⟨rfl, hb3⟩
    have hB3 := below_step hB2 hb3
    go_wp2_with fail
    refine (mark_yes _ bs A N _ (sl_below hv hB3) hl G2.out).mono ?_
    rintro e w4 ⟨a4, c4, l4, rfl, hl4, hs4, hb4⟩
    rw [Int.toNat_natCast, Int.toNat_natCast] at hl4
    have hB4 := below_step hB3 hb4
    have hl4n : l4.length ≤ 100 := by rw [hl4.out, markP_length hAl]; omega
    have hf4 : freeP l4 + N = freeP bs := by rw [hl4.out]; exact hfm
    have Hf4 := Lib.hid hf4
    have g5 : ((freeP l4 : Int) == (freeP bs : Int) - (N : Int)) = true := by simp; omega
    clear hf4
    go_wp2_with fail
    cases hfa : fitsI bs ahead N
    · refine (mark_no _ bs ahead N _ (sl_below hv hB4) hl ba hfa).mono ?_
      rintro e w5 ⟨rfl, rfl⟩
      go_wp2_with fail
      refine (freeN_any _ l4 _ hs4 (by omega)).mono ?_
      rintro e w6 ⟨rfl, hb6⟩
      have hB6 := below_step hB4 hb6
      go_wp2_with fail
      refine (freeN_any _ bs _ (sl_below hv hB6) hl).mono ?_
      rintro e w7 ⟨rfl, hb7⟩
      have hB7 := below_step hB6 hb7
      go_wp2_with fail
      refine (long_any _ bs _ (sl_below hv hB7) hl).mono ?_
      rintro e w8 ⟨rfl, hb8⟩
      have hB8 := below_step hB7 hb8
      go_wp2_with fail
      refine (freeN_any _ bs _ (sl_below hv hB8) hl).mono ?_
      rintro e w9 ⟨rfl, hb9⟩
      have hB9 := below_step hB8 hb9
      go_wp2_with fail
      go_ret
      exact ⟨rfl, hB9⟩
    · have g6 := G3.out hfa
      have g7 : decide (ahead < (A : Int)) = false := decide_eq_false (by omega)
      refine (mark_yes _ bs ahead N _ (sl_below hv hB4) hl hfa).mono ?_
      rintro e w5 ⟨a5, c5, l5, rfl, hl5, hs5, hb5⟩
      have hB5 := below_step hB4 hb5
      go_wp2_with fail
      refine (freeN_any _ l4 _ (sl_below hs4 hb5) (by omega)).mono ?_
      rintro e w6 ⟨rfl, hb6⟩
      have hB6 := below_step hB5 hb6
      go_wp2_with fail
      refine (freeN_any _ bs _ (sl_below hv hB6) hl).mono ?_
      rintro e w7 ⟨rfl, hb7⟩
      have hB7 := below_step hB6 hb7
      go_wp2_with fail
      refine (long_any _ bs _ (sl_below hv hB7) hl).mono ?_
      rintro e w8 ⟨rfl, hb8⟩
      have hB8 := below_step hB7 hb8
      go_wp2_with fail
      refine (freeN_any _ bs _ (sl_below hv hB8) hl).mono ?_
      rintro e w9 ⟨rfl, hb9⟩
      have hB9 := below_step hB8 hb9
      go_wp2_with fail
      go_ret
      exact ⟨rfl, hB9⟩

/-- A row of the call's own that reads as a list. -/
abbrev Own1 (base : Nat) (w : World) (v : Value) (l : List Bool) : Prop := w.ownsRow base 4 1 v l.length (l.map Value.bool)

set_option maxHeartbeats 2000000 in
theorem ends_walk (many n : Int) (w : World) :
    Calls Try.prog 7 #[.int .i64 many, .int .i64 n] w fun e w' => e = .returned (.bool true) ∧ Below w.heap.size w w' := by
  obtain ⟨i0, hi, hz0, hz1, hz2⟩ := info_parts info_bool
  go_enter Try.func7, Try.ntmps7
  go_wp2_with fail
  refine (fixed13_any _).mono ?_
  rintro e w1 ⟨rfl, hb1⟩
  by_cases h1 : many < 0
  · go_wp2_with fail
    refine (fixed13_any _).mono ?_
    rintro e w2 ⟨rfl, hb2⟩
    go_wp2_with fail
    go_ret
    exact ⟨rfl, below_step hb1 hb2⟩
  by_cases h2 : 200 < many
  · go_wp2_with fail
    refine (fixed13_any _).mono ?_
    rintro e w2 ⟨rfl, hb2⟩
    go_wp2_with fail
    go_ret
    exact ⟨rfl, below_step hb1 hb2⟩
  by_cases h3 : n < 1
  · go_wp2_with fail
    refine (fixed13_any _).mono ?_
    rintro e w2 ⟨rfl, hb2⟩
    go_wp2_with fail
    go_ret
    exact ⟨rfl, below_step hb1 hb2⟩
  obtain ⟨M, rfl⟩ := Int.eq_ofNat_of_zero_le (a := many) (by omega)
  obtain ⟨N, rfl⟩ := Int.eq_ofNat_of_zero_le (a := n) (by omega)
  go_wp2_with fail
  have hbA : Below w.heap.size w ((w1.alloc (.cells #[] 4)).alloc (.cells #[] 4)) := (hb1.alloc hb1.size _).alloc (by have := hb1.size; simp; omega) _
  have oA : ((w1.alloc (.cells #[] 4)).alloc (.cells #[] 4)).ownsRow w.heap.size 4 1 (.slice (some ⟨w1.heap.size, 0, none⟩) 0 0) 0 [] := owns_base ((owns_empty w1 4 1).alloc _) hb1.size
  have oN : ((w1.alloc (.cells #[] 4)).alloc (.cells #[] 4)).ownsRow w.heap.size 4 1 (.slice (some ⟨w1.heap.size + 1, 0, none⟩) 0 0) 0 [] := by
    have := owns_base (base' := w.heap.size) (owns_empty (w1.alloc (.cells #[] 4)) 4 1) (by have := hb1.size; simp; omega)
    rwa [World.size_alloc] at this
  generalize (w1.alloc (.cells #[] 4)).alloc (.cells #[] 4) = w2 at *
  have OA := Lib.hid oA
  have ON := Lib.hid oN
  clear oA oN hb1
  go_loopw [5, 6, 7] (fun u v i wr => ∃ k : Nat, k ≤ M ∧ i = .int .i64 k ∧ wr.ownsRow w.heap.size 4 1 u k (List.replicate k (Value.bool true)) ∧ wr.ownsRow w.heap.size 4 1 v k (List.replicate k (Value.bool false)) ∧ u.ownBlock ≠ v.ownBlock ∧ Below w.heap.size w wr) (fun _ _ i _ => M - (intOf i).toNat)
  case atStart => exact ⟨0, Nat.zero_le _, rfl, OA.out, ON.out, by simp [Value.ownBlock], hbA⟩
  case round =>
    obtain ⟨k, hk, rfl, oU, oV, hne, hb⟩ := hrel
    have HU := Lib.hid oU
    have HV := Lib.hid oV
    have HNE := Lib.hid hne
    clear oU oV hne
    by_cases hlt : k < M
    · go_wp2_with (at_builtin; refine wpList_append_own_at _ rfl _ _ 22 rfl w.heap.size 4 i0 (.bool false) 1 1 Try.underlying22 hi hz0 hz1 hz2 rfl (by decide) _ _ _ rfl (HU.out.alloc _) ⟨wr.heap.size, 0, none⟩ 1 1 [.bool true] rfl rfl ?c1 ?c2 ?c3 ?c4 ?c5 ?_)
      case c1 => exact cell_one_new _ _ _
      case c2 => simp [Value.oneCell']
      case c3 => simp [maxLen]; omega
      case c4 => omega
      case c5 => have := hb.size; simp; omega
      intro v3 w3 hown3 hgrow3 _ hat3
      have oV3 := (HV.out.alloc (.cells #[.bool true] 4)).kept hgrow3 (Or.inr (fun h => HNE.out h.symm))
      have hne3 : v3.ownBlock ≠ u6.ownBlock := by
        rcases hat3 with h | h
        · rw [h]; exact HNE.out
        · rw [h]; intro h'
          have := owns_lt HV.out _ h'.symm
          omega
      have hb3 : Below w.heap.size w w3 := (hb.alloc hb.size _).grown hgrow3 (by have := hb.size; simp; omega) (fun b hbk => owns_block HU.out b hbk)
      have H3 := Lib.hid hown3
      have HV3 := Lib.hid oV3
      have HN3 := Lib.hid hne3
      clear hown3 hgrow3 hat3 oV3 hne3
      go_wp2_with (at_builtin; refine wpList_append_own_at _ rfl _ _ 22 rfl w.heap.size 4 i0 (.bool false) 1 1 Try.underlying22 hi hz0 hz1 hz2 rfl (by decide) _ _ _ rfl (HV3.out.alloc _) ⟨w3.heap.size, 0, none⟩ 1 1 [.bool false] rfl rfl ?c1 ?c2 ?c3 ?c4 ?c5 ?_)
      case c1 => exact cell_one_new _ _ _
      case c2 => simp [Value.oneCell']
      case c3 => simp [maxLen]; omega
      case c4 => omega
      case c5 => have := hb3.size; simp; omega
      intro v4 w4 hown4 hgrow4 _ hat4
      have oU4 := (H3.out.alloc (.cells #[.bool false] 4)).kept hgrow4 (Or.inr HN3.out)
      have hne4 : v3.ownBlock ≠ v4.ownBlock := by
        rcases hat4 with h | h
        · rw [h]; exact HN3.out
        · rw [h]; intro h'
          have := owns_lt H3.out _ h'
          omega
      have hb4 : Below w.heap.size w w4 := (hb3.alloc hb3.size _).grown hgrow4 (by have := hb3.size; simp; omega) (fun b hbk => owns_block HV3.out b hbk)
      have H4 := Lib.hid hown4
      have HU4 := Lib.hid oU4
      have HN4 := Lib.hid hne4
      clear hown4 hgrow4 hat4 oU4 hne4
      go_wp2_with fail
      exact ⟨⟨k + 1, by omega, by go_num, by rw [List.replicate_succ']; exact HU4.out, by rw [List.replicate_succ']; exact H4.out, HN4.out, hb4⟩, by simp [intOf]; omega⟩
    · obtain rfl : k = M := by omega
      have sU : BitsR wr u5 (List.replicate k true) := (sl_of_owns (f := fun x : Bool => Value.bool x) (by rw [List.map_replicate]; exact HU.out)).1
      have sV : BitsR wr u6 (List.replicate k false) := (sl_of_owns (f := fun x : Bool => Value.bool x) (by rw [List.map_replicate]; exact HV.out)).1
      have lT : (List.replicate k true).length ≤ 140737488355328 := by rw [List.length_replicate]; omega
      have lF : (List.replicate k false).length ≤ 140737488355328 := by rw [List.length_replicate]; omega
      have T1 := fun wx hx => first_any u5 (List.replicate k true) N wx hx lT
      rw [first_all k (by omega)] at T1
      have T2 := fun wx hx => long_any u5 (List.replicate k true) wx hx lT
      rw [long_all] at T2
      have T3 := fun wx hx => freeN_any u5 (List.replicate k true) wx hx lT
      rw [free_true] at T3
      have T4 := fun wx hx => first_any u6 (List.replicate k false) N wx hx lF
      rw [first_none k (by omega)] at T4
      have T5 := fun wx hx => long_any u6 (List.replicate k false) wx hx lF
      rw [long_none] at T5
      have T6 := fun wx hx => freeN_any u6 (List.replicate k false) wx hx lF
      rw [free_false] at T6
      by_cases hNk : (N : Int) ≤ (k : Int)
      · rw [if_pos hNk] at T4
        have t1 := Lib.hid T1; have t2 := Lib.hid T2; have t3 := Lib.hid T3; have t4 := Lib.hid T4; have t5 := Lib.hid T5; have t6 := Lib.hid T6
        clear T1 T2 T3 T4 T5 T6 HU HV lT lF
        go_wp2_with fail
        refine (t1.out _ sU).mono ?_
        rintro e x1 ⟨rfl, y1⟩
        go_wp2_with fail
        refine (t2.out _ (sl_below sU y1)).mono ?_
        rintro e x2 ⟨rfl, y2⟩
        have z2 := below_step y1 y2
        go_wp2_with fail
        refine (t3.out _ (sl_below sU z2)).mono ?_
        rintro e x3 ⟨rfl, y3⟩
        have z3 := below_step z2 y3
        go_wp2_with fail
        refine (t4.out _ (sl_below sV z3)).mono ?_
        rintro e x4 ⟨rfl, y4⟩
        have z4 := below_step z3 y4
        go_wp2_with fail
        refine (t5.out _ (sl_below sV z4)).mono ?_
        rintro e x5 ⟨rfl, y5⟩
        have z5 := below_step z4 y5
        go_wp2_with fail
        refine (t6.out _ (sl_below sV z5)).mono ?_
        rintro e x6 ⟨rfl, y6⟩
        have z6 := below_step z5 y6
        go_wp2_with fail
        go_ret
        exact ⟨rfl, below_step hb z6⟩
      · rw [if_neg hNk] at T4
        have t1 := Lib.hid T1; have t2 := Lib.hid T2; have t3 := Lib.hid T3; have t4 := Lib.hid T4; have t5 := Lib.hid T5; have t6 := Lib.hid T6
        clear T1 T2 T3 T4 T5 T6 HU HV lT lF
        go_wp2_with fail
        refine (t1.out _ sU).mono ?_
        rintro e x1 ⟨rfl, y1⟩
        go_wp2_with fail
        refine (t2.out _ (sl_below sU y1)).mono ?_
        rintro e x2 ⟨rfl, y2⟩
        have z2 := below_step y1 y2
        go_wp2_with fail
        refine (t3.out _ (sl_below sU z2)).mono ?_
        rintro e x3 ⟨rfl, y3⟩
        have z3 := below_step z2 y3
        go_wp2_with fail
        refine (t4.out _ (sl_below sV z3)).mono ?_
        rintro e x4 ⟨rfl, y4⟩
        have z4 := below_step z3 y4
        go_wp2_with fail
        refine (t5.out _ (sl_below sV z4)).mono ?_
        rintro e x5 ⟨rfl, y5⟩
        have z5 := below_step z4 y5
        go_wp2_with fail
        refine (t6.out _ (sl_below sV z5)).mono ?_
        rintro e x6 ⟨rfl, y6⟩
        have z6 := below_step z5 y6
        go_wp2_with fail
        go_ret
        exact ⟨rfl, below_step hb z6⟩
end Go.Proofs.Ytkphhhnejgmgmaa
