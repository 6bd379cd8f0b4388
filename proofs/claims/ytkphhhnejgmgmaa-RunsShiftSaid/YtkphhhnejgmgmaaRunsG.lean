/- The walk of RunsShift. Conditions: numbers fit. -/
import Derived.Test.YtkphhhnejgmgmaaRunsF
import Derived.Test.YtkphhhnejgmgmaaSl3
namespace Go.Proofs.Ytkphhhnejgmgmaa
open Go.RowKit

theorem replicate_map (k : Nat) (bs : List Bool) : List.replicate k (Value.bool true) ++ bs.map Value.bool = (List.replicate k true ++ bs).map Value.bool := by simp

/-- The two halves of a slice. -/
theorem sl_halves {w : World} {a0 : Option Addr} {c0 : Nat} {bs : List Bool} (hv : BitsR w (.slice a0 bs.length c0) bs) (k : Nat) (hk : k ≤ bs.length) : BitsR w (.slice a0 k c0) (bs.take k) := by
  obtain ⟨a', cap', hv', hl, hn, hc⟩ := hv
  injection hv' with h1 h2 h3
  subst h1 h3
  have hlen : (bs.take k).length = k := by rw [List.length_take]; omega
  refine ⟨a0, c0, by rw [hlen], by omega, hn, ?_⟩
  rcases hc with rfl | ⟨b, off, ha, hb, hcell⟩
  · left; simp
  · exact Or.inr ⟨b, off, ha, hb, fun i hi j hj => by rw [hcell i (by rw [hlen] at hi; omega) j hj, List.getElem_take]⟩


theorem sl_nilS {w : World} (ad : Addr) (cap : Nat) : BitsR w (.slice (some ad) 0 cap) [] := sl_nil nofun
theorem sl_nil0 {w : World} : BitsR w (.slice none 0 0) [] := sl_nil fun _ => rfl

set_option maxHeartbeats 4000000 in
theorem shift_walk (v : Value) (bs : List Bool) (many n : Int) (w : World) (hv : BitsR w v bs) (hl : bs.length ≤ 140737488355328) :
    Calls Try.prog 6 #[v, .int .i64 many, .int .i64 n] w fun e w' => e = .returned (.bool true) ∧ Below w.heap.size w w' := by
  obtain ⟨i0, hi, hz0, hz1, hz2⟩ := info_parts info_bool
  obtain ⟨a0, c0, rfl, _⟩ := id hv
  by_cases hbad : 100 < (bs.length : Int) ∨ many < 0 ∨ 100 < many ∨ n < 1
  · rcases hbad with h | h | h | h
    · go_enter Try.func6, Try.ntmps6
      go_wp2_with fail
      refine (fixed13_any _).mono ?_
      rintro e w1 ⟨rfl, hb1⟩
      go_wp2_with fail
      refine (fixed13_any _).mono ?_
      rintro e w2 ⟨rfl, hb2⟩
      go_wp2_with fail
      go_ret
      exact ⟨rfl, below_step hb1 hb2⟩
    all_goals
      by_cases h0 : 100 < (bs.length : Int)
      · go_enter Try.func6, Try.ntmps6
        go_wp2_with fail
        refine (fixed13_any _).mono ?_
        rintro e w1 ⟨rfl, hb1⟩
        go_wp2_with fail
        refine (fixed13_any _).mono ?_
        rintro e w2 ⟨rfl, hb2⟩
        go_wp2_with fail
        go_ret
        exact ⟨rfl, below_step hb1 hb2⟩
      · by_cases h2 : many < 0
        · go_enter Try.func6, Try.ntmps6
          go_wp2_with fail
          refine (fixed13_any _).mono ?_
          rintro e w1 ⟨rfl, hb1⟩
          go_wp2_with fail
          refine (fixed13_any _).mono ?_
          rintro e w2 ⟨rfl, hb2⟩
          go_wp2_with fail
          go_ret
          exact ⟨rfl, below_step hb1 hb2⟩
        · by_cases h3 : 100 < many
          · go_enter Try.func6, Try.ntmps6
            go_wp2_with fail
            refine (fixed13_any _).mono ?_
            rintro e w1 ⟨rfl, hb1⟩
            go_wp2_with fail
            refine (fixed13_any _).mono ?_
            rintro e w2 ⟨rfl, hb2⟩
            go_wp2_with fail
            go_ret
            exact ⟨rfl, below_step hb1 hb2⟩
          · have h4 : n < 1 := by omega
            go_enter Try.func6, Try.ntmps6
            go_wp2_with fail
            refine (fixed13_any _).mono ?_
            rintro e w1 ⟨rfl, hb1⟩
            go_wp2_with fail
            refine (fixed13_any _).mono ?_
            rintro e w2 ⟨rfl, hb2⟩
            go_wp2_with fail
            go_ret
            exact ⟨rfl, below_step hb1 hb2⟩
  obtain ⟨M, rfl⟩ := Int.eq_ofNat_of_zero_le (a := many) (by omega)
  obtain ⟨N, rfl⟩ := Int.eq_ofNat_of_zero_le (a := n) (by omega)
  have g1 : (bs.length : Int) ≤ 100 := by omega
  have g2 : (M : Int) ≤ 100 := by omega
  have g3 : (1 : Int) ≤ (N : Int) := by omega
  clear hbad
  go_enter Try.func6, Try.ntmps6
  go_wp2_with fail
  refine (fixed13_any _).mono ?_
  rintro e w1 ⟨rfl, hb1⟩
  go_wp2_with fail
  have hbA : Below w.heap.size w (w1.alloc (.cells #[] 4)) := hb1.alloc hb1.size _
  have oA : (w1.alloc (.cells #[] 4)).ownsRow w.heap.size 4 1 (.slice (some ⟨w1.heap.size, 0, none⟩) 0 0) 0 [] := owns_base (owns_empty w1 4 1) hb1.size
  generalize w1.alloc (.cells #[] 4) = w2 at *
  have OA := Lib.hid oA
  clear oA hb1
  go_loopw [7, 8] (fun u i wr => ∃ k : Nat, k ≤ M ∧ i = .int .i64 k ∧ wr.ownsRow w.heap.size 4 1 u k (List.replicate k (Value.bool true)) ∧ Below w.heap.size w wr) (fun _ i _ => M - (intOf i).toNat)
  case atStart => exact ⟨0, Nat.zero_le _, rfl, OA.out, hbA⟩
  case round =>
    obtain ⟨k, hk, rfl, oU, hb⟩ := hrel
    have HU := Lib.hid oU
    clear oU
    by_cases hlt : k < M
    · go_wp2_with (at_builtin; refine wpList_append_own_at _ rfl _ _ 22 rfl w.heap.size 4 i0 (.bool false) 1 1 Try.underlying22 hi hz0 hz1 hz2 rfl (by decide) _ _ _ rfl (HU.out.alloc _) ⟨wr.heap.size, 0, none⟩ 1 1 [.bool true] rfl rfl ?c1 ?c2 ?c3 ?c4 ?c5 ?_)
      case c1 => exact cell_one_new _ _ _
      case c2 => simp [Value.oneCell']
      case c3 => simp [maxLen]; omega
      case c4 => omega
      case c5 => have := hb.size; simp; omega
      intro v3 w3 hown3 hgrow3 _ _
      have hb3 : Below w.heap.size w w3 := (hb.alloc hb.size _).grown hgrow3 (by have := hb.size; simp; omega) (fun b hbk => owns_block HU.out b hbk)
      have H3 := Lib.hid hown3
      clear hown3 hgrow3
      go_wp2_with fail
      exact ⟨⟨k + 1, by omega, by go_num, by rw [List.replicate_succ']; exact H3.out, hb3⟩, by simp [intOf]; omega⟩
    · obtain rfl : k = M := by omega
      have hvr := sl_below hv hb
      go_wp2_with (at_builtin; refine wpList_append_sl (f := fun x : Bool => Value.bool x) (ys := bs) rfl _ _ 22 rfl w.heap.size 4 i0 (.bool false) 1 Try.underlying22 hi hz0 hz1 hz2 rfl _ _ _ rfl HU.out _ rfl hvr ?c1 ?c2 ?c3 ?c4 ?_)
      case c1 => exact fun y => rfl
      case c2 => simp [maxLen]; omega
      case c3 => omega
      case c4 => exact hb.size
      intro v3 w3 hown3 hgrow3 _
      have hb3 : Below w.heap.size w w3 := hb.grown hgrow3 hb.size (fun b hbk => owns_block HU.out b hbk)
      rw [replicate_map, show k + bs.length = (List.replicate k true ++ bs).length by simp] at hown3
      have hM3 : BitsR w3 v3 (List.replicate k true ++ bs) := (sl_of_owns hown3).1
      have hv3 := sl_below hv hb3
      clear hown3 hgrow3 HU hvr hb
      have hfs := Lib.hid (first_shift bs k (n := (N : Int)) (by omega))
      have hls := Lib.hid (long_shift bs k)
      have hfr : freeP (List.replicate k true ++ bs) = freeP (bs.take (bs.length / 2)) + freeP (bs.drop (bs.length / 2)) := by
        rw [free_append, free_true, Nat.zero_add, ← free_append, List.take_append_drop]
      have hfb1 := free_le (bs.take (bs.length / 2))
      have hfb2 := free_le (bs.drop (bs.length / 2))
      rw [List.length_take] at hfb1
      rw [List.length_drop] at hfb2
      have Hfr := Lib.hid hfr
      have hlm : (List.replicate k true ++ bs).length ≤ 140737488355328 := by rw [List.length_append, List.length_replicate]; omega
      have hl1 : (bs.take (bs.length / 2)).length = bs.length / 2 := by rw [List.length_take]; omega
      have hl2 : (bs.drop (bs.length / 2)).length = bs.length - bs.length / 2 := by rw [List.length_drop]
      have hT := sl_halves hv3 (bs.length / 2) (by omega)
      have x1 : IntKind.i64.wrap ((freeP (bs.take (bs.length / 2)) : Int) + (freeP (bs.drop (bs.length / 2)) : Int)) = (freeP (bs.take (bs.length / 2)) : Int) + (freeP (bs.drop (bs.length / 2)) : Int) := IntWalk.i64_in _ (by omega)
      have x2 : ((freeP (List.replicate k true ++ bs) : Int) == (freeP (bs.take (bs.length / 2)) : Int) + (freeP (bs.drop (bs.length / 2)) : Int)) = true := by rw [hfr]; simp
      have Hl1 := Lib.hid hl1
      have Hl2 := Lib.hid hl2
      have X1 := Lib.hid x1
      have X2 := Lib.hid x2
      clear hfr hl1 hl2 x1 x2 hv
      go_wp2_with fail
      refine (first_any _ bs N _ hv3 hl).mono ?_
      rintro e w4 ⟨rfl, hb4⟩
      have hM4 := sl_below hM3 hb4
      have hv4 := sl_below hv3 hb4
      have hT4 := sl_below hT hb4
      have hb4' := below_step hb3 hb4
      clear hM3 hv3 hT hb3 hb4
      rcases firstP_cases bs (n := (N : Int)) (by omega) with ⟨e1, _⟩ | ⟨A, e1, hA1, _⟩
      · have e2 : firstP (List.replicate k true ++ bs) N = -1 := by rw [hfs.out, e1]; rfl
        rw [e1]
        have E2 := Lib.hid e2
        clear e1 e2
        rcases sl_one hv4 with ⟨rfl, ad, cp, hq, hn⟩ | ⟨hp, b0, o0, cp, hq, hcp, hbb, cells⟩
        · injection hq with q1 q2 q3
          subst q1 q3
          have X2' : ((freeP (List.replicate k true ++ []) : Int) == 0) = true := by rw [free_append, free_true]; rfl
          have T1 := fun wx hx => first_any v3 (List.replicate k true ++ []) N wx hx hlm
          rw [E2.out] at T1
          have T2 := fun wx hx => long_any v3 (List.replicate k true ++ []) wx hx hlm
          rw [hls.out] at T2
          have T3 := fun wx hx => freeN_any v3 (List.replicate k true ++ []) wx hx hlm
          rw [show freeP (List.replicate k true ++ []) = 0 by rw [free_append, free_true]; rfl] at T3
          have T4 := fun u wx hx => freeN_any u [] wx hx (by decide)
          rw [show freeP [] = 0 from rfl] at T4
          have T6 := fun u wx hx => long_any u [] wx hx (by decide)
          rw [show longP [] = 0 from rfl] at T2 T6
          have t1 := Lib.hid T1; have t2 := Lib.hid T2; have t3 := Lib.hid T3; have t4 := Lib.hid T4; have t6 := Lib.hid T6
          clear T1 T2 T3 T4 T6 X2'
          have Hn := Lib.hid hn
          have HM4 := hM4
          clear hn X1 X2 Hfr Hl1 Hl2 hT4 hv4
          go_wp2_with fail
          cases a0 with
          | none =>
            obtain rfl := Hn.out rfl
            go_region_held3 (Held w4) (first | exact held_start | exact held_call (by assumption) (by assumption)) (first
              | (go_at_call 11; refine (t1.out _ (sl_below hM4 (And.right (by assumption : Held w4 _)))).mono ?_; rintro e w' ⟨rfl, hb⟩)
              | (go_at_call_of 13 v3; refine (t2.out _ (sl_below hM4 (And.right (by assumption : Held w4 _)))).mono ?_; rintro e w' ⟨rfl, hb⟩)
              | (go_at_call 13; refine (t6.out _ _ sl_nil0).mono ?_; rintro e w' ⟨rfl, hb⟩)
              | (go_at_call_of 15 v3; refine (t3.out _ (sl_below hM4 (And.right (by assumption : Held w4 _)))).mono ?_; rintro e w' ⟨rfl, hb⟩)
              | (go_at_call 15; refine (t4.out _ _ sl_nil0).mono ?_; rintro e w' ⟨rfl, hb⟩))
            have hh : Held w4 w' := by assumption
            go_wp2_with fail
            go_ret
            exact ⟨rfl, hb4'.trans (hh.2.mono hb4'.size)⟩
          | some ad =>
            by_cases hc : c0 = 0
            · subst hc
              go_region_held3 (Held w4) (first | exact held_start | exact held_call (by assumption) (by assumption)) (first
                | (go_at_call 11; refine (t1.out _ (sl_below hM4 (And.right (by assumption : Held w4 _)))).mono ?_; rintro e w' ⟨rfl, hb⟩)
                | (go_at_call_of 13 v3; refine (t2.out _ (sl_below hM4 (And.right (by assumption : Held w4 _)))).mono ?_; rintro e w' ⟨rfl, hb⟩)
                | (go_at_call 13; refine (t6.out _ _ (sl_nilS _ _)).mono ?_; rintro e w' ⟨rfl, hb⟩)
                | (go_at_call_of 15 v3; refine (t3.out _ (sl_below hM4 (And.right (by assumption : Held w4 _)))).mono ?_; rintro e w' ⟨rfl, hb⟩)
                | (go_at_call 15; refine (t4.out _ _ (sl_nilS _ _)).mono ?_; rintro e w' ⟨rfl, hb⟩))
              have hh : Held w4 w' := by assumption
              go_wp2_with fail
              go_ret
              exact ⟨rfl, hb4'.trans (hh.2.mono hb4'.size)⟩
            · have hc1 : (0 : Int) < (c0 : Int) := by omega
              have hc2 : ¬ (c0 : Int) = 0 := by omega
              go_region_held3 (Held w4) (first | exact held_start | exact held_call (by assumption) (by assumption)) (first
                | (go_at_call 11; refine (t1.out _ (sl_below hM4 (And.right (by assumption : Held w4 _)))).mono ?_; rintro e w' ⟨rfl, hb⟩)
                | (go_at_call_of 13 v3; refine (t2.out _ (sl_below hM4 (And.right (by assumption : Held w4 _)))).mono ?_; rintro e w' ⟨rfl, hb⟩)
                | (go_at_call 13; refine (t6.out _ _ (sl_nilS _ _)).mono ?_; rintro e w' ⟨rfl, hb⟩)
                | (go_at_call_of 15 v3; refine (t3.out _ (sl_below hM4 (And.right (by assumption : Held w4 _)))).mono ?_; rintro e w' ⟨rfl, hb⟩)
                | (go_at_call 15; refine (t4.out _ _ (sl_nilS _ _)).mono ?_; rintro e w' ⟨rfl, hb⟩))
              have hh : Held w4 w' := by assumption
              go_wp2_with fail
              go_ret
              exact ⟨rfl, hb4'.trans (hh.2.mono hb4'.size)⟩
        · injection hq with q1 q2 q3
          subst q1 q3
          have hD : BitsR w4 (.slice (some ⟨b0, o0 + bs.length / 2, none⟩) (bs.length - bs.length / 2) (c0 - bs.length / 2)) (bs.drop (bs.length / 2)) := by
            have := sl_one_mk (w := w4) (f := fun x : Bool => Value.bool x) (xs := bs.drop (bs.length / 2)) (b := b0) (off := o0 + bs.length / 2) (cap := c0 - bs.length / 2) (by rw [Hl2.out]; omega) hbb (fun i hi => by
              rw [Hl2.out] at hi
              rw [Nat.add_assoc, cells (bs.length / 2 + i) (by omega)]
              simp [List.getElem_drop])
            rwa [Hl2.out] at this
          clear cells
          have s0 : (0 : Int) ≤ (bs.length : Int) / 2 := by omega
          have s1 : (bs.length : Int) / 2 ≤ (bs.length : Int) := by omega
          have s2 : (bs.length : Int) ≤ (c0 : Int) := by omega
          have s3 : (bs.length : Int) / 2 ≤ (c0 : Int) := by omega
          have s4 : ((bs.length : Int) / 2).toNat = bs.length / 2 := by omega
          have T1 := fun wx hx => first_any v3 (List.replicate k true ++ bs) N wx hx hlm
          rw [E2.out] at T1
          have T2 := fun wx hx => long_any v3 (List.replicate k true ++ bs) wx hx hlm
          rw [hls.out] at T2
          have T3 := fun wx hx => freeN_any v3 (List.replicate k true ++ bs) wx hx hlm
          have T4 := fun wx hx => freeN_any (.slice (some ⟨b0, o0, none⟩) (bs.length / 2) c0) (bs.take (bs.length / 2)) wx hx (by rw [Hl1.out]; omega)
          have T5 := fun wx hx => freeN_any (.slice (some ⟨b0, o0 + bs.length / 2, none⟩) (bs.length - bs.length / 2) (c0 - bs.length / 2)) (bs.drop (bs.length / 2)) wx hx (by rw [Hl2.out]; omega)
          have T6 := fun wx hx => long_any (.slice (some ⟨b0, o0, none⟩) bs.length c0) bs wx hx hl
          have t1 := Lib.hid T1; have t2 := Lib.hid T2; have t3 := Lib.hid T3; have t4 := Lib.hid T4; have t5 := Lib.hid T5; have t6 := Lib.hid T6
          clear T1 T2 T3 T4 T5 T6
          go_wp2_with fail
          have x1 := X1.out; have x2 := X2.out
          generalize hH : bs.length / 2 = H at *
          clear hH
          go_region_held3 (Held w4) (first | exact held_start | exact held_call (by assumption) (by assumption)) (first
            | (go_at_call 11; refine (t1.out _ (sl_below hM4 (And.right (by assumption : Held w4 _)))).mono ?_; rintro e w' ⟨rfl, hb⟩)
            | (go_at_call_of 13 v3; refine (t2.out _ (sl_below hM4 (And.right (by assumption : Held w4 _)))).mono ?_; rintro e w' ⟨rfl, hb⟩)
            | (go_at_call_of 13 (Value.slice (some ⟨b0, o0, none⟩) bs.length c0); refine (t6.out _ (sl_below hv4 (And.right (by assumption : Held w4 _)))).mono ?_; rintro e w' ⟨rfl, hb⟩)
            | (go_at_call_of 15 v3; refine (t3.out _ (sl_below hM4 (And.right (by assumption : Held w4 _)))).mono ?_; rintro e w' ⟨rfl, hb⟩)
            | (go_at_call_of 15 (Value.slice (some ⟨b0, o0, none⟩) H c0); refine (t4.out _ (sl_below hT4 (And.right (by assumption : Held w4 _)))).mono ?_; rintro e w' ⟨rfl, hb⟩)
            | (go_at_call_of 15 (Value.slice (some ⟨b0, o0 + H, none⟩) (bs.length - H) (c0 - H)); refine (t5.out _ (sl_below hD (And.right (by assumption : Held w4 _)))).mono ?_; rintro e w' ⟨rfl, hb⟩))
          have hh : Held w4 w' := by assumption
          go_wp2_with fail
          go_ret
          exact ⟨rfl, hb4'.trans (hh.2.mono hb4'.size)⟩
      · have e2 : firstP (List.replicate k true ++ bs) N = (A : Int) + (k : Int) := by rw [hfs.out, e1, if_pos (by omega)]
        have hA0 : (0 : Int) ≤ (A : Int) := by omega
        have hAl : (A : Int) ≤ 100 := by have := (fits_iff.1 hA1).1; omega
        rw [e1]
        have E2 := Lib.hid e2
        clear e1 e2
        rcases sl_one hv4 with ⟨rfl, ad, cp, hq, hn⟩ | ⟨hp, b0, o0, cp, hq, hcp, hbb, cells⟩
        · injection hq with q1 q2 q3
          subst q1 q3
          have X2' : ((freeP (List.replicate k true ++ []) : Int) == 0) = true := by rw [free_append, free_true]; rfl
          have T1 := fun wx hx => first_any v3 (List.replicate k true ++ []) N wx hx hlm
          rw [E2.out] at T1
          have T2 := fun wx hx => long_any v3 (List.replicate k true ++ []) wx hx hlm
          rw [hls.out] at T2
          have T3 := fun wx hx => freeN_any v3 (List.replicate k true ++ []) wx hx hlm
          rw [show freeP (List.replicate k true ++ []) = 0 by rw [free_append, free_true]; rfl] at T3
          have T4 := fun u wx hx => freeN_any u [] wx hx (by decide)
          rw [show freeP [] = 0 from rfl] at T4
          have T6 := fun u wx hx => long_any u [] wx hx (by decide)
          rw [show longP [] = 0 from rfl] at T2 T6
          have t1 := Lib.hid T1; have t2 := Lib.hid T2; have t3 := Lib.hid T3; have t4 := Lib.hid T4; have t6 := Lib.hid T6
          clear T1 T2 T3 T4 T6 X2'
          have Hn := Lib.hid hn
          have HM4 := hM4
          clear hn X1 X2 Hfr Hl1 Hl2 hT4 hv4
          go_wp2_with fail
          cases a0 with
          | none =>
            obtain rfl := Hn.out rfl
            go_region_held3 (Held w4) (first | exact held_start | exact held_call (by assumption) (by assumption)) (first
              | (go_at_call 11; refine (t1.out _ (sl_below hM4 (And.right (by assumption : Held w4 _)))).mono ?_; rintro e w' ⟨rfl, hb⟩)
              | (go_at_call_of 13 v3; refine (t2.out _ (sl_below hM4 (And.right (by assumption : Held w4 _)))).mono ?_; rintro e w' ⟨rfl, hb⟩)
              | (go_at_call 13; refine (t6.out _ _ sl_nil0).mono ?_; rintro e w' ⟨rfl, hb⟩)
              | (go_at_call_of 15 v3; refine (t3.out _ (sl_below hM4 (And.right (by assumption : Held w4 _)))).mono ?_; rintro e w' ⟨rfl, hb⟩)
              | (go_at_call 15; refine (t4.out _ _ sl_nil0).mono ?_; rintro e w' ⟨rfl, hb⟩))
            have hh : Held w4 w' := by assumption
            go_wp2_with fail
            go_ret
            exact ⟨rfl, hb4'.trans (hh.2.mono hb4'.size)⟩
          | some ad =>
            by_cases hc : c0 = 0
            · subst hc
              go_region_held3 (Held w4) (first | exact held_start | exact held_call (by assumption) (by assumption)) (first
                | (go_at_call 11; refine (t1.out _ (sl_below hM4 (And.right (by assumption : Held w4 _)))).mono ?_; rintro e w' ⟨rfl, hb⟩)
                | (go_at_call_of 13 v3; refine (t2.out _ (sl_below hM4 (And.right (by assumption : Held w4 _)))).mono ?_; rintro e w' ⟨rfl, hb⟩)
                | (go_at_call 13; refine (t6.out _ _ (sl_nilS _ _)).mono ?_; rintro e w' ⟨rfl, hb⟩)
                | (go_at_call_of 15 v3; refine (t3.out _ (sl_below hM4 (And.right (by assumption : Held w4 _)))).mono ?_; rintro e w' ⟨rfl, hb⟩)
                | (go_at_call 15; refine (t4.out _ _ (sl_nilS _ _)).mono ?_; rintro e w' ⟨rfl, hb⟩))
              have hh : Held w4 w' := by assumption
              go_wp2_with fail
              go_ret
              exact ⟨rfl, hb4'.trans (hh.2.mono hb4'.size)⟩
            · have hc1 : (0 : Int) < (c0 : Int) := by omega
              have hc2 : ¬ (c0 : Int) = 0 := by omega
              go_region_held3 (Held w4) (first | exact held_start | exact held_call (by assumption) (by assumption)) (first
                | (go_at_call 11; refine (t1.out _ (sl_below hM4 (And.right (by assumption : Held w4 _)))).mono ?_; rintro e w' ⟨rfl, hb⟩)
                | (go_at_call_of 13 v3; refine (t2.out _ (sl_below hM4 (And.right (by assumption : Held w4 _)))).mono ?_; rintro e w' ⟨rfl, hb⟩)
                | (go_at_call 13; refine (t6.out _ _ (sl_nilS _ _)).mono ?_; rintro e w' ⟨rfl, hb⟩)
                | (go_at_call_of 15 v3; refine (t3.out _ (sl_below hM4 (And.right (by assumption : Held w4 _)))).mono ?_; rintro e w' ⟨rfl, hb⟩)
                | (go_at_call 15; refine (t4.out _ _ (sl_nilS _ _)).mono ?_; rintro e w' ⟨rfl, hb⟩))
              have hh : Held w4 w' := by assumption
              go_wp2_with fail
              go_ret
              exact ⟨rfl, hb4'.trans (hh.2.mono hb4'.size)⟩
        · injection hq with q1 q2 q3
          subst q1 q3
          have hD : BitsR w4 (.slice (some ⟨b0, o0 + bs.length / 2, none⟩) (bs.length - bs.length / 2) (c0 - bs.length / 2)) (bs.drop (bs.length / 2)) := by
            have := sl_one_mk (w := w4) (f := fun x : Bool => Value.bool x) (xs := bs.drop (bs.length / 2)) (b := b0) (off := o0 + bs.length / 2) (cap := c0 - bs.length / 2) (by rw [Hl2.out]; omega) hbb (fun i hi => by
              rw [Hl2.out] at hi
              rw [Nat.add_assoc, cells (bs.length / 2 + i) (by omega)]
              simp [List.getElem_drop])
            rwa [Hl2.out] at this
          clear cells
          have s0 : (0 : Int) ≤ (bs.length : Int) / 2 := by omega
          have s1 : (bs.length : Int) / 2 ≤ (bs.length : Int) := by omega
          have s2 : (bs.length : Int) ≤ (c0 : Int) := by omega
          have s3 : (bs.length : Int) / 2 ≤ (c0 : Int) := by omega
          have s4 : ((bs.length : Int) / 2).toNat = bs.length / 2 := by omega
          have T1 := fun wx hx => first_any v3 (List.replicate k true ++ bs) N wx hx hlm
          rw [E2.out] at T1
          have T2 := fun wx hx => long_any v3 (List.replicate k true ++ bs) wx hx hlm
          rw [hls.out] at T2
          have T3 := fun wx hx => freeN_any v3 (List.replicate k true ++ bs) wx hx hlm
          have T4 := fun wx hx => freeN_any (.slice (some ⟨b0, o0, none⟩) (bs.length / 2) c0) (bs.take (bs.length / 2)) wx hx (by rw [Hl1.out]; omega)
          have T5 := fun wx hx => freeN_any (.slice (some ⟨b0, o0 + bs.length / 2, none⟩) (bs.length - bs.length / 2) (c0 - bs.length / 2)) (bs.drop (bs.length / 2)) wx hx (by rw [Hl2.out]; omega)
          have T6 := fun wx hx => long_any (.slice (some ⟨b0, o0, none⟩) bs.length c0) bs wx hx hl
          have t1 := Lib.hid T1; have t2 := Lib.hid T2; have t3 := Lib.hid T3; have t4 := Lib.hid T4; have t5 := Lib.hid T5; have t6 := Lib.hid T6
          clear T1 T2 T3 T4 T5 T6
          go_wp2_with fail
          have x1 := X1.out; have x2 := X2.out
          generalize hH : bs.length / 2 = H at *
          clear hH
          go_region_held3 (Held w4) (first | exact held_start | exact held_call (by assumption) (by assumption)) (first
            | (go_at_call 11; refine (t1.out _ (sl_below hM4 (And.right (by assumption : Held w4 _)))).mono ?_; rintro e w' ⟨rfl, hb⟩)
            | (go_at_call_of 13 v3; refine (t2.out _ (sl_below hM4 (And.right (by assumption : Held w4 _)))).mono ?_; rintro e w' ⟨rfl, hb⟩)
            | (go_at_call_of 13 (Value.slice (some ⟨b0, o0, none⟩) bs.length c0); refine (t6.out _ (sl_below hv4 (And.right (by assumption : Held w4 _)))).mono ?_; rintro e w' ⟨rfl, hb⟩)
            | (go_at_call_of 15 v3; refine (t3.out _ (sl_below hM4 (And.right (by assumption : Held w4 _)))).mono ?_; rintro e w' ⟨rfl, hb⟩)
            | (go_at_call_of 15 (Value.slice (some ⟨b0, o0, none⟩) H c0); refine (t4.out _ (sl_below hT4 (And.right (by assumption : Held w4 _)))).mono ?_; rintro e w' ⟨rfl, hb⟩)
            | (go_at_call_of 15 (Value.slice (some ⟨b0, o0 + H, none⟩) (bs.length - H) (c0 - H)); refine (t5.out _ (sl_below hD (And.right (by assumption : Held w4 _)))).mono ?_; rintro e w' ⟨rfl, hb⟩))
          have hh : Held w4 w' := by assumption
          go_wp2_with fail
          go_ret
          exact ⟨rfl, hb4'.trans (hh.2.mono hb4'.size)⟩
end Go.Proofs.Ytkphhhnejgmgmaa
