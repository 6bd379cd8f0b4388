/- The fixed calls of layer 13; the walks of RunsTells and RunsFirst. Conditions: numbers fit. -/
import Derived.Test.YtkphhhnejgmgmaaRunsB
import Derived.Test.YtkphhhnejgmgmaaRunsD
namespace Go.Proofs.Ytkphhhnejgmgmaa
open Go.RowKit

theorem below_step {w a b : World} (h : Below w.heap.size w a) (k : Below a.heap.size a b) : Below w.heap.size w b := h.trans (k.mono h.size)
theorem same_r (u v : Value) (a b : List Bool) (w : World) (ha : BitsR w u a) (hb : BitsR w v b) (hla : a.length ≤ 9223372036854775806) (hlb : b.length ≤ 9223372036854775806) :
    Calls Try.prog 17 #[u, v] w fun e w' => e = .returned (.bool (a == b)) ∧ Below w.heap.size w w' :=
  (same_any u v a b w ha hb hla hlb).mono fun e w' ⟨he, n, hw⟩ => ⟨he, by rw [hw]; exact below_drewN (Below.refl _ _) n⟩

set_option maxHeartbeats 1000000 in
theorem fixed13_any (w : World) :
    Calls Try.prog 8 #[] w fun e w' => e = .returned (.bool true) ∧ Below w.heap.size w w' := by
  go_enter Try.func8, Try.ntmps8
  go_wp2_with fail
  have hb0 : Below w.heap.size w (w.alloc (.cells #[Value.bool true, .bool false, .bool false, .bool true, .bool false] 4)) := (Below.refl _ _).alloc (Nat.le_refl _) _
  have hu : BitsR (w.alloc (.cells #[Value.bool true, .bool false, .bool false, .bool true, .bool false] 4)) (.slice (some ⟨w.heap.size, 0, none⟩) 5 5) [true, false, false, true, false] := sl_alloc w 4 [true, false, false, true, false] 5 (Nat.le_refl _)
  generalize w.alloc (.cells #[Value.bool true, .bool false, .bool false, .bool true, .bool false] 4) = w0 at *
  refine (mark_yes _ [true, false, false, true, false] 1 2 _ hu (by decide) (by decide)).mono ?_
  rintro e w1 ⟨a1, c1, l1, rfl, hl1, hs1, hb1⟩
  have q1 : l1 = [true, true, true, true, false] := hl1.out.trans (by decide)
  subst q1
  have hu1 := sl_below hu hb1
  have hB1 := below_step hb0 hb1
  clear hb0 hb1 hu
  go_wp2_with fail
  refine (mark_no _ [true, false, false, true, false] 2 2 _ hu1 (by decide) (by decide) (by decide)).mono ?_
  rintro e w2 ⟨rfl, rfl⟩
  have f1 : firstP [true, false, false, true, false] 2 = 1 := by decide
  have f2 : firstP [true, false, false, true, false] 3 = -1 := by decide
  have f3 : firstP [true, false, false, true, false] 0 = -1 := by decide
  have f4 : longP [true, false, false, true, false] = 2 := by decide
  have f5 : freeP [true, false, false, true, false] = 3 := by decide
  have f6 : ([true, true, true, true, false] == [true, true, true, true, false]) = true := by decide
  go_wp2_with fail
  refine (first_any _ [true, false, false, true, false] 2 _ hu1 (by decide)).mono ?_
  rintro e w2 ⟨rfl, hb2⟩
  go_wp2_with fail
  refine (long_any _ [true, false, false, true, false] _ (sl_below hu1 hb2) (by decide)).mono ?_
  rintro e w3 ⟨rfl, hb3⟩
  have hb3' := below_step hb2 hb3
  rw [f4]
  go_wp2_with fail
  refine (freeN_any _ [true, false, false, true, false] _ (sl_below hu1 hb3') (by decide)).mono ?_
  rintro e w4 ⟨rfl, hb4⟩
  have hb4' := below_step hb3' hb4
  rw [f5]
  go_wp2_with fail
  refine (first_any _ [true, false, false, true, false] 3 _ (sl_below hu1 hb4') (by decide)).mono ?_
  rintro e w5 ⟨rfl, hb5⟩
  have hb5' := below_step hb4' hb5
  go_wp2_with fail
  have hlit : BitsR (w5.alloc (.cells #[Value.bool true, .bool true, .bool true, .bool true, .bool false] 4)) (.slice (some ⟨w5.heap.size, 0, none⟩) 5 5) [true, true, true, true, false] := sl_alloc w5 4 [true, true, true, true, false] 5 (Nat.le_refl _)
  have hb6 : Below w1.heap.size w1 (w5.alloc (.cells #[Value.bool true, .bool true, .bool true, .bool true, .bool false] 4)) := hb5'.alloc hb5'.size _
  refine (same_r _ _ [true, true, true, true, false] [true, true, true, true, false] _ (sl_below hs1 hb6) hlit (by decide) (by decide)).mono ?_
  rintro e w7 ⟨rfl, hb7⟩
  have hb7' := below_step hb6 hb7
  go_wp2_with fail
  refine (first_any _ [true, false, false, true, false] 0 _ (sl_below hu1 hb7') (by decide)).mono ?_
  rintro e w8 ⟨rfl, hb8⟩
  go_wp2_with fail
  go_ret
  exact ⟨rfl, below_step (below_step hB1 hb7') hb8⟩

/-- Mark in one form: a pair of a slice and a bool. -/
def MarkPost (bs : List Bool) (p m : Int) (w : World) (e : Ending) (w' : World) : Prop :=
  ∃ (a : Option Addr) (cap : Nat) (l : List Bool), e = .returned (.tuple #[.slice a l.length cap, .bool (fitsI bs p m)]) ∧ Hid (l = if fitsI bs p m = true then markP bs p.toNat m.toNat else []) ∧ BitsR w' (.slice a l.length cap) l ∧ Below w.heap.size w w'
theorem mark_any (v : Value) (bs : List Bool) (p m : Int) (w : World) (hv : BitsR w v bs) (hl : bs.length ≤ 140737488355328) (bp : p ≤ 9223372036854775807) :
    Calls Try.prog 9 #[v, .int .i64 p, .int .i64 m] w (MarkPost bs p m w) := by
  cases hf : fitsI bs p m
  · exact (mark_no v bs p m w hv hl bp hf).mono fun e w' ⟨he, hw⟩ => ⟨none, 0, [], by rw [he, hf]; rfl, by rw [hf]; rfl, sl_nil fun _ => rfl, by rw [← hw]; exact Below.refl _ _⟩
  · exact (mark_yes v bs p m w hv hl hf).mono fun e w' ⟨a, c, l, he, h1, h2, h3⟩ => ⟨a, c, l, by rw [he, hf], by rw [hf]; exact h1, h2, h3⟩
theorem rmark_any (v : Value) (bs : List Bool) (p m : Int) (w : World) (hv : BitsR w v bs) (hl : bs.length ≤ 140737488355328) (bp : p ≤ 9223372036854775807) :
    Calls Try.prog 10 #[v, .int .i64 p, .int .i64 m] w (MarkPost bs p m w) := by
  cases hf : fitsI bs p m
  · exact (rmark_no v bs p m w hv hl bp hf).mono fun e w' ⟨he, hw⟩ => ⟨none, 0, [], by rw [he, hf]; rfl, by rw [hf]; rfl, sl_nil fun _ => rfl, by rw [← hw]; exact Below.refl _ _⟩
  · exact (rmark_yes v bs p m w hv hl hf).mono fun e w' ⟨a, c, l, he, h1, h2, h3⟩ => ⟨a, c, l, by rw [he, hf], by rw [hf]; exact h1, h2, h3⟩
theorem mark_len {bs l : List Bool} {p m : Int} (h : Hid (l = if fitsI bs p m = true then markP bs p.toNat m.toNat else [])) : l.length ≤ bs.length := by
  rw [h.out]
  split
  · rename_i hf
    obtain ⟨P, M, rfl, rfl, _, h3, _⟩ := fitsI_nats hf
    rw [Int.toNat_natCast, Int.toNat_natCast, markP_length h3]; exact Nat.le_refl _
  · simp

set_option maxHeartbeats 2000000 in
theorem tells_walk (v : Value) (bs : List Bool) (p m : Int) (w : World) (hv : BitsR w v bs) (hl : bs.length ≤ 140737488355328) (bp : p ≤ 9223372036854775807) :
    Calls Try.prog 3 #[v, .int .i64 p, .int .i64 m] w fun e w' => e = .returned (.bool true) ∧ Below w.heap.size w w' := by
  obtain ⟨a0, c0, rfl, _⟩ := id hv
  by_cases h1 : 100 < (bs.length : Int)
  · go_enter Try.func3, Try.ntmps3
    go_wp2_with fail
    refine (fixed13_any _).mono ?_
    rintro e w1 ⟨rfl, hb1⟩
    go_wp2_with fail
    go_ret
    exact ⟨rfl, hb1⟩
  · go_enter Try.func3, Try.ntmps3
    go_wp2_with fail
    refine (mark_any _ bs p m w hv hl bp).mono ?_
    rintro e w1 ⟨a1, c1, l1, rfl, hl1, hs1, hb1⟩
    go_wp2_with fail
    refine (rmark_any _ bs p m _ (sl_below hv hb1) hl bp).mono ?_
    rintro e w2 ⟨a2, c2, l2, rfl, hl2, hs2, hb2⟩
    have hb2' := below_step hb1 hb2
    have hs1' := sl_below hs1 hb2
    have g1 := mark_len hl1
    have g2 := mark_len hl2
    have hq : (l1 == l2) = true := by rw [beq_iff_eq, hl1.out, hl2.out]
    generalize fitsI bs p m = ok at *
    go_wp2_with fail
    refine (fixed13_any _).mono ?_
    rintro e w3 ⟨rfl, hb3⟩
    have hb3' := below_step hb2' hb3
    have hB := hb3
    go_wp2_with fail
    refine (first_any _ bs m _ (sl_below hv hb3') hl).mono ?_
    rintro e w4 ⟨rfl, hb4⟩
    have hb4' := below_step hb3' hb4
    have hB4 := below_step hB hb4
    go_wp2_with fail
    refine (rfirst_any _ bs m _ (sl_below hv hb4') hl).mono ?_
    rintro e w5 ⟨rfl, rfl⟩
    go_wp2_with fail
    refine (long_any _ bs _ (sl_below hv hb4') hl).mono ?_
    rintro e w5 ⟨rfl, hb5⟩
    have hb5' := below_step hb4' hb5
    have hB5 := below_step hB4 hb5
    go_wp2_with fail
    refine (rlong_any _ bs _ (sl_below hv hb5') hl).mono ?_
    rintro e w6 ⟨rfl, rfl⟩
    go_wp2_with fail
    refine (freeN_any _ bs _ (sl_below hv hb5') hl).mono ?_
    rintro e w6 ⟨rfl, hb6⟩
    have hb6' := below_step hb5' hb6
    have hB6 := below_step hB5 hb6
    go_wp2_with fail
    refine (rfree_any _ bs _ (sl_below hv hb6') hl).mono ?_
    rintro e w7 ⟨rfl, rfl⟩
    go_wp2_with fail
    refine (same_r _ _ l1 l2 _ (sl_below hs1' hB6) (sl_below hs2 hB6) (by omega) (by omega)).mono ?_
    rintro e w8 ⟨rfl, hb8⟩
    go_wp2_with fail
    go_ret
    exact ⟨by simp, below_step hb6' hb8⟩
end Go.Proofs.Ytkphhhnejgmgmaa
