/- fixed of layer 4. No condition. -/
import Derived.Test.YtdbhmffiojchcaaMatJ
namespace Go.Proofs.Ytdbhmffiojchcaa
open Go.RowKit

abbrev aaaaa : ByteArray := { data := #[97, 97, 97, 97, 97] }
abbrev abcabc : ByteArray := { data := #[97, 98, 99, 97, 98, 99] }
theorem fix_split : spl aaaaa.data.toList aaaaa.size 0 = [(97, 0, 0), (0, 1, 4)] := by kernel_rfl
theorem fix_five : exl 5 [(97, 0, 0), (0, 1, 4)] [] = some [97, 97, 97, 97, 97] := by kernel_rfl
theorem fix_four : exl 4 [(97, 0, 0), (0, 1, 4)] [] = none := by kernel_rfl
theorem fix_long : longP abcabc.data.toList 3 = (3, 3) := by kernel_rfl
theorem fix_may1 : mayT (0, 1, 4) = true := by kernel_rfl
theorem fix_may2 : mayT (0, 1, 2) = false := by kernel_rfl

theorem told_five : toldS (some [97, 97, 97, 97, 97]) = aaaaa ∧ toldB (some [97, 97, 97, 97, 97]) = true := ⟨by kernel_rfl, rfl⟩
theorem told_none : toldS none = ByteArray.empty ∧ toldB none = false := ⟨rfl, rfl⟩
theorem below_stepB {w a b : World} (h : Below w.heap.size w a) (h2 : Below a.heap.size a b) : Below w.heap.size w b := h.trans (h2.mono h.size)

/-- Two tokens in a block that has just been laid. -/
theorem toks_new2 (w : World) (e : TypeId) (a b : TokT) : ToksR (w.alloc (.cells #[.int .i64 a.1, .int .i64 a.2.1, .int .i64 a.2.2, .int .i64 b.1, .int .i64 b.2.1, .int .i64 b.2.2] e)) (.slice (some ⟨w.heap.size, 0, none⟩) 2 2) [a, b] := by
  refine ⟨_, 2, rfl, Nat.le_refl _, nofun, Or.inr ⟨w.heap.size, 0, rfl, by simp, fun i hi j hj => ?_⟩⟩
  rw [World.cell?_alloc_new]
  simp only [List.length_cons, List.length_nil] at hi
  have h1 : i = 0 ∨ i = 1 := by omega
  have h2 : j = 0 ∨ j = 1 ∨ j = 2 := by omega
  rcases h1 with rfl | rfl <;> rcases h2 with rfl | rfl | rfl <;> rfl

set_option maxRecDepth 100000 in
set_option maxHeartbeats 8000000 in
theorem fixed04_any (w : World) : Calls Try.prog 11 #[] w fun e w' => e = .returned (.bool true) ∧ Below w.heap.size w w' := by
  have c1 := split_any aaaaa w (by decide)
  rw [fix_split] at c1
  go_enter Try.func11, Try.ntmps11
  go_wp2_with fail
  refine c1.mono ?_
  rintro e w1 ⟨v, rfl, hv, ⟨a0, c0, rfl⟩, hb1⟩
  clear c1
  have c2 := expand_any _ _ 5 w1 hv (by decide)
  rw [fix_five, told_five.1, told_five.2] at c2
  go_wp2_with fail
  refine c2.mono ?_
  rintro e w2 ⟨rfl, hb2⟩
  clear c2
  have hv2 := sl_below hv hb2
  have c3 := expand_any _ _ 4 w2 hv2 (by decide)
  rw [fix_four, told_none.1, told_none.2] at c3
  go_wp2_with fail
  refine c3.mono ?_
  rintro e w3 ⟨rfl, hb3⟩
  clear c3
  have hv3 := sl_below hv2 hb3
  have c4 := longest_any abcabc 3 w3 (by decide)
  rw [if_neg (by decide), if_neg (by decide), show (3 : Int).toNat = 3 from rfl, fix_long] at c4
  go_wp2_with fail
  refine c4.mono ?_
  rintro e w4 ⟨rfl, hb4⟩
  clear c4
  have hv4 := sl_below hv3 hb4
  have hB4 : Below w.heap.size w w4 := below_stepB (below_stepB (below_stepB hb1 hb2) hb3) hb4
  clear hv hv2 hv3 hb1 hb2 hb3 hb4
  have c5 := same_eq _ _ _ _ (sl_below hv4 ((Below.refl _ _).alloc (Nat.le_refl _) _)) (toks_new2 w4 28 (97, 0, 0) (0, 1, 4)) (by decide) (by decide)
  have hse : (aaaaa.toList == aaaaa.toList) = true := by simp
  go_wp2_with fail
  refine c5.mono ?_
  rintro e w5 ⟨rfl, m, hm⟩
  clear c5
  have hB5 : Below w.heap.size w w5 := by rw [hm]; exact belowDrewN (hB4.alloc hB4.size _) m
  have hv5 : ToksR w5 (.slice a0 2 c0) [(97, 0, 0), (0, 1, 4)] := by rw [hm]; exact sl_below hv4 (belowDrewN ((Below.refl _ _).alloc (Nat.le_refl _) _) m)
  clear hm hv4 hB4
  obtain ⟨b, off, cap, hv', hlc, hbl, hcell⟩ := toks_cells hv5 (by decide)
  injection hv' with q1 q2 q3
  subst q1 q3
  obtain ⟨e0, e1, e2⟩ := hcell 1 (by decide)
  rw [Nat.one_mul] at e0 e1 e2
  have e1 : w5.cell? ⟨b, off + 4, none⟩ = some (.int .i64 1) := e1
  have e2 : w5.cell? ⟨b, off + 5, none⟩ = some (.int .i64 4) := e2
  have e0 : w5.cell? ⟨b, off + 3, none⟩ = some (.int .i64 0) := e0
  have c6 := may_any 0 1 4 w5
  rw [fix_may1] at c6
  go_wp2_with fail
  refine c6.mono ?_
  rintro e w6 ⟨rfl, hb6⟩
  have c7 := may_any 0 1 2 w6
  rw [fix_may2] at c7
  go_wp2_with fail
  refine c7.mono ?_
  rintro e w7 ⟨rfl, hb7⟩
  go_wp2_with fail
  go_ret
  exact ⟨rfl, below_stepB (below_stepB hB5 hb6) hb7⟩
end Go.Proofs.Ytdbhmffiojchcaa
