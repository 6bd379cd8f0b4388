/- Same on codes that are alike; the fixed calls of layer 6. Conditions: numbers fit. -/
import Derived.Test.YtdbhmffiojchcaaCanJ
namespace Go.Proofs.Ytdbhmffiojchcaa
open Go.RowKit

abbrev CodesV (w : World) (v : Value) (l : List (Int × Int)) : Prop := SlOf w v 2 codeE l
theorem below_step {w a b : World} (h : Below w.heap.size w a) (h2 : Below a.heap.size a b) : Below w.heap.size w b := h.trans (h2.mono h.size)
theorem below_drewN' {B : Nat} {a w : World} (h : Below B a w) (n : Nat) : Below B a (w.drewN n) := h.trans ⟨rfl, rfl, rfl, Nat.le_refl _, fun _ _ => rfl⟩
theorem same_sl (u v : Value) (a b : List Bool) (w : World) (ha : Bits w u a) (hb : Bits w v b) (hla : a.length ≤ 9223372036854775806) (hlb : b.length ≤ 9223372036854775806) :
    Calls Try.prog 25 #[u, v] w fun e w' => e = .returned (.bool (a == b)) ∧ Below w.heap.size w w' :=
  (same_any u v a b w ha hb hla hlb).mono fun e w' ⟨he, n, hw⟩ => ⟨he, by rw [hw]; exact below_drewN' (Below.refl _ _) n⟩

set_option maxRecDepth 100000 in
set_option maxHeartbeats 8000000 in
theorem sameC_eq (u v : Value) (l : List (Int × Int)) (w : World) (hu : CodesV w u l) (hv : CodesV w v l) (hl : l.length ≤ 1000000) :
    Calls Try.prog 24 #[u, v] w fun e w' => e = .returned (.bool true) ∧ Below w.heap.size w w' := by
  rcases sl_codes hu with ⟨rfl, a1, c1, rfl, hn1⟩ | ⟨hp, b1, o1, c1, rfl, hl1, hb1, hc1⟩
  · rcases sl_codes hv with ⟨_, a2, c2, rfl, hn2⟩ | ⟨hp, _⟩
    · go_enter Try.func24, Try.ntmps24
      go_wp2_with fail
      refine wp_loop_rounds 1 ?_
      rw [rounds_succ]
      go_wp2_with fail
      go_ret
      exact ⟨rfl, Below.refl _ _⟩
    · simp at hp
  rcases sl_codes hv with ⟨h0, _⟩ | ⟨_, b2, o2, c2, rfl, hl2, hb2, hc2⟩
  · rw [h0] at hp; simp at hp
  have HC1 := Lib.hid hc1
  have HC2 := Lib.hid hc2
  clear hc1 hc2 hu hv
  go_enter Try.func24, Try.ntmps24
  go_wp2_with fail
  go_loopw [5] (fun ui wr => ∃ k : Nat, ui = .int .i64 k ∧ k ≤ l.length ∧ ∃ m, wr = w.drewN m) (fun ui _ => l.length - (intOf ui).toNat)
  case atStart => exact ⟨0, rfl, Nat.zero_le _, 0, rfl⟩
  case round =>
    obtain ⟨k, rfl, hk, m, hm⟩ := hrel
    by_cases hkl : k < l.length
    · obtain ⟨e0, e1⟩ := HC1.out k hkl
      obtain ⟨f0, f1⟩ := HC2.out k hkl
      have E0 : wr.cell? ⟨b1, o1 + k * 2, none⟩ = some (.int .i64 l[k].1) := by rw [hm]; exact e0
      have E1 : wr.cell? ⟨b1, o1 + k * 2 + 1, none⟩ = some (.int .i64 l[k].2) := by rw [hm]; exact e1
      have F0 : wr.cell? ⟨b2, o2 + k * 2, none⟩ = some (.int .i64 l[k].1) := by rw [hm]; exact f0
      have F1 : wr.cell? ⟨b2, o2 + k * 2 + 1, none⟩ = some (.int .i64 l[k].2) := by rw [hm]; exact f1
      have Hm := Lib.hid hm
      clear e0 e1 f0 f1 hm
      generalize l[k] = t at *
      obtain ⟨tb, td⟩ := t
      dsimp only at E0 E1 F0 F1
      go_wp2_with fail
      go_quiet (fail)
      go_wp2_with fail
      exact ⟨⟨k + 1, by go_num, by omega, _, by rw [Hm.out]; simp only [World.drewN_drewN]; rfl⟩, by simp [intOf]; omega⟩
    · have Hm := Lib.hid hm
      clear hm
      go_wp2_with fail
      go_ret
      exact ⟨rfl, by rw [Hm.out]; exact below_drewN' (Below.refl _ _) m⟩

theorem fix_codes : codesR [1, 2, 2] = [(1, 0), (2, 2), (2, 3)] := by kernel_rfl
theorem fix_ok : lensOk [1, 2, 2] = true := by kernel_rfl
theorem fix_bad : lensOk [1, 1, 1] = false := by kernel_rfl
theorem fix_wok : writeOk [1, 2, 2] 2 = true := by kernel_rfl
theorem fix_bits : bitsC [1, 2, 2] (2 : Int).toNat = [true, true] := by kernel_rfl
theorem fix_read : readV [1, 2, 2] [true, true] 0 = .tuple #[.int .i64 2, .int .i64 2, .bool true] := by kernel_rfl
theorem ints_new (w : World) (e : TypeId) (xs : List Int) : SlOf (w.alloc (.cells (xs.map (Value.int .i64)).toArray e)) (.slice (some ⟨w.heap.size, 0, none⟩) xs.length xs.length) 1 (fun x => [.int .i64 x]) xs := sl_alloc w e xs xs.length (Nat.le_refl _)
theorem codes_new3 (w : World) (e : TypeId) (a b c : Int × Int) : CodesV (w.alloc (.cells #[.int .i64 a.1, .int .i64 a.2, .int .i64 b.1, .int .i64 b.2, .int .i64 c.1, .int .i64 c.2] e)) (.slice (some ⟨w.heap.size, 0, none⟩) 3 3) [a, b, c] := by
  refine ⟨_, 3, rfl, Nat.le_refl _, nofun, Or.inr ⟨w.heap.size, 0, rfl, by simp, fun i hi j hj => ?_⟩⟩
  rw [World.cell?_alloc_new]
  simp only [List.length_cons, List.length_nil] at hi
  have h1 : i = 0 ∨ i = 1 ∨ i = 2 := by omega
  have h2 : j = 0 ∨ j = 1 := by omega
  rcases h1 with rfl | rfl | rfl <;> rcases h2 with rfl | rfl <;> rfl

set_option maxRecDepth 100000 in
set_option maxHeartbeats 8000000 in
theorem fixed06_any (w : World) : Calls Try.prog 17 #[] w fun e w' => e = .returned (.bool true) ∧ Below w.heap.size w w' := by
  have c1 := codes_any _ [1, 2, 2] _ (ints_new w 3 [1, 2, 2]) (by decide)
  rw [fix_codes, fix_ok] at c1
  go_enter Try.func17, Try.ntmps17
  go_wp2_with fail
  refine c1.mono ?_
  rintro e w1 ⟨v1, rfl, hv1, hb1⟩
  have hB1 := below_step ((Below.refl _ _).alloc (Nat.le_refl _) _) hb1
  clear c1 hb1
  have c2 := write_yes _ [1, 2, 2] 2 _ (ints_new w1 3 [1, 2, 2]) (by decide) fix_wok
  rw [fix_bits] at c2
  go_wp2_with fail
  refine c2.mono ?_
  rintro e w2 ⟨a2, c2', b2, rfl, hl2, hv2, hb2⟩
  have hB12 : Below w1.heap.size w1 w2 := below_step ((Below.refl _ _).alloc (Nat.le_refl _) _) hb2
  have hB2 := below_step hB1 hB12
  have hvc2 := sl_below hv1 hB12
  have hl2' := hl2.out
  subst hl2'
  clear c2 hb2 hB1 hv1 hB12 hl2
  have hB23 : Below w2.heap.size w2 (w2.alloc (.cells #[.int .i64 1, .int .i64 2, .int .i64 2] 3)) := (Below.refl _ _).alloc (Nat.le_refl _) _
  have c3 := read_any _ _ [1, 2, 2] [true, true] 0 _ (ints_new w2 3 [1, 2, 2]) (sl_below hv2 hB23) (by decide) (by decide)
  rw [fix_read] at c3
  go_wp2_with fail
  refine c3.mono ?_
  rintro e w3 ⟨rfl, hb3⟩
  have hB3' := below_step hB23 hb3
  have hB3 := below_step hB2 hB3'
  have hvc3 := sl_below hvc2 hB3'
  have hvb3 := sl_below hv2 hB3'
  clear c3 hb3 hB3' hB2 hvc2 hv2 hB23
  have c4 := codes_any _ [1, 1, 1] _ (ints_new w3 3 [1, 1, 1]) (by decide)
  rw [fix_bad] at c4
  go_wp2_with fail
  refine c4.mono ?_
  rintro e w4 ⟨v4, rfl, _, hb4⟩
  have hB4' : Below w3.heap.size w3 w4 := below_step ((Below.refl _ _).alloc (Nat.le_refl _) _) hb4
  have hB4 := below_step hB3 hB4'
  have hvc4 := sl_below hvc3 hB4'
  have hvb4 := sl_below hvb3 hB4'
  clear c4 hb4 hB4' hB3 hvc3 hvb3
  have c5 := sameC_eq _ _ _ _ (sl_below hvc4 ((Below.refl _ _).alloc (Nat.le_refl _) _)) (codes_new3 w4 53 (1, 0) (2, 2) (2, 3)) (by decide)
  go_wp2_with fail
  refine c5.mono ?_
  rintro e w5 ⟨rfl, hb5⟩
  have hB5' : Below w4.heap.size w4 w5 := below_step ((Below.refl _ _).alloc (Nat.le_refl _) _) hb5
  have hB5 := below_step hB4 hB5'
  have hvb5 := sl_below hvb4 hB5'
  clear c5 hb5 hB5' hB4 hvc4 hvb4
  have c6 := same_sl _ _ [true, true] [true, true] _ (sl_below hvb5 ((Below.refl _ _).alloc (Nat.le_refl _) _)) (sl_alloc (f := Value.bool) w5 4 [true, true] 2 (by decide)) (by decide) (by decide)
  go_wp2_with fail
  refine c6.mono ?_
  rintro e w6 ⟨rfl, hb6⟩
  go_wp2_with fail
  go_ret
  exact ⟨rfl, below_step (hB5.alloc hB5.size _) hb6⟩
end Go.Proofs.Ytdbhmffiojchcaa
