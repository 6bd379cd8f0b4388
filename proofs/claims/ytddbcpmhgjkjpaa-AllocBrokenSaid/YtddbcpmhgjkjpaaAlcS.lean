/- The order of floats; parts; how broken tables are. Conditions: numbers fit. -/
import Derived.Test.YtddbcpmhgjkjpaaAlcR
import Derived.Test.YtddbcpmhgjkjpaaAlcP
namespace Go.Proofs.Ytddbcpmhgjkjpaa
open Go.RowKit

set_option maxRecDepth 100000 in
theorem noneF_any (x : Nat) (w : World) : Calls Try.prog 83 #[.float .f64 x] w fun e w' => e = .returned (.bool (FloatKind.f64.format.order x x != some .eq)) ∧ w = w' := by
  go_enter Try.func83, Try.ntmps83
  go_wp2
  go_ret
  exact ⟨rfl, rfl⟩
set_option maxRecDepth 100000 in
theorem minusF_any (x : Nat) (hx : NumB x) : ∃ b : Bool, ∀ w : World, Calls Try.prog 84 #[.float .f64 x] w fun e w' => e = .returned (.bool b) ∧ w = w' := by
  obtain ⟨q, hq⟩ := one_quo hx
  have q1 : ∀ t w, (binOp .quo t (.float .f64 4607182418800017408) (.float .f64 x)).run Try.prog w = .ok (.float .f64 q) w := fun t w => run_float_arith w .quo t .f64 _ _ _ hq
  clear hq hx
  obtain ⟨o1, ho1⟩ : ∃ o, FloatKind.f64.format.order x 0 = o := ⟨_, rfl⟩
  obtain ⟨o2, ho2⟩ : ∃ o, FloatKind.f64.format.order q 0 = o := ⟨_, rfl⟩
  rcases o1 with _ | o1
  · refine ⟨false, fun w => ?_⟩
    go_enter Try.func84, Try.ntmps84
    go_wp2
    go_ret
    exact ⟨rfl, rfl⟩
  · cases o1
    · refine ⟨true, fun w => ?_⟩
      go_enter Try.func84, Try.ntmps84
      go_wp2
      go_ret
      exact ⟨rfl, rfl⟩
    · refine ⟨o2 == some .lt, fun w => ?_⟩
      go_enter Try.func84, Try.ntmps84
      go_wp2
      go_ret
      exact ⟨rfl, rfl⟩
    · refine ⟨false, fun w => ?_⟩
      go_enter Try.func84, Try.ntmps84
      go_wp2
      go_ret
      exact ⟨rfl, rfl⟩

set_option maxRecDepth 100000 in
theorem lessNaN_any (a b : Nat) (ha : NaNB a) (w : World) : Calls Try.prog 76 #[.float .f64 a, .float .f64 b] w fun e w' => e = .returned (.bool false) ∧ w = w' := by
  have hn := noneF_any a w
  rw [nan_order ha a] at hn
  have b1 : ((none : Option Ordering) != some .eq) = true := rfl
  rw [b1] at hn
  go_enter Try.func76, Try.ntmps76
  go_wp2_with fail
  refine hn.mono ?_
  rintro e w' ⟨rfl, rfl⟩
  go_wp2_with fail
  go_ret
  exact ⟨rfl, rfl⟩
set_option maxRecDepth 100000 in
theorem lessSelf_any (a : Nat) (ha : NumB a) (w : World) : Calls Try.prog 76 #[.float .f64 a, .float .f64 a] w fun e w' => e = .returned (.bool false) ∧ w = w' := by
  have hn := noneF_any a w
  have ho := order_self ha
  rw [ho] at hn
  have b1 : ((some Ordering.eq : Option Ordering) != some .eq) = false := rfl
  rw [b1] at hn
  obtain ⟨b, hm⟩ := minusF_any a ha
  cases b
  · go_enter Try.func76, Try.ntmps76
    go_wp2_with fail
    refine hn.mono ?_
    rintro e w' ⟨rfl, rfl⟩
    go_wp2_with fail
    refine hn.mono ?_
    rintro e w' ⟨rfl, rfl⟩
    go_wp2_with fail
    refine (hm _).mono ?_
    rintro e w' ⟨rfl, rfl⟩
    go_wp2_with fail
    go_ret
    exact ⟨rfl, rfl⟩
  · go_enter Try.func76, Try.ntmps76
    go_wp2_with fail
    refine hn.mono ?_
    rintro e w' ⟨rfl, rfl⟩
    go_wp2_with fail
    refine hn.mono ?_
    rintro e w' ⟨rfl, rfl⟩
    go_wp2_with fail
    refine (hm _).mono ?_
    rintro e w' ⟨rfl, rfl⟩
    go_wp2_with fail
    refine (hm _).mono ?_
    rintro e w' ⟨rfl, rfl⟩
    go_wp2_with fail
    go_ret
    exact ⟨rfl, rfl⟩
set_option maxRecDepth 100000 in
theorem sameF_any (a b : Nat) (h : (NaNB a ∧ NaNB b) ∨ (a = b ∧ NumB a)) (w : World) : Calls Try.prog 52 #[.float .f64 a, .float .f64 b] w fun e w' => e = .returned (.bool true) ∧ w = w' := by
  have h1 : Calls Try.prog 76 #[.float .f64 a, .float .f64 b] w fun e w' => e = .returned (.bool false) ∧ w = w' := by
    rcases h with ⟨ha, _⟩ | ⟨rfl, ha⟩
    · exact lessNaN_any _ _ ha w
    · exact lessSelf_any _ ha w
  have h2 : Calls Try.prog 76 #[.float .f64 b, .float .f64 a] w fun e w' => e = .returned (.bool false) ∧ w = w' := by
    rcases h with ⟨_, hb⟩ | ⟨rfl, ha⟩
    · exact lessNaN_any _ _ hb w
    · exact lessSelf_any _ ha w
  clear h
  go_enter Try.func52, Try.ntmps52
  go_wp2_with fail
  refine h1.mono ?_
  rintro e w' ⟨rfl, rfl⟩
  go_wp2_with fail
  refine h2.mono ?_
  rintro e w' ⟨rfl, rfl⟩
  go_wp2_with fail
  go_ret
  exact ⟨rfl, rfl⟩

def PartV (n m r : Nat) : Prop := (m = 0 ∧ NaNB r) ∨ (m ≠ 0 ∧ floatBits .quo .f64 (floatOfInt .f64 n) (floatOfInt .f64 m) = some r ∧ NumB r)

set_option maxRecDepth 100000 in
theorem partP_any (n m : Nat) (w : World) (hn : n ≤ 640) (hm : m ≤ 640) (hz : m = 0 → n = 0) : Calls Try.prog 72 #[.int .i64 n, .int .i64 m] w fun e w' => ∃ r, e = .returned (.float .f64 r) ∧ PartV n m r ∧ Below w.heap.size w w' := by
  by_cases h0 : m = 0
  · obtain rfl := hz h0
    subst h0
    obtain ⟨r, hr, hrun⟩ := run_float_none (P := Try.prog) w .quo (Or.inr rfl) 61 0 0 quo_zero
    have h1 := fl8
    have HR := Lib.hid hr
    clear hr hz
    go_enter Try.func72, Try.ntmps72
    go_wp2
    go_ret
    exact ⟨r, rfl, Or.inl ⟨rfl, HR.out⟩, (Below.refl _ _).drew⟩
  · obtain ⟨q, hq, hqn⟩ := quo_num hn hm h0
    have q1 : ∀ t w, (binOp .quo t (.float .f64 (floatOfInt .f64 n)) (.float .f64 (floatOfInt .f64 m))).run Try.prog w = .ok (.float .f64 q) w := fun t w => run_float_arith w .quo t .f64 _ _ _ hq
    have HQ := Lib.hid (show PartV n m q from Or.inr ⟨h0, hq, hqn⟩)
    clear hq hqn hz h0
    go_enter Try.func72, Try.ntmps72
    go_wp2
    go_ret
    exact ⟨q, rfl, HQ.out, Below.refl _ _⟩

set_option maxRecDepth 100000 in
theorem partR_any (n m : Nat) (w : World) (hn : n ≤ 640) (hm : m ≤ 640) (hz : m = 0 → n = 0) : Calls Try.prog 77 #[.int .i64 n, .int .i64 m] w fun e w' => ∃ r, e = .returned (.float .f64 r) ∧ PartV n m r ∧ Below w.heap.size w w' := by
  by_cases h0 : m = 0
  · obtain rfl := hz h0
    subst h0
    obtain ⟨r, hr, hrun⟩ := run_float_none (P := Try.prog) w .quo (Or.inr rfl) 61 0 0 quo_zero
    have h1 := fl8
    have HR := Lib.hid hr
    clear hr hz
    go_enter Try.func77, Try.ntmps77
    go_wp2
    go_ret
    exact ⟨r, rfl, Or.inl ⟨rfl, HR.out⟩, (Below.refl _ _).drew⟩
  · obtain ⟨q, hq, hqn⟩ := quo_num hn hm h0
    have q1 : ∀ t w, (binOp .quo t (.float .f64 (floatOfInt .f64 n)) (.float .f64 (floatOfInt .f64 m))).run Try.prog w = .ok (.float .f64 q) w := fun t w => run_float_arith w .quo t .f64 _ _ _ hq
    have HQ := Lib.hid (show PartV n m q from Or.inr ⟨h0, hq, hqn⟩)
    clear hq hqn hz h0
    go_enter Try.func77, Try.ntmps77
    go_wp2
    go_ret
    exact ⟨q, rfl, HQ.out, Below.refl _ _⟩

end Go.Proofs.Ytddbcpmhgjkjpaa
