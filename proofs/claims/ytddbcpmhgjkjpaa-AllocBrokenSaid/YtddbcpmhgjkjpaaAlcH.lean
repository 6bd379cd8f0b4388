/- Broken and its text at two chunks without slots. Conditions: none. -/
import Derived.Test.YtddbcpmhgjkjpaaAlcD
import Derived.WalkLawsBesides
namespace Go.Proofs.Ytddbcpmhgjkjpaa
open Go.RowKit

def oneBits : Nat := 4607182418800017408
theorem fl1 : floatOfInt .f64 32 = 4629700416936869888 := by kernel_rfl
theorem fl2 : floatBits .quo .f64 4629700416936869888 4629700416936869888 = some 4607182418800017408 := by kernel_rfl
theorem fl3 : floatBits .sub .f64 4607182418800017408 4607182418800017408 = some 0 := by kernel_rfl

set_option maxRecDepth 100000 in
theorem part32_any (w : World) : Calls Try.prog 72 #[.int .i64 32, .int .i64 32] w fun e w' => e = .returned (.float .f64 4607182418800017408) ∧ w = w' := by
  have h1 := fl1
  have q1 : ∀ t w, (binOp .quo t (.float .f64 4629700416936869888) (.float .f64 4629700416936869888)).run Try.prog w = .ok (.float .f64 4607182418800017408) w := fun t w => run_float_arith w .quo t .f64 _ _ _ fl2
  go_enter Try.func72, Try.ntmps72
  go_wp2
  go_ret
  exact ⟨rfl, rfl⟩

theorem or1 : FloatKind.f64.format.order 0 0 = some .eq := by kernel_rfl
theorem fl4 : floatBits .quo .f64 4607182418800017408 0 = some 9218868437227405312 := by kernel_rfl
theorem or2 : FloatKind.f64.format.order 9218868437227405312 0 = some .gt := by kernel_rfl
theorem or3 : FloatKind.f64.format.order 0 4696837146684686336 = some .lt := by kernel_rfl
theorem or4 : FloatKind.f64.format.order 0 13920209183539462144 = some .gt := by kernel_rfl
theorem fl5 : floatBits .mul .f64 0 4652007308841189376 = some 0 := by kernel_rfl
theorem fl6 : floatBits .add .f64 0 4602678819172646912 = some 4602678819172646912 := by kernel_rfl
theorem fl7 : floatToIntVal .f64 4602678819172646912 .i64 = some 0 := by kernel_rfl
theorem fl8 : floatOfInt .f64 0 = 0 := by kernel_rfl
theorem or5 : FloatKind.f64.format.order 0 4602678819172646912 = some .lt := by kernel_rfl

set_option maxRecDepth 100000 in
theorem none0_any (w : World) : Calls Try.prog 83 #[.float .f64 0] w fun e w' => e = .returned (.bool false) ∧ w = w' := by
  have h1 := or1
  go_enter Try.func83, Try.ntmps83
  go_wp2
  go_ret
  exact ⟨rfl, rfl⟩
set_option maxRecDepth 100000 in
theorem minus0_any (w : World) : Calls Try.prog 84 #[.float .f64 0] w fun e w' => e = .returned (.bool false) ∧ w = w' := by
  have h1 := or1
  have h2 := or2
  have q1 : ∀ t w, (binOp .quo t (.float .f64 4607182418800017408) (.float .f64 0)).run Try.prog w = .ok (.float .f64 9218868437227405312) w := fun t w => run_float_arith w .quo t .f64 _ _ _ fl4
  go_enter Try.func84, Try.ntmps84
  go_wp2
  go_ret
  exact ⟨rfl, rfl⟩
set_option maxRecDepth 100000 in
theorem digits0_any (w : World) : Calls Try.prog 85 #[.int .u64 0] w fun e w' => e = .returned (.string ⟨#[48]⟩) ∧ w = w' := by
  go_enter Try.func85, Try.ntmps85
  go_wp2
  refine wp_loop_rounds 1 ?_
  rw [rounds_succ]
  go_wp2
  go_ret
  exact ⟨rfl, rfl⟩

set_option maxRecDepth 100000 in
set_option maxHeartbeats 1000000 in
theorem text0_any (w : World) : Calls Try.prog 61 #[.float .f64 0] w fun e w' => e = .returned (.string ⟨#[48, 46, 48, 48, 48]⟩) ∧ Below w.heap.size w w' := by
  have h1 := or1
  have h2 := or3
  have h3 := or4
  have h4 := or5
  have h5 := fl8
  have q1 : ∀ t w, (binOp .mul t (.float .f64 0) (.float .f64 4652007308841189376)).run Try.prog w = .ok (.float .f64 0) w := fun t w => run_float_arith w .mul t .f64 _ _ _ fl5
  have q2 : ∀ t w, (binOp .add t (.float .f64 0) (.float .f64 4602678819172646912)).run Try.prog w = .ok (.float .f64 4602678819172646912) w := fun t w => run_float_arith w .add t .f64 _ _ _ fl6
  have q3 : ∀ w, (convert 61 3 (.float .f64 4602678819172646912)).run Try.prog w = .ok (.int .i64 0) w := fun w => run_convert_float_int w _ _ .f64 .i64 _ _ (by kernel_rfl) (by kernel_rfl) fl7
  go_enter Try.func61, Try.ntmps61
  go_wp2_with (first
    | (go_at_call 83; refine (none0_any _).mono ?_; rintro e w' ⟨rfl, rfl⟩)
    | (go_at_call 84; refine (minus0_any _).mono ?_; rintro e w' ⟨rfl, rfl⟩)
    | (go_at_call 85; refine (digits0_any _).mono ?_; rintro e w' ⟨rfl, rfl⟩))
  refine wp_loop_rounds 4 ?_
  rw [rounds_succ]
  go_wp2_with fail
  rw [rounds_succ]
  go_wp2_with fail
  rw [rounds_succ]
  go_wp2_with fail
  rw [rounds_succ]
  go_wp2_with fail
  go_quiet (fail)
  go_wp2_with fail
  go_ret
  exact ⟨rfl, below_drewN9 (Below.refl _ _) _⟩

set_option maxRecDepth 100000 in
set_option maxHeartbeats 1000000 in
theorem broken2_any (v : Value) (w : World) (hv : TabV w v [[], []]) :
    Calls Try.prog 44 #[v] w fun e w' => e = .returned (.float .f64 0) ∧ Below w.heap.size w w' := by
  have hf : FewT [[], []] := ⟨by simp, by simp⟩
  have hm : mayT [[], []] = true := by decide
  have hc := mayTP_any v _ w hv hf
  rw [hm] at hc
  have hd : ∀ w1, Below w.heap.size w w1 → _ := fun w1 hb => eachI_any 73 (run_func_enter Try.func73 (by kernel_rfl) rfl) longN (fun v l w hv hl => longA_any v l w hv hl) v _ w1 (tab_below hv hb) hf
  have hd' : ∀ w1, Below w.heap.size w w1 → _ := fun w1 hb => eachI_any 65 (run_func_enter Try.func65 (by kernel_rfl) rfl) freeN (fun v l w hv hl => freeA_any v l w hv hl) v _ w1 (tab_below hv hb) hf
  have s1 : ([[], []] : List (List Us)).map longN = [16, 16] := by decide
  have s2 : ([[], []] : List (List Us)).map freeN = [16, 16] := by decide
  rw [s1] at hd
  rw [s2] at hd'
  have q1 : ∀ t w, (binOp .sub t (.float .f64 4607182418800017408) (.float .f64 4607182418800017408)).run Try.prog w = .ok (.float .f64 0) w := fun t w => run_float_arith w .sub t .f64 _ _ _ fl3
  obtain ⟨aX, cX, rfl, hnX, _⟩ := tab_shape hv
  clear hv hnX s1 s2 hm hf
  go_enter Try.func44, Try.ntmps44
  go_wp2_with fail
  refine hc.mono ?_
  rintro e w1 ⟨rfl, hb1⟩
  have HB1 := Lib.hid hb1
  have hd1 := hd w1 hb1
  clear hc hb1 hd
  go_wp2_with fail
  refine hd1.mono ?_
  rintro e w2 ⟨a2, c2, rfl, hs, hb2⟩
  have he := sumN_any _ _ w2 hs (by decide) (by decide)
  have HB2 := Lib.hid (below_step9 HB1.out hb2)
  clear hs hb2 hd1
  go_wp2_with fail
  refine he.mono ?_
  rintro e w3 ⟨rfl, rfl⟩
  have hd2 := hd' w2 HB2.out
  clear he hd'
  go_wp2_with fail
  refine hd2.mono ?_
  rintro e w4 ⟨a4, c4, rfl, hs, hb4⟩
  have he := sumN_any _ _ w4 hs (by decide) (by decide)
  have HB4 := Lib.hid (below_step9 HB2.out hb4)
  clear hs hb4 hd2
  go_wp2_with fail
  refine he.mono ?_
  rintro e w5 ⟨rfl, rfl⟩
  clear he
  have hp := part32_any w4
  go_wp2_with fail
  refine hp.mono ?_
  rintro e w6 ⟨rfl, rfl⟩
  clear hp
  go_wp2_with fail
  go_ret
  exact ⟨rfl, HB4.out⟩
end Go.Proofs.Ytddbcpmhgjkjpaa
