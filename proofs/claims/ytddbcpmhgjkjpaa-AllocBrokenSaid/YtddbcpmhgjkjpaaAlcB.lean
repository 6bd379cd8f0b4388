/- What a function makes of each table (a bool, a number), and May, sum, free, longest. Conditions: numbers fit. -/
import Derived.Test.YtddbcpmhgjkjpaaAlcA
import Derived.Test.YtddbcpmhgjkjpaaSloF
import Derived.Test.YtddbcpmhgjkjpaaRunsC
namespace Go.Proofs.Ytddbcpmhgjkjpaa
open Go.RowKit

/-- A call of a Go function enters it. -/
theorem run_func_enter {P : Program} {f : FuncId} {fn : Func} {c : Code} (hf : P.funcs[f]? = some fn) (hname : (fn.name == "runtime.NumGoroutine") = false) (hb : fn.body = some c) (args : Array Value) (w : World) :
    (callFunc f args).run P w = .ok (.enter f args) w := by
  have h1 : fn.name ≠ "runtime.NumGoroutine" := by simpa using hname
  simp [callFunc, hf, h1, hb]

set_option maxRecDepth 100000 in
set_option maxHeartbeats 1000000 in
theorem eachB_any (F : FuncId) (hrun : ∀ args w, (callFunc F args).run Try.prog w = .ok (.enter F args) w) (g : List Us → Bool) (hF : ∀ v l w, UseV w v l → l.length ≤ 100 → Calls Try.prog F #[v] w fun e w' => e = .returned (.bool (g l)) ∧ Below w.heap.size w w')
    (v : Value) (ls : List (List Us)) (w : World) (hv : TabV w v ls) (hf : FewT ls) :
    Calls Try.prog 69 #[v, .func (.func F) #[] #[]] w fun e w' => ∃ a cap, e = .returned (.slice a ls.length cap) ∧ SlOf w' (.slice a ls.length cap) 1 (fun x => [.bool x]) (ls.map g) ∧ Below w.heap.size w w' := by
  obtain ⟨i0, hi, hz0, hz1, hz2⟩ := info_parts info_bool
  have HV := Lib.hid hv
  obtain ⟨hf1, hf2⟩ := hf
  obtain ⟨aX, cX, rfl, hnX, _⟩ := tab_shape hv
  clear hv hnX
  go_enter Try.func69, Try.ntmps69
  go_wp2_with (first
    | (at_make; refine wpList_make_own _ rfl _ _ 30 rfl w.heap.size 4 i0 (.bool false) 1 Try.underlying30 hi hz0 hz1 .i64 .i64 _ ls.length rfl rfl rfl (by rw [hz2]; omega) (by simp [maxLen]; omega) (Nat.le_refl _) ?_
       intro w2 hown2 hg2
       have hb2 := (Below.refl w.heap.size w).grown hg2 (Nat.le_refl _) (fun k hk => by cases hk)
       have Hown2 := Lib.hid hown2
       have Hb2 := Lib.hid hb2
       clear hown2 hg2 hb2)
    | fail)
  go_loopw [5, 13] (fun vo i wr => ∃ k : Nat, k ≤ ls.length ∧ i = .int .i64 k ∧ wr.ownsRow w.heap.size 4 1 vo k (((ls.take k).map g).map Value.bool) ∧ Below w.heap.size w wr) (fun _ i _ => ls.length - (intOf i).toNat)
  case atStart => exact ⟨0, Nat.zero_le _, rfl, Hown2.out, Hb2.out⟩
  case round =>
    clear Hown2 Hb2
    obtain ⟨k, hk, rfl, hown, hbw⟩ := hrel
    obtain ⟨a0, c0, rfl, _⟩ := owns_shape hown
    have Hown := Lib.hid hown
    have Hb := Lib.hid hbw
    clear hown hbw
    by_cases hlt : k < ls.length
    · obtain ⟨b, off, au, cu, hveq, hblt, hcell, hu⟩ := tab_at (tab_below HV.out Hb.out) hlt
      subst hveq
      have hmx := hf1 _ (List.getElem_mem hlt)
      have hc := hF _ _ wr hu hmx
      have g0 : (k : Int) < (ls.length : Int) := by omega
      have g1 : (0 : Int) ≤ (k : Int) := by omega
      have HN : Hid (((ls.take (k + 1)).map g).map Value.bool = ((ls.take k).map g).map Value.bool ++ [.bool (g ls[k])]) := by unfold Hid; rw [List.take_succ_eq_append_getElem hlt, List.map_append, List.map_append]; rfl
      clear hu
      generalize hx : ls[k] = x at *
      clear hx
      go_wp2_with fail
      refine hc.mono ?_
      rintro e w1 ⟨rfl, hb1⟩
      have HB1 := Lib.hid (below_step9 Hb.out hb1)
      have HO := Lib.hid (owns_below Hown.out hb1)
      have hsz := HB1.out.size
      clear hb1 hc Hown
      generalize g x = y at *
      go_wp2_with (first
        | (at_builtin; refine wpList_append_own _ rfl _ _ 30 rfl w.heap.size 4 i0 (.bool false) 1 1 Try.underlying30 hi hz0 hz1 hz2 rfl (by decide) (.slice a0 k c0) _ _ rfl (HO.out.alloc _) ⟨w1.heap.size, 0, none⟩ 1 1 [.bool y] rfl rfl (cell_one9 _ _ _) (by simp [Value.oneCell']) (by simp [maxLen]; omega) (by omega) (by simp; omega) ?_
           intro v3 w3 hown3 hg3 _
           have hb3 := (HB1.out.alloc hsz _).grown hg3 (by simp; omega) (fun b hbk => owns_block HO.out b hbk)
           have HO3 := Lib.hid hown3
           have HB3 := Lib.hid hb3
           clear hown3 hg3 hb3)
        | fail)
      exact ⟨⟨k + 1, by omega, by go_num, by rw [HN.out]; exact HO3.out, HB3.out⟩, by simp [intOf]; omega⟩
    · obtain rfl : k = ls.length := by omega
      have hown := Hown.out
      rw [List.take_length] at hown
      have hs := (sl_of_owns hown).1
      have HS := Lib.hid hs
      clear hown hs
      go_wp2_with fail
      go_ret
      exact ⟨_, _, rfl, HS.out, Hb.out⟩

set_option maxHeartbeats 1000000 in
/-- Is there a false one? -/
theorem indexF_any (v : Value) (bs : List Bool) (w : World) (hv : BitsR w v bs) (hl : bs.length ≤ 140737488355328) :
    Calls Try.prog 68 #[v, .bool false] w fun e w' => e = .returned (.bool (!bs.all id)) ∧ w = w' := by
  have idx : Calls Try.prog 89 #[v, .bool false] w fun e w' => (∃ r : Int, e = .returned (.int .i64 r) ∧ decide (0 ≤ r) = !bs.all id) ∧ w = w' := by
    rcases sl_one hv with ⟨rfl, a0, c0, rfl, _⟩ | ⟨hp0, b0, o0, c0, rfl, hc0, hb0, cell0⟩
    · go_enter Try.func89, Try.ntmps89
      go_wp2
      refine wp_loop_rounds 1 ?_
      rw [rounds_succ]
      go_wp2
      go_ret
      exact ⟨⟨-1, rfl, rfl⟩, rfl⟩
    · clear hv
      go_enter Try.func89, Try.ntmps89
      go_wp2
      go_loop [8] (fun i => ∃ k : Nat, k ≤ bs.length ∧ i = .int .i64 k ∧ (bs.take k).all id = true) (fun i => bs.length - (intOf i).toNat)
      case atStart => exact ⟨0, Nat.zero_le _, rfl, rfl⟩
      case round =>
        obtain ⟨k, hk, rfl, hpre⟩ := hrel
        have Hpre := Lib.hid hpre
        clear hpre
        by_cases hlt : k < bs.length
        · have e0 := cell0 k hlt
          have HA := Lib.hid (List.take_succ_eq_append_getElem hlt)
          have hany : bs[k] = false → bs.all id = false := fun h => List.all_eq_false.2 ⟨bs[k], List.getElem_mem hlt, by simp [h]⟩
          have Hany := Lib.hid hany
          have g1 : (k : Int) < (bs.length : Int) := by omega
          clear cell0 hany
          generalize bs[k] = x at *
          cases x
          · go_wp2
            go_ret
            exact ⟨⟨k, rfl, by rw [Hany.out (by trivial)]; simp⟩, rfl⟩
          · go_wp2
            exact ⟨⟨k + 1, by omega, by go_num, by rw [HA.out, List.all_append, Hpre.out]; rfl⟩, by simp [intOf]; omega⟩
        · obtain rfl : k = bs.length := by omega
          rw [List.take_length] at Hpre
          go_wp2
          go_ret
          exact ⟨⟨-1, rfl, by rw [Hpre.out]; rfl⟩, rfl⟩
  go_enter Try.func68, Try.ntmps68
  go_wp2_with fail
  refine idx.mono ?_
  rintro e w' ⟨⟨r, rfl, hr⟩, rfl⟩
  have Hr := Lib.hid hr
  clear hr
  go_wp2_with fail
  go_ret
  exact ⟨by rw [← Hr.out]; rfl, rfl⟩

set_option maxRecDepth 100000 in
set_option maxHeartbeats 1000000 in
theorem mayTP_any (v : Value) (ls : List (List Us)) (w : World) (hv : TabV w v ls) (hf : FewT ls) :
    Calls Try.prog 41 #[v] w fun e w' => e = .returned (.bool (mayT ls)) ∧ Below w.heap.size w w' := by
  have hc := eachB_any 21 (run_func_enter Try.func21 (by kernel_rfl) rfl) mayU (fun v l w hv hl => may_any v l w hv (by omega)) v ls w hv hf
  obtain ⟨hf1, hf2⟩ := hf
  obtain ⟨aX, cX, rfl, hnX, _⟩ := tab_shape hv
  clear hv hnX
  by_cases h1 : 1 ≤ ls.length
  · have b1 : decide ((ls.length : Int) < 1) = false := by simp; omega
    have b2 : decide ((1000 : Int) < (ls.length : Int)) = false := by simp; omega
    have HE : Hid (mayT ls = (ls.map mayU).all id) := by
      unfold Hid mayT
      have z1 : decide (ls.length ≤ 1000) = true := by simp; omega
      have z2 : decide (1 ≤ ls.length) = true := by simpa using h1
      rw [z1, z2, Bool.and_true, Bool.and_true, List.all_map]; rfl
    clear h1
    go_enter Try.func41, Try.ntmps41
    go_wp2_with fail
    refine hc.mono ?_
    rintro e w1 ⟨a1, c1, rfl, hs, hb1⟩
    have hd := indexF_any _ _ w1 hs (by rw [List.length_map]; omega)
    have HB1 := Lib.hid hb1
    clear hs hb1 hc
    go_wp2_with fail
    refine hd.mono ?_
    rintro e w2 ⟨rfl, rfl⟩
    clear hd
    cases hq : (ls.map mayU).all id with
    | false =>
      have HQ : Hid (mayT ls = false) := by unfold Hid; rw [HE.out, hq]
      clear hq HE
      go_wp2_with fail
      go_ret
      exact ⟨by rw [HQ.out]; rfl, HB1.out⟩
    | true =>
      have HQ : Hid (mayT ls = true) := by unfold Hid; rw [HE.out, hq]
      clear hq HE
      go_wp2_with fail
      go_ret
      exact ⟨by rw [HQ.out]; rfl, HB1.out⟩
  · have b1 : decide ((ls.length : Int) < 1) = true := by simp; omega
    have HE : Hid (mayT ls = false) := by unfold Hid mayT; simp; omega
    clear h1 hc
    go_enter Try.func41, Try.ntmps41
    go_wp2_with fail
    go_ret
    exact ⟨by rw [HE.out]; rfl, Below.refl _ _⟩
end Go.Proofs.Ytddbcpmhgjkjpaa
