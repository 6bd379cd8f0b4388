/- What a function makes of each table (a number); sum, free, longest; Free. Conditions: numbers fit. -/
import Derived.Test.YtddbcpmhgjkjpaaAlcC
import Derived.Test.YtddbcpmhgjkjpaaSloQ
namespace Go.Proofs.Ytddbcpmhgjkjpaa
open Go.RowKit

theorem info_int9 : (Try.prog.info? 3).map (fun i => (i.zero, i.size, i.bytes)) = some (some (.int .i64 0), 1, 8) := by kernel_rfl

set_option maxRecDepth 100000 in
set_option maxHeartbeats 1000000 in
theorem eachI_any (F : FuncId) (hrun : ∀ args w, (callFunc F args).run Try.prog w = .ok (.enter F args) w) (g : List Us → Nat) (hF : ∀ v l w, UseV w v l → l.length ≤ 100 → Calls Try.prog F #[v] w fun e w' => e = .returned (.int .i64 (g l : Nat)) ∧ Below w.heap.size w w')
    (v : Value) (ls : List (List Us)) (w : World) (hv : TabV w v ls) (hf : FewT ls) :
    Calls Try.prog 64 #[v, .func (.func F) #[] #[]] w fun e w' => ∃ a cap, e = .returned (.slice a ls.length cap) ∧ SlOf w' (.slice a ls.length cap) 1 (fun x : Nat => [.int .i64 (x : Int)]) (ls.map g) ∧ Below w.heap.size w w' := by
  obtain ⟨i0, hi, hz0, hz1, hz2⟩ := info_parts info_int9
  have HV := Lib.hid hv
  obtain ⟨hf1, hf2⟩ := hf
  obtain ⟨aX, cX, rfl, hnX, _⟩ := tab_shape hv
  clear hv hnX
  go_enter Try.func64, Try.ntmps64
  go_wp2_with (first
    | (at_make; refine wpList_make_own _ rfl _ _ 73 rfl w.heap.size 3 i0 (.int .i64 0) 1 Try.underlying73 hi hz0 hz1 .i64 .i64 _ ls.length rfl rfl rfl (by rw [hz2]; omega) (by simp [maxLen]; omega) (Nat.le_refl _) ?_
       intro w2 hown2 hg2
       have hb2 := (Below.refl w.heap.size w).grown hg2 (Nat.le_refl _) (fun k hk => by cases hk)
       have Hown2 := Lib.hid hown2
       have Hb2 := Lib.hid hb2
       clear hown2 hg2 hb2)
    | fail)
  go_loopw [5, 13] (fun vo i wr => ∃ k : Nat, k ≤ ls.length ∧ i = .int .i64 k ∧ wr.ownsRow w.heap.size 3 1 vo k (((ls.take k).map g).map fun x : Nat => Value.int .i64 (x : Int)) ∧ Below w.heap.size w wr) (fun _ i _ => ls.length - (intOf i).toNat)
  case atStart => exact ⟨0, Nat.zero_le _, rfl, Hown2.out, Hb2.out⟩
  case round =>
    clear Hown2 Hb2
    obtain ⟨k, hk, rfl, hown, hbw⟩ := hrel
    obtain ⟨a0, c0, rfl, _⟩ := owns_shape hown
    have Hown := Lib.hid hown
    have Hb := Lib.hid hbw
    clear hown hbw
    by_cases hlt : k < ls.length
    · obtain ⟨b, off, au, cu, hveq, hblt, hcell, hu⟩ := tab_at (tab_below HV.out Hb.out) hlt
      subst hveq
      have hmx := hf1 _ (List.getElem_mem hlt)
      have hc := hF _ _ wr hu hmx
      have g0 : (k : Int) < (ls.length : Int) := by omega
      have g1 : (0 : Int) ≤ (k : Int) := by omega
      have HN : Hid (((ls.take (k + 1)).map g).map (fun x : Nat => Value.int .i64 (x : Int)) = ((ls.take k).map g).map (fun x : Nat => Value.int .i64 (x : Int)) ++ [.int .i64 (g ls[k] : Nat)]) := by unfold Hid; rw [List.take_succ_eq_append_getElem hlt, List.map_append, List.map_append]; rfl
      clear hu
      generalize hx : ls[k] = x at *
      clear hx
      go_wp2_with fail
      refine hc.mono ?_
      rintro e w1 ⟨rfl, hb1⟩
      have HB1 := Lib.hid (below_step9 Hb.out hb1)
      have HO := Lib.hid (owns_below Hown.out hb1)
      have hsz := HB1.out.size
      clear hb1 hc Hown
      generalize g x = y at *
      go_wp2_with (first
        | (at_builtin; refine wpList_append_own _ rfl _ _ 73 rfl w.heap.size 3 i0 (.int .i64 0) 1 8 Try.underlying73 hi hz0 hz1 hz2 rfl (by decide) (.slice a0 k c0) _ _ rfl (HO.out.alloc _) ⟨w1.heap.size, 0, none⟩ 1 1 [.int .i64 (y : Int)] rfl rfl (cell_one9 _ _ _) (by simp [Value.oneCell']) (by simp [maxLen]; omega) (by omega) (by simp; omega) ?_
           intro v3 w3 hown3 hg3 _
           have hb3 := (HB1.out.alloc hsz _).grown hg3 (by simp; omega) (fun b hbk => owns_block HO.out b hbk)
           have HO3 := Lib.hid hown3
           have HB3 := Lib.hid hb3
           clear hown3 hg3 hb3)
        | fail)
      exact ⟨⟨k + 1, by omega, by go_num, by rw [HN.out]; exact HO3.out, HB3.out⟩, by simp [intOf]; omega⟩
    · obtain rfl : k = ls.length := by omega
      have hown := Hown.out
      rw [List.take_length] at hown
      have hs := (sl_of_owns hown).1
      have HS := Lib.hid hs
      clear hown hs
      go_wp2_with fail
      go_ret
      exact ⟨_, _, rfl, HS.out, Hb.out⟩


theorem sum_le_take {ns : List Nat} {k : Nat} (hk : k < ns.length) : (ns.take (k + 1)).sum = (ns.take k).sum + ns[k] := by
  rw [List.take_succ_eq_append_getElem hk, List.sum_append]; simp
theorem sum_take_le (ns : List Nat) : ∀ k, (ns.take k).sum ≤ ns.sum := by
  intro k
  have : (ns.take k ++ ns.drop k).sum = ns.sum := by rw [List.take_append_drop]
  rw [List.sum_append] at this; omega

set_option maxRecDepth 100000 in
set_option maxHeartbeats 1000000 in
theorem sumN_any (v : Value) (ns : List Nat) (w : World) (hv : SlOf w v 1 (fun x : Nat => [.int .i64 (x : Int)]) ns) (hl : ns.length ≤ 1000) (hs : ns.sum ≤ 1000000) :
    Calls Try.prog 63 #[v] w fun e w' => e = .returned (.int .i64 (ns.sum : Nat)) ∧ w = w' := by
  rcases sl_one hv with ⟨rfl, a0, c0, rfl, _⟩ | ⟨hp0, b0, o0, c0, rfl, hc0, hb0, cell0⟩
  · go_enter Try.func63, Try.ntmps63
    go_wp2
    refine wp_loop_rounds 1 ?_
    rw [rounds_succ]
    go_wp2
    go_ret
    exact ⟨rfl, rfl⟩
  · clear hv
    go_enter Try.func63, Try.ntmps63
    go_wp2
    go_loop [3, 8] (fun s i => ∃ k : Nat, k ≤ ns.length ∧ i = .int .i64 k ∧ s = .int .i64 ((ns.take k).sum : Nat)) (fun _ i => ns.length - (intOf i).toNat)
    case atStart => exact ⟨0, Nat.zero_le _, rfl, rfl⟩
    case round =>
      obtain ⟨k, hk, rfl, rfl⟩ := hrel
      by_cases hlt : k < ns.length
      · have e0 := cell0 k hlt
        have HA := Lib.hid (sum_le_take hlt)
        have hle := sum_take_le ns (k + 1)
        rw [sum_le_take hlt] at hle
        have g1 : (k : Int) < (ns.length : Int) := by omega
        have x1 : IntKind.i64.wrap (((ns.take k).sum : Nat) + (ns[k] : Int)) = ((ns.take k).sum : Nat) + (ns[k] : Int) := IntWalk.i64_in _ (by omega)
        clear cell0
        generalize ns[k] = x at *
        generalize (ns.take k).sum = y at *
        go_wp2
        exact ⟨⟨k + 1, by omega, by go_num, by rw [HA.out]; rfl⟩, by simp [intOf]; omega⟩
      · obtain rfl : k = ns.length := by omega
        rw [List.take_length]
        go_wp2
        go_ret
        exact ⟨rfl, rfl⟩

def freeN (l : List Us) : Nat := freeP (usedU l)
def longN (l : List Us) : Nat := longP (usedU l)
theorem used_len (l : List Us) : (usedU l).length ≤ 16 := by
  unfold usedU
  split
  · simp [usedL_length]
  · simp
theorem freeN_le (l : List Us) : freeN l ≤ 16 := Nat.le_trans (free_le _) (used_len l)
theorem longN_le (l : List Us) : longN l ≤ 16 := Nat.le_trans (long_le _) (used_len l)
theorem sum_bound (f : List Us → Nat) (hf : ∀ l, f l ≤ 16) (ls : List (List Us)) : (ls.map f).sum ≤ 16 * ls.length := by
  induction ls with
  | nil => simp
  | cons l ls ih =>
    have := hf l
    simp only [List.map_cons, List.sum_cons, List.length_cons]; omega

set_option maxRecDepth 100000 in
theorem freeA_any (v : Value) (l : List Us) (w : World) (hv : UseV w v l) (hl : l.length ≤ 100) :
    Calls Try.prog 65 #[v] w fun e w' => e = .returned (.int .i64 (freeN l : Nat)) ∧ Below w.heap.size w w' := by
  have hu := used_any v l w hv (by omega)
  have hle := used_len l
  clear hv
  go_enter Try.func65, Try.ntmps65
  go_wp2_with fail
  refine hu.mono ?_
  rintro e w1 ⟨a, c, rfl, hs, hb⟩
  have HB := Lib.hid hb
  have hd := freeN_any _ _ w1 hs (by omega)
  clear hs hb hu
  go_wp2_with fail
  refine hd.mono ?_
  rintro e w2 ⟨rfl, hb2⟩
  have HB2 := Lib.hid (below_step9 HB.out hb2)
  clear hb2 hd
  go_wp2_with fail
  go_ret
  exact ⟨rfl, HB2.out⟩
set_option maxRecDepth 100000 in
theorem longA_any (v : Value) (l : List Us) (w : World) (hv : UseV w v l) (hl : l.length ≤ 100) :
    Calls Try.prog 73 #[v] w fun e w' => e = .returned (.int .i64 (longN l : Nat)) ∧ Below w.heap.size w w' := by
  have hu := used_any v l w hv (by omega)
  have hle := used_len l
  clear hv
  go_enter Try.func73, Try.ntmps73
  go_wp2_with fail
  refine hu.mono ?_
  rintro e w1 ⟨a, c, rfl, hs, hb⟩
  have HB := Lib.hid hb
  have hd := long_any _ _ w1 hs (by omega)
  clear hs hb hu
  go_wp2_with fail
  refine hd.mono ?_
  rintro e w2 ⟨rfl, hb2⟩
  have HB2 := Lib.hid (below_step9 HB.out hb2)
  clear hb2 hd
  go_wp2_with fail
  go_ret
  exact ⟨rfl, HB2.out⟩

def wholeN (ls : List (List Us)) : Nat := ls.countP fun l => decide (l.length = 0)
theorem wholeN_take {ls : List (List Us)} {k : Nat} (hk : k < ls.length) : wholeN (ls.take (k + 1)) = wholeN (ls.take k) + (if ls[k].length = 0 then 1 else 0) := by
  unfold wholeN
  rw [List.take_succ_eq_append_getElem hk, List.countP_append]
  by_cases h : ls[k].length = 0
  · rw [if_pos h, List.countP_singleton, if_pos (by simpa using h)]
  · rw [if_neg h, List.countP_singleton, if_neg (by simpa using h)]
theorem wholeN_le (ls : List (List Us)) : wholeN ls ≤ ls.length := List.countP_le_length
def freeTn (ls : List (List Us)) : Nat := if mayT ls = true then (ls.map freeN).sum else 0
def wholeTn (ls : List (List Us)) : Nat := if mayT ls = true then wholeN ls else 0

set_option maxRecDepth 100000 in
set_option maxHeartbeats 1000000 in
theorem freeTP_any (v : Value) (ls : List (List Us)) (w : World) (hv : TabV w v ls) (hf : FewT ls) :
    Calls Try.prog 39 #[v] w fun e w' => e = .returned (.tuple #[.int .i64 (freeTn ls : Nat), .int .i64 (wholeTn ls : Nat)]) ∧ Below w.heap.size w w' := by
  have hc := mayTP_any v ls w hv hf
  have hd : ∀ w1, Below w.heap.size w w1 → Calls Try.prog 64 #[v, .func (.func 65) #[] #[]] w1 fun e w' => ∃ a cap, e = .returned (.slice a ls.length cap) ∧ SlOf w' (.slice a ls.length cap) 1 (fun x : Nat => [.int .i64 (x : Int)]) (ls.map freeN) ∧ Below w1.heap.size w1 w' := fun w1 hb => eachI_any 65 (run_func_enter Try.func65 (by kernel_rfl) rfl) freeN (fun v l w hv hl => freeA_any v l w hv hl) v ls w1 (tab_below hv hb) hf
  have hsum := sum_bound freeN freeN_le ls
  have hf2 := hf.2
  have HV := Lib.hid hv
  obtain ⟨aX, cX, rfl, hnX, _⟩ := tab_shape hv
  clear hv hnX
  cases hm : mayT ls with
  | false =>
    have HE : Hid (freeTn ls = 0 ∧ wholeTn ls = 0) := by unfold Hid freeTn wholeTn; rw [hm]; exact ⟨rfl, rfl⟩
    rw [hm] at hc
    clear hd hm
    go_enter Try.func39, Try.ntmps39
    go_wp2_with fail
    refine hc.mono ?_
    rintro e w1 ⟨rfl, hb1⟩
    go_wp2_with fail
    rw [HE.out.1, HE.out.2]
    exact bodyPost_ret (v := .tuple #[.int .i64 0, .int .i64 0]) (by simp [results, Try.results39, go_sem]) rfl ⟨rfl, hb1⟩
  | true =>
    have HE : Hid (freeTn ls = (ls.map freeN).sum ∧ wholeTn ls = wholeN ls) := by unfold Hid freeTn wholeTn; rw [hm]; exact ⟨rfl, rfl⟩
    rw [hm] at hc
    clear hm
    go_enter Try.func39, Try.ntmps39
    go_wp2_with fail
    refine hc.mono ?_
    rintro e w1 ⟨rfl, hb1⟩
    have HB1 := Lib.hid hb1
    have hd1 := hd w1 hb1
    clear hd hc hb1
    go_wp2_with fail
    go_loop [4, 12] (fun s i => ∃ k : Nat, k ≤ ls.length ∧ i = .int .i64 k ∧ s = .int .i64 (wholeN (ls.take k) : Nat)) (fun _ i => ls.length - (intOf i).toNat)
    case atStart => exact ⟨0, Nat.zero_le _, rfl, rfl⟩
    case round =>
      obtain ⟨k, hk, rfl, rfl⟩ := hrel
      by_cases hlt : k < ls.length
      · obtain ⟨b, off, au, cu, hveq, hblt, hcell, hu⟩ := tab_at (tab_below HV.out HB1.out) hlt
        subst hveq
        have HA := Lib.hid (wholeN_take hlt)
        have hle := wholeN_le (ls.take k)
        have hle2 := List.length_take_le k ls
        have g1 : (k : Int) < (ls.length : Int) := by omega
        have x1 : IntKind.i64.wrap ((wholeN (ls.take k) : Nat) + 1) = (wholeN (ls.take k) : Nat) + 1 := IntWalk.i64_in _ (by omega)
        clear hu
        generalize ls[k].length = x at *
        generalize wholeN (ls.take k) = y at *
        by_cases hx : x = 0
        · subst hx
          go_wp2_with fail
          exact ⟨⟨k + 1, by omega, by go_num, by rw [HA.out]; rfl⟩, by simp [intOf]; omega⟩
        · have b1 : ((x : Int) == 0) = false := by simpa using hx
          have HX : Hid ((if x = 0 then 1 else 0) = 0) := if_neg hx
          clear hx
          go_wp2_with fail
          exact ⟨⟨k + 1, by omega, by go_num, by rw [HA.out, HX.out]; rfl⟩, by simp [intOf]; omega⟩
      · obtain rfl : k = ls.length := by omega
        rw [List.take_length]
        go_wp2_with fail
        refine hd1.mono ?_
        rintro e w2 ⟨a2, c2, rfl, hs, hb2⟩
        have he := sumN_any _ _ w2 hs (by rw [List.length_map]; omega) (by omega)
        have HB2 := Lib.hid (below_step9 HB1.out hb2)
        clear hs hb2 hd1
        go_wp2_with fail
        refine he.mono ?_
        rintro e w3 ⟨rfl, rfl⟩
        clear he
        go_wp2_with fail
        rw [HE.out.1, HE.out.2]
        exact bodyPost_ret (v := .tuple #[.int .i64 ((ls.map freeN).sum : Nat), .int .i64 (wholeN ls : Nat)]) (by simp [results, Try.results39, go_sem]) rfl ⟨rfl, HB2.out⟩
end Go.Proofs.Ytddbcpmhgjkjpaa
