/- The bounds of the parts: the iterator. Conditions: numbers fit. -/
import Derived.Test.YtdlgpcjdaaeliaaTreS
import Derived.Test.YtdlgpcjdaaeliaaTreV
import Derived.BigRegionIn
import Derived.Test.YtdlgpcjdaaeliaaRegI
namespace Go.Proofs.Ytdlgpcjdaaeliaa
open Go.RowKit Go.Shelf
attribute [local go_sem] Oper.semAt_some

/-- The bounds of a part of k things. -/
abbrev Bd (k : Nat) := { x : Nat × Nat // x.1 + 1 ≤ x.2 ∧ x.2 ≤ k ∧ x.2 ≤ x.1 + 4 }
theorem bd_ok {k i : Nat} (hi : i < manyP k) : fromP k i + 1 ≤ fromP k (i + 1) ∧ fromP k (i + 1) ≤ k ∧ fromP k (i + 1) ≤ fromP k i + 4 := by
  have hn : 1 ≤ k := by unfold manyP at hi; omega
  have h := fromP_step (n := k) (i := i) hn
  have h2 := fromP_le (n := k) (i := i + 1) hi
  have h1 := h.1
  refine ⟨?_, h2, h.2⟩
  split at h1 <;> omega
def bdAt (k i : Nat) (hi : i < manyP k) : Bd k := ⟨(fromP k i, fromP k (i + 1)), bd_ok hi⟩
def boundsL (k : Nat) : List (Bd k) := (List.range (manyP k)).pmap (fun i hi => bdAt k i hi) (fun _ hi => List.mem_range.1 hi)
theorem boundsL_length (n : Nat) : (boundsL n).length = manyP n := by simp [boundsL]
theorem boundsL_take {n k : Nat} (hk : k < manyP n) : (boundsL n).take (k + 1) = (boundsL n).take k ++ [bdAt n k hk] := by
  have h : k < (boundsL n).length := by rw [boundsL_length]; exact hk
  rw [List.take_succ_eq_append_getElem h]
  simp [boundsL]
abbrev encN {k : Nat} (x : Bd k) : Array Value := #[.int .i64 (x.1.1 : Int), .int .i64 (x.1.2 : Int)]

/-- What a round that goes on keeps: all below n₀, and the two numbers' boxes. -/
def KpN (n₀ B1 B2 : Nat) (W W' : World) : Prop := Below n₀ W W' ∧ (∀ v, W.cell? ⟨B1, 0, none⟩ = some v → W'.cell? ⟨B1, 0, none⟩ = some v) ∧ (∀ v, W.cell? ⟨B2, 0, none⟩ = some v → W'.cell? ⟨B2, 0, none⟩ = some v)
theorem kpN_t {n₀ B1 B2 : Nat} {A B C : World} (h : KpN n₀ B1 B2 A B) (k : KpN n₀ B1 B2 B C) : KpN n₀ B1 B2 A C := ⟨h.1.trans k.1, fun v hv => k.2.1 v (h.2.1 v hv), fun v hv => k.2.2 v (h.2.2 v hv)⟩
theorem kpN_refl (n₀ B1 B2 : Nat) (W : World) : KpN n₀ B1 B2 W W := ⟨Below.refl _ _, fun _ h => h, fun _ h => h⟩
theorem kpN_b {n₀ B1 B2 : Nat} {w : World} (hn : n₀ ≤ w.heap.size) (W : World) (l : Nat) (o o' : Obj) (hl : w.heap.size ≤ l) (h : W.heap[l]? = some o) (hc : o.isCells = false) (hw : o.isWalk = false) : KpN n₀ B1 B2 W (W.putObj l o') :=
  ⟨belowK_b hn W l o o' hl h hc hw, fun _ hv => cell_kept hv (grownBy_putObj' W l o') (fun r e => by cases e; exact ⟨_, h, hc⟩), fun _ hv => cell_kept hv (grownBy_putObj' W l o') (fun r e => by cases e; exact ⟨_, h, hc⟩)⟩

set_option maxRecDepth 100000 in
set_option maxHeartbeats 8000000 in
theorem parts_stops (n : Nat) (hn : 1 ≤ n) (k B1 B2 n₀ : Nat) (w : World) (hk : k ≤ 1000000) (hB1 : B1 < w.heap.size) (hB2 : B2 < w.heap.size) (c1 : w.cell? ⟨B1, 0, none⟩ = some (.int .i64 (manyP k : Nat))) (c2 : w.cell? ⟨B2, 0, none⟩ = some (.int .i64 (k : Nat))) :
    SeqStopsK Fence.wide n Try.prog 38 #[.pointer (some ⟨B1, 0, none⟩), .pointer (some ⟨B2, 0, none⟩)] encN (KpN n₀ B1 B2) (fun ys => ys = boundsL k) (fun pre => pre <+: boundsL k) (manyP k) w := fun l J Jx W hW hAb _ hY h0 => by
  have e1 := (hW.cell (p := ⟨B1, 0, none⟩) hB1).trans c1
  have e2 := (hW.cell (p := ⟨B2, 0, none⟩) hB2).trans c2
  have hmk : manyP k ≤ 250000 := by unfold manyP; omega
  have HY := Lib.hid hY
  have H0 := Lib.hid h0
  have HAb := Lib.hid hAb
  clear hW c1 c2 hY h0 hAb
  have He1 := Lib.hid e1
  have He2 := Lib.hid e2
  refine callsIn_of_wp Try.func38 rfl trivial ?_ rfl
  simp only [Try.ntmps38, List.size_toArray, List.length_cons, List.length_nil, Nat.reduceAdd, Nat.reduceSub, Array.replicate_succ, Array.replicate_zero, List.push_toArray, List.append_toArray, List.nil_append, List.cons_append]
  gi_wp2
  gi_loopw [6] (fun ui wr => ∃ i : Nat, ui = .int .i64 i ∧ i ≤ manyP k ∧ Hid (J ((boundsL k).take i) wr) ∧ Hid (KpN n₀ B1 B2 W wr)) (fun ui _ => manyP k - (intOf ui).toNat)
  case atStart => exact ⟨0, rfl, Nat.zero_le _, H0.out, kpN_refl _ _ _ _⟩
  case round =>
    obtain ⟨i, rfl, hi, hJ, hK⟩ := hrel
    have f1 := hK.out.2.1 _ He1.out
    have f2 := hK.out.2.2 _ He2.out
    clear e1 e2
    by_cases hlt : i < manyP k
    · have g0 : (i : Int) < (manyP k : Int) := by omega
      have x1 : IntKind.i64.wrap ((k : Int) * (i : Int)) = (k : Int) * (i : Int) := by
        have : k * i ≤ 1000000 * 250000 := Nat.mul_le_mul hk (by omega)
        rw [← Int.natCast_mul, IntWalk.i64_in _ (by omega)]
      have x2 : IntKind.i64.wrap ((i : Int) + 1) = (i : Int) + 1 := IntWalk.i64_in _ (by omega)
      have x3 : IntKind.i64.wrap ((k : Int) * ((i : Int) + 1)) = (k : Int) * ((i : Int) + 1) := by
        have : k * (i + 1) ≤ 1000000 * 250000 := Nat.mul_le_mul hk (by omega)
        rw [show (i : Int) + 1 = ((i + 1 : Nat) : Int) by omega, ← Int.natCast_mul, IntWalk.i64_in _ (by omega)]
      have x4 : ¬ ((manyP k : Nat) : Int) = 0 := by omega
      have x11 : ¬ manyP k = 0 := by omega
      have x5 : ((k : Int) * (i : Int)).tdiv ((manyP k : Nat) : Int) = ((fromP k i : Nat) : Int) := by
        rw [← Int.natCast_mul, Int.tdiv_eq_ediv_of_nonneg (by omega)]; unfold fromP; rw [Int.natCast_ediv]
      have x6 : ((k : Int) * ((i : Int) + 1)).tdiv ((manyP k : Nat) : Int) = ((fromP k (i + 1) : Nat) : Int) := by
        rw [show (i : Int) + 1 = ((i + 1 : Nat) : Int) by omega, ← Int.natCast_mul, Int.tdiv_eq_ediv_of_nonneg (by omega)]; unfold fromP; rw [Int.natCast_ediv]
      have hf1 : fromP k i ≤ k := fromP_le (by omega)
      have hf2 : fromP k (i + 1) ≤ k := fromP_le (by omega)
      have x7 : IntKind.i64.wrap ((fromP k i : Nat) : Int) = ((fromP k i : Nat) : Int) := IntWalk.i64_in _ (by omega)
      have x8 : IntKind.i64.wrap ((fromP k (i + 1) : Nat) : Int) = ((fromP k (i + 1) : Nat) : Int) := IntWalk.i64_in _ (by omega)
      have x9 : wrap64 (((fromP k i : Nat) : Int)) = ((fromP k i : Nat) : Int) := IntWalk.wrap64_in _ (by omega)
      have x10 : wrap64 (((fromP k (i + 1) : Nat) : Int)) = ((fromP k (i + 1) : Nat) : Int) := IntWalk.wrap64_in _ (by omega)
      have HT := Lib.hid (boundsL_take hlt)
      have hlen : ((boundsL k).take i).length < manyP k := by rw [List.length_take, boundsL_length]; omega
      have Hy := Lib.hid (fun (W1 : World) (hJ1 : J ((boundsL k).take i) W1) => HY.out _ (bdAt k i hlt) W1 hJ1 hlen)
      clear hlen
      obtain ⟨fn, tmps, assign, body, hy, hR⟩ := yield_any (n - 1) (Hy.out wr.drew (HAb.out _ _ _ none hJ.out (grown_drew9 _ _) (fun _ e => by cases e)))
      dsimp only [encN, bdAt] at hy
      gi_wp2
      refine regi_start (S := fun w' => w' = wr.drew) 12 (by kernel_rfl) 14 rfl (fun hcl => ?_)
      refine regi_take 0 6 (by kernel_rfl) rfl (by kernel_rfl) (by kernel_rfl) (by kernel_rfl) (by kernel_rfl) (fun _ _ _ h => h) (by rfl) (by intro w hSw; subst hSw; go_simp; with_reducible rfl) (fun _ => rfl) rfl hcl (fun hcl => ?_)
      try simp only [Act.put, List.setIfInBounds_toArray, List.set_cons_zero, List.set_cons_succ]
      refine regi_take 1 6 (by kernel_rfl) rfl (by kernel_rfl) (by kernel_rfl) (by kernel_rfl) (by kernel_rfl) (fun _ _ _ h => h) (by rfl) (by intro w hSw; subst hSw; go_simp; with_reducible rfl) (fun _ => rfl) rfl hcl (fun hcl => ?_)
      try simp only [Act.put, List.setIfInBounds_toArray, List.set_cons_zero, List.set_cons_succ]
      refine regi_take 2 6 (by kernel_rfl) rfl (by kernel_rfl) (by kernel_rfl) (by kernel_rfl) (by kernel_rfl) (fun _ _ _ h => h) (by rfl) (by intro w hSw; subst hSw; go_simp; with_reducible rfl) (fun _ => rfl) rfl hcl (fun hcl => ?_)
      try simp only [Act.put, List.setIfInBounds_toArray, List.set_cons_zero, List.set_cons_succ]
      refine regi_take 3 6 (by kernel_rfl) rfl (by kernel_rfl) (by kernel_rfl) (by kernel_rfl) (by kernel_rfl) (fun _ _ _ h => h) (by rfl) (by intro w hSw; subst hSw; go_simp; with_reducible rfl) (fun _ => rfl) rfl hcl (fun hcl => ?_)
      try simp only [Act.put, List.setIfInBounds_toArray, List.set_cons_zero, List.set_cons_succ]
      refine regi_take 4 6 (by kernel_rfl) rfl (by kernel_rfl) (by kernel_rfl) (by kernel_rfl) (by kernel_rfl) (fun _ _ _ h => h) (by rfl) (by intro w hSw; subst hSw; go_simp; with_reducible rfl) (fun _ => rfl) rfl hcl (fun hcl => ?_)
      try simp only [Act.put, List.setIfInBounds_toArray, List.set_cons_zero, List.set_cons_succ]
      refine regi_take 5 6 (by kernel_rfl) rfl (by kernel_rfl) (by kernel_rfl) (by kernel_rfl) (by kernel_rfl) (fun _ _ _ h => h) (by rfl) (by intro w hSw; subst hSw; go_simp; with_reducible rfl) (fun _ => rfl) rfl hcl (fun hcl => ?_)
      try simp only [Act.put, List.setIfInBounds_toArray, List.set_cons_zero, List.set_cons_succ]
      refine regi_take 6 6 (by kernel_rfl) rfl (by kernel_rfl) (by kernel_rfl) (by kernel_rfl) (by kernel_rfl) (fun _ _ _ h => h) (by rfl) (by intro w hSw; subst hSw; go_simp; with_reducible rfl) (fun _ => rfl) rfl hcl (fun hcl => ?_)
      try simp only [Act.put, List.setIfInBounds_toArray, List.set_cons_zero, List.set_cons_succ]
      refine regi_take 7 6 (by kernel_rfl) rfl (by kernel_rfl) (by kernel_rfl) (by kernel_rfl) (by kernel_rfl) (fun _ _ _ h => h) (by rfl) (by intro w hSw; subst hSw; go_simp; with_reducible rfl) (fun _ => rfl) rfl hcl (fun hcl => ?_)
      try simp only [Act.put, List.setIfInBounds_toArray, List.set_cons_zero, List.set_cons_succ]
      refine regi_take 8 6 (by kernel_rfl) rfl (by kernel_rfl) (by kernel_rfl) (by kernel_rfl) (by kernel_rfl) (fun _ _ _ h => h) (by rfl) (by intro w hSw; subst hSw; go_simp; with_reducible rfl) (fun _ => rfl) rfl hcl (fun hcl => ?_)
      try simp only [Act.put, List.setIfInBounds_toArray, List.set_cons_zero, List.set_cons_succ]
      refine regi_take 9 6 (by kernel_rfl) rfl (by kernel_rfl) (by kernel_rfl) (by kernel_rfl) (by kernel_rfl) (fun _ _ _ h => h) (by rfl) (by intro w hSw; subst hSw; go_simp; with_reducible rfl) (fun _ => rfl) rfl hcl (fun hcl => ?_)
      try simp only [Act.put, List.setIfInBounds_toArray, List.set_cons_zero, List.set_cons_succ]
      refine regi_take 10 6 (by kernel_rfl) rfl (by kernel_rfl) (by kernel_rfl) (by kernel_rfl) (by kernel_rfl) (fun _ _ _ h => h) (by rfl) (by intro w hSw; subst hSw; go_simp; with_reducible rfl) (fun _ => rfl) rfl hcl (fun hcl => ?_)
      try simp only [Act.put, List.setIfInBounds_toArray, List.set_cons_zero, List.set_cons_succ]
      refine regi_take 11 6 (by kernel_rfl) rfl (by kernel_rfl) (by kernel_rfl) (by kernel_rfl) (by kernel_rfl) (fun _ _ _ h => h) (by rfl) (by intro w hSw; subst hSw; go_simp; with_reducible rfl) (fun _ => rfl) rfl hcl (fun hcl => ?_)
      try simp only [Act.put, List.setIfInBounds_toArray, List.set_cons_zero, List.set_cons_succ]
      refine regi_call 12 (Nat.le_refl _) rfl (by kernel_rfl) (fun K hK0 => ?_)
      go_simp
      refine hR.mono ?_
      rintro e W3 (⟨rfl, hJ3, hk3⟩ | ⟨rfl, hJx3⟩)
      · have HJ3 : Hid (J ((boundsL k).take (i + 1)) W3) := by unfold Hid; rw [HT.out]; exact hJ3
        have HK3 : Hid (KpN n₀ B1 B2 W W3) := kpN_t hK.out (kpN_t ⟨(Below.refl _ _).drew, fun _ h => h, fun _ h => h⟩ hk3)
        clear hJ3 hk3 hR hy Hy
        refine hK0.out _ _ ?_
        clear hK0 K
        try simp only [Act.put, List.setIfInBounds_toArray, List.set_cons_zero, List.set_cons_succ]
        refine regi_call 13 (by decide) rfl (by kernel_rfl) (fun K hK0 => ?_)
        go_simp
        refine hK0.out _ _ ?_
        clear hK0 K
        try simp only [Act.put, List.setIfInBounds_toArray, List.set_cons_zero, List.set_cons_succ]
        refine regi_done (by kernel_rfl) ?_ _
        gi_wp2
        exact ⟨⟨i + 1, by go_num, by omega, HJ3.out, HK3.out⟩, by simp [intOf]; omega⟩
      · have HJx3 : Hid (Jx ((boundsL k).take (i + 1)) W3) := by unfold Hid; rw [HT.out]; exact hJx3
        have Hpf : Hid ((boundsL k).take (i + 1) <+: boundsL k) := List.take_prefix _ _
        clear hJx3 hR hy Hy
        refine hK0.out _ _ ?_
        clear hK0 K
        try simp only [Act.put, List.setIfInBounds_toArray, List.set_cons_zero, List.set_cons_succ]
        refine regi_call 13 (by decide) rfl (by kernel_rfl) (fun K hK0 => ?_)
        go_simp
        refine hK0.out _ _ ?_
        clear hK0 K
        try simp only [Act.put, List.setIfInBounds_toArray, List.set_cons_zero, List.set_cons_succ]
        refine regi_done (by kernel_rfl) ?_ _
        gi_wp2
        refine bodyPost_ret (results_none rfl _ _ _) rfl ?_
        exact ⟨⟨_, rfl⟩, .inr ⟨_, Hpf.out, HJx3.out⟩⟩
    · obtain rfl : i = manyP k := by omega
      have HJ : Hid (J (boundsL k) wr) := by
        have h := hJ.out
        rw [List.take_of_length_le (by rw [boundsL_length]; exact Nat.le_refl _)] at h
        exact h
      clear hJ
      gi_wp2
      go_end0
      exact ⟨⟨_, rfl⟩, .inl ⟨_, rfl, HJ.out⟩⟩

set_option maxRecDepth 100000 in
set_option maxHeartbeats 1000000 in
/-- The iterator's value: the two numbers are boxed. -/
theorem parts_in (n k : Nat) (w : World) (hk : k ≤ 1000000) :
    CallsIn Fence.wide n Try.prog 35 #[.int .i64 (k : Nat)] w fun e w' => e = .returned (.func (.func 38) #[] #[.pointer (some ⟨w.heap.size + 1, 0, none⟩), .pointer (some ⟨w.heap.size, 0, none⟩)]) ∧ w' = (w.alloc (.cells #[.int .i64 (k : Nat)] 3)).alloc (.cells #[.int .i64 (manyP k : Nat)] 3) := by
  have x1 : IntKind.i64.wrap ((k : Int) + 4) = (k : Int) + 4 := IntWalk.i64_in _ (by omega)
  have x2 : IntKind.i64.wrap ((k : Int) + 4 - 1) = (k : Int) + 3 := by rw [IntWalk.i64_in _ (by omega)]; omega
  have x3 : ((k : Int) + 4 - 1).tdiv 4 = ((manyP k : Nat) : Int) := by
    rw [Int.tdiv_eq_ediv_of_nonneg (by omega)]; unfold manyP; omega
  have x4 : ((k : Int) + 3).tdiv 4 = ((manyP k : Nat) : Int) := by
    rw [Int.tdiv_eq_ediv_of_nonneg (by omega)]; unfold manyP; omega
  have x5 : ((k : Int) + 3) / 4 = ((manyP k : Nat) : Int) := by unfold manyP; omega
  have x6 : ((k : Int) + 4 - 1) / 4 = ((manyP k : Nat) : Int) := by unfold manyP; omega
  refine callsIn_of_wp Try.func35 rfl trivial ?_ rfl
  simp only [Try.ntmps35, List.size_toArray, List.length_cons, List.length_nil, Nat.reduceAdd, Nat.reduceSub, Array.replicate_succ, Array.replicate_zero, List.push_toArray, List.append_toArray, List.nil_append, List.cons_append]
  gi_wp2
  go_ret
  exact ⟨rfl, rfl⟩
end Go.Proofs.Ytdlgpcjdaaeliaa
