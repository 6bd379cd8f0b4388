/- Contracts: First, Longest, Free. Conditions: numbers fit. -/
import Derived.Test.YtddbcpmhgjkjpaaRunsA
namespace Go.Proofs.Ytddbcpmhgjkjpaa
open Go.RowKit Go.Shelf
attribute [local go_sem] Oper.semAt_some

theorem sl_blk {α : Type} {w : World} {a : Option Addr} {len cap k : Nat} {E : α → List Value} {xs : List α} (h : SlOf w (.slice a len cap) k E xs) : ∀ b off l c, Value.slice a len cap = .slice (some ⟨b, off, none⟩) l c → b < w.heap.size ∨ l = 0 := by
  intro b off l c hq
  obtain ⟨a', cap', hv, _, _, hc⟩ := h
  injection hv with h1 h2 h3
  injection hq with q1 q2 q3
  rcases hc with rfl | ⟨b', off', ha, hb, _⟩
  · right; rw [← q2, h2]; rfl
  · left
    rw [← h1, q1] at ha
    simp only [Option.some.injEq, Addr.mk.injEq] at ha
    omega

set_option maxRecDepth 100000 in
set_option maxHeartbeats 2000000 in
theorem first_in (F : Fence) (n : Nat) (h11 : F.fn 54) (h21 : F.fn 78) (h23 : F.fn 92) (hro : F.round = none) (hn : 3 ≤ n) (a : Option Addr) (cap : Nat) (bs : List Bool) (m : Int) (w : World) (hv : SlOf w (.slice a bs.length cap) 1 (fun x => [.bool x]) bs) (hreach : bs.length ≤ 140737488355328) :
    CallsIn F n Try.prog 54 #[.slice a bs.length cap, .int .i64 m] w fun e w' => e = .returned (.int .i64 (firstP bs m)) ∧ Below w.heap.size w w' := by
  have h1 : 1 ≤ n := by omega
  refine callsIn_of_wp_marks Try.func54 rfl h11 ?_ hro
  simp only [Try.ntmps54, List.size_toArray, List.length_cons, List.length_nil, Nat.reduceAdd, Nat.reduceSub, Array.replicate_succ, Array.replicate_zero, List.push_toArray, List.append_toArray, List.nil_append, List.cons_append]
  by_cases hm1 : m < 1
  · gi_wp2
    refine ⟨.int .i64 (-1), by simp [results, Try.f54, go_sem], by rw [firstP_small hm1], ((Below.refl _ w).alloc (Nat.le_refl _) _).alloc (by simp) _⟩
  · gi_wp2_with (gi_at_call 78; refine (free_in F (n - 1) h21 hro _ _ _ _).mono ?_; rintro e w' ⟨rfl, rfl⟩)
    have bM := Boxed.new w 3 (.int .i64 m)
    have bR := Boxed.new (w.alloc (.cells #[.int .i64 m] 3)) 3 (.int .i64 0)
    have bN := Boxed.new ((w.alloc (.cells #[.int .i64 m] 3)).alloc (.cells #[.int .i64 0] 3)) 30 (.slice a bs.length cap)
    rw [World.size_alloc] at bR
    rw [World.size_alloc, World.size_alloc] at bN
    have hB0 : Below w.heap.size w (((w.alloc (.cells #[.int .i64 m] 3)).alloc (.cells #[.int .i64 0] 3)).alloc (.cells #[.slice a bs.length cap] 30)) := (((Below.refl _ w).alloc (Nat.le_refl _) _).alloc (by simp) _).alloc (by simp; omega) _
    refine wpIn_rangeFunc_ownG hro h1 (gf := 92) (lb := #[.pointer (some ⟨w.heap.size + 1 + 1, 0, none⟩)]) rfl h23 (enters_of Try.func92 (by kernel_rfl) rfl)
      (iter_stops F (n - 1) h23 hro (by omega) (w.heap.size + 1 + 1) w.heap.size _ bs hreach _ (by simp) bN.cell (sl_below hv hB0) (sl_blk hv)) kpR_t (kpR_b (by simp; omega)) (Below.refl _ _) (fun _ => rfl)
      (fun pre W => ((∀ y ∈ pre, (y.2 : Int) < m) ∧ W.cell? ⟨w.heap.size, 0, none⟩ = some (.int .i64 m) ∧ W.cell? ⟨w.heap.size + 1, 0, none⟩ = some (.int .i64 0) ∧ W.frozen? ⟨w.heap.size + 1, 0, none⟩ = false) ∧ Below w.heap.size w W)
      (fun c pre W => (c = .ret ∧ ∃ ini last, pre = ini ++ [last] ∧ (∀ y ∈ ini, (y.2 : Int) < m) ∧ m ≤ (last.2 : Int) ∧ W.cell? ⟨w.heap.size + 1, 0, none⟩ = some (.int .i64 (last.1 : Int))) ∧ Below w.heap.size w W)
      (OwnFrom.and (Own.from (fun s A B row hs hg hr => ⟨hs.1, cell_kept hs.2.1 hg hr, cell_kept hs.2.2.1 hg hr, (frozen_kept hs.2.2.1 hg hr).trans hs.2.2.2⟩) _) (ownFrom_below (Nat.le_refl _) (by simp; omega)))
      (fun c => OwnFrom.and (Own.from (fun s A B row hs hg hr => by obtain ⟨hc, ini, last, e1, e2, e3, e4⟩ := hs; exact ⟨hc, ini, last, e1, e2, e3, cell_kept e4 hg hr⟩) _) (ownFrom_below (Nat.le_refl _) (by simp; omega)))
      ⟨⟨by simp, ((bM.alloc _).alloc _).cell, (bR.alloc _).cell, (bR.alloc _).frozen⟩, hB0⟩
      (fun x => { tmps := #[.slice a bs.length cap, .int .i64 m, undef, .pointer (some ⟨w.heap.size, 0, none⟩), .pointer (some ⟨w.heap.size + 1, 0, none⟩), .int .i64 (x.1 : Int), .int .i64 (x.2 : Int), .int .i64 m, .bool false, .slice a bs.length cap, .func (.func 92) #[] #[.pointer (some ⟨w.heap.size + 1 + 1, 0, none⟩)], .int .i64 (x.1 : Int), .int .i64 (x.2 : Int), undef, undef, undef, undef], defers := [] }) ?assign ?body ?done ?stop
    case assign =>
      intro l x W K hK
      gi_wp2
      exact hK
    case body =>
      rintro l pre x W ⟨⟨hp, hcm, hcr, hfr⟩, hB⟩ _
      gi_wp2
      · have hx : m ≤ (x.2 : Int) := by assumption
        exact ⟨(KeepsOthers.setCell _ _ _).from _, ⟨rfl, pre, x, rfl, hp, hx, World.cell?_setCell_same' _ _ _ (by rw [hcr]; rfl)⟩, hB.setCell (p := ⟨w.heap.size + 1, 0, none⟩) (by simp) _⟩
      · have hx : (x.2 : Int) < m := by assumption
        exact ⟨KeepsFrom.refl _ _, kpR_refl _ _ _, ⟨fun p hp' => (List.mem_append.1 hp').elim (hp p) (fun e => by simp at e; subst e; exact hx), hcm, hcr, hfr⟩, hB⟩
    case done =>
      rintro D ys W hD rfl ⟨⟨hne, hcm, hcr, hfr⟩, hB⟩ hK
      gi_wp2
      have hK' := (KeepsOthers.setCell W ⟨w.heap.size + 1, 0, none⟩ (.int .i64 (-1))).same D _ hK rfl
      refine ⟨by simp, .inl ⟨_, _, rfl, run_takeDeferred hK', ?_⟩⟩
      have hc5 := cell_kept (World.cell?_setCell_same' W ⟨w.heap.size + 1, 0, none⟩ (.int .i64 (-1)) (by rw [hcr]; rfl)) (grownBy_putObj' _ D (.deferred none)) (fun r e => by cases e; exact ⟨_, hK', rfl⟩)
      refine ⟨.int .i64 (-1), ?_, by rw [first_runs_none (by omega) hne], (hB.setCell (p := ⟨w.heap.size + 1, 0, none⟩) (by simp) _).trans (belowK_b (w := w) (Nat.le_refl _) _ D _ _ (by simp at hD; omega) hK' rfl rfl)⟩
      simp [results, Try.f54, go_sem, hc5]
    case stop =>
      rintro D c pre W hD ⟨rest, hrest⟩ ⟨⟨rfl, ini, last, e1, e2, e3, hcr⟩, hB⟩ hK
      gi_wp2
      refine ⟨by simp, .inl ⟨_, _, rfl, run_takeDeferred hK, ?_⟩⟩
      have hc5 := cell_kept hcr (grownBy_putObj' _ D (.deferred none)) (fun r e => by cases e; exact ⟨_, hK, rfl⟩)
      refine ⟨.int .i64 (last.1 : Int), ?_, by rw [first_runs_some (x := last) (ini := ini) (rest := rest) (by omega) (by rw [← hrest, e1]; simp) e2 e3], hB.trans (belowK_b (w := w) (Nat.le_refl _) W D _ _ (by simp at hD; omega) hK rfl rfl)⟩
      simp [results, Try.f54, go_sem, hc5]

theorem first_any (v : Value) (bs : List Bool) (m : Int) (w : World) (hv : SlOf w v 1 (fun x => [.bool x]) bs) (hreach : bs.length ≤ 140737488355328) :
    Calls Try.prog 54 #[v, .int .i64 m] w fun e w' => e = .returned (.int .i64 (firstP bs m)) ∧ Below w.heap.size w w' := by
  obtain ⟨a, cap, rfl, _⟩ := id hv
  exact (callsIn_wide (n := 6)).1 (first_in Fence.wide 6 trivial trivial trivial rfl (by omega) a cap bs m w hv hreach)

/-- The sum as the text reckons it. -/
def sumW (r : List (Nat × Nat)) : Int := r.foldl (fun s x => wrap64 (s + x.2)) 0
theorem sumW_snoc (r : List (Nat × Nat)) (x : Nat × Nat) : sumW (r ++ [x]) = wrap64 (sumW r + x.2) := by simp [sumW]
theorem sumW_eq (r : List (Nat × Nat)) (h : sumL r ≤ 9223372036854775807) : sumW r = sumL r := by
  have gen : ∀ (r : List (Nat × Nat)) (s : Nat), s + sumL r ≤ 9223372036854775807 → r.foldl (fun s x => wrap64 (s + (x.2 : Int))) (s : Int) = ((s + sumL r : Nat) : Int) := by
    intro r
    induction r with
    | nil => intro s _; simp [sumL]
    | cons x r ih =>
      intro s hs
      have e : sumL (x :: r) = x.2 + sumL r := by simp [sumL]
      rw [e] at hs ⊢
      rw [List.foldl_cons, IntWalk.wrap64_in _ (by omega), show ((s : Int) + (x.2 : Int)) = ((s + x.2 : Nat) : Int) by omega, ih (s + x.2) (by omega)]
      omega
  have := gen r 0 (by omega)
  simpa [sumW] using this
theorem maxL_step (pre : List (Nat × Nat)) (x : Nat × Nat) : ((maxL (pre ++ [x]) : Nat) : Int) = max (maxL pre : Int) (x.2 : Int) := by rw [maxL_snoc]; omega

set_option maxRecDepth 100000 in
set_option maxHeartbeats 2000000 in
theorem long_in (F : Fence) (n : Nat) (h11 : F.fn 91) (h21 : F.fn 78) (h23 : F.fn 92) (hro : F.round = none) (hn : 3 ≤ n) (a : Option Addr) (cap : Nat) (bs : List Bool) (w : World) (hv : SlOf w (.slice a bs.length cap) 1 (fun x => [.bool x]) bs) (hreach : bs.length ≤ 140737488355328) :
    CallsIn F n Try.prog 91 #[.slice a bs.length cap] w fun e w' => e = .returned (.int .i64 (longP bs : Nat)) ∧ Below w.heap.size w w' := by
  have h1 : 1 ≤ n := by omega
  refine callsIn_of_wp_marks Try.func91 rfl h11 ?_ hro
  simp only [Try.ntmps91, List.size_toArray, List.length_cons, List.length_nil, Nat.reduceAdd, Nat.reduceSub, Array.replicate_succ, Array.replicate_zero, List.push_toArray, List.append_toArray, List.nil_append, List.cons_append]
  gi_wp2_with (gi_at_call 78; refine (free_in F (n - 1) h21 hro _ _ _ _).mono ?_; rintro e w' ⟨rfl, rfl⟩)
  have bR := Boxed.new w 3 (.int .i64 0)
  have bN := Boxed.new (w.alloc (.cells #[.int .i64 0] 3)) 30 (.slice a bs.length cap)
  rw [World.size_alloc] at bN
  have hB0 : Below w.heap.size w ((w.alloc (.cells #[.int .i64 0] 3)).alloc (.cells #[.slice a bs.length cap] 30)) := ((Below.refl _ w).alloc (Nat.le_refl _) _).alloc (by simp) _
  refine wpIn_rangeFunc_ownG hro h1 (gf := 92) (lb := #[.pointer (some ⟨w.heap.size + 1, 0, none⟩)]) rfl h23 (enters_of Try.func92 (by kernel_rfl) rfl)
    (iter_stops F (n - 1) h23 hro (by omega) (w.heap.size + 1) w.heap.size _ bs hreach _ (by simp) bN.cell (sl_below hv hB0) (sl_blk hv)) kpR_t (kpR_b (by simp; omega)) (Below.refl _ _) (fun _ => rfl)
    (fun pre W => (W.cell? ⟨w.heap.size, 0, none⟩ = some (.int .i64 (maxL pre : Nat)) ∧ W.frozen? ⟨w.heap.size, 0, none⟩ = false) ∧ Below w.heap.size w W)
    (fun _ _ _ => False)
    (OwnFrom.and (Own.from (fun s A B row hs hg hr => ⟨cell_kept hs.1 hg hr, (frozen_kept hs.1 hg hr).trans hs.2⟩) _) (ownFrom_below (Nat.le_refl _) (by simp; omega)))
    (fun _ _ _ _ _ hs _ _ => hs)
    ⟨⟨(bR.alloc _).cell, (bR.alloc _).frozen⟩, hB0⟩
    (fun x => { tmps := #[.slice a bs.length cap, undef, .int .i64 0, .pointer (some ⟨w.heap.size, 0, none⟩), undef, .int .i64 (x.2 : Int), .slice a bs.length cap, .func (.func 92) #[] #[.pointer (some ⟨w.heap.size + 1, 0, none⟩)], .int .i64 (x.1 : Int), .int .i64 (x.2 : Int), undef, undef, undef, undef], defers := [] }) ?assign ?body ?done ?stop
  case assign =>
    intro l x W K hK
    gi_wp2
    exact hK
  case body =>
    rintro l pre x W ⟨⟨hc, hf⟩, hB⟩ _
    have hs1 := Lib.hid (maxL_step pre x)
    gi_wp2
    all_goals refine ⟨(KeepsOthers.setCell _ _ _).from _, ⟨(Below.refl w.heap.size W).setCell (p := ⟨w.heap.size, 0, none⟩) (Nat.le_refl _) _, fun v hv => by rw [World.cell?_setCell_other _ _ _ _ (by simp)]; exact hv⟩, ⟨?_, by rw [World.frozen?_setCell]; exact hf⟩, hB.setCell (p := ⟨w.heap.size, 0, none⟩) (Nat.le_refl _) _⟩
    all_goals rw [hs1.out]
    all_goals first | rw [Int.max_eq_right (by omega)] | rw [Int.max_eq_left (by omega)]
    all_goals exact World.cell?_setCell_same' _ _ _ (by rw [hc]; rfl)
  case done =>
    rintro D ys W hD rfl ⟨⟨hc, _⟩, hB⟩ hK
    gi_wp2
    refine ⟨by simp, .inl ⟨_, _, rfl, run_takeDeferred hK, ?_⟩⟩
    exact ⟨_, results_tmp rfl _ _ _, by simp; rfl, hB.trans (belowK_b (w := w) (Nat.le_refl _) W D _ _ (by simp at hD; omega) hK rfl rfl)⟩
  case stop =>
    rintro D c pre W _ _ h _
    exact h.elim

theorem long_any (v : Value) (bs : List Bool) (w : World) (hv : SlOf w v 1 (fun x => [.bool x]) bs) (hreach : bs.length ≤ 140737488355328) :
    Calls Try.prog 91 #[v] w fun e w' => e = .returned (.int .i64 (longP bs : Nat)) ∧ Below w.heap.size w w' := by
  obtain ⟨a, cap, rfl, _⟩ := id hv
  exact (callsIn_wide (n := 6)).1 (long_in Fence.wide 6 trivial trivial trivial rfl (by omega) a cap bs w hv hreach)

set_option maxRecDepth 100000 in
set_option maxHeartbeats 2000000 in
theorem freeN_in (F : Fence) (n : Nat) (h11 : F.fn 86) (h21 : F.fn 78) (h23 : F.fn 92) (hro : F.round = none) (hn : 3 ≤ n) (a : Option Addr) (cap : Nat) (bs : List Bool) (w : World) (hv : SlOf w (.slice a bs.length cap) 1 (fun x => [.bool x]) bs) (hreach : bs.length ≤ 140737488355328) :
    CallsIn F n Try.prog 86 #[.slice a bs.length cap] w fun e w' => e = .returned (.int .i64 (freeP bs : Nat)) ∧ Below w.heap.size w w' := by
  have h1 : 1 ≤ n := by omega
  refine callsIn_of_wp_marks Try.func86 rfl h11 ?_ hro
  simp only [Try.ntmps86, List.size_toArray, List.length_cons, List.length_nil, Nat.reduceAdd, Nat.reduceSub, Array.replicate_succ, Array.replicate_zero, List.push_toArray, List.append_toArray, List.nil_append, List.cons_append]
  gi_wp2_with (gi_at_call 78; refine (free_in F (n - 1) h21 hro _ _ _ _).mono ?_; rintro e w' ⟨rfl, rfl⟩)
  have bR := Boxed.new w 3 (.int .i64 0)
  have bN := Boxed.new (w.alloc (.cells #[.int .i64 0] 3)) 30 (.slice a bs.length cap)
  rw [World.size_alloc] at bN
  have hB0 : Below w.heap.size w ((w.alloc (.cells #[.int .i64 0] 3)).alloc (.cells #[.slice a bs.length cap] 30)) := ((Below.refl _ w).alloc (Nat.le_refl _) _).alloc (by simp) _
  refine wpIn_rangeFunc_ownG hro h1 (gf := 92) (lb := #[.pointer (some ⟨w.heap.size + 1, 0, none⟩)]) rfl h23 (enters_of Try.func92 (by kernel_rfl) rfl)
    (iter_stops F (n - 1) h23 hro (by omega) (w.heap.size + 1) w.heap.size _ bs hreach _ (by simp) bN.cell (sl_below hv hB0) (sl_blk hv)) kpR_t (kpR_b (by simp; omega)) (Below.refl _ _) (fun _ => rfl)
    (fun pre W => (W.cell? ⟨w.heap.size, 0, none⟩ = some (.int .i64 (sumW pre)) ∧ W.frozen? ⟨w.heap.size, 0, none⟩ = false) ∧ Below w.heap.size w W)
    (fun _ _ _ => False)
    (OwnFrom.and (Own.from (fun s A B row hs hg hr => ⟨cell_kept hs.1 hg hr, (frozen_kept hs.1 hg hr).trans hs.2⟩) _) (ownFrom_below (Nat.le_refl _) (by simp; omega)))
    (fun _ _ _ _ _ hs _ _ => hs)
    ⟨⟨(bR.alloc _).cell, (bR.alloc _).frozen⟩, hB0⟩
    (fun x => { tmps := #[.slice a bs.length cap, undef, .int .i64 0, .pointer (some ⟨w.heap.size, 0, none⟩), undef, .int .i64 (x.2 : Int), .slice a bs.length cap, .func (.func 92) #[] #[.pointer (some ⟨w.heap.size + 1, 0, none⟩)], .int .i64 (x.1 : Int), .int .i64 (x.2 : Int), undef, undef, undef, undef], defers := [] }) ?assign ?body ?done ?stop
  case assign =>
    intro l x W K hK
    gi_wp2
    exact hK
  case body =>
    rintro l pre x W ⟨⟨hc, hf⟩, hB⟩ _
    have hs1 := Lib.hid (sumW_snoc pre x)
    gi_wp2
    refine ⟨(KeepsOthers.setCell _ _ _).from _, ⟨(Below.refl w.heap.size W).setCell (p := ⟨w.heap.size, 0, none⟩) (Nat.le_refl _) _, fun v hv => by rw [World.cell?_setCell_other _ _ _ _ (by simp)]; exact hv⟩, ⟨?_, by rw [World.frozen?_setCell]; exact hf⟩, hB.setCell (p := ⟨w.heap.size, 0, none⟩) (Nat.le_refl _) _⟩
    rw [hs1.out]
    exact World.cell?_setCell_same' _ _ _ (by rw [hc]; rfl)
  case done =>
    rintro D ys W hD rfl ⟨⟨hc, _⟩, hB⟩ hK
    gi_wp2
    refine ⟨by simp, .inl ⟨_, _, rfl, run_takeDeferred hK, ?_⟩⟩
    exact ⟨_, results_tmp rfl _ _ _, by simp; rw [sumW_eq _ (by rw [sum_all]; have := free_le bs; omega), sum_all], hB.trans (belowK_b (w := w) (Nat.le_refl _) W D _ _ (by simp at hD; omega) hK rfl rfl)⟩
  case stop =>
    rintro D c pre W _ _ h _
    exact h.elim

theorem freeN_any (v : Value) (bs : List Bool) (w : World) (hv : SlOf w v 1 (fun x => [.bool x]) bs) (hreach : bs.length ≤ 140737488355328) :
    Calls Try.prog 86 #[v] w fun e w' => e = .returned (.int .i64 (freeP bs : Nat)) ∧ Below w.heap.size w w' := by
  obtain ⟨a, cap, rfl, _⟩ := id hv
  exact (callsIn_wide (n := 6)).1 (freeN_in Fence.wide 6 trivial trivial trivial rfl (by omega) a cap bs w hv hreach)

end Go.Proofs.Ytddbcpmhgjkjpaa
