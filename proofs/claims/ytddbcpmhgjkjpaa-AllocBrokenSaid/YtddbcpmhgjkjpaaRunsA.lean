/- Contracts: the iterator over free places; First, Longest, Free. Conditions: numbers fit. -/
import Derived.Test.YtddbcpmhgjkjpaaBools
import Derived.Test.YtddbcpmhgjkjpaaRunsP
import Derived.RangeFuncNested
import Derived.RangeFuncBound
import Derived.RangeFuncCalls
import Derived.RangeFuncLeaves
import Derived.RangeFuncBox
import Derived.Shelf.Abstract
import Derived.Shelf.RegionOpen
import Derived.OwnWalkIn
import Derived.TacticsInMore
import Derived.LoopNIn
import Derived.LoopIn
namespace Go.Proofs.Ytddbcpmhgjkjpaa
open Go.RowKit Go.Shelf
attribute [local go_sem] Oper.semAt_some

abbrev encR (x : Nat × Nat) : Array Value := #[.int .i64 (x.1 : Int), .int .i64 (x.2 : Int)]

/-- What a round that goes on keeps: all below n₀, and the box of the slice. -/
def KpR (n₀ Bs : Nat) (W W' : World) : Prop := Below n₀ W W' ∧ ∀ v, W.cell? ⟨Bs, 0, none⟩ = some v → W'.cell? ⟨Bs, 0, none⟩ = some v
theorem kpR_t {n₀ Bs : Nat} {A B C : World} (h : KpR n₀ Bs A B) (k : KpR n₀ Bs B C) : KpR n₀ Bs A C := ⟨h.1.trans k.1, fun v hv => k.2 v (h.2 v hv)⟩
theorem kpR_b {n₀ Bs : Nat} {w : World} (hn : n₀ ≤ w.heap.size) (W : World) (l : Nat) (o o' : Obj) (hl : w.heap.size ≤ l) (h : W.heap[l]? = some o) (hc : o.isCells = false) (hw : o.isWalk = false) : KpR n₀ Bs W (W.putObj l o') :=
  ⟨belowK_b hn W l o o' hl h hc hw, fun _ hv => cell_kept hv (grownBy_putObj' W l o') (fun r e => by cases e; exact ⟨_, h, hc⟩)⟩
theorem kpR_refl (n₀ Bs : Nat) (W : World) : KpR n₀ Bs W W := ⟨Below.refl _ _, fun _ h => h⟩

theorem runs_count (l : List Bool) : ∀ (k p : Nat), l.length - p ≤ k → (runsR l p).length ≤ l.length - p := by
  intro k
  induction k with
  | zero => intro p hk; rw [runsR_end l (by omega)]; simp
  | succ k ih =>
    intro p hk
    by_cases hp : p < l.length
    · rw [runsR_step l hp, List.length_append]
      have := ih (p + stretch l p + 1) (by omega)
      split <;> simp <;> omega
    · rw [runsR_end l (by omega)]; simp

set_option maxRecDepth 100000 in
set_option maxHeartbeats 2000000 in
theorem iter1_in (F : Fence) (n : Nat) (hF : F.fn 92) (hro : F.round = none) (hn : 1 ≤ n) (l Bs n₀ b off cap : Nat) (bs : List Bool) (hreach : bs.length ≤ 140737488355328) (hb : b < n₀) (J Jx : List (Nat × Nat) → World → Prop)
    (hY : ∀ pre x W, J pre W → pre.length < bs.length → YieldAt F (n - 1) Try.prog l (encR x) W fun e W' =>
      (e = .returned (.bool true) ∧ J (pre ++ [x]) W' ∧ KpR n₀ Bs W W') ∨ (e = .returned (.bool false) ∧ Jx (pre ++ [x]) W'))
    (W : World) (hBs : W.cell? ⟨Bs, 0, none⟩ = some (.slice (some ⟨b, off, none⟩) bs.length cap)) (hc : ∀ i (hi : i < bs.length), W.cell? ⟨b, off + i, none⟩ = some (.bool bs[i])) (h0 : J [] W) :
    CallsIn F n Try.prog 92 #[.func (.yield l) #[] #[], .pointer (some ⟨Bs, 0, none⟩)] W fun e W' => (∃ v, e = .returned v) ∧
      ((∃ ys, ys = runsL bs ∧ J ys W') ∨ (∃ pre, pre <+: runsL bs ∧ Jx pre W')) := by
  refine callsIn_of_wp Try.func92 rfl hF ?_ hro
  simp only [Try.ntmps92, List.size_toArray, List.length_cons, List.length_nil, Nat.reduceAdd, Nat.reduceSub, Array.replicate_succ, Array.replicate_zero, List.push_toArray, List.append_toArray, List.nil_append, List.cons_append]
  gi_wp2
  gi_loopw [3] (fun i wr => ∃ (p : Nat) (pre : List (Nat × Nat)), i = .int .i64 p ∧ p ≤ bs.length + 1 ∧ pre ++ runsR bs p = runsL bs ∧ J pre wr ∧ Below n₀ W wr ∧ wr.cell? ⟨Bs, 0, none⟩ = some (.slice (some ⟨b, off, none⟩) bs.length cap))
    (fun i _ => bs.length + 1 - (intOf i).toNat)
  case atStart => exact ⟨0, [], rfl, by omega, rfl, h0, Below.refl _ _, hBs⟩
  case round =>
    obtain ⟨p, pre, rfl, hp, hpre, hJs, hnx, hBs'⟩ := hrel
    have Hpre := Lib.hid hpre
    clear hpre
    by_cases hlt : p < bs.length
    · have hst := stretch_le bs p (by omega)
      have Hfree := Lib.hid (fits_iff.1 (stretch_free bs p (by omega))).2
      have Hend := Lib.hid (stretch_end bs p)
      have Hstep := Lib.hid (runsR_step bs hlt)
      have hpl : pre.length < bs.length ∨ stretch bs p = 0 := by
        have h1 := runs_count bs bs.length 0 (by omega)
        have h2 : (pre ++ runsR bs p).length = (runsL bs).length := by rw [Hpre.out]
        rw [List.length_append, Hstep.out, List.length_append] at h2
        have h3 : (runsL bs).length ≤ bs.length := by show (runsR bs 0).length ≤ _; omega
        by_cases hs : 0 < stretch bs p
        · rw [if_pos hs] at h2; simp at h2; left; omega
        · right; omega
      generalize hS : stretch bs p = S at *
      gi_wp2
      gi_loop [4] (fun m => ∃ k : Nat, k ≤ S ∧ m = .int .i64 k) (fun m => S - (intOf m).toNat)
      case atStart => exact ⟨0, Nat.zero_le _, rfl⟩
      case round =>
        obtain ⟨k, hk, rfl⟩ := hrel
        by_cases hkS : k < S
        · have hv : bs[p + k]'(by omega) = false := by
            have := Hfree.out k hkS
            rw [List.getD_eq_getElem?_getD, List.getElem?_eq_getElem (by omega)] at this
            simpa using this
          have e0 : wr.cell? ⟨b, off + (p + k), none⟩ = some (.bool false) := by
            rw [hnx.cell (p := ⟨b, off + (p + k), none⟩) hb, hc (p + k) (by omega), hv]
          have g0 : (0 : Int) ≤ (p : Int) + (k : Int) := by omega
          have g1 : (p : Int) + (k : Int) < (bs.length : Int) := by omega
          clear hv
          gi_wp2
          exact ⟨⟨k + 1, by omega, by go_num⟩, by simp [intOf]; omega⟩
        · obtain rfl : k = S := by omega
          by_cases hpe : p + k < bs.length
          · have hv : bs[p + k] = true := by
              have := Hend.out hpe
              rw [List.getD_eq_getElem?_getD, List.getElem?_eq_getElem hpe] at this
              simpa using this
            have e0 : wr.cell? ⟨b, off + (p + k), none⟩ = some (.bool true) := by
              rw [hnx.cell (p := ⟨b, off + (p + k), none⟩) hb, hc (p + k) hpe, hv]
            have g0 : (0 : Int) ≤ (p : Int) + (k : Int) := by omega
            have g1 : (p : Int) + (k : Int) < (bs.length : Int) := by omega
            clear hv
            by_cases hS0 : 0 < k
            · have hlen : pre.length < bs.length := by omega
              obtain ⟨fn, tmps, assign, body, hy, hR⟩ := hY pre (p, k) wr hJs hlen
              dsimp only [encR] at hy
              have g9 : (0 : Int) < (k : Int) := by omega
              gi_wp2
              refine hR.mono ?_
              rintro e W3 (⟨rfl, hJ3, hk3⟩ | ⟨rfl, hJx3⟩)
              · gi_wp2
                exact ⟨⟨p + k + 1, pre ++ [(p, k)], by rw [show (((p + k + 1 : Nat)) : Int) = (p : Int) + ((k : Int) + 1) by omega], by omega, by
                  have h := Hstep.out
                  rw [if_pos hS0] at h
                  rw [List.append_assoc, ← h]
                  exact Hpre.out, hJ3, hnx.trans hk3.1, hk3.2 _ hBs'⟩, by simp [intOf]; omega⟩
              · gi_wp2
                refine bodyPost_ret (results_none rfl _ _ _) rfl ?_
                refine ⟨⟨_, rfl⟩, .inr ⟨pre ++ [(p, k)], ⟨runsR bs (p + k + 1), ?_⟩, hJx3⟩⟩
                have h := Hstep.out
                rw [if_pos hS0] at h
                rw [List.append_assoc, ← h]
                exact Hpre.out
            · have g9 : ¬ (0 : Int) < (k : Int) := by omega
              gi_wp2
              refine ⟨fun _ h => (by cases h), ?_⟩
              gi_wp2
              exact ⟨⟨p + k + 1, pre, by rw [show (((p + k + 1 : Nat)) : Int) = (p : Int) + ((k : Int) + 1) by omega], by omega, by
                have h := Hstep.out
                rw [if_neg hS0, List.nil_append] at h
                rw [← h]
                exact Hpre.out, hJs, hnx, hBs'⟩, by simp [intOf]; omega⟩
          · have g1 : (bs.length : Int) ≤ (p : Int) + (k : Int) := by omega
            have hS0 : 0 < k := by omega
            have hlen : pre.length < bs.length := by omega
            obtain ⟨fn, tmps, assign, body, hy, hR⟩ := hY pre (p, k) wr hJs hlen
            dsimp only [encR] at hy
            have g9 : (0 : Int) < (k : Int) := by omega
            gi_wp2
            refine hR.mono ?_
            rintro e W3 (⟨rfl, hJ3, hk3⟩ | ⟨rfl, hJx3⟩)
            · gi_wp2
              exact ⟨⟨p + k + 1, pre ++ [(p, k)], by rw [show (((p + k + 1 : Nat)) : Int) = (p : Int) + ((k : Int) + 1) by omega], by omega, by
                have h := Hstep.out
                rw [if_pos hS0] at h
                rw [List.append_assoc, ← h]
                exact Hpre.out, hJ3, hnx.trans hk3.1, hk3.2 _ hBs'⟩, by simp [intOf]; omega⟩
            · gi_wp2
              refine bodyPost_ret (results_none rfl _ _ _) rfl ?_
              refine ⟨⟨_, rfl⟩, .inr ⟨pre ++ [(p, k)], ⟨runsR bs (p + k + 1), ?_⟩, hJx3⟩⟩
              have h := Hstep.out
              rw [if_pos hS0] at h
              rw [List.append_assoc, ← h]
              exact Hpre.out
    · gi_wp2
      go_end0
      exact ⟨⟨_, rfl⟩, .inl ⟨pre, by
        have h := Hpre.out
        rw [runsR_end bs (by omega), List.append_nil] at h
        exact h, hJs⟩⟩

set_option maxRecDepth 100000 in
set_option maxHeartbeats 1000000 in
theorem iter0_in (F : Fence) (n : Nat) (hF : F.fn 92) (hro : F.round = none) (l Bs : Nat) (a : Option Addr) (cap : Nat) (J : List (Nat × Nat) → World → Prop) (W : World) (hBs : W.cell? ⟨Bs, 0, none⟩ = some (.slice a 0 cap)) (h0 : J [] W) :
    CallsIn F n Try.prog 92 #[.func (.yield l) #[] #[], .pointer (some ⟨Bs, 0, none⟩)] W fun e W' => (∃ v, e = .returned v) ∧ J [] W' := by
  refine callsIn_of_wp Try.func92 rfl hF ?_ hro
  simp only [Try.ntmps92, List.size_toArray, List.length_cons, List.length_nil, Nat.reduceAdd, Nat.reduceSub, Array.replicate_succ, Array.replicate_zero, List.push_toArray, List.append_toArray, List.nil_append, List.cons_append]
  gi_wp2
  gi_loopw [3] (fun i wr => i = .int .i64 0 ∧ J [] wr ∧ wr = W) (fun _ _ => 0)
  case atStart => exact ⟨rfl, h0, rfl⟩
  case round =>
    obtain ⟨rfl, hJs, rfl⟩ := hrel
    gi_wp2
    go_end0
    exact ⟨⟨_, rfl⟩, hJs⟩

/-- The iterator's value: the slice is boxed. -/
theorem free_in (F : Fence) (n : Nat) (hF : F.fn 78) (hro : F.round = none) (a : Option Addr) (len cap : Nat) (w : World) :
    CallsIn F n Try.prog 78 #[.slice a len cap] w fun e w' => e = .returned (.func (.func 92) #[] #[.pointer (some ⟨w.heap.size, 0, none⟩)]) ∧ w' = w.alloc (.cells #[.slice a len cap] 30) := by
  refine callsIn_of_wp Try.func78 rfl hF ?_ hro
  simp only [Try.ntmps78, List.size_toArray, List.length_cons, List.length_nil, Nat.reduceAdd, Nat.reduceSub, Array.replicate_succ, Array.replicate_zero, List.push_toArray, List.append_toArray, List.nil_append, List.cons_append]
  gi_wp2
  go_ret
  exact ⟨rfl, rfl⟩

theorem iter_stops (F : Fence) (n : Nat) (hF : F.fn 92) (hro : F.round = none) (hn : 1 ≤ n) (Bs n₀ : Nat) (v : Value) (bs : List Bool) (hreach : bs.length ≤ 140737488355328) (w : World) (hBn : Bs < w.heap.size)
    (hc : w.cell? ⟨Bs, 0, none⟩ = some v) (hI : SlOf w v 1 (fun x => [.bool x]) bs) (hb : ∀ b off len cap, v = .slice (some ⟨b, off, none⟩) len cap → b < n₀ ∨ len = 0) :
    SeqStopsK F n Try.prog 92 #[.pointer (some ⟨Bs, 0, none⟩)] encR (KpR n₀ Bs) (fun ys => ys = runsL bs) (fun pre => pre <+: runsL bs) bs.length w := fun l J Jx W hW _ _ hY h0 => by
  have hc' := (hW.cell (p := ⟨Bs, 0, none⟩) hBn).trans hc
  rcases sl_one (sl_below hI hW) with ⟨rfl, a, cap, rfl, _⟩ | ⟨hp, b, off, cap, rfl, _, _, hcs⟩
  · exact (iter0_in F n hF hro l Bs a cap J W hc' h0).mono fun e W' ⟨he, hj⟩ => ⟨he, .inl ⟨[], rfl, hj⟩⟩
  · exact iter1_in F n hF hro hn l Bs n₀ b off cap bs hreach (by rcases hb _ _ _ _ rfl with h | h <;> omega) J Jx hY W hc' hcs h0
end Go.Proofs.Ytddbcpmhgjkjpaa
