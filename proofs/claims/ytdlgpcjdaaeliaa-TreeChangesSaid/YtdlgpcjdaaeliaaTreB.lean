/- How many nodes a tree has; has each node few things? The document's. Conditions: numbers fit. -/
import Derived.Test.YtdlgpcjdaaeliaaChecked
import Derived.WalkKit
import Derived.WalkLawsBesides
import Derived.WalkSpells
import Derived.Outline
import Derived.OwnWalk
import Derived.IntWalk
import Derived.Lib.Hide
import Derived.Deep.QuietTactic
import Derived.BigQuiet
import Derived.Deep.RegionHeld3
import Derived.Deep.LoopGhost
import Derived.Deep.DeepFit
import Derived.LoopTactic
import Derived.Test.YtdlgpcjdaaeliaaTreA
namespace Go.Proofs.Ytdlgpcjdaaeliaa
open Go.RowKit

theorem below_drewN9 {B : Nat} {a w : World} (h : Below B a w) (n : Nat) : Below B a (w.drewN n) := h.trans ⟨rfl, rfl, rfl, Nat.le_refl _, fun _ _ => rfl⟩
theorem below_step9 {w a b : World} (h : Below w.heap.size w a) (h2 : Below a.heap.size a b) : Below w.heap.size w b := h.trans (h2.mono h.size)
theorem boxed3 (w : World) (v0 v1 v2 : Value) (t : TypeId) : ∃ W1, w.alloc (.cells #[v0, v1, v2] t) = W1 ∧ W1.cell? ⟨w.heap.size, 0, none⟩ = some v0 ∧ W1.cell? ⟨w.heap.size, 1, none⟩ = some v1 ∧ W1.cell? ⟨w.heap.size, 2, none⟩ = some v2 ∧ w.heap.size < W1.heap.size ∧ Below w.heap.size w W1 :=
  ⟨_, rfl, by simp, by simp, by simp, by simp, (Below.refl _ _).alloc (Nat.le_refl _) _⟩
theorem sl_shape {α : Type} {w : World} {v : Value} {k : Nat} {E : α → List Value} {xs : List α} (h : SlOf w v k E xs) : ∃ a cap, v = .slice a xs.length cap := by
  obtain ⟨a, cap, hv, _⟩ := h; exact ⟨a, cap, hv⟩
/-- The cells of one kid. -/
theorem kid_at {w : World} {a : Option Addr} {n cap : Nat} {ns : List N3} (hv : SlOf w (.slice a n cap) 3 nodeE ns) {k : Nat} (hk : k < ns.length) :
    ∃ b off, a = some ⟨b, off, none⟩ ∧ b < w.heap.size ∧ w.cell? ⟨b, off + k * 3, none⟩ = some ns[k].1 ∧ w.cell? ⟨b, off + k * 3 + 1, none⟩ = some ns[k].2.1 ∧ w.cell? ⟨b, off + k * 3 + 2, none⟩ = some ns[k].2.2 := by
  obtain ⟨a', cap', hv', hl, hn, hc⟩ := hv
  injection hv' with h1 h2 h3
  subst h1
  rcases hc with rfl | ⟨b, off, rfl, hb, hcell⟩
  · simp at hk
  · exact ⟨b, off, rfl, hb, by simpa using hcell k hk 0 (by omega), by simpa [Nat.add_assoc] using hcell k hk 1 (by omega), by simpa [Nat.add_assoc] using hcell k hk 2 (by omega)⟩

mutual
def cntT : Tr → Int → Int
  | .nd _ _ kids, most => cntL kids 1 most
def cntL : List Tr → Int → Int → Int
  | [], n, _ => n
  | k :: ks, n, most => if n < most then cntL ks (n + cntT k (most - n)) most else n
end
mutual
theorem cntT_le : ∀ (t : Tr) (most : Int), 1 ≤ cntT t most ∧ (1 ≤ most → cntT t most ≤ most) ∧ (most ≤ 1 → cntT t most = 1)
  | .nd _ _ kids, most => by
    rw [cntT]
    have h := cntL_le kids 1 most
    refine ⟨h.1, fun h1 => h.2.1 h1, fun h1 => h.2.2 h1⟩
theorem cntL_le : ∀ (l : List Tr) (n most : Int), n ≤ cntL l n most ∧ (n ≤ most → cntL l n most ≤ most) ∧ (most ≤ n → cntL l n most = n)
  | [], n, most => by rw [cntL]; exact ⟨Int.le_refl _, fun h => h, fun _ => rfl⟩
  | k :: ks, n, most => by
    rw [cntL]
    by_cases h : n < most
    · rw [if_pos h]
      have h1 := cntT_le k (most - n)
      have h2 := h1.2.1 (by omega)
      have h3 := cntL_le ks (n + cntT k (most - n)) most
      have h4 := h3.2.1 (by omega)
      exact ⟨by omega, fun _ => h4, fun h5 => by omega⟩
    · rw [if_neg h]
      exact ⟨Int.le_refl _, fun h5 => by omega, fun _ => rfl⟩
end

set_option maxRecDepth 100000 in
set_option maxHeartbeats 2000000 in
theorem count_any {w : World} {n3 : N3} {t : Tr} (h : NodeV w n3 t) : ∀ (most : Int) (w' : World), Below w.heap.size w w' → most ≤ 400 → -400 ≤ most →
    Calls Try.prog 23 #[.agg #[n3.1, n3.2.1, n3.2.2], .int .i64 most] w' fun e w'' => e = .returned (.int .i64 (cntT t most)) ∧ Below w'.heap.size w' w'' := by
  induction h with
  | mk ns hk hv hx lk lv lx hl _ ih =>
    rename_i kv vv xv ks vs kids _
    intro most w' hb hm hm0
    obtain ⟨aK, cK, rfl⟩ := sl_shape hk
    obtain ⟨aV, cV, rfl⟩ := sl_shape hv
    obtain ⟨aX, cX, rfl⟩ := sl_shape hx
    dsimp only
    obtain ⟨W1, hW, e0, e1, e2, hs1, hb0⟩ := boxed3 w' (.slice aK ks.length cK) (.slice aV vs.length cV) (.slice aX ns.length cX) 25
    have HX := Lib.hid hx
    have Hbw := Lib.hid hb
    have Hb0 := Lib.hid hb0
    have IH := Lib.hid ih
    have Hl := Lib.hid hl
    have hnl : ns.length ≤ 9223372036854775807 := by unfold maxLen at lx; omega
    clear hk hv hx lk lv lx ih hl hb hb0
    go_enter Try.func23, Try.ntmps23
    go_wp2_with fail
    go_loopw [5, 6] (fun n i wr => ∃ (k : Nat) (m : Int), k ≤ ns.length ∧ i = .int .i64 k ∧ n = .int .i64 m ∧ 1 ≤ m ∧ m ≤ 400 ∧ cntL (kids.drop k) m most = cntT (.nd ks vs kids) most ∧ Below W1.heap.size W1 wr) (fun _ i _ => ns.length - (intOf i).toNat)
    case atStart => exact ⟨0, 1, Nat.zero_le _, rfl, rfl, by omega, by omega, by rw [cntT]; rfl, Below.refl _ _⟩
    case round =>
      obtain ⟨k, m, hk, rfl, rfl, m1, m2, hc, hbr⟩ := hrel
      have HC := Lib.hid hc
      have Hbr := Lib.hid hbr
      have f2 : wr.cell? ⟨w'.heap.size, 2, none⟩ = some (.slice aX ns.length cX) := (hbr.cell (p := ⟨w'.heap.size, 2, none⟩) hs1).trans e2
      clear hc hbr e0 e1 e2
      by_cases hlt : k < ns.length
      · have g0 : (k : Int) < (ns.length : Int) := by omega
        have g1 : (0 : Int) ≤ (k : Int) := by omega
        have b0 : decide ((k : Int) < (ns.length : Int)) = true := by simpa using g0
        have hkk : k < kids.length := by have := Hl.out; omega
        have HD : Hid (cntL (kids.drop k) m most = if m < most then cntL (kids.drop (k + 1)) (m + cntT kids[k] (most - m)) most else m) := by
          unfold Hid
          rw [List.drop_eq_getElem_cons hkk, cntL]
        by_cases hmm : m < most
        · have b1 : decide (m < most) = true := by simpa using hmm
          have hbb : Below w.heap.size w wr := Hbw.out.trans ((Hb0.out.trans (Hbr.out.mono (Nat.le_of_lt hs1))).mono Hbw.out.size)
          obtain ⟨b, off, hveq, hblt, q0, q1, q2⟩ := kid_at (sl_below HX.out hbb) hlt
          subst hveq
          have hcall := IH.out k hlt hkk (most - m) wr hbb (by omega) (by omega)
          have hle := cntT_le kids[k] (most - m)
          have hle2 := hle.2.1 (by omega)
          have x1 : IntKind.i64.wrap (most - m) = most - m := IntWalk.i64_in _ (by omega)
          have x2 : IntKind.i64.wrap (m + cntT kids[k] (most - m)) = m + cntT kids[k] (most - m) := IntWalk.i64_in _ (by omega)
          have HN : Hid (cntL (kids.drop (k + 1)) (m + cntT kids[k] (most - m)) most = cntT (.nd ks vs kids) most) := by unfold Hid; rw [← HC.out, HD.out, if_pos hmm]
          have hge := hle.1
          clear HC HD hle hmm
          generalize cntT kids[k] (most - m) = y at *
          generalize ns[k] = n3 at *
          obtain ⟨v0, v1, v2⟩ := n3
          dsimp only at q0 q1 q2 hcall
          go_wp2_with fail
          refine hcall.mono ?_
          rintro e w3 ⟨rfl, hb3⟩
          have HB3 := Lib.hid (below_step9 Hbr.out hb3)
          clear hb3 hcall
          go_wp2_with fail
          exact ⟨⟨k + 1, _, by omega, by go_num, rfl, by omega, by omega, HN.out, HB3.out⟩, by simp [intOf]; omega⟩
        · have b1 : decide (m < most) = false := by simpa using hmm
          have HE : Hid (cntT (.nd ks vs kids) most = m) := by unfold Hid; rw [← HC.out, HD.out, if_neg hmm]
          clear HC HD hmm
          go_wp2_with fail
          go_ret
          exact ⟨by rw [HE.out]; rfl, Hb0.out.trans (Hbr.out.mono (Nat.le_of_lt hs1))⟩
      · obtain rfl : k = ns.length := by omega
        have HE : Hid (cntT (.nd ks vs kids) most = m) := by
          unfold Hid
          rw [← HC.out, List.drop_eq_nil_of_le (by rw [Hl.out]; exact Nat.le_refl _), cntL]
        clear HC
        go_wp2_with fail
        go_ret
        exact ⟨by rw [HE.out]; rfl, Hb0.out.trans (Hbr.out.mono (Nat.le_of_lt hs1))⟩
end Go.Proofs.Ytdlgpcjdaaeliaa
