/- Has each node few things? How deep do the leaves lie? The document's. Conditions: numbers fit. -/
import Derived.Test.YtdlgpcjdaaeliaaTreB
namespace Go.Proofs.Ytdlgpcjdaaeliaa
open Go.RowKit

mutual
def fewT : Tr → Bool
  | .nd ks vs kids => fewL kids && (decide (ks.length ≤ 30) && decide (vs.length ≤ 30) && decide (kids.length ≤ 30))
def fewL : List Tr → Bool
  | [] => true
  | k :: ks => fewT k && fewL ks
end
theorem fewL_get : ∀ (l : List Tr) (k : Nat) (hk : k < l.length), fewT l[k] = false → fewL l = false
  | [], k, hk, _ => by simp at hk
  | x :: l, 0, _, h => by rw [fewL]; simp only [List.getElem_cons_zero] at h; rw [h]; rfl
  | x :: l, k + 1, hk, h => by
    rw [fewL, fewL_get l k (by simpa using hk) (by simpa using h), Bool.and_false]

set_option maxRecDepth 100000 in
set_option maxHeartbeats 2000000 in
theorem few_any {w : World} {n3 : N3} {t : Tr} (h : NodeV w n3 t) : ∀ (w' : World), Below w.heap.size w w' →
    Calls Try.prog 24 #[.agg #[n3.1, n3.2.1, n3.2.2]] w' fun e w'' => e = .returned (.bool (fewT t)) ∧ Below w'.heap.size w' w'' := by
  induction h with
  | mk ns hk hv hx lk lv lx hl _ ih =>
    rename_i kv vv xv ks vs kids _
    intro w' hb
    obtain ⟨aK, cK, rfl⟩ := sl_shape hk
    obtain ⟨aV, cV, rfl⟩ := sl_shape hv
    obtain ⟨aX, cX, rfl⟩ := sl_shape hx
    dsimp only
    obtain ⟨W1, hW, e0, e1, e2, hs1, hb0⟩ := boxed3 w' (.slice aK ks.length cK) (.slice aV vs.length cV) (.slice aX ns.length cX) 25
    have HX := Lib.hid hx
    have Hbw := Lib.hid hb
    have Hb0 := Lib.hid hb0
    have IH := Lib.hid ih
    have Hl := Lib.hid hl
    have hnl : ns.length ≤ 9223372036854775807 := by unfold maxLen at lx; omega
    clear hk hv hx lk lv lx ih hl hb hb0
    go_enter Try.func24, Try.ntmps24
    go_wp2_with fail
    go_loopw [3] (fun i wr => ∃ k : Nat, k ≤ ns.length ∧ i = .int .i64 k ∧ fewL kids = fewL (kids.drop k) ∧ Below W1.heap.size W1 wr) (fun i _ => ns.length - (intOf i).toNat)
    case atStart => exact ⟨0, Nat.zero_le _, rfl, by simp, Below.refl _ _⟩
    case round =>
      obtain ⟨k, hk, rfl, hc, hbr⟩ := hrel
      have HC := Lib.hid hc
      have Hbr := Lib.hid hbr
      have f0 : wr.cell? ⟨w'.heap.size, 0, none⟩ = some (.slice aK ks.length cK) := (hbr.cell (p := ⟨w'.heap.size, 0, none⟩) hs1).trans e0
      have f1 : wr.cell? ⟨w'.heap.size, 1, none⟩ = some (.slice aV vs.length cV) := (hbr.cell (p := ⟨w'.heap.size, 1, none⟩) hs1).trans e1
      have f2 : wr.cell? ⟨w'.heap.size, 2, none⟩ = some (.slice aX ns.length cX) := (hbr.cell (p := ⟨w'.heap.size, 2, none⟩) hs1).trans e2
      clear hc hbr e0 e1 e2
      by_cases hlt : k < ns.length
      · have g0 : (k : Int) < (ns.length : Int) := by omega
        have g1 : (0 : Int) ≤ (k : Int) := by omega
        have hkk : k < kids.length := by have := Hl.out; omega
        have HD : Hid (fewL (kids.drop k) = (fewT kids[k] && fewL (kids.drop (k + 1)))) := by
          unfold Hid
          rw [List.drop_eq_getElem_cons hkk, fewL]
        have hbb : Below w.heap.size w wr := Hbw.out.trans ((Hb0.out.trans (Hbr.out.mono (Nat.le_of_lt hs1))).mono Hbw.out.size)
        obtain ⟨b, off, hveq, hblt, q0, q1, q2⟩ := kid_at (sl_below HX.out hbb) hlt
        subst hveq
        have hcall := IH.out k hlt hkk wr hbb
        generalize ns[k] = n3 at *
        obtain ⟨v0, v1, v2⟩ := n3
        dsimp only at q0 q1 q2 hcall
        cases hf : fewT kids[k] with
        | false =>
          have HE : Hid (fewT (.nd ks vs kids) = false) := by unfold Hid; rw [fewT, fewL_get kids k hkk hf]; rfl
          rw [hf] at hcall
          clear HC HD hf
          go_wp2_with fail
          refine hcall.mono ?_
          rintro e w3 ⟨rfl, hb3⟩
          have HB3 := Lib.hid (below_step9 Hbr.out hb3)
          clear hb3 hcall
          go_wp2_with fail
          go_ret
          exact ⟨by rw [HE.out]; rfl, Hb0.out.trans (HB3.out.mono (Nat.le_of_lt hs1))⟩
        | true =>
          have HN : Hid (fewL kids = fewL (kids.drop (k + 1))) := by unfold Hid; rw [HC.out, HD.out, hf, Bool.true_and]
          rw [hf] at hcall
          clear HC HD hf
          go_wp2_with fail
          refine hcall.mono ?_
          rintro e w3 ⟨rfl, hb3⟩
          have HB3 := Lib.hid (below_step9 Hbr.out hb3)
          clear hb3 hcall
          go_wp2_with fail
          exact ⟨⟨k + 1, by omega, by go_num, HN.out, HB3.out⟩, by simp [intOf]; omega⟩
      · obtain rfl : k = ns.length := by omega
        have HE : Hid (fewT (.nd ks vs kids) = (decide (ks.length ≤ 30) && decide (vs.length ≤ 30) && decide (ns.length ≤ 30))) := by
          unfold Hid
          rw [fewT, HC.out, List.drop_eq_nil_of_le (by rw [Hl.out]; exact Nat.le_refl _), fewL, Bool.true_and, Hl.out]
        have HBa := Lib.hid (Hb0.out.trans (Hbr.out.mono (Nat.le_of_lt hs1)))
        clear HC
        by_cases h1 : ks.length ≤ 30
        · have b1 : decide ((ks.length : Int) ≤ 30) = true := decide_eq_true (by omega)
          by_cases h2 : vs.length ≤ 30
          · have b2 : decide ((vs.length : Int) ≤ 30) = true := decide_eq_true (by omega)
            by_cases h3 : ns.length ≤ 30
            · have b3 : decide ((ns.length : Int) ≤ 30) = true := decide_eq_true (by omega)
              have HE2 : Hid (fewT (.nd ks vs kids) = true) := by unfold Hid; rw [HE.out]; simp [h1, h2, h3]
              clear HE h1 h2 h3
              go_wp2_with fail
              go_ret
              exact ⟨by rw [HE2.out]; rfl, HBa.out⟩
            · have b3 : decide ((ns.length : Int) ≤ 30) = false := decide_eq_false (by omega)
              have HE2 : Hid (fewT (.nd ks vs kids) = false) := by unfold Hid; rw [HE.out]; simp [h3]
              clear HE h1 h2 h3
              go_wp2_with fail
              go_ret
              exact ⟨by rw [HE2.out]; rfl, HBa.out⟩
          · have b2 : decide ((vs.length : Int) ≤ 30) = false := decide_eq_false (by omega)
            have HE2 : Hid (fewT (.nd ks vs kids) = false) := by unfold Hid; rw [HE.out]; simp [h2]
            clear HE h1 h2
            go_wp2_with fail
            go_ret
            exact ⟨by rw [HE2.out]; rfl, HBa.out⟩
        · have b1 : decide ((ks.length : Int) ≤ 30) = false := decide_eq_false (by omega)
          have HE2 : Hid (fewT (.nd ks vs kids) = false) := by unfold Hid; rw [HE.out]; simp [h1]
          clear HE h1
          go_wp2_with fail
          go_ret
          exact ⟨by rw [HE2.out]; rfl, HBa.out⟩

mutual
def deepT : Tr → Nat → Nat
  | .nd _ _ kids, most => if most = 0 then 0 else deepL kids (most - 1)
def deepL : List Tr → Nat → Nat
  | [], _ => 1
  | k :: ks, m => if sameL ks m (deepT k m) = true ∧ deepT k m ≠ 0 then deepT k m + 1 else 0
def sameL : List Tr → Nat → Nat → Bool
  | [], _, _ => true
  | k :: ks, m, d => (deepT k m == d) && sameL ks m d
end
mutual
theorem deepT_le : ∀ (t : Tr) (m : Nat), deepT t m ≤ m
  | .nd _ _ kids, m => by
    rw [deepT]
    split
    · omega
    · have := deepL_le kids (m - 1); omega
theorem deepL_le : ∀ (l : List Tr) (m : Nat), deepL l m ≤ m + 1
  | [], m => by rw [deepL]; omega
  | k :: ks, m => by
    rw [deepL]
    have := deepT_le k m
    split <;> omega
end
theorem sameL_get : ∀ (l : List Tr) (m d k : Nat) (hk : k < l.length), deepT l[k] m ≠ d → sameL l m d = false
  | [], _, _, k, hk, _ => by simp at hk
  | x :: l, m, d, 0, _, h => by
    rw [sameL]
    simp only [List.getElem_cons_zero] at h
    rw [show (deepT x m == d) = false from by simpa using h]; rfl
  | x :: l, m, d, k + 1, hk, h => by
    rw [sameL, sameL_get l m d k (by simpa using hk) (by simpa using h), Bool.and_false]
theorem sameL_all : ∀ (l : List Tr) (m d : Nat), (∀ k (hk : k < l.length), deepT l[k] m = d) → sameL l m d = true
  | [], _, _, _ => rfl
  | x :: l, m, d, h => by
    rw [sameL, sameL_all l m d fun k hk => h (k + 1) (by simpa using hk)]
    have := h 0 (by simp)
    simp only [List.getElem_cons_zero] at this
    simp [this]
end Go.Proofs.Ytdlgpcjdaaeliaa
