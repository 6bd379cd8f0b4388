/- The document's Small, May, Get, and Same on lists that are alike. Conditions: numbers fit. -/
import Derived.Test.YtdlgpcjdaaeliaaTreG
namespace Go.Proofs.Ytdlgpcjdaaeliaa
open Go.RowKit

/-! ### Plain: how many pairs a small tree has -/
mutual
def nodesT : Tr → Nat
  | .nd _ _ kids => nodesL kids + 1
def nodesL : List Tr → Nat
  | [] => 0
  | k :: ks => nodesT k + nodesL ks
end
mutual
theorem cntT_eq : ∀ (t : Tr) (most : Int), cntT t most < most → cntT t most = nodesT t
  | .nd _ _ kids, most => by
    intro h
    rw [cntT] at h ⊢
    rw [cntL_eq kids 1 most h, nodesT]; omega
theorem cntL_eq : ∀ (l : List Tr) (n most : Int), cntL l n most < most → cntL l n most = n + nodesL l
  | [], n, most => by intro _; rw [cntL, nodesL]; omega
  | k :: ks, n, most => by
    intro h
    rw [cntL] at h ⊢
    by_cases hn : n < most
    · rw [if_pos hn] at h ⊢
      have h1 := (cntL_le ks (n + cntT k (most - n)) most).1
      rw [cntL_eq ks _ most h, cntT_eq k (most - n) (by omega), nodesL]; omega
    · rw [if_neg hn] at h; omega
end
mutual
theorem pairsT_few : ∀ (t : Tr), fewT t = true → (pairsT t).length ≤ 30 * nodesT t
  | .nd ks vs kids => by
    intro h
    rw [fewT, Bool.and_eq_true, Bool.and_eq_true, Bool.and_eq_true, decide_eq_true_eq] at h
    rw [pairsT, nodesT]
    split
    · rw [List.length_zip]; omega
    · have := pairsL_few kids h.1; omega
theorem pairsL_few : ∀ (l : List Tr), fewL l = true → (pairsL l).length ≤ 30 * nodesL l
  | [] => by intro _; simp [pairsL]
  | k :: ks => by
    intro h
    rw [fewL, Bool.and_eq_true] at h
    rw [pairsL, List.length_append, nodesL]
    have := pairsT_few k h.1
    have := pairsL_few ks h.2
    omega
end
def smallT (t : Tr) : Bool := decide (cntT t 400 < 400) && fewT t
theorem small_pairs {t : Tr} (h : smallT t = true) : (pairsT t).length ≤ 12000 := by
  rw [smallT, Bool.and_eq_true, decide_eq_true_eq] at h
  have h1 := cntT_eq t 400 h.1
  have h2 := pairsT_few t h.2
  omega

set_option maxRecDepth 100000 in
set_option maxHeartbeats 2000000 in
theorem small_any {w : World} {n3 : N3} {t : Tr} (h : NodeV w n3 t) (w' : World) (hb : Below w.heap.size w w') :
    Calls Try.prog 7 #[.agg #[n3.1, n3.2.1, n3.2.2]] w' fun e w'' => e = .returned (.bool (smallT t)) ∧ Below w'.heap.size w' w'' := by
  obtain ⟨v0, v1, v2⟩ := n3
  obtain ⟨W1, hW, e0, e1, e2, hs1, hb0⟩ := boxed3 w' v0 v1 v2 25
  have hc := count_any h 400 W1 (hb.trans (hb0.mono hb.size)) (by omega) (by omega)
  have hf := fun (wx : World) (hx : Below W1.heap.size W1 wx) => few_any h wx (hb.trans ((hb0.trans (hx.mono (Nat.le_of_lt hs1))).mono hb.size))
  dsimp only at hc hf ⊢
  have Hb0 := Lib.hid hb0
  have Hb := Lib.hid hb
  have Hf := Lib.hid hf
  clear h hb0 hb hf
  by_cases h4 : cntT t 400 < 400
  · have b1 : decide (cntT t 400 < 400) = true := by simpa using h4
    have HS : Hid (smallT t = fewT t) := by unfold Hid smallT; rw [b1]; rfl
    generalize cntT t 400 = n at *
    go_enter Try.func7, Try.ntmps7
    go_wp2_with fail
    refine hc.mono ?_
    rintro e w2 ⟨rfl, hb2⟩
    have hfc := Hf.out w2 hb2
    have f0 : w2.cell? ⟨w'.heap.size, 0, none⟩ = some v0 := (hb2.cell (p := ⟨w'.heap.size, 0, none⟩) hs1).trans e0
    have f1 : w2.cell? ⟨w'.heap.size, 1, none⟩ = some v1 := (hb2.cell (p := ⟨w'.heap.size, 1, none⟩) hs1).trans e1
    have f2 : w2.cell? ⟨w'.heap.size, 2, none⟩ = some v2 := (hb2.cell (p := ⟨w'.heap.size, 2, none⟩) hs1).trans e2
    have HB2 := Lib.hid hb2
    clear hb2 hc e0 e1 e2
    generalize fewT t = fb at *
    go_wp2_with fail
    refine hfc.mono ?_
    rintro e w3 ⟨rfl, hb3⟩
    have HB3 := Lib.hid (below_step9 HB2.out hb3)
    clear hb3 hfc
    go_wp2_with fail
    go_ret
    exact ⟨by rw [HS.out]; first | rfl | simp, Hb0.out.trans (HB3.out.mono (Nat.le_of_lt hs1))⟩
  · have b1 : decide (cntT t 400 < 400) = false := by simpa using h4
    have HS : Hid (smallT t = false) := by unfold Hid smallT; rw [b1]; rfl
    generalize cntT t 400 = n at *
    go_enter Try.func7, Try.ntmps7
    go_wp2_with fail
    refine hc.mono ?_
    rintro e w2 ⟨rfl, hb2⟩
    have HB2 := Lib.hid hb2
    clear hb2 hc
    go_wp2_with fail
    go_ret
    exact ⟨by rw [HS.out]; rfl, Hb0.out.trans (HB2.out.mono (Nat.le_of_lt hs1))⟩

/-! ### Same -/
set_option maxRecDepth 100000 in
set_option maxHeartbeats 8000000 in
theorem sameP_eq (u v : Value) (l : List (Int × Int)) (w : World) (hu : Prs w u l) (hv : Prs w v l) (hl : l.length ≤ 100000000) :
    Calls Try.prog 16 #[u, v] w fun e w' => e = .returned (.bool true) ∧ Below w.heap.size w w' := by
  have HU := Lib.hid hu
  have HV := Lib.hid hv
  obtain ⟨a1, c1, rfl⟩ := sl_shape hu
  obtain ⟨a2, c2, rfl⟩ := sl_shape hv
  clear hu hv
  go_enter Try.func16, Try.ntmps16
  go_wp2_with fail
  go_loopw [5] (fun ui wr => ∃ k : Nat, ui = .int .i64 k ∧ k ≤ l.length ∧ Below w.heap.size w wr) (fun ui _ => l.length - (intOf ui).toNat)
  case atStart => exact ⟨0, rfl, Nat.zero_le _, Below.refl _ _⟩
  case round =>
    obtain ⟨k, rfl, hk, hm⟩ := hrel
    have Hm := Lib.hid hm
    by_cases hkl : k < l.length
    · obtain ⟨b1, o1, hveq, hb1, E0, E1⟩ := prs_at (sl_below HU.out hm) hkl
      subst hveq
      obtain ⟨b2, o2, hveq, hb2, F0, F1⟩ := prs_at (sl_below HV.out hm) hkl
      subst hveq
      clear hm
      generalize l[k] = t at *
      obtain ⟨tb, td⟩ := t
      dsimp only at E0 E1 F0 F1
      go_wp2_with fail
      go_quiet (fail)
      go_wp2_with fail
      exact ⟨⟨k + 1, by go_num, by omega, below_drewN9 Hm.out _⟩, by simp [intOf]; omega⟩
    · clear hm
      go_wp2_with fail
      go_ret
      exact ⟨rfl, Hm.out⟩

/-! ### Get -/
def getP : List (Int × Int) → Int → Option Int
  | [], _ => none
  | x :: l, k => if x.1 = k then some x.2 else getP l k
abbrev getV (r : Option Int) : Value := .tuple #[.int .i64 (r.getD 0), .bool r.isSome]
set_option maxRecDepth 100000 in
set_option maxHeartbeats 8000000 in
theorem getR_any (u : Value) (l : List (Int × Int)) (x : Int) (w : World) (hu : Prs w u l) (hl : l.length ≤ 100000000) :
    Calls Try.prog 15 #[u, .int .i64 x] w fun e w' => e = .returned (getV (getP l x)) ∧ Below w.heap.size w w' := by
  have HU := Lib.hid hu
  obtain ⟨a1, c1, rfl⟩ := sl_shape hu
  clear hu
  go_enter Try.func15, Try.ntmps15
  go_wp2_with fail
  go_loopw [6] (fun ui wr => ∃ k : Nat, ui = .int .i64 k ∧ k ≤ l.length ∧ getP (l.drop k) x = getP l x ∧ Below w.heap.size w wr) (fun ui _ => l.length - (intOf ui).toNat)
  case atStart => exact ⟨0, rfl, Nat.zero_le _, rfl, Below.refl _ _⟩
  case round =>
    obtain ⟨k, rfl, hk, hg, hm⟩ := hrel
    have Hm := Lib.hid hm
    have Hg := Lib.hid hg
    clear hg
    by_cases hkl : k < l.length
    · obtain ⟨b1, o1, hveq, hb1, E0, E1⟩ := prs_at (sl_below HU.out hm) hkl
      subst hveq
      have Hs : Hid (getP (l.drop k) x = if l[k].1 = x then some l[k].2 else getP (l.drop (k + 1)) x) := by unfold Hid; rw [List.drop_eq_getElem_cons hkl, getP]
      clear hm
      generalize l[k] = t at *
      obtain ⟨tb, td⟩ := t
      dsimp only at E0 E1 Hs
      by_cases hx : tb = x
      · have b1 : (tb == x) = true := by simpa using hx
        have HE : Hid (getP l x = some td) := by unfold Hid; rw [← Hg.out, Hs.out, if_pos hx]
        clear hx Hs
        go_wp2_with fail
        refine bodyPost_ret (results_tmp2 rfl _ _ _) rfl ?_
        exact ⟨by rw [HE.out]; rfl, Hm.out⟩
      · have b1 : (tb == x) = false := by simpa using hx
        have HE : Hid (getP (l.drop (k + 1)) x = getP l x) := by unfold Hid; rw [← Hg.out, Hs.out, if_neg hx]
        clear hx Hs
        go_wp2_with fail
        exact ⟨⟨k + 1, by go_num, by omega, HE.out, Hm.out⟩, by simp [intOf]; omega⟩
    · obtain rfl : k = l.length := by omega
      have HE : Hid (getP l x = none) := by unfold Hid; rw [← Hg.out, List.drop_length, getP]
      clear hm
      go_wp2_with fail
      refine bodyPost_ret (results_tmp2 rfl _ _ _) rfl ?_
      exact ⟨by rw [HE.out]; rfl, Hm.out⟩
end Go.Proofs.Ytdlgpcjdaaeliaa
