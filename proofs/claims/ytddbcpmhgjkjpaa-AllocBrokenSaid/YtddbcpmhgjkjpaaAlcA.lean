/- Tables of chunks: slices of slices that read as lists of tables; the document's Small, May and Same on them. Conditions: numbers fit. -/
import Derived.Test.YtddbcpmhgjkjpaaSloC
import Derived.Test.YtddbcpmhgjkjpaaSloG
import Derived.Deep.RegionHeld3
namespace Go.Proofs.Ytddbcpmhgjkjpaa
open Go.RowKit

/-- A slice that reads as a list of tables. -/
def TabV (w : World) (v : Value) (ls : List (List Us)) : Prop :=
  ∃ vs : List Value, SlOf w v 1 (fun x => [x]) vs ∧ vs.length = ls.length ∧ ∀ i (hi : i < vs.length) (hj : i < ls.length), UseV w vs[i] ls[i]
theorem tab_below {w w' : World} {v : Value} {ls : List (List Us)} (h : TabV w v ls) (hb : Below w.heap.size w w') : TabV w' v ls := by
  obtain ⟨vs, h1, h2, h3⟩ := h
  exact ⟨vs, sl_below h1 hb, h2, fun i hi hj => sl_below (h3 i hi hj) hb⟩
theorem tab_shape {w : World} {v : Value} {ls : List (List Us)} (h : TabV w v ls) : ∃ a cap, v = .slice a ls.length cap ∧ (a = none → cap = 0) ∧ ls.length ≤ cap := by
  obtain ⟨vs, ⟨a, cap, rfl, h1, h2, _⟩, h3, _⟩ := h
  exact ⟨a, cap, by rw [h3], h2, by omega⟩
theorem tab_nil {w : World} {cap : Nat} {a : Option Addr} (hn : a = none → cap = 0) : TabV w (.slice a 0 cap) [] := ⟨[], sl_nil hn, rfl, fun i hi => by simp at hi⟩
theorem tab_at {w : World} {a : Option Addr} {n cap : Nat} {ls : List (List Us)} (hv : TabV w (.slice a n cap) ls) {k : Nat} (hk : k < ls.length) :
    ∃ b off au cu, a = some ⟨b, off, none⟩ ∧ b < w.heap.size ∧ w.cell? ⟨b, off + k, none⟩ = some (.slice au ls[k].length cu) ∧ UseV w (.slice au ls[k].length cu) ls[k] := by
  obtain ⟨vs, ⟨a', cap', hv', hl, hn, hc⟩, h2, h3⟩ := hv
  injection hv' with e1 e2 e3
  subst e1
  rcases hc with rfl | ⟨b, off, rfl, hb, hcell⟩
  · simp at h2; omega
  · have hu := h3 k (by omega) hk
    obtain ⟨au, cu, hx, _⟩ := id hu
    have hcl := hcell k (by omega) 0 (by omega)
    rw [hx] at hu
    refine ⟨b, off, au, cu, rfl, hb, ?_, hu⟩
    simpa [hx] using hcl

def smallT (ls : List (List Us)) : Bool := ls.all (fun l => decide (l.length ≤ 40)) && decide (ls.length ≤ 40)
theorem smallT_iff {ls : List (List Us)} : smallT ls = true ↔ (∀ l ∈ ls, l.length ≤ 40) ∧ ls.length ≤ 40 := by simp [smallT]
theorem take_all {α : Type} {p : α → Bool} {l : List α} {k : Nat} (hk : k < l.length) : (l.take (k + 1)).all p = ((l.take k).all p && p l[k]) := by
  rw [List.take_succ_eq_append_getElem hk, List.all_append]; simp
theorem not_all {α : Type} {p : α → Bool} {l : List α} {k : Nat} (hk : k < l.length) (h : p l[k] = false) : l.all p = false := by
  rw [List.all_eq_false]; exact ⟨l[k], List.getElem_mem hk, by simp [h]⟩

set_option maxRecDepth 100000 in
set_option maxHeartbeats 1000000 in
theorem small_any (v : Value) (ls : List (List Us)) (w : World) (hv : TabV w v ls) (hl : ls.length ≤ 140737488355328) (hli : ∀ l ∈ ls, l.length ≤ maxLen) :
    Calls Try.prog 36 #[v] w fun e w' => e = .returned (.bool (smallT ls)) ∧ Below w.heap.size w w' := by
  have HV := Lib.hid hv
  obtain ⟨aX, cX, rfl, hnX, _⟩ := tab_shape hv
  clear hv hnX
  go_enter Try.func36, Try.ntmps36
  go_wp2_with fail
  go_loopw [3] (fun i wr => ∃ k : Nat, k ≤ ls.length ∧ i = .int .i64 k ∧ (ls.take k).all (fun l => decide (l.length ≤ 40)) = true ∧ Below w.heap.size w wr) (fun i _ => ls.length - (intOf i).toNat)
  case atStart => exact ⟨0, Nat.zero_le _, rfl, by simp, Below.refl _ _⟩
  case round =>
    obtain ⟨k, hk, rfl, hm, hb⟩ := hrel
    have HM := Lib.hid hm
    have Hb := Lib.hid hb
    clear hm hb
    by_cases hlt : k < ls.length
    · obtain ⟨b, off, au, cu, hveq, hblt, hcell, hu⟩ := tab_at (tab_below HV.out Hb.out) hlt
      subst hveq
      have hmx := hli _ (List.getElem_mem hlt)
      have g0 : (k : Int) < (ls.length : Int) := by omega
      have g1 : (0 : Int) ≤ (k : Int) := by omega
      have HN : Hid ((ls.take (k + 1)).all (fun l => decide (l.length ≤ 40)) = decide (ls[k].length ≤ 40)) := by unfold Hid; rw [take_all hlt, HM.out, Bool.true_and]
      have HF : Hid (ls[k].length ≤ 40 ∨ smallT ls = false) := by
        unfold Hid smallT
        by_cases h : ls[k].length ≤ 40
        · exact Or.inl h
        · right; rw [not_all hlt (by simpa using h)]; rfl
      clear hu
      generalize hx : ls[k] = x at *
      clear hx
      by_cases h : x.length ≤ 40
      · have b0 : decide (((40 : Nat) : Int) < (x.length : Int)) = false := by simp; omega
        have b1 : decide ((40 : Int) < (x.length : Int)) = false := by simp; omega
        have Hh := Lib.hid h
        clear h
        go_wp2_with fail
        exact ⟨⟨k + 1, by omega, by go_num, by rw [HN.out]; simpa using Hh.out, Hb.out⟩, by simp [intOf]; omega⟩
      · have b0 : decide (((40 : Nat) : Int) < (x.length : Int)) = true := by simp; omega
        have b1 : decide ((40 : Int) < (x.length : Int)) = true := by simp; omega
        have HE := Lib.hid (HF.out.resolve_left h)
        clear h
        go_wp2_with fail
        go_ret
        exact ⟨by rw [HE.out]; rfl, Hb.out⟩
    · obtain rfl : k = ls.length := by omega
      have HE : Hid (smallT ls = decide ((ls.length : Int) ≤ 40)) := by
        have := HM.out
        rw [List.take_length] at this
        unfold Hid smallT
        rw [this, Bool.true_and]
        exact decide_eq_decide.2 (by omega)
      go_wp2_with fail
      go_ret
      exact ⟨by rw [HE.out]; rfl, Hb.out⟩

def mayT (ls : List (List Us)) : Bool := ls.all mayU && decide (1 ≤ ls.length) && decide (ls.length ≤ 1000)
theorem mayT_iff {ls : List (List Us)} : mayT ls = true ↔ (∀ l ∈ ls, mayU l = true) ∧ 1 ≤ ls.length ∧ ls.length ≤ 1000 := by simp [mayT, and_assoc]

/-- The tables are few enough for numbers. -/
def FewT (ls : List (List Us)) : Prop := (∀ l ∈ ls, l.length ≤ 100) ∧ ls.length ≤ 100

set_option maxRecDepth 100000 in
set_option maxHeartbeats 1000000 in
theorem mayTR_any (v : Value) (ls : List (List Us)) (w : World) (hv : TabV w v ls) (hf : FewT ls) :
    Calls Try.prog 37 #[v] w fun e w' => e = .returned (.bool (mayT ls)) ∧ Below w.heap.size w w' := by
  have HV := Lib.hid hv
  obtain ⟨hf1, hf2⟩ := hf
  obtain ⟨aX, cX, rfl, hnX, _⟩ := tab_shape hv
  clear hv hnX
  go_enter Try.func37, Try.ntmps37
  go_wp2_with fail
  go_loopw [3] (fun i wr => ∃ k : Nat, k ≤ ls.length ∧ i = .int .i64 k ∧ (ls.take k).all mayU = true ∧ Below w.heap.size w wr) (fun i _ => ls.length - (intOf i).toNat)
  case atStart => exact ⟨0, Nat.zero_le _, rfl, by simp, Below.refl _ _⟩
  case round =>
    obtain ⟨k, hk, rfl, hm, hb⟩ := hrel
    have HM := Lib.hid hm
    have Hb := Lib.hid hb
    clear hm hb
    by_cases hlt : k < ls.length
    · obtain ⟨b, off, au, cu, hveq, hblt, hcell, hu⟩ := tab_at (tab_below HV.out Hb.out) hlt
      subst hveq
      have hmx := hf1 _ (List.getElem_mem hlt)
      have hc := mayR_any _ _ wr hu (by omega)
      have g0 : (k : Int) < (ls.length : Int) := by omega
      have g1 : (0 : Int) ≤ (k : Int) := by omega
      have HN : Hid ((ls.take (k + 1)).all mayU = mayU ls[k]) := by unfold Hid; rw [take_all hlt, HM.out, Bool.true_and]
      have HF : Hid (mayU ls[k] = false → mayT ls = false) := by
        unfold Hid mayT
        intro h
        rw [not_all hlt h]; rfl
      clear hu
      generalize hx : ls[k] = x at *
      clear hx
      go_wp2_with fail
      refine hc.mono ?_
      rintro e w1 ⟨rfl, hb1⟩
      have HB1 := Lib.hid (below_step9 Hb.out hb1)
      clear hb1 hc
      cases hmx2 : mayU x with
      | true =>
        rw [hmx2] at HN
        clear HF hmx2
        go_wp2_with fail
        exact ⟨⟨k + 1, by omega, by go_num, HN.out, HB1.out⟩, by simp [intOf]; omega⟩
      | false =>
        have HE := Lib.hid (HF.out hmx2)
        clear HF hmx2 HN
        go_wp2_with fail
        go_ret
        exact ⟨by rw [HE.out]; rfl, HB1.out⟩
    · obtain rfl : k = ls.length := by omega
      have HE : Hid (mayT ls = (decide (1 ≤ ls.length) && decide (ls.length ≤ 1000))) := by
        have := HM.out
        rw [List.take_length] at this
        unfold Hid mayT
        rw [this, Bool.true_and]
      have z1 : decide (ls.length ≤ 1000) = true := by simp; omega
      by_cases h1 : 1 ≤ ls.length
      · have b1 : decide ((1 : Int) ≤ (ls.length : Int)) = true := by simp; omega
        have b2 : decide ((ls.length : Int) ≤ 1000) = true := by simp; omega
        have HE2 : Hid (mayT ls = true) := by unfold Hid; rw [HE.out, z1]; simp; omega
        clear h1 HE z1
        go_wp2_with fail
        go_ret
        exact ⟨by rw [HE2.out]; rfl, Hb.out⟩
      · have b1 : decide ((1 : Int) ≤ (ls.length : Int)) = false := by simp; omega
        have HE2 : Hid (mayT ls = false) := by unfold Hid; rw [HE.out]; simp; omega
        clear h1 HE z1
        go_wp2_with fail
        go_ret
        exact ⟨by rw [HE2.out]; rfl, Hb.out⟩

set_option maxRecDepth 100000 in
set_option maxHeartbeats 1000000 in
theorem sameT_any (u v : Value) (ls : List (List Us)) (w : World) (hu : TabV w u ls) (hv : TabV w v ls) (hf : FewT ls) :
    Calls Try.prog 42 #[u, v] w fun e w' => e = .returned (.bool true) ∧ Below w.heap.size w w' := by
  have HU := Lib.hid hu
  have HV := Lib.hid hv
  obtain ⟨hf1, hf2⟩ := hf
  obtain ⟨aX, cX, rfl, hnX, _⟩ := tab_shape hu
  obtain ⟨aY, cY, rfl, hnY, _⟩ := tab_shape hv
  clear hv hu hnX hnY
  go_enter Try.func42, Try.ntmps42
  go_wp2_with fail
  go_loopw [5] (fun i wr => ∃ k : Nat, k ≤ ls.length ∧ i = .int .i64 k ∧ Below w.heap.size w wr) (fun i _ => ls.length - (intOf i).toNat)
  case atStart => exact ⟨0, Nat.zero_le _, rfl, Below.refl _ _⟩
  case round =>
    obtain ⟨k, hk, rfl, hb⟩ := hrel
    have Hb := Lib.hid hb
    clear hb
    by_cases hlt : k < ls.length
    · obtain ⟨b, off, au, cu, hveq, hblt, hcell, hu⟩ := tab_at (tab_below HU.out Hb.out) hlt
      subst hveq
      obtain ⟨b', off', au', cu', hveq, hblt', hcell', hu'⟩ := tab_at (tab_below HV.out Hb.out) hlt
      subst hveq
      have hmx := hf1 _ (List.getElem_mem hlt)
      have hc : ∀ wx, Held wr wx → Calls Try.prog 28 #[.slice au ls[k].length cu, .slice au' ls[k].length cu'] wx fun e w' => e = .returned (.bool true) ∧ Below wx.heap.size wx w' := fun wx hx => same_use _ _ _ wx (sl_below hu hx.2) (sl_below hu' hx.2) (by omega)
      have g0 : (k : Int) < (ls.length : Int) := by omega
      have g1 : (0 : Int) ≤ (k : Int) := by omega
      clear hu hu'
      generalize hx : ls[k] = x at *
      clear hx
      go_wp2_with fail
      go_region_held3 (Held wr) (first | exact held_start | exact held_call (by assumption) (by assumption)) (first | (go_at_call 28; refine (hc _ (by assumption)).mono ?_; rintro e w' ⟨rfl, hb⟩))
      have hh : Held wr w' := by assumption
      have HB1 := Lib.hid (below_step9 Hb.out hh.2)
      clear hh
      go_wp2_with fail
      exact ⟨⟨k + 1, by omega, by go_num, HB1.out⟩, by simp [intOf]; omega⟩
    · obtain rfl : k = ls.length := by omega
      go_wp2_with fail
      go_ret
      exact ⟨rfl, Hb.out⟩
end Go.Proofs.Ytddbcpmhgjkjpaa
