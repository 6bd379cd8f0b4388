/- The walk of CanonTells. Conditions: numbers fit. -/
import Derived.Test.YtdbhmffiojchcaaCanK
namespace Go.Proofs.Ytdbhmffiojchcaa
open Go.RowKit

/-- What Write tells. -/
def writeB (l : List Int) (x : Int) : List Bool := if writeOk l x = true then bitsC l x.toNat else []
theorem bitsC_le {l : List Int} (hok : lensOk l = true) (s : Nat) : (bitsC l s).length ≤ 15 := by
  rw [bitsC_length]
  rcases Nat.lt_or_ge s l.length with h | h
  · have := (lensOk_parts hok).2.1 l[s] (List.getElem_mem h)
    rw [List.getElem?_eq_getElem h, Option.getD_some]; omega
  · rw [List.getElem?_eq_none h]; simp
theorem writeB_le (l : List Int) (x : Int) : (writeB l x).length ≤ 15 := by
  unfold writeB
  split
  · rename_i h; exact bitsC_le (writeOk_iff.1 h).1 _
  · simp
theorem write_any (v : Value) (l : List Int) (x : Int) (w : World) (hv : SlOf w v 1 (fun x => [.int .i64 x]) l) (hl : l.length ≤ 140737488355328) :
    Calls Try.prog 20 #[v, .int .i64 x] w fun e w' => ∃ (a : Option Addr) (cap : Nat) (b : List Bool), e = .returned (.tuple #[.slice a b.length cap, .bool (writeOk l x)]) ∧ Hid (b = writeB l x) ∧ Bits w' (.slice a b.length cap) b ∧ Below w.heap.size w w' := by
  cases h : writeOk l x with
  | true => exact (write_yes v l x w hv hl h).mono fun e w' ⟨a, c, b, he, hb, hB, hbl⟩ => ⟨a, c, b, he, by unfold Hid writeB; rw [if_pos h]; exact hb.out, hB, hbl⟩
  | false => exact (write_no v l x w hv hl h).mono fun e w' ⟨he, hbl⟩ => ⟨none, 0, [], he, by unfold Hid writeB; rw [h]; rfl, sl_nil fun _ => rfl, hbl⟩
theorem writeR_any (v : Value) (l : List Int) (x : Int) (w : World) (hv : SlOf w v 1 (fun x => [.int .i64 x]) l) (hl : l.length ≤ 140737488355328) :
    Calls Try.prog 21 #[v, .int .i64 x] w fun e w' => ∃ (a : Option Addr) (cap : Nat) (b : List Bool), e = .returned (.tuple #[.slice a b.length cap, .bool (writeOk l x)]) ∧ Hid (b = writeB l x) ∧ Bits w' (.slice a b.length cap) b ∧ Below w.heap.size w w' := by
  cases h : writeOk l x with
  | true => exact (writeR_yes v l x w hv hl h).mono fun e w' ⟨a, c, b, he, hb, hB, hbl⟩ => ⟨a, c, b, he, by unfold Hid writeB; rw [if_pos h]; exact hb.out, hB, hbl⟩
  | false => exact (writeR_no v l x w hv hl h).mono fun e w' ⟨he, hbl⟩ => ⟨none, 0, [], he, by unfold Hid writeB; rw [h]; rfl, sl_nil fun _ => rfl, hbl⟩
theorem readV_form (l : List Int) (b : List Bool) (p : Int) : ∃ s t m, readV l b p = .tuple #[.int .i64 s, .int .i64 t, .bool m] := by
  unfold readV
  split
  · exact ⟨_, _, _, rfl⟩
  · exact ⟨_, _, _, rfl⟩
theorem codesR_le (l : List Int) : (codesR l).length ≤ 300 := by
  unfold codesR
  split
  · rename_i h; rw [codesL_length]; exact (lensOk_parts h).1
  · simp

set_option maxRecDepth 100000 in
set_option maxHeartbeats 8000000 in
theorem tells_walk (v u : Value) (l : List Int) (b : List Bool) (x p : Int) (w : World) (hv : SlOf w v 1 (fun x => [.int .i64 x]) l) (hu : Bits w u b) (hl : l.length ≤ 140737488355328) (hlb : b.length ≤ 140737488355328) (hpb : p ≤ 9223372036854775807) :
    Calls Try.prog 6 #[v, u, .agg #[.int .i64 x, .int .i64 p]] w fun e w' => e = .returned (.bool true) ∧ Below w.heap.size w w' := by
  have hv0 := hv
  have hu0 := hu
  obtain ⟨aX, cX, rfl, hcX, hnX, hcellX⟩ := hv
  obtain ⟨aU, cU, rfl, hcU, hnU, hcellU⟩ := hu
  have hB0 : Below w.heap.size w (w.alloc (.cells #[.int .i64 x, .int .i64 p] 37)) := (Below.refl _ _).alloc (Nat.le_refl _) _
  have HV := Lib.hid (sl_below hv0 hB0)
  have HU := Lib.hid (sl_below hu0 hB0)
  have HB0 := Lib.hid hB0
  clear hv0 hu0 hcellX hnX hcellU hnU hB0
  by_cases h300 : 300 < l.length
  · go_enter Try.func6, Try.ntmps6
    go_wp2_with fail
    refine (fixed06_any _).mono ?_
    rintro e w1 ⟨rfl, hb1⟩
    go_wp2_with fail
    go_ret
    exact ⟨rfl, below_step HB0.out hb1⟩
  by_cases h1000 : 1000 < b.length
  · go_enter Try.func6, Try.ntmps6
    go_wp2_with fail
    refine (fixed06_any _).mono ?_
    rintro e w1 ⟨rfl, hb1⟩
    go_wp2_with fail
    go_ret
    exact ⟨rfl, below_step HB0.out hb1⟩
  go_enter Try.func6, Try.ntmps6
  go_wp2_with fail
  have c0 : (w.alloc (.cells #[.int .i64 x, .int .i64 p] 37)).cell? ⟨w.heap.size, 0, none⟩ = some (.int .i64 x) := by rw [World.cell?_alloc_new]; rfl
  have c1 : (w.alloc (.cells #[.int .i64 x, .int .i64 p] 37)).cell? ⟨w.heap.size, 1, none⟩ = some (.int .i64 p) := by rw [World.cell?_alloc_new]; rfl
  have hlt : w.heap.size < (w.alloc (.cells #[.int .i64 x, .int .i64 p] 37)).heap.size := by simp
  generalize w.alloc (.cells #[.int .i64 x, .int .i64 p] 37) = w0 at *
  refine (codes_any _ l w0 HV.out hl).mono ?_
  rintro e w1 ⟨v1, rfl, hs1, hb1⟩
  have hV1 := sl_below HV.out hb1
  obtain ⟨a1, cc1, rfl, _⟩ := id hs1
  go_wp2_with fail
  refine (codesR_any _ l w1 hV1 hl).mono ?_
  rintro e w2 ⟨v2, rfl, hs2, hb2⟩
  have hB2 := below_step hb1 hb2
  have hS1 := sl_below hs1 hb2
  have e0 : w2.cell? ⟨w.heap.size, 0, none⟩ = some (.int .i64 x) := by rw [hB2.cell (p := ⟨w.heap.size, 0, none⟩) hlt]; exact c0
  obtain ⟨a2, cc2, rfl, _⟩ := id hs2
  clear hb1 hb2 hs1 hV1
  go_wp2_with fail
  refine (write_any _ l x w2 (sl_below HV.out hB2) hl).mono ?_
  rintro e w3 ⟨a3, cc3, b3, rfl, hl3, hs3, hb3⟩
  have hB3 := below_step hB2 hb3
  have hS1 := sl_below hS1 hb3
  have hS2 := sl_below hs2 hb3
  have e0 : w3.cell? ⟨w.heap.size, 0, none⟩ = some (.int .i64 x) := by rw [hB3.cell (p := ⟨w.heap.size, 0, none⟩) hlt]; exact c0
  clear hb3 hs2 hB2
  go_wp2_with fail
  refine (writeR_any _ l x w3 (sl_below HV.out hB3) hl).mono ?_
  rintro e w4 ⟨a4, cc4, b4, rfl, hl4, hs4, hb4⟩
  have hB4 := below_step hB3 hb4
  have hS1 := sl_below hS1 hb4
  have hS2 := sl_below hS2 hb4
  have hS3 := sl_below hs3 hb4
  have e1 : w4.cell? ⟨w.heap.size, 1, none⟩ = some (.int .i64 p) := by rw [hB4.cell (p := ⟨w.heap.size, 1, none⟩) hlt]; exact c1
  clear hb4 hs3 hB3
  obtain ⟨rs, rt, rm, hrv⟩ := readV_form l b p
  have hr5 := read_any _ _ l b p w4 (sl_below HV.out hB4) (sl_below HU.out hB4) hl hlb
  rw [hrv] at hr5
  go_wp2_with fail
  refine hr5.mono ?_
  rintro e w5 ⟨rfl, hb5⟩
  have hB5 := below_step hB4 hb5
  have hS1 := sl_below hS1 hb5
  have hS2 := sl_below hS2 hb5
  have hS3 := sl_below hS3 hb5
  have hS4 := sl_below hs4 hb5
  have e1 : w5.cell? ⟨w.heap.size, 1, none⟩ = some (.int .i64 p) := by rw [hB5.cell (p := ⟨w.heap.size, 1, none⟩) hlt]; exact c1
  have hr6 := readR_any _ _ l b p w5 (sl_below HV.out hB5) (sl_below HU.out hB5) hl hlb hpb
  rw [hrv] at hr6
  clear hb5 hs4 hB4 hr5
  go_wp2_with fail
  refine hr6.mono ?_
  rintro e w6 ⟨rfl, hb6⟩
  have hB6 := below_step hB5 hb6
  have hS1 := sl_below hS1 hb6
  have hS2 := sl_below hS2 hb6
  have hS3 := sl_below hS3 hb6
  have hS4 := sl_below hS4 hb6
  clear hb6 hB5 hr6 hrv
  go_wp2_with fail
  refine (fixed06_any _).mono ?_
  rintro e w7 ⟨rfl, hb7⟩
  have hB7 := below_step hB6 hb7
  have hS1 := sl_below hS1 hb7
  have hS2 := sl_below hS2 hb7
  have hS3 := sl_below hS3 hb7
  have hS4 := sl_below hS4 hb7
  clear hb7 hB6
  go_wp2_with fail
  refine (sameC_eq _ _ (codesR l) _ hS1 hS2 (by have := codesR_le l; omega)).mono ?_
  rintro e w8 ⟨rfl, hb8⟩
  have hB8 := below_step hB7 hb8
  have hS3 := sl_below hS3 hb8
  have hS4 := sl_below hS4 hb8
  have h34 : b3 = b4 := hl3.out.trans hl4.out.symm
  subst h34
  have hb15 : b3.length ≤ 15 := by have := writeB_le l x; rw [← hl3.out] at this; exact this
  have hsame := same_sl _ _ b3 b3 w8 hS3 hS4 (by omega) (by omega)
  rw [show (b3 == b3) = true by simp] at hsame
  clear hb8 hB7
  generalize lensOk l = k1 at *
  generalize writeOk l x = k2 at *
  have d1 : (k1 == k1) = true := by simp
  have d2 : (k2 == k2) = true := by simp
  have d3 : (rs == rs) = true := by simp
  have d4 : (rt == rt) = true := by simp
  have d5 : (rm == rm) = true := by simp
  go_wp2_with fail
  refine hsame.mono ?_
  rintro e w9 ⟨rfl, hb9⟩
  have hB9 := below_step hB8 hb9
  go_wp2_with fail
  go_ret
  exact ⟨by simp, HB0.out.trans (hB9.mono (Nat.le_of_lt hlt))⟩
end Go.Proofs.Ytdbhmffiojchcaa
