/- The contracts of both Writes. Conditions: numbers fit. -/
import Derived.Test.YtdbhmffiojchcaaCanG
import Derived.Test.YtdbhmffiojchcaaBitsR
import Derived.Test.YtdbhmffiojchcaaHeld
namespace Go.Proofs.Ytdbhmffiojchcaa
open Go.RowKit

abbrev Bits (w : World) (v : Value) (l : List Bool) : Prop := SlOf w v 1 (fun x => [.bool x]) l
theorem put_sl (v : Value) (bs : List Bool) (n width : Int) (w : World) (hv : Bits w v bs) (hl : bs.length ≤ 140737488355232) (hok : putOk n width = true) :
    Calls Try.prog 33 #[v, .int .i64 n, .int .i64 width] w fun e w' => ∃ (a : Option Addr) (cap : Nat) (l : List Bool), e = .returned (.tuple #[.slice a l.length cap, .bool true]) ∧ Hid (l = bs ++ putL n width.toNat) ∧ Bits w' (.slice a l.length cap) l ∧ Below w.heap.size w w' :=
  (put_any v bs n width w hv hl hok).mono fun e w' ⟨v', he, hown, hb⟩ => by
    obtain ⟨a, cap, rfl, _⟩ := owns_shape hown
    exact ⟨a, cap, _, he, rfl, (sl_of_owns hown).1, hb⟩
theorem putR_sl (v : Value) (bs : List Bool) (n width : Int) (w : World) (hv : Bits w v bs) (hl : bs.length ≤ 140737488355232) (hok : putOk n width = true) :
    Calls Try.prog 34 #[v, .int .i64 n, .int .i64 width] w fun e w' => ∃ (a : Option Addr) (cap : Nat) (l : List Bool), e = .returned (.tuple #[.slice a l.length cap, .bool true]) ∧ Hid (l = bs ++ putL n width.toNat) ∧ Bits w' (.slice a l.length cap) l ∧ Below w.heap.size w w' :=
  (putR_any v bs n width w hv hl hok).mono fun e w' ⟨v', he, hown, hb⟩ => by
    obtain ⟨a, cap, rfl, _⟩ := owns_shape hown
    exact ⟨a, cap, _, he, rfl, (sl_of_owns hown).1, hb⟩

/-- May the symbol x be written? -/
def writeOk (l : List Int) (x : Int) : Bool := lensOk l && decide (0 ≤ x ∧ x < l.length ∧ l[x.toNat]?.getD 0 ≠ 0)
theorem writeOk_iff {l : List Int} {x : Int} : writeOk l x = true ↔ lensOk l = true ∧ 0 ≤ x ∧ x < l.length ∧ l[x.toNat]?.getD 0 ≠ 0 := by simp [writeOk]
theorem bits_putOk {l : List Int} (hok : lensOk l = true) {s : Nat} (hs : s < l.length) (h0 : l[s] ≠ 0) : putOk (codeC l s) l[s] = true := by
  obtain ⟨n, hn, hl⟩ := lens_get hok hs h0
  have h1 := codeC_nonneg l s
  have h2 := code_lt hok hs hl hn
  simp only [putOk, decide_eq_true_eq]
  rw [hl, Int.toNat_natCast]
  omega

set_option maxRecDepth 100000 in
set_option maxHeartbeats 2000000 in
theorem write_yes (v : Value) (l : List Int) (x : Int) (w : World) (hv : SlOf w v 1 (fun x => [.int .i64 x]) l) (hl : l.length ≤ 140737488355328) (h : writeOk l x = true) :
    Calls Try.prog 20 #[v, .int .i64 x] w fun e w' => ∃ (a : Option Addr) (cap : Nat) (b : List Bool), e = .returned (.tuple #[.slice a b.length cap, .bool true]) ∧ Hid (b = bitsC l x.toNat) ∧ Bits w' (.slice a b.length cap) b ∧ Below w.heap.size w w' := by
  obtain ⟨hok, hx0, hxl, hne⟩ := writeOk_iff.1 h
  obtain ⟨s, rfl⟩ := Int.eq_ofNat_of_zero_le hx0
  rw [Int.toNat_natCast] at hne ⊢
  have hs : s < l.length := by omega
  rw [List.getElem?_eq_getElem hs, Option.getD_some] at hne
  have h300 := (lensOk_parts hok).1
  have hrg := (lensOk_parts hok).2.1 l[s] (List.getElem_mem hs)
  have Hput := Lib.hid (bits_putOk hok hs hne)
  have hbits : Hid (bitsC l s = putL (codeC l s) l[s].toNat) := by unfold Hid bitsC; rw [List.getElem?_eq_getElem hs, Option.getD_some]
  have hcd := codes_any v l w hv hl
  rw [codesR_ok hok, hok] at hcd
  have hat : codeAt l s = (l[s], codeC l s) := by
    unfold codeAt
    rw [List.getElem?_eq_getElem hs, Option.getD_some, if_pos (by omega)]
  have Hat := Lib.hid hat
  have HOk := Lib.hid hok
  have HLn := Lib.hid (codesL_length l)
  have HGet := Lib.hid (codesL_get hs)
  clear hok h hat
  go_enter Try.func20, Try.ntmps20
  go_wp2_with fail
  refine hcd.mono ?_
  rintro e w1 ⟨v1, rfl, hsl, hb1⟩
  clear hcd
  rcases sl_codes hsl with ⟨h0, _⟩ | ⟨hp, b0, o0, c0, rfl, hc0, hb0, cell⟩
  · have := HLn.out; rw [h0] at this; simp at this; omega
  · have hcs := cell s (by rw [HLn.out]; exact hs)
    rw [HGet.out, Hat.out] at hcs
    rw [HLn.out]
    obtain ⟨e0, e1⟩ := hcs
    have hc0' := hc0
    rw [HLn.out] at hc0'
    have Hb1 := Lib.hid hb1
    have g0 : (s : Int) < (l.length : Int) := by omega
    have g1 : (0 : Int) ≤ (s : Int) := by omega
    have Hne := Lib.hid hne
    have hne2 : ¬ (l[s] = 0) := hne
    clear cell hsl hb1 hc0 hp hne
    generalize codeC l s = C at *
    generalize l[s] = n at *
    have d1 : decide ((s : Int) < 0) = false := by simp
    have d2 : decide (l.length ≤ s) = false := by simp; omega
    have d3 : (n == 0) = false := by simpa using hne2
    go_wp2_with fail
    go_region_held3 (Held w1) (first | exact held_start | exact held_call (by assumption) held_start) (first | (go_at_call 33; refine (put_sl _ [] _ _ _ (sl_nil fun _ => rfl) (by simp) Hput.out).mono ?_; rintro e w' ⟨a2, c2, l2, rfl, hl2, hs2, hb⟩))
    have hh : Held w1 w' := by assumption
    go_wp2_with fail
    refine bodyPost_ret (results_tmp2 rfl _ _ _) rfl ?_
    exact ⟨a2, c2, l2, rfl, by unfold Hid; rw [hl2.out, hbits.out, List.nil_append], hs2, Hb1.out.trans (hh.2.mono Hb1.out.size)⟩

set_option maxRecDepth 100000 in
set_option maxHeartbeats 2000000 in
theorem write_no (v : Value) (l : List Int) (x : Int) (w : World) (hv : SlOf w v 1 (fun x => [.int .i64 x]) l) (hl : l.length ≤ 140737488355328) (h : writeOk l x = false) :
    Calls Try.prog 20 #[v, .int .i64 x] w fun e w' => e = .returned (.tuple #[.slice none 0 0, .bool false]) ∧ Below w.heap.size w w' := by
  have hcd := codes_any v l w hv hl
  go_enter Try.func20, Try.ntmps20
  go_wp2_with fail
  refine hcd.mono ?_
  rintro e w1 ⟨v1, rfl, hsl, hb1⟩
  have Hb1 := Lib.hid hb1
  have Hsl := Lib.hid hsl
  clear hcd hb1 hsl hv
  cases hok : lensOk l with
  | false =>
    go_wp2_with fail
    go_ret2
    exact ⟨rfl, Hb1.out⟩
  | true =>
    have hsl := Hsl.out
    rw [codesR_ok hok] at hsl
    have HLn := Lib.hid (codesL_length l)
    by_cases hx0 : x < 0
    · go_wp2_with fail
      go_ret2
      exact ⟨rfl, Hb1.out⟩
    by_cases hxl : (l.length : Int) ≤ x
    · obtain ⟨a1, c1, rfl, _⟩ := hsl
      rw [HLn.out]
      clear Hsl
      go_wp2_with fail
      go_ret2
      exact ⟨rfl, Hb1.out⟩
    obtain ⟨s, rfl⟩ := Int.eq_ofNat_of_zero_le (a := x) (by omega)
    have hs : s < l.length := by omega
    have hz : l[s] = 0 := by
      by_cases hz : l[s] = 0
      · exact hz
      · exfalso
        have : writeOk l (s : Int) = true := writeOk_iff.2 ⟨hok, by omega, by omega, by rw [Int.toNat_natCast, List.getElem?_eq_getElem hs, Option.getD_some]; exact hz⟩
        rw [this] at h; cases h
    have hat : codeAt l s = (0, 0) := by
      unfold codeAt
      rw [List.getElem?_eq_getElem hs, Option.getD_some, hz]; rfl
    rcases sl_codes hsl with ⟨h0, _⟩ | ⟨hp, b0, o0, c0, rfl, hc0, hb0, cell⟩
    · have := HLn.out; rw [h0] at this; simp at this; omega
    · have hcs := cell s (by rw [HLn.out]; exact hs)
      rw [codesL_get hs, hat] at hcs
      rw [HLn.out]
      obtain ⟨e0, e1⟩ := hcs
      have g0 : (s : Int) < (l.length : Int) := by omega
      have g1 : (0 : Int) ≤ (s : Int) := by omega
      clear cell hsl hc0 hp hat hz Hsl h
      go_wp2_with fail
      go_ret2
      exact ⟨rfl, Hb1.out⟩

set_option maxRecDepth 100000 in
set_option maxHeartbeats 2000000 in
theorem writeR_yes (v : Value) (l : List Int) (x : Int) (w : World) (hv : SlOf w v 1 (fun x => [.int .i64 x]) l) (hl : l.length ≤ 140737488355328) (h : writeOk l x = true) :
    Calls Try.prog 21 #[v, .int .i64 x] w fun e w' => ∃ (a : Option Addr) (cap : Nat) (b : List Bool), e = .returned (.tuple #[.slice a b.length cap, .bool true]) ∧ Hid (b = bitsC l x.toNat) ∧ Bits w' (.slice a b.length cap) b ∧ Below w.heap.size w w' := by
  obtain ⟨hok, hx0, hxl, hne⟩ := writeOk_iff.1 h
  obtain ⟨s, rfl⟩ := Int.eq_ofNat_of_zero_le hx0
  rw [Int.toNat_natCast] at hne ⊢
  have hs : s < l.length := by omega
  rw [List.getElem?_eq_getElem hs, Option.getD_some] at hne
  have h300 := (lensOk_parts hok).1
  have hrg := (lensOk_parts hok).2.1 l[s] (List.getElem_mem hs)
  have Hput := Lib.hid (bits_putOk hok hs hne)
  have hbits : Hid (bitsC l s = putL (codeC l s) l[s].toNat) := by unfold Hid bitsC; rw [List.getElem?_eq_getElem hs, Option.getD_some]
  have hcd := codesR_any v l w hv hl
  rw [codesR_ok hok, hok] at hcd
  have hat : codeAt l s = (l[s], codeC l s) := by
    unfold codeAt
    rw [List.getElem?_eq_getElem hs, Option.getD_some, if_pos (by omega)]
  have Hat := Lib.hid hat
  have HOk := Lib.hid hok
  have HLn := Lib.hid (codesL_length l)
  have HGet := Lib.hid (codesL_get hs)
  rcases sl_one hv with ⟨rfl, _⟩ | ⟨_, bX, oX, cX, rfl, hcX, hbX, cellX⟩
  · simp at hs
  have eX := cellX s hs
  clear hok h hat hv cellX
  go_enter Try.func21, Try.ntmps21
  go_wp2_with fail
  refine hcd.mono ?_
  rintro e w1 ⟨v1, rfl, hsl, hb1⟩
  clear hcd
  have eX1 : w1.cell? ⟨bX, oX + s, none⟩ = some (.int .i64 l[s]) := by rw [hb1.cell (p := ⟨bX, oX + s, none⟩) hbX]; exact eX
  clear eX
  rcases sl_codes hsl with ⟨h0, _⟩ | ⟨hp, b0, o0, c0, rfl, hc0, hb0, cell⟩
  · have := HLn.out; rw [h0] at this; simp at this; omega
  · have hcs := cell s (by rw [HLn.out]; exact hs)
    rw [HGet.out, Hat.out] at hcs
    rw [HLn.out]
    obtain ⟨e0, e1⟩ := hcs
    have hc0' := hc0
    rw [HLn.out] at hc0'
    have Hb1 := Lib.hid hb1
    have g0 : (s : Int) < (l.length : Int) := by omega
    have g1 : (0 : Int) ≤ (s : Int) := by omega
    have Hne := Lib.hid hne
    have hne2 : ¬ (l[s] = 0) := hne
    clear cell hsl hb1 hc0 hp hne
    generalize codeC l s = C at *
    generalize l[s] = n at *
    go_wp2_with fail
    go_region_held3 (Held w1) (first | exact held_start | exact held_call (by assumption) held_start) (first | (go_at_call 34; refine (putR_sl _ [] _ _ _ (sl_nil fun _ => rfl) (by simp) Hput.out).mono ?_; rintro e w' ⟨a2, c2, l2, rfl, hl2, hs2, hb⟩))
    have hh : Held w1 w' := by assumption
    go_wp2_with fail
    refine bodyPost_ret (results_tmp2 rfl _ _ _) rfl ?_
    exact ⟨a2, c2, l2, rfl, by unfold Hid; rw [hl2.out, hbits.out, List.nil_append], hs2, Hb1.out.trans (hh.2.mono Hb1.out.size)⟩

set_option maxRecDepth 100000 in
set_option maxHeartbeats 2000000 in
theorem writeR_no (v : Value) (l : List Int) (x : Int) (w : World) (hv : SlOf w v 1 (fun x => [.int .i64 x]) l) (hl : l.length ≤ 140737488355328) (h : writeOk l x = false) :
    Calls Try.prog 21 #[v, .int .i64 x] w fun e w' => e = .returned (.tuple #[.slice none 0 0, .bool false]) ∧ Below w.heap.size w w' := by
  have hcd := codesR_any v l w hv hl
  have hv0 := hv
  obtain ⟨aX, cX, rfl, hcX, hnX, hcellX⟩ := hv
  have HV := Lib.hid hv0
  clear hv0 hcellX hnX
  go_enter Try.func21, Try.ntmps21
  go_wp2_with fail
  refine hcd.mono ?_
  rintro e w1 ⟨v1, rfl, hsl, hb1⟩
  have Hb1 := Lib.hid hb1
  clear hcd hb1 hsl
  cases hok : lensOk l with
  | false =>
    go_wp2_with fail
    go_ret2
    exact ⟨rfl, Hb1.out⟩
  | true =>
    by_cases hx0 : x < 0
    · go_wp2_with fail
      go_ret2
      exact ⟨rfl, Hb1.out⟩
    by_cases hxl : (l.length : Int) ≤ x
    · go_wp2_with fail
      go_ret2
      exact ⟨rfl, Hb1.out⟩
    obtain ⟨s, rfl⟩ := Int.eq_ofNat_of_zero_le (a := x) (by omega)
    have hs : s < l.length := by omega
    have hz : l[s] = 0 := by
      by_cases hz : l[s] = 0
      · exact hz
      · exfalso
        have : writeOk l (s : Int) = true := writeOk_iff.2 ⟨hok, by omega, by omega, by rw [Int.toNat_natCast, List.getElem?_eq_getElem hs, Option.getD_some]; exact hz⟩
        rw [this] at h; cases h
    rcases sl_one HV.out with ⟨rfl, _⟩ | ⟨_, bX, oX, cX, hveq, hcX, hbX, cellX⟩
    · simp at hs
    · injection hveq with h1 h2 h3
      subst h1 h3
      have eX : w1.cell? ⟨bX, oX + s, none⟩ = some (.int .i64 0) := by rw [Hb1.out.cell (p := ⟨bX, oX + s, none⟩) hbX, cellX s hs, hz]
      have g0 : (s : Int) < (l.length : Int) := by omega
      have g1 : (0 : Int) ≤ (s : Int) := by omega
      clear cellX hz h h2
      go_wp2_with fail
      go_ret2
      exact ⟨rfl, Hb1.out⟩
end Go.Proofs.Ytdbhmffiojchcaa
