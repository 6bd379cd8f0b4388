/- Take of a slot in the first chunk that has room: the program's. Conditions: numbers fit. -/
import Derived.Test.YtddbcpmhgjkjpaaAlcD
import Derived.Test.YtddbcpmhgjkjpaaSloO
namespace Go.Proofs.Ytddbcpmhgjkjpaa
open Go.RowKit

/-- The first chunk, but one, that has room. -/
def slotT (ls : List (List Us)) (n nt : Int) : Option Nat := (List.range ls.length).find? fun i => decide ((i : Int) ≠ nt) && takeOk (ls.getD i []) n
theorem slotT_some {ls : List (List Us)} {n nt : Int} {k : Nat} (hk : k < ls.length) (hne : (k : Int) ≠ nt) (ht : takeOk ls[k] n = true) (hb : ∀ i, i < k → (decide ((i : Int) ≠ nt) && takeOk (ls.getD i []) n) = false) : slotT ls n nt = some k := by
  refine find_range hk ?_ hb
  rw [List.getD_eq_getElem?_getD, List.getElem?_eq_getElem hk]
  simp [hne, ht]
theorem slotT_none {ls : List (List Us)} {n nt : Int} (hb : ∀ i, i < ls.length → (decide ((i : Int) ≠ nt) && takeOk (ls.getD i []) n) = false) : slotT ls n nt = none := by
  unfold slotT
  rw [List.find?_eq_none]
  intro i hi
  rw [hb i (by simpa using hi)]; simp
theorem slotT_next {ls : List (List Us)} {n nt : Int} {k : Nat} (hk : k < ls.length) (hq : (k : Int) = nt ∨ takeOk ls[k] n = false) (hb : ∀ i, i < k → (decide ((i : Int) ≠ nt) && takeOk (ls.getD i []) n) = false) :
    ∀ i, i < k + 1 → (decide ((i : Int) ≠ nt) && takeOk (ls.getD i []) n) = false := by
  intro i hi
  by_cases hik : i < k
  · exact hb i hik
  · obtain rfl : i = k := by omega
    rw [List.getD_eq_getElem?_getD, List.getElem?_eq_getElem hk]
    rcases hq with h | h
    · simp [h]
    · simp [h]
theorem slotT_parts {ls : List (List Us)} {n nt : Int} {k : Nat} (h : slotT ls n nt = some k) : k < ls.length ∧ (k : Int) ≠ nt ∧ takeOk (ls.getD k []) n = true := by
  have h1 := List.mem_of_find?_eq_some h
  have h2 := List.find?_some h
  simp only [List.mem_range] at h1
  rw [Bool.and_eq_true, decide_eq_true_eq] at h2
  exact ⟨h1, h2.1, h2.2⟩
def takeTR (ls : List (List Us)) (n nt : Int) : List (List Us) × Int × Int × Bool :=
  if mayT ls = true then (match slotT ls n nt with | some i => (ls.set i (takeU (ls.getD i []) n), (i : Int), takeP (ls.getD i []) n, true) | none => ([], 0, 0, false)) else ([], 0, 0, false)
theorem takeTR_no {ls : List (List Us)} {n nt : Int} (h : mayT ls = false) : takeTR ls n nt = ([], 0, 0, false) := by unfold takeTR; rw [h]; rfl
theorem takeTR_none {ls : List (List Us)} {n nt : Int} (h : slotT ls n nt = none) : takeTR ls n nt = ([], 0, 0, false) := by unfold takeTR; rw [h]; split <;> rfl
theorem takeTR_some {ls : List (List Us)} {n nt : Int} (hm : mayT ls = true) {k : Nat} (hk : k < ls.length) (h : slotT ls n nt = some k) : takeTR ls n nt = (ls.set k (takeU ls[k] n), (k : Int), takeP ls[k] n, true) := by
  unfold takeTR; rw [hm, h, if_pos rfl]
  simp only [List.getD_eq_getElem?_getD, List.getElem?_eq_getElem hk, Option.getD_some]
abbrev TakeTV (ls : List (List Us)) (n nt : Int) (w : World) (e : Ending) (w' : World) : Prop :=
  ∃ a cap, e = .returned (.tuple #[.slice a (takeTR ls n nt).1.length cap, .int .i64 (takeTR ls n nt).2.1, .int .i64 (takeTR ls n nt).2.2.1, .bool (takeTR ls n nt).2.2.2]) ∧ TabV w' (.slice a (takeTR ls n nt).1.length cap) (takeTR ls n nt).1 ∧ Below w.heap.size w w'

set_option maxRecDepth 100000 in
set_option maxHeartbeats 2000000 in
theorem takeTP_any (v : Value) (ls : List (List Us)) (n nt : Int) (w : World) (hv : TabV w v ls) (hf : FewT ls) :
    Calls Try.prog 38 #[v, .int .i64 n, .int .i64 nt] w fun e w' => TakeTV ls n nt w e w' := by
  have hc := mayTP_any v ls w hv hf
  have hcl : ∀ w1, Below w.heap.size w w1 → _ := fun w1 hb => cloneT_any v ls w1 (tab_below hv hb) hf
  have HV := Lib.hid hv
  obtain ⟨hf1, hf2⟩ := hf
  obtain ⟨aX, cX, rfl, hnX, _⟩ := tab_shape hv
  clear hv hnX
  cases hm : mayT ls with
  | false =>
    have HE := Lib.hid (takeTR_no (n := n) (nt := nt) hm)
    rw [hm] at hc
    clear hcl hm
    go_enter Try.func38, Try.ntmps38
    go_wp2_with fail
    refine hc.mono ?_
    rintro e w1 ⟨rfl, hb1⟩
    go_wp2_with fail
    refine bodyPost_ret (v := .tuple #[.slice none 0 0, .int .i64 0, .int .i64 0, .bool false]) (by simp [results, Try.results38, go_sem]) rfl ?_
    unfold TakeTV
    rw [HE.out]
    exact ⟨none, 0, rfl, tab_nil fun _ => rfl, hb1⟩
  | true =>
    rw [hm] at hc
    have HM := Lib.hid hm
    have Hcl := Lib.hid hcl
    clear hm hcl
    go_enter Try.func38, Try.ntmps38
    go_wp2_with fail
    refine hc.mono ?_
    rintro e w1 ⟨rfl, hb1⟩
    have HB1 := Lib.hid hb1
    clear hc hb1
    go_wp2_with fail
    go_loopw [21] (fun i wr => ∃ k : Nat, k ≤ ls.length ∧ i = .int .i64 k ∧ (∀ i, i < k → (decide ((i : Int) ≠ nt) && takeOk (ls.getD i []) n) = false) ∧ Below w.heap.size w wr) (fun i _ => ls.length - (intOf i).toNat)
    case atStart => exact ⟨0, Nat.zero_le _, rfl, fun i hi => by omega, HB1.out⟩
    case round =>
      clear HB1
      obtain ⟨k, hk, rfl, hn, hb⟩ := hrel
      have HN := Lib.hid hn
      have Hb := Lib.hid hb
      clear hn hb
      by_cases hlt : k < ls.length
      · obtain ⟨b, off, au, cu, hveq, hblt, hcell, hu⟩ := tab_at (tab_below HV.out Hb.out) hlt
        subst hveq
        have hmx := hf1 _ (List.getElem_mem hlt)
        have hd := take_any _ _ n wr hu (by omega)
        have g0 : (k : Int) < (ls.length : Int) := by omega
        have g1 : (0 : Int) ≤ (k : Int) := by omega
        have HX := Lib.hid (fun hq => slotT_next (n := n) (nt := nt) hlt hq HN.out)
        have HS := Lib.hid (fun hne ht => takeTR_some HM.out hlt (slotT_some (n := n) (nt := nt) hlt hne ht HN.out))
        clear hu
        by_cases hq : (k : Int) = nt
        · have b1 : ((k : Int) == nt) = true := by simpa using hq
          have HX2 := Lib.hid (HX.out (Or.inl hq))
          clear hq hd
          go_wp2_with fail
          exact ⟨⟨k + 1, by omega, by go_num, HX2.out, Hb.out⟩, by simp [intOf]; omega⟩
        have b1 : ((k : Int) == nt) = false := by simpa using hq
        have HQ := Lib.hid hq
        clear hq
        cases ht : takeOk ls[k] n with
        | false =>
          have HX2 := Lib.hid (HX.out (Or.inr ht))
          unfold TakeV at hd
          rw [ht] at hd
          clear HX HS ht
          go_wp2_with fail
          refine hd.mono ?_
          rintro e w2 ⟨a2, c2, rfl, hu2, hb2⟩
          have HB2 := Lib.hid (below_step9 Hb.out hb2)
          clear hd hu2 hb2
          go_wp2_with fail
          exact ⟨⟨k + 1, by omega, by go_num, HX2.out, HB2.out⟩, by simp [intOf]; omega⟩
        | true =>
          have HE := Lib.hid (HS.out HQ.out ht)
          unfold TakeV at hd
          rw [ht] at hd
          clear HX HS ht
          generalize takeU ls[k] n = l2 at *
          generalize takeP ls[k] n = p2 at *
          generalize ls[k].length = xn at *
          go_wp2_with fail
          refine hd.mono ?_
          rintro e w2 ⟨a2, c2, rfl, hu2, hb2⟩
          have HB2 := Lib.hid (below_step9 Hb.out hb2)
          have HU2 := Lib.hid hu2
          have hc2 := Hcl.out w2 HB2.out
          clear hd hu2 hb2
          go_wp2_with fail
          refine hc2.mono ?_
          rintro e w3 ⟨a3, c3, rfl, ht3, hk3, hb3⟩
          have HB3 := Lib.hid (below_step9 HB2.out hb3)
          have HU3 := Lib.hid (sl_below HU2.out hb3)
          obtain ⟨b5, off5, au5, cu5, hveq, hblt5, hcell5, _⟩ := tab_at ht3 hlt
          subst hveq
          have HT3 := Lib.hid ht3
          have hwb : w.heap.size ≤ b5 := Nat.le_trans HB2.out.size (hk3 b5 rfl).1
          have hfz := (hk3 b5 rfl).2 (off5 + k)
          clear hc2 ht3 hk3 hb3
          go_wp2_with fail
          refine bodyPost_ret (v := .tuple #[.slice (some ⟨b5, off5, none⟩) ls.length c3, .int .i64 k, .int .i64 p2, .bool true]) (by simp [results, Try.results38, go_sem]) rfl ?_
          unfold TakeTV
          rw [HE.out]
          exact ⟨some ⟨b5, off5, none⟩, c3, by simp, by simpa using tab_set HT3.out hlt HU3.out, HB3.out.setCell hwb _⟩
      · obtain rfl : k = ls.length := by omega
        have HE := Lib.hid (takeTR_none (slotT_none HN.out))
        go_wp2_with fail
        refine bodyPost_ret (v := .tuple #[.slice none 0 0, .int .i64 0, .int .i64 0, .bool false]) (by simp [results, Try.results38, go_sem]) rfl ?_
        unfold TakeTV
        rw [HE.out]
        exact ⟨none, 0, rfl, tab_nil fun _ => rfl, Hb.out⟩
end Go.Proofs.Ytddbcpmhgjkjpaa
