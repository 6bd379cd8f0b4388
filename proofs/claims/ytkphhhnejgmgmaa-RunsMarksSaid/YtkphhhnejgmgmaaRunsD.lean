/- Contracts: Mark, the program's and the reference's. Conditions: numbers fit. -/
import Derived.Test.YtkphhhnejgmgmaaRunsC
namespace Go.Proofs.Ytkphhhnejgmgmaa
open Go.RowKit

theorem fits_any_true {bs : List Bool} {P M : Nat} (h : P + M ≤ bs.length) : ((bs.drop P).take M).any id = !fits bs P M := by
  unfold fits
  rw [show decide (P + M ≤ bs.length) = true from decide_eq_true h, Bool.true_and]
  generalize (bs.drop P).take M = l
  induction l with
  | nil => rfl
  | cons b l ih => simp only [List.any_cons, List.all_cons, ih, id]; cases b <;> simp

/-- A row of the call's own, one place made used. -/
theorem markP_succ {bs : List Bool} {P k : Nat} (h : P + k < bs.length) : (markP bs P k).set (P + k) true = markP bs P (k + 1) := by
  apply List.ext_getElem
  · rw [List.length_set, markP_length (by omega), markP_length (by omega)]
  · intro i h1 h2
    have g : ∀ (a n : Nat) (ha : a + n ≤ bs.length) (hi : i < (markP bs a n).length), (markP bs a n)[i] = (if a ≤ i ∧ i < a + n then true else bs.getD i true) := fun a n ha hi => by
      rw [← markP_get ha, List.getD_eq_getElem?_getD, List.getElem?_eq_getElem hi]; rfl
    rw [List.length_set] at h1
    rw [List.getElem_set, g P (k + 1) (by omega) h2, g P k (by omega) h1]
    by_cases e : P + k = i
    · rw [if_pos e, if_pos (by omega)]
    · rw [if_neg e]
      by_cases c : P ≤ i ∧ i < P + k
      · rw [if_pos c, if_pos (by omega)]
      · rw [if_neg c, if_neg (by omega)]
theorem markP_zero (bs : List Bool) (P : Nat) : markP bs P 0 = bs := by simp [markP]

set_option maxHeartbeats 1000000 in
theorem mark_no (v : Value) (bs : List Bool) (p m : Int) (w : World) (hv : BitsR w v bs) (hl : bs.length ≤ 140737488355328) (bp : p ≤ 9223372036854775807) (hf : fitsI bs p m = false) :
    Calls Try.prog 9 #[v, .int .i64 p, .int .i64 m] w fun e w' => e = .returned (.tuple #[.slice none 0 0, .bool false]) ∧ w = w' := by
  by_cases hin : 1 ≤ m ∧ 0 ≤ p ∧ p + m ≤ bs.length
  · obtain ⟨h1, h2, h3⟩ := hin
    obtain ⟨P, rfl⟩ := Int.eq_ofNat_of_zero_le h2
    obtain ⟨M, rfl⟩ := Int.eq_ofNat_of_zero_le (a := m) (by omega)
    have hf' : fits bs P M = false := by rw [fitsI_nat] at hf; simpa [h1] using hf
    have hany : ((bs.drop P).take M).any id = true := by rw [fits_any_true (by omega), hf']; rfl
    rcases sl_one hv with ⟨rfl, _⟩ | ⟨hp0, b0, o0, c0, rfl, hc0, hb0, cell0⟩
    · exfalso; simp at h3; omega
    · have hlen : ((bs.drop P).take M).length = M := by rw [List.length_take, List.length_drop]; omega
      have hs : BitsR w (.slice (some ⟨b0, o0 + P, none⟩) M (c0 - P)) ((bs.drop P).take M) := by
        have := sl_one_mk (w := w) (f := fun x : Bool => Value.bool x) (xs := (bs.drop P).take M) (b := b0) (off := o0 + P) (cap := c0 - P) (by rw [hlen]; omega) hb0 (fun i hi => by
          rw [hlen] at hi
          rw [Nat.add_assoc, cell0 (P + i) (by omega)]
          simp [List.getElem_take, List.getElem_drop])
        rwa [hlen] at this
      have q1 : (P : Int) + M ≤ c0 := by omega
      have Hany := Lib.hid hany
      clear hv cell0 hlen hf hf' hany
      have hix := index_any _ _ w hs (by rw [List.length_take]; omega)
      rw [Hany.out] at hix
      go_enter Try.func9, Try.ntmps9
      go_wp2_with fail
      refine hix.mono ?_
      rintro e w' ⟨rfl, rfl⟩
      clear hix
      go_wp2_with fail
      go_ret2
      exact ⟨rfl, rfl⟩
  · obtain ⟨a0, c0, rfl, _⟩ := hv
    clear hf
    by_cases h1 : m < 1
    · go_enter Try.func9, Try.ntmps9
      go_wp2
      go_ret2
      exact ⟨rfl, rfl⟩
    by_cases h2 : p < 0
    · go_enter Try.func9, Try.ntmps9
      go_wp2
      go_ret2
      exact ⟨rfl, rfl⟩
    by_cases h3 : (bs.length : Int) < p
    · go_enter Try.func9, Try.ntmps9
      go_wp2
      go_ret2
      exact ⟨rfl, rfl⟩
    have h4 : (bs.length : Int) - p < m := by omega
    clear hin
    go_enter Try.func9, Try.ntmps9
    go_wp2
    go_ret2
    exact ⟨rfl, rfl⟩

theorem fitsI_nats {bs : List Bool} {p m : Int} (h : fitsI bs p m = true) : ∃ P M : Nat, p = P ∧ m = M ∧ 1 ≤ M ∧ P + M ≤ bs.length ∧ fits bs P M = true := by
  unfold fitsI at h
  rw [Bool.and_eq_true, decide_eq_true_eq] at h
  exact ⟨p.toNat, m.toNat, by omega, by omega, by omega, (fits_iff.1 h.2).1, h.2⟩

set_option maxHeartbeats 1000000 in
theorem mark_yes (v : Value) (bs : List Bool) (p m : Int) (w : World) (hv : BitsR w v bs) (hl : bs.length ≤ 140737488355328) (hf : fitsI bs p m = true) :
    Calls Try.prog 9 #[v, .int .i64 p, .int .i64 m] w fun e w' => ∃ (a : Option Addr) (cap : Nat) (l : List Bool), e = .returned (.tuple #[.slice a l.length cap, .bool true]) ∧ Hid (l = markP bs p.toNat m.toNat) ∧ BitsR w' (.slice a l.length cap) l ∧ Below w.heap.size w w' := by
  obtain ⟨P, M, rfl, rfl, h1, h3, hf'⟩ := fitsI_nats hf
  rw [Int.toNat_natCast, Int.toNat_natCast]
  have hany : ((bs.drop P).take M).any id = false := by rw [fits_any_true (by omega), hf']; rfl
  have hv0 := hv
  rcases sl_one hv with ⟨rfl, _⟩ | ⟨hp0, b0, o0, c0, rfl, hc0, hb0, cell0⟩
  · exfalso; simp at h3; omega
  · have hlen : ((bs.drop P).take M).length = M := by rw [List.length_take, List.length_drop]; omega
    have hs : BitsR w (.slice (some ⟨b0, o0 + P, none⟩) M (c0 - P)) ((bs.drop P).take M) := by
      have := sl_one_mk (w := w) (f := fun x : Bool => Value.bool x) (xs := (bs.drop P).take M) (b := b0) (off := o0 + P) (cap := c0 - P) (by rw [hlen]; omega) hb0 (fun i hi => by
        rw [hlen] at hi
        rw [Nat.add_assoc, cell0 (P + i) (by omega)]
        simp [List.getElem_take, List.getElem_drop])
      rwa [hlen] at this
    have q1 : (P : Int) + M ≤ c0 := by omega
    have Hany := Lib.hid hany
    clear hv cell0 hlen hf hf' hany
    have hix := index_any _ _ w hs (by rw [List.length_take]; omega)
    rw [Hany.out] at hix
    go_enter Try.func9, Try.ntmps9
    go_wp2_with fail
    refine hix.mono ?_
    rintro e w' ⟨rfl, rfl⟩
    clear hix
    go_wp2_with fail
    refine (clone_any _ bs _ hv0 hl).mono ?_
    rintro e w1 ⟨v1, rfl, hown1, hb1⟩
    obtain ⟨g, cap, rfl, hg, hcap⟩ : ∃ g cap, v1 = .slice (some ⟨g, 0, none⟩) bs.length cap ∧ w.heap.size ≤ g ∧ bs.length ≤ cap := by
      rcases hown1.2 with ⟨_, h0⟩ | ⟨g, cap, cur, rfl, hg, _, hc, _⟩
      · omega
      · exact ⟨g, cap, rfl, hg, hc⟩
    have Hown1 := Lib.hid hown1
    clear hown1
    go_wp2_with fail
    go_loopw [40] (fun i wr => ∃ k : Nat, k ≤ M ∧ i = .int .i64 k ∧ wr.ownsRow w.heap.size 4 1 (.slice (some ⟨g, 0, none⟩) bs.length cap) bs.length ((markP bs P k).map .bool) ∧ Below w.heap.size w wr) (fun i _ => M - (intOf i).toNat)
    case atStart => exact ⟨0, Nat.zero_le _, rfl, by rw [markP_zero]; exact Hown1.out, hb1⟩
    case round =>
      obtain ⟨k, hk, rfl, hown, hb⟩ := hrel
      by_cases hlt : k < M
      · have hm := markP_length (l := bs) (a := P) (n := k) (by omega)
        obtain ⟨x, e1⟩ : ∃ x, wr.cell? ⟨g, P + k, none⟩ = some (.bool x) := ⟨(markP bs P k)[P + k]'(by omega), by
          rw [hown.cellAt (P + k) (by omega), List.getElem?_map, List.getElem?_eq_getElem (by omega)]; rfl⟩
        have e2 := hown.frozenAt (P + k)
        have hst := hown.stored (P + k) (.bool true)
        rw [show ((markP bs P k).map Value.bool).set (P + k) (Value.bool true) = (markP bs P (k + 1)).map Value.bool by rw [← markP_succ (by omega), List.map_set]] at hst
        have Hst := Lib.hid hst
        have hb2 := Lib.hid (hb.setCell (p := ⟨g, P + k, none⟩) hg (.bool true))
        have s0 : (0 : Int) ≤ (P : Int) + (k : Int) := by omega
        have s1 : (P : Int) + (k : Int) < (bs.length : Int) := by omega
        clear hst hown hm
        go_wp2_with fail
        exact ⟨⟨k + 1, by omega, by go_num, Hst.out.1, hb2.out⟩, by simp [intOf]; omega⟩
      · obtain rfl : k = M := by omega
        have Hown := Lib.hid hown
        clear hown
        have hm := Lib.hid (markP_length (l := bs) (a := P) (n := k) (by omega))
        go_wp2_with fail
        go_ret2
        refine ⟨some ⟨g, 0, none⟩, cap, markP bs P k, by rw [hm.out]; rfl, rfl, ?_, hb⟩
        have h := Hown.out
        rw [← hm.out] at h
        exact (sl_of_owns h).1

theorem rmark_no (v : Value) (bs : List Bool) (p m : Int) (w : World) (hv : BitsR w v bs) (hl : bs.length ≤ 140737488355328) (bp : p ≤ 9223372036854775807) (hf : fitsI bs p m = false) :
    Calls Try.prog 10 #[v, .int .i64 p, .int .i64 m] w fun e w' => e = .returned (.tuple #[.slice none 0 0, .bool false]) ∧ w = w' := by
  go_enter Try.func10, Try.ntmps10
  go_wp2_with fail
  refine (fits_any _ bs _ _ _ hv hl bp).mono ?_
  rintro e w' ⟨rfl, rfl⟩
  go_wp2_with fail
  go_ret2
  exact ⟨rfl, rfl⟩

set_option maxHeartbeats 1000000 in
theorem rmark_yes (v : Value) (bs : List Bool) (p m : Int) (w : World) (hv : BitsR w v bs) (hl : bs.length ≤ 140737488355328) (hf : fitsI bs p m = true) :
    Calls Try.prog 10 #[v, .int .i64 p, .int .i64 m] w fun e w' => ∃ (a : Option Addr) (cap : Nat) (l : List Bool), e = .returned (.tuple #[.slice a l.length cap, .bool true]) ∧ Hid (l = markP bs p.toNat m.toNat) ∧ BitsR w' (.slice a l.length cap) l ∧ Below w.heap.size w w' := by
  obtain ⟨i0, hi, hz0, hz1, hz2⟩ := info_parts info_bool
  obtain ⟨P, M, rfl, rfl, h1, h3, hf'⟩ := fitsI_nats hf
  rw [Int.toNat_natCast, Int.toNat_natCast]
  have hv0 := hv
  rcases sl_one hv with ⟨rfl, _⟩ | ⟨hp0, b0, o0, c0, rfl, hc0, hb0, cell0⟩
  · exfalso; simp at h3; omega
  · have hnews : ∀ (j : Nat) (u : Value), (bs.map Value.bool)[j]? = some u → (w.alloc (.cells #[] 4)).cell? ((⟨b0, o0, none⟩ : Addr).add j) = some u := by
      intro j u hj
      rw [add_none, World.cell?_alloc_lt _ _ _ hb0]
      rw [List.getElem?_map] at hj
      cases hjb : bs[j]? with
      | none => rw [hjb] at hj; cases hj
      | some x =>
        rw [hjb] at hj
        obtain ⟨hlt, rfl⟩ := List.getElem?_eq_some_iff.1 hjb
        rw [cell0 j hlt]
        exact hj
    have Hnews := Lib.hid hnews
    clear hnews cell0 hv
    go_enter Try.func10, Try.ntmps10
    go_wp2_with fail
    refine (fits_any _ bs _ _ _ hv0 hl (by omega)).mono ?_
    rintro e w' ⟨rfl, rfl⟩
    go_wp2_with (at_builtin; refine wpList_append_own _ rfl _ _ 22 rfl w.heap.size 4 i0 (.bool false) 1 1 Try.underlying22 hi hz0 hz1 hz2 rfl (by decide) _ _ _ rfl (owns_empty w 4 1) ⟨b0, o0, none⟩ bs.length c0 (bs.map Value.bool) rfl ?hl Hnews.out ?h1 ?h63 ?hby ?hbase ?_)
    case hl => simp
    case h1 => exact fun u hu => by obtain ⟨b, _, rfl⟩ := List.mem_map.1 hu; rfl
    case h63 => simp [maxLen]; omega
    case hby => omega
    case hbase => simp
    intro v1 w1 hown1 hgrow _
    have hb1 : Below w.heap.size w w1 := ((Below.refl _ _).alloc (Nat.le_refl _) _).grown hgrow (by simp) (fun k hk => by simp only [Value.ownBlock, Option.some.injEq] at hk; omega)
    obtain ⟨g, cap, rfl, hg, hcap⟩ : ∃ g cap, v1 = .slice (some ⟨g, 0, none⟩) bs.length cap ∧ w.heap.size ≤ g ∧ bs.length ≤ cap := by
      rcases hown1.2 with ⟨_, h0⟩ | ⟨g, cap, cur, rfl, hg, _, hc, _⟩
      · omega
      · exact ⟨g, cap, rfl, hg, hc⟩
    have Hown1 := Lib.hid hown1
    clear hown1 hgrow
    go_wp2_with fail
    go_loopw [9] (fun i wr => ∃ k : Nat, k ≤ M ∧ i = .int .i64 k ∧ wr.ownsRow w.heap.size 4 1 (.slice (some ⟨g, 0, none⟩) bs.length cap) bs.length ((markP bs P k).map .bool) ∧ Below w.heap.size w wr) (fun i _ => M - (intOf i).toNat)
    case atStart => exact ⟨0, Nat.zero_le _, rfl, by rw [markP_zero]; exact Hown1.out, hb1⟩
    case round =>
      obtain ⟨k, hk, rfl, hown, hb⟩ := hrel
      by_cases hlt : k < M
      · have hm := markP_length (l := bs) (a := P) (n := k) (by omega)
        obtain ⟨x, e1⟩ : ∃ x, wr.cell? ⟨g, P + k, none⟩ = some (.bool x) := ⟨(markP bs P k)[P + k]'(by omega), by
          rw [hown.cellAt (P + k) (by omega), List.getElem?_map, List.getElem?_eq_getElem (by omega)]; rfl⟩
        have e2 := hown.frozenAt (P + k)
        have hst := hown.stored (P + k) (.bool true)
        rw [show ((markP bs P k).map Value.bool).set (P + k) (Value.bool true) = (markP bs P (k + 1)).map Value.bool by rw [← markP_succ (by omega), List.map_set]] at hst
        have Hst := Lib.hid hst
        have hb2 := Lib.hid (hb.setCell (p := ⟨g, P + k, none⟩) hg (.bool true))
        have s0 : (0 : Int) ≤ (P : Int) + (k : Int) := by omega
        have s1 : (P : Int) + (k : Int) < (bs.length : Int) := by omega
        clear hst hown hm
        go_wp2_with fail
        exact ⟨⟨k + 1, by omega, by go_num, Hst.out.1, hb2.out⟩, by simp [intOf]; omega⟩
      · obtain rfl : k = M := by omega
        have Hown := Lib.hid hown
        clear hown
        have hm := Lib.hid (markP_length (l := bs) (a := P) (n := k) (by omega))
        go_wp2_with fail
        go_ret2
        refine ⟨some ⟨g, 0, none⟩, cap, markP bs P k, by rw [hm.out]; rfl, rfl, ?_, hb⟩
        have h := Hown.out
        rw [← hm.out] at h
        exact (sl_of_owns h).1
end Go.Proofs.Ytkphhhnejgmgmaa
