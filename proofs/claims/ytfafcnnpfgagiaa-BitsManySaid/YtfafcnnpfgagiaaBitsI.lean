/- The walk of BitsMany. Conditions: numbers fit. -/
import Derived.Test.YtfafcnnpfgagiaaBitsG
namespace Go.Proofs.Ytfafcnnpfgagiaa
open Go.RowKit

/-- The bits of numbers, one behind the other. -/
def catL (l : List (Int × Int × Int)) : List Bool := l.flatMap fun x => putL x.1 x.2.1.toNat
theorem catL_snoc (l : List (Int × Int × Int)) (x : Int × Int × Int) : catL (l ++ [x]) = catL l ++ putL x.1 x.2.1.toNat := by simp [catL]
theorem catL_append (l m : List (Int × Int × Int)) : catL (l ++ m) = catL l ++ catL m := by simp [catL]
theorem catL_len (l : List (Int × Int × Int)) (h : ∀ x ∈ l, putOk x.1 x.2.1 = true) : (catL l).length ≤ 30 * l.length := by
  induction l with
  | nil => simp [catL]
  | cons x l ih =>
    have h1 := putOk_iff (h x (by simp))
    have h2 := ih fun y hy => h y (by simp [hy])
    rw [catL, List.flatMap_cons, ← catL, List.length_append, putL_length, List.length_cons]
    omega

theorem cat_take (xs : List (Int × Int × Int)) (k : Nat) (hk : k < xs.length) (h : putOk xs[k].1 xs[k].2.1 = true) :
    takeN (((catL xs).drop (catL (xs.take k)).length).take xs[k].2.1.toNat) = xs[k].1 ∧ (catL (xs.take k)).length + xs[k].2.1.toNat = (catL (xs.take (k + 1))).length ∧ (catL (xs.take (k + 1))).length ≤ (catL xs).length := by
  have e : catL xs = catL (xs.take k) ++ putL xs[k].1 xs[k].2.1.toNat ++ catL (xs.drop (k + 1)) := by
    rw [← catL_snoc, ← List.take_succ_eq_append_getElem hk, ← catL_append, List.take_append_drop]
  refine ⟨by rw [e]; exact take_back _ _ h, ?_, ?_⟩
  · rw [List.take_succ_eq_append_getElem hk, catL_snoc, List.length_append, putL_length]
  · rw [List.take_succ_eq_append_getElem hk, catL_snoc, e]; simp

set_option maxHeartbeats 2000000 in
theorem many_walk (v : Value) (xs : List (Int × Int × Int)) (w : World) (hv : SlOf w v 3 (fun x => [.int .i64 x.1, .int .i64 x.2.1, .int .i64 x.2.2]) xs) (hl : xs.length ≤ 140737488355328) :
    Calls Try.prog 10 #[v] w fun e w' => e = .returned (.bool true) ∧ Below w.heap.size w w' := by
  obtain ⟨a, cap, rfl, hlc, _, hcells⟩ := id hv
  go_enter Try.func10, Try.ntmps10
  go_wp2_with fail
  refine (fixed03_any _).mono ?_
  rintro e w1 ⟨rfl, hb1⟩
  by_cases h1 : 100 < (xs.length : Int)
  · go_wp2_with fail
    refine (fixed03_any _).mono ?_
    rintro e w2 ⟨rfl, hb2⟩
    go_wp2_with fail
    go_ret
    exact ⟨rfl, hb1.trans (hb2.mono hb1.size)⟩
  · go_wp2
    have hb2 : Below w.heap.size w (w1.alloc (.cells #[] 4)) := hb1.alloc hb1.size _
    go_loopw [3, 4] (fun v i wr => ∃ (k : Nat) (a : Option Addr) (c : Nat) (l : List Bool), k ≤ xs.length ∧ i = .int .i64 k ∧ v = .slice a l.length c ∧ Hid (l = catL (xs.take k)) ∧ Bits wr (.slice a l.length c) l ∧ (∀ x ∈ xs.take k, putOk x.1 x.2.1 = true) ∧ Below w.heap.size w wr) (fun _ i _ => xs.length - (intOf i).toNat)
    case atStart => exact ⟨0, _, _, [], Nat.zero_le _, rfl, rfl, rfl, sl_nil nofun, by simp, hb2⟩
    case round =>
      obtain ⟨k, a1, c1, l1, hk, rfl, rfl, hl1, hs1, hok, hbr⟩ := hrel
      have Hok := Lib.hid hok
      clear hok
      have hlen1 : l1.length ≤ 3000 := by
        have := catL_len _ Hok.out
        rw [← hl1.out] at this
        have := List.length_take_le k xs
        omega
      by_cases hlt : k < xs.length
      · rcases hcells with rfl | ⟨b0, o0, rfl, hb0, hcell⟩
        · simp at hlt
        · have q0 : wr.cell? ⟨b0, o0 + k * 3, none⟩ = some (.int .i64 xs[k].1) := by
            rw [hbr.cell (p := ⟨b0, o0 + k * 3, none⟩) hb0]; simpa using hcell k hlt 0 (by omega)
          have q1 : wr.cell? ⟨b0, o0 + k * 3 + 1, none⟩ = some (.int .i64 xs[k].2.1) := by
            rw [hbr.cell (p := ⟨b0, o0 + k * 3 + 1, none⟩) hb0]; simpa [Nat.add_assoc] using hcell k hlt 1 (by omega)
          have hb0r : b0 < wr.heap.size := Nat.lt_of_lt_of_le hb0 hbr.size
          have HA := Lib.hid (List.take_succ_eq_append_getElem hlt)
          have s0 : (0 : Int) ≤ (k : Int) := by omega
          have s1 : (k : Int) < (xs.length : Int) := by omega
          clear hcell hv
          generalize xs[k] = x at *
          have hs1d : Bits wr.drew (.slice a1 l1.length c1) l1 := hs1
          cases hx : putOk x.1 x.2.1
          · go_wp2_with fail
            go_region_held3 (Held wr) (first | exact held_start | exact held_call (by assumption) held_start) (first | (go_at_call 20; refine (put_no _ _ _ _ hx).mono ?_; rintro e w' ⟨rfl, rfl⟩))
            go_wp2_with fail
            go_ret
            exact ⟨rfl, hbr.drew⟩
          · go_wp2_with fail
            go_region_held3 (Held wr) (first | exact held_start | exact held_call (by assumption) held_start) (first | (go_at_call 20; refine (put_sl _ l1 _ _ _ hs1d (by omega) hx).mono ?_; rintro e w' ⟨a2, c2, l2, rfl, hl2, hs2, hb⟩))
            have hh : Held wr w' := by assumption
            go_wp2_with fail
            exact ⟨⟨k + 1, a2, c2, l2, by omega, by go_num, rfl, by show l2 = _; rw [HA.out, catL_snoc, hl2.out, hl1.out], hs2, by
              rw [HA.out]
              intro y hy
              rcases List.mem_append.1 hy with h | h
              · exact Hok.out y h
              · rw [List.mem_singleton.1 h]; exact hx, hbr.trans (hh.2.mono hbr.size)⟩, by simp [intOf]; omega⟩
      · obtain rfl : k = xs.length := by omega
        have Hall : Hid (∀ x ∈ xs, putOk x.1 x.2.1 = true) := by have := Hok.out; rw [List.take_length] at this; exact this
        rw [List.take_length] at hl1
        go_wp2
        go_loop [7, 8] (fun p i => ∃ m : Nat, m ≤ xs.length ∧ i = .int .i64 m ∧ p = .int .i64 (catL (xs.take m)).length) (fun _ i => xs.length - (intOf i).toNat)
        case atStart => exact ⟨0, Nat.zero_le _, rfl, by simp [catL]⟩
        case round =>
          obtain ⟨m, hm, rfl, rfl⟩ := hrel
          by_cases hlt2 : m < xs.length
          · rcases hcells with rfl | ⟨b0, o0, rfl, hb0, hcell⟩
            · simp at hlt2
            · have q1 : wr.cell? ⟨b0, o0 + m * 3 + 1, none⟩ = some (.int .i64 xs[m].2.1) := by
                rw [hbr.cell (p := ⟨b0, o0 + m * 3 + 1, none⟩) hb0]; simpa [Nat.add_assoc] using hcell m hlt2 1 (by omega)
              have q0 : wr.cell? ⟨b0, o0 + m * 3, none⟩ = some (.int .i64 xs[m].1) := by
                rw [hbr.cell (p := ⟨b0, o0 + m * 3, none⟩) hb0]; simpa using hcell m hlt2 0 (by omega)
              obtain ⟨t1, t2, t3⟩ := cat_take xs m hlt2 (Hall.out _ (List.getElem_mem hlt2))
              obtain ⟨k1, k2, _, _⟩ := putOk_iff (Hall.out _ (List.getElem_mem hlt2))
              have s0 : (0 : Int) ≤ (m : Int) := by omega
              have s1 : (m : Int) < (xs.length : Int) := by omega
              have T := take_any (.slice a1 l1.length c1) l1 (catL (xs.take m)).length xs[m].2.1 wr hs1 (by omega) (by rw [← hl1.out] at t3; simp only [takeOk, decide_eq_true_eq]; omega)
              rw [hl1.out, Int.toNat_natCast, t1, ← hl1.out] at T
              have T2 := Lib.hid t2
              clear t1 t2 t3 hcell hv
              generalize xs[m] = x at *
              generalize hP : (catL (xs.take m)).length = P at *
              have hP1 := Lib.hid hP
              clear hP
              go_wp2_with fail
              refine T.mono ?_
              rintro e w9 ⟨rfl, rfl⟩
              clear T
              go_wp2_with fail
              exact ⟨⟨m + 1, by omega, by go_num, by have := T2.out; rw [← this]; congr 1; omega⟩, by simp [intOf]; omega⟩
          · obtain rfl : m = xs.length := by omega
            have g1 : (((catL xs).length : Int) == (l1.length : Int)) = true := by rw [← hl1.out]; simp
            clear hcells
            go_wp2_with fail
            go_ret
            exact ⟨rfl, hbr⟩
end Go.Proofs.Ytfafcnnpfgagiaa
