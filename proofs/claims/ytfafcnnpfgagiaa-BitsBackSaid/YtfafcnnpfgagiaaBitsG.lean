/- The walk of BitsBack. Conditions: numbers fit. -/
import Derived.Test.YtfafcnnpfgagiaaBitsF
namespace Go.Proofs.Ytfafcnnpfgagiaa
open Go.RowKit

/-- Two boxes of three, one behind the other. -/
theorem boxed33 (w : World) (v0 v1 v2 u0 u1 u2 : Value) (t : TypeId) : ∃ W2, (w.alloc (.cells #[v0, v1, v2] t)).alloc (.cells #[u0, u1, u2] t) = W2 ∧
    W2.cell? ⟨w.heap.size, 0, none⟩ = some v0 ∧ W2.cell? ⟨w.heap.size, 1, none⟩ = some v1 ∧ W2.cell? ⟨w.heap.size, 2, none⟩ = some v2 ∧
    W2.cell? ⟨w.heap.size + 1, 0, none⟩ = some u0 ∧ W2.cell? ⟨w.heap.size + 1, 1, none⟩ = some u1 ∧ W2.cell? ⟨w.heap.size + 1, 2, none⟩ = some u2 ∧
    w.heap.size + 1 < W2.heap.size ∧ w.heap.size < W2.heap.size ∧ Below w.heap.size w W2 :=
  ⟨_, rfl, by simp, by simp, by simp, by simp, by simp, by simp, by simp, by simp; omega, ((Below.refl _ _).alloc (Nat.le_refl _) _).alloc (by simp) _⟩

theorem sl_take {α : Type} {w : World} {a : Option Addr} {n cap k m : Nat} {E : α → List Value} {xs : List α} (h : SlOf w (.slice a n cap) k E xs) (hm : m ≤ xs.length) : SlOf w (.slice a m cap) k E (xs.take m) := by
  obtain ⟨a', cap', hv, hl, hn, hc⟩ := h
  injection hv with h1 h2 h3
  subst h1 h2 h3
  have hlen : (xs.take m).length = m := by rw [List.length_take]; omega
  refine ⟨a, cap, by rw [hlen], by omega, hn, ?_⟩
  rcases hc with rfl | ⟨b, off, ha, hb, hcell⟩
  · left; simp
  · exact Or.inr ⟨b, off, ha, hb, fun i hi j hj => by
      rw [hcell i (by rw [hlen] at hi; omega) j hj, List.getElem_take]⟩

theorem putOk_iff {n width : Int} (h : putOk n width = true) : 0 ≤ width ∧ width ≤ 30 ∧ 0 ≤ n ∧ n < p2 width.toNat := by simpa [putOk] using h

/-- What is put is taken. -/
theorem take_back (bs l : List Bool) {n width : Int} (h : putOk n width = true) : takeN (((bs ++ putL n width.toNat ++ l).drop bs.length).take width.toNat) = n := by
  obtain ⟨_, _, h3, h4⟩ := putOk_iff h
  rw [List.append_assoc, List.drop_left', List.take_left' (putL_length _ _), takeN_put h3 h4]
  rfl

/-- The tail of BitsBack: d reads as L, c is as long as it must be. -/
theorem unpack_back (L : List Bool) : unpackL (numsOf (strOfNums (packL L))) = L ++ List.replicate (8 * packN L.length - L.length) false := by
  rw [nums_str (packL_bd L), unpack_pack]

set_option maxHeartbeats 2000000 in
theorem back_walk (v : Value) (b : List Bool) (xn xw xa yn yw ya : Int) (w : World) (hv : Bits w v b) (hl : b.length ≤ 140737488355232)
    (bxw : xw ≤ 9223372036854775807) :
    Calls Try.prog 7 #[v, .agg #[.int .i64 xn, .int .i64 xw, .int .i64 xa], .agg #[.int .i64 yn, .int .i64 yw, .int .i64 ya]] w fun e w' => e = .returned (.bool true) ∧ Below w.heap.size w w' := by
  obtain ⟨a, cap, rfl, _⟩ := id hv
  go_enter Try.func7, Try.ntmps7
  go_wp2_with fail
  obtain ⟨W2, hW2, e0, e1, e2, f0, f1, f2, hs2, hw0, hbw⟩ := boxed33 w (.int .i64 xn) (.int .i64 xw) (.int .i64 xa) (.int .i64 yn) (.int .i64 yw) (.int .i64 ya) 34
  rw [hW2]
  clear hW2
  have hv2 := sl_below hv hbw
  cases hx : putOk xn xw
  · refine (put_no _ xn xw _ hx).mono ?_
    rintro e w1 ⟨rfl, rfl⟩
    go_wp2_with fail
    refine (fixed03_any _).mono ?_
    rintro e w2 ⟨rfl, hb2⟩
    go_wp2_with fail
    refine (fixed03_any _).mono ?_
    rintro e w3 ⟨rfl, hb3⟩
    go_wp2_with fail
    go_ret
    exact ⟨rfl, hbw.trans ((hb2.trans (hb3.mono hb2.size)).mono (by omega))⟩
  · refine (put_sl _ b xn xw _ hv2 hl hx).mono ?_
    rintro e w1 ⟨a1, c1, l1, rfl, hl1, hs1, hb1⟩
    go_wp2_with fail
    refine (fixed03_any _).mono ?_
    rintro e w2 ⟨rfl, hb2⟩
    have hh2 := held_call hb2 (held_of hb1)
    by_cases h5 : 5000 < (b.length : Int)
    · go_wp2_with fail
      refine (fixed03_any _).mono ?_
      rintro e w3 ⟨rfl, hb3⟩
      go_wp2_with fail
      go_ret
      exact ⟨rfl, hbw.trans ((held_call hb3 hh2).2.mono (by omega))⟩
    · have hc2 := hh2.1
      have hs1' := sl_below hs1 hb2
      have hll1 : l1.length = b.length + xw.toNat := by rw [hl1.out, List.length_append, putL_length]
      obtain ⟨k1, k2, k3, k4⟩ := putOk_iff hx
      have Hll1 := Lib.hid hll1
      have hlb : l1.length ≤ 5030 := by omega
      clear hll1 hs1 hb1
      go_wp2_with fail
      cases hy : putOk yn yw
      · refine (put_no _ yn yw _ hy).mono ?_
        rintro e w3 ⟨rfl, rfl⟩
        go_wp2_with fail
        have hs1b := hs1'
        clear hs1'
        have HL : Hid (l1 = b ++ putL xn xw.toNat ++ []) := by rw [List.append_nil]; exact hl1
        have HLL : Hid (l1.length ≤ 5060 ∧ l1.length = b.length + xw.toNat) := ⟨by omega, Hll1.out⟩
        have hok2 : takeOk l1.length b.length xw = true := by
          have := HLL.out
          simp only [takeOk, decide_eq_true_eq]; omega
        have hq : takeN ((l1.drop (b.length : Int).toNat).take xw.toNat) = xn := by rw [HL.out, Int.toNat_natCast]; exact take_back b [] hx
        have ht := take_any (.slice a1 l1.length c1) l1 b.length xw w2 hs1b (by have := HLL.out; omega) hok2
        rw [hq] at ht
        clear hq
        have g1 : ((b.length : Int) + xw != (l1.length : Int)) = false := by have := Hll1.out; simp; omega
        go_wp2_with fail
        refine ht.mono ?_
        rintro e w4 ⟨rfl, rfl⟩
        clear ht
        go_wp2_with fail
        clear g1
        refine (pack_any _ l1 _ hs1b (by have := HLL.out; omega)).mono ?_
        rintro e w4 ⟨rfl, hb4⟩
        go_wp2_with fail
        refine (unpack_sl _ _ (by rw [str_size, packL_length]; have := HLL.out; unfold packN; omega)).mono ?_
        rintro e w5 ⟨a5, c5, u, rfl, hu, hs5, hb5⟩
        have hu1 : u = l1 ++ List.replicate (8 * packN l1.length - l1.length) false := by rw [hu.out, unpack_back]
        have hr : 8 * packN l1.length - l1.length ≤ 7 := by unfold packN; omega
        generalize 8 * packN l1.length - l1.length = r at *
        have hul : u.length = l1.length + r := by rw [hu1]; simp
        have Hul := Lib.hid hul
        have Hu1 := Lib.hid hu1
        have hh4 := held_call hb4 hh2
        have hh5 := held_call hb5 hh4
        have r1 : l1.length ≤ u.length := by omega
        have r2 : u.length ≤ l1.length + 7 := by omega
        have r3 : l1.length ≤ 5060 := by have := HLL.out; omega
        have r4 : (l1.length : Int) ≤ (u.length : Int) := by omega
        clear hul hu1 hu
        have hcap : (l1.length : Int) ≤ (c5 : Int) := by
          obtain ⟨_, cc, hq, hlc, _⟩ := hs5
          injection hq with _ _ hq3
          omega
        have hs6 := sl_take hs5 r1
        have hs7 := sl_below (sl_below hs1b hb4) hb5
        have heq : (u.take l1.length == l1) = true := by rw [Hu1.out, List.take_left]; exact beq_iff_eq.2 rfl
        go_wp2_with fail
        refine (same_sl _ _ (u.take l1.length) l1 _ hs6 hs7 (by rw [List.length_take]; omega) (by omega)).mono ?_
        rintro e w6 ⟨rfl, hb6⟩
        have hh6 := held_call hb6 hh5
        have hs8 := sl_below hs5 hb6
        go_wp2_with fail
        clear heq
        have Hfin : Below w.heap.size w w6 := hbw.trans (hh6.2.mono (by omega))
        clear hh6 hh5 hh4 hh2 hb4 hb5 hb6 hs1b hs5 hs6 hs7 hv2 hv
        go_loop [15] (fun i => ∃ k : Nat, l1.length ≤ k ∧ k ≤ u.length ∧ i = .int .i64 k) (fun i => u.length - (intOf i).toNat)
        case atStart => exact ⟨l1.length, Nat.le_refl _, r1, rfl⟩
        case round =>
          obtain ⟨k, hk1, hk2, rfl⟩ := hrel
          by_cases hlt : k < u.length
          · rcases sl_one hs8 with ⟨rfl, _⟩ | ⟨_, b0, o0, c0, hq, _, _, cell0⟩
            · simp at hlt
            · have e9 := cell0 k hlt
              have hf : u[k] = false := by simp only [Hu1.out]; rw [List.getElem_append_right hk1]; simp
              rw [hf] at e9
              injection hq with q1 q2 q3
              subst q1
              clear cell0 hf
              have s1 : (0 : Int) ≤ (k : Int) := by omega
              have s2 : (k : Int) < (u.length : Int) := by omega
              go_wp2
              exact ⟨⟨k + 1, by omega, by omega, by go_num⟩, by simp [intOf]; omega⟩
          · go_wp2
            go_ret
            exact ⟨rfl, Hfin⟩
      · refine (put_sl _ l1 yn yw _ hs1' (by omega) hy).mono ?_
        rintro e w3 ⟨a3, c3, L, rfl, hL, hs3, hb3⟩
        have hh3 := held_call hb3 hh2
        have hc3 := hh3.1
        obtain ⟨j1, j2, j3, j4⟩ := putOk_iff hy
        have hLL : L.length = l1.length + yw.toNat := by rw [hL.out, List.length_append, putL_length]
        have HLL : Hid (L.length ≤ 5060 ∧ L.length = b.length + xw.toNat + yw.toNat) := ⟨by omega, by have := Hll1.out; omega⟩
        have HL : Hid (L = b ++ putL xn xw.toNat ++ putL yn yw.toNat) := by have := hL.out; rw [hl1.out] at this; exact this
        generalize putL yn yw.toNat = M at *
        clear hLL hL hb3
        go_wp2_with fail
        have hok2 : takeOk L.length b.length xw = true := by
          have := HLL.out
          simp only [takeOk, decide_eq_true_eq]; omega
        have hq : takeN ((L.drop (b.length : Int).toNat).take xw.toNat) = xn := by rw [HL.out, Int.toNat_natCast]; exact take_back b M hx
        have ht := take_any (.slice a3 L.length c3) L b.length xw w3 hs3 (by have := HLL.out; omega) hok2
        rw [hq] at ht
        clear hq
        have g1 : ((b.length : Int) + xw != (l1.length : Int)) = false := by have := Hll1.out; simp; omega
        go_wp2_with fail
        refine ht.mono ?_
        rintro e w4 ⟨rfl, rfl⟩
        clear ht
        go_wp2_with fail
        clear g1
        refine (pack_any _ L _ hs3 (by have := HLL.out; omega)).mono ?_
        rintro e w4 ⟨rfl, hb4⟩
        go_wp2_with fail
        refine (unpack_sl _ _ (by rw [str_size, packL_length]; have := HLL.out; unfold packN; omega)).mono ?_
        rintro e w5 ⟨a5, c5, u, rfl, hu, hs5, hb5⟩
        have hu1 : u = L ++ List.replicate (8 * packN L.length - L.length) false := by rw [hu.out, unpack_back]
        have hr : 8 * packN L.length - L.length ≤ 7 := by unfold packN; omega
        generalize 8 * packN L.length - L.length = r at *
        have hul : u.length = L.length + r := by rw [hu1]; simp
        have Hul := Lib.hid hul
        have Hu1 := Lib.hid hu1
        have hh4 := held_call hb4 hh3
        have hh5 := held_call hb5 hh4
        have r1 : L.length ≤ u.length := by omega
        have r2 : u.length ≤ L.length + 7 := by omega
        have r3 : L.length ≤ 5060 := by have := HLL.out; omega
        have r4 : (L.length : Int) ≤ (u.length : Int) := by omega
        clear hul hu1 hu
        have hcap : (L.length : Int) ≤ (c5 : Int) := by
          obtain ⟨_, cc, hq, hlc, _⟩ := hs5
          injection hq with _ _ hq3
          omega
        have hs6 := sl_take hs5 r1
        have hs7 := sl_below (sl_below hs3 hb4) hb5
        have heq : (u.take L.length == L) = true := by rw [Hu1.out, List.take_left]; exact beq_iff_eq.2 rfl
        go_wp2_with fail
        refine (same_sl _ _ (u.take L.length) L _ hs6 hs7 (by rw [List.length_take]; omega) (by omega)).mono ?_
        rintro e w6 ⟨rfl, hb6⟩
        have hh6 := held_call hb6 hh5
        have hs8 := sl_below hs5 hb6
        go_wp2_with fail
        clear heq
        have Hfin : Below w.heap.size w w6 := hbw.trans (hh6.2.mono (by omega))
        clear hh6 hh5 hh4 hh3 hb4 hb5 hb6 hs3 hs5 hs6 hs7 hv2 hv hs1'
        go_loop [15] (fun i => ∃ k : Nat, L.length ≤ k ∧ k ≤ u.length ∧ i = .int .i64 k) (fun i => u.length - (intOf i).toNat)
        case atStart => exact ⟨L.length, Nat.le_refl _, r1, rfl⟩
        case round =>
          obtain ⟨k, hk1, hk2, rfl⟩ := hrel
          by_cases hlt : k < u.length
          · rcases sl_one hs8 with ⟨rfl, _⟩ | ⟨_, b0, o0, c0, hq, _, _, cell0⟩
            · simp at hlt
            · have e9 := cell0 k hlt
              have hf : u[k] = false := by simp only [Hu1.out]; rw [List.getElem_append_right hk1]; simp
              rw [hf] at e9
              injection hq with q1 q2 q3
              subst q1
              clear cell0 hf
              have s1 : (0 : Int) ≤ (k : Int) := by omega
              have s2 : (k : Int) < (u.length : Int) := by omega
              go_wp2
              exact ⟨⟨k + 1, by omega, by omega, by go_num⟩, by simp [intOf]; omega⟩
          · go_wp2
            go_ret
            exact ⟨rfl, Hfin⟩
end Go.Proofs.Ytfafcnnpfgagiaa
