/- The walk of BitsParts. Conditions: numbers fit. -/
import Derived.Test.YtfafcnnpfgagiaaBitsF
namespace Go.Proofs.Ytfafcnnpfgagiaa
open Go.RowKit

/-- A number in bits is its upper bits, and then its lower ones. -/
theorem putL_parts {n : Int} {W l : Nat} (h0 : 0 ≤ n) (h1 : n < p2 W) (hl : l ≤ W) : putL n W = putL (n / p2 l) (W - l) ++ putL (n % p2 l) l := by
  have hp := p2_pos l
  have e : p2 W = p2 (W - l) * p2 l := by rw [← p2_add]; congr 1; omega
  have hu0 : 0 ≤ n / p2 l := Int.ediv_nonneg h0 (by omega)
  have hu1 : n / p2 l < p2 (W - l) := Int.ediv_lt_of_lt_mul (by omega) (by rw [← e]; exact h1)
  have hv0 : 0 ≤ n % p2 l := Int.emod_nonneg _ (by omega)
  have hv1 : n % p2 l < p2 l := Int.emod_lt_of_pos _ (by omega)
  have h := put_takeN (putL (n / p2 l) (W - l) ++ putL (n % p2 l) l)
  rw [takeN_append, putL_length, takeN_put hu0 hu1, takeN_put hv0 hv1, List.length_append, putL_length, putL_length] at h
  rw [show n / p2 l * p2 l + n % p2 l = n by have := Int.mul_ediv_add_emod n (p2 l); rw [Int.mul_comm] at this; exact this, show W - l + l = W by omega] at h
  exact h
theorem parts_bd {n : Int} {W l : Nat} (h0 : 0 ≤ n) (h1 : n < p2 W) (hl : l ≤ W) : 0 ≤ n / p2 l ∧ n / p2 l < p2 (W - l) ∧ 0 ≤ n % p2 l ∧ n % p2 l < p2 l := by
  have hp := p2_pos l
  have e : p2 W = p2 (W - l) * p2 l := by rw [← p2_add]; congr 1; omega
  exact ⟨Int.ediv_nonneg h0 (by omega), Int.ediv_lt_of_lt_mul (by omega) (by rw [← e]; exact h1), Int.emod_nonneg _ (by omega), Int.emod_lt_of_pos _ (by omega)⟩

/-- A box of three. -/
theorem boxed3 (w : World) (v0 v1 v2 : Value) (t : TypeId) : ∃ W2, w.alloc (.cells #[v0, v1, v2] t) = W2 ∧
    W2.cell? ⟨w.heap.size, 0, none⟩ = some v0 ∧ W2.cell? ⟨w.heap.size, 1, none⟩ = some v1 ∧ W2.cell? ⟨w.heap.size, 2, none⟩ = some v2 ∧ w.heap.size < W2.heap.size ∧ Below w.heap.size w W2 :=
  ⟨_, rfl, by simp, by simp, by simp, by simp, (Below.refl _ _).alloc (Nat.le_refl _) _⟩

/-- What a statement comes to where its condition is not met: 'fixed' once more. -/
theorem twice {w W2 w1 w2 : World} (h0 : Below w.heap.size w W2) (h1 : Below W2.heap.size W2 w1) (h2 : Below w1.heap.size w1 w2) : Below w.heap.size w w2 :=
  h0.trans ((h1.trans (h2.mono h1.size)).mono h0.size)

set_option maxHeartbeats 2000000 in
theorem parts_walk (n width low : Int) (s : ByteArray) (w : World) (hs : s.size ≤ 140737488355328) (bn : n ≤ 9223372036854775807) :
    Calls Try.prog 8 #[.agg #[.int .i64 n, .int .i64 width, .int .i64 low], .string s] w fun e w' => e = .returned (.bool true) ∧ Below w.heap.size w w' := by
  go_enter Try.func8, Try.ntmps8
  go_wp2_with fail
  obtain ⟨W2, hW2, e0, e1, e2, hw0, hbw⟩ := boxed3 w (.int .i64 n) (.int .i64 width) (.int .i64 low) 34
  rw [hW2]
  clear hW2
  go_quiet (fail)
  go_wp2_with fail
  generalize hW3 : W2.drewN nq = W3
  have hb3 : Below w.heap.size w W3 := by rw [← hW3]; exact below_drewN' hbw _
  clear hW3 hbw e0 e1 e2 hw0
  refine (fixed03_any _).mono ?_
  rintro e w1 ⟨rfl, hb1⟩
  by_cases h1 : width < 0
  · go_wp2_with fail
    refine (fixed03_any _).mono ?_
    rintro e w2 ⟨rfl, hb2⟩
    go_wp2_with fail
    go_ret
    exact ⟨rfl, twice hb3 hb1 hb2⟩
  by_cases h2 : 30 < width
  · go_wp2_with fail
    refine (fixed03_any _).mono ?_
    rintro e w2 ⟨rfl, hb2⟩
    go_wp2_with fail
    go_ret
    exact ⟨rfl, twice hb3 hb1 hb2⟩
  by_cases h3 : low < 0
  · go_wp2_with fail
    refine (fixed03_any _).mono ?_
    rintro e w2 ⟨rfl, hb2⟩
    go_wp2_with fail
    go_ret
    exact ⟨rfl, twice hb3 hb1 hb2⟩
  by_cases h4 : width < low
  · go_wp2_with fail
    refine (fixed03_any _).mono ?_
    rintro e w2 ⟨rfl, hb2⟩
    go_wp2_with fail
    go_ret
    exact ⟨rfl, twice hb3 hb1 hb2⟩
  by_cases h5 : n < 0
  · go_wp2_with fail
    refine (fixed03_any _).mono ?_
    rintro e w2 ⟨rfl, hb2⟩
    go_wp2_with fail
    go_ret
    exact ⟨rfl, twice hb3 hb1 hb2⟩
  obtain ⟨W, rfl⟩ := Int.eq_ofNat_of_zero_le (a := width) (by omega)
  obtain ⟨l, rfl⟩ := Int.eq_ofNat_of_zero_le (a := low) (by omega)
  have hp := p2_le (n := W) (by omega)
  go_wp2_with fail
  refine (power_b _ _ (by omega)).mono ?_
  rintro e w1' ⟨rfl, hb1'⟩
  rw [Int.toNat_natCast]
  have hb1 : Below W3.heap.size W3 w1' := hb1.trans (hb1'.mono hb1.size)
  clear hb1'
  by_cases h6 : p2 W ≤ n
  · go_wp2_with fail
    refine (fixed03_any _).mono ?_
    rintro e w2 ⟨rfl, hb2⟩
    go_wp2_with fail
    go_ret
    exact ⟨rfl, twice hb3 hb1 hb2⟩
  by_cases h7 : 5000 < (s.size : Int)
  · go_wp2_with fail
    refine (fixed03_any _).mono ?_
    rintro e w2 ⟨rfl, hb2⟩
    go_wp2_with fail
    go_ret
    exact ⟨rfl, twice hb3 hb1 hb2⟩
  have hlW : l ≤ W := by omega
  have hn1 : n < p2 W := by omega
  have hn0 : 0 ≤ n := by omega
  obtain ⟨d0, d1, d2, d3⟩ := parts_bd hn0 hn1 hlW
  have hpl := p2_pos l
  have hpl2 := p2_le (n := l) (by omega)
  have Hparts := Lib.hid (putL_parts hn0 hn1 hlW)
  have Hb := hb3.trans (hb1.mono hb3.size)
  clear hb1 hb3
  go_wp2_with fail
  refine (put_sl _ [] n W _ (sl_nil fun _ => rfl) (by simp) (by simp [putOk]; omega)).mono ?_
  rintro e w2 ⟨a2, c2, l2, rfl, hl2, hs2, hb2⟩
  go_wp2_with fail
  refine (power_b _ _ (by omega)).mono ?_
  rintro e w3 ⟨rfl, hb3⟩
  rw [Int.toNat_natCast]
  have hx : wrap64 (n / p2 l) = n / p2 l := IntWalk.wrap64_in _ (by have := Int.ediv_le_self (p2 l) hn0; omega)
  have hWl : ((W : Int) - l).toNat = W - l := by omega
  go_wp2_with fail
  clear hx
  refine (put_sl _ [] (n / p2 l) (W - l) _ (sl_nil fun _ => rfl) (by simp) (by simp only [putOk, decide_eq_true_eq]; rw [hWl]; omega)).mono ?_
  rintro e w4 ⟨a4, c4, l4, rfl, hl4, hs4, hb4⟩
  rw [hWl, List.nil_append] at hl4
  have Hl4n : Hid (l4.length = W - l) := by show l4.length = W - l; rw [hl4.out, putL_length]
  go_wp2_with fail
  refine (power_b _ _ (by omega)).mono ?_
  rintro e w5 ⟨rfl, hb5⟩
  rw [Int.toNat_natCast]
  go_wp2_with fail
  refine (put_sl _ l4 (n % p2 l) l _ (sl_below hs4 hb5) (by have := Hl4n.out; omega) (by simp only [putOk, decide_eq_true_eq, Int.toNat_natCast]; omega)).mono ?_
  rintro e w6 ⟨a6, c6, l6, rfl, hl6, hs6, hb6⟩
  rw [Int.toNat_natCast] at hl6
  rw [Int.toNat_natCast, List.nil_append] at hl2
  have H26 : Hid (l2 = l6) := by
    show l2 = l6
    rw [hl2.out, hl6.out, hl4.out]; exact Hparts.out
  have hl2n : l2.length = W := by rw [hl2.out, putL_length]
  have Hl2n := Lib.hid hl2n
  have hs26 := sl_below (sl_below (sl_below (sl_below hs2 hb3) hb4) hb5) hb6
  have hbA : Below w.heap.size w w6 := ((((Hb.trans (hb2.mono Hb.size)).trans (hb3.mono (Hb.trans (hb2.mono Hb.size)).size)).trans (hb4.mono ((Hb.trans (hb2.mono Hb.size)).trans (hb3.mono (Hb.trans (hb2.mono Hb.size)).size)).size)).trans ((hb5.trans (hb6.mono hb5.size)).mono (((Hb.trans (hb2.mono Hb.size)).trans (hb3.mono (Hb.trans (hb2.mono Hb.size)).size)).trans (hb4.mono ((Hb.trans (hb2.mono Hb.size)).trans (hb3.mono (Hb.trans (hb2.mono Hb.size)).size)).size)).size))
  clear Hb hb2 hb3 hb4 hb5 hb6 hs2 hs4
  have T1 := take_any (.slice a2 l2.length c2) l2 0 ((W : Int) - l) w6 hs26 (by omega) (by simp only [takeOk, decide_eq_true_eq]; omega)
  have T2 := take_any (.slice a2 l2.length c2) l2 ((W : Int) - l) l w6 hs26 (by omega) (by simp only [takeOk, decide_eq_true_eq]; omega)
  have q1 : takeN ((l2.drop (0 : Int).toNat).take ((W : Int) - l).toNat) = n / p2 l := by
    rw [hWl, hl2.out, Hparts.out]
    rw [show (Int.toNat 0) = 0 from rfl, List.drop_zero]
    rw [List.take_left' (putL_length _ _), takeN_put d0 d1]
  have q2 : takeN ((l2.drop ((W : Int) - l).toNat).take (l : Int).toNat) = n % p2 l := by
    rw [hWl, hl2.out, Hparts.out, Int.toNat_natCast, List.drop_left' (putL_length _ _), List.take_of_length_le (by rw [putL_length]; exact Nat.le_refl _), takeN_put d2 d3]
  rw [q1, Int.zero_add] at T1
  rw [q2, Int.sub_add_cancel] at T2
  clear q1 q2 hWl hl2n
  go_wp2_with fail
  refine T1.mono ?_
  rintro e w7 ⟨rfl, rfl⟩
  clear T1
  go_wp2_with fail
  refine T2.mono ?_
  rintro e w7 ⟨rfl, rfl⟩
  clear T2
  have Hq : Hid (p2 l * (n / p2 l) + n % p2 l = n) := Int.mul_ediv_add_emod n (p2 l)
  have e26 : (l2 == l6) = true := beq_iff_eq.2 H26.out
  go_wp2_with fail
  refine (same_sl _ _ l2 l6 _ hs26 hs6 (by have := Hl2n.out; omega) (by have := Hl2n.out; rw [H26.out] at this; omega)).mono ?_
  rintro e w8 ⟨rfl, hb8⟩
  go_wp2_with fail
  refine (power_b _ _ (by omega)).mono ?_
  rintro e w9 ⟨rfl, hb9⟩
  rw [Int.toNat_natCast]
  have hbB := hbA.trans ((hb8.trans (hb9.mono hb8.size)).mono hbA.size)
  clear hb8 hb9 hbA e26
  have hm : n / p2 l * p2 l + n % p2 l = n := by rw [Int.mul_comm]; exact Hq.out
  have hm1 : 0 ≤ n / p2 l * p2 l := Int.mul_nonneg d0 (by omega)
  have x1 : wrap64 (n / p2 l * p2 l) = n / p2 l * p2 l := IntWalk.wrap64_in _ (by omega)
  have x2 : wrap64 (n / p2 l * p2 l + n % p2 l) = n := by rw [hm]; exact IntWalk.wrap64_in _ (by omega)
  clear hm
  go_wp2_with fail
  have hbs : ∀ c ∈ numsOf s, 0 ≤ c ∧ c < 256 := numsOf_bd s
  refine (unpack_sl s _ (by omega)).mono ?_
  rintro e w10 ⟨a10, c10, l10, rfl, hl10, hs10, hb10⟩
  have hl10n : l10.length ≤ 40000 := by rw [hl10.out, unpackL_length, numsOf_length]; omega
  have hpk := pack_any _ l10 w10 hs10 (by omega)
  rw [show packL l10 = numsOf s by rw [hl10.out, pack_unpack _ hbs], str_nums] at hpk
  clear hl10n x1 x2
  go_wp2_with fail
  refine hpk.mono ?_
  rintro e w11 ⟨rfl, hb11⟩
  clear hpk
  go_wp2_with fail
  go_ret
  exact ⟨by simp, hbB.trans ((hb10.trans (hb11.mono hb10.size)).mono hbB.size)⟩
end Go.Proofs.Ytfafcnnpfgagiaa
