/- The walk of CanonBack. Conditions: numbers fit. -/
import Derived.Test.YtdbhmffiojchcaaCanL
namespace Go.Proofs.Ytdbhmffiojchcaa
open Go.RowKit

theorem sl_take {α : Type} {w : World} {a : Option Addr} {len cap k n : Nat} {E : α → List Value} {xs : List α} (h : SlOf w (.slice a len cap) k E xs) (hn : n ≤ xs.length) : SlOf w (.slice a n cap) k E (xs.take n) := by
  obtain ⟨a', cap', hv, hl, hnn, hc⟩ := h
  injection hv with q1 q2 q3
  subst q1 q2 q3
  have hlen : (xs.take n).length = n := by rw [List.length_take]; omega
  refine ⟨a, cap, by rw [hlen], by omega, hnn, ?_⟩
  rcases hc with rfl | ⟨b, off, ha, hb, hcell⟩
  · left; simp
  · right
    refine ⟨b, off, ha, hb, fun i hi j hj => ?_⟩
    have hi' : i < xs.length := by omega
    rw [hcell i hi' j hj, List.getElem_take]

set_option maxRecDepth 100000 in
set_option maxHeartbeats 8000000 in
theorem back_walk (v u : Value) (l : List Int) (m : List Bool) (x y : Int) (w : World) (hv : SlOf w v 1 (fun x => [.int .i64 x]) l) (hu : Bits w u m) (hl : l.length ≤ 140737488355328) (hlm : m.length ≤ 140737488355328) :
    Calls Try.prog 7 #[v, .agg #[.int .i64 x, .int .i64 y], u] w fun e w' => e = .returned (.bool true) ∧ Below w.heap.size w w' := by
  obtain ⟨i0, hi, hz0, hz1, hz2⟩ := info_parts info_bool
  have hv0 := hv
  have hu0 := hu
  obtain ⟨aX, cX, rfl, hcX, hnX, hcellX⟩ := hv
  obtain ⟨aU, cU, rfl, hcU, hnU, hcellU⟩ := hu
  have hB0 : Below w.heap.size w (w.alloc (.cells #[.int .i64 x, .int .i64 y] 37)) := (Below.refl _ _).alloc (Nat.le_refl _) _
  have HV := Lib.hid (sl_below hv0 hB0)
  have HU := Lib.hid (sl_below hu0 hB0)
  have HB0 := Lib.hid hB0
  clear hv0 hu0 hcellX hnX hcellU hnU hB0
  go_enter Try.func7, Try.ntmps7
  go_wp2_with fail
  have c0 : (w.alloc (.cells #[.int .i64 x, .int .i64 y] 37)).cell? ⟨w.heap.size, 0, none⟩ = some (.int .i64 x) := by rw [World.cell?_alloc_new]; rfl
  have c1 : (w.alloc (.cells #[.int .i64 x, .int .i64 y] 37)).cell? ⟨w.heap.size, 1, none⟩ = some (.int .i64 y) := by rw [World.cell?_alloc_new]; rfl
  have hlt : w.heap.size < (w.alloc (.cells #[.int .i64 x, .int .i64 y] 37)).heap.size := by simp
  generalize w.alloc (.cells #[.int .i64 x, .int .i64 y] 37) = w0 at *
  go_quiet (fail)
  go_wp2_with fail
  refine (fixed06_any _).mono ?_
  rintro e w1 ⟨rfl, hb1⟩
  have hB1 : Below w0.heap.size w0 w1 := below_step (below_drewN' (Below.refl _ _) _) hb1
  clear hb1
  by_cases h300 : 300 < l.length
  · go_wp2_with fail
    refine (fixed06_any _).mono ?_
    rintro e w2 ⟨rfl, hb2⟩
    go_wp2_with fail
    go_ret
    exact ⟨rfl, HB0.out.trans ((below_step hB1 hb2).mono (Nat.le_of_lt hlt))⟩
  by_cases h1000 : 1000 < m.length
  · go_wp2_with fail
    refine (fixed06_any _).mono ?_
    rintro e w2 ⟨rfl, hb2⟩
    go_wp2_with fail
    go_ret
    exact ⟨rfl, HB0.out.trans ((below_step hB1 hb2).mono (Nat.le_of_lt hlt))⟩
  go_wp2_with fail
  refine (write_any _ l x w1 (sl_below HV.out hB1) hl).mono ?_
  rintro e w2 ⟨a2, cc2, b2, rfl, hl2, hs2, hb2⟩
  have hB2 := below_step hB1 hb2
  clear hb2 hB1 c0 c1
  cases hok : writeOk l x with
  | false =>
    have hz : b2.length = 0 := by rw [hl2.out]; unfold writeB; rw [hok]; rfl
    rw [hz]
    go_wp2_with fail
    go_ret
    exact ⟨rfl, HB0.out.trans (hB2.mono (Nat.le_of_lt hlt))⟩
  | true =>
    obtain ⟨hlo, hx0, hxl, hne⟩ := writeOk_iff.1 hok
    obtain ⟨s, rfl⟩ := Int.eq_ofNat_of_zero_le hx0
    rw [Int.toNat_natCast] at hne
    have hs : s < l.length := by omega
    rw [List.getElem?_eq_getElem hs, Option.getD_some] at hne
    have hb2e : b2 = bitsC l s := by rw [hl2.out]; unfold writeB; rw [if_pos hok, Int.toNat_natCast]
    have hrg := (lensOk_parts hlo).2.1 l[s] (List.getElem_mem hs)
    have hb2l : (b2.length : Int) = l[s] := by rw [hb2e, bitsC_length, List.getElem?_eq_getElem hs, Option.getD_some]; omega
    have Hb2l := Lib.hid hb2l
    have hh := hit_written hlo hs hne [] m
    rw [List.nil_append, List.length_nil, ← hb2e] at hh
    have hrv : readV l (b2 ++ m) 0 = .tuple #[.int .i64 s, .int .i64 b2.length, .bool true] := by
      have h := readV_some (readO_hit hlo hh)
      rw [List.getElem?_eq_getElem hs, Option.getD_some, ← hb2l] at h
      simpa using h
    rcases sl_one (sl_below HV.out hB2) with ⟨rfl, _⟩ | ⟨_, bX, oX, cX', hveq, hcX', hbX, cellX⟩
    · simp at hs
    injection hveq with q1 q2 q3
    subst q1 q3
    have HcX := Lib.hid (cellX s hs)
    have HbX := Lib.hid hbX
    have HB2 := Lib.hid hB2
    have Hb2e := Lib.hid hb2e
    have Hs2 := Lib.hid hs2
    have Hhlo := Lib.hid hlo
    have Hne := Lib.hid hne
    have h15 : b2.length ≤ 15 := by omega
    have hpos : 0 < b2.length := by omega
    have HE := Lib.hid (owns_empty w2 4 1)
    have hS2' := sl_below hs2 ((Below.refl w2.heap.size w2).alloc (Nat.le_refl _) (.cells #[] 4))
    have HS2' := Lib.hid hS2'
    clear q2 cellX hbX hB2 hb2e hs2 hlo hne hh hS2' hrg hb2l
    go_wp2_with (first
      | (at_builtin; refine wpList_append_sl rfl _ _ 35 rfl w2.heap.size 4 i0 (.bool false) 1 Try.underlying35 hi hz0 hz1 hz2 rfl _ _ _ rfl HE.out _ rfl HS2'.out (fun _ => rfl) (by simp [maxLen]; omega) (by omega) (by simp) ?_
         intro v3 w3 hown3 hg3 _
         have hb3 : Below w2.heap.size w2 w3 := ((Below.refl _ _).alloc (Nat.le_refl _) _).grown hg3 (by simp) (fun k hk => owns_block HE.out k hk)
         have HB3 := Lib.hid (below_step HB2.out hb3)
         have HS3 := Lib.hid (sl_below Hs2.out hb3)
         have Hown3 := Lib.hid hown3
         have Hbb3 := Lib.hid hb3
         have HU3 := Lib.hid (sl_below HU.out HB3.out)
         clear hown3 hg3 HE HS2' hb3)
      | (at_builtin; refine wpList_append_sl rfl _ _ 35 rfl w2.heap.size 4 i0 (.bool false) 1 Try.underlying35 hi hz0 hz1 hz2 rfl _ _ _ rfl Hown3.out _ rfl HU3.out (fun _ => rfl) (by simp [maxLen]; omega) (by simp; omega) (by have := Hbb3.out.size; omega) ?_
         intro v4 w4 hown4 hg4 _
         have hb4 : Below w2.heap.size w2 w4 := Hbb3.out.grown hg4 (by have := Hbb3.out.size; omega) (fun k hk => owns_block Hown3.out k hk)
         have HB4 := Lib.hid (below_step HB2.out hb4)
         have Hbb4 := Lib.hid hb4
         have HS4 := Lib.hid (sl_below Hs2.out hb4)
         have Hown4 := Lib.hid hown4
         clear hown4 hg4 Hown3 HS3 hb4 HU3)
      | fail)
    have hown4 := Hown4.out
    rw [List.nil_append, ← List.map_append] at hown4
    have hr := read_any _ v4 l (b2 ++ m) 0 w4 (sl_below HV.out HB4.out) (sl_of_owns hown4).1 hl (by rw [List.length_append]; omega)
    rw [hrv] at hr
    clear hown4 Hown4 hrv
    refine hr.mono ?_
    rintro e w5 ⟨rfl, hb5⟩
    have HB5 := Lib.hid (below_step HB4.out hb5)
    have HS5 := Lib.hid (sl_below HS4.out hb5)
    have e0 : w5.cell? ⟨bX, oX + s, none⟩ = some (.int .i64 (b2.length : Int)) := by
      rw [(below_step Hbb4.out hb5).cell (p := ⟨bX, oX + s, none⟩) HbX.out, HcX.out, Hb2l.out]
    have g0 : (s : Int) < (l.length : Int) := by omega
    have g1 : (0 : Int) ≤ (s : Int) := by omega
    have d1 : ((s : Int) != (s : Int)) = false := by simp
    have d2 : ((b2.length : Int) != (b2.length : Int)) = false := by simp
    clear hr hb5 Hbb4 Hbb3 HB4 HS4 HbX HcX
    go_wp2_with fail
    refine (write_any _ l y w5 (sl_below HV.out HB5.out) hl).mono ?_
    rintro e w6 ⟨a6, cc6, b6, rfl, hl6, hs6, hb6⟩
    have HB6 := Lib.hid (below_step HB5.out hb6)
    have HS6 := Lib.hid (sl_below HS5.out hb6)
    have Hs6 := Lib.hid hs6
    clear hb6 HS5 hs6 e0
    cases hok6 : writeOk l y with
    | false =>
      go_wp2_with fail
      go_ret
      exact ⟨by simp, HB0.out.trans (HB6.out.mono (Nat.le_of_lt hlt))⟩
    | true =>
      by_cases hxy : (s : Int) = y
      · have dxy : ((s : Int) == y) = true := by simp [hxy]
        clear hxy
        go_wp2_with fail
        go_ret
        exact ⟨by simp, HB0.out.trans (HB6.out.mono (Nat.le_of_lt hlt))⟩
      have dxy : ((s : Int) == y) = false := by simp [hxy]
      by_cases hll : b6.length < b2.length
      · have dll : decide ((b6.length : Int) < (b2.length : Int)) = true := by simp; omega
        go_wp2_with fail
        go_ret
        exact ⟨by simp, HB0.out.trans (HB6.out.mono (Nat.le_of_lt hlt))⟩
      have dll : decide ((b6.length : Int) < (b2.length : Int)) = false := by simp; omega
      obtain ⟨hlo6, hy0, hyl, hne6⟩ := writeOk_iff.1 hok6
      obtain ⟨t, rfl⟩ := Int.eq_ofNat_of_zero_le hy0
      rw [Int.toNat_natCast] at hne6
      have ht : t < l.length := by omega
      rw [List.getElem?_eq_getElem ht, Option.getD_some] at hne6
      have hb6e : b6 = bitsC l t := by rw [hl6.out]; unfold writeB; rw [if_pos hok6, Int.toNat_natCast]
      have hsm : (b6.take b2.length == b2) = false := by
        simp only [beq_eq_false_iff_ne, ne_eq]
        intro h
        apply hxy
        rw [hb6e, Hb2e.out] at h
        have := no_prefix Hhlo.out hs Hne.out ht hne6 h
        omega
      rcases sl_one Hs6.out with ⟨h0, _⟩ | ⟨hp6, b6b, b6o, c6, hveq, hc6, hb6b, cell6⟩
      · have h1 : b6.length = 0 := by rw [h0]; rfl
        omega
      injection hveq with q1 _ q3
      subst q1 q3
      have hs7 := sl_take Hs6.out (n := b2.length) (by omega)
      have hlt7 : (b6.take b2.length).length = b2.length := by rw [List.length_take]; omega
      have h := same_sl _ _ _ b2 w6 hs7 HS6.out (by rw [hlt7]; omega) (by omega)
      rw [hsm] at h
      have hcap : (b2.length : Int) ≤ (cc6 : Int) := by omega
      clear hsm hb6e hs7 hlt7 cell6 hok6
      go_wp2_with fail
      refine h.mono ?_
      rintro e w7 ⟨rfl, hb7⟩
      go_wp2_with fail
      go_ret
      exact ⟨by simp, HB0.out.trans ((below_step HB6.out hb7).mono (Nat.le_of_lt hlt))⟩
end Go.Proofs.Ytdbhmffiojchcaa
