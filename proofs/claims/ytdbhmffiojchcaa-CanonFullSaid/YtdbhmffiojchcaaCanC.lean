/- The contract of bookOf. Conditions: numbers fit. -/
import Derived.Test.YtdbhmffiojchcaaCanB
namespace Go.Proofs.Ytdbhmffiojchcaa
open Go.RowKit

/-- The book of lengths that may be. -/
def bookCells (l : List Int) : List Value := bookOf (manyB l) (firstB l 16)
abbrev zeroBook : List Value := List.replicate 32 (.int .i64 0)
theorem zeroBook_eq : bookOf (fun _ => 0) (fun _ => 0) = zeroBook := rfl
theorem zeroBook_one : ∀ x, x ∈ zeroBook → x.oneCell' = true := by
  intro x hx
  rw [List.eq_of_mem_replicate hx]; rfl
theorem bookCells_one (l : List Int) : ∀ x, x ∈ bookCells l → x.oneCell' = true := List.all_eq_true.1 (bookOf_one _ _)
theorem first_many_bd {l : List Int} (h : lensOk l = true) {M : Nat} (hM : M < 15) : 0 ≤ firstC l M ∧ firstC l M + manyB l M ≤ 32768 := by
  have h0 := firstC_nonneg l M
  refine ⟨h0, ?_⟩
  rcases M with _ | M
  · simp [firstC, manyB]
  · have := first_cnt_le h (n := M) (by omega)
    have h2 := p2_mono (m := M + 1) (n := 15) (by omega)
    rw [p2_15] at h2
    unfold manyB
    rw [if_neg (by omega)]
    omega

set_option maxRecDepth 100000 in
set_option maxHeartbeats 4000000 in
theorem bookOf_any (v : Value) (l : List Int) (w : World) (hv : SlOf w v 1 (fun x => [.int .i64 x]) l) (hl : l.length ≤ 140737488355328) :
    Calls Try.prog 32 #[v] w fun e w' => ∃ cs : List Value, cs.length = 32 ∧ cs.all (·.oneCell') = true ∧ (lensOk l = true → cs = bookCells l) ∧ e = .returned (.tuple #[.agg cs.toArray, .bool (lensOk l)]) ∧ Below w.heap.size w w' := by
  have hv0 := hv
  obtain ⟨aX, cX, rfl, hcX, hnX, hcellX⟩ := hv
  have HV := Lib.hid hv0
  clear hv0 hcellX hnX
  have hA0 : Arr (w.alloc (.cells zeroBook.toArray 65)) w.heap.size 65 zeroBook := arr_new w _ _
  have hA1 : Arr ((w.alloc (.cells zeroBook.toArray 65)).alloc (.cells zeroBook.toArray 65)) w.heap.size 65 zeroBook := arr_old hA0 _
  have hA2 : Arr ((w.alloc (.cells zeroBook.toArray 65)).alloc (.cells zeroBook.toArray 65)) (w.alloc (.cells zeroBook.toArray 65)).heap.size 65 zeroBook := arr_new _ _ _
  have hB : Below w.heap.size w ((w.alloc (.cells zeroBook.toArray 65)).alloc (.cells zeroBook.toArray 65)) := ((Below.refl _ _).alloc (Nat.le_refl _) _).alloc (by simp) _
  have HA1 := Lib.hid hA1
  have HA2 := Lib.hid hA2
  have HB := Lib.hid hB
  clear hA0 hA1 hA2 hB
  by_cases h300 : 300 < l.length
  · have hbad : lensOk l = false := by
      cases h : lensOk l with
      | false => rfl
      | true => have := (lensOk_parts h).1; omega
    have g0 : (300 : Int) < (l.length : Int) := by omega
    go_enter Try.func32, Try.ntmps32
    go_wp2_with (first | (refine wpList_store_arr rfl 65 _ _ rfl w.heap.size zeroBook zeroBook 32 rfl rfl 65 HA1.out info_book rfl rfl rfl ?_; intro w2 hA hb hsz _) | fail)
    refine bodyPost_ret (results_arr rfl _ _ w.heap.size zeroBook 32 rfl 65 hA _ Try.underlying65 rfl info_book rfl) rfl ?_
    exact ⟨zeroBook, rfl, by first | rfl | exact zeroBook_one, fun h => absurd h (by rw [hbad]; decide), by rw [hbad]; rfl, HB.out.trans (hb _ (Nat.le_refl _))⟩
  · have g0 : ¬ (300 : Int) < (l.length : Int) := by omega
    have hK : (w.alloc (.cells zeroBook.toArray 65)).heap.size = w.heap.size + 1 := by simp
    rw [hK] at HA2
    go_enter Try.func32, Try.ntmps32
    go_wp2_with fail
    go_loopw [14] (fun i wr => ∃ k : Nat, k ≤ l.length ∧ i = .int .i64 k ∧ Arr wr w.heap.size 65 zeroBook ∧ Arr wr (w.heap.size + 1) 65 (bookOf (manyB (l.take k)) (fun _ => 0)) ∧ Below w.heap.size w wr ∧ ∀ x ∈ l.take k, 0 ≤ x ∧ x ≤ 15) (fun i _ => l.length - (intOf i).toNat)
    case atStart => exact ⟨0, Nat.zero_le _, rfl, HA1.out, by rw [show bookOf (manyB (l.take 0)) (fun _ => 0) = zeroBook by rw [← zeroBook_eq]; exact bookOf_congr fun j _ => ⟨by simp [manyB, cntL], rfl⟩]; exact HA2.out, HB.out, by simp⟩
    case round =>
      obtain ⟨k, hk, rfl, hA, hM, hb, hall⟩ := hrel
      have Hall := Lib.hid hall
      have HAr := Lib.hid hA
      have HMr := Lib.hid hM
      have Hb := Lib.hid hb
      clear hall hA hM hb
      by_cases hlt : k < l.length
      · rcases sl_one HV.out with ⟨rfl, _⟩ | ⟨hp0, b0, o0, c0, hveq, hc0, hb0, cell0⟩
        · simp at hlt
        · injection hveq with h1 h2 h3
          subst h1 h3
          have e0 : wr.cell? ⟨b0, o0 + k, none⟩ = some (.int .i64 l[k]) := by rw [Hb.out.cell (p := ⟨b0, o0 + k, none⟩) hb0]; exact cell0 k hlt
          have HT := Lib.hid (List.take_succ_eq_append_getElem hlt)
          have HX := Lib.hid (rfl : l[k] = l[k])
          have hmem : l[k] ∈ l := List.getElem_mem hlt
          have hbad : ¬ (0 ≤ l[k] ∧ l[k] ≤ 15) → lensOk l = false := fun hx => by
            cases h : lensOk l with
            | false => rfl
            | true => exact absurd ((lensOk_parts h).2.1 _ hmem) hx
          have Hbad := Lib.hid hbad
          have g1 : (k : Int) < (l.length : Int) := by omega
          have g2 : (0 : Int) ≤ (k : Int) := by omega
          clear cell0 hmem hbad h2
          have Hall' : Hid (0 ≤ l[k] ∧ l[k] ≤ 15 → ∀ x ∈ l.take (k + 1), 0 ≤ x ∧ x ≤ 15) := by
            unfold Hid
            intro hx y hy
            rw [HT.out, List.mem_append, List.mem_singleton] at hy
            rcases hy with hy | rfl
            · exact Hall.out y hy
            · exact hx
          generalize l[k] = x at *
          by_cases hx0 : x < 0
          · have hbad := Hbad.out (by omega)
            have HBad := Lib.hid hbad
            clear hbad
            go_wp2_with (first | (refine wpList_store_arr rfl 65 _ _ rfl w.heap.size zeroBook zeroBook 32 rfl rfl 65 HAr.out info_book rfl rfl rfl ?_; intro w2 hA hb hsz _) | fail)
            refine bodyPost_ret (results_arr rfl _ _ w.heap.size zeroBook 32 rfl 65 hA _ Try.underlying65 rfl info_book rfl) rfl ?_
            exact ⟨zeroBook, rfl, by first | rfl | exact zeroBook_one, fun h => absurd h (by rw [HBad.out]; decide), by rw [HBad.out]; rfl, Hb.out.trans (hb _ (Nat.le_refl _))⟩
          by_cases hx15 : 15 < x
          · have hbad := Hbad.out (by omega)
            have HBad := Lib.hid hbad
            clear hbad
            go_wp2_with (first | (refine wpList_store_arr rfl 65 _ _ rfl w.heap.size zeroBook zeroBook 32 rfl rfl 65 HAr.out info_book rfl rfl rfl ?_; intro w2 hA hb hsz _) | fail)
            refine bodyPost_ret (results_arr rfl _ _ w.heap.size zeroBook 32 rfl 65 hA _ Try.underlying65 rfl info_book rfl) rfl ?_
            exact ⟨zeroBook, rfl, by first | rfl | exact zeroBook_one, fun h => absurd h (by rw [HBad.out]; decide), by rw [HBad.out]; rfl, Hb.out.trans (hb _ (Nat.le_refl _))⟩
          obtain ⟨n, rfl⟩ := Int.eq_ofNat_of_zero_le (a := x) (by omega)
          have hn16 : n < 16 := by omega
          have HS : Hid (∀ j, manyB (l.take (k + 1)) j = manyB (l.take k) j + if 0 < (n : Int) ∧ (n : Int) = j then 1 else 0) := by
            unfold Hid
            intro j; rw [HT.out]; exact manyB_snoc _ _ (by omega) j
          by_cases hn0 : n = 0
          · subst hn0
            have hx0' : ¬ (0 : Int) < 0 := by omega
            go_wp2_with fail
            refine ⟨⟨k + 1, by omega, by go_num, HAr.out, ?_, Hb.out, Hall'.out (by omega)⟩, by simp [intOf]; omega⟩
            rw [show bookOf (manyB (l.take (k + 1))) (fun _ => 0) = bookOf (manyB (l.take k)) (fun _ => 0) from bookOf_congr fun j _ => ⟨by rw [HS.out j]; simp, rfl⟩]
            exact HMr.out
          · have hn1 : 0 < (n : Int) := by omega
            have e1 : wr.cell? ⟨w.heap.size + 1, n, none⟩ = some (.int .i64 (manyB (l.take k) n)) := by rw [arr_cell HMr.out, bookOf_many _ _ hn16]
            have e2 := arr_frozen HMr.out n
            have hbd := manyB_bd (l.take k) n
            have hle := List.length_take_le k l
            have m0 := hbd.1
            have m1 : manyB (l.take k) n ≤ 300 := by omega
            have HSet := Lib.hid (arr_set HMr.out n (.int .i64 (manyB (l.take k) n + 1)))
            have HAk := Lib.hid (arr_other (i := n) (v := .int .i64 (manyB (l.take k) n + 1)) HAr.out (show w.heap.size ≠ w.heap.size + 1 by omega))
            have Hbk := Lib.hid (Hb.out.setCell (p := ⟨w.heap.size + 1, n, none⟩) (by simp) (.int .i64 (manyB (l.take k) n + 1)))
            have HN : Hid (bookOf (manyB (l.take k)) (fun _ => 0) |>.set n (.int .i64 (manyB (l.take k) n + 1)) |> (· = bookOf (manyB (l.take (k + 1))) (fun _ => 0))) := by
              unfold Hid
              exact bookOf_set_many _ _ _ hn16 _ (by rw [HS.out n, if_pos ⟨hn1, rfl⟩]) (fun i hi => by rw [HS.out i, if_neg (by omega)]; simp)
            clear hbd hle HS
            generalize manyB (l.take k) n = m at *
            go_wp2_with fail
            refine ⟨⟨k + 1, by omega, by go_num, HAk.out, ?_, Hbk.out, Hall'.out (by omega)⟩, by simp [intOf]; omega⟩
            rw [← HN.out]
            exact HSet.out
      · obtain rfl : k = l.length := by omega
        have HT := Lib.hid (List.take_length (l := l))
        go_wp2_with fail
        refine (kraft_any _ l wr (sl_below HV.out Hb.out) hl).mono ?_
        rintro e w1 ⟨rfl, rfl⟩
        by_cases hkr : 32768 < kraftL l
        · have hbad : lensOk l = false := by
            cases h : lensOk l with
            | false => rfl
            | true => have := (lensOk_parts h).2.2; omega
          have HBad := Lib.hid hbad
          clear hbad
          generalize kraftL l = kr at *
          go_wp2_with (first | (refine wpList_store_arr rfl 65 _ _ rfl w.heap.size zeroBook zeroBook 32 rfl rfl 65 HAr.out info_book rfl rfl rfl ?_; intro w2 hA hb hsz _) | fail)
          refine bodyPost_ret (results_arr rfl _ _ w.heap.size zeroBook 32 rfl 65 hA _ Try.underlying65 rfl info_book rfl) rfl ?_
          exact ⟨zeroBook, rfl, by first | rfl | exact zeroBook_one, fun h => absurd h (by rw [HBad.out]; decide), by rw [HBad.out]; rfl, Hb.out.trans (hb _ (Nat.le_refl _))⟩
        · have hok : lensOk l = true := lensOk_of (by omega) (by have := Hall.out; rw [HT.out] at this; exact this) (by omega)
          have HOk := Lib.hid hok
          clear hok
          have hMr := HMr.out
          rw [HT.out] at hMr
          have HM0 := Lib.hid hMr
          clear hMr HMr Hall
          generalize kraftL l = kr at *
          go_wp2_with fail
          obtain ⟨wo, hwo⟩ : ∃ wo : World, wo = wr := ⟨_, rfl⟩
          subst hwo
          go_loopw [7] (fun i wr => ∃ M : Nat, M ≤ 15 ∧ i = .int .i64 ((M : Int) + 1) ∧ Arr wr w.heap.size 65 zeroBook ∧ Arr wr (w.heap.size + 1) 65 (bookOf (manyB l) (firstB l (M + 1))) ∧ Below w.heap.size w wr) (fun i _ => 17 - (intOf i).toNat)
          case atStart => exact ⟨0, by omega, rfl, HAr.out, by rw [show bookOf (manyB l) (firstB l (0 + 1)) = bookOf (manyB l) (fun _ => 0) from bookOf_congr fun j _ => ⟨rfl, by unfold firstB; by_cases hj : j = 0; (subst hj; rfl); (rw [if_neg (by omega)])⟩]; exact HM0.out, Hb.out⟩
          case round =>
            obtain ⟨M, hM, rfl, hA2, hM2, hb2⟩ := hrel
            have HA2r := Lib.hid hA2
            have HM2r := Lib.hid hM2
            have Hb2r := Lib.hid hb2
            clear hA2 hM2 hb2 HAr HM0
            by_cases hM15 : M < 15
            · have e1 : wr.cell? ⟨w.heap.size + 1, M, none⟩ = some (.int .i64 (manyB l M)) := by rw [arr_cell HM2r.out, bookOf_many _ _ (by omega)]
              have e2 : wr.cell? ⟨w.heap.size + 1, 16 + M, none⟩ = some (.int .i64 (firstC l M)) := by rw [arr_cell HM2r.out, bookOf_first _ _ (by omega)]; simp [firstB]
              have e3 := arr_frozen HM2r.out (16 + (M + 1))
              have e4 : wr.cell? ⟨w.heap.size + 1, 16 + (M + 1), none⟩ = some (.int .i64 0) := by rw [arr_cell HM2r.out, bookOf_first _ _ (by omega)]; simp [firstB]
              obtain ⟨f0, f1⟩ := first_many_bd HOk.out hM15
              have m0 := (manyB_bd l M).1
              have f2 : firstC l M ≤ 32768 := by omega
              have m1 : manyB l M ≤ 32768 := by omega
              have HSet := Lib.hid (arr_set HM2r.out (16 + (M + 1)) (.int .i64 ((firstC l M + manyB l M) * 2)))
              have HAk := Lib.hid (arr_other (i := 16 + (M + 1)) (v := .int .i64 ((firstC l M + manyB l M) * 2)) HA2r.out (show w.heap.size ≠ w.heap.size + 1 by omega))
              have Hbk := Lib.hid (Hb2r.out.setCell (p := ⟨w.heap.size + 1, 16 + (M + 1), none⟩) (by simp) (.int .i64 ((firstC l M + manyB l M) * 2)))
              have HN : Hid (bookOf (manyB l) (firstB l (M + 1)) |>.set (16 + (M + 1)) (.int .i64 ((firstC l M + manyB l M) * 2)) |> (· = bookOf (manyB l) (firstB l (M + 1 + 1)))) := by
                unfold Hid
                exact bookOf_set_first _ _ _ _ (by unfold firstB; rw [if_pos (by omega)]; exact firstC_step l M) (fun i hi => by unfold firstB; by_cases h : i < M + 1 <;> simp [h] <;> omega)
              have g1 : (M : Int) + 1 ≤ 15 := by omega
              have g2 : (0 : Int) ≤ (M : Int) := by omega
              have g3 : ((M : Int) + 1).toNat = M + 1 := by omega
              have x1 : IntKind.i64.wrap (firstC l M + manyB l M) = firstC l M + manyB l M := by rw [IntKind.wrap_i64]; omega
              have x2 : IntKind.i64.wrap ((firstC l M + manyB l M) * 2) = (firstC l M + manyB l M) * 2 := by rw [IntKind.wrap_i64]; omega
              generalize firstC l M = f at *
              generalize manyB l M = m at *
              go_wp2_with fail
              go_region
              go_wp2_with fail
              refine ⟨⟨M + 1, by omega, by go_num, arr_drew HAk.out, ?_, Hbk.out.drew⟩, by simp [intOf]; omega⟩
              rw [← HN.out]
              exact arr_drew HSet.out
            · obtain rfl : M = 15 := by omega
              have g1 : ¬ (15 : Int) + 1 ≤ 15 := by omega
              have hE : bookOf (manyB l) (firstB l (15 + 1)) = bookCells l := rfl
              rw [hE] at HM2r
              go_wp2_with (first | (refine wpList_load_arr rfl 65 _ rfl (w.heap.size + 1) (bookCells l) 32 rfl 65 HM2r.out _ Try.underlying65 rfl info_book (bookOf_length _ _) ?_) | (refine wpList_store_arr rfl 65 _ _ rfl w.heap.size (bookCells l) zeroBook 32 rfl rfl 65 HA2r.out info_book rfl (bookOf_length _ _) (bookOf_one _ _) ?_; intro w2 hA hb hsz _) | fail)
              refine bodyPost_ret (results_arr rfl _ _ w.heap.size (bookCells l) 32 rfl 65 hA _ Try.underlying65 rfl info_book (bookOf_length _ _)) rfl ?_
              exact ⟨bookCells l, bookOf_length _ _, by first | exact bookOf_one _ _ | exact bookCells_one l, fun _ => rfl, by rw [HOk.out]; rfl, Hb2r.out.trans (hb _ (Nat.le_refl _))⟩
end Go.Proofs.Ytdbhmffiojchcaa
