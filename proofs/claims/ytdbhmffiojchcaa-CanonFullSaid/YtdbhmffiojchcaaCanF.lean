/- The contract of Codes of the program. Conditions: numbers fit. -/
import Derived.Test.YtdbhmffiojchcaaCanE
namespace Go.Proofs.Ytdbhmffiojchcaa
open Go.RowKit

theorem arr_kept {w w' : World} {K : Nat} {t : TypeId} {cs : List Value} {row : Option Nat} (h : Arr w K t cs) (hg : w.grownBy w' row) (hK : some K ≠ row) : Arr w' K t cs := by
  unfold Arr
  obtain ⟨_, _, _, _, h5⟩ := hg
  rw [h5 K (arr_lt h) hK]; exact h
theorem owns_store {w w' : World} {base e n size : Nat} {v : Value} {cs : List Value} (h : w.ownsRow base e size v n cs) (hne : ∀ g, v.ownBlock = some g → w'.heap[g]? = w.heap[g]?) : w'.ownsRow base e size v n cs := by
  obtain ⟨hl, h⟩ := h
  refine ⟨hl, ?_⟩
  rcases h with h | ⟨g, cap, cur, rfl, hg, hc, hn, hm, hs, ht⟩
  · exact Or.inl h
  · exact Or.inr ⟨g, cap, cur, rfl, hg, by rw [hne g rfl]; exact hc, hn, hm, hs, ht⟩

theorem codesR_no {l : List Int} (h : lensOk l = false) : codesR l = [] := by unfold codesR; rw [h]; rfl
theorem codesR_ok {l : List Int} (h : lensOk l = true) : codesR l = codesL l := by unfold codesR; rw [if_pos h]

set_option maxRecDepth 100000 in
set_option maxHeartbeats 4000000 in
theorem codes_any (v : Value) (l : List Int) (w : World) (hv : SlOf w v 1 (fun x => [.int .i64 x]) l) (hl : l.length ≤ 140737488355328) :
    Calls Try.prog 18 #[v] w fun e w' => ∃ v', e = .returned (.tuple #[v', .bool (lensOk l)]) ∧ SlOf w' v' 2 codeE (codesR l) ∧ Below w.heap.size w w' := by
  obtain ⟨i0, hi, hz0, hz1, hz2⟩ := info_parts info_code
  have hbk := bookOf_any v l w hv hl
  have hv0 := hv
  obtain ⟨aX, cX, rfl, hcX, hnX, hcellX⟩ := hv
  have HV := Lib.hid hv0
  clear hv0 hcellX hnX
  go_enter Try.func18, Try.ntmps18
  go_wp2_with fail
  refine hbk.mono ?_
  rintro e w1 ⟨cs, hcs1, hcs2, hcs3, rfl, hb1⟩
  have HN1 := Lib.hid (arr_new w1 zeroBook 65)
  have Hb1 := Lib.hid hb1
  have Hcs1 := Lib.hid hcs1
  have Hcs2 := Lib.hid hcs2
  have Hcs3 := Lib.hid hcs3
  clear hbk hb1 hcs1 hcs2 hcs3
  cases hok : lensOk l with
  | false =>
    have HOk := Lib.hid hok
    go_wp2_with (first | (refine wpList_store_arr rfl 65 _ _ rfl w1.heap.size cs zeroBook 32 rfl rfl 65 HN1.out info_book rfl Hcs1.out Hcs2.out ?_; intro w2 hA hb hsz _) | fail)
    refine bodyPost_ret (results_tmp2 rfl _ _ _) rfl ?_
    exact ⟨.slice none 0 0, by rw [HOk.out]; rfl, by rw [codesR_no HOk.out]; exact sl_nil (fun _ => rfl), (Hb1.out.alloc Hb1.out.size _).trans (hb _ Hb1.out.size)⟩
  | true =>
    have HOk := Lib.hid hok
    have hcs := Hcs3.out HOk.out
    subst hcs
    have h300 : l.length ≤ 300 := (lensOk_parts HOk.out).1
    clear Hcs1 Hcs2 Hcs3
    have hge : w.heap.size ≤ w1.heap.size := Hb1.out.size
    go_wp2_with (first
      | (refine wpList_store_arr rfl 65 _ _ rfl w1.heap.size (bookCells l) zeroBook 32 rfl rfl 65 HN1.out info_book rfl (bookOf_length _ _) (bookOf_one _ _) ?_
         intro w2 hA hb hsz _
         have Hb2 := Lib.hid ((Hb1.out.alloc Hb1.out.size _).trans (hb _ Hb1.out.size))
         have HA2 := Lib.hid hA
         have hsz2 : w2.heap.size = w1.heap.size + 1 := by rw [hsz]; simp
         clear hA hb hsz HN1)
      | (at_make; refine wpList_make_full _ rfl _ _ 38 rfl w.heap.size 53 i0 (.agg #[.int .i64 0, .int .i64 0]) 2 Try.underlying38 hi hz0 hz1 .i64 .i64 _ _ l.length rfl rfl rfl rfl (by rw [hz2]; omega) (by simp [maxLen]; omega) (by omega) ?_
         intro w3 hown3 hg3
         have hA3 := arr_kept HA2.out hg3 (by simp)
         have hb3 := Hb2.out.grown hg3 (by omega) (fun k hk => by cases hk)
         have hs3 : w2.heap.size < w3.heap.size := owns_lt hown3 _ rfl
         have HA3 := Lib.hid hA3
         have Hb3 := Lib.hid hb3
         have Hown3 := Lib.hid hown3
         clear hown3 hg3 hA3 hb3)
      | (refine wpList_load_sub rfl 63 _ rfl w1.heap.size 16 (bookCells l) (rowI (firstC l)) rfl 65 HA3.out (book_first_sub l) _ Try.underlying63 rfl info_arr16 ?_)
      | (refine wpList_store_arr rfl 63 _ _ rfl w3.heap.size (rowI (firstC l)) (List.replicate 16 (.int .i64 0)) 16 rfl rfl 63 (arr_new w3 (List.replicate 16 (.int .i64 0)) 63) info_arr16 rfl (rowI_length _) (rowI_one _) ?_
         intro w4 hA hb hsz hoth
         have HN4 := Lib.hid hA
         have Hb4 := Lib.hid ((Hb3.out.alloc Hb3.out.size _).trans (hb _ Hb3.out.size))
         have hs4 : w4.heap.size = w3.heap.size + 1 := by rw [hsz]; simp
         have hO3 : w4.heap[w1.heap.size + 1]? = w3.heap[w1.heap.size + 1]? := by rw [hoth _ (by omega), Below.heap_alloc _ _ _ (by omega)]
         have Hown4 := Lib.hid (owns_store Hown3.out (w' := w4) (fun g hg => by injection hg with hg; rw [← hg, hsz2]; exact hO3))
         clear hA hb hsz hoth hO3 Hown3 Hb3)
      | fail)
    have Hown5 : Hid (w4.ownsRow w.heap.size 53 2 (.slice (some ⟨w1.heap.size + 1, 0, none⟩) l.length l.length) l.length (cellsC (codesTo l 0))) := by
      unfold Hid
      have h := Hown4.out
      rw [hsz2] at h
      rw [codesTo_zero, ← cellsC_zero]
      exact h
    obtain ⟨O, hO⟩ : ∃ O, O = w1.heap.size + 1 := ⟨_, rfl⟩
    rw [← hO] at Hown5 ⊢
    clear Hown4
    obtain ⟨N, hN⟩ : ∃ N, N = w3.heap.size := ⟨_, rfl⟩
    rw [← hN] at HN4 ⊢
    have hON : O ≠ N := by omega
    have hOw : w.heap.size ≤ O := by omega
    have hNw : w.heap.size ≤ N := by omega
    clear hO hN hs4 hs3 hsz2 HA2 HA3 Hb1 Hb2 hge
    go_loopw [24] (fun i wr => ∃ k : Nat, k ≤ l.length ∧ i = .int .i64 k ∧ wr.ownsRow w.heap.size 53 2 (.slice (some ⟨O, 0, none⟩) l.length l.length) l.length (cellsC (codesTo l k)) ∧ Arr wr N 63 (rowI (nextB l k)) ∧ Below w.heap.size w wr) (fun i _ => l.length - (intOf i).toNat)
    case atStart => exact ⟨0, Nat.zero_le _, rfl, Hown5.out, by rw [nextB_zero]; exact HN4.out, Hb4.out⟩
    case round =>
      obtain ⟨k, hk, rfl, hown, hN, hb⟩ := hrel
      have Hown := Lib.hid hown
      have HN := Lib.hid hN
      have Hb := Lib.hid hb
      clear hown hN hb Hown5 HN4 Hb4
      by_cases hlt : k < l.length
      · rcases sl_one HV.out with ⟨rfl, _⟩ | ⟨hp0, b0, o0, c0, hveq, hc0, hb0, cell0⟩
        · simp at hlt
        · injection hveq with h1 h2 h3
          subst h1 h3
          have e0 : wr.cell? ⟨b0, o0 + k, none⟩ = some (.int .i64 l[k]) := by rw [Hb.out.cell (p := ⟨b0, o0 + k, none⟩) hb0]; exact cell0 k hlt
          have hx := (lensOk_parts HOk.out).2.1 l[k] (List.getElem_mem hlt)
          have g1 : (k : Int) < (l.length : Int) := by omega
          have g2 : (0 : Int) ≤ (k : Int) := by omega
          have HX : Hid (∃ n : Nat, n < 16 ∧ l[k] = (n : Int)) := ⟨l[k].toNat, by omega, by omega⟩
          obtain ⟨n, hn16, hn⟩ := HX.out
          rw [hn] at e0
          have Hn := Lib.hid hn
          clear cell0 h2 hn hx HX
          by_cases hn0 : n = 0
          · subst hn0
            have hx0' : ¬ (0 : Int) < 0 := by omega
            go_wp2_with fail
            exact ⟨⟨k + 1, by omega, by go_num, by rw [← codesTo_skip hlt Hn.out]; exact Hown.out, by rw [nextB_skip hlt Hn.out]; exact HN.out, Hb.out⟩, by simp [intOf]; omega⟩
          · have hn1 : 0 < (n : Int) := by omega
            have e1 : wr.cell? ⟨N, n, none⟩ = some (.int .i64 (nextB l k n)) := by rw [arr_cell HN.out, rowI_get _ hn16]
            have e2 := arr_frozen HN.out n
            have hlen : (codesTo l k).length = l.length := codesTo_length l k
            have hc := cellsC_get (codesTo l k) k (by omega)
            have e3 : wr.cell? ⟨O, k * 2, none⟩ = some (.int .i64 (codesTo l k)[k].1) := by rw [Hown.out.cellAt (k * 2) (by omega)]; exact hc.1
            have e4 : wr.cell? ⟨O, k * 2 + 1, none⟩ = some (.int .i64 (codesTo l k)[k].2) := by rw [Hown.out.cellAt (k * 2 + 1) (by omega)]; exact hc.2
            have e5 := Hown.out.frozenAt (k * 2)
            have e6 := Hown.out.frozenAt (k * 2 + 1)
            obtain ⟨m0, m1⟩ := nextB_bd HOk.out (k := k) hn16
            have HC := Lib.hid (nextB_code hlt Hn.out (by omega))
            have HNx := Lib.hid (nextB_same hlt Hn.out (by omega))
            have hs1 := (Hown.out.stored (k * 2) (.int .i64 (n : Int))).1
            have hs2 := (hs1.stored (k * 2 + 1) (.int .i64 (nextB l k n))).1
            have hset := cellsC_set (codesTo l k) ((n : Int), nextB l k n) k (by omega)
            rw [hset, ← HC.out, codesTo_succ hlt] at hs2
            have hs3 := owns_store hs2 (w' := (((wr.setCell ⟨O, k * 2, none⟩ (.int .i64 (n : Int))).setCell ⟨O, k * 2 + 1, none⟩ (.int .i64 (nextB l k n))).setCell ⟨N, n, none⟩ (.int .i64 (nextB l k n + 1)))) (fun g hg => by
              injection hg with hg
              exact Below.heap_setCell _ _ _ _ (by rw [← hg]; exact hON))
            have HS := Lib.hid hs3
            have HN2 := Lib.hid (arr_set (arr_other (i := k * 2 + 1) (v := .int .i64 (nextB l k n)) (arr_other (i := k * 2) (v := .int .i64 (n : Int)) HN.out (Ne.symm hON)) (Ne.symm hON)) n (.int .i64 (nextB l k n + 1)))
            have Hb2 := Lib.hid (((Hb.out.setCell (p := ⟨O, k * 2, none⟩) hOw (.int .i64 (n : Int))).setCell (p := ⟨O, k * 2 + 1, none⟩) hOw (.int .i64 (nextB l k n))).setCell (p := ⟨N, n, none⟩) hNw (.int .i64 (nextB l k n + 1)))
            have HR := Lib.hid (rowI_set (nextB l k) (nextB l (k + 1)) (j := n) (nextB l k n + 1) HNx.out.1 HNx.out.2)
            clear hs1 hs2 hs3 hset hc HC HNx HV
            generalize nextB l k n = nx at *
            generalize (codesTo l k)[k].1 = y1 at *
            generalize (codesTo l k)[k].2 = y2 at *
            clear hlen
            go_wp2_with fail
            exact ⟨⟨k + 1, by omega, by go_num, HS.out, by rw [← HR.out]; exact HN2.out, Hb2.out⟩, by simp [intOf]; omega⟩
      · obtain rfl : k = l.length := by omega
        go_wp2_with fail
        refine bodyPost_ret (results_tmp2 rfl _ _ _) rfl ?_
        refine ⟨_, by rw [HOk.out]; rfl, ?_, Hb.out⟩
        rw [codesR_ok HOk.out, ← codesTo_all]
        have h := (codes_of_owns Hown.out).1
        exact h
end Go.Proofs.Ytdbhmffiojchcaa
