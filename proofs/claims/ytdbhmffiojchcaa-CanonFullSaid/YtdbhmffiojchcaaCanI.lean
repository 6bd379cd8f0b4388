/- The contracts of both Reads. Conditions: numbers fit. -/
import Derived.Test.YtdbhmffiojchcaaCanH
namespace Go.Proofs.Ytdbhmffiojchcaa
open Go.RowKit

/-- What Read tells. -/
def readV (l : List Int) (b : List Bool) (p : Int) : Value := match readO l b p with
  | some s => .tuple #[.int .i64 s, .int .i64 (p + l[s]?.getD 0), .bool true]
  | none => .tuple #[.int .i64 0, .int .i64 0, .bool false]
theorem readV_none {l : List Int} {b : List Bool} {p : Int} (h : readO l b p = none) : readV l b p = .tuple #[.int .i64 0, .int .i64 0, .bool false] := by unfold readV; rw [h]
theorem readV_some {l : List Int} {b : List Bool} {p : Int} {s : Nat} (h : readO l b p = some s) : readV l b p = .tuple #[.int .i64 s, .int .i64 (p + l[s]?.getD 0), .bool true] := by unfold readV; rw [h]
theorem readO_bad {l : List Int} {b : List Bool} {p : Int} (h : lensOk l = false) : readO l b p = none := by
  unfold readO; rw [if_neg]; rw [h]; simp
theorem readO_neg {l : List Int} {b : List Bool} {p : Int} (h : p < 0) : readO l b p = none := by
  unfold readO; rw [if_neg]; omega
theorem readO_far {l : List Int} {b : List Bool} {p : Int} (h : (b.length : Int) < p) : readO l b p = none := by
  cases hr : readO l b p with
  | none => rfl
  | some s =>
    have := readO_some hr
    have := (hit_iff.1 this.2.2).2.1
    omega

set_option maxRecDepth 100000 in
set_option maxHeartbeats 4000000 in
theorem read_any (v u : Value) (l : List Int) (b : List Bool) (p : Int) (w : World) (hv : SlOf w v 1 (fun x => [.int .i64 x]) l) (hu : Bits w u b) (hl : l.length ≤ 140737488355328) (hlb : b.length ≤ 140737488355328) :
    Calls Try.prog 22 #[v, u, .int .i64 p] w fun e w' => e = .returned (readV l b p) ∧ Below w.heap.size w w' := by
  have hbk := bookOf_any v l w hv hl
  have hu0 := hu
  obtain ⟨aU, cU, rfl, hcU, hnU, hcellU⟩ := hu
  have HU := Lib.hid hu0
  have HV := Lib.hid hv
  clear hu0 hcellU hnU hv
  go_enter Try.func22, Try.ntmps22
  go_wp2_with fail
  refine hbk.mono ?_
  rintro e w1 ⟨cs, hcs1, hcs2, hcs3, rfl, hb1⟩
  have HN1 := Lib.hid (arr_new w1 zeroBook 65)
  have Hb1 := Lib.hid hb1
  have Hcs1 := Lib.hid hcs1
  have Hcs2 := Lib.hid hcs2
  have Hcs3 := Lib.hid hcs3
  clear hbk hb1 hcs1 hcs2 hcs3
  cases hok : lensOk l with
  | false =>
    have HOk := Lib.hid hok
    go_wp2_with (first | (refine wpList_store_arr rfl 65 _ _ rfl w1.heap.size cs zeroBook 32 rfl rfl 65 HN1.out info_book rfl Hcs1.out Hcs2.out ?_; intro w2 hA hb hsz _) | fail)
    go_ret3
    exact ⟨by rw [readV_none (readO_bad HOk.out)]; rfl, (Hb1.out.alloc Hb1.out.size _).trans (hb _ Hb1.out.size)⟩
  | true =>
    have HOk := Lib.hid hok
    have hcs := Hcs3.out HOk.out
    subst hcs
    have h300 : l.length ≤ 300 := (lensOk_parts HOk.out).1
    clear Hcs1 Hcs2 Hcs3 hok
    by_cases hp0 : p < 0
    · go_wp2_with (first | (refine wpList_store_arr rfl 65 _ _ rfl w1.heap.size (bookCells l) zeroBook 32 rfl rfl 65 HN1.out info_book rfl (bookOf_length _ _) (bookOf_one _ _) ?_; intro w2 hA hb hsz _) | fail)
      go_ret3
      exact ⟨by rw [readV_none (readO_neg hp0)]; rfl, (Hb1.out.alloc Hb1.out.size _).trans (hb _ Hb1.out.size)⟩
    by_cases hpl : (b.length : Int) < p
    · have Hfar := Lib.hid (readO_far (l := l) hpl)
      go_wp2_with (first | (refine wpList_store_arr rfl 65 _ _ rfl w1.heap.size (bookCells l) zeroBook 32 rfl rfl 65 HN1.out info_book rfl (bookOf_length _ _) (bookOf_one _ _) ?_; intro w2 hA hb hsz _) | fail)
      go_ret3
      exact ⟨by rw [readV_none Hfar.out]; rfl, (Hb1.out.alloc Hb1.out.size _).trans (hb _ Hb1.out.size)⟩
    obtain ⟨P, rfl⟩ := Int.eq_ofNat_of_zero_le (a := p) (by omega)
    have hPb : P ≤ b.length := by omega
    go_wp2_with (first
      | (refine wpList_store_arr rfl 65 _ _ rfl w1.heap.size (bookCells l) zeroBook 32 rfl rfl 65 HN1.out info_book rfl (bookOf_length _ _) (bookOf_one _ _) ?_
         intro w2 hA hb hsz _
         have Hb2 := Lib.hid ((Hb1.out.alloc Hb1.out.size _).trans (hb _ Hb1.out.size))
         have HA2 := Lib.hid hA
         clear hA hb hsz HN1)
      | fail)
    have hKw : w.heap.size ≤ w1.heap.size := Hb1.out.size
    generalize hK : w1.heap.size = K at *
    clear hK Hb1
    go_loopw [11, 12] (fun c i wr => ∃ n : Nat, n ≤ 15 ∧ P + n ≤ b.length ∧ i = .int .i64 ((n : Int) + 1) ∧ c = .int .i64 (takeN ((b.drop P).take n)) ∧ Arr wr K 65 (bookCells l) ∧ Below w.heap.size w wr ∧ ∀ s, hit l b P s = true → n < (l[s]?.getD 0).toNat) (fun _ i _ => 17 - (intOf i).toNat)
    case atStart => exact ⟨0, by omega, by omega, rfl, by simp [takeN], HA2.out, Hb2.out, fun s h => (hit_iff.1 h).1⟩
    case round =>
      obtain ⟨n, hn, hPn, rfl, rfl, hA, hb, hno⟩ := hrel
      have HA := Lib.hid hA
      have Hb := Lib.hid hb
      have Hno := Lib.hid hno
      clear hA hb hno HA2 Hb2
      by_cases hend : n = 15 ∨ P + n = b.length
      · have hnone : ∀ s, hit l b P s = false := fun s => by
          cases hh : hit l b P s with
          | false => rfl
          | true =>
            exfalso
            have h1 := Hno.out s hh
            obtain ⟨hs, h0⟩ := hit_in hh
            have h2 := (lensOk_parts HOk.out).2.1 l[s] (List.getElem_mem hs)
            have h3 := (hit_iff.1 hh).2.1
            rw [List.getElem?_eq_getElem hs, Option.getD_some] at h1 h3
            omega
        have HNo := Lib.hid (readV_none (readO_none hnone))
        clear hnone
        by_cases h15 : n = 15
        · subst h15
          have g1 : ¬ (15 : Int) + 1 ≤ 15 := by omega
          go_wp2_with fail
          go_ret3
          exact ⟨by rw [HNo.out]; rfl, Hb.out⟩
        · have hlen : P + n = b.length := by omega
          have g1 : (n : Int) + 1 ≤ 15 := by omega
          have g2 : ¬ ((n : Int) + 1 ≤ (b.length : Int) - P) := by omega
          have d2 : decide ((n : Int) + 1 ≤ (b.length : Int) - P) = false := by simp; omega
          go_wp2_with fail
          go_ret3
          exact ⟨by rw [HNo.out]; rfl, Hb.out⟩
      · have hn15 : n < 15 := by omega
        have hlt : P + n < b.length := by omega
        rcases sl_one HU.out with ⟨rfl, _⟩ | ⟨_, b0, o0, c0, hveq, hc0, hb0, cell0⟩
        · simp at hlt
        · injection hveq with q1 q2 q3
          subst q1 q3
          have e0 : wr.cell? ⟨b0, o0 + (P + n), none⟩ = some (.bool b[P + n]) := by rw [Hb.out.cell (p := ⟨b0, o0 + (P + n), none⟩) hb0]; exact cell0 (P + n) hlt
          have e1 : wr.cell? ⟨K, 16 + (n + 1), none⟩ = some (.int .i64 (firstC l (n + 1))) := by
            rw [arr_cell HA.out]; unfold bookCells; rw [bookOf_first _ _ (by omega)]; simp [firstB]; omega
          have e2 : wr.cell? ⟨K, n + 1, none⟩ = some (.int .i64 (cntL l (n + 1))) := by
            rw [arr_cell HA.out]; unfold bookCells; rw [bookOf_many _ _ (by omega)]; simp [manyB]
          have htk : (b.drop P).take (n + 1) = (b.drop P).take n ++ [b[P + n]] := by
            have h1 : n < (b.drop P).length := by rw [List.length_drop]; omega
            rw [List.take_succ_eq_append_getElem h1, List.getElem_drop]
          have hT := takeN_snoc ((b.drop P).take n) b[P + n]
          rw [← htk] at hT
          have HT := Lib.hid hT
          have hbd := takeN_bd ((b.drop P).take n)
          have hbd2 := takeN_bd ((b.drop P).take (n + 1))
          have hle1 := p2_mono (m := ((b.drop P).take n).length) (n := 15) (by rw [List.length_take]; omega)
          have hle2 := p2_mono (m := ((b.drop P).take (n + 1)).length) (n := 15) (by rw [List.length_take]; omega)
          rw [p2_15] at hle1 hle2
          have hcc := first_cnt_le HOk.out hn15
          have hp15 := p2_mono (m := n + 1) (n := 15) (by omega)
          rw [p2_15] at hp15
          have hf0 := firstC_nonneg l (n + 1)
          have t0 := hbd.1
          have t1 : takeN ((b.drop P).take n) ≤ 32768 := by omega
          have t2 := hbd2.1
          have t3 : takeN ((b.drop P).take (n + 1)) ≤ 32768 := by omega
          have hf1 : firstC l (n + 1) ≤ 32768 := by omega
          have hcb : (cntL l (n + 1) : Int) ≤ 32768 := by omega
          have g1 : (n : Int) + 1 ≤ 15 := by omega
          have g2 : (n : Int) + 1 ≤ (b.length : Int) - P := by omega
          have d2 : decide ((n : Int) + 1 ≤ (b.length : Int) - P) = true := by simp; omega
          have g3 : (P : Int) + ((n : Int) + 1) - 1 = (P : Int) + (n : Int) := by omega
          have x1 : IntKind.i64.wrap ((P : Int) + ((n : Int) + 1)) = (P : Int) + ((n : Int) + 1) := IntWalk.i64_in _ (by omega)
          have x2 : IntKind.i64.wrap ((P : Int) + ((n : Int) + 1) - 1) = (P : Int) + (n : Int) := by rw [g3]; exact IntWalk.i64_in _ (by omega)
          have g4 : ((P : Int) + (n : Int)).toNat = P + n := by omega
          have g5 : (P : Int) + (n : Int) < (b.length : Int) := by omega
          have g6 : (0 : Int) ≤ (P : Int) + (n : Int) := by omega
          have g7 : ((n : Int) + 1).toNat = n + 1 := by omega
          have hnext : ∀ s, hit l b P s = true → n + 1 < (l[s]?.getD 0).toNat ∨ (firstC l (n + 1) ≤ takeN ((b.drop P).take (n + 1)) ∧ takeN ((b.drop P).take (n + 1)) < firstC l (n + 1) + cntL l (n + 1)) := fun s hh => by
            have h1 := Hno.out s hh
            obtain ⟨hs, h0⟩ := hit_in hh
            rcases Nat.lt_or_ge (n + 1) (l[s]?.getD 0).toNat with h | h
            · exact Or.inl h
            · right
              have hls : l[s] = ((n + 1 : Nat) : Int) := by
                rw [List.getElem?_eq_getElem hs, Option.getD_some] at h1 h
                omega
              exact hit_range hs hls hh
          have Hnext := Lib.hid hnext
          have Hin : Hid (firstC l (n + 1) ≤ takeN ((b.drop P).take (n + 1)) → takeN ((b.drop P).take (n + 1)) < firstC l (n + 1) + cntL l (n + 1) → ∃ s, ∃ hs : s < l.length, l[s] = ((n + 1 : Nat) : Int) ∧ (cntL (l.take s) (n + 1) : Int) = takeN ((b.drop P).take (n + 1)) - firstC l (n + 1) ∧ readV l b P = .tuple #[.int .i64 s, .int .i64 ((P : Int) + ((n : Int) + 1)), .bool true]) := by
            unfold Hid
            intro h1 h2
            obtain ⟨s, hs, hls, hcn, hh⟩ := hit_nth (l := l) (b := b) (p := P) (n := n) (i := (takeN ((b.drop P).take (n + 1)) - firstC l (n + 1)).toNat) (by omega) (by omega) (by omega)
            refine ⟨s, hs, hls, by omega, ?_⟩
            rw [readV_some (readO_hit HOk.out hh), List.getElem?_eq_getElem hs, Option.getD_some, hls]
            congr 5
          have hex := Hb.out
          clear cell0 htk hT hbd hbd2 hle1 hle2 hcc hp15 hnext Hno q2 hex
          generalize hT1 : takeN ((b.drop P).take (n + 1)) = T1 at *
          generalize hT0 : takeN ((b.drop P).take n) = t at *
          generalize hF : firstC l (n + 1) = F at *
          generalize hC : cntL l (n + 1) = C at *
          generalize b[P + n] = x at *
          have HT1 := Lib.hid hT1
          clear hT1 hT0 hF hC
          cases x
          · have hc : T1 = t * 2 := by rw [HT.out]; simp
            subst hc
            clear HT
            by_cases r0 : F ≤ t * 2
            · by_cases r1 : t * 2 - F < (C : Int)
              · obtain ⟨s, hs, hls, hcn, hrv⟩ := Hin.out r0 (by omega)
                have Hrv := Lib.hid hrv
                have hnth := nth_any v l ((n : Int) + 1) (t * 2 - F) s wr (sl_below HV.out Hb.out) hl hs (by rw [hls]; omega) (by rw [g7]; exact hcn.symm) (by omega)
                have b0 : decide (F ≤ t * 2) = true := by simpa using r0
                have b1 : decide (t * 2 - F < (C : Int)) = true := by simpa using r1
                have r2 : 0 ≤ t * 2 - F := by omega
                have b2 : decide (0 ≤ t * 2 - F) = true := by simpa using r2
                clear hrv hls hcn Hin Hnext HT1 hs
                go_wp2_with fail
                refine hnth.mono ?_
                rintro e w9 ⟨rfl, rfl⟩
                go_wp2_with fail
                go_ret3
                exact ⟨by rw [Hrv.out]; rfl, Hb.out⟩
              · have b0 : decide (F ≤ t * 2) = true := by simpa using r0
                have b1 : decide (t * 2 - F < (C : Int)) = false := by simpa using r1
                have r2 : 0 ≤ t * 2 - F := by omega
                have b2 : decide (0 ≤ t * 2 - F) = true := by simpa using r2
                have Hn2 : Hid (∀ s, hit l b P s = true → n + 1 < (l[s]?.getD 0).toNat) := by
                  intro s hh
                  rcases Hnext.out s hh with h | h
                  · exact h
                  · exfalso; omega
                clear Hin Hnext
                go_wp2_with fail
                exact ⟨⟨n + 1, by omega, by omega, by go_num, by rw [HT1.out], HA.out, Hb.out, Hn2.out⟩, by simp [intOf]; omega⟩
            · have b0 : decide (F ≤ t * 2) = false := by simpa using r0
              have r2 : ¬ 0 ≤ t * 2 - F := by omega
              have b2 : decide (0 ≤ t * 2 - F) = false := by simpa using r2
              have Hn2 : Hid (∀ s, hit l b P s = true → n + 1 < (l[s]?.getD 0).toNat) := by
                intro s hh
                rcases Hnext.out s hh with h | h
                · exact h
                · exfalso; omega
              clear Hin Hnext
              go_wp2_with fail
              exact ⟨⟨n + 1, by omega, by omega, by go_num, by rw [HT1.out], HA.out, Hb.out, Hn2.out⟩, by simp [intOf]; omega⟩
          · have hc : T1 = t * 2 + 1 := by rw [HT.out]; simp
            subst hc
            clear HT
            by_cases r0 : F ≤ t * 2 + 1
            · by_cases r1 : t * 2 + 1 - F < (C : Int)
              · obtain ⟨s, hs, hls, hcn, hrv⟩ := Hin.out r0 (by omega)
                have Hrv := Lib.hid hrv
                have hnth := nth_any v l ((n : Int) + 1) (t * 2 + 1 - F) s wr (sl_below HV.out Hb.out) hl hs (by rw [hls]; omega) (by rw [g7]; exact hcn.symm) (by omega)
                have b0 : decide (F ≤ t * 2 + 1) = true := by simpa using r0
                have b1 : decide (t * 2 + 1 - F < (C : Int)) = true := by simpa using r1
                have r2 : 0 ≤ t * 2 + 1 - F := by omega
                have b2 : decide (0 ≤ t * 2 + 1 - F) = true := by simpa using r2
                clear hrv hls hcn Hin Hnext HT1 hs
                go_wp2_with fail
                refine hnth.mono ?_
                rintro e w9 ⟨rfl, rfl⟩
                go_wp2_with fail
                go_ret3
                exact ⟨by rw [Hrv.out]; rfl, Hb.out⟩
              · have b0 : decide (F ≤ t * 2 + 1) = true := by simpa using r0
                have b1 : decide (t * 2 + 1 - F < (C : Int)) = false := by simpa using r1
                have r2 : 0 ≤ t * 2 + 1 - F := by omega
                have b2 : decide (0 ≤ t * 2 + 1 - F) = true := by simpa using r2
                have Hn2 : Hid (∀ s, hit l b P s = true → n + 1 < (l[s]?.getD 0).toNat) := by
                  intro s hh
                  rcases Hnext.out s hh with h | h
                  · exact h
                  · exfalso; omega
                clear Hin Hnext
                go_wp2_with fail
                exact ⟨⟨n + 1, by omega, by omega, by go_num, by rw [HT1.out], HA.out, Hb.out, Hn2.out⟩, by simp [intOf]; omega⟩
            · have b0 : decide (F ≤ t * 2 + 1) = false := by simpa using r0
              have r2 : ¬ 0 ≤ t * 2 + 1 - F := by omega
              have b2 : decide (0 ≤ t * 2 + 1 - F) = false := by simpa using r2
              have Hn2 : Hid (∀ s, hit l b P s = true → n + 1 < (l[s]?.getD 0).toNat) := by
                intro s hh
                rcases Hnext.out s hh with h | h
                · exact h
                · exfalso; omega
              clear Hin Hnext
              go_wp2_with fail
              exact ⟨⟨n + 1, by omega, by omega, by go_num, by rw [HT1.out], HA.out, Hb.out, Hn2.out⟩, by simp [intOf]; omega⟩
end Go.Proofs.Ytdbhmffiojchcaa
