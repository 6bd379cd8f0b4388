/- The contract of the document's without. Conditions: numbers fit. -/
import Derived.Test.YtpkbbbdbcedkfaaHufU
namespace Go.Proofs.Ytpkbbbdbcedkfaa
open Go.RowKit

theorem info_tr : (Try.prog.info? 45).map (fun i => (i.zero, i.size, i.bytes)) = some (some (.agg #[.int .i64 0, .int .i64 0, .slice none 0 0]), 3, 40) := by kernel_rfl
theorem tr_one {l : List (Int × Nat × Value)} (h : ∀ t ∈ l, t.2.2.oneCell' = true) : ∀ u ∈ cells3 l, u.oneCell' = true := by
  intro u hu
  obtain ⟨t, ht, hu⟩ := List.mem_flatMap.1 hu
  simp only [TrE, List.mem_cons, List.not_mem_nil, or_false] at hu
  rcases hu with rfl | rfl | rfl
  · rfl
  · rfl
  · exact h t ht
/-- A row of the call's own reads as trees of the document. -/
theorem trs_of_owns {w : World} {base e n : Nat} {v : Value} {l : List (Int × Nat × Value)} (h : w.ownsRow base e 3 v n (cells3 l)) : TrsV w v l ∧ n = l.length := by
  obtain ⟨hl, h⟩ := h
  rw [cells3_length] at hl
  obtain rfl : n = l.length := by omega
  refine ⟨?_, rfl⟩
  rcases h with ⟨rfl, h0⟩ | ⟨g, cap, cur, rfl, hg, hc, hn, hm, hs, ht⟩
  · obtain rfl := List.length_eq_zero_iff.1 h0
    exact sl_nil fun _ => rfl
  · refine ⟨_, cap, rfl, hn, nofun, Or.inr ⟨g, 0, rfl, ?_, fun i hi j hj => ?_⟩⟩
    · rcases Nat.lt_or_ge g w.heap.size with h | h
      · exact h
      · rw [Array.getElem?_eq_none h] at hc; cases hc
    · have h1 : (cur.toList.take (l.length * 3))[i * 3 + j]? = (cells3 l)[i * 3 + j]? := by rw [ht]
      rw [List.getElem?_take_of_lt (by omega)] at h1
      have h2 : (cells3 l)[i * 3 + j]? = (TrE l[i])[j]? := by
        have := cells3_get l i hi
        rcases j with _ | _ | _ | j
        · exact this.1
        · exact this.2.1
        · exact this.2.2
        · omega
      rw [h2] at h1
      simp only [World.cell?, hc, Nat.zero_add]
      simpa using h1
/-- The cells of a part, from some place on. -/
theorem trs_part {w : World} {b off : Nat} {l : List (Int × Nat × Value)} (hc : ∀ k (hk : k < l.length), w.cell? ⟨b, off + k * 3, none⟩ = some (.int .i64 l[k].1) ∧ w.cell? ⟨b, off + k * 3 + 1, none⟩ = some (.int .i64 l[k].2.1) ∧ w.cell? ⟨b, off + k * 3 + 2, none⟩ = some l[k].2.2) (i n : Nat) :
    ∀ j u, (cells3 ((l.drop i).take n))[j]? = some u → w.cell? ((⟨b, off + i * 3, none⟩ : Addr).add j) = some u := by
  intro j u hj
  rw [add_none]
  have hlen : j < (cells3 ((l.drop i).take n)).length := by
    rcases Nat.lt_or_ge j (cells3 ((l.drop i).take n)).length with h | h
    · exact h
    · rw [List.getElem?_eq_none h] at hj; cases hj
  rw [cells3_length] at hlen
  have hk : j / 3 < ((l.drop i).take n).length := by omega
  have hkl : i + j / 3 < l.length := by
    rw [List.length_take, List.length_drop] at hk; omega
  have hg := cells3_get ((l.drop i).take n) (j / 3) hk
  have he : ((l.drop i).take n)[j / 3] = l[i + j / 3] := by rw [List.getElem_take, List.getElem_drop]
  rw [he] at hg
  have hcell := hc (i + j / 3) hkl
  have h3 : j % 3 = 0 ∨ j % 3 = 1 ∨ j % 3 = 2 := by omega
  rcases h3 with h | h | h
  · rw [show j = j / 3 * 3 by omega] at hj
    rw [hg.1] at hj
    rw [show off + i * 3 + j = off + (i + j / 3) * 3 by omega, hcell.1]; exact hj
  · rw [show j = j / 3 * 3 + 1 by omega] at hj
    rw [hg.2.1] at hj
    rw [show off + i * 3 + j = off + (i + j / 3) * 3 + 1 by omega, hcell.2.1]; exact hj
  · rw [show j = j / 3 * 3 + 2 by omega] at hj
    rw [hg.2.2] at hj
    rw [show off + i * 3 + j = off + (i + j / 3) * 3 + 2 by omega, hcell.2.2]; exact hj

set_option maxRecDepth 100000 in
set_option maxHeartbeats 4000000 in
theorem without_any (v : Value) (l : List (Int × Nat × Value)) (k : Nat) (w : World) (hv : TrsV w v l) (hk : k < l.length) (hl : l.length ≤ 1000000) (h1 : ∀ t ∈ l, t.2.2.oneCell' = true) :
    Calls Try.prog 26 #[v, .int .i64 k] w fun e w' => ∃ v', e = .returned v' ∧ w'.ownsRow w.heap.size 45 3 v' (l.eraseIdx k).length (cells3 (l.eraseIdx k)) ∧ Below w.heap.size w w' := by
  obtain ⟨i0, hi, hz0, hz1, hz2⟩ := info_parts info_tr
  obtain ⟨b, off, cap, rfl, hlc, hbl, hcell⟩ := trs_cells hv (by omega)
  have Hcell := Lib.hid hcell
  have hp1 := trs_part hcell 0 k
  rw [List.drop_zero, Nat.zero_mul, Nat.add_zero] at hp1
  have hp1' : ∀ j u, (cells3 (l.take k))[j]? = some u → (w.alloc (.cells #[] 45)).cell? ((⟨b, off, none⟩ : Addr).add j) = some u := fun j u hj => by
    have := hp1 j u hj
    rw [add_none] at this ⊢
    rw [World.cell?_alloc_lt _ _ _ hbl]; exact this
  have Hp1 := Lib.hid hp1'
  have HE := Lib.hid (owns_none w 45 3)
  have Ho1 := Lib.hid (tr_one (l := l.take k) fun t ht => h1 t (List.mem_of_mem_take ht))
  have Ho2 := Lib.hid (tr_one (l := l.drop (k + 1)) fun t ht => h1 t (List.mem_of_mem_drop ht))
  have hlt : (l.take k).length = k := by rw [List.length_take]; omega
  have Hl1 : Hid ((cells3 (l.take k)).length = k * 3) := by unfold Hid; rw [cells3_length, hlt]
  have Hl2 : Hid ((cells3 (l.drop (k + 1))).length = (l.length - (k + 1)) * 3) := by unfold Hid; rw [cells3_length, List.length_drop]
  have Her : Hid (cells3 (l.eraseIdx k) = cells3 (l.take k) ++ cells3 (l.drop (k + 1)) ∧ (l.eraseIdx k).length = k + (l.length - (k + 1))) := by
    unfold Hid
    rw [List.eraseIdx_eq_take_drop_succ, cells3_append, List.length_append, hlt, List.length_drop]; exact ⟨rfl, rfl⟩
  have hp2 := trs_part hcell (k + 1) (l.length - (k + 1))
  rw [List.take_of_length_le (by rw [List.length_drop]; exact Nat.le_refl _)] at hp2
  have Hp2 := Lib.hid hp2
  have g0 : (k : Int) ≤ (cap : Int) := by omega
  have g1 : (k : Int) + 1 ≤ (l.length : Int) := by omega
  have g2 : (0 : Int) ≤ (k : Int) + 1 := by omega
  have t1 : ((k : Int) + 1).toNat = k + 1 := by omega
  clear hcell hp1 hp1' hp2 hv hlt h1
  by_cases hcap : cap = k + 1
  · subst hcap
    have hlk : l.length = k + 1 := by omega
    have HD : Hid (cells3 (l.drop (k + 1)) = []) := by unfold Hid; rw [List.drop_of_length_le (by omega)]; rfl
    go_enter Try.func26, Try.ntmps26
    go_wp2_with (first
    | (at_builtin; refine wpList_append_own _ rfl _ _ 43 rfl w.heap.size 45 i0 _ 3 40 Try.underlying43 hi hz0 hz1 hz2 rfl (by decide) _ _ _ rfl HE.out ⟨b, off, none⟩ k _ (cells3 (l.take k)) rfl Hl1.out Hp1.out Ho1.out (by simp [maxLen]; omega) (by omega) (by simp) ?_
       intro v1 w1 hown1 hg1 _
       have hb1 : Below w.heap.size w w1 := ((Below.refl _ _).alloc (Nat.le_refl _) _).grown hg1 (by simp) (fun k hk => owns_block HE.out k hk)
       rw [List.nil_append, Nat.zero_add] at hown1
       obtain ⟨a1, c1, rfl, _⟩ := owns_shape hown1
       have Hown1 := Lib.hid hown1
       have Hb1 := Lib.hid hb1
       clear hown1 hb1 hg1)
    | (at_builtin; refine wpList_append_own _ rfl _ _ 43 rfl w.heap.size 45 i0 _ 3 40 Try.underlying43 hi hz0 hz1 hz2 rfl (by decide) (.slice a1 k c1) _ _ rfl Hown1.out ⟨b, off, none⟩ 0 0 ([]) rfl (by simp) (fun j u hj => by simp at hj) (fun u hu => by simp at hu) (by simp [maxLen]; omega) (by omega) Hb1.out.size ?_
       intro v2 w2 hown2 hg2 _
       have hb2 : Below w.heap.size w w2 := Hb1.out.grown hg2 Hb1.out.size (fun k hk => owns_block Hown1.out k hk)
       have Hown2 := Lib.hid hown2
       have Hb2 := Lib.hid hb2
       clear hown2 hb2 hg2)
    | fail)
    go_ret
    exact ⟨_, rfl, by rw [Her.out.1, Her.out.2, HD.out, hlk, Nat.sub_self]; exact Hown2.out, Hb2.out⟩
  · go_enter Try.func26, Try.ntmps26
    have Hp2' : Hid (∀ w1, Below w.heap.size w w1 → ∀ j u, (cells3 (l.drop (k + 1)))[j]? = some u → w1.cell? ((⟨b, off + (k + 1) * 3, none⟩ : Addr).add j) = some u) := fun w1 h j u hj => by
      have := Hp2.out j u hj
      rw [add_none] at this ⊢
      rw [h.cell (p := ⟨b, off + (k + 1) * 3 + j, none⟩) hbl]; exact this
    go_wp2_with (first
    | (at_builtin; refine wpList_append_own _ rfl _ _ 43 rfl w.heap.size 45 i0 _ 3 40 Try.underlying43 hi hz0 hz1 hz2 rfl (by decide) _ _ _ rfl HE.out ⟨b, off, none⟩ k _ (cells3 (l.take k)) rfl Hl1.out Hp1.out Ho1.out (by simp [maxLen]; omega) (by omega) (by simp) ?_
       intro v1 w1 hown1 hg1 _
       have hb1 : Below w.heap.size w w1 := ((Below.refl _ _).alloc (Nat.le_refl _) _).grown hg1 (by simp) (fun k hk => owns_block HE.out k hk)
       rw [List.nil_append, Nat.zero_add] at hown1
       obtain ⟨a1, c1, rfl, _⟩ := owns_shape hown1
       have Hown1 := Lib.hid hown1
       have Hb1 := Lib.hid hb1
       clear hown1 hb1 hg1)
    | (at_builtin; refine wpList_append_own _ rfl _ _ 43 rfl w.heap.size 45 i0 _ 3 40 Try.underlying43 hi hz0 hz1 hz2 rfl (by decide) (.slice a1 k c1) _ _ rfl Hown1.out ⟨b, off + (k + 1) * 3, none⟩ (l.length - (k + 1)) (cap - (k + 1)) (cells3 (l.drop (k + 1))) rfl Hl2.out (Hp2'.out _ Hb1.out) Ho2.out (by simp [maxLen]; omega) (by omega) Hb1.out.size ?_
       intro v2 w2 hown2 hg2 _
       have hb2 : Below w.heap.size w w2 := Hb1.out.grown hg2 Hb1.out.size (fun k hk => owns_block Hown1.out k hk)
       have Hown2 := Lib.hid hown2
       have Hb2 := Lib.hid hb2
       clear hown2 hb2 hg2)
    | fail)
    go_ret
    exact ⟨_, rfl, by rw [Her.out.1, Her.out.2]; exact Hown2.out, Hb2.out⟩
end Go.Proofs.Ytpkbbbdbcedkfaa
