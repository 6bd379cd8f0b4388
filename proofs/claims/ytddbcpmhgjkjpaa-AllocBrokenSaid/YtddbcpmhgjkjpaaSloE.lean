/- Contracts: Clone of a table; what a table uses. Conditions: numbers fit. -/
import Derived.Test.YtddbcpmhgjkjpaaSloB
namespace Go.Proofs.Ytddbcpmhgjkjpaa
open Go.RowKit

/-- A slice of whatever flat elements: the cells, one behind the other, from some place on. -/
theorem use_run {w : World} {a : Option Addr} {n cap : Nat} {l : List Us} (hv : UseV w (.slice a n cap) l) (i m : Nat) : l = [] ∨ ∃ b off, a = some ⟨b, off, none⟩ ∧ b < w.heap.size ∧ ∀ j u, (cells4 ((l.drop i).take m))[j]? = some u → w.cell? ⟨b, off + i * 4 + j, none⟩ = some u := by
  obtain ⟨a', cap', hv', hl, hn, hc⟩ := hv
  injection hv' with h1 h2 h3
  subst h1
  rcases hc with rfl | ⟨b, off, rfl, hb, hcell⟩
  · exact Or.inl rfl
  · refine Or.inr ⟨b, off, rfl, hb, fun j u hj => ?_⟩
    have hlen : j < (cells4 ((l.drop i).take m)).length := by
      rcases Nat.lt_or_ge j (cells4 ((l.drop i).take m)).length with h | h
      · exact h
      · rw [List.getElem?_eq_none h] at hj; cases hj
    rw [cells4_length] at hlen
    have hk : j / 4 < ((l.drop i).take m).length := by omega
    have hkl : i + j / 4 < l.length := by rw [List.length_take, List.length_drop] at hk; omega
    have hg := cells4_get ((l.drop i).take m) (j / 4) hk
    have he : ((l.drop i).take m)[j / 4] = l[i + j / 4] := by rw [List.getElem_take, List.getElem_drop]
    rw [he] at hg
    have hcl := fun q (hq : q < 4) => hcell (i + j / 4) hkl q hq
    have h4 : j % 4 = 0 ∨ j % 4 = 1 ∨ j % 4 = 2 ∨ j % 4 = 3 := by omega
    rcases h4 with h | h | h | h
    · rw [show j = j / 4 * 4 by omega] at hj
      rw [hg.1] at hj
      rw [show off + i * 4 + j = off + ((i + j / 4) * 4 + 0) by omega, hcl 0 (by omega)]; exact hj
    · rw [show j = j / 4 * 4 + 1 by omega] at hj
      rw [hg.2.1] at hj
      rw [show off + i * 4 + j = off + ((i + j / 4) * 4 + 1) by omega, hcl 1 (by omega)]; exact hj
    · rw [show j = j / 4 * 4 + 2 by omega] at hj
      rw [hg.2.2.1] at hj
      rw [show off + i * 4 + j = off + ((i + j / 4) * 4 + 2) by omega, hcl 2 (by omega)]; exact hj
    · rw [show j = j / 4 * 4 + 3 by omega] at hj
      rw [hg.2.2.2] at hj
      rw [show off + i * 4 + j = off + ((i + j / 4) * 4 + 3) by omega, hcl 3 (by omega)]; exact hj

set_option maxRecDepth 100000 in
set_option maxHeartbeats 400000 in
theorem clone_use (v : Value) (l : List Us) (w : World) (hv : UseV w v l) (hl : l.length ≤ 1000000) :
    Calls Try.prog 56 #[v] w fun e w' => ∃ v', e = .returned v' ∧ w'.ownsRow w.heap.size 41 4 v' l.length (cells4 l) ∧ Below w.heap.size w w' := by
  obtain ⟨i0, hi, hz0, hz1, hz2⟩ := info_parts info_use
  obtain ⟨aX, cX, rfl, hcX, hnX, hcellX⟩ := id hv
  have hq := fun wx : World => Lib.run_eql_slice_nil (P := Try.prog) wx 22 41 aX l.length cX 0 0 Try.underlying22
  clear hcellX
  have hr := use_run hv 0 l.length
  rw [List.drop_zero, List.take_length] at hr
  rcases hr with rfl | ⟨b, off, rfl, hb, hcell⟩
  · cases aX with
    | none =>
      obtain rfl := hnX rfl
      have hq := fun wx : World => Lib.run_eql_slice_nil (P := Try.prog) wx 22 41 none 0 0 0 0 Try.underlying22
      clear hv
      go_enter Try.func56, Try.ntmps56
      go_wp2_with fail
      go_ret
      exact ⟨_, rfl, World.ownsRow_nil _ _ _ _, Below.refl _ _⟩
    | some a =>
      have hq := fun wx : World => Lib.run_eql_slice_nil (P := Try.prog) wx 22 41 (some a) 0 cX 0 0 Try.underlying22
      clear hv
      have HE := Lib.hid (owns_empty w 41 4)
      go_enter Try.func56, Try.ntmps56
      go_wp2_with (at_builtin; refine wpList_append_own _ rfl _ _ 22 rfl w.heap.size 41 i0 _ 4 32 Try.underlying22 hi hz0 hz1 hz2 rfl (by decide) _ _ _ rfl HE.out a 0 cX [] rfl (by simp) (fun j u hj => by simp at hj) (fun u hu => by simp at hu) (by simp [maxLen]) (by omega) (by simp) ?_; intro v' w' hown hgrow _)
      go_ret
      exact ⟨_, rfl, by simpa [cells4] using hown, ((Below.refl _ _).alloc (Nat.le_refl _) _).grown hgrow (by simp) (fun k hk => owns_block HE.out k hk)⟩
  · have hnews : ∀ j u, (cells4 l)[j]? = some u → (w.alloc (.cells #[] 41)).cell? ((⟨b, off, none⟩ : Addr).add j) = some u := fun j u hj => by
      rw [add_none, World.cell?_alloc_lt _ _ _ hb]
      have := hcell j u hj
      simpa using this
    have Hnews := Lib.hid hnews
    have HE := Lib.hid (owns_empty w 41 4)
    have Hone := Lib.hid (cells4_one l)
    have Hlen := Lib.hid (cells4_length l)
    clear hv hcell hnews
    go_enter Try.func56, Try.ntmps56
    go_wp2_with (at_builtin; refine wpList_append_own _ rfl _ _ 22 rfl w.heap.size 41 i0 _ 4 32 Try.underlying22 hi hz0 hz1 hz2 rfl (by decide) _ _ _ rfl HE.out ⟨b, off, none⟩ l.length cX (cells4 l) rfl Hlen.out Hnews.out Hone.out (by simp [maxLen]; omega) (by omega) (by simp) ?_; intro v' w' hown hgrow _)
    go_ret
    exact ⟨_, rfl, by simpa [cells4] using hown, ((Below.refl _ _).alloc (Nat.le_refl _) _).grown hgrow (by simp) (fun k hk => owns_block HE.out k hk)⟩

/-- What is used, as far as i sectors of one slot more. -/
def usedX (pre : List Us) (p : Int) (i : Nat) : List Bool := (List.range 16).map fun s => hasU pre s || decide (p ≤ (s : Int) ∧ (s : Int) < p + i)
theorem usedX_length (pre : List Us) (p : Int) (i : Nat) : (usedX pre p i).length = 16 := by simp [usedX]
theorem usedX_zero (pre : List Us) (p : Int) : usedX pre p 0 = usedL pre := by
  unfold usedX usedL
  refine List.map_congr_left fun s _ => ?_
  have : decide (p ≤ (s : Int) ∧ (s : Int) < p + (0 : Nat)) = false := by simp
  rw [this, Bool.or_false]
theorem usedX_set (pre : List Us) {p : Nat} {i : Nat} (_h : p + i < 16) : (usedX pre p i).set (p + i) true = usedX pre p (i + 1) := by
  apply List.ext_getElem
  · simp [usedX]
  · intro s h1 h2
    rw [List.getElem_set]
    by_cases e : p + i = s
    · subst e; simp [usedX]; right; omega
    · rw [if_neg e]
      simp only [usedX, List.getElem_map, List.getElem_range]
      congr 1
      rw [decide_eq_decide]; omega
theorem usedX_end (pre : List Us) (u : Us) {n : Nat} (hn : u.2.1 = n) : usedX pre u.1 n = usedL (pre ++ [u]) := by
  unfold usedX usedL
  refine List.map_congr_left fun s _ => ?_
  unfold hasU
  rw [List.any_append, List.any_cons, List.any_nil, Bool.or_false]
  unfold inU
  rw [hn]
theorem usedL_nil : usedL [] = List.replicate 16 false := by decide
theorem made_false (n : Nat) : (madeCells #[Value.bool false] n).toList = (List.replicate n false).map Value.bool := by
  apply List.ext_getElem
  · simp [madeCells]
  · intro i h1 h2
    simp [madeCells, Nat.mod_one]

set_option maxRecDepth 100000 in
set_option maxHeartbeats 4000000 in
theorem used_any (v : Value) (l : List Us) (w : World) (hv : UseV w v l) (hl : l.length ≤ 140737488355328) :
    Calls Try.prog 24 #[v] w fun e w' => ∃ a cap, e = .returned (.slice a (usedU l).length cap) ∧ SlOf w' (.slice a (usedU l).length cap) 1 (fun x => [.bool x]) (usedU l) ∧ Below w.heap.size w w' := by
  obtain ⟨i0, hi, hz0, hz1, hz2⟩ := info_parts info_bool
  have hm := may_any v l w hv hl
  have HV := Lib.hid hv
  obtain ⟨aX, cX, rfl, hcX, hnX, hcellX⟩ := hv
  clear hcellX hnX
  cases hmay : mayU l with
  | false =>
    rw [hmay] at hm
    have HU : Hid (usedU l = []) := by unfold Hid usedU; rw [hmay]; rfl
    clear hmay
    go_enter Try.func24, Try.ntmps24
    go_wp2_with fail
    refine hm.mono ?_
    rintro e w1 ⟨rfl, hb1⟩
    go_wp2_with fail
    go_ret
    rw [HU.out]
    exact ⟨none, 0, rfl, sl_nil fun _ => rfl, hb1⟩
  | true =>
    rw [hmay] at hm
    have HU : Hid (usedU l = usedL l) := by unfold Hid usedU; rw [hmay]; rfl
    have HM := Lib.hid (mayU_iff.1 hmay).1
    have hl16 := mayU_len hmay
    clear hmay
    go_enter Try.func24, Try.ntmps24
    go_wp2_with fail
    refine hm.mono ?_
    rintro e w1 ⟨rfl, hb1⟩
    have Hb1 := Lib.hid hb1
    clear hb1 hm
    go_wp2_with (first
      | (at_make; refine wpList_make_full _ rfl _ _ 30 rfl w1.heap.size 4 i0 (.bool false) 1 Try.underlying30 hi hz0 hz1 .i64 .i64 _ _ 16 rfl rfl rfl rfl (by rw [hz2]; omega) (by simp [maxLen]) (Nat.le_refl _) ?_
         intro w2 hown2 hg2
         have hb2 := (Below.refl w1.heap.size w1).grown hg2 (Nat.le_refl _) (fun k hk => by cases hk)
         rw [Nat.mul_one] at hown2
         have hown2' : w2.ownsRow w1.heap.size 4 1 (.slice (some ⟨w1.heap.size, 0, none⟩) 16 16) 16 ((usedL []).map Value.bool) := by rw [usedL_nil, ← made_false]; exact hown2
         have Hown2 := Lib.hid hown2'
         have Hb2 := Lib.hid (below_step9 Hb1.out hb2)
         have hs2 : w1.heap.size < w2.heap.size := owns_lt hown2 _ rfl
         clear hown2 hg2 hb2 hown2')
      | fail)
    obtain ⟨g, hg⟩ : ∃ g, g = w1.heap.size := ⟨_, rfl⟩
    have hgw : w.heap.size ≤ g := by rw [hg]; exact Hb1.out.size
    rw [← hg] at Hown2 hs2 ⊢
    clear hg
    go_loopw [13] (fun i wr => ∃ k : Nat, k ≤ l.length ∧ i = .int .i64 k ∧ wr.ownsRow g 4 1 (.slice (some ⟨g, 0, none⟩) 16 16) 16 ((usedL (l.take k)).map Value.bool) ∧ Below w.heap.size w wr) (fun i _ => l.length - (intOf i).toNat)
    case atStart => exact ⟨0, Nat.zero_le _, rfl, Hown2.out, Hb2.out⟩
    case round =>
      clear Hown2 Hb2
      obtain ⟨k, hk, rfl, hown, hbw⟩ := hrel
      have Hown := Lib.hid hown
      have Hb := Lib.hid hbw
      clear hown hbw
      by_cases hlt : k < l.length
      · obtain ⟨b0, off, hveq, hblt, cells⟩ := use_at (sl_below HV.out Hb.out) hlt
        subst hveq
        obtain ⟨e0, e1, e2, e3⟩ := cells
        have HT := Lib.hid (List.take_succ_eq_append_getElem hlt)
        have hone := oneU_iff.1 (HM.out l[k] (List.getElem_mem hlt))
        generalize l[k] = u at *
        obtain ⟨P, Q, c, o⟩ := u
        dsimp only at e0 e1 e2 e3 hone
        obtain ⟨o1, o2, o3, o4, _⟩ := hone
        obtain ⟨p, rfl⟩ := Int.eq_ofNat_of_zero_le (a := P) (by omega)
        obtain ⟨q, rfl⟩ := Int.eq_ofNat_of_zero_le (a := Q) (by omega)
        have g0 : (k : Int) < (l.length : Int) := by omega
        have g1 : (0 : Int) ≤ (k : Int) := by omega
        have hsz := Hb.out.size
        have hgl : g < wr.heap.size := owns_lt Hown.out _ rfl
        have HEnd := Lib.hid (usedX_end (l.take k) ((p : Int), (q : Int), c, o) rfl)
        have HStart : Hid ((wr.alloc (.cells #[.int .i64 (p : Int), .int .i64 (q : Int), .int .i64 c, .bool o] 41)).ownsRow g 4 1 (.slice (some ⟨g, 0, none⟩) 16 16) 16 ((usedX (l.take k) p 0).map Value.bool)) := by
          unfold Hid; rw [usedX_zero]; exact Hown.out.alloc _
        have HB2 := Lib.hid (Hb.out.alloc hsz (.cells #[.int .i64 (p : Int), .int .i64 (q : Int), .int .i64 c, .bool o] 41))
        have hc0 : (wr.alloc (.cells #[.int .i64 (p : Int), .int .i64 (q : Int), .int .i64 c, .bool o] 41)).cell? ⟨wr.heap.size, 0, none⟩ = some (.int .i64 (p : Int)) := by rw [World.cell?_alloc_new]; rfl
        have HC0 := Lib.hid hc0
        clear Hown Hb hc0
        go_wp2_with fail
        obtain ⟨B, hB⟩ : ∃ B, B = wr.heap.size := ⟨_, rfl⟩
        obtain ⟨W0, hW0⟩ : ∃ W0, W0 = wr.alloc (.cells #[.int .i64 (p : Int), .int .i64 (q : Int), .int .i64 c, .bool o] 41) := ⟨_, rfl⟩
        have hgB : g < B := by omega
        rw [← hB] at HC0 ⊢
        rw [← hW0] at HC0 HStart HB2 ⊢
        clear hB hW0 e0 e1 e2 e3 hblt hgl hsz
        go_loopw [19] (fun i wi => ∃ j : Nat, j ≤ q ∧ i = .int .i64 j ∧ wi.ownsRow g 4 1 (.slice (some ⟨g, 0, none⟩) 16 16) 16 ((usedX (l.take k) p j).map Value.bool) ∧ wi.cell? ⟨B, 0, none⟩ = some (.int .i64 (p : Int)) ∧ Below w.heap.size w wi) (fun i _ => q - (intOf i).toNat)
        case atStart => exact ⟨0, Nat.zero_le _, rfl, HStart.out, HC0.out, HB2.out⟩
        case round =>
          clear HStart HB2 HC0
          obtain ⟨j, hj, rfl, hown, hc, hbw⟩ := hrel
          have Hown := Lib.hid hown
          have Hb := Lib.hid hbw
          clear hown hbw
          by_cases hjq : j < q
          · have e5 : wr.cell? ⟨g, p + j, none⟩ = some (.bool ((usedX (l.take k) p j)[p + j]'(by rw [usedX_length]; omega))) := by
              rw [Hown.out.cellAt (p + j) (by omega), List.getElem?_map, List.getElem?_eq_getElem (by rw [usedX_length]; omega)]; rfl
            have e6 : wr.frozen? ⟨g, p + j, none⟩ = false := Hown.out.frozenAt (p + j)
            have hs := (Hown.out.stored (p + j) (.bool true)).1
            rw [← List.map_set, usedX_set _ (by omega)] at hs
            have HS := Lib.hid hs
            have HBs := Lib.hid (Hb.out.setCell (p := ⟨g, p + j, none⟩) hgw (.bool true))
            have HCs : Hid ((wr.setCell ⟨g, p + j, none⟩ (.bool true)).cell? ⟨B, 0, none⟩ = some (.int .i64 (p : Int))) := by
              unfold Hid
              rw [World.cell?_setCell_other _ _ _ _ (by intro h; injection h with h _ _; omega)]; exact hc
            have g2 : (j : Int) < (q : Int) := by omega
            have g3 : (0 : Int) ≤ (j : Int) := by omega
            have g4 : (p : Int) + (j : Int) < 16 := by omega
            have g5 : (0 : Int) ≤ (p : Int) + (j : Int) := by omega
            have g6 : ((p : Int) + (j : Int)).toNat = p + j := by omega
            clear hs
            generalize (usedX (l.take k) p j)[p + j]'(by rw [usedX_length]; omega) = bb at *
            go_wp2_with fail
            exact ⟨⟨j + 1, by omega, by go_num, HS.out, HCs.out, HBs.out⟩, by simp [intOf]; omega⟩
          · obtain rfl : j = q := by omega
            have hown := Hown.out
            rw [HEnd.out, ← HT.out] at hown
            have HO := Lib.hid hown
            clear hown hc
            go_wp2_with fail
            exact ⟨⟨k + 1, by omega, by go_num, HO.out, Hb.out⟩, by simp [intOf]; omega⟩
      · obtain rfl : k = l.length := by omega
        have hown := Hown.out
        rw [List.take_length] at hown
        have hs := (sl_of_owns hown).1
        have HS := Lib.hid hs
        clear hown hs
        go_wp2_with fail
        go_ret
        rw [HU.out, usedL_length]
        exact ⟨_, _, rfl, HS.out, Hb.out⟩
end Go.Proofs.Ytddbcpmhgjkjpaa
