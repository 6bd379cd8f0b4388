/- The document's Commit and Free of tables. Conditions: numbers fit. -/
import Derived.Test.YtddbcpmhgjkjpaaAlcO
namespace Go.Proofs.Ytddbcpmhgjkjpaa
open Go.RowKit

set_option maxRecDepth 100000 in
set_option maxHeartbeats 4000000 in
theorem commitRB_any (v : Value) (l : List Us) (w : World) (hv : UseV w v l) (hl : l.length ≤ 140737488355328) :
    Calls Try.prog 30 #[v] w fun e w' => ∃ a cap, e = .returned (.slice a (commitU l).length cap) ∧ UseV w' (.slice a (commitU l).length cap) (commitU l) ∧ Below w.heap.size w w' ∧ ∀ b, (Value.slice a (commitU l).length cap).ownBlock = some b → w.heap.size ≤ b ∧ b < w'.heap.size := by
  obtain ⟨i0, hi, hz0, hz1, hz2⟩ := info_parts info_use
  have hm := fun w' (h : Below w.heap.size w w') => mayR_any v l w' (sl_below hv h) hl
  have HV := Lib.hid hv
  obtain ⟨aX, cX, rfl, hcX, hnX, hcellX⟩ := hv
  clear hcellX hnX
  have HE := Lib.hid (owns_empty w 41 4)
  cases hmay : mayU l with
  | false =>
    rw [hmay] at hm
    have HMc := Lib.hid hm
    have HU : Hid (commitU l = []) := by unfold Hid commitU; rw [hmay]; rfl
    have hpos : 0 < l.length := by
      rcases l with _ | ⟨u, l⟩
      · exact absurd hmay (by decide)
      · simp
    clear hmay hm
    have g0 : decide ((0 : Int) < (l.length : Int)) = true := by simp; omega
    go_enter Try.func30, Try.ntmps30
    go_wp2_with fail
    obtain ⟨W1, hW1⟩ : ∃ W1, W1 = w.alloc (.cells #[] 41) := ⟨_, rfl⟩
    have hb1 : Below w.heap.size w W1 := by rw [hW1]; exact (Below.refl _ _).alloc (Nat.le_refl _) _
    have HB1 := Lib.hid hb1
    have hsW : w.heap.size < W1.heap.size := by rw [hW1]; simp
    rw [← hW1]
    clear hW1 hb1 HE
    go_loopw [3, 4] (fun vo i wr => i = .int .i64 0 ∧ vo = .slice (some ⟨w.heap.size, 0, none⟩) 0 0 ∧ wr = W1) (fun _ _ _ => 0)
    case atStart => exact ⟨rfl, rfl, rfl⟩
    case round =>
      obtain ⟨rfl, rfl, rfl⟩ := hrel
      go_wp2_with fail
      refine (HMc.out _ HB1.out).mono ?_
      rintro e w2 ⟨rfl, hb2⟩
      go_wp2_with fail
      go_ret
      rw [HU.out]
      exact ⟨_, _, rfl, sl_nil nofun, below_step9 HB1.out hb2, fun b hb => by
        simp only [Value.ownBlock, Option.some.injEq] at hb
        subst hb
        exact ⟨Nat.le_refl _, Nat.lt_of_lt_of_le hsW hb2.size⟩⟩
  | true =>
    rw [hmay] at hm
    have HMc := Lib.hid hm
    have HU : Hid (commitU l = commitL l) := by unfold Hid commitU; rw [hmay]; rfl
    have hl16 := mayU_len hmay
    clear hmay hm
    go_enter Try.func30, Try.ntmps30
    go_wp2_with fail
    go_loopw [3, 4] (fun vo i wr => ∃ k : Nat, k ≤ l.length ∧ i = .int .i64 k ∧ wr.ownsRow w.heap.size 41 4 vo (commitL (l.take k)).length (cells4 (commitL (l.take k))) ∧ Below w.heap.size w wr) (fun _ i _ => l.length - (intOf i).toNat)
    case atStart => exact ⟨0, Nat.zero_le _, rfl, HE.out, (Below.refl _ _).alloc (Nat.le_refl _) _⟩
    case round =>
      clear HE
      obtain ⟨k, hk, rfl, hown, hbw⟩ := hrel
      obtain ⟨a0, c0, rfl, _⟩ := owns_shape hown
      by_cases hlt : k < l.length
      · have g0 : (k : Int) < (l.length : Int) := by omega
        have g1 : (0 : Int) ≤ (k : Int) := by omega
        have b0 : decide ((k : Int) < (l.length : Int)) = true := by simpa using g0
        have HO0 := Lib.hid hown
        have HB0 := Lib.hid hbw
        clear hown hbw
        go_wp2_with fail
        refine (HMc.out _ HB0.out).mono ?_
        rintro e w2 ⟨rfl, hb2⟩
        have Hown := Lib.hid (owns_below HO0.out hb2)
        have Hb := Lib.hid (below_step9 HB0.out hb2)
        clear hb2 HO0 HB0 b0
        obtain ⟨b0, off, hveq, hblt, cells⟩ := use_at (sl_below HV.out Hb.out) hlt
        subst hveq
        obtain ⟨e0, e1, e2, e3⟩ := cells
        have HN : Hid (commitL (l.take (k + 1)) = commitL (l.take k) ++ (if 0 < l[k].2.2.1 then [oldU l[k]] else [])) := by unfold Hid; rw [List.take_succ_eq_append_getElem hlt]; exact commitL_snoc _ _
        have hle := commitL_le (l.take k)
        have hle2 : (l.take k).length ≤ k := List.length_take_le _ _
        have hsz := Hb.out.size
        generalize l[k] = u at *
        generalize commitL (l.take k) = L0 at *
        obtain ⟨p, q, c, o⟩ := u
        dsimp only at e0 e1 e2 e3 HN
        by_cases hc : 0 < c
        · have b1 : decide (0 < c) = true := by simpa using hc
          rw [if_pos hc] at HN
          clear hc
          go_wp2_with (first
            | (at_builtin; refine wpList_append_own _ rfl _ _ 22 rfl w.heap.size 41 i0 _ 4 32 Try.underlying22 hi hz0 hz1 hz2 rfl (by decide) (.slice a0 L0.length c0) _ _ rfl ((Hown.out.alloc _).alloc _) ⟨w2.heap.size + 1, 0, none⟩ 1 1 (useE (p, q, c, true)) rfl rfl (by have h := cells_four9 (w2.alloc (.cells #[.int .i64 p, .int .i64 q, .int .i64 c, .bool true] 41)) (p, q, c, true) 41; rw [asz9] at h; exact h) (useE_one _) (by simp [maxLen]; omega) (by omega) (by simp; omega) ?_
               intro v3 w3 hown3 hg3 _
               have hb3 := ((Hb.out.alloc hsz _).alloc (by simp; omega) _).grown hg3 (by simp; omega) (fun b hbk => owns_block Hown.out b hbk)
               have HO3 := Lib.hid hown3
               have HB3 := Lib.hid hb3
               clear hown3 hg3 hb3)
            | fail)
          exact ⟨⟨k + 1, by omega, by go_num, by rw [HN.out, cells4_append, List.length_append]; exact HO3.out, HB3.out⟩, by simp [intOf]; omega⟩
        · have b1 : decide (0 < c) = false := by simpa using hc
          rw [if_neg hc, List.append_nil] at HN
          clear hc
          go_wp2_with fail
          exact ⟨⟨k + 1, by omega, by go_num, by rw [HN.out]; exact Hown.out, Hb.out⟩, by simp [intOf]; omega⟩
      · obtain rfl : k = l.length := by omega
        rw [List.take_length] at hown ⊢
        have HS := Lib.hid (use_of_owns hown).1
        have HB0 := Lib.hid hbw
        have HK := Lib.hid (fun b hb => And.intro (owns_block hown b hb) (owns_lt hown b hb))
        clear hown hbw
        go_wp2_with fail
        go_ret
        rw [HU.out]
        exact ⟨_, _, rfl, HS.out, HB0.out, fun b hb => HK.out b hb⟩

set_option maxRecDepth 100000 in
set_option maxHeartbeats 4000000 in
theorem commitTR_any (v : Value) (ls : List (List Us)) (w : World) (hv : TabV w v ls) (hf : FewT ls) :
    Calls Try.prog 51 #[v] w fun e w' => ∃ a cap, e = .returned (.slice a (commitT ls).length cap) ∧ TabV w' (.slice a (commitT ls).length cap) (commitT ls) ∧ Below w.heap.size w w' := by
  obtain ⟨i0, hi, hz0, hz1, hz2⟩ := info_parts info_tab
  have hm := fun w' (h : Below w.heap.size w w') => mayTR_any v ls w' (tab_below hv h) hf
  have HV := Lib.hid hv
  obtain ⟨hf1, hf2⟩ := hf
  obtain ⟨aX, cX, rfl, hnX, _⟩ := tab_shape hv
  clear hv hnX
  have HE := Lib.hid (owns_empty w 22 1)
  cases hmay : mayT ls with
  | false =>
    rw [hmay] at hm
    have HMc := Lib.hid hm
    have HU : Hid (commitT ls = []) := by unfold Hid commitT; rw [hmay]; rfl
    clear hmay hm
    by_cases hpos : 0 < ls.length
    · have g0 : decide ((0 : Int) < (ls.length : Int)) = true := by simp; omega
      have g0n : decide (0 < ls.length) = true := by simpa using hpos
      go_enter Try.func51, Try.ntmps51
      go_wp2_with fail
      obtain ⟨W1, hW1⟩ : ∃ W1, W1 = w.alloc (.cells #[] 22) := ⟨_, rfl⟩
      have hb1 : Below w.heap.size w W1 := by rw [hW1]; exact (Below.refl _ _).alloc (Nat.le_refl _) _
      have HB1 := Lib.hid hb1
      rw [← hW1]
      clear hW1 hb1 HE hpos
      go_loopw [3, 4] (fun vo i wr => i = .int .i64 0 ∧ vo = .slice (some ⟨w.heap.size, 0, none⟩) 0 0 ∧ wr = W1) (fun _ _ _ => 0)
      case atStart => exact ⟨rfl, rfl, rfl⟩
      case round =>
        obtain ⟨rfl, rfl, rfl⟩ := hrel
        go_wp2_with fail
        refine (HMc.out _ HB1.out).mono ?_
        rintro e w2 ⟨rfl, hb2⟩
        go_wp2_with fail
        go_ret
        rw [HU.out]
        exact ⟨_, _, rfl, tab_nil nofun, below_step9 HB1.out hb2⟩
    · have h0 : ls.length = 0 := by omega
      have g0 : decide ((0 : Int) < (ls.length : Int)) = false := decide_eq_false (by omega)
      have g0n : decide (0 < ls.length) = false := decide_eq_false (by omega)
      clear hpos h0
      go_enter Try.func51, Try.ntmps51
      go_wp2_with fail
      refine wp_loop_rounds 1 ?_
      rw [rounds_succ]
      go_wp2_with fail
      go_ret
      rw [HU.out]
      exact ⟨_, _, rfl, tab_nil nofun, (Below.refl _ _).alloc (Nat.le_refl _) _⟩
  | true =>
    rw [hmay] at hm
    have HMc := Lib.hid hm
    have HU : Hid (commitT ls = ls.map commitU) := by unfold Hid commitT; rw [hmay]; rfl
    clear hmay hm
    go_enter Try.func51, Try.ntmps51
    go_wp2_with fail
    go_loopw [3, 4] (fun vo i wr => ∃ (k : Nat) (vs : List Value), k ≤ ls.length ∧ i = .int .i64 k ∧ wr.ownsRow w.heap.size 22 1 vo k vs ∧ vs.length = k ∧ (∀ i (hi : i < vs.length) (hj : i < (ls.map commitU).length), UseV wr vs[i] (ls.map commitU)[i]) ∧ (∀ x ∈ vs, ∀ b, x.ownBlock = some b → vo.ownBlock ≠ some b ∧ b < wr.heap.size) ∧ Below w.heap.size w wr) (fun _ i _ => ls.length - (intOf i).toNat)
    case atStart => exact ⟨0, [], Nat.zero_le _, rfl, HE.out, rfl, fun i hi => by simp at hi, (fun x hx => by simp at hx), (Below.refl _ _).alloc (Nat.le_refl _) _⟩
    case round =>
      clear HE
      obtain ⟨k, vs, hk, rfl, hown, hvl, hus, hbk, hbw⟩ := hrel
      obtain ⟨a0, c0, rfl, _⟩ := owns_shape hown
      have Hown := Lib.hid hown
      have Hb := Lib.hid hbw
      have Hus := Lib.hid hus
      have Hbk := Lib.hid hbk
      have Hvl := Lib.hid hvl
      clear hown hbw hus hbk hvl
      by_cases hlt : k < ls.length
      · have g0 : (k : Int) < (ls.length : Int) := by omega
        have g1 : (0 : Int) ≤ (k : Int) := by omega
        have b0 : decide ((k : Int) < (ls.length : Int)) = true := by simpa using g0
        go_wp2_with fail
        refine (HMc.out _ Hb.out).mono ?_
        rintro e wm ⟨rfl, hbm⟩
        have HBm := Lib.hid (below_step9 Hb.out hbm)
        have HOm := Lib.hid (owns_below Hown.out hbm)
        have Husm : Hid (∀ i (hi : i < vs.length) (hj : i < (ls.map commitU).length), UseV wm vs[i] (ls.map commitU)[i]) := fun i hi hj => sl_below (Hus.out i hi hj) hbm
        have Hbkm : Hid (∀ x ∈ vs, ∀ b, x.ownBlock = some b → (Value.slice a0 k c0).ownBlock ≠ some b ∧ b < wm.heap.size) := fun x hx b hb => ⟨(Hbk.out x hx b hb).1, Nat.lt_of_lt_of_le (Hbk.out x hx b hb).2 hbm.size⟩
        obtain ⟨b, off, au, cu, hveq, hblt, hcell, hu⟩ := tab_at (tab_below HV.out HBm.out) hlt
        subst hveq
        have hmx := hf1 _ (List.getElem_mem hlt)
        have hc := commitRB_any _ _ wm hu (by omega)
        have HG : Hid (∃ hk : k < (ls.map commitU).length, (ls.map commitU)[k] = commitU ls[k]) := ⟨by simpa using hlt, by simp⟩
        clear hu hbm Hown Hus Hbk
        generalize commitU ls[k] = gl at *
        generalize ls[k].length = xn at *
        go_wp2_with fail
        refine hc.mono ?_
        rintro e w1 ⟨a1, c1, rfl, hu1, hb1, hbl1⟩
        have HB1 := Lib.hid (below_step9 HBm.out hb1)
        have HO := Lib.hid (owns_below HOm.out hb1)
        have hsz := HB1.out.size
        have HU1 := Lib.hid hu1
        have Hbl1 := Lib.hid hbl1
        have Hb1 := Lib.hid hb1
        have Hobk : Hid (∀ b, (Value.slice a0 k c0).ownBlock = some b → b < wm.heap.size) := owns_lt HOm.out
        have Hone : Hid (∀ u ∈ [Value.slice a1 gl.length c1], u.oneCell' = true) := by
          intro u hu
          rw [List.mem_singleton] at hu
          subst hu; rfl
        clear hb1 hc hu1 hbl1
        go_wp2_with (first
          | (at_builtin; refine wpList_append_own_at _ rfl _ _ 46 rfl w.heap.size 22 i0 (.slice none 0 0) 1 24 Try.underlying46 hi hz0 hz1 hz2 rfl (by decide) (.slice a0 k c0) _ _ rfl (HO.out.alloc _) ⟨w1.heap.size, 0, none⟩ 1 1 [.slice a1 gl.length c1] rfl rfl (cell_one9 _ _ _) Hone.out (by simp [maxLen]; omega) (by omega) (by simp; omega) ?_
             intro v3 w3 hown3 hg3 _ hbk3
             have hb3 := (HB1.out.alloc hsz _).grown hg3 (by simp; omega) (fun b hbk => owns_block HO.out b hbk)
             have HO3 := Lib.hid hown3
             have HB3 := Lib.hid hb3
             have HT3 := Lib.hid (tab_step Hb1.out Hobk.out Husm.out Hvl.out Hbkm.out HU1.out Hbl1.out hg3 hbk3 HG.out.1 HG.out.2)
             clear hown3 hg3 hb3 hbk3)
          | fail)
        exact ⟨⟨k + 1, vs ++ [_], by omega, by go_num, HO3.out, by simp [Hvl.out], HT3.out.1, HT3.out.2, HB3.out⟩, by simp [intOf]; omega⟩
      · obtain rfl : k = ls.length := by omega
        have HS := Lib.hid (tab_of_owns (ls := ls.map commitU) Hown.out (by rw [Hvl.out, List.length_map]) (fun i hi hj => Hus.out i hi hj))
        go_wp2_with fail
        go_ret
        rw [HU.out]
        exact ⟨_, _, by rw [List.length_map]; rfl, by rw [List.length_map]; exact HS.out, Hb.out⟩

set_option maxRecDepth 100000 in
set_option maxHeartbeats 4000000 in
theorem freeTR_any (v : Value) (ls : List (List Us)) (w : World) (hv : TabV w v ls) (hf : FewT ls) :
    Calls Try.prog 49 #[v] w fun e w' => e = .returned (.tuple #[.int .i64 (freeTn ls : Nat), .int .i64 (wholeTn ls : Nat)]) ∧ Below w.heap.size w w' := by
  have hm := fun w' (h : Below w.heap.size w w') => mayTR_any v ls w' (tab_below hv h) hf
  have hsum := sum_bound freeN freeN_le ls
  have HV := Lib.hid hv
  obtain ⟨hf1, hf2⟩ := hf
  obtain ⟨aX, cX, rfl, hnX, _⟩ := tab_shape hv
  clear hv hnX
  cases hmay : mayT ls with
  | false =>
    rw [hmay] at hm
    have HMc := Lib.hid hm
    have HE : Hid (freeTn ls = 0 ∧ wholeTn ls = 0) := by unfold Hid freeTn wholeTn; rw [hmay]; exact ⟨rfl, rfl⟩
    clear hmay hm
    by_cases hpos : 0 < ls.length
    · have g0 : decide ((0 : Int) < (ls.length : Int)) = true := by simp; omega
      have g0n : decide (0 < ls.length) = true := by simpa using hpos
      clear hpos
      go_enter Try.func49, Try.ntmps49
      go_wp2_with fail
      refine wp_loop_rounds 1 ?_
      rw [rounds_succ]
      go_wp2_with fail
      refine (HMc.out _ (Below.refl _ _)).mono ?_
      rintro e w2 ⟨rfl, hb2⟩
      go_wp2_with fail
      rw [HE.out.1, HE.out.2]
      exact bodyPost_ret (v := .tuple #[.int .i64 0, .int .i64 0]) (by simp [results, Try.results49, go_sem]) rfl ⟨rfl, hb2⟩
    · have g0 : decide ((0 : Int) < (ls.length : Int)) = false := decide_eq_false (by omega)
      have g0n : decide (0 < ls.length) = false := decide_eq_false (by omega)
      clear hpos
      go_enter Try.func49, Try.ntmps49
      go_wp2_with fail
      refine wp_loop_rounds 1 ?_
      rw [rounds_succ]
      go_wp2_with fail
      rw [HE.out.1, HE.out.2]
      exact bodyPost_ret (v := .tuple #[.int .i64 0, .int .i64 0]) (by simp [results, Try.results49, go_sem]) rfl ⟨rfl, Below.refl _ _⟩
  | true =>
    rw [hmay] at hm
    have HMc := Lib.hid hm
    have HE : Hid (freeTn ls = (ls.map freeN).sum ∧ wholeTn ls = wholeN ls) := by unfold Hid freeTn wholeTn; rw [hmay]; exact ⟨rfl, rfl⟩
    clear hmay hm
    go_enter Try.func49, Try.ntmps49
    go_wp2_with fail
    go_loopw [4, 5, 6] (fun s c i wr => ∃ k : Nat, k ≤ ls.length ∧ i = .int .i64 k ∧ s = .int .i64 (((ls.map freeN).take k).sum : Nat) ∧ c = .int .i64 (wholeN (ls.take k) : Nat) ∧ Below w.heap.size w wr) (fun _ _ i _ => ls.length - (intOf i).toNat)
    case atStart => exact ⟨0, Nat.zero_le _, rfl, rfl, rfl, Below.refl _ _⟩
    case round =>
      obtain ⟨k, hk, rfl, rfl, rfl, hb⟩ := hrel
      have Hb := Lib.hid hb
      clear hb
      by_cases hlt : k < ls.length
      · have g0 : (k : Int) < (ls.length : Int) := by omega
        have g1 : (0 : Int) ≤ (k : Int) := by omega
        have b0 : decide ((k : Int) < (ls.length : Int)) = true := by simpa using g0
        have hle := sum_take_le (ls.map freeN) k
        have HA1 : Hid (((ls.map freeN).take (k + 1)).sum = ((ls.map freeN).take k).sum + freeN ls[k]) := by
          unfold Hid
          rw [sum_le_take (by simpa using hlt)]; simp
        have hfl := freeN_le ls[k]
        have HA := Lib.hid (wholeN_take hlt)
        have hle3 := wholeN_le (ls.take k)
        have hle2 := List.length_take_le k ls
        have x1 : IntKind.i64.wrap ((((ls.map freeN).take k).sum : Nat) + (freeN ls[k] : Int)) = (((ls.map freeN).take k).sum : Nat) + (freeN ls[k] : Int) := IntWalk.i64_in _ (by omega)
        have x2 : IntKind.i64.wrap ((wholeN (ls.take k) : Nat) + 1) = (wholeN (ls.take k) : Nat) + 1 := IntWalk.i64_in _ (by omega)
        generalize ((ls.map freeN).take k).sum = y at *
        generalize wholeN (ls.take k) = z at *
        go_wp2_with fail
        refine (HMc.out _ Hb.out).mono ?_
        rintro e wm ⟨rfl, hbm⟩
        have HBm := Lib.hid (below_step9 Hb.out hbm)
        obtain ⟨b, off, au, cu, hveq, hblt, hcell, hu⟩ := tab_at (tab_below HV.out HBm.out) hlt
        subst hveq
        have hmx := hf1 _ (List.getElem_mem hlt)
        have hc := usedR_any _ _ wm hu (by omega)
        have Hus16 := Lib.hid (used_len ls[k])
        clear hu hbm
        have HFN : Hid (freeP (usedU ls[k]) = freeN ls[k]) := rfl
        go_wp2_with fail
        refine hc.mono ?_
        rintro e w1 ⟨a1, c1, rfl, hs1, hb1⟩
        have HB1 := Lib.hid (below_step9 HBm.out hb1)
        have hd := rfree_any _ _ w1 hs1 (by have := Hus16.out; omega)
        rw [HFN.out] at hd
        have hcell1 : w1.cell? ⟨b, off + k, none⟩ = some (.slice au ls[k].length cu) := (hb1.cell (p := ⟨b, off + k, none⟩) hblt).trans hcell
        clear hs1 hb1 hc hcell
        go_wp2_with fail
        refine hd.mono ?_
        rintro e w2 ⟨rfl, rfl⟩
        clear hd
        generalize freeN ls[k] = fn at *
        generalize ls[k].length = x at *
        by_cases hx : x = 0
        · subst hx
          go_wp2_with fail
          exact ⟨⟨k + 1, by omega, by go_num, by rw [HA1.out]; rfl, by rw [HA.out]; rfl, HB1.out⟩, by simp [intOf]; omega⟩
        · have b1 : ((x : Int) == 0) = false := by simpa using hx
          have HX : Hid ((if x = 0 then 1 else 0) = 0) := if_neg hx
          clear hx
          go_wp2_with fail
          exact ⟨⟨k + 1, by omega, by go_num, by rw [HA1.out]; rfl, by rw [HA.out, HX.out]; rfl, HB1.out⟩, by simp [intOf]; omega⟩
      · obtain rfl : k = ls.length := by omega
        have HS : Hid (((ls.map freeN).take ls.length).sum = (ls.map freeN).sum) := by unfold Hid; rw [List.take_of_length_le (by simp)]
        rw [List.take_length, HS.out]
        go_wp2_with fail
        rw [HE.out.1, HE.out.2]
        exact bodyPost_ret (v := .tuple #[.int .i64 ((ls.map freeN).sum : Nat), .int .i64 (wholeN ls : Nat)]) (by simp [results, Try.results49, go_sem]) rfl ⟨rfl, Hb.out⟩
end Go.Proofs.Ytddbcpmhgjkjpaa
