/- Contracts: what the document's table uses; Commit, the program's and the document's; are two alike tables alike; is there an old slot. Conditions: numbers fit. -/
import Derived.Test.YtddbcpmhgjkjpaaSloC
import Derived.Test.YtddbcpmhgjkjpaaSloE
import Derived.Test.YtddbcpmhgjkjpaaSloD
namespace Go.Proofs.Ytddbcpmhgjkjpaa
open Go.RowKit

theorem hasU_snoc (l : List Us) (u : Us) (s : Nat) : hasU (l ++ [u]) s = (hasU l s || inU u s) := by
  unfold hasU; rw [List.any_append, List.any_cons, List.any_nil, Bool.or_false]
theorem usedL_take (l : List Us) (s : Nat) : ((List.range (s + 1)).map (hasU l)) = (List.range s).map (hasU l) ++ [hasU l s] := by
  rw [List.range_succ, List.map_append]; rfl
theorem cell_one9 (w : World) (e : TypeId) (x : Value) : ∀ j u, [x][j]? = some u → (w.alloc (.cells #[x] e)).cell? ((⟨w.heap.size, 0, none⟩ : Addr).add j) = some u := by
  intro j u hj
  rw [add_none, Nat.zero_add, World.cell?_alloc_new]
  simpa using hj

set_option maxRecDepth 100000 in
set_option maxHeartbeats 4000000 in
theorem usedR_any (v : Value) (l : List Us) (w : World) (hv : UseV w v l) (hl : l.length ≤ 140737488355328) :
    Calls Try.prog 25 #[v] w fun e w' => ∃ a cap, e = .returned (.slice a (usedU l).length cap) ∧ SlOf w' (.slice a (usedU l).length cap) 1 (fun x => [.bool x]) (usedU l) ∧ Below w.heap.size w w' := by
  obtain ⟨i0, hi, hz0, hz1, hz2⟩ := info_parts info_bool
  have hm := mayR_any v l w hv hl
  have HV := Lib.hid hv
  obtain ⟨aX, cX, rfl, hcX, hnX, hcellX⟩ := hv
  clear hcellX hnX
  cases hmay : mayU l with
  | false =>
    rw [hmay] at hm
    have HU : Hid (usedU l = []) := by unfold Hid usedU; rw [hmay]; rfl
    clear hmay
    go_enter Try.func25, Try.ntmps25
    go_wp2_with fail
    refine hm.mono ?_
    rintro e w1 ⟨rfl, hb1⟩
    go_wp2_with fail
    go_ret
    rw [HU.out]
    exact ⟨none, 0, rfl, sl_nil fun _ => rfl, hb1⟩
  | true =>
    rw [hmay] at hm
    have HU : Hid (usedU l = usedL l) := by unfold Hid usedU; rw [hmay]; rfl
    have HM := Lib.hid (mayU_iff.1 hmay).1
    clear hmay
    go_enter Try.func25, Try.ntmps25
    go_wp2_with fail
    refine hm.mono ?_
    rintro e w1 ⟨rfl, hb1⟩
    have Hb1 := Lib.hid hb1
    have HE := Lib.hid (owns_empty w1 4 1)
    have hww := hb1.size
    clear hb1 hm
    go_wp2_with fail
    obtain ⟨n1, hn1⟩ : ∃ n1, n1 = w1.heap.size := ⟨_, rfl⟩
    rw [← hn1] at HE hww ⊢
    go_loopw [3, 4] (fun vo i wr => ∃ s : Nat, s ≤ 16 ∧ i = .int .i64 s ∧ wr.ownsRow n1 4 1 vo s (((List.range s).map (hasU l)).map Value.bool) ∧ n1 ≤ wr.heap.size ∧ Below w.heap.size w wr) (fun _ i _ => 16 - (intOf i).toNat)
    case atStart => exact ⟨0, by omega, rfl, HE.out, by simp; omega, Hb1.out.alloc (by omega) _⟩
    case round =>
      clear HE Hb1 hn1
      obtain ⟨s, hs, rfl, hown, hnw0, hbw⟩ := hrel
      obtain ⟨a0, c0, rfl, _⟩ := owns_shape hown
      have Hown := Lib.hid hown
      have Hb := Lib.hid hbw
      have hnb := owns_lt hown
      clear hown hbw
      by_cases hs16 : s < 16
      · have g0 : (s : Int) < 16 := by omega
        have HT := Lib.hid (usedL_take l s)
        clear hnb
        go_wp2_with fail
        obtain ⟨wo, hwo⟩ : ∃ wo : World, wo = wr := ⟨_, rfl⟩
        subst hwo
        go_loopw [5, 6] (fun h i wi => ∃ j : Nat, j ≤ l.length ∧ i = .int .i64 j ∧ h = .bool (hasU (l.take j) s) ∧ ∃ m, wi = wo.drewN m) (fun _ i _ => l.length - (intOf i).toNat)
        case atStart => exact ⟨0, Nat.zero_le _, rfl, rfl, 0, rfl⟩
        case round =>
          obtain ⟨j, hj, rfl, rfl, m, hm⟩ := hrel
          by_cases hjl : j < l.length
          · obtain ⟨b0, off, hveq, hblt, cells⟩ := use_at (sl_below HV.out Hb.out) hjl
            subst hveq
            obtain ⟨e0, e1, _, _⟩ := cells
            have E0 : wr.cell? ⟨b0, off + j * 4, none⟩ = some (.int .i64 l[j].1) := by rw [hm]; exact e0
            have E1 : wr.cell? ⟨b0, off + j * 4 + 1, none⟩ = some (.int .i64 l[j].2.1) := by rw [hm]; exact e1
            have HN : Hid (hasU (l.take (j + 1)) s = (hasU (l.take j) s || inU l[j] s)) := by unfold Hid; rw [List.take_succ_eq_append_getElem hjl]; exact hasU_snoc _ _ _
            have hone := oneU_iff.1 (HM.out l[j] (List.getElem_mem hjl))
            have Hm := Lib.hid hm
            have HI : Hid (inU l[j] s = decide (l[j].1 ≤ (s : Int) ∧ (s : Int) < l[j].1 + l[j].2.1)) := rfl
            clear e0 e1 hm
            generalize hb : hasU (l.take j) s = b at *
            clear hb
            generalize l[j] = u at *
            obtain ⟨p, q, c, o⟩ := u
            dsimp only at E0 E1 hone HI
            obtain ⟨o1, o2, o3, o4, _⟩ := hone
            have g1 : (j : Int) < (l.length : Int) := by omega
            have g2 : (0 : Int) ≤ (j : Int) := by omega
            have x1 : IntKind.i64.wrap (p + q) = p + q := IntWalk.i64_in _ (by omega)
            cases b with
            | true =>
              go_wp2_with fail
              go_quiet (fail)
              go_wp2_with fail
              exact ⟨⟨j + 1, by omega, by go_num, by rw [HN.out]; rfl, _, by rw [Hm.out]; simp only [World.drewN_drewN]; rfl⟩, by simp [intOf]; omega⟩
            | false =>
              by_cases h1 : p ≤ (s : Int)
              · have b1 : decide (p ≤ (s : Int)) = true := by simpa using h1
                by_cases h2 : (s : Int) < p + q
                · have b2 : decide ((s : Int) < p + q) = true := by simpa using h2
                  have HI2 : Hid (inU (p, q, c, o) s = true) := by unfold Hid; rw [HI.out]; simp; omega
                  go_wp2_with fail
                  go_quiet (fail)
                  go_wp2_with fail
                  exact ⟨⟨j + 1, by omega, by go_num, by rw [HN.out, HI2.out]; rfl, _, by rw [Hm.out]; simp only [World.drewN_drewN]; rfl⟩, by simp [intOf]; omega⟩
                · have b2 : decide ((s : Int) < p + q) = false := by simpa using h2
                  have HI2 : Hid (inU (p, q, c, o) s = false) := by unfold Hid; rw [HI.out]; simp; omega
                  go_wp2_with fail
                  go_quiet (fail)
                  go_wp2_with fail
                  exact ⟨⟨j + 1, by omega, by go_num, by rw [HN.out, HI2.out]; rfl, _, by rw [Hm.out]; simp only [World.drewN_drewN]; rfl⟩, by simp [intOf]; omega⟩
              · have b1 : decide (p ≤ (s : Int)) = false := by simpa using h1
                have HI2 : Hid (inU (p, q, c, o) s = false) := by unfold Hid; rw [HI.out]; simp; omega
                go_wp2_with fail
                go_quiet (fail)
                go_wp2_with fail
                exact ⟨⟨j + 1, by omega, by go_num, by rw [HN.out, HI2.out]; rfl, _, by rw [Hm.out]; simp only [World.drewN_drewN]; rfl⟩, by simp [intOf]; omega⟩
          · obtain rfl : j = l.length := by omega
            have HF : Hid (hasU (l.take l.length) s = hasU l s) := by unfold Hid; rw [List.take_length]
            have hbr : Below wo.heap.size wo wr := by rw [hm]; exact below_drewN9 (Below.refl _ _) m
            have HB := Lib.hid (below_step9 Hb.out hbr)
            have HO := Lib.hid (owns_below Hown.out hbr)
            have hnw := HB.out.size
            have hn1w : n1 ≤ wr.heap.size := Nat.le_trans hnw0 hbr.size
            clear hm hbr
            rw [HF.out]
            generalize hasU l s = hb at *
            go_wp2_with (first
              | (at_builtin; refine wpList_append_own _ rfl _ _ 30 rfl n1 4 i0 (.bool false) 1 1 Try.underlying30 hi hz0 hz1 hz2 rfl (by decide) (.slice a0 s c0) _ _ rfl (HO.out.alloc _) ⟨wr.heap.size, 0, none⟩ 1 1 [.bool hb] rfl rfl (cell_one9 _ _ _) (by simp [Value.oneCell']) (by simp [maxLen]; omega) (by omega) (by simp; omega) ?_
                 intro v3 w3 hown3 hg3 _
                 have hb3 := (HB.out.alloc hnw _).grown hg3 (by simp; omega) (fun b hbk => by have := owns_block HO.out b hbk; omega)
                 have hn3 : n1 ≤ w3.heap.size := by have := hg3.size; simp at this; omega
                 have HO3 := Lib.hid hown3
                 have HB3 := Lib.hid hb3
                 clear hown3 hg3 hb3)
              | fail)
            exact ⟨⟨s + 1, by omega, by go_num, by rw [HT.out, List.map_append]; exact HO3.out, hn3, HB3.out⟩, by simp [intOf]; omega⟩
      · obtain rfl : s = 16 := by omega
        have hs := (sl_of_owns Hown.out).1
        have HS : Hid (SlOf wr (.slice a0 16 c0) 1 (fun x => [.bool x]) (usedL l)) := hs
        clear hs
        go_wp2_with fail
        go_ret
        rw [HU.out, usedL_length]
        exact ⟨_, _, rfl, HS.out, Hb.out⟩

theorem commitL_snoc (l : List Us) (u : Us) : commitL (l ++ [u]) = commitL l ++ (if 0 < u.2.2.1 then [oldU u] else []) := by
  unfold commitL
  rw [List.filter_append, List.map_append]
  by_cases h : 0 < u.2.2.1 <;> simp [h]
theorem commitL_le (l : List Us) : (commitL l).length ≤ l.length := by
  unfold commitL; rw [List.length_map]; exact List.length_filter_le _ _
theorem cells_four9 (w : World) (u : Us) (e : TypeId) : ∀ j x, (useE u)[j]? = some x → (w.alloc (.cells #[.int .i64 u.1, .int .i64 u.2.1, .int .i64 u.2.2.1, .bool u.2.2.2] e)).cell? ((⟨w.heap.size, 0, none⟩ : Addr).add j) = some x := by
  intro j x hj
  rw [add_none, Nat.zero_add, World.cell?_alloc_new]
  simpa using hj
theorem useE_one (u : Us) : ∀ x ∈ useE u, x.oneCell' = true := by
  intro x hx
  simp only [useE, List.mem_cons, List.not_mem_nil, or_false] at hx
  rcases hx with rfl | rfl | rfl | rfl <;> rfl
theorem asz9 (w : World) (o : Obj) : (w.alloc o).heap.size = w.heap.size + 1 := by simp

set_option maxRecDepth 100000 in
set_option maxHeartbeats 4000000 in
theorem commit_any (v : Value) (l : List Us) (w : World) (hv : UseV w v l) (hl : l.length ≤ 140737488355328) :
    Calls Try.prog 29 #[v] w fun e w' => ∃ a cap, e = .returned (.slice a (commitU l).length cap) ∧ UseV w' (.slice a (commitU l).length cap) (commitU l) ∧ Below w.heap.size w w' := by
  obtain ⟨i0, hi, hz0, hz1, hz2⟩ := info_parts info_use
  have hm := may_any v l w hv hl
  have HV := Lib.hid hv
  obtain ⟨aX, cX, rfl, hcX, hnX, hcellX⟩ := hv
  clear hcellX hnX
  cases hmay : mayU l with
  | false =>
    rw [hmay] at hm
    have HU : Hid (commitU l = []) := by unfold Hid commitU; rw [hmay]; rfl
    clear hmay
    go_enter Try.func29, Try.ntmps29
    go_wp2_with fail
    refine hm.mono ?_
    rintro e w1 ⟨rfl, hb1⟩
    go_wp2_with fail
    go_ret
    rw [HU.out]
    exact ⟨none, 0, rfl, sl_nil fun _ => rfl, hb1⟩
  | true =>
    rw [hmay] at hm
    have HU : Hid (commitU l = commitL l) := by unfold Hid commitU; rw [hmay]; rfl
    have hl16 := mayU_len hmay
    clear hmay
    go_enter Try.func29, Try.ntmps29
    go_wp2_with fail
    refine hm.mono ?_
    rintro e w1 ⟨rfl, hb1⟩
    have Hb1 := Lib.hid hb1
    clear hb1 hm
    go_wp2_with fail
    go_loopw [3, 11] (fun vo i wr => ∃ k : Nat, k ≤ l.length ∧ i = .int .i64 k ∧ wr.ownsRow w.heap.size 41 4 vo (commitL (l.take k)).length (cells4 (commitL (l.take k))) ∧ Below w.heap.size w wr) (fun _ i _ => l.length - (intOf i).toNat)
    case atStart => exact ⟨0, Nat.zero_le _, rfl, World.ownsRow_nil _ _ _ _, Hb1.out⟩
    case round =>
      clear Hb1
      obtain ⟨k, hk, rfl, hown, hbw⟩ := hrel
      obtain ⟨a0, c0, rfl, _⟩ := owns_shape hown
      have Hown := Lib.hid hown
      have Hb := Lib.hid hbw
      clear hown hbw
      by_cases hlt : k < l.length
      · obtain ⟨b0, off, hveq, hblt, cells⟩ := use_at (sl_below HV.out Hb.out) hlt
        subst hveq
        obtain ⟨e0, e1, e2, e3⟩ := cells
        have HN : Hid (commitL (l.take (k + 1)) = commitL (l.take k) ++ (if 0 < l[k].2.2.1 then [oldU l[k]] else [])) := by unfold Hid; rw [List.take_succ_eq_append_getElem hlt]; exact commitL_snoc _ _
        have hle := commitL_le (l.take k)
        have hle2 : (l.take k).length ≤ k := List.length_take_le _ _
        have hsz := Hb.out.size
        have g0 : (k : Int) < (l.length : Int) := by omega
        have g1 : (0 : Int) ≤ (k : Int) := by omega
        generalize l[k] = u at *
        generalize commitL (l.take k) = L0 at *
        obtain ⟨p, q, c, o⟩ := u
        dsimp only at e0 e1 e2 e3 HN
        by_cases hc : 0 < c
        · have b1 : decide (0 < c) = true := by simpa using hc
          rw [if_pos hc] at HN
          clear hc
          go_wp2_with (first
            | (at_builtin; refine wpList_append_own _ rfl _ _ 22 rfl w.heap.size 41 i0 _ 4 32 Try.underlying22 hi hz0 hz1 hz2 rfl (by decide) (.slice a0 L0.length c0) _ _ rfl ((Hown.out.alloc _).alloc _) ⟨wr.heap.size + 1, 0, none⟩ 1 1 (useE (p, q, c, true)) rfl rfl (by have h := cells_four9 (wr.alloc (.cells #[.int .i64 p, .int .i64 q, .int .i64 c, .bool true] 41)) (p, q, c, true) 41; rw [asz9] at h; exact h) (useE_one _) (by simp [maxLen]; omega) (by omega) (by simp; omega) ?_
               intro v3 w3 hown3 hg3 _
               have hb3 := ((Hb.out.alloc hsz _).alloc (by simp; omega) _).grown hg3 (by simp; omega) (fun b hbk => owns_block Hown.out b hbk)
               have HO3 := Lib.hid hown3
               have HB3 := Lib.hid hb3
               clear hown3 hg3 hb3)
            | fail)
          exact ⟨⟨k + 1, by omega, by go_num, by rw [HN.out, cells4_append, List.length_append]; exact HO3.out, HB3.out⟩, by simp [intOf]; omega⟩
        · have b1 : decide (0 < c) = false := by simpa using hc
          rw [if_neg hc, List.append_nil] at HN
          clear hc
          go_wp2_with fail
          exact ⟨⟨k + 1, by omega, by go_num, by rw [HN.out]; exact Hown.out.alloc _, Hb.out.alloc hsz _⟩, by simp [intOf]; omega⟩
      · obtain rfl : k = l.length := by omega
        have hown := Hown.out
        rw [List.take_length] at hown ⊢
        have hs := (use_of_owns hown).1
        have HS := Lib.hid hs
        clear hown hs
        go_wp2_with fail
        go_ret
        rw [HU.out]
        exact ⟨_, _, rfl, HS.out, Hb.out⟩
end Go.Proofs.Ytddbcpmhgjkjpaa
