/- The walk of match.Expand. Conditions: numbers fit. The walk of Same on two lists of tokens that are alike. Conditions: numbers fit. fixed of layer 4. No condition. The walk of the reference's Expand. Conditions: numbers fit. The walk of the reference's Expand, of any many tokens, if few bytes may be told. Conditions: numbers fit. -/
import Derived.Laws.BytesArg
import Derived.Shelf.Bytes.SlSmallAll
import Derived.Test.YtolappilfjhfaaaWg
namespace Go.Proofs.Ytolappilfjhfaaa
open Go.RowKit

theorem info_u8m : (Try.prog.info? 5).map (fun i => (i.zero, i.size, i.bytes)) = some (some (.int .u8 0), 1, 1) := by kernel_rfl

/-- What Expand tells. -/
def toldS (r : Option (List Int)) : ByteArray := match r with | some o => strOfNums o | none => ByteArray.empty
def toldB (r : Option (List Int)) : Bool := r.isSome

/-- 'string(b)' of a slice of bytes that reads as a list. -/
theorem convert_sl {w : World} {v : Value} {xs : List Int} (h : SlOf w v 1 (fun x => [.int .u8 x]) xs) : (convert 69 9 v).run Try.prog w = .ok (.string (strOfNums xs)) w := by
  rcases sl_one h with ⟨rfl, ad, cap, rfl, _⟩ | ⟨_, b, off, cap, rfl, _, _, hc⟩
  · exact run_convert_bytes_zero (P := Try.prog) w 69 5 Try.underlying69 Try.underlying5 ad cap 9 Try.underlying9
  · exact run_convert_bytes_arg (P := Try.prog) w 69 5 Try.underlying69 Try.underlying5 b off xs.length cap xs rfl (fun i hi => by
      rw [hc i hi, List.getD_eq_getElem?_getD, List.getElem?_eq_getElem hi]; rfl) 9 Try.underlying9

theorem below_stepA {w a b : World} {o : Obj} (h : Below w.heap.size w a) (h2 : Below (a.alloc o).heap.size (a.alloc o) b) : Below w.heap.size w b :=
  (h.alloc h.size o).trans (h2.mono (by have := h.size; simp; omega))

set_option maxRecDepth 100000 in
set_option maxHeartbeats 8000000 in
theorem expand_any (v : Value) (l : List TokT) (most : Int) (w : World) (hv : ToksR w v l) (hl : l.length ≤ 100000) :
    Calls Try.prog 52 #[v, .int .i64 most] w fun e w' => e = .returned (.tuple #[.string (toldS (exl most l [])), .bool (toldB (exl most l []))]) ∧ Below w.heap.size w w' := by
  obtain ⟨i0, hi, hz0, hz1, hz2⟩ := info_parts info_u8m
  obtain ⟨a0, c0, rfl, _⟩ := id hv
  go_enter Try.func52, Try.ntmps52
  go_wp2_with fail
  go_loopw [6, 11] (fun uo ui wr => ∃ (k : Nat) (out : List Int), ui = .int .i64 k ∧ k ≤ l.length ∧ exl most (l.drop k) out = exl most l [] ∧ out.length ≤ 18 * k ∧ (∀ x ∈ out, 0 ≤ x ∧ x < 256) ∧ wr.ownsRow w.heap.size 5 1 uo out.length (out.map (Value.int .u8)) ∧ Below w.heap.size w wr) (fun _ ui _ => l.length - (intOf ui).toNat)
  case atStart => exact ⟨0, [], rfl, Nat.zero_le _, rfl, Nat.zero_le _, by simp, World.ownsRow_nil _ _ _ _, Below.refl _ _⟩
  case round =>
    obtain ⟨k, out, rfl, hk, hx, hol, hob, hown, hbe⟩ := hrel
    obtain ⟨a1, c1, rfl, hoc, _⟩ := owns_shape hown
    have HX := Lib.hid hx
    have HO := Lib.hid hown
    have HB := Lib.hid hbe
    have Hob := Lib.hid hob
    clear hx hown hbe hob
    by_cases hend : k = l.length
    · subst hend
      have hr : exl most l [] = some out := by rw [← HX.out, List.drop_length]; rfl
      have Hr := Lib.hid hr
      clear hr
      have hcv := convert_sl (sl_of_owns HO.out).1
      go_wp2_with fail
      refine bodyPost_ret (results_tmp2 rfl _ _ _) rfl ?_
      rw [Hr.out]
      exact ⟨rfl, HB.out⟩
    · have hkl : k < l.length := by omega
      have hx := HX.out
      rw [List.drop_eq_getElem_cons hkl, exl] at hx
      obtain ⟨a', cap', hv', hll, hnn, hcells⟩ := hv
      injection hv' with q1 q2 q3
      subst q1 q3
      rcases hcells with hcells | ⟨b, off, hb1, hb2, hcell⟩
      · rw [hcells] at hkl; exact absurd hkl (by simp)
      have e0 : wr.cell? ⟨b, off + k * 3, none⟩ = some (.int .i64 l[k].1) := by rw [HB.out.cell (p := ⟨b, off + k * 3, none⟩) hb2]; simpa using hcell k hkl 0 (by omega)
      have e1 : wr.cell? ⟨b, off + k * 3 + 1, none⟩ = some (.int .i64 l[k].2.1) := by rw [HB.out.cell (p := ⟨b, off + k * 3 + 1, none⟩) hb2]; simpa [Nat.add_assoc] using hcell k hkl 1 (by omega)
      have e2 : wr.cell? ⟨b, off + k * 3 + 2, none⟩ = some (.int .i64 l[k].2.2) := by rw [HB.out.cell (p := ⟨b, off + k * 3 + 2, none⟩) hb2]; simpa [Nat.add_assoc] using hcell k hkl 2 (by omega)
      subst hb1
      generalize l[k] = t at *
      obtain ⟨tb, td, tn⟩ := t
      dsimp only at e0 e1 e2 hx
      have Hx := Lib.hid hx
      have Hcell := Lib.hid hcell
      clear hx hcell HX
      have hmay := may_any tb td tn (wr.alloc (.cells #[.int .i64 tb, .int .i64 td, .int .i64 tn] 30))
      go_wp2_with fail
      refine hmay.mono ?_
      rintro e w2 ⟨rfl, hb2'⟩
      have hp : wr.heap.size < w2.heap.size := by have := hb2'.size; simp at this; omega
      have g0 : w2.cell? ⟨wr.heap.size, 0, none⟩ = some (.int .i64 tb) := by rw [hb2'.cell (p := ⟨wr.heap.size, 0, none⟩) (by simp), World.cell?_alloc_new]; rfl
      have g1 : w2.cell? ⟨wr.heap.size, 1, none⟩ = some (.int .i64 td) := by rw [hb2'.cell (p := ⟨wr.heap.size, 1, none⟩) (by simp), World.cell?_alloc_new]; rfl
      have g2 : w2.cell? ⟨wr.heap.size, 2, none⟩ = some (.int .i64 tn) := by rw [hb2'.cell (p := ⟨wr.heap.size, 2, none⟩) (by simp), World.cell?_alloc_new]; rfl
      have HO2 := Lib.hid (owns_below (HO.out.alloc (.cells #[.int .i64 tb, .int .i64 td, .int .i64 tn] 30)) hb2')
      have HB2 := Lib.hid (below_stepA HB.out hb2')
      have Hne := Lib.hid (fun g (hg : (Value.slice a1 out.length c1).ownBlock = some g) => (HO.out.lt g hg).2)
      have hpw := HB.out.size
      clear hmay e0 e1 e2 HB HO hb2'
      generalize wr.heap.size = p at *
      by_cases hm : mayT (tb, td, tn) = true
      · rw [hm]
        rcases may_cases hm with ⟨rfl, rfl, hb0, hb255⟩ | ⟨rfl, hd1, hd255, hn3, hn18⟩
        · by_cases hmost : most < (out.length : Int) + 1
          · have hr : exl most l [] = none := by
              rw [← Hx.out, if_neg]
              rintro ⟨_, _, h⟩
              have h : (out.length : Int) + max (0 : Int) 1 ≤ most := h
              omega
            have Hr := Lib.hid hr
            clear hr
            go_wp2_with fail
            refine bodyPost_ret (results_tmp2 rfl _ _ _) rfl ?_
            rw [Hr.out]
            exact ⟨rfl, HB2.out⟩
          · have hx2 : exl most (l.drop (k + 1)) (out ++ [tb]) = exl most l [] := by
              rw [← Hx.out, if_pos ⟨hm, by show (0 : Int) ≤ _; omega, by show (out.length : Int) + max (0 : Int) 1 ≤ most; omega⟩]
              rfl
            have HX2 := Lib.hid hx2
            clear hx2 hm
            have hu : IntKind.u8.wrap tb = tb := by rw [show IntKind.u8.wrap tb = tb % 256 from rfl]; omega
            go_wp2_with (first
              | (at_builtin; refine wpList_append_own_at _ rfl _ _ 69 rfl w.heap.size 5 i0 (.int .u8 0) 1 1 Try.underlying69 hi hz0 hz1 hz2 rfl (by decide) (.slice a1 out.length c1) _ _ rfl (HO2.out.alloc _) ⟨w2.heap.size, 0, none⟩ 1 1 [.int .u8 tb] rfl rfl (cell_one_new _ _ _) (by simp [Value.oneCell']) (by simp [maxLen]; omega) (by omega) (by have := HB2.out.size; simp; omega) ?_; intro v3 w3 hown3 hgrow3 _ hloc3)
              | fail)
            have HB3 := Lib.hid ((HB2.out.alloc HB2.out.size _).grown hgrow3 (by have := HB2.out.size; simp; omega) (fun b hbk => owns_block HO2.out b hbk))
            have HO3 := Lib.hid hown3
            clear hown3 hgrow3 hloc3
            go_wp2_with fail
            exact ⟨⟨k + 1, out ++ [tb], by go_num, by omega, HX2.out, by simp; omega, by
              intro x hx
              rcases List.mem_append.1 hx with h | h
              · exact Hob.out x h
              · rw [List.mem_singleton.1 h]; omega, by rw [List.length_append, List.map_append]; exact HO3.out, HB3.out⟩, by simp [intOf]; omega⟩
        · have hd1 : (1 : Int) ≤ td := hd1
          have hd255 : td ≤ (255 : Int) := hd255
          have hn3 : (3 : Int) ≤ tn := hn3
          have hn18 : tn ≤ (18 : Int) := hn18
          obtain ⟨D, rfl⟩ := Int.eq_ofNat_of_zero_le (a := td) (by omega)
          obtain ⟨N, rfl⟩ := Int.eq_ofNat_of_zero_le (a := tn) (by omega)
          by_cases hDl : out.length < D
          · have hr : exl most l [] = none := by
              rw [← Hx.out, if_neg]
              rintro ⟨_, h, _⟩
              have h : (D : Int) ≤ (out.length : Int) := h
              omega
            have Hr := Lib.hid hr
            clear hr hm
            go_wp2_with fail
            refine bodyPost_ret (results_tmp2 rfl _ _ _) rfl ?_
            rw [Hr.out]
            exact ⟨rfl, HB2.out⟩
          · by_cases hmost : most < (out.length : Int) + N
            · have hr : exl most l [] = none := by
                rw [← Hx.out, if_neg]
                rintro ⟨_, _, h⟩
                have h : (out.length : Int) + max (N : Int) 1 ≤ most := h
                omega
              have Hr := Lib.hid hr
              clear hr hm
              go_wp2_with fail
              refine bodyPost_ret (results_tmp2 rfl _ _ _) rfl ?_
              rw [Hr.out]
              exact ⟨rfl, HB2.out⟩
            · have hx2 : exl most (l.drop (k + 1)) (cpy D N out) = exl most l [] := by
                rw [← Hx.out, if_pos ⟨hm, by show (D : Int) ≤ _; omega, by show (out.length : Int) + max (N : Int) 1 ≤ most; omega⟩]
                rw [tell, if_neg (by show ¬ (N : Int) = 0; omega)]
                rfl
              have HX2 := Lib.hid hx2
              clear hx2 hm
              go_wp2_with fail
              go_loopw [6, 46] (fun uo uj wr' => ∃ (j : Nat) (o : List Int), uj = .int .i64 j ∧ j ≤ N ∧ cpy D (N - j) o = cpy D N out ∧ o.length = out.length + j ∧ (∀ x ∈ o, 0 ≤ x ∧ x < 256) ∧ wr'.ownsRow w.heap.size 5 1 uo o.length (o.map (Value.int .u8)) ∧ (∀ g, uo.ownBlock = some g → g < p ∨ p < g) ∧ p < wr'.heap.size ∧ wr'.cell? ⟨p, 1, none⟩ = some (.int .i64 D) ∧ Below w.heap.size w wr') (fun _ uj _ => N - (intOf uj).toNat)
              case atStart => exact ⟨0, out, rfl, Nat.zero_le _, rfl, rfl, Hob.out, HO2.out, fun g hg => Or.inl (Hne.out g hg), hp, g1, HB2.out⟩
              case round =>
                obtain ⟨j, o, rfl, hj, hcp, holn, hob, hown, hne, hpl, hc1, hbe⟩ := hrel
                obtain ⟨a2, c2, rfl, hoc2, _⟩ := owns_shape hown
                have Hcp := Lib.hid hcp
                have HO4 := Lib.hid hown
                have HB4 := Lib.hid hbe
                have Hob4 := Lib.hid hob
                have Hne4 := Lib.hid hne
                have Holn := Lib.hid holn
                have hob2 : o.length ≤ 18 * (k + 1) := by omega
                have hDo : D ≤ o.length := by omega
                clear hcp hown hbe hob hne HO2 HB2 g0 g1 g2 holn
                by_cases hjn : j = N
                · subst hjn
                  have ho : cpy D j out = o := by rw [← Hcp.out, Nat.sub_self]; rfl
                  have Ho := Lib.hid ho
                  clear ho
                  go_wp2_with fail
                  exact ⟨⟨k + 1, o, by go_num, by omega, by rw [← Ho.out]; exact HX2.out, by omega, Hob4.out, HO4.out, HB4.out⟩, by simp [intOf]; omega⟩
                · have hidx : o.length - D < o.length := by omega
                  have hcp := Hcp.out
                  rw [show N - j = (N - (j + 1)) + 1 by omega, cpy, List.getD_eq_getElem?_getD, List.getElem?_eq_getElem hidx, Option.getD_some] at hcp
                  have hxb := Hob4.out _ (List.getElem_mem hidx)
                  obtain ⟨h0, _⟩ | ⟨_, b2, off2, cap2, hv2, hcl2, hbs2, hcell2⟩ := sl_one (sl_of_owns HO4.out).1
                  · rw [h0] at hidx; exact absurd hidx (by simp)
                  injection hv2 with r1 r2 r3
                  subst r1 r3
                  have hx0 := hcell2 (o.length - D) hidx
                  generalize o[o.length - D] = x at *
                  have Hcp2 := Lib.hid hcp
                  have Hcl2 := Lib.hid hcl2
                  have ht : ((o.length : Int) - (D : Int)).toNat = o.length - D := by omega
                  clear hcp hcell2 hcl2
                  go_wp2_with (first
                    | (at_builtin; refine wpList_append_own_at _ rfl _ _ 69 rfl w.heap.size 5 i0 (.int .u8 0) 1 1 Try.underlying69 hi hz0 hz1 hz2 rfl (by decide) (.slice (some ⟨b2, off2, none⟩) o.length c2) _ _ rfl (HO4.out.alloc _) ⟨wr.heap.size, 0, none⟩ 1 1 [.int .u8 x] rfl rfl (cell_one_new _ _ _) (by simp [Value.oneCell']) (by simp [maxLen]; omega) (by omega) (by have := HB4.out.size; simp; omega) ?_; intro v3 w3 hown3 hgrow3 _ hloc3)
                    | fail)
                  have hg4 := (World.grownBy_alloc wr (.cells #[.int .u8 x] 5) _).trans hgrow3
                  have hnp : some p ≠ (Value.slice (some ⟨b2, off2, none⟩) o.length c2).ownBlock := fun e => by have := Hne4.out p e.symm; omega
                  have hc1' : w3.cell? ⟨p, 1, none⟩ = some (.int .i64 D) := (World.cell?_of_block (hg4.block p hpl hnp)).trans hc1
                  have hp3 : p < w3.heap.size := Nat.lt_of_lt_of_le hpl hg4.size
                  have HNE3 := Lib.hid (show ∀ g, v3.ownBlock = some g → g < p ∨ p < g from fun g hg => by
                    rcases hloc3 with h | h
                    · exact Hne4.out g (by rw [← h]; exact hg)
                    · rw [h] at hg; simp at hg; omega)
                  have HB3 := Lib.hid (HB4.out.grown hg4 HB4.out.size (fun b hbk => owns_block HO4.out b hbk))
                  have HO3 := Lib.hid hown3
                  clear hown3 hgrow3 hloc3 hg4 hnp hc1
                  go_wp2_with fail
                  exact ⟨⟨j + 1, by go_num, by omega, o ++ [x], Hcp2.out, by rw [List.length_append, List.length_singleton, Holn.out]; omega, by
                    intro y hy
                    rcases List.mem_append.1 hy with h | h
                    · exact Hob4.out y h
                    · rw [List.mem_singleton.1 h]; exact hxb, by rw [List.length_append, List.map_append]; exact HO3.out, HNE3.out, hp3, hc1', HB3.out⟩, by simp [intOf]; omega⟩
      · have hm' : mayT (tb, td, tn) = false := by simpa using hm
        have hr : exl most l [] = none := by rw [← Hx.out, if_neg]; rintro ⟨h, _⟩; exact hm h
        have Hr := Lib.hid hr
        rw [hm']
        clear hr hm hm'
        go_wp2_with fail
        refine bodyPost_ret (results_tmp2 rfl _ _ _) rfl ?_
        rw [Hr.out]
        exact ⟨rfl, HB2.out⟩
end Go.Proofs.Ytolappilfjhfaaa
namespace Go.Proofs.Ytolappilfjhfaaa
open Go.RowKit

/-- The cells of a token in such a slice. -/
theorem toks_cells {w : World} {v : Value} {l : List TokT} (hv : ToksR w v l) (hp : 0 < l.length) :
    ∃ b off cap, v = .slice (some ⟨b, off, none⟩) l.length cap ∧ l.length ≤ cap ∧ b < w.heap.size ∧ ∀ k (hk : k < l.length), w.cell? ⟨b, off + k * 3, none⟩ = some (.int .i64 l[k].1) ∧ w.cell? ⟨b, off + k * 3 + 1, none⟩ = some (.int .i64 l[k].2.1) ∧ w.cell? ⟨b, off + k * 3 + 2, none⟩ = some (.int .i64 l[k].2.2) := by
  obtain ⟨a, cap, rfl, hl, hn, hc⟩ := hv
  rcases hc with rfl | ⟨b, off, rfl, hb, hcell⟩
  · exact absurd hp (by simp)
  · exact ⟨b, off, cap, rfl, hl, hb, fun k hk => ⟨by simpa using hcell k hk 0 (by omega), by simpa [Nat.add_assoc] using hcell k hk 1 (by omega), by simpa [Nat.add_assoc] using hcell k hk 2 (by omega)⟩⟩

set_option maxRecDepth 100000 in
set_option maxHeartbeats 8000000 in
theorem same_eq (u v : Value) (l : List TokT) (w : World) (hu : ToksR w u l) (hv : ToksR w v l) (hp : 0 < l.length) (hl : l.length ≤ 1000000) :
    Calls Try.prog 23 #[u, v] w fun e w' => e = .returned (.bool true) ∧ ∃ m, w' = w.drewN m := by
  obtain ⟨b1, o1, c1, rfl, hl1, hb1, hc1⟩ := toks_cells hu hp
  obtain ⟨b2, o2, c2, rfl, hl2, hb2, hc2⟩ := toks_cells hv hp
  have HC1 := Lib.hid hc1
  have HC2 := Lib.hid hc2
  clear hc1 hc2 hu hv
  go_enter Try.func23, Try.ntmps23
  go_wp2_with fail
  go_loopw [5] (fun ui wr => ∃ k : Nat, ui = .int .i64 k ∧ k ≤ l.length ∧ ∃ m, wr = w.drewN m) (fun ui _ => l.length - (intOf ui).toNat)
  case atStart => exact ⟨0, rfl, Nat.zero_le _, 0, rfl⟩
  case round =>
    obtain ⟨k, rfl, hk, m, hm⟩ := hrel
    by_cases hkl : k < l.length
    · obtain ⟨e0, e1, e2⟩ := HC1.out k hkl
      obtain ⟨f0, f1, f2⟩ := HC2.out k hkl
      have E0 : wr.cell? ⟨b1, o1 + k * 3, none⟩ = some (.int .i64 l[k].1) := by rw [hm]; exact e0
      have E1 : wr.cell? ⟨b1, o1 + k * 3 + 1, none⟩ = some (.int .i64 l[k].2.1) := by rw [hm]; exact e1
      have E2 : wr.cell? ⟨b1, o1 + k * 3 + 2, none⟩ = some (.int .i64 l[k].2.2) := by rw [hm]; exact e2
      have F0 : wr.cell? ⟨b2, o2 + k * 3, none⟩ = some (.int .i64 l[k].1) := by rw [hm]; exact f0
      have F1 : wr.cell? ⟨b2, o2 + k * 3 + 1, none⟩ = some (.int .i64 l[k].2.1) := by rw [hm]; exact f1
      have F2 : wr.cell? ⟨b2, o2 + k * 3 + 2, none⟩ = some (.int .i64 l[k].2.2) := by rw [hm]; exact f2
      have Hm := Lib.hid hm
      clear e0 e1 e2 f0 f1 f2 hm
      generalize l[k] = t at *
      obtain ⟨tb, td, tn⟩ := t
      dsimp only at E0 E1 E2 F0 F1 F2
      go_wp2_with fail
      go_quiet (fail)
      go_wp2_with fail
      exact ⟨⟨k + 1, by go_num, by omega, _, by rw [Hm.out]; simp only [World.drewN_drewN]; rfl⟩, by simp [intOf]; omega⟩
    · have Hm := Lib.hid hm
      clear hm
      go_wp2_with fail
      go_ret
      exact ⟨rfl, m, Hm.out⟩
end Go.Proofs.Ytolappilfjhfaaa
namespace Go.Proofs.Ytolappilfjhfaaa
open Go.RowKit

abbrev aaaaa : ByteArray := { data := #[97, 97, 97, 97, 97] }
abbrev abcabc : ByteArray := { data := #[97, 98, 99, 97, 98, 99] }
theorem fix_split : spl aaaaa.data.toList aaaaa.size 0 = [(97, 0, 0), (0, 1, 4)] := by kernel_rfl
theorem fix_five : exl 5 [(97, 0, 0), (0, 1, 4)] [] = some [97, 97, 97, 97, 97] := by kernel_rfl
theorem fix_four : exl 4 [(97, 0, 0), (0, 1, 4)] [] = none := by kernel_rfl
theorem fix_long : longP abcabc.data.toList 3 = (3, 3) := by kernel_rfl
theorem fix_may1 : mayT (0, 1, 4) = true := by kernel_rfl
theorem fix_may2 : mayT (0, 1, 2) = false := by kernel_rfl

theorem told_five : toldS (some [97, 97, 97, 97, 97]) = aaaaa ∧ toldB (some [97, 97, 97, 97, 97]) = true := ⟨by kernel_rfl, rfl⟩
theorem told_none : toldS none = ByteArray.empty ∧ toldB none = false := ⟨rfl, rfl⟩
theorem below_stepB {w a b : World} (h : Below w.heap.size w a) (h2 : Below a.heap.size a b) : Below w.heap.size w b := h.trans (h2.mono h.size)

/-- Two tokens in a block that has just been laid. -/
theorem toks_new2 (w : World) (e : TypeId) (a b : TokT) : ToksR (w.alloc (.cells #[.int .i64 a.1, .int .i64 a.2.1, .int .i64 a.2.2, .int .i64 b.1, .int .i64 b.2.1, .int .i64 b.2.2] e)) (.slice (some ⟨w.heap.size, 0, none⟩) 2 2) [a, b] := by
  refine ⟨_, 2, rfl, Nat.le_refl _, nofun, Or.inr ⟨w.heap.size, 0, rfl, by simp, fun i hi j hj => ?_⟩⟩
  rw [World.cell?_alloc_new]
  simp only [List.length_cons, List.length_nil] at hi
  have h1 : i = 0 ∨ i = 1 := by omega
  have h2 : j = 0 ∨ j = 1 ∨ j = 2 := by omega
  rcases h1 with rfl | rfl <;> rcases h2 with rfl | rfl | rfl <;> rfl

end Go.Proofs.Ytolappilfjhfaaa
namespace Go.Proofs.Ytolappilfjhfaaa
open Go.RowKit

/-- An empty row of the call's own. -/
theorem owns_emptyT (w : World) (e size : Nat) : (w.alloc (.cells #[] e)).ownsRow w.heap.size e size (.slice (some ⟨w.heap.size, 0, none⟩) 0 0) 0 [] :=
  ⟨by simp, Or.inr ⟨w.heap.size, 0, #[], rfl, Nat.le_refl _, heap_alloc_new w _, Nat.le_refl _, by simp [maxLen], by simp, by simp⟩⟩

set_option maxRecDepth 100000 in
set_option maxHeartbeats 8000000 in
theorem expandR_any (v : Value) (l : List TokT) (most : Int) (w : World) (hv : ToksR w v l) (hl : l.length ≤ 100000) :
    Calls Try.prog 24 #[v, .int .i64 most] w fun e w' => e = .returned (.tuple #[.string (toldS (exl most l [])), .bool (toldB (exl most l []))]) ∧ Below w.heap.size w w' := by
  obtain ⟨i0, hi, hz0, hz1, hz2⟩ := info_parts info_u8m
  obtain ⟨a0, c0, rfl, _⟩ := id hv
  go_enter Try.func24, Try.ntmps24
  go_wp2_with fail
  go_loopw [6, 7] (fun uo ui wr => ∃ (k : Nat) (out : List Int), ui = .int .i64 k ∧ k ≤ l.length ∧ exl most (l.drop k) out = exl most l [] ∧ out.length ≤ 18 * k ∧ (∀ x ∈ out, 0 ≤ x ∧ x < 256) ∧ wr.ownsRow w.heap.size 5 1 uo out.length (out.map (Value.int .u8)) ∧ Below w.heap.size w wr) (fun _ ui _ => l.length - (intOf ui).toNat)
  case atStart => exact ⟨0, [], rfl, Nat.zero_le _, rfl, Nat.zero_le _, by simp, owns_emptyT w 5 1, (Below.refl _ _).alloc (Nat.le_refl _) _⟩
  case round =>
    obtain ⟨k, out, rfl, hk, hx, hol, hob, hown, hbe⟩ := hrel
    obtain ⟨a1, c1, rfl, hoc, _⟩ := owns_shape hown
    have HX := Lib.hid hx
    have HO := Lib.hid hown
    have HB := Lib.hid hbe
    have Hob := Lib.hid hob
    clear hx hown hbe hob
    by_cases hend : k = l.length
    · subst hend
      have hr : exl most l [] = some out := by rw [← HX.out, List.drop_length]; rfl
      have Hr := Lib.hid hr
      clear hr
      have hcv := convert_sl (sl_of_owns HO.out).1
      go_wp2_with fail
      refine bodyPost_ret (results_tmp2 rfl _ _ _) rfl ?_
      rw [Hr.out]
      exact ⟨rfl, HB.out⟩
    · have hkl : k < l.length := by omega
      have hx := HX.out
      rw [List.drop_eq_getElem_cons hkl, exl] at hx
      obtain ⟨a', cap', hv', hll, hnn, hcells⟩ := hv
      injection hv' with q1 q2 q3
      subst q1 q3
      rcases hcells with hcells | ⟨b, off, hb1, hb2, hcell⟩
      · rw [hcells] at hkl; exact absurd hkl (by simp)
      have e0 : wr.cell? ⟨b, off + k * 3, none⟩ = some (.int .i64 l[k].1) := by rw [HB.out.cell (p := ⟨b, off + k * 3, none⟩) hb2]; simpa using hcell k hkl 0 (by omega)
      have e1 : wr.cell? ⟨b, off + k * 3 + 1, none⟩ = some (.int .i64 l[k].2.1) := by rw [HB.out.cell (p := ⟨b, off + k * 3 + 1, none⟩) hb2]; simpa [Nat.add_assoc] using hcell k hkl 1 (by omega)
      have e2 : wr.cell? ⟨b, off + k * 3 + 2, none⟩ = some (.int .i64 l[k].2.2) := by rw [HB.out.cell (p := ⟨b, off + k * 3 + 2, none⟩) hb2]; simpa [Nat.add_assoc] using hcell k hkl 2 (by omega)
      subst hb1
      generalize l[k] = t at *
      obtain ⟨tb, td, tn⟩ := t
      dsimp only at e0 e1 e2 hx
      have Hx := Lib.hid hx
      have Hcell := Lib.hid hcell
      clear hx hcell HX
      have hmay := mayR_any tb td tn (wr.alloc (.cells #[.int .i64 tb, .int .i64 td, .int .i64 tn] 30))
      go_wp2_with fail
      refine hmay.mono ?_
      rintro e w2 ⟨rfl, hb2'⟩
      have hp : wr.heap.size < w2.heap.size := by have := hb2'.size; simp at this; omega
      have g0 : w2.cell? ⟨wr.heap.size, 0, none⟩ = some (.int .i64 tb) := by rw [hb2'.cell (p := ⟨wr.heap.size, 0, none⟩) (by simp), World.cell?_alloc_new]; rfl
      have g1 : w2.cell? ⟨wr.heap.size, 1, none⟩ = some (.int .i64 td) := by rw [hb2'.cell (p := ⟨wr.heap.size, 1, none⟩) (by simp), World.cell?_alloc_new]; rfl
      have g2 : w2.cell? ⟨wr.heap.size, 2, none⟩ = some (.int .i64 tn) := by rw [hb2'.cell (p := ⟨wr.heap.size, 2, none⟩) (by simp), World.cell?_alloc_new]; rfl
      have HO2 := Lib.hid (owns_below (HO.out.alloc (.cells #[.int .i64 tb, .int .i64 td, .int .i64 tn] 30)) hb2')
      have HB2 := Lib.hid (below_stepA HB.out hb2')
      have Hne := Lib.hid (fun g (hg : (Value.slice a1 out.length c1).ownBlock = some g) => (HO.out.lt g hg).2)
      have hpw := HB.out.size
      clear hmay e0 e1 e2 HB HO hb2'
      generalize wr.heap.size = p at *
      by_cases hm : mayT (tb, td, tn) = true
      · rw [hm]
        rcases may_cases hm with ⟨rfl, rfl, hb0, hb255⟩ | ⟨rfl, hd1, hd255, hn3, hn18⟩
        · have hu : IntKind.u8.wrap tb = tb := by rw [show IntKind.u8.wrap tb = tb % 256 from rfl]; omega
          go_wp2_with (first
            | (at_builtin; refine wpList_append_own_at _ rfl _ _ 69 rfl w.heap.size 5 i0 (.int .u8 0) 1 1 Try.underlying69 hi hz0 hz1 hz2 rfl (by decide) (.slice a1 out.length c1) _ _ rfl (HO2.out.alloc _) ⟨w2.heap.size, 0, none⟩ 1 1 [.int .u8 tb] rfl rfl (cell_one_new _ _ _) (by simp [Value.oneCell']) (by simp [maxLen]; omega) (by omega) (by have := HB2.out.size; simp; omega) ?_; intro v3 w3 hown3 hgrow3 _ hloc3)
            | fail)
          have HB3 := Lib.hid ((HB2.out.alloc HB2.out.size _).grown hgrow3 (by have := HB2.out.size; simp; omega) (fun b hbk => owns_block HO2.out b hbk))
          have HO3 := Lib.hid hown3
          have hg4 := (World.grownBy_alloc w2 (.cells #[.int .u8 tb] 5) _).trans hgrow3
          have hnp : some p ≠ (Value.slice a1 out.length c1).ownBlock := fun e => by have := Hne.out p e.symm; omega
          have g2' : w3.cell? ⟨p, 2, none⟩ = some (.int .i64 0) := (World.cell?_of_block (hg4.block p hp hnp)).trans g2
          obtain ⟨a3, c3, rfl, _⟩ := owns_shape hown3
          clear hown3 hgrow3 hloc3 hg4 hnp g0 g1 g2 HO2 HB2
          by_cases hmost : most < (out.length : Int) + 1
          · have hr : exl most l [] = none := by
              rw [← Hx.out, if_neg]
              rintro ⟨_, _, h⟩
              have h : (out.length : Int) + max (0 : Int) 1 ≤ most := h
              omega
            have Hr := Lib.hid hr
            clear hr
            go_wp2_with fail
            refine wp_loop_rounds 1 ?_
            rw [rounds_succ]
            go_wp2_with fail
            refine bodyPost_ret (results_tmp2 rfl _ _ _) rfl ?_
            rw [Hr.out]
            exact ⟨rfl, HB3.out⟩
          · have hx2 : exl most (l.drop (k + 1)) (out ++ [tb]) = exl most l [] := by
              rw [← Hx.out, if_pos ⟨hm, by show (0 : Int) ≤ _; omega, by show (out.length : Int) + max (0 : Int) 1 ≤ most; omega⟩]
              rfl
            have HX2 := Lib.hid hx2
            clear hx2 hm
            go_wp2_with fail
            refine wp_loop_rounds 1 ?_
            rw [rounds_succ]
            go_wp2_with fail
            exact ⟨⟨k + 1, out ++ [tb], by go_num, by omega, HX2.out, by simp; omega, by
              intro x hx
              rcases List.mem_append.1 hx with h | h
              · exact Hob.out x h
              · rw [List.mem_singleton.1 h]; omega, by rw [List.length_append, List.map_append]; exact HO3.out, HB3.out⟩, by simp [intOf]; omega⟩
        · have hd1 : (1 : Int) ≤ td := hd1
          have hd255 : td ≤ (255 : Int) := hd255
          have hn3 : (3 : Int) ≤ tn := hn3
          have hn18 : tn ≤ (18 : Int) := hn18
          obtain ⟨D, rfl⟩ := Int.eq_ofNat_of_zero_le (a := td) (by omega)
          obtain ⟨N, rfl⟩ := Int.eq_ofNat_of_zero_le (a := tn) (by omega)
          by_cases hDl : out.length < D
          · have hr : exl most l [] = none := by
              rw [← Hx.out, if_neg]
              rintro ⟨_, h, _⟩
              have h : (D : Int) ≤ (out.length : Int) := h
              omega
            have Hr := Lib.hid hr
            clear hr hm
            go_wp2_with fail
            refine bodyPost_ret (results_tmp2 rfl _ _ _) rfl ?_
            rw [Hr.out]
            exact ⟨rfl, HB2.out⟩
          · skip
            go_wp2_with fail
            go_loopw [6, 9] (fun uo uj wr' => ∃ (j : Nat) (o : List Int), uj = .int .i64 j ∧ j ≤ N ∧ cpy D (N - j) o = cpy D N out ∧ o.length = out.length + j ∧ (∀ x ∈ o, 0 ≤ x ∧ x < 256) ∧ wr'.ownsRow w.heap.size 5 1 uo o.length (o.map (Value.int .u8)) ∧ (∀ g, uo.ownBlock = some g → g < p ∨ p < g) ∧ p < wr'.heap.size ∧ wr'.cell? ⟨p, 1, none⟩ = some (.int .i64 D) ∧ wr'.cell? ⟨p, 2, none⟩ = some (.int .i64 N) ∧ Below w.heap.size w wr') (fun _ uj _ => N - (intOf uj).toNat)
            case atStart => exact ⟨0, out, rfl, Nat.zero_le _, rfl, rfl, Hob.out, HO2.out, fun g hg => Or.inl (Hne.out g hg), hp, g1, g2, HB2.out⟩
            case round =>
              obtain ⟨j, o, rfl, hj, hcp, holn, hob, hown, hne, hpl, hc1, hc2', hbe⟩ := hrel
              obtain ⟨a2, c2, rfl, hoc2, _⟩ := owns_shape hown
              have Hcp := Lib.hid hcp
              have HO4 := Lib.hid hown
              have HB4 := Lib.hid hbe
              have Hob4 := Lib.hid hob
              have Hne4 := Lib.hid hne
              have Holn := Lib.hid holn
              have hob2 : o.length ≤ 18 * (k + 1) := by omega
              have hDo : D ≤ o.length := by omega
              clear hcp hown hbe hob hne HO2 HB2 g0 g1 g2 holn
              by_cases hjn : j = N
              · subst hjn
                have ho : cpy D j out = o := by rw [← Hcp.out, Nat.sub_self]; rfl
                have Ho := Lib.hid ho
                clear ho
                by_cases hmost : most < (out.length : Int) + j
                · have hr : exl most l [] = none := by
                    rw [← Hx.out, if_neg]
                    rintro ⟨_, _, h⟩
                    have h : (out.length : Int) + max (j : Int) 1 ≤ most := h
                    omega
                  have Hr := Lib.hid hr
                  clear hr
                  have hle := Holn.out
                  go_wp2_with fail
                  refine bodyPost_ret (results_tmp2 rfl _ _ _) rfl ?_
                  rw [Hr.out]
                  exact ⟨rfl, HB4.out⟩
                · have hx2 : exl most (l.drop (k + 1)) o = exl most l [] := by
                    rw [← Hx.out, if_pos ⟨hm, by show (D : Int) ≤ _; omega, by show (out.length : Int) + max (j : Int) 1 ≤ most; omega⟩]
                    rw [tell, if_neg (by show ¬ (j : Int) = 0; omega)]
                    rw [← Ho.out]
                    rfl
                  have HX2 := Lib.hid hx2
                  clear hx2
                  have hmo : (o.length : Int) ≤ most := by have := Holn.out; omega
                  go_wp2_with fail
                  exact ⟨⟨k + 1, o, by go_num, by omega, HX2.out, by omega, Hob4.out, HO4.out, HB4.out⟩, by simp [intOf]; omega⟩
              · have hidx : o.length - D < o.length := by omega
                have hcp := Hcp.out
                rw [show N - j = (N - (j + 1)) + 1 by omega, cpy, List.getD_eq_getElem?_getD, List.getElem?_eq_getElem hidx, Option.getD_some] at hcp
                have hxb := Hob4.out _ (List.getElem_mem hidx)
                obtain ⟨h0, _⟩ | ⟨_, b2, off2, cap2, hv2, hcl2, hbs2, hcell2⟩ := sl_one (sl_of_owns HO4.out).1
                · rw [h0] at hidx; exact absurd hidx (by simp)
                injection hv2 with r1 r2 r3
                subst r1 r3
                have hx0 := hcell2 (o.length - D) hidx
                generalize o[o.length - D] = x at *
                have Hcp2 := Lib.hid hcp
                have Hcl2 := Lib.hid hcl2
                have ht : ((o.length : Int) - (D : Int)).toNat = o.length - D := by omega
                clear hcp hcell2 hcl2
                go_wp2_with (first
                  | (at_builtin; refine wpList_append_own_at _ rfl _ _ 69 rfl w.heap.size 5 i0 (.int .u8 0) 1 1 Try.underlying69 hi hz0 hz1 hz2 rfl (by decide) (.slice (some ⟨b2, off2, none⟩) o.length c2) _ _ rfl (HO4.out.alloc _) ⟨wr.heap.size, 0, none⟩ 1 1 [.int .u8 x] rfl rfl (cell_one_new _ _ _) (by simp [Value.oneCell']) (by simp [maxLen]; omega) (by omega) (by have := HB4.out.size; simp; omega) ?_; intro v3 w3 hown3 hgrow3 _ hloc3)
                  | fail)
                have hg4 := (World.grownBy_alloc wr (.cells #[.int .u8 x] 5) _).trans hgrow3
                have hnp : some p ≠ (Value.slice (some ⟨b2, off2, none⟩) o.length c2).ownBlock := fun e => by have := Hne4.out p e.symm; omega
                have hc2'' : w3.cell? ⟨p, 2, none⟩ = some (.int .i64 N) := (World.cell?_of_block (hg4.block p hpl hnp)).trans hc2'
                have hc1' : w3.cell? ⟨p, 1, none⟩ = some (.int .i64 D) := (World.cell?_of_block (hg4.block p hpl hnp)).trans hc1
                have hp3 : p < w3.heap.size := Nat.lt_of_lt_of_le hpl hg4.size
                have HNE3 := Lib.hid (show ∀ g, v3.ownBlock = some g → g < p ∨ p < g from fun g hg => by
                  rcases hloc3 with h | h
                  · exact Hne4.out g (by rw [← h]; exact hg)
                  · rw [h] at hg; simp at hg; omega)
                have HB3 := Lib.hid (HB4.out.grown hg4 HB4.out.size (fun b hbk => owns_block HO4.out b hbk))
                have HO3 := Lib.hid hown3
                clear hown3 hgrow3 hloc3 hg4 hnp hc1 hc2'
                go_wp2_with fail
                exact ⟨⟨j + 1, by go_num, by omega, o ++ [x], Hcp2.out, by rw [List.length_append, List.length_singleton, Holn.out]; omega, by
                  intro y hy
                  rcases List.mem_append.1 hy with h | h
                  · exact Hob4.out y h
                  · rw [List.mem_singleton.1 h]; exact hxb, by rw [List.length_append, List.map_append]; exact HO3.out, HNE3.out, hp3, hc1', hc2'', HB3.out⟩, by simp [intOf]; omega⟩
      · have hm' : mayT (tb, td, tn) = false := by simpa using hm
        have hr : exl most l [] = none := by rw [← Hx.out, if_neg]; rintro ⟨h, _⟩; exact hm h
        have Hr := Lib.hid hr
        rw [hm']
        clear hr hm hm'
        go_wp2_with fail
        refine bodyPost_ret (results_tmp2 rfl _ _ _) rfl ?_
        rw [Hr.out]
        exact ⟨rfl, HB2.out⟩
end Go.Proofs.Ytolappilfjhfaaa
namespace Go.Proofs.Ytolappilfjhfaaa
open Go.RowKit

set_option maxRecDepth 100000 in
set_option maxHeartbeats 8000000 in
theorem expandS_any (v : Value) (l : List TokT) (most : Int) (w : World) (hv : ToksR w v l) (hl : l.length ≤ 140737488355328) (hm0 : most ≤ 100000) :
    Calls Try.prog 24 #[v, .int .i64 most] w fun e w' => e = .returned (.tuple #[.string (toldS (exl most l [])), .bool (toldB (exl most l []))]) ∧ Below w.heap.size w w' := by
  obtain ⟨i0, hi, hz0, hz1, hz2⟩ := info_parts info_u8m
  obtain ⟨a0, c0, rfl, _⟩ := id hv
  go_enter Try.func24, Try.ntmps24
  go_wp2_with fail
  go_loopw [6, 7] (fun uo ui wr => ∃ (k : Nat) (out : List Int), ui = .int .i64 k ∧ k ≤ l.length ∧ exl most (l.drop k) out = exl most l [] ∧ out.length ≤ 100000 ∧ (∀ x ∈ out, 0 ≤ x ∧ x < 256) ∧ wr.ownsRow w.heap.size 5 1 uo out.length (out.map (Value.int .u8)) ∧ Below w.heap.size w wr) (fun _ ui _ => l.length - (intOf ui).toNat)
  case atStart => exact ⟨0, [], rfl, Nat.zero_le _, rfl, Nat.zero_le _, by simp, owns_emptyT w 5 1, (Below.refl _ _).alloc (Nat.le_refl _) _⟩
  case round =>
    obtain ⟨k, out, rfl, hk, hx, hol, hob, hown, hbe⟩ := hrel
    obtain ⟨a1, c1, rfl, hoc, _⟩ := owns_shape hown
    have HX := Lib.hid hx
    have HO := Lib.hid hown
    have HB := Lib.hid hbe
    have Hob := Lib.hid hob
    clear hx hown hbe hob
    by_cases hend : k = l.length
    · subst hend
      have hr : exl most l [] = some out := by rw [← HX.out, List.drop_length]; rfl
      have Hr := Lib.hid hr
      clear hr
      have hcv := convert_sl (sl_of_owns HO.out).1
      go_wp2_with fail
      refine bodyPost_ret (results_tmp2 rfl _ _ _) rfl ?_
      rw [Hr.out]
      exact ⟨rfl, HB.out⟩
    · have hkl : k < l.length := by omega
      have hx := HX.out
      rw [List.drop_eq_getElem_cons hkl, exl] at hx
      obtain ⟨a', cap', hv', hll, hnn, hcells⟩ := hv
      injection hv' with q1 q2 q3
      subst q1 q3
      rcases hcells with hcells | ⟨b, off, hb1, hb2, hcell⟩
      · rw [hcells] at hkl; exact absurd hkl (by simp)
      have e0 : wr.cell? ⟨b, off + k * 3, none⟩ = some (.int .i64 l[k].1) := by rw [HB.out.cell (p := ⟨b, off + k * 3, none⟩) hb2]; simpa using hcell k hkl 0 (by omega)
      have e1 : wr.cell? ⟨b, off + k * 3 + 1, none⟩ = some (.int .i64 l[k].2.1) := by rw [HB.out.cell (p := ⟨b, off + k * 3 + 1, none⟩) hb2]; simpa [Nat.add_assoc] using hcell k hkl 1 (by omega)
      have e2 : wr.cell? ⟨b, off + k * 3 + 2, none⟩ = some (.int .i64 l[k].2.2) := by rw [HB.out.cell (p := ⟨b, off + k * 3 + 2, none⟩) hb2]; simpa [Nat.add_assoc] using hcell k hkl 2 (by omega)
      subst hb1
      generalize l[k] = t at *
      obtain ⟨tb, td, tn⟩ := t
      dsimp only at e0 e1 e2 hx
      have Hx := Lib.hid hx
      have Hcell := Lib.hid hcell
      clear hx hcell HX
      have hmay := mayR_any tb td tn (wr.alloc (.cells #[.int .i64 tb, .int .i64 td, .int .i64 tn] 30))
      go_wp2_with fail
      refine hmay.mono ?_
      rintro e w2 ⟨rfl, hb2'⟩
      have hp : wr.heap.size < w2.heap.size := by have := hb2'.size; simp at this; omega
      have g0 : w2.cell? ⟨wr.heap.size, 0, none⟩ = some (.int .i64 tb) := by rw [hb2'.cell (p := ⟨wr.heap.size, 0, none⟩) (by simp), World.cell?_alloc_new]; rfl
      have g1 : w2.cell? ⟨wr.heap.size, 1, none⟩ = some (.int .i64 td) := by rw [hb2'.cell (p := ⟨wr.heap.size, 1, none⟩) (by simp), World.cell?_alloc_new]; rfl
      have g2 : w2.cell? ⟨wr.heap.size, 2, none⟩ = some (.int .i64 tn) := by rw [hb2'.cell (p := ⟨wr.heap.size, 2, none⟩) (by simp), World.cell?_alloc_new]; rfl
      have HO2 := Lib.hid (owns_below (HO.out.alloc (.cells #[.int .i64 tb, .int .i64 td, .int .i64 tn] 30)) hb2')
      have HB2 := Lib.hid (below_stepA HB.out hb2')
      have Hne := Lib.hid (fun g (hg : (Value.slice a1 out.length c1).ownBlock = some g) => (HO.out.lt g hg).2)
      have hpw := HB.out.size
      clear hmay e0 e1 e2 HB HO hb2'
      generalize wr.heap.size = p at *
      by_cases hm : mayT (tb, td, tn) = true
      · rw [hm]
        rcases may_cases hm with ⟨rfl, rfl, hb0, hb255⟩ | ⟨rfl, hd1, hd255, hn3, hn18⟩
        · have hu : IntKind.u8.wrap tb = tb := by rw [show IntKind.u8.wrap tb = tb % 256 from rfl]; omega
          go_wp2_with (first
            | (at_builtin; refine wpList_append_own_at _ rfl _ _ 69 rfl w.heap.size 5 i0 (.int .u8 0) 1 1 Try.underlying69 hi hz0 hz1 hz2 rfl (by decide) (.slice a1 out.length c1) _ _ rfl (HO2.out.alloc _) ⟨w2.heap.size, 0, none⟩ 1 1 [.int .u8 tb] rfl rfl (cell_one_new _ _ _) (by simp [Value.oneCell']) (by simp [maxLen]; omega) (by omega) (by have := HB2.out.size; simp; omega) ?_; intro v3 w3 hown3 hgrow3 _ hloc3)
            | fail)
          have HB3 := Lib.hid ((HB2.out.alloc HB2.out.size _).grown hgrow3 (by have := HB2.out.size; simp; omega) (fun b hbk => owns_block HO2.out b hbk))
          have HO3 := Lib.hid hown3
          have hg4 := (World.grownBy_alloc w2 (.cells #[.int .u8 tb] 5) _).trans hgrow3
          have hnp : some p ≠ (Value.slice a1 out.length c1).ownBlock := fun e => by have := Hne.out p e.symm; omega
          have g2' : w3.cell? ⟨p, 2, none⟩ = some (.int .i64 0) := (World.cell?_of_block (hg4.block p hp hnp)).trans g2
          obtain ⟨a3, c3, rfl, _⟩ := owns_shape hown3
          clear hown3 hgrow3 hloc3 hg4 hnp g0 g1 g2 HO2 HB2
          by_cases hmost : most < (out.length : Int) + 1
          · have hr : exl most l [] = none := by
              rw [← Hx.out, if_neg]
              rintro ⟨_, _, h⟩
              have h : (out.length : Int) + max (0 : Int) 1 ≤ most := h
              omega
            have Hr := Lib.hid hr
            clear hr
            go_wp2_with fail
            refine wp_loop_rounds 1 ?_
            rw [rounds_succ]
            go_wp2_with fail
            refine bodyPost_ret (results_tmp2 rfl _ _ _) rfl ?_
            rw [Hr.out]
            exact ⟨rfl, HB3.out⟩
          · have hx2 : exl most (l.drop (k + 1)) (out ++ [tb]) = exl most l [] := by
              rw [← Hx.out, if_pos ⟨hm, by show (0 : Int) ≤ _; omega, by show (out.length : Int) + max (0 : Int) 1 ≤ most; omega⟩]
              rfl
            have HX2 := Lib.hid hx2
            clear hx2 hm
            go_wp2_with fail
            refine wp_loop_rounds 1 ?_
            rw [rounds_succ]
            go_wp2_with fail
            exact ⟨⟨k + 1, out ++ [tb], by go_num, by omega, HX2.out, by simp; omega, by
              intro x hx
              rcases List.mem_append.1 hx with h | h
              · exact Hob.out x h
              · rw [List.mem_singleton.1 h]; omega, by rw [List.length_append, List.map_append]; exact HO3.out, HB3.out⟩, by simp [intOf]; omega⟩
        · have hd1 : (1 : Int) ≤ td := hd1
          have hd255 : td ≤ (255 : Int) := hd255
          have hn3 : (3 : Int) ≤ tn := hn3
          have hn18 : tn ≤ (18 : Int) := hn18
          obtain ⟨D, rfl⟩ := Int.eq_ofNat_of_zero_le (a := td) (by omega)
          obtain ⟨N, rfl⟩ := Int.eq_ofNat_of_zero_le (a := tn) (by omega)
          by_cases hDl : out.length < D
          · have hr : exl most l [] = none := by
              rw [← Hx.out, if_neg]
              rintro ⟨_, h, _⟩
              have h : (D : Int) ≤ (out.length : Int) := h
              omega
            have Hr := Lib.hid hr
            clear hr hm
            go_wp2_with fail
            refine bodyPost_ret (results_tmp2 rfl _ _ _) rfl ?_
            rw [Hr.out]
            exact ⟨rfl, HB2.out⟩
          · skip
            go_wp2_with fail
            go_loopw [6, 9] (fun uo uj wr' => ∃ (j : Nat) (o : List Int), uj = .int .i64 j ∧ j ≤ N ∧ cpy D (N - j) o = cpy D N out ∧ o.length = out.length + j ∧ (∀ x ∈ o, 0 ≤ x ∧ x < 256) ∧ wr'.ownsRow w.heap.size 5 1 uo o.length (o.map (Value.int .u8)) ∧ (∀ g, uo.ownBlock = some g → g < p ∨ p < g) ∧ p < wr'.heap.size ∧ wr'.cell? ⟨p, 1, none⟩ = some (.int .i64 D) ∧ wr'.cell? ⟨p, 2, none⟩ = some (.int .i64 N) ∧ Below w.heap.size w wr') (fun _ uj _ => N - (intOf uj).toNat)
            case atStart => exact ⟨0, out, rfl, Nat.zero_le _, rfl, rfl, Hob.out, HO2.out, fun g hg => Or.inl (Hne.out g hg), hp, g1, g2, HB2.out⟩
            case round =>
              obtain ⟨j, o, rfl, hj, hcp, holn, hob, hown, hne, hpl, hc1, hc2', hbe⟩ := hrel
              obtain ⟨a2, c2, rfl, hoc2, _⟩ := owns_shape hown
              have Hcp := Lib.hid hcp
              have HO4 := Lib.hid hown
              have HB4 := Lib.hid hbe
              have Hob4 := Lib.hid hob
              have Hne4 := Lib.hid hne
              have Holn := Lib.hid holn
              have hob2 : o.length ≤ 100018 := by omega
              have hDo : D ≤ o.length := by omega
              clear hcp hown hbe hob hne HO2 HB2 g0 g1 g2 holn
              by_cases hjn : j = N
              · subst hjn
                have ho : cpy D j out = o := by rw [← Hcp.out, Nat.sub_self]; rfl
                have Ho := Lib.hid ho
                clear ho
                by_cases hmost : most < (out.length : Int) + j
                · have hr : exl most l [] = none := by
                    rw [← Hx.out, if_neg]
                    rintro ⟨_, _, h⟩
                    have h : (out.length : Int) + max (j : Int) 1 ≤ most := h
                    omega
                  have Hr := Lib.hid hr
                  clear hr
                  have hle := Holn.out
                  go_wp2_with fail
                  refine bodyPost_ret (results_tmp2 rfl _ _ _) rfl ?_
                  rw [Hr.out]
                  exact ⟨rfl, HB4.out⟩
                · have hx2 : exl most (l.drop (k + 1)) o = exl most l [] := by
                    rw [← Hx.out, if_pos ⟨hm, by show (D : Int) ≤ _; omega, by show (out.length : Int) + max (j : Int) 1 ≤ most; omega⟩]
                    rw [tell, if_neg (by show ¬ (j : Int) = 0; omega)]
                    rw [← Ho.out]
                    rfl
                  have HX2 := Lib.hid hx2
                  clear hx2
                  have hmo : (o.length : Int) ≤ most := by have := Holn.out; omega
                  go_wp2_with fail
                  exact ⟨⟨k + 1, o, by go_num, by omega, HX2.out, by omega, Hob4.out, HO4.out, HB4.out⟩, by simp [intOf]; omega⟩
              · have hidx : o.length - D < o.length := by omega
                have hcp := Hcp.out
                rw [show N - j = (N - (j + 1)) + 1 by omega, cpy, List.getD_eq_getElem?_getD, List.getElem?_eq_getElem hidx, Option.getD_some] at hcp
                have hxb := Hob4.out _ (List.getElem_mem hidx)
                obtain ⟨h0, _⟩ | ⟨_, b2, off2, cap2, hv2, hcl2, hbs2, hcell2⟩ := sl_one (sl_of_owns HO4.out).1
                · rw [h0] at hidx; exact absurd hidx (by simp)
                injection hv2 with r1 r2 r3
                subst r1 r3
                have hx0 := hcell2 (o.length - D) hidx
                generalize o[o.length - D] = x at *
                have Hcp2 := Lib.hid hcp
                have Hcl2 := Lib.hid hcl2
                have ht : ((o.length : Int) - (D : Int)).toNat = o.length - D := by omega
                clear hcp hcell2 hcl2
                go_wp2_with (first
                  | (at_builtin; refine wpList_append_own_at _ rfl _ _ 69 rfl w.heap.size 5 i0 (.int .u8 0) 1 1 Try.underlying69 hi hz0 hz1 hz2 rfl (by decide) (.slice (some ⟨b2, off2, none⟩) o.length c2) _ _ rfl (HO4.out.alloc _) ⟨wr.heap.size, 0, none⟩ 1 1 [.int .u8 x] rfl rfl (cell_one_new _ _ _) (by simp [Value.oneCell']) (by simp [maxLen]; omega) (by omega) (by have := HB4.out.size; simp; omega) ?_; intro v3 w3 hown3 hgrow3 _ hloc3)
                  | fail)
                have hg4 := (World.grownBy_alloc wr (.cells #[.int .u8 x] 5) _).trans hgrow3
                have hnp : some p ≠ (Value.slice (some ⟨b2, off2, none⟩) o.length c2).ownBlock := fun e => by have := Hne4.out p e.symm; omega
                have hc2'' : w3.cell? ⟨p, 2, none⟩ = some (.int .i64 N) := (World.cell?_of_block (hg4.block p hpl hnp)).trans hc2'
                have hc1' : w3.cell? ⟨p, 1, none⟩ = some (.int .i64 D) := (World.cell?_of_block (hg4.block p hpl hnp)).trans hc1
                have hp3 : p < w3.heap.size := Nat.lt_of_lt_of_le hpl hg4.size
                have HNE3 := Lib.hid (show ∀ g, v3.ownBlock = some g → g < p ∨ p < g from fun g hg => by
                  rcases hloc3 with h | h
                  · exact Hne4.out g (by rw [← h]; exact hg)
                  · rw [h] at hg; simp at hg; omega)
                have HB3 := Lib.hid (HB4.out.grown hg4 HB4.out.size (fun b hbk => owns_block HO4.out b hbk))
                have HO3 := Lib.hid hown3
                clear hown3 hgrow3 hloc3 hg4 hnp hc1 hc2'
                go_wp2_with fail
                exact ⟨⟨j + 1, by go_num, by omega, o ++ [x], Hcp2.out, by rw [List.length_append, List.length_singleton, Holn.out]; omega, by
                  intro y hy
                  rcases List.mem_append.1 hy with h | h
                  · exact Hob4.out y h
                  · rw [List.mem_singleton.1 h]; exact hxb, by rw [List.length_append, List.map_append]; exact HO3.out, HNE3.out, hp3, hc1', hc2'', HB3.out⟩, by simp [intOf]; omega⟩
      · have hm' : mayT (tb, td, tn) = false := by simpa using hm
        have hr : exl most l [] = none := by rw [← Hx.out, if_neg]; rintro ⟨h, _⟩; exact hm h
        have Hr := Lib.hid hr
        rw [hm']
        clear hr hm hm'
        go_wp2_with fail
        refine bodyPost_ret (results_tmp2 rfl _ _ _) rfl ?_
        rw [Hr.out]
        exact ⟨rfl, HB2.out⟩
end Go.Proofs.Ytolappilfjhfaaa
