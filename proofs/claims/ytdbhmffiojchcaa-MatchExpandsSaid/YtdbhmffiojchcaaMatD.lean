/- The walk of 'longest'. Conditions: numbers fit. -/
import Derived.Test.YtdbhmffiojchcaaMatC
namespace Go.Proofs.Ytdbhmffiojchcaa
open Go.RowKit Go.Maps Go.WideMaps
open Go.ChangeShapes (lits)

theorem pair_ret {a b c d : Int} (h1 : a = c) (h2 : b = d) : Ending.returned (.tuple #[.int .i64 a, .int .i64 b]) = Ending.returned (.tuple #[.int .i64 c, .int .i64 d]) := by rw [h1, h2]

set_option maxRecDepth 100000 in
set_option maxHeartbeats 4000000 in
theorem longest_in {H : Type} (s : ByteArray) (B n lo c : Nat) (w : World) (hst : Stood H w B B n s.data.toList lo c) (hs : s.size ≤ 1099511627776) (ha : lo + c ≤ s.size) (hlo : lo ≤ lo + c - 255) (hn : n ≤ 1099511627776) :
    Calls Try.prog 30 #[.map (some B), .string s, .int .i64 ((lo + c : Nat) : Int)] w fun e w' => e = .returned (.tuple #[.int .i64 ((longP s.data.toList (lo + c)).1 : Int), .int .i64 ((longP s.data.toList (lo + c)).2 : Int)]) ∧ ∃ m, w' = w.drewN m := by
  have hl : s.data.toList.length = s.size := by simp
  have HL := Lib.hid hl
  have Hlo := Lib.hid hlo
  clear hlo
  by_cases h3 : s.size < lo + c + 3
  · have hlg := long_short (L := s.data.toList) (at' := lo + c) (by omega)
    rw [hlg]
    generalize lo + c = at' at *
    clear hl
    go_enter Try.func30, Try.ntmps30
    go_wp2_with fail
    refine bodyPost_ret (results_tmp2 rfl _ _ _) rfl ?_
    exact ⟨rfl, 0, rfl⟩
  · obtain ⟨D, hown, hm, hD⟩ := hst
    have hlpA := fun h3 => lp_all (L := s.data.toList) (at' := lo + c) (lo := lo) (c := c) h3 Hlo.out rfl
    have hps := fun j => @plc_lt s.data.toList (row3 s.data.toList (lo + c)) lo c j
    generalize hat' : lo + c = at' at *
    have hrl : (row3 s.data.toList at').length = 3 := by simp [row3]; omega
    have HD := Lib.hid (hD _ hrl)
    clear hD
    have HlpA := Lib.hid (hlpA (by omega))
    clear hlpA hl
    have hkey := key_is (s.extract at' (at' + 3)) (by simp; omega)
    have hx := extract_row3 s at'
    rw [hx] at hkey
    have HX := Lib.hid hx
    clear hx
    generalize hpsd : plc s.data.toList (row3 s.data.toList at') lo c = ps at *
    have Hps := Lib.hid hps
    clear hps
    go_enter Try.func30, Try.ntmps30
    go_wp2_with (first
      | (at_lookup; refine wpList_lookup_groups _ rfl _ _ 61 rfl 9 34 3 .i64 kstr Try.underlying61 (zeroInts _) (B + 1) B n _ rfl hown (by unfold maxLen; omega) _ _ rfl hkey ?_; intro v zs hat hoi hzl hback; clear hback; obtain ⟨a0, cap0, rfl, _⟩ := owns_shape hoi.1; clear hown; have hsl := (sl_of_owns hoi.1).1; have hzs := stood_zs hat hoi HD.out; clear hat hoi; subst hzs; rw [List.length_map] at *)
      | fail)
    generalize hpl : ps.length = len0 at *
    have Hpl := Lib.hid hpl
    clear hpl
    go_loopw [8, 9, 11, 12] (fun um ud ui un wr => ∃ m d k : Nat, um = .int .i64 m ∧ ud = .int .i64 d ∧ k ≤ len0 ∧ ui = .int .i64 ((k : Int) - 1) ∧ m ≤ 18 ∧ d ≤ 255 ∧ lp s.data.toList at' (ps.take k).reverse (m, d) = longP s.data.toList at' ∧ ∃ q, wr = w.drewN q) (fun _ _ ui _ _ => (intOf ui + 1).toNat)
    case atStart =>
      refine ⟨0, 0, len0, rfl, rfl, Nat.le_refl _, rfl, by omega, by omega, ?_, 0, rfl⟩
      rw [← Hpl.out, List.take_length]
      exact HlpA.out
    case round =>
      obtain ⟨m, d, k, rfl, rfl, hk, rfl, hm18, hd, hlp, q, hq⟩ := hrel
      have Hq := Lib.hid hq
      clear hq
      rcases k with _ | j
      · have HLP := Lib.hid (show longP s.data.toList at' = (m, d) by rw [← hlp]; rfl)
        clear hlp
        rw [show (((0 : Nat) : Int) - 1) = -1 from rfl]
        go_wp2_with fail
        refine bodyPost_ret (results_tmp2 rfl _ _ _) rfl ?_
        exact ⟨by rw [HLP.out]; rfl, q, Hq.out⟩
      · rw [show (((j + 1 : Nat) : Int) - 1) = (j : Int) by omega]
        have hjl : j < ps.length := by rw [Hpl.out]; omega
        have hxm := Hps.out _ (List.getElem_mem hjl)
        rw [List.take_succ_eq_append_getElem hjl, List.reverse_append, List.reverse_singleton, List.singleton_append] at hlp
        obtain ⟨h0, _⟩ | ⟨_, b, off, cap, hv, hcl, hb, hcell⟩ := sl_one hsl
        · rw [List.map_eq_nil_iff] at h0
          rw [h0] at hjl
          exact absurd hjl (by simp)
        · injection hv with e1 e2 e3
          subst e1 e3
          have hx0 : wr.cell? ⟨b, off + j, none⟩ = some (.int .i64 ((ps[j] : Nat) : Int)) := by
            rw [Hq.out]
            have := hcell j (by simpa using hjl)
            rw [List.getElem_map] at this
            exact this
          clear hcell hsl
          generalize ps[j] = x at *
          obtain ⟨_, hxa, _⟩ := hxm
          have Hcl := Lib.hid hcl
          clear hcl e2
          by_cases hf : 255 < at' - x
          · have b1 : decide ((at' : Int) - (x : Int) ≤ 255) = false := by simp; omega
            have HLP := Lib.hid (show longP s.data.toList at' = (m, d) by rw [← hlp, lp, if_pos hf])
            clear hlp
            go_wp2_with fail
            refine bodyPost_ret (results_tmp2 rfl _ _ _) rfl ?_
            exact ⟨by rw [HLP.out]; rfl, q, Hq.out⟩
          · have b1 : decide ((at' : Int) - (x : Int) ≤ 255) = true := by simp; omega
            rw [lp, if_neg hf] at hlp
            have HLP := Lib.hid hlp
            clear hlp
            have hcom := common_any s at' (at' - x) wr (by omega) (by omega) (by omega)
            rw [show ((at' - x : Nat) : Int) = (at' : Int) - (x : Int) by omega] at hcom
            have hcle := com_le s.data.toList at' (at' - x)
            go_wp2_with fail
            refine hcom.mono ?_
            rintro e w2 ⟨rfl, q2, hq2⟩
            have Hq2 := Lib.hid hq2
            clear hq2
            have hx2 : w2.cell? ⟨b, off + j, none⟩ = some (.int .i64 ((x : Nat) : Int)) := by rw [Hq2.out]; exact hx0
            have HLP2 := HLP.out
            clear HLP hcom
            generalize com s.data.toList at' (at' - x) = n0 at *
            by_cases hgt : m < n0
            · have b2 : decide ((n0 : Int) > (m : Int)) = true := by simp; omega
              have b3 : decide ((m : Int) < (n0 : Int)) = true := by simp; omega
              have x1 : IntKind.i64.wrap ((at' : Int) - (x : Int)) = (at' : Int) - (x : Int) := IntWalk.i64_in _ (by omega)
              rw [if_pos hgt] at HLP2
              have hdx : ((at' - x : Nat) : Int) = (at' : Int) - (x : Int) := by omega
              have Hdx := Lib.hid hdx
              clear hdx
              by_cases h18 : n0 = 18
              · rw [if_pos h18] at HLP2
                have HLP := Lib.hid HLP2.symm
                clear HLP2
                subst h18
                go_wp2_with fail
                go_quiet (fail)
                go_wp2_with fail
                refine bodyPost_ret (results_tmp2 rfl _ _ _) rfl ?_
                refine ⟨by rw [HLP.out]; exact pair_ret rfl Hdx.out.symm, _, by rw [Hq2.out, Hq.out]; simp only [World.drewN_drewN]; rfl⟩
              · rw [if_neg h18] at HLP2
                have HLP := Lib.hid HLP2
                clear HLP2
                have b4 : ((n0 : Int) == 18) = false := by simp; omega
                go_wp2_with fail
                go_quiet (fail)
                go_wp2_with fail
                exact ⟨⟨n0, at' - x, j, rfl, by rw [Hdx.out], by omega, rfl, by omega, by omega, HLP.out, _, by rw [Hq2.out, Hq.out]; simp only [World.drewN_drewN]; rfl⟩, by simp [intOf]⟩
            · have b2 : decide ((n0 : Int) > (m : Int)) = false := by simp; omega
              have b3 : decide ((m : Int) < (n0 : Int)) = false := by simp; omega
              rw [if_neg hgt] at HLP2
              by_cases h18 : m = 18
              · rw [if_pos h18] at HLP2
                have HLP := Lib.hid HLP2.symm
                clear HLP2
                subst h18
                go_wp2_with fail
                refine bodyPost_ret (results_tmp2 rfl _ _ _) rfl ?_
                exact ⟨by rw [HLP.out]; rfl, _, by rw [Hq2.out, Hq.out]; simp only [World.drewN_drewN]; rfl⟩
              · rw [if_neg h18] at HLP2
                have HLP := Lib.hid HLP2
                clear HLP2
                have b4 : ((m : Int) == 18) = false := by simp; omega
                go_wp2_with fail
                exact ⟨⟨m, d, j, rfl, rfl, by omega, rfl, by omega, by omega, HLP.out, _, by rw [Hq2.out, Hq.out]; simp only [World.drewN_drewN]; rfl⟩, by simp [intOf]⟩
end Go.Proofs.Ytdbhmffiojchcaa
