/- The walk of Split. Conditions: numbers fit. -/
import Derived.Test.YtdbhmffiojchcaaMatG
import Derived.WalkMore
import Derived.Scope
namespace Go.Proofs.Ytdbhmffiojchcaa
open Go.RowKit Go.Maps Go.WideMaps
open Go.ChangeShapes (lits)

theorem tokE_one (t : TokT) : ∀ u ∈ tokE t, u.oneCell' = true := by
  intro u hu
  simp only [tokE, List.mem_cons, List.not_mem_nil, or_false] at hu
  rcases hu with rfl | rfl | rfl <;> rfl
theorem add_insplit {w wr : World} (s : ByteArray) {ul : Value} {pre : List TokT} {i : Nat} (h : InSplit w wr s.data.toList ul pre i) (hs : s.size ≤ 1099511627776) (hi : i ≤ s.size) :
    Calls Try.prog 31 #[.map (some w.heap.size), .string s, .int .i64 i] wr fun e w' => (∃ v, e = .returned v) ∧ InSplit w w' s.data.toList ul pre (i + 1) := by
  have h' := h
  obtain ⟨h1, h2, h3, h4⟩ := h
  have hc := add_any (fun g => ul.ownBlock = some g) s w.heap.size i 0 i wr h2 h3 (fun g hg => (h1.lt g hg).2) hs (by omega) (by omega)
  rw [Nat.zero_add] at hc
  exact hc.mono fun e w3 ⟨hv, hst, hsh, hb⟩ => ⟨hv, insplit_add h' hst hsh hb⟩
theorem longest_insplit {w wr : World} (s : ByteArray) {ul : Value} {pre : List TokT} {i : Nat} (h : InSplit w wr s.data.toList ul pre i) (hs : s.size ≤ 1099511627776) (hi : i ≤ s.size) :
    Calls Try.prog 30 #[.map (some w.heap.size), .string s, .int .i64 i] wr fun e w' => e = .returned (.tuple #[.int .i64 ((longP s.data.toList i).1 : Int), .int .i64 ((longP s.data.toList i).2 : Int)]) ∧ InSplit w w' s.data.toList ul pre i := by
  have hc := longest_in s w.heap.size i 0 i wr h.2.1 hs (by omega) (Nat.zero_le _) (by omega)
  rw [Nat.zero_add] at hc
  exact hc.mono fun e w3 ⟨hv, q, hq⟩ => ⟨hv, by rw [hq]; exact insplit_drewN h q⟩

set_option maxRecDepth 100000 in
set_option maxHeartbeats 8000000 in
theorem split_any (s : ByteArray) (w : World) (hs : s.size ≤ 1099511627776) :
    Calls Try.prog 16 #[.string s] w fun e w' => ∃ v, e = .returned v ∧ ToksR w' v (spl s.data.toList s.size 0) ∧ (∃ a cap, v = .slice a (spl s.data.toList s.size 0).length cap) ∧ Below w.heap.size w w' := by
  have hmm := @run_makeMap Try.prog
  obtain ⟨i0, hi, hz0, hz1, hz2⟩ := info_parts info_tok
  have hl : s.data.toList.length = s.size := by simp
  have HL := Lib.hid hl
  clear hl
  have hI0 : InSplit w (w.alloc (.map #[] 0)) s.data.toList (.slice none 0 0) [] 0 :=
    ⟨World.ownsRow_nil _ _ _ _, stood_made w s.data.toList 0, World.Shuns_made w _, (Below.refl _ _).alloc (Nat.le_refl _) _⟩
  have HI0 := Lib.hid hI0
  clear hI0
  go_enter Try.func16, Try.ntmps16
  go_wp2_with fail
  go_step3
  go_wp2_with fail
  go_step3
  go_wp2_with fail
  generalize w.alloc (.map #[] 0) = w1 at *
  go_loopw [3, 5] (fun ul ui wr => ∃ (pre : List TokT) (i f : Nat), ui = .int .i64 i ∧ i ≤ s.size ∧ s.size ≤ i + f ∧ pre.length ≤ i ∧ pre ++ spl s.data.toList f i = spl s.data.toList s.size 0 ∧ InSplit w wr s.data.toList ul pre i) (fun _ ui _ => s.size - (intOf ui).toNat)
  case atStart => exact ⟨[], 0, s.size, rfl, Nat.zero_le _, by omega, Nat.le_refl _, rfl, HI0.out⟩
  case round =>
    obtain ⟨pre, i, f, rfl, hi1, hf, hpl, hspl, hin⟩ := hrel
    obtain ⟨a0, c0, rfl, _⟩ := owns_shape hin.1
    have Hspl := Lib.hid hspl
    have Hin := Lib.hid hin
    clear hspl hin HI0
    by_cases hend : i = s.size
    · subst hend
      have hres : spl s.data.toList s.size 0 = pre := by
        rw [← Hspl.out]
        cases f with
        | zero => simp [spl]
        | succ f => rw [spl, if_neg (by have := HL.out; omega), List.append_nil]
      have Hres := Lib.hid hres
      clear hres
      go_wp2_with fail
      rw [Exit.noGoto_ret]
      go_ret
      rw [Hres.out]
      exact ⟨_, rfl, (toks_of_owns Hin.out.1).1, ⟨a0, c0, rfl⟩, Hin.out.2.2.2⟩
    · have hlt : i < s.size := by omega
      obtain ⟨f, rfl⟩ : ∃ g, f = g + 1 := ⟨f - 1, by omega⟩
      have hsp := Hspl.out
      rw [spl, if_pos (by rw [HL.out]; exact hlt), bt_get s i hlt] at hsp
      have hcall := longest_insplit s Hin.out hs hi1
      have hlc := long_cases s.data.toList i
      rw [HL.out] at hlc
      generalize longP s.data.toList i = nd at *
      obtain ⟨n, d⟩ := nd
      dsimp only at hsp hcall hlc
      by_cases hn : n = 0
      · rw [if_pos hn] at hsp
        have Hsp := Lib.hid hsp
        clear hsp hlc
        subst hn
        have hbl := s[i].toNat_lt
        have hbw : wrap64 (s[i].toNat : Int) = (s[i].toNat : Int) := IntWalk.wrap64_in _ (by omega)
        go_wp2_with fail
        refine hcall.mono ?_
        rintro e w2 ⟨rfl, hin2⟩
        have Hin2 := Lib.hid hin2
        clear hin2 hcall Hin
        go_wp2_with (first
          | (at_builtin; refine wpList_append_own_at _ rfl _ _ 22 rfl (w.heap.size + 1) 28 i0 _ 3 24 Try.underlying22 hi hz0 hz1 hz2 rfl (by decide) (.slice a0 pre.length c0) _ _ rfl (Hin2.out.1.alloc _) ⟨w2.heap.size, 0, none⟩ 1 1 (tokE ((s[i].toNat : Int), 0, 0)) rfl rfl (cells_three_new _ _ _ _ _) (tokE_one _) (by simp [maxLen]; omega) (by omega) (by have := stood_lt Hin2.out.2.1; simp; omega) ?_; intro v3 w3 hown3 hgrow3 _ hloc3)
          | fail)
        have Hin3 := Lib.hid (insplit_put (t := ((s[i].toNat : Int), 0, 0)) Hin2.out hown3 hgrow3 hloc3)
        clear hown3 hgrow3 hloc3 Hin2
        have hadd := add_insplit s Hin3.out hs hi1
        refine hadd.mono ?_
        rintro e w4 ⟨⟨v, rfl⟩, hin4⟩
        have Hin4 := Lib.hid hin4
        clear hin4 hadd Hin3
        go_wp2_with fail
        exact ⟨⟨pre ++ [((s[i].toNat : Int), 0, 0)], i + 1, f, by go_num, by omega, by omega, by simp; omega, by rw [List.append_assoc, List.singleton_append]; exact Hsp.out, Hin4.out⟩, by simp [intOf]; omega⟩
      · rw [if_neg hn] at hsp
        have Hsp := Lib.hid hsp
        obtain ⟨hn3, hn18, hd1, hd255, hdi, hin', _⟩ : 3 ≤ n ∧ n ≤ 18 ∧ 1 ≤ d ∧ d ≤ 255 ∧ d ≤ i ∧ i + n ≤ s.size ∧ True := by
          rcases hlc with h | h
          · injection h with h1 h2
            exact absurd h1 hn
          · exact ⟨h.1, h.2.1, h.2.2.1, h.2.2.2.1, h.2.2.2.2.1, h.2.2.2.2.2.1, trivial⟩
        clear hsp hlc
        go_wp2_with fail
        refine hcall.mono ?_
        rintro e w2 ⟨rfl, hin2⟩
        have Hin2 := Lib.hid hin2
        clear hin2 hcall Hin
        go_wp2_with (first
          | (at_builtin; refine wpList_append_own_at _ rfl _ _ 22 rfl (w.heap.size + 1) 28 i0 _ 3 24 Try.underlying22 hi hz0 hz1 hz2 rfl (by decide) (.slice a0 pre.length c0) _ _ rfl (Hin2.out.1.alloc _) ⟨w2.heap.size, 0, none⟩ 1 1 (tokE (0, (d : Int), (n : Int))) rfl rfl (cells_three_new _ _ _ _ _) (tokE_one _) (by simp [maxLen]; omega) (by omega) (by have := stood_lt Hin2.out.2.1; simp; omega) ?_; intro v3 w3 hown3 hgrow3 _ hloc3)
          | fail)
        have Hin3 := Lib.hid (insplit_put (t := (0, (d : Int), (n : Int))) Hin2.out hown3 hgrow3 hloc3)
        clear hown3 hgrow3 hloc3 Hin2
        go_loopw [5, 43] (fun ui uk wr => ∃ k : Nat, uk = .int .i64 k ∧ ui = .int .i64 ((i + k : Nat) : Int) ∧ k ≤ n ∧ InSplit w wr s.data.toList v3 (pre ++ [(0, (d : Int), (n : Int))]) (i + k)) (fun _ uk _ => n - (intOf uk).toNat)
        case atStart => exact ⟨0, rfl, rfl, Nat.zero_le _, Hin3.out⟩
        case round =>
          obtain ⟨k, rfl, rfl, hk, hin4⟩ := hrel
          have Hin4 := Lib.hid hin4
          clear hin4 Hin3
          by_cases hkn : k = n
          · subst hkn
            go_wp2_with fail
            exact ⟨⟨pre ++ [(0, (d : Int), (k : Int))], i + k, f, rfl, by omega, by omega, by simp; omega, by rw [List.append_assoc, List.singleton_append]; exact Hsp.out, Hin4.out⟩, by simp [intOf]; omega⟩
          · have hadd := add_insplit s Hin4.out hs (by omega)
            go_wp2_with fail
            refine hadd.mono ?_
            rintro e w5 ⟨⟨v, rfl⟩, hin5⟩
            have Hin5 := Lib.hid hin5
            clear hin5 hadd
            go_wp2_with fail
            exact ⟨⟨k + 1, by go_num, by go_num, by omega, Hin5.out⟩, by simp [intOf]; omega⟩
end Go.Proofs.Ytdbhmffiojchcaa
