/- The walk of match.Longest. Conditions: numbers fit. -/
import Derived.Test.YtdbhmffiojchcaaMatD
namespace Go.Proofs.Ytdbhmffiojchcaa
open Go.RowKit Go.Maps Go.WideMaps
open Go.ChangeShapes (lits)

theorem stood_made (w : World) (L : List UInt8) (lo : Nat) : Stood Unit (w.alloc (.map #[] 0)) w.heap.size w.heap.size 0 L lo 0 :=
  ⟨.map [], World.ownsGroups_made _ _ _ _ _, isMap_empty, fun _ _ => Or.inl ⟨rfl, rfl⟩⟩

theorem belowDrewN {B : Nat} {a w : World} (h : Below B a w) (n : Nat) : Below B a (w.drewN n) := h.trans ⟨rfl, rfl, rfl, Nat.le_refl _, fun _ _ => rfl⟩

theorem stood_lt {H : Type} {w : World} {B n : Nat} {L : List UInt8} {lo c : Nat} (h : Stood H w B B n L lo c) : B < w.heap.size := by
  obtain ⟨D, ⟨es, clock, h1, _⟩, _⟩ := h
  exact (Array.getElem?_eq_some_iff.1 h1).1

set_option maxRecDepth 100000 in
set_option maxHeartbeats 4000000 in
theorem longest_any (s : ByteArray) (i : Int) (w : World) (hs : s.size ≤ 1099511627776) :
    Calls Try.prog 28 #[.string s, .int .i64 i] w fun e w' => e = .returned (.tuple #[.int .i64 (if i < 0 ∨ (s.size : Int) ≤ i then 0 else ((longP s.data.toList i.toNat).1 : Int)), .int .i64 (if i < 0 ∨ (s.size : Int) ≤ i then 0 else ((longP s.data.toList i.toNat).2 : Int))]) ∧ Below w.heap.size w w' := by
  have hmm := @run_makeMap Try.prog
  by_cases h0 : i < 0
  · rw [if_pos (Or.inl h0), if_pos (Or.inl h0)]
    go_enter Try.func28, Try.ntmps28
    go_wp2_with fail
    refine bodyPost_ret (results_tmp2 rfl _ _ _) rfl ?_
    exact ⟨rfl, Below.refl _ _⟩
  by_cases h1 : (s.size : Int) ≤ i
  · rw [if_pos (Or.inr h1), if_pos (Or.inr h1)]
    go_enter Try.func28, Try.ntmps28
    go_wp2_with fail
    refine bodyPost_ret (results_tmp2 rfl _ _ _) rfl ?_
    exact ⟨rfl, Below.refl _ _⟩
  rw [if_neg (by omega), if_neg (by omega)]
  obtain ⟨at', rfl⟩ := Int.eq_ofNat_of_zero_le (a := i) (by omega)
  have hto : ((at' : Nat) : Int).toNat = at' := by simp
  rw [hto]
  clear hto
  have hat : at' < s.size := by omega
  have hlo : ∃ lo, lo = at' - 255 := ⟨_, rfl⟩
  obtain ⟨lo, hlo⟩ := hlo
  have hmx : max (0 : Int) ((at' : Int) - 255) = (lo : Int) := by omega
  have Hlo := Lib.hid hlo
  have hle : lo ≤ at' := by omega
  clear hlo
  go_enter Try.func28, Try.ntmps28
  have hm0 := stood_made w s.data.toList lo
  have hs0 := World.Shuns_made w (fun _ => False)
  have hb0 : Bes (fun _ => False) w.heap.size w (w.alloc (.map #[] 0)) := bes_alloc (bes_refl _ _ _) (Nat.le_refl _) _
  go_wp2_with fail
  all_goals
    generalize w.alloc (.map #[] 0) = w1 at *
    have HM0 := Lib.hid hm0
    clear hm0
    go_loopw [7] (fun ui wr => ∃ c : Nat, lo + c ≤ at' ∧ ui = .int .i64 ((lo + c : Nat) : Int) ∧ Stood Unit wr w.heap.size w.heap.size c s.data.toList lo c ∧ wr.Shuns w.heap.size (fun _ => False) ∧ Bes (fun _ => False) w.heap.size w wr) (fun ui _ => at' - (intOf ui).toNat)
    case atStart => exact ⟨0, hle, by congr 1; have := Hlo.out; omega, HM0.out, hs0, hb0⟩
    case round =>
      obtain ⟨c, hc, rfl, hst, hsh, hbe⟩ := hrel
      have HST := Lib.hid hst
      clear hst HM0
      have Hbe := Lib.hid hbe
      clear hbe
      by_cases hlt : lo + c < at'
      · have hcall := add_any (fun _ => False) s w.heap.size c lo c wr HST.out hsh (fun _ h => h.elim) hs (by omega) (by omega)
        generalize hk : lo + c = k at *
        have Hk := Lib.hid hk
        clear hk
        go_wp2_with fail
        refine hcall.mono ?_
        rintro e w2 ⟨⟨v, rfl⟩, hst2, hsh2, hbe2⟩
        have HST2 := Lib.hid hst2
        have Hb2 := Lib.hid (bes_trans Hbe.out hbe2)
        clear hst2 hbe2 hcall
        go_wp2_with fail
        exact ⟨⟨c + 1, by rw [← Nat.add_assoc, Hk.out]; omega, by rw [← Nat.add_assoc, Hk.out]; rfl, HST2.out, hsh2, Hb2.out⟩, by simp [intOf]; omega⟩
      · have e1 : lo + c = at' := by omega
        have hcall := longest_in s w.heap.size c lo c wr HST.out hs (by omega) (by have := Hlo.out; omega) (by omega)
        rw [e1] at hcall ⊢
        clear e1
        go_wp2_with fail
        refine hcall.mono ?_
        rintro e w2 ⟨rfl, q, rfl⟩
        go_wp2_with fail
        refine bodyPost_ret (results_tmp2 rfl _ _ _) rfl ?_
        exact ⟨rfl, belowDrewN Hbe.out.1 _⟩
end Go.Proofs.Ytdbhmffiojchcaa
