/- up, down of container/heap, at a forest. Conditions: numbers fit. -/
import Derived.Test.YtpkbbbdbcedkfaaHufB
namespace Go.Proofs.Ytpkbbbdbcedkfaa
open Go.RowKit

abbrev forestV (F : Nat) : Value := .iface 32 (.pointer (some ⟨F, 0, none⟩))
theorem fs_cell {F : Nat} {w : World} {v : Value} (h : w.heap[F]? = some (.cells #[v] 34 (0, 0))) : w.cell? ⟨F, 0, none⟩ = some v := by
  rw [cell_of_row w F 0 _ _ (0, 0) h]; rfl
theorem row_ne {B F : Nat} {w : World} {v x : Value} {ps : List Nat} {A : List HT} (h : Row B w v ps A) (hF : w.heap[F]? = some (.cells #[x] 34 (0, 0))) : v.ownBlock ≠ some F := by
  intro e
  obtain ⟨⟨_, h⟩, _⟩ := h
  rcases h with ⟨rfl, _⟩ | ⟨g, cap, cur, rfl, _, hc, _⟩
  · cases e
  · injection e with e
    subst e
    rw [hF] at hc
    injection hc with hc
    injection hc with _ hc _
    cases hc
/-- What a call of Less, of Swap through the interface comes to. -/
theorem swap_fs {B F : Nat} {w : World} {A : List HT} {v : Value} {ps : List Nat} (hB : B ≤ F) (hF : w.heap[F]? = some (.cells #[v] 34 (0, 0))) (hr : Row B w v ps A) (i j : Nat) (hi : i < A.length) (hj : j < A.length) (hl : A.length ≤ 1000000) :
    Calls Try.prog 48 #[v, .int .i64 i, .int .i64 j] w fun e w' => e = .returned (.tuple #[]) ∧ ForS B F w' (swapT A i j) ∧ Kp B w w' :=
  (swap_any B v ps A i j w hr hi hj hl).mono fun e w' ⟨he, ⟨ps', hr'⟩, hk, _, hoth⟩ => ⟨he, ⟨v, ps', hB, by rw [hoth F (row_ne hr hF)]; exact hF, hr'⟩, hk⟩
theorem less_fs {B F : Nat} {w : World} {A : List HT} {v : Value} {ps : List Nat} (hB : B ≤ F) (hF : w.heap[F]? = some (.cells #[v] 34 (0, 0))) (hr : Row B w v ps A) (i j : Nat) (hi : i < A.length) (hj : j < A.length) (hl : A.length ≤ 1000000) :
    Calls Try.prog 45 #[v, .int .i64 i, .int .i64 j] w fun e w' => e = .returned (.bool (ltT (atT A i) (atT A j))) ∧ ForS B F w' A ∧ Kp B w w' :=
  (less_any B v ps A i j w hr hi hj hl).mono fun e w' ⟨he, n, hw⟩ => by
    subst hw
    exact ⟨he, ⟨v, ps, hB, hF, row_drewN hr n⟩, (Kp.refl B w).drewN n⟩

set_option maxRecDepth 100000 in
set_option maxHeartbeats 4000000 in
theorem up_any (B F : Nat) (A : List HT) (j : Nat) (w : World) (h : ForS B F w A) (hj : j < A.length) (hl : A.length ≤ 1000000) (hh : HeapUp A A.length j) :
    Calls Try.prog 27 #[forestV F, .int .i64 j] w fun e w' => e = .returned (.tuple #[]) ∧ ∃ A', ForS B F w' A' ∧ A'.Perm A ∧ Heap A' A'.length ∧ Kp B w w' := by
  have H := Lib.hid h
  have HH := Lib.hid hh
  clear h hh
  go_enter Try.func27, Try.ntmps27
  go_wp2_with fail
  go_loopw [1] (fun i wr => ∃ (k : Nat) (A1 : List HT), i = .int .i64 k ∧ k < A.length ∧ ForS B F wr A1 ∧ A1.Perm A ∧ HeapUp A1 A.length k ∧ Kp B w wr) (fun i _ => (intOf i).toNat)
  case atStart => exact ⟨j, A, rfl, hj, H.out, List.Perm.refl _, HH.out, Kp.refl _ _⟩
  case round =>
    obtain ⟨k, A1, rfl, hk, hfs, hp, hup, hkp⟩ := hrel
    have hlen := hp.length_eq
    obtain ⟨v, ps, hB, hF, hr⟩ := hfs
    have Hp := Lib.hid hp
    have Hup := Lib.hid hup
    have Hkp := Lib.hid hkp
    have HF := Lib.hid hF
    have Hr := Lib.hid hr
    have HB := Lib.hid hB
    have hcell := fs_cell hF
    have m1 := meth_less F wr v hcell
    clear hp hup hkp hF hr H HH hB
    by_cases h0 : k = 0
    · subst h0
      have d1 : (IntKind.i64.wrap ((0 : Int) - 1)).tdiv 2 = 0 := by decide
      go_wp2_with fail
      go_end0
      exact ⟨rfl, A1, ⟨v, ps, HB.out, HF.out, Hr.out⟩, Hp.out, by rw [Hp.out.length_eq]; exact up_end Hup.out (Or.inl rfl), Hkp.out⟩
    · obtain ⟨m, rfl⟩ : ∃ m, k = m + 1 := ⟨k - 1, by omega⟩
      have hpar : par (m + 1) = m / 2 := by unfold par; rw [Nat.add_sub_cancel]
      have hless := less_fs HB.out HF.out Hr.out (m + 1) (m / 2) (by omega) (by omega) (by omega)
      rw [← hpar] at hless
      rw [show (((m + 1 : Nat)) : Int) = (m : Int) + 1 by omega] at hless
      rw [hpar, show ((m / 2 : Nat) : Int) = (m : Int) / 2 by omega, ← hpar] at hless
      have hne : ((m : Int) / 2 == (m : Int) + 1) = false := by simp; omega
      go_wp2_with fail
      refine hless.mono ?_
      rintro e w1 ⟨rfl, hfs1, hkp1⟩
      have Hkp1 := Lib.hid (Hkp.out.trans hkp1)
      clear hless hcell m1 HF Hr HB hkp1
      cases hlt : ltT (atT A1 (m + 1)) (atT A1 (par (m + 1))) with
      | false =>
        have Hlt := Lib.hid hlt
        clear hlt
        go_wp2_with fail
        go_end0
        exact ⟨rfl, A1, hfs1, Hp.out, by rw [Hp.out.length_eq]; exact up_end Hup.out (Or.inr Hlt.out), Hkp1.out⟩
      | true =>
        have Hlt := Lib.hid hlt
        obtain ⟨v2, ps2, hB2, hF2, hr2⟩ := hfs1
        have hcell2 := fs_cell hF2
        have m2 := meth_swap F w1 v2 hcell2
        have hswap := swap_fs hB2 hF2 hr2 (m / 2) (m + 1) (by omega) (by omega) (by omega)
        rw [show (((m + 1 : Nat)) : Int) = (m : Int) + 1 by omega, show ((m / 2 : Nat) : Int) = (m : Int) / 2 by omega, ← hpar] at hswap
        clear hlt hB2 hF2 hr2 hcell2
        go_wp2_with fail
        refine hswap.mono ?_
        rintro e w2 ⟨rfl, hfs2, hkp2⟩
        go_wp2_with fail
        refine ⟨⟨par (m + 1), swapT A1 (par (m + 1)) (m + 1), ?_, by omega, hfs2, ?_, ?_, Hkp1.out.trans hkp2⟩, by simp [intOf]; omega⟩
        · rw [hpar]; congr 1
        · exact (swapT_perm (by omega) (by omega)).trans Hp.out
        · exact up_step (by omega) hk (by omega) Hup.out Hlt.out
end Go.Proofs.Ytpkbbbdbcedkfaa
