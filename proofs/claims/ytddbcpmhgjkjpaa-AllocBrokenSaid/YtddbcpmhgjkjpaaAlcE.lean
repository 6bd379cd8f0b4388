/- Has: is there a slot where one refers to? The document's. Conditions: numbers fit. -/
import Derived.Test.YtddbcpmhgjkjpaaAlcA
import Derived.Test.YtddbcpmhgjkjpaaRefT
namespace Go.Proofs.Ytddbcpmhgjkjpaa
open Go.RowKit

def hasL (l : List Us) (a s : Int) : Bool := l.any fun u => decide (u.1 = a) && decide (u.2.1 = sectors s)
def hasT (ls : List (List Us)) (c a s : Int) (p : Bool) : Bool := mayB c a s p && decide (c < ls.length) && hasL (ls.getD c.toNat []) a s
theorem hasL_yes {l : List Us} {a s : Int} {k : Nat} (hk : k < l.length) (h1 : l[k].1 = a) (h2 : l[k].2.1 = sectors s) : hasL l a s = true := List.any_eq_true.2 ⟨l[k], List.getElem_mem hk, by simp [h1, h2]⟩
theorem hasL_next {l : List Us} {a s : Int} {k : Nat} (hk : k < l.length) (h : hasL (l.take k) a s = false) (hn : ¬ (l[k].1 = a ∧ l[k].2.1 = sectors s)) : hasL (l.take (k + 1)) a s = false := by
  unfold hasL at h ⊢
  rw [List.take_succ_eq_append_getElem hk, List.any_append, h, List.any_cons, List.any_nil]
  simpa using hn

set_option maxRecDepth 100000 in
set_option maxHeartbeats 4000000 in
theorem hasT_any (v : Value) (ls : List (List Us)) (c a s : Int) (p : Bool) (w : World) (hv : TabV w v ls) (hf : FewT ls) :
    Calls Try.prog 43 #[v, .agg #[.int .i64 c, .int .i64 a, .int .i64 s, .bool p]] w fun e w' => e = .returned (.bool (hasT ls c a s p)) ∧ Below w.heap.size w w' := by
  obtain ⟨hf1, hf2⟩ := hf
  obtain ⟨W1, hW, e0, e1, e2, e3, hs1, hb0⟩ := boxed4 w (.int .i64 c) (.int .i64 a) (.int .i64 s) (.bool p) 53
  have hm := rxMay_any c a s p W1
  have HV := Lib.hid (tab_below hv hb0)
  obtain ⟨aX, cX, rfl, hnX, _⟩ := tab_shape hv
  clear hv hnX
  cases hmay : mayB c a s p with
  | false =>
    have HE : Hid (hasT ls c a s p = false) := by unfold Hid hasT; rw [hmay]; rfl
    rw [hmay] at hm
    clear hmay
    go_enter Try.func43, Try.ntmps43
    go_wp2_with fail
    refine hm.mono ?_
    rintro e w1 ⟨rfl, hb1⟩
    have HB1 := Lib.hid (hb0.trans (hb1.mono (Nat.le_of_lt hs1)))
    clear hm hb1
    go_wp2_with fail
    go_ret
    exact ⟨by rw [HE.out]; rfl, HB1.out⟩
  | true =>
    have hbd := may_bd hmay
    rw [hmay] at hm
    by_cases hlt : c < (ls.length : Int)
    · obtain ⟨k, rfl⟩ : ∃ k : Nat, c = k := ⟨c.toNat, by omega⟩
      have hkl : k < ls.length := by omega
      have HE : Hid (hasT ls k a s p = hasL ls[k] a s) := by
        unfold Hid hasT
        rw [hmay, show decide ((k : Int) < ls.length) = true from by simpa using hlt, List.getD_eq_getElem?_getD, Int.toNat_natCast, List.getElem?_eq_getElem hkl]; rfl
      have b0 : decide ((ls.length : Int) ≤ (k : Int)) = false := by simp; omega
      have b0n : decide (ls.length ≤ k) = false := by simp; omega
      have hlen := hf1 _ (List.getElem_mem hkl)
      have g0 : (0 : Int) ≤ (k : Int) := by omega
      clear hmay
      go_enter Try.func43, Try.ntmps43
      go_wp2_with fail
      refine hm.mono ?_
      rintro e w1 ⟨rfl, hb1⟩
      have HB1 := Lib.hid hb1
      have f0 : w1.cell? ⟨w.heap.size, 0, none⟩ = some (.int .i64 (k : Int)) := (hb1.cell (p := ⟨w.heap.size, 0, none⟩) hs1).trans e0
      obtain ⟨b, off, au, cu, hveq, hblt, hcell, hu⟩ := tab_at (tab_below HV.out hb1) hkl
      subst hveq
      have HU := Lib.hid hu
      clear hm hb1 hu
      generalize ls[k] = l at *
      go_wp2_with fail
      go_loopw [6] (fun i wr => ∃ j : Nat, j ≤ l.length ∧ i = .int .i64 j ∧ hasL (l.take j) a s = false ∧ Below w1.heap.size w1 wr) (fun i _ => l.length - (intOf i).toNat)
      case atStart => exact ⟨0, Nat.zero_le _, rfl, rfl, Below.refl _ _⟩
      case round =>
        clear f0 hcell
        obtain ⟨j, hj, rfl, hn, hb⟩ := hrel
        have HN := Lib.hid hn
        have Hb := Lib.hid (below_step9 HB1.out hb)
        have HUr := Lib.hid (sl_below HU.out hb)
        have Hbw := Lib.hid hb
        clear hn hb
        by_cases hjl : j < l.length
        · obtain ⟨b', off', hveq, hblt', q0, q1, _, _⟩ := use_at HUr.out hjl
          subst hveq
          have f0 : wr.cell? ⟨w.heap.size, 0, none⟩ = some (.int .i64 (k : Int)) := (Hb.out.cell (p := ⟨w.heap.size, 0, none⟩) hs1).trans e0
          have f1 : wr.cell? ⟨w.heap.size, 1, none⟩ = some (.int .i64 a) := (Hb.out.cell (p := ⟨w.heap.size, 1, none⟩) hs1).trans e1
          have f2 : wr.cell? ⟨w.heap.size, 2, none⟩ = some (.int .i64 s) := (Hb.out.cell (p := ⟨w.heap.size, 2, none⟩) hs1).trans e2
          have f3 : wr.cell? ⟨w.heap.size, 3, none⟩ = some (.bool p) := (Hb.out.cell (p := ⟨w.heap.size, 3, none⟩) hs1).trans e3
          have hsw : w.heap.size < wr.heap.size := Nat.lt_of_lt_of_le hs1 Hb.out.size
          have g2 : (j : Int) < (l.length : Int) := by omega
          have g3 : (0 : Int) ≤ (j : Int) := by omega
          have HY := Lib.hid (hasL_yes (a := a) (s := s) hjl)
          have HX := Lib.hid (hasL_next (a := a) (s := s) hjl HN.out)
          clear e0 e1 e2 e3
          generalize l[j].1 = x1 at *
          generalize l[j].2.1 = x2 at *
          by_cases hx : x1 = a
          · subst hx
            have hc := fun wx => rxLen_any (k : Int) x1 s p wx (by omega)
            go_wp2_with fail
            go_region_held3 (Held wr) (first | exact held_start | exact held_call (by assumption) (by assumption)) (first | (go_at_call 71; refine (hc _).mono ?_; rintro e w' ⟨rfl, hb⟩))
            have hh : Held wr w' := by assumption
            have HBw := Lib.hid (below_step9 Hbw.out hh.2)
            have HBa := Lib.hid (hb0.trans ((below_step9 Hb.out hh.2).mono (Nat.le_of_lt hs1)))
            clear hh
            obtain ⟨y5, hy5⟩ : ∃ y5, y5 = (x2 == sectors s) := ⟨_, rfl⟩
            rw [← hy5]
            have HY5 := Lib.hid hy5
            clear hy5
            cases y5 with
            | true =>
              have HYY := Lib.hid (HY.out (by trivial) (by simpa using HY5.out.symm))
              go_wp2_with fail
              go_ret
              exact ⟨by rw [HE.out, HYY.out]; rfl, HBa.out⟩
            | false =>
              have HXX := Lib.hid (HX.out (fun h => by have := HY5.out; rw [h.2] at this; simp at this))
              go_wp2_with fail
              exact ⟨⟨j + 1, by omega, by go_num, HXX.out, HBw.out⟩, by simp [intOf]; omega⟩
          · have b4 : (x1 == a) = false := by simpa using hx
            have HXX := Lib.hid (HX.out (fun h => hx h.1))
            clear hx
            go_wp2_with fail
            go_quiet (fail)
            go_wp2_with fail
            exact ⟨⟨j + 1, by omega, by go_num, HXX.out, below_drewN9 Hbw.out _⟩, by simp [intOf]; omega⟩
        · obtain rfl : j = l.length := by omega
          have HF := HN.out
          rw [List.take_length] at HF
          have HFF := Lib.hid HF
          have HBa := Lib.hid (hb0.trans (Hb.out.mono (Nat.le_of_lt hs1)))
          clear HF
          go_wp2_with fail
          go_ret
          exact ⟨by rw [HE.out, HFF.out]; rfl, HBa.out⟩
    · have HE : Hid (hasT ls c a s p = false) := by
        unfold Hid hasT
        rw [show decide (c < (ls.length : Int)) = false from by simpa using hlt, Bool.and_false]; rfl
      have b0 : decide ((ls.length : Int) ≤ c) = true := by simp; omega
      clear hmay
      go_enter Try.func43, Try.ntmps43
      go_wp2_with fail
      refine hm.mono ?_
      rintro e w1 ⟨rfl, hb1⟩
      have HB1 := Lib.hid (hb0.trans (hb1.mono (Nat.le_of_lt hs1)))
      have f0 : w1.cell? ⟨w.heap.size, 0, none⟩ = some (.int .i64 c) := (hb1.cell (p := ⟨w.heap.size, 0, none⟩) hs1).trans e0
      clear hm hb1
      go_wp2_with fail
      go_ret
      exact ⟨by rw [HE.out]; rfl, HB1.out⟩
end Go.Proofs.Ytddbcpmhgjkjpaa
