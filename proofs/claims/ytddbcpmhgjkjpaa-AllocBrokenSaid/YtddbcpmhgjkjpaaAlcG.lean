/- What is made of the table of one's chunk put in its place: change, Inc, Dec. Conditions: numbers fit. -/
import Derived.Test.YtddbcpmhgjkjpaaAlcE
import Derived.Test.YtddbcpmhgjkjpaaAlcF
import Derived.Test.YtddbcpmhgjkjpaaSloM
namespace Go.Proofs.Ytddbcpmhgjkjpaa
open Go.RowKit

/-- No slot there has another length. -/
def noBad (l : List Us) (a s : Int) : Bool := l.all fun u => !(decide (u.1 = a)) || decide (u.2.1 = sectors s)
theorem noBad_no {l : List Us} {a s : Int} {k : Nat} (hk : k < l.length) (h1 : l[k].1 = a) (h2 : l[k].2.1 ≠ sectors s) : noBad l a s = false := List.all_eq_false.2 ⟨l[k], List.getElem_mem hk, by simp [h1, h2]⟩
theorem noBad_next {l : List Us} {a s : Int} {k : Nat} (hk : k < l.length) (h : noBad (l.take k) a s = true) (hn : l[k].1 ≠ a ∨ l[k].2.1 = sectors s) : noBad (l.take (k + 1)) a s = true := by
  unfold noBad at h ⊢
  rw [List.take_succ_eq_append_getElem hk, List.all_append, h, List.all_cons, List.all_nil]
  rcases hn with hn | hn <;> simp [hn]
def chanOk (ls : List (List Us)) (c a s : Int) (p : Bool) (b : Int) : Bool := mayT ls && mayB c a s p && decide (c < ls.length) && noBad (ls.getD c.toNat []) a s && turnOk (ls.getD c.toNat []) a b
def chanR (ls : List (List Us)) (c a s : Int) (p : Bool) (b : Int) : List (List Us) := if chanOk ls c a s p b = true then ls.set c.toNat (turnU (ls.getD c.toNat []) a b) else []
abbrev ChanV (ls : List (List Us)) (c a s : Int) (p : Bool) (b : Int) (w : World) (e : Ending) (w' : World) : Prop :=
  ∃ a' cap, e = .returned (.tuple #[.slice a' (chanR ls c a s p b).length cap, .bool (chanOk ls c a s p b)]) ∧ TabV w' (.slice a' (chanR ls c a s p b).length cap) (chanR ls c a s p b) ∧ Below w.heap.size w w'
theorem chan_no {ls : List (List Us)} {c a s : Int} {p : Bool} {b : Int} (h : chanOk ls c a s p b = false) : chanR ls c a s p b = [] ∧ chanOk ls c a s p b = false := by unfold chanR; rw [h]; exact ⟨rfl, rfl⟩

set_option maxRecDepth 100000 in
set_option maxHeartbeats 8000000 in
theorem change_any (F : FuncId) (hrun : ∀ args w, (callFunc F args).run Try.prog w = .ok (.enter F args) w) (bx : Nat) (b : Int) (v : Value) (ls : List (List Us)) (c a s : Int) (p : Bool) (w : World)
    (hF : ∀ wx, Below w.heap.size w wx → ∀ v l, UseV wx v l → l.length ≤ 100 → Calls Try.prog F #[v, .pointer (some ⟨bx, 0, none⟩)] wx fun e w' => TurnV l a b wx e w')
    (hv : TabV w v ls) (hf : FewT ls) :
    Calls Try.prog 66 #[v, .agg #[.int .i64 c, .int .i64 a, .int .i64 s, .bool p], .func (.func F) #[] #[.pointer (some ⟨bx, 0, none⟩)]] w fun e w' => ChanV ls c a s p b w e w' := by
  obtain ⟨W1, hW, e0, e1, e2, e3, hs1, hb0⟩ := boxed4 w (.int .i64 c) (.int .i64 a) (.int .i64 s) (.bool p) 53
  have hc := mayTP_any v ls W1 (tab_below hv hb0) hf
  have hcl : ∀ w1, Below w.heap.size w w1 → _ := fun w1 hb => cloneT_any v ls w1 (tab_below hv hb) hf
  have Hcl := Lib.hid hcl
  have HF := Lib.hid hF
  have HV := Lib.hid (tab_below hv hb0)
  obtain ⟨hf1, hf2⟩ := hf
  obtain ⟨aX, cX, rfl, hnX, _⟩ := tab_shape hv
  clear hv hnX hcl hF
  have Hfin : Hid (∀ w', Below w.heap.size w w' → chanOk ls c a s p b = false → ChanV ls c a s p b w (.returned (.tuple #[.slice none 0 0, .bool false])) w') := by
    intro w' hb h
    obtain ⟨q1, q2⟩ := chan_no h
    unfold ChanV
    rw [q1, q2]
    exact ⟨none, 0, rfl, tab_nil fun _ => rfl, hb⟩
  cases hmt : mayT ls with
  | false =>
    have HE : Hid (chanOk ls c a s p b = false) := by unfold Hid chanOk; rw [hmt]; rfl
    rw [hmt] at hc
    clear hmt
    go_enter Try.func66, Try.ntmps66
    go_wp2_with fail
    refine hc.mono ?_
    rintro e w1 ⟨rfl, hb1⟩
    have HB1 := Lib.hid (hb0.trans (hb1.mono (Nat.le_of_lt hs1)))
    clear hc hb1
    go_wp2_with fail
    refine bodyPost_ret (results_tmp2 rfl _ _ _) rfl ?_
    exact Hfin.out _ HB1.out HE.out
  | true =>
  rw [hmt] at hc
  have hm := fun wx => xMay_any c a s p wx
  cases hmay : mayB c a s p with
  | false =>
    have HE : Hid (chanOk ls c a s p b = false) := by unfold Hid chanOk; rw [hmt, hmay]; rfl
    rw [hmay] at hm
    clear hmt hmay
    go_enter Try.func66, Try.ntmps66
    go_wp2_with fail
    refine hc.mono ?_
    rintro e w1 ⟨rfl, hb1⟩
    have HB1 := Lib.hid (hb0.trans (hb1.mono (Nat.le_of_lt hs1)))
    have f0 : w1.cell? ⟨w.heap.size, 0, none⟩ = some (.int .i64 c) := (hb1.cell (p := ⟨w.heap.size, 0, none⟩) hs1).trans e0
    have f1 : w1.cell? ⟨w.heap.size, 1, none⟩ = some (.int .i64 a) := (hb1.cell (p := ⟨w.heap.size, 1, none⟩) hs1).trans e1
    have f2 : w1.cell? ⟨w.heap.size, 2, none⟩ = some (.int .i64 s) := (hb1.cell (p := ⟨w.heap.size, 2, none⟩) hs1).trans e2
    have f3 : w1.cell? ⟨w.heap.size, 3, none⟩ = some (.bool p) := (hb1.cell (p := ⟨w.heap.size, 3, none⟩) hs1).trans e3
    clear hc hb1
    go_wp2_with fail
    refine (hm _).mono ?_
    rintro e w2 ⟨rfl, hb2⟩
    have HB2 := Lib.hid (below_step9 HB1.out hb2)
    clear hm hb2
    go_wp2_with fail
    refine bodyPost_ret (results_tmp2 rfl _ _ _) rfl ?_
    exact Hfin.out _ HB2.out HE.out
  | true =>
  have hbd := may_bd hmay
  rw [hmay] at hm
  by_cases hlt : c < (ls.length : Int)
  · obtain ⟨k, rfl⟩ : ∃ k : Nat, c = k := ⟨c.toNat, by omega⟩
    have hkl : k < ls.length := by omega
    have HOK : Hid (chanOk ls k a s p b = (noBad ls[k] a s && turnOk ls[k] a b)) := by
      unfold Hid chanOk
      rw [hmt, hmay, show decide ((k : Int) < ls.length) = true from by simpa using hlt, List.getD_eq_getElem?_getD, Int.toNat_natCast, List.getElem?_eq_getElem hkl]
      simp
    have HR : Hid (chanOk ls k a s p b = true → chanR ls k a s p b = ls.set k (turnU ls[k] a b)) := by
      intro h
      unfold chanR
      rw [if_pos h, List.getD_eq_getElem?_getD, Int.toNat_natCast, List.getElem?_eq_getElem hkl]; rfl
    have b0 : decide ((ls.length : Int) ≤ (k : Int)) = false := by simp; omega
    have b0n : decide (ls.length ≤ k) = false := by simp; omega
    have hlen := hf1 _ (List.getElem_mem hkl)
    have g0 : (0 : Int) ≤ (k : Int) := by omega
    clear hmay hmt
    go_enter Try.func66, Try.ntmps66
    go_wp2_with fail
    refine hc.mono ?_
    rintro e w1 ⟨rfl, hb1⟩
    have HB1 := Lib.hid hb1
    have f0 : w1.cell? ⟨w.heap.size, 0, none⟩ = some (.int .i64 (k : Int)) := (hb1.cell (p := ⟨w.heap.size, 0, none⟩) hs1).trans e0
    have f1 : w1.cell? ⟨w.heap.size, 1, none⟩ = some (.int .i64 a) := (hb1.cell (p := ⟨w.heap.size, 1, none⟩) hs1).trans e1
    have f2 : w1.cell? ⟨w.heap.size, 2, none⟩ = some (.int .i64 s) := (hb1.cell (p := ⟨w.heap.size, 2, none⟩) hs1).trans e2
    have f3 : w1.cell? ⟨w.heap.size, 3, none⟩ = some (.bool p) := (hb1.cell (p := ⟨w.heap.size, 3, none⟩) hs1).trans e3
    clear hc hb1
    go_wp2_with fail
    refine (hm _).mono ?_
    rintro e w2 ⟨rfl, hb2⟩
    have hbb := HB1.out.trans (hb2.mono HB1.out.size)
    have HB2 := Lib.hid hbb
    clear f0 f1 f2 f3
    have f0 : w2.cell? ⟨w.heap.size, 0, none⟩ = some (.int .i64 (k : Int)) := (hbb.cell (p := ⟨w.heap.size, 0, none⟩) hs1).trans e0
    obtain ⟨b', off, au, cu, hveq, hblt, hcell, hu⟩ := tab_at (tab_below HV.out hbb) hkl
    subst hveq
    have HU := Lib.hid hu
    clear hm hb2 hu hbb HB1
    generalize hl : ls[k] = l at *
    have Hl := Lib.hid hl
    clear hl
    go_wp2_with fail
    go_loopw [34] (fun i wr => ∃ j : Nat, j ≤ l.length ∧ i = .int .i64 j ∧ noBad (l.take j) a s = true ∧ Below w2.heap.size w2 wr) (fun i _ => l.length - (intOf i).toNat)
    case atStart => exact ⟨0, Nat.zero_le _, rfl, rfl, Below.refl _ _⟩
    case round =>
      clear f0 hcell
      obtain ⟨j, hj, rfl, hn, hb⟩ := hrel
      have HN := Lib.hid hn
      have Hb := Lib.hid (HB2.out.trans (hb.mono HB2.out.size))
      have HUr := Lib.hid (sl_below HU.out hb)
      have Hbw := Lib.hid hb
      clear hn hb
      by_cases hjl : j < l.length
      · obtain ⟨b1, off1, hveq, hblt1, q0, q1, q2, q3⟩ := use_at HUr.out hjl
        subst hveq
        obtain ⟨W2, hW2, r0, r1, r2, r3, hs2, hb2⟩ := boxed4 wr (.int .i64 l[j].1) (.int .i64 l[j].2.1) (.int .i64 l[j].2.2.1) (.bool l[j].2.2.2) 41
        have hbW : Below W1.heap.size W1 W2 := Hb.out.trans (hb2.mono Hb.out.size)
        have f1 : W2.cell? ⟨w.heap.size, 1, none⟩ = some (.int .i64 a) := (hbW.cell (p := ⟨w.heap.size, 1, none⟩) hs1).trans e1
        have f0 : W2.cell? ⟨w.heap.size, 0, none⟩ = some (.int .i64 (k : Int)) := (hbW.cell (p := ⟨w.heap.size, 0, none⟩) hs1).trans e0
        have f2 : W2.cell? ⟨w.heap.size, 2, none⟩ = some (.int .i64 s) := (hbW.cell (p := ⟨w.heap.size, 2, none⟩) hs1).trans e2
        have f3 : W2.cell? ⟨w.heap.size, 3, none⟩ = some (.bool p) := (hbW.cell (p := ⟨w.heap.size, 3, none⟩) hs1).trans e3
        have hsw : w.heap.size < W2.heap.size := Nat.lt_of_lt_of_le hs1 hbW.size
        have g2 : (j : Int) < (l.length : Int) := by omega
        have g3 : (0 : Int) ≤ (j : Int) := by omega
        have HY := Lib.hid (noBad_no (a := a) (s := s) hjl)
        have HX := Lib.hid (noBad_next (a := a) (s := s) hjl HN.out)
        have Hbu := Lib.hid (Hbw.out.trans (hb2.mono Hbw.out.size))
        have HbW := Lib.hid hbW
        clear e0 e1 e2 e3 hb2 hbW
        generalize l[j].1 = x1 at *
        generalize l[j].2.1 = x2 at *
        generalize l[j].2.2.1 = x3 at *
        generalize l[j].2.2.2 = x4 at *
        by_cases hx : x1 = a
        · subst hx
          have hc := fun wx => xLen_any (k : Int) x1 s p wx (by omega)
          go_wp2_with fail
          go_region_held3 (Held W2) (first | exact held_start | exact held_call (by assumption) (by assumption)) (first | (go_at_call 88; refine (hc _).mono ?_; rintro e w' ⟨rfl, hb⟩))
          have hh : Held W2 w' := by assumption
          have HBw := Lib.hid (Hbu.out.trans (hh.2.mono Hbu.out.size))
          have HBa := Lib.hid (hb0.trans ((HbW.out.trans (hh.2.mono HbW.out.size)).mono (Nat.le_of_lt hs1)))
          clear hh
          obtain ⟨y5, hy5⟩ : ∃ y5, y5 = (x2 != sectors s) := ⟨_, rfl⟩
          rw [← hy5]
          have HY5 := Lib.hid hy5
          clear hy5
          cases y5 with
          | false =>
            have HXX := Lib.hid (HX.out (Or.inr (by simpa using HY5.out.symm)))
            go_wp2_with fail
            exact ⟨⟨j + 1, by omega, by go_num, HXX.out, HBw.out⟩, by simp [intOf]; omega⟩
          | true =>
            have HYY : Hid (chanOk ls k x1 s p b = false) := by
              have h := HY.out (by trivial) (fun h => by have := HY5.out; rw [h] at this; simp at this)
              unfold Hid
              rw [HOK.out, h]; rfl
            go_wp2_with fail
            refine bodyPost_ret (results_tmp2 rfl _ _ _) rfl ?_
            exact Hfin.out _ HBa.out HYY.out
        · have b4 : (x1 == a) = false := by simpa using hx
          have HXX := Lib.hid (HX.out (Or.inl hx))
          clear hx
          go_wp2_with fail
          go_quiet (fail)
          go_wp2_with fail
          exact ⟨⟨j + 1, by omega, by go_num, HXX.out, below_drewN9 Hbu.out _⟩, by simp [intOf]; omega⟩
      · obtain rfl : j = l.length := by omega
        have HF1 := HN.out
        rw [List.take_length] at HF1
        have HBa := Lib.hid (hb0.trans (Hb.out.mono (Nat.le_of_lt hs1)))
        have f0 : wr.cell? ⟨w.heap.size, 0, none⟩ = some (.int .i64 (k : Int)) := (Hb.out.cell (p := ⟨w.heap.size, 0, none⟩) hs1).trans e0
        obtain ⟨b1, off1, au1, cu1, hveq, hblt1, hcell1, hu1⟩ := tab_at (tab_below HV.out Hb.out) hkl
        injection hveq with hveq
        injection hveq with t1 t2 t3
        subst t1 t2
        rw [Hl.out] at hcell1 hu1
        have hF1 := HF.out wr HBa.out _ _ hu1 hlen
        clear e0 e1 e2 e3 hu1
        unfold TurnV at hF1
        cases ht : turnOk l a b with
        | false =>
          rw [ht] at hF1
          have HYY : Hid (chanOk ls k a s p b = false) := by unfold Hid; rw [HOK.out, ht, Bool.and_false]
          clear ht
          go_wp2_with fail
          refine hF1.mono ?_
          rintro e w3 ⟨a2, c2, rfl, hu2, hb3⟩
          have HB3 := Lib.hid (below_step9 HBa.out hb3)
          clear hF1 hu2 hb3
          go_wp2_with fail
          refine bodyPost_ret (results_tmp2 rfl _ _ _) rfl ?_
          exact Hfin.out _ HB3.out HYY.out
        | true =>
          rw [ht] at hF1
          have HYY : Hid (chanOk ls k a s p b = true) := by unfold Hid; rw [HOK.out, ht, HF1]; rfl
          have HRR := Lib.hid (HR.out HYY.out)
          clear ht
          generalize turnU l a b = l2 at *
          go_wp2_with fail
          refine hF1.mono ?_
          rintro e w3 ⟨a2, c2, rfl, hu2, hb3⟩
          have HB3 := Lib.hid (below_step9 HBa.out hb3)
          have HU3 := Lib.hid hu2
          have hc2 := Hcl.out w3 HB3.out
          have hbb : Below wr.heap.size wr w3 := hb3
          clear hF1 hu2 hb3
          go_wp2_with fail
          refine hc2.mono ?_
          rintro e w4 ⟨a4, c4, rfl, ht4, hk4, hb4⟩
          have HB4 := Lib.hid (below_step9 HB3.out hb4)
          have HU4 := Lib.hid (sl_below HU3.out hb4)
          obtain ⟨b5, off5, au5, cu5, hveq, hblt5, hcell5, _⟩ := tab_at ht4 hkl
          subst hveq
          have hsr : w.heap.size < wr.heap.size := Nat.lt_of_lt_of_le hs1 Hb.out.size
          have f4 : w4.cell? ⟨w.heap.size, 0, none⟩ = some (.int .i64 (k : Int)) := ((hbb.trans (hb4.mono hbb.size)).cell (p := ⟨w.heap.size, 0, none⟩) hsr).trans f0
          have HT4 := Lib.hid ht4
          have hwb : w.heap.size ≤ b5 := Nat.le_trans HB3.out.size (hk4 b5 rfl).1
          have hfz := (hk4 b5 rfl).2 (off5 + k)
          clear hc2 ht4 hk4 hb4 hbb f0
          go_wp2_with fail
          refine bodyPost_ret (results_tmp2 rfl _ _ _) rfl ?_
          unfold ChanV
          rw [HRR.out, HYY.out]
          exact ⟨some ⟨b5, off5, none⟩, c4, by simp, by simpa using tab_set HT4.out hkl HU4.out, HB4.out.setCell hwb _⟩
  · have HE : Hid (chanOk ls c a s p b = false) := by
      unfold Hid chanOk
      rw [show decide (c < (ls.length : Int)) = false from by simpa using hlt, Bool.and_false]; rfl
    have b0 : decide ((ls.length : Int) ≤ c) = true := by simp; omega
    clear hmay hmt
    go_enter Try.func66, Try.ntmps66
    go_wp2_with fail
    refine hc.mono ?_
    rintro e w1 ⟨rfl, hb1⟩
    have HB1 := Lib.hid (hb0.trans (hb1.mono (Nat.le_of_lt hs1)))
    have f0 : w1.cell? ⟨w.heap.size, 0, none⟩ = some (.int .i64 c) := (hb1.cell (p := ⟨w.heap.size, 0, none⟩) hs1).trans e0
    have f1 : w1.cell? ⟨w.heap.size, 1, none⟩ = some (.int .i64 a) := (hb1.cell (p := ⟨w.heap.size, 1, none⟩) hs1).trans e1
    have f2 : w1.cell? ⟨w.heap.size, 2, none⟩ = some (.int .i64 s) := (hb1.cell (p := ⟨w.heap.size, 2, none⟩) hs1).trans e2
    have f3 : w1.cell? ⟨w.heap.size, 3, none⟩ = some (.bool p) := (hb1.cell (p := ⟨w.heap.size, 3, none⟩) hs1).trans e3
    have hsz1 := hb1.size
    have hb1' := hb1
    clear hc
    go_wp2_with fail
    refine (hm _).mono ?_
    rintro e w2 ⟨rfl, hb2⟩
    have HB2 := Lib.hid (below_step9 HB1.out hb2)
    clear f0 f1 f2 f3
    have f0 : w2.cell? ⟨w.heap.size, 0, none⟩ = some (.int .i64 c) := ((hb1'.trans (hb2.mono hsz1)).cell (p := ⟨w.heap.size, 0, none⟩) hs1).trans e0
    clear hm hb2 hb1 hb1'
    go_wp2_with fail
    refine bodyPost_ret (results_tmp2 rfl _ _ _) rfl ?_
    exact Hfin.out _ HB2.out HE.out

set_option maxRecDepth 100000 in
set_option maxHeartbeats 1000000 in
theorem decT_any (v : Value) (ls : List (List Us)) (c a s : Int) (p : Bool) (w : World) (hv : TabV w v ls) (hf : FewT ls) :
    Calls Try.prog 40 #[v, .agg #[.int .i64 c, .int .i64 a, .int .i64 s, .bool p]] w fun e w' => ChanV ls c a s p (-1) w e w' := by
  obtain ⟨W1, hW, e0, e1, e2, e3, hs1, hb0⟩ := boxed4 w (.int .i64 c) (.int .i64 a) (.int .i64 s) (.bool p) 53
  have hmf : ∀ (fn : Fn) (first cap : Array Value) (w : World), (Instr.makeFunc fn first cap).run Try.prog w = .ok (.func fn first cap) w := fun _ _ _ _ => rfl
  have hc := change_any 67 (run_func_enter Try.func67 (by kernel_rfl) rfl) w.heap.size (-1) v ls c a s p W1 (fun wx hx v l hu hl => by
    have f1 : wx.cell? ⟨w.heap.size, 1, none⟩ = some (.int .i64 a) := (hx.cell (p := ⟨w.heap.size, 1, none⟩) hs1).trans e1
    have hd := dec_any v l a wx hu (by omega)
    obtain ⟨aU, cU, rfl, _⟩ := id hu
    clear hu hx e0 e1 e2 e3 hW hv
    go_enter Try.func67, Try.ntmps67
    go_wp2_with fail
    refine hd.mono ?_
    rintro e w2 ⟨a2, c2, rfl, hu2, hb2⟩
    have HU2 := Lib.hid hu2
    have HB2 := Lib.hid hb2
    clear hu2 hb2 hd
    go_wp2_with fail
    refine bodyPost_ret (results_tmp2 rfl _ _ _) rfl ?_
    exact ⟨a2, c2, rfl, HU2.out, HB2.out⟩) (tab_below hv hb0) hf
  have Hb0 := Lib.hid (hb0)
  have Hs1 := Lib.hid hs1
  obtain ⟨aX, cX, rfl, hnX, _⟩ := tab_shape hv
  clear hv hnX hf
  go_enter Try.func40, Try.ntmps40
  go_wp2_with fail
  refine hc.mono ?_
  rintro e w2 ⟨a2, c2, rfl, ht2, hb2⟩
  have HT2 := Lib.hid ht2
  have HB2 := Lib.hid (Hb0.out.trans (hb2.mono (Nat.le_of_lt Hs1.out)))
  clear ht2 hb2 hc
  go_wp2_with fail
  refine bodyPost_ret (results_tmp2 rfl _ _ _) rfl ?_
  exact ⟨a2, c2, rfl, HT2.out, HB2.out⟩

set_option maxRecDepth 100000 in
set_option maxHeartbeats 1000000 in
theorem incT_any (v : Value) (ls : List (List Us)) (c a s : Int) (p : Bool) (w : World) (hv : TabV w v ls) (hf : FewT ls) :
    Calls Try.prog 45 #[v, .agg #[.int .i64 c, .int .i64 a, .int .i64 s, .bool p]] w fun e w' => ChanV ls c a s p 1 w e w' := by
  obtain ⟨W1, hW, e0, e1, e2, e3, hs1, hb0⟩ := boxed4 w (.int .i64 c) (.int .i64 a) (.int .i64 s) (.bool p) 53
  have hmf : ∀ (fn : Fn) (first cap : Array Value) (w : World), (Instr.makeFunc fn first cap).run Try.prog w = .ok (.func fn first cap) w := fun _ _ _ _ => rfl
  have hc := change_any 74 (run_func_enter Try.func74 (by kernel_rfl) rfl) w.heap.size 1 v ls c a s p W1 (fun wx hx v l hu hl => by
    have f1 : wx.cell? ⟨w.heap.size, 1, none⟩ = some (.int .i64 a) := (hx.cell (p := ⟨w.heap.size, 1, none⟩) hs1).trans e1
    have hd := inc_any v l a wx hu (by omega)
    obtain ⟨aU, cU, rfl, _⟩ := id hu
    clear hu hx e0 e1 e2 e3 hW hv
    go_enter Try.func74, Try.ntmps74
    go_wp2_with fail
    refine hd.mono ?_
    rintro e w2 ⟨a2, c2, rfl, hu2, hb2⟩
    have HU2 := Lib.hid hu2
    have HB2 := Lib.hid hb2
    clear hu2 hb2 hd
    go_wp2_with fail
    refine bodyPost_ret (results_tmp2 rfl _ _ _) rfl ?_
    exact ⟨a2, c2, rfl, HU2.out, HB2.out⟩) (tab_below hv hb0) hf
  have Hb0 := Lib.hid (hb0)
  have Hs1 := Lib.hid hs1
  obtain ⟨aX, cX, rfl, hnX, _⟩ := tab_shape hv
  clear hv hnX hf
  go_enter Try.func45, Try.ntmps45
  go_wp2_with fail
  refine hc.mono ?_
  rintro e w2 ⟨a2, c2, rfl, ht2, hb2⟩
  have HT2 := Lib.hid ht2
  have HB2 := Lib.hid (Hb0.out.trans (hb2.mono (Nat.le_of_lt Hs1.out)))
  clear ht2 hb2 hc
  go_wp2_with fail
  refine bodyPost_ret (results_tmp2 rfl _ _ _) rfl ?_
  exact ⟨a2, c2, rfl, HT2.out, HB2.out⟩
end Go.Proofs.Ytddbcpmhgjkjpaa
