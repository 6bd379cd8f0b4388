/- Contracts: the place of a slot, its count. Conditions: numbers fit. -/
import Derived.Test.YtddbcpmhgjkjpaaSloA
namespace Go.Proofs.Ytddbcpmhgjkjpaa
open Go.RowKit

def findI (l : List Us) (a : Int) : Int := match findU l a with | some i => i | none => -1
theorem findU_next {l : List Us} {a : Int} {k : Nat} (hk : k < l.length) (h : ∀ u ∈ l.take k, u.1 ≠ a) : (l[k].1 = a → findU l a = some k) ∧ (l[k].1 ≠ a → ∀ u ∈ l.take (k + 1), u.1 ≠ a) := by
  constructor
  · intro e
    refine findU_some.2 ⟨hk, e, fun j hj hjk => h _ (List.mem_take_iff_getElem.2 ⟨j, by omega, rfl⟩)⟩
  · intro e u hu
    rw [List.take_succ_eq_append_getElem hk, List.mem_append, List.mem_singleton] at hu
    rcases hu with hu | rfl
    · exact h u hu
    · exact e

/-- The closure of find: does a slot begin there? -/
theorem find1_any (b : Nat) (x p q c : Int) (o : Bool) (w : World) (hc : w.cell? ⟨b, 0, none⟩ = some (.int .i64 x)) (hb : b < w.heap.size) :
    Calls Try.prog 82 #[.agg #[.int .i64 p, .int .i64 q, .int .i64 c, .bool o], .pointer (some ⟨b, 0, none⟩)] w fun e w' => e = .returned (.bool (p == x)) ∧ Below w.heap.size w w' := by
  have hc2 : (w.alloc (.cells #[.int .i64 p, .int .i64 q, .int .i64 c, .bool o] 41)).cell? ⟨b, 0, none⟩ = some (.int .i64 x) := by rw [World.cell?_alloc_lt _ _ _ hb]; exact hc
  have hd : (w.alloc (.cells #[.int .i64 p, .int .i64 q, .int .i64 c, .bool o] 41)).cell? ⟨w.heap.size, 0, none⟩ = some (.int .i64 p) := by rw [World.cell?_alloc_new]; rfl
  go_enter Try.func82, Try.ntmps82
  go_wp2_with fail
  go_ret
  exact ⟨rfl, (Below.refl _ _).alloc (Nat.le_refl _) _⟩

set_option maxRecDepth 100000 in
set_option maxHeartbeats 2000000 in
theorem idxf_any (v : Value) (l : List Us) (b : Nat) (x : Int) (w : World) (hv : UseV w v l) (hl : l.length ≤ 140737488355328) (hc : w.cell? ⟨b, 0, none⟩ = some (.int .i64 x)) (hb : b < w.heap.size) :
    Calls Try.prog 81 #[v, .func (.func 82) #[] #[.pointer (some ⟨b, 0, none⟩)]] w fun e w' => e = .returned (.int .i64 (findI l x)) ∧ Below w.heap.size w w' := by
  have HV := Lib.hid hv
  obtain ⟨aX, cX, rfl, hcX, hnX, hcellX⟩ := hv
  have Hc := Lib.hid hc
  clear hcellX hnX hc
  go_enter Try.func81, Try.ntmps81
  go_wp2_with fail
  go_loopw [8] (fun i wr => ∃ k : Nat, k ≤ l.length ∧ i = .int .i64 k ∧ (∀ u ∈ l.take k, u.1 ≠ x) ∧ Below w.heap.size w wr) (fun i _ => l.length - (intOf i).toNat)
  case atStart => exact ⟨0, Nat.zero_le _, rfl, by simp, Below.refl _ _⟩
  case round =>
    obtain ⟨k, hk, rfl, hall, hbw⟩ := hrel
    have Hall := Lib.hid hall
    have Hb := Lib.hid hbw
    clear hall hbw
    by_cases hlt : k < l.length
    · obtain ⟨b0, off, hveq, hblt, cells⟩ := use_at (sl_below HV.out Hb.out) hlt
      subst hveq
      obtain ⟨e0, e1, e2, e3⟩ := cells
      have hn := findU_next hlt Hall.out
      obtain ⟨p, q, c, o, hu⟩ : ∃ p q c o, l[k] = (p, q, c, o) := ⟨_, _, _, _, rfl⟩
      rw [hu] at e0 e1 e2 e3 hn
      dsimp only at e0 e1 e2 e3 hn
      have Hn := Lib.hid hn
      have hcl := find1_any b x p q c o wr ((Hb.out.cell (p := ⟨b, 0, none⟩) hb).trans Hc.out) (Nat.lt_of_lt_of_le hb Hb.out.size)
      have g0 : (k : Int) < (l.length : Int) := by omega
      have g1 : (0 : Int) ≤ (k : Int) := by omega
      clear hn hu
      go_wp2_with fail
      refine hcl.mono ?_
      rintro e w1 ⟨rfl, hb1⟩
      have HB1 := Lib.hid (below_step9 Hb.out hb1)
      clear hb1 hcl
      by_cases hx : p = x
      · have b1 : (p == x) = true := by simpa using hx
        have HF : Hid (findI l x = k) := by unfold Hid findI; rw [Hn.out.1 hx]
        clear hx
        go_wp2_with fail
        go_ret
        exact ⟨by rw [HF.out]; rfl, HB1.out⟩
      · have b1 : (p == x) = false := by simpa using hx
        have HN := Lib.hid (Hn.out.2 hx)
        go_wp2_with fail
        exact ⟨⟨k + 1, by omega, by go_num, HN.out, HB1.out⟩, by simp [intOf]; omega⟩
    · obtain rfl : k = l.length := by omega
      have HF : Hid (findI l x = -1) := by
        have h := Hall.out
        rw [List.take_length] at h
        unfold Hid findI
        rw [findU_none.2 h]
      go_wp2_with fail
      go_ret
      exact ⟨by rw [HF.out]; rfl, Hb.out⟩

set_option maxHeartbeats 1000000 in
theorem find_any (v : Value) (l : List Us) (x : Int) (w : World) (hv : UseV w v l) (hl : l.length ≤ 140737488355328) :
    Calls Try.prog 58 #[v, .int .i64 x] w fun e w' => e = .returned (.int .i64 (findI l x)) ∧ Below w.heap.size w w' := by
  have hmf : ∀ (fn : Fn) (first cap : Array Value) (w : World), (Instr.makeFunc fn first cap).run Try.prog w = .ok (.func fn first cap) w := fun _ _ _ _ => rfl
  have hi := idxf_any v l w.heap.size x (w.alloc (.cells #[.int .i64 x] 3)) (sl_below hv ((Below.refl _ _).alloc (Nat.le_refl _) _)) hl (by rw [World.cell?_alloc_new]; rfl) (by simp)
  clear hv
  go_enter Try.func58, Try.ntmps58
  go_wp2_with fail
  refine hi.mono ?_
  rintro e w1 ⟨rfl, hb1⟩
  go_wp2_with fail
  go_ret
  exact ⟨rfl, below_step9 ((Below.refl _ _).alloc (Nat.le_refl _) _) hb1⟩

theorem findI_some {l : List Us} {a : Int} {i : Nat} (h : findU l a = some i) : findI l a = i := by unfold findI; rw [h]
theorem findI_none {l : List Us} {a : Int} (h : findU l a = none) : findI l a = -1 := by unfold findI; rw [h]

set_option maxHeartbeats 1000000 in
theorem count_any (v : Value) (l : List Us) (x : Int) (w : World) (hv : UseV w v l) (hl : l.length ≤ 140737488355328) :
    Calls Try.prog 26 #[v, .int .i64 x] w fun e w' => e = .returned (.int .i64 (countU l x)) ∧ Below w.heap.size w w' := by
  have hf := find_any v l x w hv hl
  have HV := Lib.hid hv
  obtain ⟨aX, cX, rfl, hcX, hnX, hcellX⟩ := hv
  clear hcellX hnX
  cases hfu : findU l x with
  | none =>
    rw [findI_none hfu] at hf
    have HC := Lib.hid (countU_none hfu)
    clear hfu
    go_enter Try.func26, Try.ntmps26
    go_wp2_with fail
    refine hf.mono ?_
    rintro e w1 ⟨rfl, hb1⟩
    go_wp2_with fail
    go_ret
    exact ⟨by rw [HC.out]; rfl, hb1⟩
  | some i =>
    rw [findI_some hfu] at hf
    obtain ⟨hi, hc⟩ := countU_find hfu
    have HC := Lib.hid hc
    have d1 : decide ((i : Int) < 0) = false := by simp
    have g0 : (i : Int) < (l.length : Int) := by omega
    have g1 : (0 : Int) ≤ (i : Int) := by omega
    clear hfu hc
    go_enter Try.func26, Try.ntmps26
    go_wp2_with fail
    refine hf.mono ?_
    rintro e w1 ⟨rfl, hb1⟩
    obtain ⟨b0, off, hveq, hblt, cells⟩ := use_at (sl_below HV.out hb1) hi
    subst hveq
    obtain ⟨e0, e1, e2, e3⟩ := cells
    have Hb1 := Lib.hid hb1
    clear hb1 hf
    generalize l[i].2.2.1 = c at *
    go_wp2_with fail
    go_ret
    exact ⟨by rw [HC.out]; rfl, Hb1.out⟩

theorem countU_next {l : List Us} {a : Int} {k : Nat} (hk : k < l.length) (h : ∀ u ∈ l.take k, u.1 ≠ a) : l[k].1 = a → countU l a = l[k].2.2.1 := by
  intro e
  obtain ⟨_, h2⟩ := countU_find ((findU_next hk h).1 e)
  exact h2
set_option maxHeartbeats 1000000 in
theorem countR_any (v : Value) (l : List Us) (x : Int) (w : World) (hv : UseV w v l) (hl : l.length ≤ 140737488355328) :
    Calls Try.prog 27 #[v, .int .i64 x] w fun e w' => e = .returned (.int .i64 (countU l x)) ∧ w = w' := by
  have HV := Lib.hid hv
  obtain ⟨aX, cX, rfl, hcX, hnX, hcellX⟩ := hv
  clear hcellX hnX
  go_enter Try.func27, Try.ntmps27
  go_wp2_with fail
  go_loop [5] (fun i => ∃ k : Nat, k ≤ l.length ∧ i = .int .i64 k ∧ (∀ u ∈ l.take k, u.1 ≠ x)) (fun i => l.length - (intOf i).toNat)
  case atStart => exact ⟨0, Nat.zero_le _, rfl, by simp⟩
  case round =>
    obtain ⟨k, hk, rfl, hall⟩ := hrel
    have Hall := Lib.hid hall
    clear hall
    by_cases hlt : k < l.length
    · obtain ⟨b0, off, hveq, hblt, cells⟩ := use_at HV.out hlt
      subst hveq
      obtain ⟨e0, e1, e2, e3⟩ := cells
      have Hn := Lib.hid (findU_next hlt Hall.out).2
      have Hc := Lib.hid (countU_next hlt Hall.out)
      have g0 : (k : Int) < (l.length : Int) := by omega
      have g1 : (0 : Int) ≤ (k : Int) := by omega
      generalize l[k] = u at *
      obtain ⟨p, q, c, o⟩ := u
      dsimp only at e0 e1 e2 e3 Hn Hc
      by_cases hx : p = x
      · have b1 : (p == x) = true := by simpa using hx
        have HF := Lib.hid (Hc.out hx)
        clear hx
        go_wp2_with fail
        go_ret
        exact ⟨by rw [HF.out]; rfl, rfl⟩
      · have b1 : (p == x) = false := by simpa using hx
        have HN := Lib.hid (Hn.out hx)
        go_wp2_with fail
        exact ⟨⟨k + 1, by omega, by go_num, HN.out⟩, by simp [intOf]; omega⟩
    · obtain rfl : k = l.length := by omega
      have HF : Hid (countU l x = 0) := by
        have h := Hall.out
        rw [List.take_length] at h
        exact countU_zero h
      go_wp2_with fail
      go_ret
      exact ⟨by rw [HF.out]; rfl, rfl⟩
end Go.Proofs.Ytddbcpmhgjkjpaa
