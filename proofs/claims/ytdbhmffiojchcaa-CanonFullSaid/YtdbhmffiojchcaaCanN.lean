/- The walk of CanonRow. Conditions: numbers fit. -/
import Derived.Test.YtdbhmffiojchcaaCanM
namespace Go.Proofs.Ytdbhmffiojchcaa
open Go.RowKit

/-- The bits of symbols, one behind the other. -/
def catW (l : List Int) (s : List Int) : List Bool := s.flatMap (writeB l)
theorem catW_append (l a b : List Int) : catW l (a ++ b) = catW l a ++ catW l b := by simp [catW]
theorem catW_snoc (l a : List Int) (x : Int) : catW l (a ++ [x]) = catW l a ++ writeB l x := by rw [catW_append]; simp [catW]
theorem catW_le (l s : List Int) : (catW l s).length ≤ 15 * s.length := by
  induction s with
  | nil => simp [catW]
  | cons x s ih =>
    have := writeB_le l x
    have e : catW l (x :: s) = writeB l x ++ catW l s := by simp [catW]
    rw [e, List.length_append, List.length_cons]; omega
theorem catW_split (l s : List Int) {k : Nat} (hk : k < s.length) : catW l s = catW l (s.take k) ++ (writeB l s[k] ++ catW l (s.drop (k + 1))) := by
  rw [← List.append_assoc, ← catW_snoc, ← List.take_succ_eq_append_getElem hk, ← catW_append, List.take_append_drop]
theorem row_read {l s : List Int} {k : Nat} (hk : k < s.length) (h : writeOk l s[k] = true) :
    readV l (catW l s) (catW l (s.take k)).length = .tuple #[.int .i64 s[k], .int .i64 (catW l (s.take (k + 1))).length, .bool true] := by
  obtain ⟨hok, h0, h1, hne⟩ := writeOk_iff.1 h
  have hs : s[k].toNat < l.length := by omega
  rw [List.getElem?_eq_getElem hs, Option.getD_some] at hne
  have hw : writeB l s[k] = bitsC l s[k].toNat := by unfold writeB; rw [if_pos h]
  have hh := hit_written hok hs hne (catW l (s.take k)) (catW l (s.drop (k + 1)))
  rw [← hw, ← catW_split l s hk] at hh
  have hr := (lensOk_parts hok).2.1 _ (List.getElem_mem hs)
  have hlen : (l[s[k].toNat]?.getD 0) = (writeB l s[k]).length := by
    rw [hw, bitsC_length, List.getElem?_eq_getElem hs, Option.getD_some]; omega
  rw [readV_some (readO_hit hok hh), hlen, List.take_succ_eq_append_getElem hk, catW_snoc, List.length_append, show ((s[k].toNat : Nat) : Int) = s[k] by omega]
  congr

set_option maxRecDepth 100000 in
set_option maxHeartbeats 8000000 in
theorem row_walk (v u : Value) (l s : List Int) (w : World) (hv : SlOf w v 1 (fun x => [.int .i64 x]) l) (hu : SlOf w u 1 (fun x => [.int .i64 x]) s) (hl : l.length ≤ 140737488355328) (hls : s.length ≤ 140737488355328) :
    Calls Try.prog 10 #[v, u] w fun e w' => e = .returned (.bool true) ∧ Below w.heap.size w w' := by
  obtain ⟨i0, hi, hz0, hz1, hz2⟩ := info_parts info_bool
  have HV := Lib.hid hv
  have HU := Lib.hid hu
  obtain ⟨aX, cX, rfl, hcX, hnX, hcellX⟩ := hv
  obtain ⟨aU, cU, rfl, hcU, hnU, hcellU⟩ := hu
  clear hcellX hnX hcellU hnU
  go_enter Try.func10, Try.ntmps10
  go_wp2_with fail
  refine (fixed06_any _).mono ?_
  rintro e w1 ⟨rfl, hB1⟩
  by_cases h300 : 300 < l.length
  · go_wp2_with fail
    refine (fixed06_any _).mono ?_
    rintro e w2 ⟨rfl, hb2⟩
    go_wp2_with fail
    go_ret
    exact ⟨rfl, below_step hB1 hb2⟩
  by_cases h100 : 100 < s.length
  · go_wp2_with fail
    refine (fixed06_any _).mono ?_
    rintro e w2 ⟨rfl, hb2⟩
    go_wp2_with fail
    go_ret
    exact ⟨rfl, below_step hB1 hb2⟩
  have HE := Lib.hid (owns_empty w1 4 1)
  have HB1 := Lib.hid hB1
  clear hB1
  go_wp2_with fail
  go_loopw [5, 6] (fun out i wr => ∃ k : Nat, k ≤ s.length ∧ i = .int .i64 k ∧ wr.ownsRow w1.heap.size 4 1 out (catW l (s.take k)).length ((catW l (s.take k)).map .bool) ∧ Below w1.heap.size w1 wr ∧ ∀ j (hj : j < s.length), j < k → writeOk l s[j] = true) (fun _ i _ => s.length - (intOf i).toNat)
  case atStart => exact ⟨0, Nat.zero_le _, rfl, by simpa [catW] using HE.out, (Below.refl _ _).alloc (Nat.le_refl _) _, fun j _ h => by omega⟩
  case round =>
    obtain ⟨k, hk, rfl, hown, hb, hall⟩ := hrel
    obtain ⟨a0, c0, rfl, _⟩ := owns_shape hown
    have Hown := Lib.hid hown
    have Hb := Lib.hid hb
    have Hall := Lib.hid hall
    have HBr := Lib.hid (below_step HB1.out hb)
    clear hown hb hall HE
    by_cases hlt : k < s.length
    · rcases sl_one HU.out with ⟨rfl, _⟩ | ⟨_, bU, oU, cU', hveq, _, hbU, cellU⟩
      · simp at hlt
      injection hveq with q1 q2 q3
      subst q1 q3
      have e0 : wr.cell? ⟨bU, oU + k, none⟩ = some (.int .i64 s[k]) := by rw [HBr.out.cell (p := ⟨bU, oU + k, none⟩) hbU]; exact cellU k hlt
      have g0 : (k : Int) < (s.length : Int) := by omega
      have g1 : (0 : Int) ≤ (k : Int) := by omega
      have hcl := catW_le l (s.take k)
      have htl := List.length_take_le k s
      have hcb : (catW l (s.take k)).length ≤ 1500 := by omega
      have HT := Lib.hid (show catW l (s.take (k + 1)) = catW l (s.take k) ++ writeB l s[k] by rw [List.take_succ_eq_append_getElem hlt, catW_snoc])
      have Hnx : Hid (writeOk l s[k] = true → ∀ j (hj : j < s.length), j < k + 1 → writeOk l s[j] = true) := by
        unfold Hid
        intro h j hj hjk
        by_cases e : j = k
        · subst e; exact h
        · exact Hall.out j hj (by omega)
      clear cellU q2 hcl htl
      generalize s[k] = x at *
      go_wp2_with fail
      refine (write_any _ l x wr (sl_below HV.out HBr.out) hl).mono ?_
      rintro e w3 ⟨a3, cc3, b3, rfl, hl3, hs3, hb3⟩
      have HB3 := Lib.hid (below_step Hb.out hb3)
      have HBB3 := Lib.hid (below_step HBr.out hb3)
      have Hs3 := Lib.hid hs3
      have Hown3 := Lib.hid (owns_below Hown.out hb3)
      clear hs3 hb3 e0
      cases hok : writeOk l x with
      | false =>
        go_wp2_with fail
        go_ret
        exact ⟨rfl, HBB3.out⟩
      | true =>
        have h15 : b3.length ≤ 15 := by have := writeB_le l x; rw [← hl3.out] at this; exact this
        have HN := Lib.hid (Hnx.out hok)
        clear hok
        go_wp2_with (first
          | (at_builtin; refine wpList_append_sl rfl _ _ 35 rfl w1.heap.size 4 i0 (.bool false) 1 Try.underlying35 hi hz0 hz1 hz2 rfl (.slice a0 (catW l (s.take k)).length c0) _ _ rfl Hown3.out _ rfl Hs3.out (fun _ => rfl) (by simp [maxLen]; omega) (by omega) HB3.out.size ?_
             intro v4 w4 hown4 hg4 _
             have hb4 : Below w1.heap.size w1 w4 := HB3.out.grown hg4 HB3.out.size (fun k hk => owns_block Hown3.out k hk))
          | fail)
        exact ⟨⟨k + 1, by omega, by go_num, by rw [HT.out, List.length_append, List.map_append, ← hl3.out]; exact hown4, hb4, HN.out⟩, by simp [intOf]; omega⟩
    · obtain rfl : k = s.length := by omega
      have hown := Hown.out
      rw [List.take_length] at hown ⊢
      have HS := Lib.hid (sl_of_owns hown).1
      have hcl := catW_le l s
      have hcb : (catW l s).length ≤ 1500 := by omega
      have Hall' : Hid (∀ j (hj : j < s.length), writeOk l s[j] = true) := fun j hj => Hall.out j hj hj
      clear hown Hown hcl Hall
      go_wp2_with fail
      obtain ⟨wo, hwo⟩ : ∃ wo : World, wo = wr := ⟨_, rfl⟩
      subst hwo
      go_loopw [9, 10] (fun p i wr => ∃ k : Nat, k ≤ s.length ∧ i = .int .i64 k ∧ p = .int .i64 (catW l (s.take k)).length ∧ Below wo.heap.size wo wr) (fun _ i _ => s.length - (intOf i).toNat)
      case atStart => exact ⟨0, Nat.zero_le _, rfl, by simp [catW], Below.refl _ _⟩
      case round =>
        obtain ⟨k, hk, rfl, rfl, hb⟩ := hrel
        have HBw := Lib.hid (below_step HBr.out hb)
        have Hb2 := Lib.hid hb
        clear hb
        by_cases hlt : k < s.length
        · rcases sl_one HU.out with ⟨rfl, _⟩ | ⟨_, bU, oU, cU', hveq, _, hbU, cellU⟩
          · simp at hlt
          injection hveq with q1 q2 q3
          subst q1 q3
          have HcU := Lib.hid (cellU k hlt)
          have HbU := Lib.hid hbU
          have g0 : (k : Int) < (s.length : Int) := by omega
          have g1 : (0 : Int) ≤ (k : Int) := by omega
          have hr := read_any _ _ l (catW l s) (catW l (s.take k)).length wr (sl_below HV.out HBw.out) (sl_below HS.out Hb2.out) hl (by omega)
          rw [row_read hlt (Hall'.out k hlt)] at hr
          clear cellU q2 hbU
          generalize (catW l (s.take k)).length = n0 at *
          generalize hn1 : (catW l (s.take (k + 1))).length = n1 at *
          have Hn1 := Lib.hid hn1
          clear hn1
          generalize s[k] = x at *
          go_wp2_with fail
          refine hr.mono ?_
          rintro e w3 ⟨rfl, hb3⟩
          have HB3 := Lib.hid (below_step Hb2.out hb3)
          have e0 : w3.cell? ⟨bU, oU + k, none⟩ = some (.int .i64 x) := by rw [(below_step HBw.out hb3).cell (p := ⟨bU, oU + k, none⟩) HbU.out]; exact HcU.out
          have d1 : (x != x) = false := by simp
          clear hr hb3
          go_wp2_with fail
          exact ⟨⟨k + 1, by omega, by go_num, by rw [Hn1.out], HB3.out⟩, by simp [intOf]; omega⟩
        · obtain rfl : k = s.length := by omega
          rw [List.take_length]
          have d1 : (((catW l s).length : Int) == ((catW l s).length : Int)) = true := by simp
          go_wp2_with fail
          go_ret
          exact ⟨by simp, HBw.out⟩
end Go.Proofs.Ytdbhmffiojchcaa
