/- Contracts: two to a power, are two lists the same, a copy of a list of bits. Conditions: numbers fit. Contracts: a copy of a list of bits; Put. Conditions: numbers fit. Contracts of the document's Put and Take. Conditions: numbers fit. Contracts: Put where nothing can be put; Take. Conditions: numbers fit. Plain law of Pack: the bytes that bits are, bit by bit; and what comes back. No program in sight. Contracts: Pack and Unpack. Conditions: numbers fit. -/
import Derived.Test.YtolappilfjhfaaaChecked
import Derived.WalkKit
import Derived.WalkLawsBesides
import Derived.WalkSpells
import Derived.Outline
import Derived.OwnWalk
import Derived.IntWalk
import Derived.Lib.Hide
import Derived.Deep.QuietTactic
import Derived.BigQuiet
import Derived.Deep.RegionHeld3
import Derived.Deep.LoopGhost
import Derived.Deep.DeepFit
import Derived.LoopTactic
import Derived.Laws.BitsLemmas
import Derived.Laws.BytesArg
import Derived.Shelf.Bytes.SlSmallAll
import Derived.RegionTactic
import Derived.ChangeAlike
import Derived.BigRegion
import Derived.Test.YtolappilfjhfaaaWa
import Derived.Test.YtolappilfjhfaaaW0
import Derived.Test.YtolappilfjhfaaaWs
namespace Go.Proofs.Ytolappilfjhfaaa
open Go.RowKit

theorem ret_int {k : IntKind} {a b : Int} (h : a = b) : Ending.returned (.int k a) = .returned (.int k b) := by rw [h]

theorem ret_bool {a b : Bool} (h : a = b) : Ending.returned (.bool a) = .returned (.bool b) := by rw [h]

set_option maxRecDepth 100000 in
theorem power_any (n : Int) (w : World) (h : n ≤ 62) :
    Calls Try.prog 69 #[.int .i64 n] w fun e w' => e = .returned (.int .i64 (p2 n.toNat)) ∧ w = w' := by
  go_enter Try.func69, Try.ntmps69
  go_wp2
  go_loop [3, 4] (fun x i => ∃ k : Nat, k ≤ n.toNat ∧ i = .int .i64 k ∧ x = .int .i64 (p2 k)) (fun _ i => n.toNat - (intOf i).toNat)
  case atStart => exact ⟨0, Nat.zero_le _, rfl, rfl⟩
  case round =>
    obtain ⟨k, hk, rfl, rfl⟩ := hrel
    by_cases hlt : (k : Int) < n
    · have hb := p2_pos k
      have hb2 := p2_le (n := k + 1) (by omega)
      rw [p2_succ] at hb2
      have HS := Lib.hid (p2_succ k)
      go_wp2
      go_round
      case rel => exact ⟨k + 1, by omega, by go_num, by rw [HS.out]⟩
      case measure => simp [intOf]; omega
    · obtain rfl : k = n.toNat := by omega
      go_wp2
      go_ret
      exact ⟨rfl, rfl⟩

theorem beq_lists_ne {a b : List Bool} (h : a.length ≠ b.length) : (a == b) = false := by
  simp only [beq_eq_false_iff_ne, ne_eq]; intro e; exact h (by rw [e])

set_option maxRecDepth 100000 in
set_option maxHeartbeats 400000 in
theorem same_any (u v : Value) (a b : List Bool) (w : World) (ha : SlOf w u 1 (fun x => [.bool x]) a) (hb : SlOf w v 1 (fun x => [.bool x]) b) (hla : a.length ≤ 9223372036854775806) (hlb : b.length ≤ 9223372036854775806) :
    Calls Try.prog 20 #[u, v] w fun e w' => e = .returned (.bool (a == b)) ∧ ∃ n, w' = w.drewN n := by
  by_cases hl : a.length = b.length
  · rcases sl_one ha with ⟨rfl, a0, c0, rfl, hn0⟩ | ⟨hp0, b0, o0, c0, rfl, hc0, hb0, cell0⟩
    · obtain rfl : b = [] := List.length_eq_zero_iff.1 (by simpa using hl.symm)
      rcases sl_one hb with ⟨_, a1, c1, rfl, hn1⟩ | ⟨hp1, _⟩
      · go_enter Try.func20, Try.ntmps20
        go_wp2
        refine wp_loop_rounds 1 ?_
        rw [rounds_succ]
        go_wp2
        go_ret
        exact ⟨rfl, 0, rfl⟩
      · simp at hp1
    · rcases sl_one hb with ⟨rfl, _⟩ | ⟨hp1, b1, o1, c1, rfl, hc1, hb1, cell1⟩
      · exact absurd (show a.length = 0 from hl) (by omega)
      · have hne : ((a.length : Int) != (b.length : Int)) = false := by simp; omega
        have Hl := Lib.hid hl
        clear hl ha hb
        go_enter Try.func20, Try.ntmps20
        go_wp2
        clear hne
        go_loopw [5] (fun i wr => ∃ k : Nat, k ≤ a.length ∧ i = .int .i64 k ∧ a.take k = b.take k ∧ ∃ n, wr = w.drewN n) (fun i _ => a.length - (intOf i).toNat)
        case atStart => exact ⟨0, Nat.zero_le _, rfl, rfl, 0, rfl⟩
        case round =>
          obtain ⟨k, hk, rfl, hpre, n, rfl⟩ := hrel
          have Hpre := Lib.hid hpre
          clear hpre
          by_cases hlt : k < a.length
          · have hlb1 : k < b.length := by rw [← Hl.out]; exact hlt
            have e0 := cell0 k hlt
            have e1 := cell1 k hlb1
            have HA := Lib.hid (List.take_succ_eq_append_getElem hlt)
            have HB := Lib.hid (List.take_succ_eq_append_getElem hlb1)
            clear cell0 cell1
            have fin : a[k] ≠ b[k] → (a == b) = false := by
              intro h
              simp only [beq_eq_false_iff_ne, ne_eq]
              intro e
              apply h
              simp only [e]
            generalize a[k] = x at *
            generalize b[k] = y at *
            have g0 : (k : Int) < (a.length : Int) := by omega
            have g1 : (k : Int) < (b.length : Int) := by omega
            have g2 : (0 : Int) ≤ (k : Int) := by omega
            by_cases hxy : x = y
            · have hxy' : (x == y) = true := by simpa using hxy
              have Hxy := Lib.hid hxy
              clear hxy
              go_wp2
              go_quiet (fail)
              go_wp2
              exact ⟨⟨k + 1, by omega, by go_num, by rw [HA.out, HB.out, Hpre.out, Hxy.out], _, rfl⟩, by simp [intOf]; omega⟩
            · have hxy' : (x == y) = false := by simpa using hxy
              have fin' := Lib.hid (fin hxy)
              clear fin
              go_wp2
              go_quiet (fail)
              go_wp2
              go_ret
              exact ⟨ret_bool fin'.out.symm, _, World.drewN_drewN _ _ _⟩
          · obtain rfl : k = a.length := by omega
            have fin0 : (a == b) = true := by
              have := Hpre.out
              rw [List.take_of_length_le (Nat.le_refl _), List.take_of_length_le (by rw [Hl.out]; exact Nat.le_refl _)] at this
              exact beq_iff_eq.2 this
            have fin := Lib.hid fin0
            clear fin0
            go_wp2
            go_ret
            exact ⟨ret_bool fin.out.symm, _, rfl⟩
  · have fin := Lib.hid (beq_lists_ne hl)
    obtain ⟨a0, c0, rfl, _⟩ := ha
    obtain ⟨a1, c1, rfl, _⟩ := hb
    have hne : ((a.length : Int) != (b.length : Int)) = true := by simp; omega
    go_enter Try.func20, Try.ntmps20
    go_wp2
    go_ret
    exact ⟨ret_bool fin.out.symm, 0, rfl⟩
end Go.Proofs.Ytolappilfjhfaaa
namespace Go.Proofs.Ytolappilfjhfaaa
open Go.RowKit

theorem info_bool : (Try.prog.info? 4).map (fun i => (i.zero, i.size, i.bytes)) = some (some (.bool false), 1, 1) := by kernel_rfl

/-- An empty row of the call's own. -/
theorem owns_empty (w : World) (e size : Nat) : (w.alloc (.cells #[] e)).ownsRow w.heap.size e size (.slice (some ⟨w.heap.size, 0, none⟩) 0 0) 0 [] :=
  ⟨by simp, Or.inr ⟨w.heap.size, 0, #[], rfl, Nat.le_refl _, heap_alloc_new w _, Nat.le_refl _, by simp [maxLen], by simp, by simp⟩⟩

set_option maxRecDepth 100000 in
set_option maxHeartbeats 400000 in
theorem clone_any (v : Value) (bs : List Bool) (w : World) (hv : SlOf w v 1 (fun x => [.bool x]) bs) (hl : bs.length ≤ 140737488355328) :
    Calls Try.prog 74 #[v] w fun e w' => ∃ v', e = .returned v' ∧ w'.ownsRow w.heap.size 4 1 v' bs.length (bs.map .bool) ∧ Below w.heap.size w w' := by
  obtain ⟨i0, hi, hz0, hz1, hz2⟩ := info_parts info_bool
  rcases sl_one hv with ⟨rfl, a0, c0, rfl, hn0⟩ | ⟨hp0, b0, o0, c0, rfl, hc0, hb0, cell0⟩
  · cases a0 with
    | none =>
      obtain rfl := hn0 rfl
      have hq := fun wx : World => Lib.run_eql_slice_nil (P := Try.prog) wx 25 4 none 0 0 0 0 Try.underlying25
      go_enter Try.func74, Try.ntmps74
      go_wp2
      go_ret
      exact ⟨_, rfl, ⟨rfl, Or.inl ⟨rfl, rfl⟩⟩, Below.refl _ _⟩
    | some a =>
      have hq := fun wx : World => Lib.run_eql_slice_nil (P := Try.prog) wx 25 4 (some a) 0 c0 0 0 Try.underlying25
      go_enter Try.func74, Try.ntmps74
      go_wp2
      go_ret
      exact ⟨_, rfl, owns_empty _ _ _, (Below.refl _ _).alloc (Nat.le_refl _) _⟩
  · have hq := fun wx : World => Lib.run_eql_slice_nil (P := Try.prog) wx 25 4 (some ⟨b0, o0, none⟩) bs.length c0 0 0 Try.underlying25
    have hnews : ∀ (j : Nat) (u : Value), (bs.map Value.bool)[j]? = some u → (w.alloc (.cells #[] 4)).cell? ((⟨b0, o0, none⟩ : Addr).add j) = some u := by
      intro j u hj
      rw [add_none, World.cell?_alloc_lt _ _ _ hb0]
      rw [List.getElem?_map] at hj
      cases hjb : bs[j]? with
      | none => rw [hjb] at hj; cases hj
      | some x =>
        rw [hjb] at hj
        obtain ⟨hlt, rfl⟩ := List.getElem?_eq_some_iff.1 hjb
        rw [cell0 j hlt]
        exact hj
    have Hnews := Lib.hid hnews
    clear hnews cell0 hv
    go_enter Try.func74, Try.ntmps74
    go_wp2_with (at_builtin; refine wpList_append_own _ rfl _ _ 25 rfl w.heap.size 4 i0 (.bool false) 1 1 Try.underlying25 hi hz0 hz1 hz2 rfl (by decide) _ _ _ rfl (owns_empty w 4 1) ⟨b0, o0, none⟩ bs.length c0 (bs.map Value.bool) rfl ?hl Hnews.out ?h1 ?h63 ?hby ?hbase ?_)
    case hl => simp
    case h1 => exact fun u hu => by obtain ⟨b, _, rfl⟩ := List.mem_map.1 hu; rfl
    case h63 => simp [maxLen]; omega
    case hby => omega
    case hbase => simp
    intro v' w' hown hgrow _
    go_wp2
    go_ret
    exact ⟨v', rfl, hown, ((Below.refl _ _).alloc (Nat.le_refl _) _).grown hgrow (by simp) (fun k hk => by simp only [Value.ownBlock, Option.some.injEq] at hk; omega)⟩

/-- May a number be put? -/
def putOk (n width : Int) : Bool := decide (0 ≤ width ∧ width ≤ 30 ∧ 0 ≤ n ∧ n < p2 width.toNat)

theorem and1_i64 {x : Int} (h0 : 0 ≤ x) (h1 : x < 9223372036854775808) : bits .and .i64 x 1 = x % 2 :=
  bits_mask .i64 63 (by decide) (fun n a b => by rw [IntKind.wrap_i64]; omega) 1 (by decide) x h0 h1
theorem and1_bit (n : Int) (i : Nat) (h0 : 0 ≤ n) (h1 : n < 9223372036854775808) : (bits .and .i64 (n / 2 ^ i) 1 == 1) = bitAt n i := by
  have hp := p2_pos i
  have e : (2 : Int) ^ i = p2 i := (p2_pow i).symm
  have h2 : 0 ≤ n / p2 i := Int.ediv_nonneg h0 (by omega)
  have h3 : n / p2 i ≤ n := Int.ediv_le_self _ h0
  rw [e, and1_i64 h2 (by omega)]
  rfl

set_option maxRecDepth 100000 in
set_option maxHeartbeats 1000000 in
theorem put_any (v : Value) (bs : List Bool) (n width : Int) (w : World) (hv : SlOf w v 1 (fun x => [.bool x]) bs) (hl : bs.length ≤ 140737488355232) (hok : putOk n width = true) :
    Calls Try.prog 57 #[v, .int .i64 n, .int .i64 width] w fun e w' => ∃ v', e = .returned (.tuple #[v', .bool true]) ∧ w'.ownsRow w.heap.size 4 1 v' (bs ++ putL n width.toNat).length ((bs ++ putL n width.toNat).map .bool) ∧ Below w.heap.size w w' := by
  obtain ⟨i0, hi, hz0, hz1, hz2⟩ := info_parts info_bool
  have hok' : 0 ≤ width ∧ width ≤ 30 ∧ 0 ≤ n ∧ n < p2 width.toNat := by simpa [putOk] using hok
  obtain ⟨h1, h2, h3, h4⟩ := hok'
  clear hok
  obtain ⟨W, rfl⟩ := Int.eq_ofNat_of_zero_le h1
  rw [Int.toNat_natCast] at h4
  rw [Int.toNat_natCast]
  have hp := p2_le (n := W) (by omega)
  have hn63 : n < 9223372036854775808 := by omega
  have hw : wrap64 (2 ^ W) = p2 W := by rw [← p2_pow]; exact IntWalk.wrap64_in _ (by omega)
  go_enter Try.func57, Try.ntmps57
  go_wp2_with fail
  clear hw
  refine (clone_any v bs w hv (by omega)).mono ?_
  rintro e w1 ⟨v1, rfl, hown1, hb1⟩
  go_wp2_with fail
  go_loopw [8, 9] (fun out i wr => ∃ k : Nat, k ≤ W ∧ i = .int .i64 ((W : Int) - 1 - k) ∧ wr.ownsRow w.heap.size 4 1 out (bs.length + k) ((bs ++ (putL n W).take k).map .bool) ∧ Below w.heap.size w wr) (fun _ i _ => (intOf i + 1).toNat)
  case atStart => exact ⟨0, Nat.zero_le _, by simp, by simpa using hown1, hb1⟩
  case round =>
    obtain ⟨k, hk, rfl, hown, hb⟩ := hrel
    by_cases hlt : k < W
    · have hbit := and1_bit n (W - 1 - k) h3 hn63
      have he : (putL n W)[k]'(by rw [putL_length]; exact hlt) = bitAt n (W - 1 - k) := by simp [putL]
      have Hstep := Lib.hid (List.take_succ_eq_append_getElem (i := k) (l := putL n W) (by rw [putL_length]; exact hlt))
      have He := Lib.hid he
      clear he
      generalize bitAt n (W - 1 - k) = x at *
      go_wp2_with (at_builtin; refine wpList_append_own _ rfl _ _ 25 rfl w.heap.size 4 i0 (.bool false) 1 1 Try.underlying25 hi hz0 hz1 hz2 rfl (by decide) _ _ _ rfl (hown.alloc _) ⟨wr.heap.size, 0, none⟩ 1 1 [.bool x] rfl rfl ?c1 ?c2 ?c3 ?c4 ?c5 ?_)
      case c1 => exact cell_one_new _ _ _
      case c2 => simp [Value.oneCell']
      case c3 => simp [maxLen]; omega
      case c4 => omega
      case c5 => have := hb.size; simp; omega
      intro v2 w2 hown2 hgrow _
      have hb2 : Below w.heap.size w w2 := ((hb.alloc hb.size _).grown hgrow (by have := hb.size; simp; omega) (fun b hbk => owns_block hown b hbk))
      have Hown2 := Lib.hid hown2
      clear hown2 hbit
      go_wp2
      exact ⟨⟨k + 1, by omega, by rw [show ((W : Int) - 1 - ↑(k + 1)) = (W : Int) - 1 - k - 1 by omega], by
        have h := Hown2.out
        rw [Hstep.out, He.out]
        simpa [Nat.add_assoc] using h, hb2⟩, by simp [intOf]; omega⟩
    · obtain rfl : k = W := by omega
      have Hown := Lib.hid hown
      clear hown
      go_wp2
      go_ret2
      exact ⟨_, rfl, by
        have h := Hown.out
        rw [List.take_of_length_le (by rw [putL_length]; exact Nat.le_refl _)] at h
        rw [List.length_append, putL_length]
        exact h, hb⟩
end Go.Proofs.Ytolappilfjhfaaa
namespace Go.Proofs.Ytolappilfjhfaaa
open Go.RowKit

set_option maxRecDepth 100000 in
set_option maxHeartbeats 2000000 in
theorem putR_any (v : Value) (bs : List Bool) (n width : Int) (w : World) (hv : SlOf w v 1 (fun x => [.bool x]) bs) (hl : bs.length ≤ 140737488355232) (hok : putOk n width = true) :
    Calls Try.prog 62 #[v, .int .i64 n, .int .i64 width] w fun e w' => ∃ v', e = .returned (.tuple #[v', .bool true]) ∧ w'.ownsRow w.heap.size 4 1 v' (bs ++ putL n width.toNat).length ((bs ++ putL n width.toNat).map .bool) ∧ Below w.heap.size w w' := by
  obtain ⟨i0, hi, hz0, hz1, hz2⟩ := info_parts info_bool
  have hok' : 0 ≤ width ∧ width ≤ 30 ∧ 0 ≤ n ∧ n < p2 width.toNat := by simpa [putOk] using hok
  obtain ⟨h1, h2, h3, h4⟩ := hok'
  clear hok
  obtain ⟨W, rfl⟩ := Int.eq_ofNat_of_zero_le h1
  rw [Int.toNat_natCast] at h4
  rw [Int.toNat_natCast]
  have hp := p2_le (n := W) (by omega)
  have HV := Lib.hid hv
  clear hv
  go_enter Try.func62, Try.ntmps62
  go_wp2_with fail
  refine (power_any (W : Int) _ (by omega)).mono ?_
  rintro e w1 ⟨rfl, rfl⟩
  rw [Int.toNat_natCast]
  have h4' : ¬ p2 W ≤ n := by omega
  have HE := Lib.hid (owns_empty w 4 1)
  have HV2 := Lib.hid (sl_below HV.out ((Below.refl _ _).alloc (Nat.le_refl _) (.cells #[] 4)))
  go_wp2_with (first
    | (at_builtin; refine wpList_append_sl rfl _ _ 25 rfl w.heap.size 4 i0 (.bool false) 1 Try.underlying25 hi hz0 hz1 hz2 rfl _ _ _ rfl HE.out _ rfl HV2.out (fun _ => rfl) (by simp [maxLen]; omega) (by omega) (by simp) ?_; intro v1 w1 hown1 hg1 _)
    | fail)
  have hb1 : Below w.heap.size w w1 := ((Below.refl _ _).alloc (Nat.le_refl _) _).grown hg1 (by simp) (fun k hk => owns_block HE.out k hk)
  have Hown1 := Lib.hid hown1
  have Hb1 := Lib.hid hb1
  clear hown1 hb1 hg1 HE HV2 HV hp h4'
  go_loopw [8, 9] (fun out i wr => ∃ k : Nat, k ≤ W ∧ i = .int .i64 ((W : Int) - 1 - k) ∧ wr.ownsRow w.heap.size 4 1 out (bs.length + k) ((bs ++ (putL n W).take k).map .bool) ∧ Below w.heap.size w wr) (fun _ i _ => (intOf i + 1).toNat)
  case atStart => exact ⟨0, Nat.zero_le _, by simp, by simpa using Hown1.out, Hb1.out⟩
  case round =>
    obtain ⟨k, hk, rfl, hown, hb⟩ := hrel
    have Hown := Lib.hid hown
    have Hb := Lib.hid hb
    clear hown hb Hown1 Hb1
    by_cases hlt : k < W
    · have he : (putL n W)[k]'(by rw [putL_length]; exact hlt) = bitAt n (W - 1 - k) := by simp [putL]
      have Hstep := Lib.hid (List.take_succ_eq_append_getElem (i := k) (l := putL n W) (by rw [putL_length]; exact hlt))
      have He := Lib.hid he
      have g0 : 0 ≤ (W : Int) - 1 - k := by omega
      have hp1 := p2_pos (W - 1 - k)
      have hp2 := p2_le (n := W - 1 - k) (by omega)
      have hn63 : n < 4611686018427387904 := by have := p2_le (n := W) (by omega); omega
      have hx : wrap64 (n / p2 (W - 1 - k)) = n / p2 (W - 1 - k) := IntWalk.wrap64_in _ (by have := Int.ediv_le_self (p2 (W - 1 - k)) h3; have := Int.ediv_nonneg (b := p2 (W - 1 - k)) h3 (by omega); omega)
      have hq0 : 0 ≤ n / p2 (W - 1 - k) := Int.ediv_nonneg h3 (by omega)
      have HB : Hid (bitAt n (W - 1 - k) = (n / p2 (W - 1 - k) % 2 == 1)) := rfl
      clear he
      go_wp2_with fail
      refine (power_any ((W : Int) - 1 - k) _ (by omega)).mono ?_
      rintro e w1 ⟨rfl, rfl⟩
      rw [show ((W : Int) - 1 - k).toNat = W - 1 - k by omega]
      obtain ⟨a0, c0, rfl, _⟩ := owns_shape Hown.out
      go_wp2_with (at_builtin; refine wpList_append_own _ rfl _ _ 25 rfl w.heap.size 4 i0 (.bool false) 1 1 Try.underlying25 hi hz0 hz1 hz2 rfl (by decide) _ _ _ rfl (Hown.out.alloc _) ⟨wr.heap.size, 0, none⟩ 1 1 [.bool (n / p2 (W - 1 - k) % 2 == 1)] rfl rfl (cell_one_new _ _ _) (by simp [Value.oneCell']) (by simp [maxLen]; omega) (by omega) (by have := Hb.out.size; simp; omega) ?_; intro v2 w2 hown2 hgrow _)
      have hb2 : Below w.heap.size w w2 := ((Hb.out.alloc Hb.out.size _).grown hgrow (by have := Hb.out.size; simp; omega) (fun b hbk => owns_block Hown.out b hbk))
      rw [← HB.out] at hown2
      exact ⟨⟨k + 1, by omega, by rw [show ((W : Int) - 1 - ↑(k + 1)) = (W : Int) - 1 - k - 1 by omega], by
        rw [Hstep.out, He.out]
        simpa [Nat.add_assoc] using hown2, hb2⟩, by simp [intOf]; omega⟩
    · obtain rfl : k = W := by omega
      go_wp2_with fail
      go_ret2
      exact ⟨_, rfl, by
        have h := Hown.out
        rw [List.take_of_length_le (by rw [putL_length]; exact Nat.le_refl _)] at h
        rw [List.length_append, putL_length]
        exact h, Hb.out⟩

/-- May bits be taken? -/
def takeOkR (len : Nat) (at' width : Int) : Bool := decide (0 ≤ width ∧ width ≤ 30 ∧ 0 ≤ at' ∧ at' + width ≤ len)

set_option maxRecDepth 100000 in
set_option maxHeartbeats 2000000 in
theorem takeR_any (v : Value) (bs : List Bool) (p width : Int) (w : World) (hv : SlOf w v 1 (fun x => [.bool x]) bs) (hl : bs.length ≤ 140737488355328) (hok : takeOkR bs.length p width = true) :
    Calls Try.prog 45 #[v, .int .i64 p, .int .i64 width] w fun e w' => e = .returned (.tuple #[.int .i64 (takeN ((bs.drop p.toNat).take width.toNat)), .int .i64 (p + width), .bool true]) ∧ w = w' := by
  have hok' : 0 ≤ width ∧ width ≤ 30 ∧ 0 ≤ p ∧ p + width ≤ bs.length := by simpa [takeOkR] using hok
  obtain ⟨h1, h2, h3, h4⟩ := hok'
  clear hok
  obtain ⟨W, rfl⟩ := Int.eq_ofNat_of_zero_le h1
  obtain ⟨P, rfl⟩ := Int.eq_ofNat_of_zero_le h3
  rw [Int.toNat_natCast, Int.toNat_natCast]
  have hv0 := hv
  obtain ⟨aX, cX, rfl, hcX, hnX, hcellX⟩ := hv
  have HV := Lib.hid hv0
  clear hv0 hcellX hnX
  have hlen : ((bs.drop P).take W).length = W := by rw [List.length_take, List.length_drop]; omega
  have Hlen := Lib.hid hlen
  clear hlen
  have hp : (P : Int) ≤ (bs.length : Int) := by omega
  have x1 : IntKind.i64.wrap ((P : Int) + (W : Int)) = (P : Int) + (W : Int) := IntWalk.i64_in _ (by omega)
  go_enter Try.func45, Try.ntmps45
  go_wp2_with fail
  go_loop [9, 10] (fun n i => ∃ k : Nat, k ≤ W ∧ i = .int .i64 ((P : Int) + k) ∧ n = .int .i64 (takeN (((bs.drop P).take W).take k))) (fun _ i => P + W - (intOf i).toNat)
  case atStart => exact ⟨0, Nat.zero_le _, by simp, by simp [takeN]⟩
  case round =>
    obtain ⟨k, hk, rfl, rfl⟩ := hrel
    by_cases hlt : k < W
    · rcases sl_one HV.out with ⟨rfl, _⟩ | ⟨hp0, b0, o0, c0, hveq, hc0, hb0, cell0⟩
      · exfalso; simp at h4; omega
      · injection hveq with q1 q2 q3
        subst q1 q3
        have hkl : k < ((bs.drop P).take W).length := by rw [Hlen.out]; exact hlt
        have e0 : w.cell? ⟨b0, o0 + (P + k), none⟩ = some (.bool ((bs.drop P).take W)[k]) := by
          rw [cell0 (P + k) (by omega)]
          simp [List.getElem_take, List.getElem_drop]
        have HA := Lib.hid (List.take_succ_eq_append_getElem hkl)
        have hbd := takeN_bd (((bs.drop P).take W).take k)
        have hp2 := p2_le (n := (((bs.drop P).take W).take k).length) (by have := List.length_take_le k ((bs.drop P).take W); omega)
        have hp3 := p2_mono (m := (((bs.drop P).take W).take k).length) (n := 30) (by have := List.length_take_le k ((bs.drop P).take W); omega)
        have hp4 : p2 30 = 1073741824 := by decide
        have hbd2 : takeN (((bs.drop P).take W).take k) < 1073741824 := by omega
        have hbd1 := hbd.1
        have g0 : (P : Int) + (k : Int) < (P : Int) + (W : Int) := by omega
        have g1 : (P : Int) + (k : Int) < (bs.length : Int) := by omega
        have g2 : (0 : Int) ≤ (P : Int) + (k : Int) := by omega
        have g3 : ((P : Int) + (k : Int)).toNat = P + k := by omega
        have HT := Lib.hid (takeN_snoc (((bs.drop P).take W).take k) ((bs.drop P).take W)[k])
        clear hp2 hp3 hp4 hbd cell0 q2
        generalize ((bs.drop P).take W)[k] = x at *
        generalize hs : takeN (((bs.drop P).take W).take k) = s at *
        clear hs hkl
        cases x
        · go_wp2_with fail
          exact ⟨⟨k + 1, by omega, by go_num, by rw [HA.out, HT.out]; simp; omega⟩, by simp [intOf]; omega⟩
        · go_wp2_with fail
          exact ⟨⟨k + 1, by omega, by go_num, by rw [HA.out, HT.out]; simp; omega⟩, by simp [intOf]; omega⟩
    · obtain rfl : k = W := by omega
      have e0 := Lib.hid (List.take_of_length_le (Nat.le_of_eq Hlen.out))
      go_wp2_with fail
      go_ret3
      exact ⟨by simp [e0.out], rfl⟩

set_option maxRecDepth 100000 in
set_option maxHeartbeats 1000000 in
theorem takeR_no (v : Value) (bs : List Bool) (p width : Int) (w : World) (hv : SlOf w v 1 (fun x => [.bool x]) bs) (hl : bs.length ≤ 140737488355328) (hpb : p ≤ 9223372036854775807) (hok : takeOkR bs.length p width = false) :
    Calls Try.prog 45 #[v, .int .i64 p, .int .i64 width] w fun e w' => e = .returned (.tuple #[.int .i64 0, .int .i64 0, .bool false]) ∧ w = w' := by
  have hok' : ¬ (0 ≤ width ∧ width ≤ 30 ∧ 0 ≤ p ∧ p + width ≤ bs.length) := by simpa [takeOkR] using hok
  clear hok
  obtain ⟨a0, c0, rfl, hc0, hn0, _⟩ := hv
  by_cases h1 : width < 0
  · go_enter Try.func45, Try.ntmps45
    go_wp2
    go_ret3
    exact ⟨rfl, rfl⟩
  by_cases h2 : 30 < width
  · go_enter Try.func45, Try.ntmps45
    go_wp2
    go_ret3
    exact ⟨rfl, rfl⟩
  by_cases h3 : p < 0
  · go_enter Try.func45, Try.ntmps45
    go_wp2
    go_ret3
    exact ⟨rfl, rfl⟩
  by_cases h4 : (bs.length : Int) < p
  · go_enter Try.func45, Try.ntmps45
    go_wp2
    go_ret3
    exact ⟨rfl, rfl⟩
  have h5 : (bs.length : Int) < p + width := by omega
  clear hok'
  go_enter Try.func45, Try.ntmps45
  go_wp2
  go_ret3
  exact ⟨rfl, rfl⟩
end Go.Proofs.Ytolappilfjhfaaa
namespace Go.Proofs.Ytolappilfjhfaaa
open Go.RowKit

set_option maxRecDepth 100000 in
set_option maxHeartbeats 1000000 in
theorem put_no (v : Value) (n width : Int) (w : World) (hok : putOk n width = false) :
    Calls Try.prog 57 #[v, .int .i64 n, .int .i64 width] w fun e w' => e = .returned (.tuple #[.slice none 0 0, .bool false]) ∧ w = w' := by
  have hok' : ¬ (0 ≤ width ∧ width ≤ 30 ∧ 0 ≤ n ∧ n < p2 width.toNat) := by simpa [putOk] using hok
  clear hok
  by_cases h1 : width < 0
  · go_enter Try.func57, Try.ntmps57
    go_wp2
    go_ret2
    exact ⟨rfl, rfl⟩
  by_cases h2 : 30 < width
  · go_enter Try.func57, Try.ntmps57
    go_wp2
    go_ret2
    exact ⟨rfl, rfl⟩
  by_cases h3 : n < 0
  · go_enter Try.func57, Try.ntmps57
    go_wp2
    go_ret2
    exact ⟨rfl, rfl⟩
  obtain ⟨W, rfl⟩ := Int.eq_ofNat_of_zero_le (a := width) (by omega)
  rw [Int.toNat_natCast] at hok'
  have hp := p2_le (n := W) (by omega)
  have h4 : p2 W ≤ n := by omega
  have hw : wrap64 (2 ^ W) = p2 W := by rw [← p2_pow]; exact IntWalk.wrap64_in _ (by have := p2_pos W; omega)
  clear hok'
  go_enter Try.func57, Try.ntmps57
  go_wp2
  go_ret2
  exact ⟨rfl, rfl⟩

/-- May bits be taken? -/
def takeOk (len : Nat) (at' width : Int) : Bool := decide (0 ≤ width ∧ width ≤ 30 ∧ 0 ≤ at' ∧ at' + width ≤ len)

set_option maxRecDepth 100000 in
set_option maxHeartbeats 1000000 in
theorem take_any (v : Value) (bs : List Bool) (p width : Int) (w : World) (hv : SlOf w v 1 (fun x => [.bool x]) bs) (hl : bs.length ≤ 140737488355328) (hok : takeOk bs.length p width = true) :
    Calls Try.prog 79 #[v, .int .i64 p, .int .i64 width] w fun e w' => e = .returned (.tuple #[.int .i64 (takeN ((bs.drop p.toNat).take width.toNat)), .int .i64 (p + width), .bool true]) ∧ w = w' := by
  have hok' : 0 ≤ width ∧ width ≤ 30 ∧ 0 ≤ p ∧ p + width ≤ bs.length := by simpa [takeOk] using hok
  obtain ⟨h1, h2, h3, h4⟩ := hok'
  clear hok
  obtain ⟨W, rfl⟩ := Int.eq_ofNat_of_zero_le h1
  obtain ⟨P, rfl⟩ := Int.eq_ofNat_of_zero_le h3
  rw [Int.toNat_natCast, Int.toNat_natCast]
  by_cases hW : W = 0
  · subst hW
    obtain ⟨a0, c0, rfl, hc0, hn0, _⟩ := hv
    go_enter Try.func79, Try.ntmps79
    go_wp2
    all_goals
      refine wp_loop_rounds 1 ?_
      rw [rounds_succ]
      go_wp2
      go_ret3
      exact ⟨by simp [takeN], rfl⟩
  · rcases sl_one hv with ⟨rfl, _⟩ | ⟨hp0, b0, o0, c0, rfl, hc0, hb0, cell0⟩
    · exfalso; simp at h4; omega
    · have q1 : (P : Int) + W ≤ c0 := by omega
      have hlen : ((bs.drop P).take W).length = W := by rw [List.length_take, List.length_drop]; omega
      have cell : ∀ k (hk : k < ((bs.drop P).take W).length), w.cell? ⟨b0, o0 + P + k, none⟩ = some (.bool ((bs.drop P).take W)[k]) := fun k hk => by
        have := cell0 (P + k) (by rw [hlen] at hk; omega)
        rw [← Nat.add_assoc] at this
        rw [this]
        simp [List.getElem_take, List.getElem_drop]
      have Hlen := Lib.hid hlen
      generalize (bs.drop P).take W = l at *
      clear hlen cell0 hv
      go_enter Try.func79, Try.ntmps79
      go_wp2
      go_loop [9, 43] (fun n i => ∃ k : Nat, k ≤ W ∧ i = .int .i64 k ∧ n = .int .i64 (takeN (l.take k))) (fun _ i => W - (intOf i).toNat)
      case atStart => exact ⟨0, Nat.zero_le _, rfl, by simp [takeN]⟩
      case round =>
        obtain ⟨k, hk, rfl, rfl⟩ := hrel
        by_cases hlt : k < W
        · have hkl : k < l.length := by rw [Hlen.out]; exact hlt
          have e0 := cell k hkl
          have HA := Lib.hid (List.take_succ_eq_append_getElem hkl)
          have hbd := takeN_bd (l.take k)
          have hp2 := p2_le (n := (l.take k).length) (by have := List.length_take_le k l; omega)
          have hp3 := p2_mono (m := (l.take k).length) (n := 30) (by have := List.length_take_le k l; omega)
          have hp4 : p2 30 = 1073741824 := by decide
          have hbd2 : takeN (l.take k) < 1073741824 := by omega
          have hbd1 := hbd.1
          have g0 : (k : Int) < (W : Int) := by omega
          have g2 : (0 : Int) ≤ (k : Int) := by omega
          have HT := Lib.hid (takeN_snoc (l.take k) l[k])
          clear hp2 hp3 hp4 hbd cell
          generalize l[k] = x at *
          cases x
          · go_wp2
            exact ⟨⟨k + 1, by omega, by go_num, by rw [HA.out, HT.out]; simp⟩, by simp [intOf]; omega⟩
          · go_wp2
            exact ⟨⟨k + 1, by omega, by go_num, by rw [HA.out, HT.out]; simp⟩, by simp [intOf]; omega⟩
        · obtain rfl : k = W := by omega
          have e0 := Lib.hid (List.take_of_length_le (Nat.le_of_eq Hlen.out))
          go_wp2
          go_ret3
          exact ⟨by simp [e0.out], rfl⟩

set_option maxRecDepth 100000 in
set_option maxHeartbeats 1000000 in
theorem take_no (v : Value) (bs : List Bool) (p width : Int) (w : World) (hv : SlOf w v 1 (fun x => [.bool x]) bs) (hl : bs.length ≤ 140737488355328) (hpb : p ≤ 9223372036854775807) (hok : takeOk bs.length p width = false) :
    Calls Try.prog 79 #[v, .int .i64 p, .int .i64 width] w fun e w' => e = .returned (.tuple #[.int .i64 0, .int .i64 0, .bool false]) ∧ w = w' := by
  have hok' : ¬ (0 ≤ width ∧ width ≤ 30 ∧ 0 ≤ p ∧ p + width ≤ bs.length) := by simpa [takeOk] using hok
  clear hok
  obtain ⟨a0, c0, rfl, hc0, hn0, _⟩ := hv
  by_cases h1 : width < 0
  · go_enter Try.func79, Try.ntmps79
    go_wp2
    go_ret3
    exact ⟨rfl, rfl⟩
  by_cases h2 : 30 < width
  · go_enter Try.func79, Try.ntmps79
    go_wp2
    go_ret3
    exact ⟨rfl, rfl⟩
  by_cases h3 : p < 0
  · go_enter Try.func79, Try.ntmps79
    go_wp2
    go_ret3
    exact ⟨rfl, rfl⟩
  by_cases h4 : (bs.length : Int) < p
  · go_enter Try.func79, Try.ntmps79
    go_wp2
    go_ret3
    exact ⟨rfl, rfl⟩
  have h5 : (bs.length : Int) - p < width := by omega
  clear hok'
  go_enter Try.func79, Try.ntmps79
  go_wp2
  go_ret3
  exact ⟨rfl, rfl⟩
end Go.Proofs.Ytolappilfjhfaaa
namespace Go.Proofs.Ytolappilfjhfaaa

/-- The byte j of bits, those that are not there are 0. -/
def byteVal (l : List Bool) (j : Nat) : Int := takeN ((List.range 8).map fun m => l.getD (8 * j + m) false)
/-- As many bytes as there must be. -/
def packN (n : Nat) : Nat := (n + 7) / 8
def packTo (n : Nat) (l : List Bool) : List Int := (List.range (packN n)).map (byteVal l)
def packL (l : List Bool) : List Int := packTo l.length l

theorem byteVal_nil (j : Nat) : byteVal [] j = 0 := by simp [byteVal, takeN, List.range, List.range.loop]
theorem byteVal_bd (l : List Bool) (j : Nat) : 0 ≤ byteVal l j ∧ byteVal l j < 256 := by
  have h := takeN_bd ((List.range 8).map fun m => l.getD (8 * j + m) false)
  rw [List.length_map, List.length_range] at h
  have e : p2 8 = 256 := by decide
  rw [e] at h
  exact h
theorem byteVal_congr {l m : List Bool} {j : Nat} (h : ∀ i, i < 8 → l.getD (8 * j + i) false = m.getD (8 * j + i) false) : byteVal l j = byteVal m j := by
  unfold byteVal
  congr 1
  exact List.map_congr_left fun i hi => h i (List.mem_range.1 hi)
theorem getD_snoc (l : List Bool) (x : Bool) (i : Nat) : (l ++ [x]).getD i false = if i = l.length then x else l.getD i false := by
  simp only [List.getD_eq_getElem?_getD]
  by_cases h : i < l.length
  · rw [List.getElem?_append_left h, if_neg (by omega)]
  · by_cases e : i = l.length
    · subst e; simp
    · rw [if_neg e, List.getElem?_eq_none (by simp; omega), List.getElem?_eq_none (by omega)]
theorem byteVal_snoc_false (l : List Bool) (j : Nat) : byteVal (l ++ [false]) j = byteVal l j := by
  refine byteVal_congr fun i _ => ?_
  rw [getD_snoc]
  split
  · rename_i h; rw [h, List.getD_eq_getElem?_getD, List.getElem?_eq_none (Nat.le_refl _)]; rfl
  · rfl
theorem byteVal_snoc_other (l : List Bool) (x : Bool) {j : Nat} (h : j ≠ l.length / 8) : byteVal (l ++ [x]) j = byteVal l j := by
  refine byteVal_congr fun i hi => ?_
  rw [getD_snoc, if_neg (by omega)]
theorem takeN_false (n : Nat) : takeN (List.replicate n false) = 0 := by
  induction n with
  | zero => rfl
  | succ n ih => rw [List.replicate_succ, takeN_cons, ih]; simp
theorem split8 (l : List Bool) {m : Nat} (hm : m < 8) (h : l.length % 8 = m) (x : Bool) :
    ((List.range 8).map fun i => (l ++ [x]).getD (8 * (l.length / 8) + i) false) = ((List.range m).map fun i => l.getD (8 * (l.length / 8) + i) false) ++ x :: List.replicate (7 - m) false := by
  apply List.ext_getElem
  · simp; omega
  · intro i h1 h2
    simp only [List.length_map, List.length_range] at h1
    rw [List.getElem_map, List.getElem_range, getD_snoc]
    by_cases hi : i < m
    · rw [List.getElem_append_left (by simpa using hi), if_neg (by omega)]
      simp
    · rw [List.getElem_append_right (by simpa using hi)]
      by_cases e : i = m
      · subst e; simp; omega
      · rw [if_neg (by omega)]
        have : ∃ d, i - m = d + 1 := ⟨i - m - 1, by omega⟩
        obtain ⟨d, hd⟩ := this
        simp only [List.length_map, List.length_range, hd, List.getElem_cons_succ, List.getElem_replicate]
        rw [List.getD_eq_getElem?_getD, List.getElem?_eq_none (by omega)]
        rfl
theorem byteVal_split (l : List Bool) (x : Bool) : byteVal (l ++ [x]) (l.length / 8) = takeN ((List.range (l.length % 8)).map fun i => l.getD (8 * (l.length / 8) + i) false) * p2 (8 - l.length % 8) + (if x then 1 else 0) * p2 (7 - l.length % 8) := by
  have hm : l.length % 8 < 8 := Nat.mod_lt _ (by decide)
  rw [byteVal, split8 l hm rfl, takeN_append, takeN_cons, takeN_false, List.length_cons, List.length_replicate]
  rw [show 7 - l.length % 8 + 1 = 8 - l.length % 8 by omega]
  simp
theorem or_byte (l : List Bool) : bits .or .u8 (byteVal l (l.length / 8)) (2 ^ (7 - l.length % 8) % 256) = byteVal (l ++ [true]) (l.length / 8) := by
  have hm : l.length % 8 < 8 := Nat.mod_lt _ (by decide)
  rw [← byteVal_snoc_false, byteVal_split, byteVal_split]
  generalize hP : takeN ((List.range (l.length % 8)).map fun i => l.getD (8 * (l.length / 8) + i) false) = P
  have hb := takeN_bd ((List.range (l.length % 8)).map fun i => l.getD (8 * (l.length / 8) + i) false)
  rw [hP, List.length_map, List.length_range] at hb
  have h8 : p2 (l.length % 8) * p2 (8 - l.length % 8) = 256 := by
    rw [← p2_add, show l.length % 8 + (8 - l.length % 8) = 8 by omega]; decide
  have e7 : (2 : Int) ^ (7 - l.length % 8) % 256 = p2 (7 - l.length % 8) := by
    rw [← p2_pow]
    have := p2_pos (7 - l.length % 8)
    have := p2_mono (m := 7 - l.length % 8) (n := 7) (by omega)
    have : p2 7 = 128 := by decide
    exact Int.emod_eq_of_lt (by omega) (by omega)
  have hs : p2 (8 - l.length % 8) = 2 * p2 (7 - l.length % 8) := by rw [← p2_succ]; congr 1; omega
  have hp := p2_pos (7 - l.length % 8)
  have hp8 := p2_pos (8 - l.length % 8)
  have hx : P * p2 (8 - l.length % 8) < 256 := by
    have : P * p2 (8 - l.length % 8) < p2 (l.length % 8) * p2 (8 - l.length % 8) := Int.mul_lt_mul_of_pos_right hb.2 (by omega)
    omega
  have hx0 : 0 ≤ P * p2 (8 - l.length % 8) := Int.mul_nonneg hb.1 (by omega)
  have hj := bits_join .u8 8 (by decide) (fun n a b => wraps_u8 n a b) (8 - l.length % 8) (P * p2 (8 - l.length % 8)) (p2 (7 - l.length % 8)) hx0 (by rw [← p2_pow]; exact Int.mul_emod_left _ _) hx (by omega) (by rw [← p2_pow]; omega)
    (by have := p2_mono (m := 7 - l.length % 8) (n := 7) (by omega); have : p2 7 = 128 := by decide
        omega)
  rw [e7]
  simpa using hj

/-- One bit more. -/
theorem packTo_true (n : Nat) (l : List Bool) : (packTo n l).set (l.length / 8) (bits .or .u8 (byteVal l (l.length / 8)) (2 ^ (7 - l.length % 8) % 256)) = packTo n (l ++ [true]) := by
  rw [or_byte]
  apply List.ext_getElem
  · simp [packTo]
  · intro i h1 h2
    simp only [packTo, List.getElem_set, List.getElem_map, List.getElem_range]
    split
    · rename_i h; rw [h]
    · rename_i h; exact (byteVal_snoc_other l true (by omega)).symm
theorem packTo_false (n : Nat) (l : List Bool) : packTo n l = packTo n (l ++ [false]) := by
  unfold packTo
  exact List.map_congr_left fun j _ => (byteVal_snoc_false l j).symm
theorem packL_length (l : List Bool) : (packL l).length = packN l.length := by simp [packL, packTo]

/-- The bits of all bytes. -/
def unpackL (s : List Int) : List Bool := s.flatMap fun c => putL c 8
theorem unpackL_length (s : List Int) : (unpackL s).length = 8 * s.length := by
  induction s with
  | nil => rfl
  | cons c s ih => rw [unpackL, List.flatMap_cons, List.length_append, putL_length, ← unpackL, ih, List.length_cons]; omega
theorem put_byteVal (l : List Bool) (j : Nat) : putL (byteVal l j) 8 = (List.range 8).map fun m => l.getD (8 * j + m) false := by
  have := put_takeN ((List.range 8).map fun m => l.getD (8 * j + m) false)
  rwa [List.length_map, List.length_range] at this
theorem unpackL_get (s : List Int) (j m : Nat) (hj : j < s.length) (hm : m < 8) : (unpackL s)[8 * j + m]? = (putL s[j] 8)[m]? := by
  induction s generalizing j with
  | nil => simp at hj
  | cons c s ih =>
    rw [unpackL, List.flatMap_cons, ← unpackL]
    cases j with
    | zero => rw [List.getElem?_append_left (by rw [putL_length]; omega)]; simp
    | succ j =>
      rw [List.getElem?_append_right (by rw [putL_length]; omega), putL_length, show 8 * (j + 1) + m - 8 = 8 * j + m by omega, ih j (by simpa using hj)]
      simp
/-- Bits are unpacked as they were packed, but for bits 0 behind them. -/
theorem unpack_pack (l : List Bool) : unpackL (packL l) = l ++ List.replicate (8 * packN l.length - l.length) false := by
  have hN : l.length ≤ 8 * packN l.length := by unfold packN; omega
  apply List.ext_getElem?
  intro i
  by_cases hi : i < 8 * packN l.length
  · have hj : i / 8 < (packL l).length := by rw [packL_length]; omega
    have h := unpackL_get (packL l) (i / 8) (i % 8) hj (Nat.mod_lt _ (by decide))
    rw [show 8 * (i / 8) + i % 8 = i by omega] at h
    rw [h]
    have e : (packL l)[i / 8] = byteVal l (i / 8) := by simp [packL, packTo]
    rw [e, put_byteVal, List.getElem?_map, List.getElem?_range (Nat.mod_lt _ (by decide))]
    simp only [Option.map_some]
    rw [show 8 * (i / 8) + i % 8 = i by omega, List.getD_eq_getElem?_getD]
    by_cases hl : i < l.length
    · rw [List.getElem?_append_left hl, List.getElem?_eq_getElem hl]; rfl
    · rw [List.getElem?_append_right (by omega), List.getElem?_eq_none (by omega), List.getElem?_replicate, if_pos (by omega)]; rfl
  · rw [List.getElem?_eq_none (by rw [unpackL_length, packL_length]; omega), List.getElem?_eq_none (by simp; omega)]
/-- Bytes are packed as they were unpacked. -/
theorem pack_unpack (s : List Int) (hs : ∀ c ∈ s, 0 ≤ c ∧ c < 256) : packL (unpackL s) = s := by
  have hn : packN (unpackL s).length = s.length := by rw [unpackL_length]; unfold packN; omega
  apply List.ext_getElem
  · rw [packL_length, hn]
  · intro j h1 h2
    have e : (packL (unpackL s))[j] = byteVal (unpackL s) j := by simp [packL, packTo]
    have hc := hs s[j] (List.getElem_mem h2)
    have e8 : p2 8 = 256 := by decide
    rw [e, ← takeN_put (n := s[j]) (w := 8) hc.1 (by omega), byteVal]
    congr 1
    apply List.ext_getElem
    · simp [putL]
    · intro m g1 g2
      have hm : m < 8 := by simpa using g1
      rw [List.getElem_map, List.getElem_range, List.getD_eq_getElem?_getD, unpackL_get s j m h2 hm, List.getElem?_eq_getElem g2]
      rfl
end Go.Proofs.Ytolappilfjhfaaa
namespace Go.Proofs.Ytolappilfjhfaaa
open Go.RowKit

theorem info_u8 : (Try.prog.info? 5).map (fun i => (i.zero, i.size, i.bytes)) = some (some (.int .u8 0), 1, 1) := by kernel_rfl

theorem pack_start (n : Nat) : (madeCells #[Value.int .u8 0] (packN n)).toList = (packTo n []).map (.int .u8) := by
  apply List.ext_getElem
  · simp [madeCells, packTo]
  · intro i h1 h2
    simp [madeCells, packTo, byteVal_nil, Nat.mod_one]

theorem owns_drew {w : World} {base e size n : Nat} {v : Value} {cs : List Value} (h : w.ownsRow base e size v n cs) : w.drew.ownsRow base e size v n cs := h

set_option maxRecDepth 100000 in
set_option maxHeartbeats 1000000 in
theorem pack_any (v : Value) (bs : List Bool) (w : World) (hv : SlOf w v 1 (fun x => [.bool x]) bs) (hl : bs.length ≤ 140737488355328) :
    Calls Try.prog 47 #[v] w fun e w' => e = .returned (.string (strOfNums (packL bs))) ∧ Below w.heap.size w w' := by
  obtain ⟨i0, hi, hz0, hz1, hz2⟩ := info_parts info_u8
  rcases sl_one hv with ⟨rfl, a0, c0, rfl, hn0⟩ | ⟨hp0, b0, o0, c0, rfl, hc0, hb0, cell0⟩
  · have hcv := fun wx : World => run_convert_bytes_zero (P := Try.prog) wx 69 5 Try.underlying69 Try.underlying5 (some ⟨w.heap.size, 0, none⟩) 0 9 Try.underlying9
    go_enter Try.func47, Try.ntmps47
    go_wp2_with (refine wpList_make_full _ rfl _ _ 69 rfl w.heap.size 5 i0 (.int .u8 0) 1 Try.underlying69 hi hz0 hz1 .i64 .i64 _ _ 0 rfl rfl ?hL ?hC ?b2 ?b3 ?b4 ?_)
    case hL => rfl
    case hC => rfl
    case b2 => omega
    case b3 => simp [maxLen]
    case b4 => exact Nat.le_refl _
    intro w1 _ hg1
    have hb1 : Below w.heap.size w w1 := (Below.refl _ _).grown hg1 (Nat.le_refl _) (fun k h => by cases h)
    clear hg1
    go_wp2
    refine wp_loop_rounds 1 ?_
    rw [rounds_succ]
    go_wp2
    go_ret
    exact ⟨rfl, hb1⟩
  · have hN : ((bs.length : Int) + 7) / 8 = (packN bs.length : Nat) := by unfold packN; omega
    have hN1 : packN bs.length ≤ bs.length := by unfold packN; omega
    go_enter Try.func47, Try.ntmps47
    go_wp2_with (refine wpList_make_full _ rfl _ _ 69 rfl w.heap.size 5 i0 (.int .u8 0) 1 Try.underlying69 hi hz0 hz1 .i64 .i64 _ _ (packN bs.length) rfl rfl ?hL ?hC ?b2 ?b3 ?b4 ?_)
    case hL => rw [← hN]; omega
    case hC => rw [← hN]; omega
    case b2 => rw [hz2]; omega
    case b3 => simp [maxLen]; omega
    case b4 => exact Nat.le_refl _
    intro w1 hown1 hg1
    have hb1 : Below w.heap.size w w1 := (Below.refl _ _).grown hg1 (Nat.le_refl _) (fun k h => by cases h)
    rw [pack_start bs.length] at hown1
    clear hN hN1
    go_wp2
    go_loopw [14] (fun i wr => ∃ k : Nat, k ≤ bs.length ∧ i = .int .i64 k ∧ wr.ownsRow w.heap.size 5 1 (.slice (some ⟨w.heap.size, 0, none⟩) (packN bs.length) (packN bs.length)) (packN bs.length) ((packTo bs.length (bs.take k)).map (.int .u8)) ∧ Below w.heap.size w wr) (fun i _ => bs.length - (intOf i).toNat)
    case atStart => exact ⟨0, Nat.zero_le _, rfl, by simpa using hown1, hb1⟩
    case round =>
      obtain ⟨k, hk, rfl, hown, hb⟩ := hrel
      by_cases hlt : k < bs.length
      · have e0 : wr.cell? ⟨b0, o0 + k, none⟩ = some (.bool bs[k]) := by rw [hb.cell (p := ⟨b0, o0 + k, none⟩) hb0]; exact cell0 k hlt
        have hk8 : k / 8 < packN bs.length := by unfold packN; omega
        have e1 : wr.cell? ⟨w.heap.size, k / 8, none⟩ = some (.int .u8 (byteVal (bs.take k) (k / 8))) := by
          rw [hown.cellAt (k / 8) (by omega)]
          simp [packTo, hk8]
        have e2 := hown.frozenAt (k / 8)
        have g0 : (k : Int) < (bs.length : Int) := by omega
        have g1 : (0 : Int) ≤ (k : Int) := by omega
        have g2 : (k : Int) / 8 < (packN bs.length : Int) := by omega
        have g3 : (0 : Int) ≤ (k : Int) / 8 := by omega
        have HA := Lib.hid (List.take_succ_eq_append_getElem hlt)
        clear cell0 hv
        generalize bs[k] = x at *
        have HL : Hid ((bs.take k).length = k) := by unfold Hid; rw [List.length_take]; omega
        have hbk : b0 ≠ w.heap.size := by omega
        cases x
        · have HF := Lib.hid (packTo_false bs.length (bs.take k))
          have Hown := Lib.hid hown
          clear hown
          go_wp2
          exact ⟨⟨k + 1, by omega, by go_num, by rw [HA.out, ← HF.out]; exact Hown.out, hb⟩, by simp [intOf]; omega⟩
        · have HF := packTo_true bs.length (bs.take k)
          rw [HL.out] at HF
          have hst := hown.stored (k / 8) (.int .u8 (bits .or .u8 (byteVal (bs.take k) (k / 8)) (2 ^ (7 - k % 8) % 256)))
          rw [← List.map_set, HF, ← HA.out] at hst
          have Hst := Lib.hid hst
          have hb2 := hb.setCell (p := ⟨w.heap.size, k / 8, none⟩) (Nat.le_refl _) (.int .u8 (bits .or .u8 (byteVal (bs.take k) (k / 8)) (2 ^ (7 - k % 8) % 256)))
          have Hb2 := Lib.hid hb2
          clear hst HF hown hb2
          go_wp2
          go_region
          go_wp2
          exact ⟨⟨k + 1, by omega, by go_num, owns_drew Hst.out.1, Hb2.out.drew⟩, by simp [intOf]; omega⟩
      · obtain rfl : k = bs.length := by omega
        rw [List.take_length] at hown
        have hlen : (packL bs).length = packN bs.length := packL_length bs
        have hcv := run_convert_bytes_arg (P := Try.prog) wr 69 5 Try.underlying69 Try.underlying5 w.heap.size 0 (packN bs.length) (packN bs.length) (packL bs) hlen (fun i hi => by
          rw [Nat.zero_add, hown.cellAt i (by omega)]
          show ((packL bs).map (Value.int .u8))[i]? = _
          rw [List.getElem?_map, List.getElem?_eq_getElem (by omega), List.getD_eq_getElem?_getD, List.getElem?_eq_getElem (by omega)]
          rfl) 9 Try.underlying9
        clear hown cell0 hv hlen
        go_wp2
        go_ret
        exact ⟨rfl, hb⟩

/-- The numbers of a text's bytes. -/
def numsOf (s : ByteArray) : List Int := s.data.toList.map fun c => (c.toNat : Int)
theorem numsOf_length (s : ByteArray) : (numsOf s).length = s.size := by simp [numsOf]
theorem numsOf_bd (s : ByteArray) : ∀ c ∈ numsOf s, 0 ≤ c ∧ c < 256 := by
  intro c hc
  obtain ⟨b, _, rfl⟩ := List.mem_map.1 hc
  have := b.toNat_lt
  omega
theorem numsOf_get (s : ByteArray) (k : Nat) (h : k < s.size) : (numsOf s)[k]'(by rw [numsOf_length]; exact h) = (s[k].toNat : Int) := by simp [numsOf]; rfl
theorem str_nums (s : ByteArray) : strOfNums (numsOf s) = s := by
  unfold strOfNums numsOf
  rw [List.map_map]
  have : ((fun n : Int => UInt8.ofNat n.toNat) ∘ fun c : UInt8 => (c.toNat : Int)) = id := by
    funext c; simp
  rw [this]
  simp
theorem nums_str {xs : List Int} (h : ∀ c ∈ xs, 0 ≤ c ∧ c < 256) : numsOf (strOfNums xs) = xs := by
  unfold numsOf
  rw [strOfNums_data, List.map_map]
  conv => rhs; rw [← List.map_id xs]
  refine List.map_congr_left fun c hc => ?_
  have := h c hc
  simp; omega
theorem str_size (xs : List Int) : (strOfNums xs).size = xs.length := by
  show (strOfNums xs).data.size = _
  rw [← Array.length_toList, strOfNums_data, List.length_map]

theorem and1_u8 {x : Int} (h0 : 0 ≤ x) (h1 : x < 256) : bits .and .u8 x 1 = x % 2 :=
  bits_mask .u8 8 (by decide) (fun n a b => wraps_u8 n a b) 1 (by decide) x h0 h1
theorem and1_bit_u8 (n : Int) (i : Nat) (h0 : 0 ≤ n) (h1 : n < 256) : (bits .and .u8 (n / 2 ^ i) 1 == 1) = bitAt n i := by
  have hp := p2_pos i
  have e : (2 : Int) ^ i = p2 i := (p2_pow i).symm
  have h2 : 0 ≤ n / p2 i := Int.ediv_nonneg h0 (by omega)
  have h3 : n / p2 i ≤ n := Int.ediv_le_self _ h0
  rw [e, and1_u8 h2 (by omega)]
  rfl
theorem unpackL_snoc (s : List Int) (c : Int) : unpackL (s ++ [c]) = unpackL s ++ putL c 8 := by simp [unpackL]

set_option maxRecDepth 100000 in
set_option maxHeartbeats 1000000 in
theorem unpack_any (s : ByteArray) (w : World) (hs : s.size ≤ 17592186044416) :
    Calls Try.prog 51 #[.string s] w fun e w' => ∃ v', e = .returned v' ∧ w'.ownsRow w.heap.size 4 1 v' (unpackL (numsOf s)).length ((unpackL (numsOf s)).map .bool) ∧ Below w.heap.size w w' := by
  obtain ⟨i0, hi, hz0, hz1, hz2⟩ := info_parts info_bool
  go_enter Try.func51, Try.ntmps51
  go_wp2_with (refine wpList_make_own _ rfl _ _ 25 rfl w.heap.size 4 i0 (.bool false) 1 Try.underlying25 hi hz0 hz1 .i64 .i64 _ (s.size * 8) rfl rfl ?hC ?b2 ?b3 ?b4 ?_)
  case hC => simp
  case b2 => rw [hz2]; omega
  case b3 => simp [maxLen]; omega
  case b4 => exact Nat.le_refl _
  intro w1 hown1 hg1
  have hb1 : Below w.heap.size w w1 := (Below.refl _ _).grown hg1 (Nat.le_refl _) (fun k h => by cases h)
  have Hown1 := Lib.hid hown1
  clear hown1 hg1
  go_wp2
  go_loopw [3, 12] (fun v i wr => ∃ k : Nat, k ≤ s.size ∧ i = .int .i64 k ∧ wr.ownsRow w.heap.size 4 1 v (8 * k) ((unpackL ((numsOf s).take k)).map .bool) ∧ Below w.heap.size w wr) (fun _ i _ => s.size - (intOf i).toNat)
  case atStart => exact ⟨0, Nat.zero_le _, rfl, Hown1.out, hb1⟩
  case round =>
    obtain ⟨k, hk, rfl, hown, hb⟩ := hrel
    have Hown := Lib.hid hown
    clear hown
    by_cases hlt : k < s.size
    · have hcb := s[k].toNat_lt
      have HG := Lib.hid (numsOf_get s k hlt)
      have HS := Lib.hid (List.take_succ_eq_append_getElem (i := k) (l := numsOf s) (by rw [numsOf_length]; exact hlt))
      go_wp2
      obtain ⟨wo, hwo⟩ : ∃ wo : World, wo = wr := ⟨_, rfl⟩
      subst hwo
      go_loopw [3, 5] (fun v i wr => ∃ m : Nat, m ≤ 8 ∧ i = .int .i64 (7 - m) ∧ wr.ownsRow w.heap.size 4 1 v (8 * k + m) ((unpackL ((numsOf s).take k) ++ (putL s[k].toNat 8).take m).map .bool) ∧ Below w.heap.size w wr) (fun _ i _ => (intOf i + 1).toNat)
      case atStart => exact ⟨0, Nat.zero_le _, rfl, by simpa using Hown.out, hb⟩
      case round =>
        obtain ⟨m, hm, rfl, hown2, hb2⟩ := hrel
        by_cases hlm : m < 8
        · have hbit := and1_bit_u8 s[k].toNat (7 - m) (by omega) (by omega)
          have he : (putL (s[k].toNat : Int) 8)[m]'(by rw [putL_length]; exact hlm) = bitAt s[k].toNat (7 - m) := by simp [putL]
          have Hstep := Lib.hid (List.take_succ_eq_append_getElem (i := m) (l := putL (s[k].toNat : Int) 8) (by rw [putL_length]; exact hlm))
          have He := Lib.hid he
          clear he
          generalize bitAt (s[k].toNat : Int) (7 - m) = x at *
          go_wp2_with (at_builtin; refine wpList_append_own _ rfl _ _ 25 rfl w.heap.size 4 i0 (.bool false) 1 1 Try.underlying25 hi hz0 hz1 hz2 rfl (by decide) _ _ _ rfl (hown2.alloc _) ⟨wr.heap.size, 0, none⟩ 1 1 [.bool x] rfl rfl ?c1 ?c2 ?c3 ?c4 ?c5 ?_)
          case c1 => exact cell_one_new _ _ _
          case c2 => simp [Value.oneCell']
          case c3 => simp [maxLen]; omega
          case c4 => omega
          case c5 => have := hb2.size; simp; omega
          intro v3 w3 hown3 hgrow _
          have hb3 : Below w.heap.size w w3 := ((hb2.alloc hb2.size _).grown hgrow (by have := hb2.size; simp; omega) (fun b hbk => owns_block hown2 b hbk))
          have Hown3 := Lib.hid hown3
          clear hown3 hbit
          go_wp2
          exact ⟨⟨m + 1, by omega, by rw [show ((7 : Int) - ↑(m + 1)) = 7 - m - 1 by omega], by
            have h := Hown3.out
            rw [Hstep.out, He.out]
            simpa [Nat.add_assoc] using h, hb3⟩, by simp [intOf]; omega⟩
        · obtain rfl : m = 8 := by omega
          have Hown2 := Lib.hid hown2
          clear hown2
          go_wp2
          exact ⟨⟨k + 1, by omega, by go_num, by
            have h := Hown2.out
            rw [List.take_of_length_le (l := putL (s[k].toNat : Int) 8) (by rw [putL_length]; exact Nat.le_refl _)] at h
            rw [HS.out, unpackL_snoc, HG.out]
            exact h, hb2⟩, by simp [intOf]; omega⟩
    · obtain rfl : k = s.size := by omega
      go_wp2
      go_ret
      exact ⟨_, rfl, by
        have h := Hown.out
        rw [List.take_of_length_le (by rw [numsOf_length]; exact Nat.le_refl _)] at h
        rw [unpackL_length, numsOf_length]
        exact h, hb⟩
end Go.Proofs.Ytolappilfjhfaaa
