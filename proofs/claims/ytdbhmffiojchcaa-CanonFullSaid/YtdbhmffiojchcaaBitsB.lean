/- Contracts: a copy of a list of bits; Put. Conditions: numbers fit. -/
import Derived.Test.YtdbhmffiojchcaaBitsA
namespace Go.Proofs.Ytdbhmffiojchcaa
open Go.RowKit

theorem info_bool : (Try.prog.info? 4).map (fun i => (i.zero, i.size, i.bytes)) = some (some (.bool false), 1, 1) := by kernel_rfl

/-- An empty row of the call's own. -/
theorem owns_empty (w : World) (e size : Nat) : (w.alloc (.cells #[] e)).ownsRow w.heap.size e size (.slice (some ⟨w.heap.size, 0, none⟩) 0 0) 0 [] :=
  ⟨by simp, Or.inr ⟨w.heap.size, 0, #[], rfl, Nat.le_refl _, heap_alloc_new w _, Nat.le_refl _, by simp [maxLen], by simp, by simp⟩⟩

set_option maxHeartbeats 400000 in
theorem clone_any (v : Value) (bs : List Bool) (w : World) (hv : SlOf w v 1 (fun x => [.bool x]) bs) (hl : bs.length ≤ 140737488355328) :
    Calls Try.prog 39 #[v] w fun e w' => ∃ v', e = .returned v' ∧ w'.ownsRow w.heap.size 4 1 v' bs.length (bs.map .bool) ∧ Below w.heap.size w w' := by
  obtain ⟨i0, hi, hz0, hz1, hz2⟩ := info_parts info_bool
  rcases sl_one hv with ⟨rfl, a0, c0, rfl, hn0⟩ | ⟨hp0, b0, o0, c0, rfl, hc0, hb0, cell0⟩
  · cases a0 with
    | none =>
      obtain rfl := hn0 rfl
      have hq := fun wx : World => Lib.run_eql_slice_nil (P := Try.prog) wx 35 4 none 0 0 0 0 Try.underlying35
      go_enter Try.func39, Try.ntmps39
      go_wp2
      go_ret
      exact ⟨_, rfl, ⟨rfl, Or.inl ⟨rfl, rfl⟩⟩, Below.refl _ _⟩
    | some a =>
      have hq := fun wx : World => Lib.run_eql_slice_nil (P := Try.prog) wx 35 4 (some a) 0 c0 0 0 Try.underlying35
      go_enter Try.func39, Try.ntmps39
      go_wp2
      go_ret
      exact ⟨_, rfl, owns_empty _ _ _, (Below.refl _ _).alloc (Nat.le_refl _) _⟩
  · have hq := fun wx : World => Lib.run_eql_slice_nil (P := Try.prog) wx 35 4 (some ⟨b0, o0, none⟩) bs.length c0 0 0 Try.underlying35
    have hnews : ∀ (j : Nat) (u : Value), (bs.map Value.bool)[j]? = some u → (w.alloc (.cells #[] 4)).cell? ((⟨b0, o0, none⟩ : Addr).add j) = some u := by
      intro j u hj
      rw [add_none, World.cell?_alloc_lt _ _ _ hb0]
      rw [List.getElem?_map] at hj
      cases hjb : bs[j]? with
      | none => rw [hjb] at hj; cases hj
      | some x =>
        rw [hjb] at hj
        obtain ⟨hlt, rfl⟩ := List.getElem?_eq_some_iff.1 hjb
        rw [cell0 j hlt]
        exact hj
    have Hnews := Lib.hid hnews
    clear hnews cell0 hv
    go_enter Try.func39, Try.ntmps39
    go_wp2_with (at_builtin; refine wpList_append_own _ rfl _ _ 35 rfl w.heap.size 4 i0 (.bool false) 1 1 Try.underlying35 hi hz0 hz1 hz2 rfl (by decide) _ _ _ rfl (owns_empty w 4 1) ⟨b0, o0, none⟩ bs.length c0 (bs.map Value.bool) rfl ?hl Hnews.out ?h1 ?h63 ?hby ?hbase ?_)
    case hl => simp
    case h1 => exact fun u hu => by obtain ⟨b, _, rfl⟩ := List.mem_map.1 hu; rfl
    case h63 => simp [maxLen]; omega
    case hby => omega
    case hbase => simp
    intro v' w' hown hgrow _
    go_wp2
    go_ret
    exact ⟨v', rfl, hown, ((Below.refl _ _).alloc (Nat.le_refl _) _).grown hgrow (by simp) (fun k hk => by simp only [Value.ownBlock, Option.some.injEq] at hk; omega)⟩

/-- May a number be put? -/
def putOk (n width : Int) : Bool := decide (0 ≤ width ∧ width ≤ 30 ∧ 0 ≤ n ∧ n < p2 width.toNat)

theorem and1_i64 {x : Int} (h0 : 0 ≤ x) (h1 : x < 9223372036854775808) : bits .and .i64 x 1 = x % 2 :=
  bits_mask .i64 63 (by decide) (fun n a b => by rw [IntKind.wrap_i64]; omega) 1 (by decide) x h0 h1
theorem and1_bit (n : Int) (i : Nat) (h0 : 0 ≤ n) (h1 : n < 9223372036854775808) : (bits .and .i64 (n / 2 ^ i) 1 == 1) = bitAt n i := by
  have hp := p2_pos i
  have e : (2 : Int) ^ i = p2 i := (p2_pow i).symm
  have h2 : 0 ≤ n / p2 i := Int.ediv_nonneg h0 (by omega)
  have h3 : n / p2 i ≤ n := Int.ediv_le_self _ h0
  rw [e, and1_i64 h2 (by omega)]
  rfl

set_option maxHeartbeats 1000000 in
theorem put_any (v : Value) (bs : List Bool) (n width : Int) (w : World) (hv : SlOf w v 1 (fun x => [.bool x]) bs) (hl : bs.length ≤ 140737488355232) (hok : putOk n width = true) :
    Calls Try.prog 33 #[v, .int .i64 n, .int .i64 width] w fun e w' => ∃ v', e = .returned (.tuple #[v', .bool true]) ∧ w'.ownsRow w.heap.size 4 1 v' (bs ++ putL n width.toNat).length ((bs ++ putL n width.toNat).map .bool) ∧ Below w.heap.size w w' := by
  obtain ⟨i0, hi, hz0, hz1, hz2⟩ := info_parts info_bool
  have hok' : 0 ≤ width ∧ width ≤ 30 ∧ 0 ≤ n ∧ n < p2 width.toNat := by simpa [putOk] using hok
  obtain ⟨h1, h2, h3, h4⟩ := hok'
  clear hok
  obtain ⟨W, rfl⟩ := Int.eq_ofNat_of_zero_le h1
  rw [Int.toNat_natCast] at h4
  rw [Int.toNat_natCast]
  have hp := p2_le (n := W) (by omega)
  have hn63 : n < 9223372036854775808 := by omega
  have hw : wrap64 (2 ^ W) = p2 W := by rw [← p2_pow]; exact IntWalk.wrap64_in _ (by omega)
  go_enter Try.func33, Try.ntmps33
  go_wp2_with fail
  clear hw
  refine (clone_any v bs w hv (by omega)).mono ?_
  rintro e w1 ⟨v1, rfl, hown1, hb1⟩
  go_wp2_with fail
  go_loopw [8, 9] (fun out i wr => ∃ k : Nat, k ≤ W ∧ i = .int .i64 ((W : Int) - 1 - k) ∧ wr.ownsRow w.heap.size 4 1 out (bs.length + k) ((bs ++ (putL n W).take k).map .bool) ∧ Below w.heap.size w wr) (fun _ i _ => (intOf i + 1).toNat)
  case atStart => exact ⟨0, Nat.zero_le _, by simp, by simpa using hown1, hb1⟩
  case round =>
    obtain ⟨k, hk, rfl, hown, hb⟩ := hrel
    by_cases hlt : k < W
    · have hbit := and1_bit n (W - 1 - k) h3 hn63
      have he : (putL n W)[k]'(by rw [putL_length]; exact hlt) = bitAt n (W - 1 - k) := by simp [putL]
      have Hstep := Lib.hid (List.take_succ_eq_append_getElem (i := k) (l := putL n W) (by rw [putL_length]; exact hlt))
      have He := Lib.hid he
      clear he
      generalize bitAt n (W - 1 - k) = x at *
      go_wp2_with (at_builtin; refine wpList_append_own _ rfl _ _ 35 rfl w.heap.size 4 i0 (.bool false) 1 1 Try.underlying35 hi hz0 hz1 hz2 rfl (by decide) _ _ _ rfl (hown.alloc _) ⟨wr.heap.size, 0, none⟩ 1 1 [.bool x] rfl rfl ?c1 ?c2 ?c3 ?c4 ?c5 ?_)
      case c1 => exact cell_one_new _ _ _
      case c2 => simp [Value.oneCell']
      case c3 => simp [maxLen]; omega
      case c4 => omega
      case c5 => have := hb.size; simp; omega
      intro v2 w2 hown2 hgrow _
      have hb2 : Below w.heap.size w w2 := ((hb.alloc hb.size _).grown hgrow (by have := hb.size; simp; omega) (fun b hbk => owns_block hown b hbk))
      have Hown2 := Lib.hid hown2
      clear hown2 hbit
      go_wp2
      exact ⟨⟨k + 1, by omega, by rw [show ((W : Int) - 1 - ↑(k + 1)) = (W : Int) - 1 - k - 1 by omega], by
        have h := Hown2.out
        rw [Hstep.out, He.out]
        simpa [Nat.add_assoc] using h, hb2⟩, by simp [intOf]; omega⟩
    · obtain rfl : k = W := by omega
      have Hown := Lib.hid hown
      clear hown
      go_wp2
      go_ret2
      exact ⟨_, rfl, by
        have h := Hown.out
        rw [List.take_of_length_le (by rw [putL_length]; exact Nat.le_refl _)] at h
        rw [List.length_append, putL_length]
        exact h, hb⟩
end Go.Proofs.Ytdbhmffiojchcaa
