/- Contracts: Pack and Unpack. Conditions: numbers fit. -/
import Derived.Test.YtfafcnnpfgagiaaBitsC
import Derived.Test.YtfafcnnpfgagiaaBitsQ
import Derived.Laws.BytesArg
import Derived.Shelf.Bytes.SlSmallAll
import Derived.RegionTactic
import Derived.ChangeAlike
import Derived.BigRegion
namespace Go.Proofs.Ytfafcnnpfgagiaa
open Go.RowKit

theorem info_u8 : (Try.prog.info? 5).map (fun i => (i.zero, i.size, i.bytes)) = some (some (.int .u8 0), 1, 1) := by kernel_rfl

theorem pack_start (n : Nat) : (madeCells #[Value.int .u8 0] (packN n)).toList = (packTo n []).map (.int .u8) := by
  apply List.ext_getElem
  · simp [madeCells, packTo]
  · intro i h1 h2
    simp [madeCells, packTo, byteVal_nil, Nat.mod_one]

theorem owns_drew {w : World} {base e size n : Nat} {v : Value} {cs : List Value} (h : w.ownsRow base e size v n cs) : w.drew.ownsRow base e size v n cs := h

set_option maxHeartbeats 1000000 in
theorem pack_any (v : Value) (bs : List Bool) (w : World) (hv : SlOf w v 1 (fun x => [.bool x]) bs) (hl : bs.length ≤ 140737488355328) :
    Calls Try.prog 24 #[v] w fun e w' => e = .returned (.string (strOfNums (packL bs))) ∧ Below w.heap.size w w' := by
  obtain ⟨i0, hi, hz0, hz1, hz2⟩ := info_parts info_u8
  rcases sl_one hv with ⟨rfl, a0, c0, rfl, hn0⟩ | ⟨hp0, b0, o0, c0, rfl, hc0, hb0, cell0⟩
  · have hcv := fun wx : World => run_convert_bytes_zero (P := Try.prog) wx 49 5 Try.underlying49 Try.underlying5 (some ⟨w.heap.size, 0, none⟩) 0 9 Try.underlying9
    go_enter Try.func24, Try.ntmps24
    go_wp2_with (refine wpList_make_full _ rfl _ _ 49 rfl w.heap.size 5 i0 (.int .u8 0) 1 Try.underlying49 hi hz0 hz1 .i64 .i64 _ _ 0 rfl rfl ?hL ?hC ?b2 ?b3 ?b4 ?_)
    case hL => rfl
    case hC => rfl
    case b2 => omega
    case b3 => simp [maxLen]
    case b4 => exact Nat.le_refl _
    intro w1 _ hg1
    have hb1 : Below w.heap.size w w1 := (Below.refl _ _).grown hg1 (Nat.le_refl _) (fun k h => by cases h)
    clear hg1
    go_wp2
    refine wp_loop_rounds 1 ?_
    rw [rounds_succ]
    go_wp2
    go_ret
    exact ⟨rfl, hb1⟩
  · have hN : ((bs.length : Int) + 7) / 8 = (packN bs.length : Nat) := by unfold packN; omega
    have hN1 : packN bs.length ≤ bs.length := by unfold packN; omega
    go_enter Try.func24, Try.ntmps24
    go_wp2_with (refine wpList_make_full _ rfl _ _ 49 rfl w.heap.size 5 i0 (.int .u8 0) 1 Try.underlying49 hi hz0 hz1 .i64 .i64 _ _ (packN bs.length) rfl rfl ?hL ?hC ?b2 ?b3 ?b4 ?_)
    case hL => rw [← hN]; omega
    case hC => rw [← hN]; omega
    case b2 => rw [hz2]; omega
    case b3 => simp [maxLen]; omega
    case b4 => exact Nat.le_refl _
    intro w1 hown1 hg1
    have hb1 : Below w.heap.size w w1 := (Below.refl _ _).grown hg1 (Nat.le_refl _) (fun k h => by cases h)
    rw [pack_start bs.length] at hown1
    clear hN hN1
    go_wp2
    go_loopw [14] (fun i wr => ∃ k : Nat, k ≤ bs.length ∧ i = .int .i64 k ∧ wr.ownsRow w.heap.size 5 1 (.slice (some ⟨w.heap.size, 0, none⟩) (packN bs.length) (packN bs.length)) (packN bs.length) ((packTo bs.length (bs.take k)).map (.int .u8)) ∧ Below w.heap.size w wr) (fun i _ => bs.length - (intOf i).toNat)
    case atStart => exact ⟨0, Nat.zero_le _, rfl, by simpa using hown1, hb1⟩
    case round =>
      obtain ⟨k, hk, rfl, hown, hb⟩ := hrel
      by_cases hlt : k < bs.length
      · have e0 : wr.cell? ⟨b0, o0 + k, none⟩ = some (.bool bs[k]) := by rw [hb.cell (p := ⟨b0, o0 + k, none⟩) hb0]; exact cell0 k hlt
        have hk8 : k / 8 < packN bs.length := by unfold packN; omega
        have e1 : wr.cell? ⟨w.heap.size, k / 8, none⟩ = some (.int .u8 (byteVal (bs.take k) (k / 8))) := by
          rw [hown.cellAt (k / 8) (by omega)]
          simp [packTo, hk8]
        have e2 := hown.frozenAt (k / 8)
        have g0 : (k : Int) < (bs.length : Int) := by omega
        have g1 : (0 : Int) ≤ (k : Int) := by omega
        have g2 : (k : Int) / 8 < (packN bs.length : Int) := by omega
        have g3 : (0 : Int) ≤ (k : Int) / 8 := by omega
        have HA := Lib.hid (List.take_succ_eq_append_getElem hlt)
        clear cell0 hv
        generalize bs[k] = x at *
        have HL : Hid ((bs.take k).length = k) := by unfold Hid; rw [List.length_take]; omega
        have hbk : b0 ≠ w.heap.size := by omega
        cases x
        · have HF := Lib.hid (packTo_false bs.length (bs.take k))
          have Hown := Lib.hid hown
          clear hown
          go_wp2
          exact ⟨⟨k + 1, by omega, by go_num, by rw [HA.out, ← HF.out]; exact Hown.out, hb⟩, by simp [intOf]; omega⟩
        · have HF := packTo_true bs.length (bs.take k)
          rw [HL.out] at HF
          have hst := hown.stored (k / 8) (.int .u8 (bits .or .u8 (byteVal (bs.take k) (k / 8)) (2 ^ (7 - k % 8) % 256)))
          rw [← List.map_set, HF, ← HA.out] at hst
          have Hst := Lib.hid hst
          have hb2 := hb.setCell (p := ⟨w.heap.size, k / 8, none⟩) (Nat.le_refl _) (.int .u8 (bits .or .u8 (byteVal (bs.take k) (k / 8)) (2 ^ (7 - k % 8) % 256)))
          have Hb2 := Lib.hid hb2
          clear hst HF hown hb2
          go_wp2
          go_region
          go_wp2
          exact ⟨⟨k + 1, by omega, by go_num, owns_drew Hst.out.1, Hb2.out.drew⟩, by simp [intOf]; omega⟩
      · obtain rfl : k = bs.length := by omega
        rw [List.take_length] at hown
        have hlen : (packL bs).length = packN bs.length := packL_length bs
        have hcv := run_convert_bytes_arg (P := Try.prog) wr 49 5 Try.underlying49 Try.underlying5 w.heap.size 0 (packN bs.length) (packN bs.length) (packL bs) hlen (fun i hi => by
          rw [Nat.zero_add, hown.cellAt i (by omega)]
          show ((packL bs).map (Value.int .u8))[i]? = _
          rw [List.getElem?_map, List.getElem?_eq_getElem (by omega), List.getD_eq_getElem?_getD, List.getElem?_eq_getElem (by omega)]
          rfl) 9 Try.underlying9
        clear hown cell0 hv hlen
        go_wp2
        go_ret
        exact ⟨rfl, hb⟩

/-- The numbers of a text's bytes. -/
def numsOf (s : ByteArray) : List Int := s.data.toList.map fun c => (c.toNat : Int)
theorem numsOf_length (s : ByteArray) : (numsOf s).length = s.size := by simp [numsOf]
theorem numsOf_bd (s : ByteArray) : ∀ c ∈ numsOf s, 0 ≤ c ∧ c < 256 := by
  intro c hc
  obtain ⟨b, _, rfl⟩ := List.mem_map.1 hc
  have := b.toNat_lt
  omega
theorem numsOf_get (s : ByteArray) (k : Nat) (h : k < s.size) : (numsOf s)[k]'(by rw [numsOf_length]; exact h) = (s[k].toNat : Int) := by simp [numsOf]; rfl
theorem str_nums (s : ByteArray) : strOfNums (numsOf s) = s := by
  unfold strOfNums numsOf
  rw [List.map_map]
  have : ((fun n : Int => UInt8.ofNat n.toNat) ∘ fun c : UInt8 => (c.toNat : Int)) = id := by
    funext c; simp
  rw [this]
  simp
theorem nums_str {xs : List Int} (h : ∀ c ∈ xs, 0 ≤ c ∧ c < 256) : numsOf (strOfNums xs) = xs := by
  unfold numsOf
  rw [strOfNums_data, List.map_map]
  conv => rhs; rw [← List.map_id xs]
  refine List.map_congr_left fun c hc => ?_
  have := h c hc
  simp; omega
theorem str_size (xs : List Int) : (strOfNums xs).size = xs.length := by
  show (strOfNums xs).data.size = _
  rw [← Array.length_toList, strOfNums_data, List.length_map]

theorem and1_u8 {x : Int} (h0 : 0 ≤ x) (h1 : x < 256) : bits .and .u8 x 1 = x % 2 :=
  bits_mask .u8 8 (by decide) (fun n a b => wraps_u8 n a b) 1 (by decide) x h0 h1
theorem and1_bit_u8 (n : Int) (i : Nat) (h0 : 0 ≤ n) (h1 : n < 256) : (bits .and .u8 (n / 2 ^ i) 1 == 1) = bitAt n i := by
  have hp := p2_pos i
  have e : (2 : Int) ^ i = p2 i := (p2_pow i).symm
  have h2 : 0 ≤ n / p2 i := Int.ediv_nonneg h0 (by omega)
  have h3 : n / p2 i ≤ n := Int.ediv_le_self _ h0
  rw [e, and1_u8 h2 (by omega)]
  rfl
theorem unpackL_snoc (s : List Int) (c : Int) : unpackL (s ++ [c]) = unpackL s ++ putL c 8 := by simp [unpackL]

set_option maxHeartbeats 1000000 in
theorem unpack_any (s : ByteArray) (w : World) (hs : s.size ≤ 17592186044416) :
    Calls Try.prog 23 #[.string s] w fun e w' => ∃ v', e = .returned v' ∧ w'.ownsRow w.heap.size 4 1 v' (unpackL (numsOf s)).length ((unpackL (numsOf s)).map .bool) ∧ Below w.heap.size w w' := by
  obtain ⟨i0, hi, hz0, hz1, hz2⟩ := info_parts info_bool
  go_enter Try.func23, Try.ntmps23
  go_wp2_with (refine wpList_make_own _ rfl _ _ 32 rfl w.heap.size 4 i0 (.bool false) 1 Try.underlying32 hi hz0 hz1 .i64 .i64 _ (s.size * 8) rfl rfl ?hC ?b2 ?b3 ?b4 ?_)
  case hC => simp
  case b2 => rw [hz2]; omega
  case b3 => simp [maxLen]; omega
  case b4 => exact Nat.le_refl _
  intro w1 hown1 hg1
  have hb1 : Below w.heap.size w w1 := (Below.refl _ _).grown hg1 (Nat.le_refl _) (fun k h => by cases h)
  have Hown1 := Lib.hid hown1
  clear hown1 hg1
  go_wp2
  go_loopw [3, 12] (fun v i wr => ∃ k : Nat, k ≤ s.size ∧ i = .int .i64 k ∧ wr.ownsRow w.heap.size 4 1 v (8 * k) ((unpackL ((numsOf s).take k)).map .bool) ∧ Below w.heap.size w wr) (fun _ i _ => s.size - (intOf i).toNat)
  case atStart => exact ⟨0, Nat.zero_le _, rfl, Hown1.out, hb1⟩
  case round =>
    obtain ⟨k, hk, rfl, hown, hb⟩ := hrel
    have Hown := Lib.hid hown
    clear hown
    by_cases hlt : k < s.size
    · have hcb := s[k].toNat_lt
      have HG := Lib.hid (numsOf_get s k hlt)
      have HS := Lib.hid (List.take_succ_eq_append_getElem (i := k) (l := numsOf s) (by rw [numsOf_length]; exact hlt))
      go_wp2
      obtain ⟨wo, hwo⟩ : ∃ wo : World, wo = wr := ⟨_, rfl⟩
      subst hwo
      go_loopw [3, 5] (fun v i wr => ∃ m : Nat, m ≤ 8 ∧ i = .int .i64 (7 - m) ∧ wr.ownsRow w.heap.size 4 1 v (8 * k + m) ((unpackL ((numsOf s).take k) ++ (putL s[k].toNat 8).take m).map .bool) ∧ Below w.heap.size w wr) (fun _ i _ => (intOf i + 1).toNat)
      case atStart => exact ⟨0, Nat.zero_le _, rfl, by simpa using Hown.out, hb⟩
      case round =>
        obtain ⟨m, hm, rfl, hown2, hb2⟩ := hrel
        by_cases hlm : m < 8
        · have hbit := and1_bit_u8 s[k].toNat (7 - m) (by omega) (by omega)
          have he : (putL (s[k].toNat : Int) 8)[m]'(by rw [putL_length]; exact hlm) = bitAt s[k].toNat (7 - m) := by simp [putL]
          have Hstep := Lib.hid (List.take_succ_eq_append_getElem (i := m) (l := putL (s[k].toNat : Int) 8) (by rw [putL_length]; exact hlm))
          have He := Lib.hid he
          clear he
          generalize bitAt (s[k].toNat : Int) (7 - m) = x at *
          go_wp2_with (at_builtin; refine wpList_append_own _ rfl _ _ 32 rfl w.heap.size 4 i0 (.bool false) 1 1 Try.underlying32 hi hz0 hz1 hz2 rfl (by decide) _ _ _ rfl (hown2.alloc _) ⟨wr.heap.size, 0, none⟩ 1 1 [.bool x] rfl rfl ?c1 ?c2 ?c3 ?c4 ?c5 ?_)
          case c1 => exact cell_one_new _ _ _
          case c2 => simp [Value.oneCell']
          case c3 => simp [maxLen]; omega
          case c4 => omega
          case c5 => have := hb2.size; simp; omega
          intro v3 w3 hown3 hgrow _
          have hb3 : Below w.heap.size w w3 := ((hb2.alloc hb2.size _).grown hgrow (by have := hb2.size; simp; omega) (fun b hbk => owns_block hown2 b hbk))
          have Hown3 := Lib.hid hown3
          clear hown3 hbit
          go_wp2
          exact ⟨⟨m + 1, by omega, by rw [show ((7 : Int) - ↑(m + 1)) = 7 - m - 1 by omega], by
            have h := Hown3.out
            rw [Hstep.out, He.out]
            simpa [Nat.add_assoc] using h, hb3⟩, by simp [intOf]; omega⟩
        · obtain rfl : m = 8 := by omega
          have Hown2 := Lib.hid hown2
          clear hown2
          go_wp2
          exact ⟨⟨k + 1, by omega, by go_num, by
            have h := Hown2.out
            rw [List.take_of_length_le (l := putL (s[k].toNat : Int) 8) (by rw [putL_length]; exact Nat.le_refl _)] at h
            rw [HS.out, unpackL_snoc, HG.out]
            exact h, hb2⟩, by simp [intOf]; omega⟩
    · obtain rfl : k = s.size := by omega
      go_wp2
      go_ret
      exact ⟨_, rfl, by
        have h := Hown.out
        rw [List.take_of_length_le (by rw [numsOf_length]; exact Nat.le_refl _)] at h
        rw [unpackL_length, numsOf_length]
        exact h, hb⟩
end Go.Proofs.Ytfafcnnpfgagiaa
