/- Contracts: Put where nothing can be put; Take. Conditions: numbers fit. -/
import Derived.Test.YtfafcnnpfgagiaaBitsB
namespace Go.Proofs.Ytfafcnnpfgagiaa
open Go.RowKit

set_option maxHeartbeats 1000000 in
theorem put_no (v : Value) (n width : Int) (w : World) (hok : putOk n width = false) :
    Calls Try.prog 20 #[v, .int .i64 n, .int .i64 width] w fun e w' => e = .returned (.tuple #[.slice none 0 0, .bool false]) ∧ w = w' := by
  have hok' : ¬ (0 ≤ width ∧ width ≤ 30 ∧ 0 ≤ n ∧ n < p2 width.toNat) := by simpa [putOk] using hok
  clear hok
  by_cases h1 : width < 0
  · go_enter Try.func20, Try.ntmps20
    go_wp2
    go_ret2
    exact ⟨rfl, rfl⟩
  by_cases h2 : 30 < width
  · go_enter Try.func20, Try.ntmps20
    go_wp2
    go_ret2
    exact ⟨rfl, rfl⟩
  by_cases h3 : n < 0
  · go_enter Try.func20, Try.ntmps20
    go_wp2
    go_ret2
    exact ⟨rfl, rfl⟩
  obtain ⟨W, rfl⟩ := Int.eq_ofNat_of_zero_le (a := width) (by omega)
  rw [Int.toNat_natCast] at hok'
  have hp := p2_le (n := W) (by omega)
  have h4 : p2 W ≤ n := by omega
  have hw : wrap64 (2 ^ W) = p2 W := by rw [← p2_pow]; exact IntWalk.wrap64_in _ (by have := p2_pos W; omega)
  clear hok'
  go_enter Try.func20, Try.ntmps20
  go_wp2
  go_ret2
  exact ⟨rfl, rfl⟩

/-- May bits be taken? -/
def takeOk (len : Nat) (at' width : Int) : Bool := decide (0 ≤ width ∧ width ≤ 30 ∧ 0 ≤ at' ∧ at' + width ≤ len)

set_option maxHeartbeats 1000000 in
theorem take_any (v : Value) (bs : List Bool) (p width : Int) (w : World) (hv : SlOf w v 1 (fun x => [.bool x]) bs) (hl : bs.length ≤ 140737488355328) (hok : takeOk bs.length p width = true) :
    Calls Try.prog 22 #[v, .int .i64 p, .int .i64 width] w fun e w' => e = .returned (.tuple #[.int .i64 (takeN ((bs.drop p.toNat).take width.toNat)), .int .i64 (p + width), .bool true]) ∧ w = w' := by
  have hok' : 0 ≤ width ∧ width ≤ 30 ∧ 0 ≤ p ∧ p + width ≤ bs.length := by simpa [takeOk] using hok
  obtain ⟨h1, h2, h3, h4⟩ := hok'
  clear hok
  obtain ⟨W, rfl⟩ := Int.eq_ofNat_of_zero_le h1
  obtain ⟨P, rfl⟩ := Int.eq_ofNat_of_zero_le h3
  rw [Int.toNat_natCast, Int.toNat_natCast]
  by_cases hW : W = 0
  · subst hW
    obtain ⟨a0, c0, rfl, hc0, hn0, _⟩ := hv
    go_enter Try.func22, Try.ntmps22
    go_wp2
    all_goals
      refine wp_loop_rounds 1 ?_
      rw [rounds_succ]
      go_wp2
      go_ret3
      exact ⟨by simp [takeN], rfl⟩
  · rcases sl_one hv with ⟨rfl, _⟩ | ⟨hp0, b0, o0, c0, rfl, hc0, hb0, cell0⟩
    · exfalso; simp at h4; omega
    · have q1 : (P : Int) + W ≤ c0 := by omega
      have hlen : ((bs.drop P).take W).length = W := by rw [List.length_take, List.length_drop]; omega
      have cell : ∀ k (hk : k < ((bs.drop P).take W).length), w.cell? ⟨b0, o0 + P + k, none⟩ = some (.bool ((bs.drop P).take W)[k]) := fun k hk => by
        have := cell0 (P + k) (by rw [hlen] at hk; omega)
        rw [← Nat.add_assoc] at this
        rw [this]
        simp [List.getElem_take, List.getElem_drop]
      have Hlen := Lib.hid hlen
      generalize (bs.drop P).take W = l at *
      clear hlen cell0 hv
      go_enter Try.func22, Try.ntmps22
      go_wp2
      go_loop [9, 43] (fun n i => ∃ k : Nat, k ≤ W ∧ i = .int .i64 k ∧ n = .int .i64 (takeN (l.take k))) (fun _ i => W - (intOf i).toNat)
      case atStart => exact ⟨0, Nat.zero_le _, rfl, by simp [takeN]⟩
      case round =>
        obtain ⟨k, hk, rfl, rfl⟩ := hrel
        by_cases hlt : k < W
        · have hkl : k < l.length := by rw [Hlen.out]; exact hlt
          have e0 := cell k hkl
          have HA := Lib.hid (List.take_succ_eq_append_getElem hkl)
          have hbd := takeN_bd (l.take k)
          have hp2 := p2_le (n := (l.take k).length) (by have := List.length_take_le k l; omega)
          have hp3 := p2_mono (m := (l.take k).length) (n := 30) (by have := List.length_take_le k l; omega)
          have hp4 : p2 30 = 1073741824 := by decide
          have hbd2 : takeN (l.take k) < 1073741824 := by omega
          have hbd1 := hbd.1
          have g0 : (k : Int) < (W : Int) := by omega
          have g2 : (0 : Int) ≤ (k : Int) := by omega
          have HT := Lib.hid (takeN_snoc (l.take k) l[k])
          clear hp2 hp3 hp4 hbd cell
          generalize l[k] = x at *
          cases x
          · go_wp2
            exact ⟨⟨k + 1, by omega, by go_num, by rw [HA.out, HT.out]; simp⟩, by simp [intOf]; omega⟩
          · go_wp2
            exact ⟨⟨k + 1, by omega, by go_num, by rw [HA.out, HT.out]; simp⟩, by simp [intOf]; omega⟩
        · obtain rfl : k = W := by omega
          have e0 := Lib.hid (List.take_of_length_le (Nat.le_of_eq Hlen.out))
          go_wp2
          go_ret3
          exact ⟨by simp [e0.out], rfl⟩

set_option maxHeartbeats 1000000 in
theorem take_no (v : Value) (bs : List Bool) (p width : Int) (w : World) (hv : SlOf w v 1 (fun x => [.bool x]) bs) (hl : bs.length ≤ 140737488355328) (hpb : p ≤ 9223372036854775807) (hok : takeOk bs.length p width = false) :
    Calls Try.prog 22 #[v, .int .i64 p, .int .i64 width] w fun e w' => e = .returned (.tuple #[.int .i64 0, .int .i64 0, .bool false]) ∧ w = w' := by
  have hok' : ¬ (0 ≤ width ∧ width ≤ 30 ∧ 0 ≤ p ∧ p + width ≤ bs.length) := by simpa [takeOk] using hok
  clear hok
  obtain ⟨a0, c0, rfl, hc0, hn0, _⟩ := hv
  by_cases h1 : width < 0
  · go_enter Try.func22, Try.ntmps22
    go_wp2
    go_ret3
    exact ⟨rfl, rfl⟩
  by_cases h2 : 30 < width
  · go_enter Try.func22, Try.ntmps22
    go_wp2
    go_ret3
    exact ⟨rfl, rfl⟩
  by_cases h3 : p < 0
  · go_enter Try.func22, Try.ntmps22
    go_wp2
    go_ret3
    exact ⟨rfl, rfl⟩
  by_cases h4 : (bs.length : Int) < p
  · go_enter Try.func22, Try.ntmps22
    go_wp2
    go_ret3
    exact ⟨rfl, rfl⟩
  have h5 : (bs.length : Int) - p < width := by omega
  clear hok'
  go_enter Try.func22, Try.ntmps22
  go_wp2
  go_ret3
  exact ⟨rfl, rfl⟩
end Go.Proofs.Ytfafcnnpfgagiaa
