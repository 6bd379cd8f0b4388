/- Contracts in the callers' form: what comes back reads as a list that has a name of its own; the fixed calls of layer 3. Conditions: numbers fit. -/
import Derived.Test.YtfafcnnpfgagiaaBitsD
namespace Go.Proofs.Ytfafcnnpfgagiaa
open Go.RowKit

abbrev Bits (w : World) (v : Value) (l : List Bool) : Prop := SlOf w v 1 (fun x => [.bool x]) l

theorem put_sl (v : Value) (bs : List Bool) (n width : Int) (w : World) (hv : Bits w v bs) (hl : bs.length ≤ 140737488355232) (hok : putOk n width = true) :
    Calls Try.prog 20 #[v, .int .i64 n, .int .i64 width] w fun e w' => ∃ (a : Option Addr) (cap : Nat) (l : List Bool), e = .returned (.tuple #[.slice a l.length cap, .bool true]) ∧ Hid (l = bs ++ putL n width.toNat) ∧ Bits w' (.slice a l.length cap) l ∧ Below w.heap.size w w' :=
  (put_any v bs n width w hv hl hok).mono fun e w' ⟨v', he, hown, hb⟩ => by
    obtain ⟨a, cap, rfl, _⟩ := owns_shape hown
    exact ⟨a, cap, _, he, rfl, (sl_of_owns hown).1, hb⟩

theorem unpack_sl (s : ByteArray) (w : World) (hs : s.size ≤ 17592186044416) :
    Calls Try.prog 23 #[.string s] w fun e w' => ∃ (a : Option Addr) (cap : Nat) (l : List Bool), e = .returned (.slice a l.length cap) ∧ Hid (l = unpackL (numsOf s)) ∧ Bits w' (.slice a l.length cap) l ∧ Below w.heap.size w w' :=
  (unpack_any s w hs).mono fun e w' ⟨v', he, hown, hb⟩ => by
    obtain ⟨a, cap, rfl, _⟩ := owns_shape hown
    exact ⟨a, cap, _, he, rfl, (sl_of_owns hown).1, hb⟩

theorem below_drewN' {B : Nat} {a w : World} (h : Below B a w) (n : Nat) : Below B a (w.drewN n) := h.trans ⟨rfl, rfl, rfl, Nat.le_refl _, fun _ _ => rfl⟩

theorem same_sl (u v : Value) (a b : List Bool) (w : World) (ha : Bits w u a) (hb : Bits w v b) (hla : a.length ≤ 9223372036854775806) (hlb : b.length ≤ 9223372036854775806) :
    Calls Try.prog 25 #[u, v] w fun e w' => e = .returned (.bool (a == b)) ∧ Below w.heap.size w w' :=
  (same_any u v a b w ha hb hla hlb).mono fun e w' ⟨he, n, hw⟩ => ⟨he, by rw [hw]; exact below_drewN' (Below.refl _ _) n⟩

set_option maxHeartbeats 1000000 in
theorem fixed03_any (w : World) :
    Calls Try.prog 21 #[] w fun e w' => e = .returned (.bool true) ∧ Below w.heap.size w w' := by
  go_enter Try.func21, Try.ntmps21
  go_wp2_with fail
  refine (put_sl _ [] 5 4 _ (sl_nil fun _ => rfl) (by simp) (by decide)).mono ?_
  rintro e w1 ⟨a1, c1, l1, rfl, hl1, hs1, hb1⟩
  have q1 : l1 = [false, true, false, true] := hl1.out.trans (by decide)
  subst q1
  go_wp2_with fail
  refine (take_any _ [false, true, false, true] 1 3 _ hs1 (by simp) (by decide)).mono ?_
  rintro e w2 ⟨rfl, rfl⟩
  go_wp2_with fail
  refine (put_no _ 16 4 _ (by decide)).mono ?_
  rintro e w2 ⟨rfl, rfl⟩
  go_wp2_with fail
  refine (take_no _ [false, true, false, true] 2 3 _ hs1 (by simp) (by decide) (by decide)).mono ?_
  rintro e w2 ⟨rfl, rfl⟩
  go_wp2_with fail
  have hb2 : Below w.heap.size w (w1.alloc (.cells #[Value.bool false, .bool true, .bool false, .bool true] 4)) := hb1.alloc hb1.size _
  have hs2 : Bits (w1.alloc (.cells #[Value.bool false, .bool true, .bool false, .bool true] 4)) (.slice (some ⟨w1.heap.size, 0, none⟩) 4 4) [false, true, false, true] := sl_alloc w1 4 [false, true, false, true] 4 (Nat.le_refl _)
  refine (same_sl _ _ [false, true, false, true] [false, true, false, true] _ (sl_below hs1 ((Below.refl _ _).alloc (Nat.le_refl _) _)) hs2 (by decide) (by decide)).mono ?_
  rintro e w3 ⟨rfl, hb3⟩
  have hs3 := sl_below (sl_below hs1 ((Below.refl _ _).alloc (Nat.le_refl _) (.cells #[Value.bool false, .bool true, .bool false, .bool true] 4))) hb3
  have e1 : ([false, true, false, true] == [false, true, false, true]) = true := by decide
  go_wp2_with fail
  refine (pack_any _ [false, true, false, true] _ hs3 (by decide)).mono ?_
  rintro e w4 ⟨rfl, hb4⟩
  have e2 : takeN [true, false, true] = 5 := by decide
  have e3 : strOfNums (packL [false, true, false, true]) = ⟨#[80]⟩ := by rw [show packL [false, true, false, true] = [80] by decide]; rfl
  go_wp2_with fail
  refine (unpack_sl _ _ (by decide)).mono ?_
  rintro e w5 ⟨a5, c5, l5, rfl, hl5, hs5, hb5⟩
  have e5 : l5.length = 8 := by rw [hl5.out, unpackL_length, numsOf_length]; decide
  have H5 := Lib.hid hb5
  go_wp2_with fail
  go_ret
  exact ⟨rfl, ((hb2.trans (hb3.mono (by have := hb2.size; omega))).trans (hb4.mono (by have := (hb2.trans (hb3.mono hb2.size)).size; omega))).trans (H5.out.mono (by have := ((hb2.trans (hb3.mono hb2.size)).trans (hb4.mono (hb2.trans (hb3.mono hb2.size)).size)).size; omega))⟩
end Go.Proofs.Ytfafcnnpfgagiaa
