/- The law's five. Conditions: none. -/
import Derived.Test.YtdlgpcjdaaeliaaTreZb
namespace Go.Proofs.Ytdlgpcjdaaeliaa
open Go.RowKit Go.Shelf
attribute [local go_sem] Oper.semAt_some

def fiv : Nat → Tr
  | 0 => noT
  | n + 1 => putTr (fiv n) ((n : Int) + 1) (10 * ((n : Int) + 1))
def fivP : Nat → List (Int × Int)
  | 0 => []
  | n + 1 => putP (fivP n) ((n : Int) + 1) (10 * ((n : Int) + 1))
theorem fivP_len : ∀ n, (fivP n).length ≤ n
  | 0 => Nat.le_refl _
  | n + 1 => by rw [fivP]; have := put_len (fivP n) ((n : Int) + 1) (10 * ((n : Int) + 1)); have := fivP_len n; omega
theorem fiv_ok : ∀ n, n ≤ 10 → mayT16 (fiv n) = true ∧ pairsT (fiv n) = fivP n
  | 0, _ => by
    have h := bldT_ok (l := []) (by simp) (by simp [keysP])
    have e : bldT [] = noT := rfl
    rw [e] at h
    exact h
  | n + 1, hn => by
    obtain ⟨h1, h2⟩ := fiv_ok n (by omega)
    have hl := fivP_len n
    obtain ⟨h3, h4⟩ := put_ok h1 (by rw [h2]; omega) ((n : Int) + 1) (10 * ((n : Int) + 1))
    exact ⟨h3, by rw [fiv, h4, h2]; rfl⟩

set_option maxRecDepth 100000 in
set_option maxHeartbeats 4000000 in
theorem five_any (w : World) :
    Calls Try.prog 25 #[] w fun e w' => ∃ (a0 a1 a2 : Value), e = .returned (.agg #[a0, a1, a2]) ∧ NodeP w' (fun b => w.heap.size < b) (a0, a1, a2) (fiv 5) ∧ Below w.heap.size w w' := by
  have hR : Nd3 ((w.alloc (.cells #[.slice none 0 0, .slice none 0 0, .slice none 0 0] 25)).alloc (.cells #[.slice none 0 0, .slice none 0 0, .slice none 0 0] 25)) w.heap.size (.slice none 0 0) (.slice none 0 0) (.slice none 0 0) := (grs_alloc _ _ (fun _ => False)).nd3 (Nd3.new _ _ _ _ _) id
  have hT := Nd3.new (w.alloc (.cells #[.slice none 0 0, .slice none 0 0, .slice none 0 0] 25)) (.slice none 0 0) (.slice none 0 0) (.slice none 0 0) 25
  rw [World.size_alloc] at hT
  have hB : Below w.heap.size w ((w.alloc (.cells #[.slice none 0 0, .slice none 0 0, .slice none 0 0] 25)).alloc (.cells #[.slice none 0 0, .slice none 0 0, .slice none 0 0] 25)) := ((Below.refl _ _).alloc (Nat.le_refl _) _).alloc (by simp) _
  obtain ⟨W1, hW1⟩ : ∃ W1, (w.alloc (.cells #[.slice none 0 0, .slice none 0 0, .slice none 0 0] 25)).alloc (.cells #[.slice none 0 0, .slice none 0 0, .slice none 0 0] 25) = W1 := ⟨_, rfl⟩
  rw [hW1] at hR hT hB
  have hX1 : GrS W1 (((W1.setCell ⟨w.heap.size + 1, 0, none⟩ (.slice none 0 0)).setCell ⟨w.heap.size + 1, 1, none⟩ (.slice none 0 0)).setCell ⟨w.heap.size + 1, 2, none⟩ (.slice none 0 0)) (fun b => b = w.heap.size + 1) := ((grs_set W1 (w.heap.size + 1) 0 _).trans (grs_set _ _ _ _)).trans (grs_set _ _ _ _)
  have hR2 := Lib.hid (hX1.nd3 hR (by omega))
  have hT2 := Lib.hid (hT.set (.slice none 0 0) (.slice none 0 0) (.slice none 0 0))
  have hB2 := Lib.hid (below_set3 hB (show w.heap.size ≤ w.heap.size + 1 by omega) (.slice none 0 0) (.slice none 0 0) (.slice none 0 0))
  obtain ⟨hlt, p0, p1, p2, z0, z1, z2⟩ := hT
  clear hR hB hX1
  go_enter Try.func25, Try.ntmps25
  go_wp2_with fail
  go_loopw [2] (fun i wr => ∃ (m : Nat) (u0 u1 u2 : Value), i = .int .i64 ((m : Int) + 1) ∧ m ≤ 5 ∧ Hid (NodeP wr (fun b => w.heap.size + 1 < b) (u0, u1, u2) (fiv m)) ∧ Nd3 wr (w.heap.size + 1) u0 u1 u2 ∧ Hid (Nd3 wr w.heap.size (.slice none 0 0) (.slice none 0 0) (.slice none 0 0)) ∧ Below w.heap.size w wr) (fun i _ => 6 - (intOf i).toNat)
  case atStart => exact ⟨0, _, _, _, rfl, by omega, noT_node _ _, hT2.out, hR2.out, hB2.out⟩
  case round =>
    obtain ⟨m, u0, u1, u2, rfl, hm, hnd, hbx, hrx, hbr⟩ := hrel
    obtain ⟨a0, a1, a2, n0, k0, n1, k1, n2, k2, rfl, rfl, rfl⟩ := node_shape (nodeP_of hnd.out)
    have Hbx := Lib.hid hbx
    have Hbr := Lib.hid hbr
    obtain ⟨hlt, p0, p1, p2, z0, z1, z2⟩ := hbx
    by_cases hz : m < 5
    · have b1 : decide ((m : Int) + 1 ≤ 5) = true := decide_eq_true (by omega)
      have x1 : IntKind.i64.wrap (10 * ((m : Int) + 1)) = 10 * ((m : Int) + 1) := IntWalk.i64_in _ (by omega)
      have x2 : IntKind.i64.wrap ((m : Int) + 1 + 1) = (m : Int) + 1 + 1 := IntWalk.i64_in _ (by omega)
      have hp := put_any (nodeP_of hnd.out) ((m : Int) + 1) (10 * ((m : Int) + 1)) wr (Below.refl _ _) (by rw [(fiv_ok m (by omega)).2]; have := fivP_len m; omega)
      dsimp only at hp
      clear hbr
      go_wp2_with fail
      refine hp.mono ?_
      rintro e W2 ⟨c0, c1, c2, t', rfl, ht, hnode, hbb⟩
      have hn1 := (grs_below hbb).nd3 Hbx.out (by omega)
      have hrl := hrx.out.lt
      have hr1 := (grs_below hbb).nd3 hrx.out (by omega)
      have hB1 := Hbr.out.trans (hbb.mono Hbr.out.size)
      obtain ⟨d0, d1, d2, n0, k0, n1, k1, n2, k2, rfl, rfl, rfl⟩ := node_shape (nodeP_of hnode)
      have hX1 : GrS W2 (((W2.setCell ⟨w.heap.size + 1, 0, none⟩ (.slice d0 n0 k0)).setCell ⟨w.heap.size + 1, 1, none⟩ (.slice d1 n1 k1)).setCell ⟨w.heap.size + 1, 2, none⟩ (.slice d2 n2 k2)) (fun b => b = w.heap.size + 1) := ((grs_set W2 (w.heap.size + 1) 0 _).trans (grs_set _ _ _ _)).trans (grs_set _ _ _ _)
      have Hset := Lib.hid (hn1.set (.slice d0 n0 k0) (.slice d1 n1 k1) (.slice d2 n2 k2))
      have Hbs := Lib.hid (below_set3 hB1 (show w.heap.size ≤ w.heap.size + 1 by omega) (.slice d0 n0 k0) (.slice d1 n1 k1) (.slice d2 n2 k2))
      have Hr := Lib.hid (hX1.nd3 hr1 (by omega))
      have Hnode : Hid (NodeP (((W2.setCell ⟨w.heap.size + 1, 0, none⟩ (.slice d0 n0 k0)).setCell ⟨w.heap.size + 1, 1, none⟩ (.slice d1 n1 k1)).setCell ⟨w.heap.size + 1, 2, none⟩ (.slice d2 n2 k2)) (fun b => w.heap.size + 1 < b) (.slice d0 n0 k0, .slice d1 n1 k1, .slice d2 n2 k2) (fiv (m + 1))) := by
        have e : t' = fiv (m + 1) := ht.out
        rw [← e]
        exact nodeP_kept (nodeP_mono hnode (fun b _ hb => by omega)) hX1 (fun b hb he => by omega)
      obtain ⟨hlt, p0, p1, p2, z0, z1, z2⟩ := hn1
      clear hp hnode hbb hr1 hB1 hX1
      go_wp2_with fail
      exact ⟨⟨m + 1, _, _, _, rfl, by omega, Hnode.out, Hset.out, Hr.out, Hbs.out⟩, by simp [intOf]; omega⟩
    · have b1 : decide ((m : Int) + 1 ≤ 5) = false := decide_eq_false (by omega)
      obtain rfl : m = 5 := by omega
      have hX1 : GrS wr (((wr.setCell ⟨w.heap.size, 0, none⟩ (.slice a0 n0 k0)).setCell ⟨w.heap.size, 1, none⟩ (.slice a1 n1 k1)).setCell ⟨w.heap.size, 2, none⟩ (.slice a2 n2 k2)) (fun b => b = w.heap.size) := ((grs_set wr w.heap.size 0 _).trans (grs_set _ _ _ _)).trans (grs_set _ _ _ _)
      have hset := hrx.out.set (.slice a0 n0 k0) (.slice a1 n1 k1) (.slice a2 n2 k2)
      have Hset := Lib.hid hset
      have Hbs := Lib.hid (below_set3 Hbr.out (Nat.le_refl _) (.slice a0 n0 k0) (.slice a1 n1 k1) (.slice a2 n2 k2))
      have HX1 := Lib.hid hX1
      obtain ⟨hlt', r0, r1, r2, y0, y1, y2⟩ := hrx.out
      have q0 := hset.c0
      have q1 := hset.c1
      have q2 := hset.c2
      clear hX1 hset hbr hz
      go_wp2_with fail
      exact ⟨rfl, .agg #[.slice a0 n0 k0, .slice a1 n1 k1, .slice a2 n2 k2], by simp [results, Try.f25, go_sem, q0, q1, q2], _, _, _, rfl, nodeP_mono (nodeP_kept hnd.out HX1.out (fun b hb he => by omega)) (fun b _ hb => by omega), Hbs.out⟩
end Go.Proofs.Ytdlgpcjdaaeliaa
