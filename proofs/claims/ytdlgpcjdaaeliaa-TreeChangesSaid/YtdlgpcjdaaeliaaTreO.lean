/- The program's Height and Get; slices.Index of numbers. Conditions: numbers fit. -/
import Derived.Test.YtdlgpcjdaaeliaaTreM
import Derived.Test.YtdlgpcjdaaeliaaTreN
namespace Go.Proofs.Ytdlgpcjdaaeliaa
open Go.RowKit

/-- A node's three cells at b, which may be written. -/
structure Nd3 (w : World) (b : Nat) (v0 v1 v2 : Value) : Prop where
  lt : b < w.heap.size
  c0 : w.cell? ⟨b, 0, none⟩ = some v0
  c1 : w.cell? ⟨b, 1, none⟩ = some v1
  c2 : w.cell? ⟨b, 2, none⟩ = some v2
  f0 : w.frozen? ⟨b, 0, none⟩ = false
  f1 : w.frozen? ⟨b, 1, none⟩ = false
  f2 : w.frozen? ⟨b, 2, none⟩ = false
theorem Nd3.new (w : World) (v0 v1 v2 : Value) (t : TypeId) : Nd3 (w.alloc (.cells #[v0, v1, v2] t)) w.heap.size v0 v1 v2 :=
  ⟨by simp, by rw [World.cell?_alloc_new]; rfl, by rw [World.cell?_alloc_new]; rfl, by rw [World.cell?_alloc_new]; rfl, by rw [World.frozen?_alloc_new], by rw [World.frozen?_alloc_new], by rw [World.frozen?_alloc_new]⟩
theorem Nd3.kept {w w' : World} {b : Nat} {v0 v1 v2 : Value} (h : Nd3 w b v0 v1 v2) (hg : Below w.heap.size w w') : Nd3 w' b v0 v1 v2 :=
  ⟨Nat.lt_of_lt_of_le h.lt hg.size, (hg.cell (p := ⟨b, 0, none⟩) h.lt).trans h.c0, (hg.cell (p := ⟨b, 1, none⟩) h.lt).trans h.c1, (hg.cell (p := ⟨b, 2, none⟩) h.lt).trans h.c2,
    (hg.frozen (p := ⟨b, 0, none⟩) h.lt).trans h.f0, (hg.frozen (p := ⟨b, 1, none⟩) h.lt).trans h.f1, (hg.frozen (p := ⟨b, 2, none⟩) h.lt).trans h.f2⟩
theorem Nd3.set {w : World} {b : Nat} {v0 v1 v2 : Value} (h : Nd3 w b v0 v1 v2) (u0 u1 u2 : Value) : Nd3 (((w.setCell ⟨b, 0, none⟩ u0).setCell ⟨b, 1, none⟩ u1).setCell ⟨b, 2, none⟩ u2) b u0 u1 u2 :=
  ⟨by simpa [World.setCell] using h.lt, set_cell_ne (set_cell_ne (set_cell_same h.c0) (by decide)) (by decide), set_cell_ne (set_cell_same (set_cell_ne h.c1 (by decide))) (by decide), set_cell_same (set_cell_ne (set_cell_ne h.c2 (by decide)) (by decide)),
    by rw [World.frozen?_setCell, World.frozen?_setCell, World.frozen?_setCell]; exact h.f0, by rw [World.frozen?_setCell, World.frozen?_setCell, World.frozen?_setCell]; exact h.f1, by rw [World.frozen?_setCell, World.frozen?_setCell, World.frozen?_setCell]; exact h.f2⟩
theorem below_set3 {B b : Nat} {a w : World} (h : Below B a w) (hb : B ≤ b) (u0 u1 u2 : Value) : Below B a (((w.setCell ⟨b, 0, none⟩ u0).setCell ⟨b, 1, none⟩ u1).setCell ⟨b, 2, none⟩ u2) :=
  ((h.setCell (p := ⟨b, 0, none⟩) hb _).setCell (p := ⟨b, 1, none⟩) hb _).setCell (p := ⟨b, 2, none⟩) hb _
/-- A node's parts. -/
theorem node_parts {w : World} {v0 v1 v2 : Value} {t : Tr} (h : NodeV w (v0, v1, v2) t) : ∃ (ks vs : List Int) (kids : List Tr) (ns : List N3) (aK aV aX : Option Addr) (cK cV cX : Nat), t = .nd ks vs kids ∧ v0 = .slice aK ks.length cK ∧ v1 = .slice aV vs.length cV ∧ v2 = .slice aX ns.length cX ∧
    SlOf w (.slice aK ks.length cK) 1 intE ks ∧ SlOf w (.slice aV vs.length cV) 1 intE vs ∧ SlOf w (.slice aX ns.length cX) 3 nodeE ns ∧ ks.length ≤ maxLen ∧ vs.length ≤ maxLen ∧ kids.length ≤ maxLen ∧ ns.length = kids.length ∧
    ∀ i (hi : i < ns.length) (hj : i < kids.length), NodeV w ns[i] kids[i] := by
  cases h with
  | mk ns hk hv hx lk lv lx hl h =>
    obtain ⟨aK, cK, rfl⟩ := sl_shape hk
    obtain ⟨aV, cV, rfl⟩ := sl_shape hv
    obtain ⟨aX, cX, rfl⟩ := sl_shape hx
    exact ⟨_, _, _, ns, _, _, _, _, _, _, rfl, rfl, rfl, rfl, hk, hv, hx, lk, lv, lx, hl, h⟩
theorem node_shape {w : World} {v0 v1 v2 : Value} {t : Tr} (h : NodeV w (v0, v1, v2) t) : ∃ (aK aV aX : Option Addr) (nK cK nV cV nX cX : Nat), v0 = .slice aK nK cK ∧ v1 = .slice aV nV cV ∧ v2 = .slice aX nX cX := by
  obtain ⟨ks, vs, kids, ns, aK, aV, aX, cK, cV, cX, _, h0, h1, h2, _⟩ := node_parts h
  exact ⟨aK, aV, aX, _, cK, _, cV, _, cX, h0, h1, h2⟩
def hgtR (t : Tr) : Nat := if mayT16 t = true then deepT t 40 else 0
theorem may_parts {t : Tr} (h : mayT16 t = true) : deepT t 40 ≠ 0 ∧ sizedT t 0 = true ∧ (keysP (pairsT t)).Pairwise (· < ·) := by
  unfold mayT16 at h
  rw [Bool.and_eq_true, Bool.and_eq_true, decide_eq_true_eq] at h
  exact ⟨h.1.1, h.1.2, riseK_pw h.2⟩

set_option maxRecDepth 100000 in
set_option maxHeartbeats 4000000 in
theorem height_any {w : World} {n3 : N3} {t : Tr} (h : NodeV w n3 t) (w' : World) (hb : Below w.heap.size w w') :
    Calls Try.prog 13 #[.agg #[n3.1, n3.2.1, n3.2.2]] w' fun e w'' => e = .returned (.int .i64 (hgtR t : Nat)) ∧ Below w'.heap.size w' w'' := by
  obtain ⟨v0, v1, v2⟩ := n3
  have HNd := Lib.hid (Nd3.new w' v0 v1 v2 25)
  obtain ⟨W1, hW, e0, e1, e2, hs1, hb0⟩ := boxed3 w' v0 v1 v2 25
  have HNd1 : Hid (Nd3 W1 w'.heap.size v0 v1 v2) := by rw [← hW]; exact HNd.out
  have hc := may_any h W1 (hb.trans (hb0.mono hb.size))
  have Hb0 := Lib.hid hb0
  have Hb := Lib.hid hb
  have HT := Lib.hid h
  dsimp only at hc ⊢
  clear h hb hb0 HNd
  cases hm : mayT16 t with
  | false =>
    rw [hm] at hc
    have HE : Hid (hgtR t = 0) := by unfold Hid hgtR; rw [hm]; rfl
    clear hm
    go_enter Try.func13, Try.ntmps13
    go_wp2_with fail
    refine hc.mono ?_
    rintro e w2 ⟨rfl, hb2⟩
    have HB2 := Lib.hid hb2
    clear hc hb2
    go_wp2_with fail
    go_ret
    exact ⟨by rw [HE.out]; rfl, Hb0.out.trans (HB2.out.mono (Nat.le_of_lt hs1))⟩
  | true =>
    rw [hm] at hc
    obtain ⟨hdp, hsz, _⟩ := may_parts hm
    have hle := deepT_le t 40
    have hHT := deep_hT t 40 hdp
    have HE : Hid (hgtR t = hT t) := by unfold Hid hgtR; rw [if_pos hm, hHT]
    have h40 : hT t ≤ 40 := by omega
    clear hm hdp hsz hle hHT
    go_enter Try.func13, Try.ntmps13
    go_wp2_with fail
    refine hc.mono ?_
    rintro e w2 ⟨rfl, hb2⟩
    have HB2 := Lib.hid (Hb0.out.trans (hb2.mono (Nat.le_of_lt hs1)))
    have HNd2 := Lib.hid (HNd1.out.kept hb2)
    clear hc hb2 e0 e1 e2
    go_wp2_with fail
    go_loopw [3] (fun i wr => ∃ (m : Nat) (t' : Tr) (u0 u1 u2 : Value), i = .int .i64 m ∧ m + hT t' = hT t + 1 ∧ Hid (NodeV w (u0, u1, u2) t') ∧ Nd3 wr w'.heap.size u0 u1 u2 ∧ Below w'.heap.size w' wr) (fun i _ => hT t + 1 - (intOf i).toNat)
    case atStart => exact ⟨1, t, v0, v1, v2, rfl, by omega, HT.out, HNd2.out, HB2.out⟩
    case round =>
      obtain ⟨m, t', u0, u1, u2, rfl, hmt, hnd, hbx, hbr⟩ := hrel
      obtain ⟨ks, vs, kids, ns, aK, aV, aX, cK, cV, cX, rfl, rfl, rfl, rfl, sK, sV, sX, lk, lv, lx, hl, hkn⟩ := node_parts hnd.out
      have Hbx := Lib.hid hbx
      have Hbr := Lib.hid hbr
      obtain ⟨hlt, p0, p1, p2, z0, z1, z2⟩ := hbx
      have hbb : Below w.heap.size w wr := Hb.out.trans (hbr.mono Hb.out.size)
      have hnl : ns.length ≤ 9223372036854775807 := by unfold maxLen at lx; omega
      have Hl := Lib.hid hl
      by_cases hz : ns.length = 0
      · have b1 : decide ((0 : Int) < (ns.length : Int)) = false := decide_eq_false (by omega)
        have b1n : decide (0 < ns.length) = false := decide_eq_false (by omega)
        have HF : Hid (hT t = m) := by unfold Hid; have := hT_leaf (ks := ks) (vs := vs) (kids := kids) (by omega); omega
        clear hz hmt hl hkn sK sV sX lk lv lx hbb hbr
        go_wp2_with fail
        go_ret
        exact ⟨by rw [HE.out, HF.out]; rfl, Hbr.out⟩
      · have b1 : decide ((0 : Int) < (ns.length : Int)) = true := decide_eq_true (by omega)
        have b1n : decide (0 < ns.length) = true := decide_eq_true (by omega)
        have g0 : (0 : Int) < (ns.length : Int) := by omega
        have g0n : 0 < ns.length := by omega
        have hk0 : 0 < kids.length := by omega
        have hstep := hT_kid (ks := ks) (vs := vs) hk0
        obtain ⟨b, off, hveq, hblt, q0, q1, q2⟩ := kid_at (sl_below sX hbb) g0n
        subst hveq
        have hkid := hkn 0 g0n hk0
        simp only [Nat.zero_mul, Nat.add_zero] at q0 q1 q2
        have hmt2 : (m + 1) + hT kids[0] = hT t + 1 := by omega
        clear hmt hstep hz hl hkn sK sV sX lk lv lx hbb hbr
        generalize kids[0] = kid at *
        generalize hn0 : ns[0]'g0n = n3 at *
        clear hn0
        obtain ⟨y0, y1, y2⟩ := n3
        have Hkid := Lib.hid hkid
        obtain ⟨aK', aV', aX', nK', cK', nV', cV', nX', cX', rfl, rfl, rfl⟩ := node_shape hkid
        dsimp only at q0 q1 q2
        clear hkid
        have Hset := Lib.hid (Hbx.out.set (.slice aK' nK' cK') (.slice aV' nV' cV') (.slice aX' nX' cX'))
        have Hbs := Lib.hid (below_set3 Hbr.out (Nat.le_refl _) (.slice aK' nK' cK') (.slice aV' nV' cV') (.slice aX' nX' cX'))
        have Hmt2 := Lib.hid hmt2
        have hm41 : m ≤ 41 := by omega
        clear hmt2
        go_wp2_with fail
        exact ⟨⟨m + 1, _, _, _, _, by go_num, Hmt2.out, Hkid.out, Hset.out, Hbs.out⟩, by have := Hmt2.out; simp [intOf]; omega⟩

set_option maxRecDepth 100000 in
set_option maxHeartbeats 4000000 in
theorem index_any (u : Value) (l : List Int) (x : Int) (w : World) (hu : SlOf w u 1 intE l) (hl : l.length ≤ 1000000) :
    Calls Try.prog 27 #[u, .int .i64 x] w fun e w' => ∃ r : Int, e = .returned (.int .i64 r) ∧ Hid ((∃ (i : Nat) (hi : i < l.length), r = i ∧ l[i] = x ∧ ∀ j (hj : j < l.length), j < i → l[j] ≠ x) ∨ (r = -1 ∧ ∀ j (hj : j < l.length), l[j] ≠ x)) ∧ Below w.heap.size w w' := by
  have HU := Lib.hid hu
  obtain ⟨a1, c1, rfl⟩ := sl_shape hu
  clear hu
  go_enter Try.func27, Try.ntmps27
  go_wp2_with fail
  go_loopw [8] (fun ui wr => ∃ k : Nat, ui = .int .i64 k ∧ k ≤ l.length ∧ Hid (∀ j (hj : j < l.length), j < k → l[j] ≠ x) ∧ Below w.heap.size w wr) (fun ui _ => l.length - (intOf ui).toNat)
  case atStart => exact ⟨0, rfl, Nat.zero_le _, fun j hj h => by omega, Below.refl _ _⟩
  case round =>
    obtain ⟨k, rfl, hk, hno, hm⟩ := hrel
    have Hm := Lib.hid hm
    by_cases hkl : k < l.length
    · obtain ⟨bx, o1, hveq, hb1, E0⟩ := int_at (sl_below HU.out hm) hkl
      subst hveq
      have HD : Hid (∀ y, l[k] = y → y = x → ∃ (i : Nat) (hi : i < l.length), (k : Int) = i ∧ l[i] = x ∧ ∀ j (hj : j < l.length), j < i → l[j] ≠ x) := fun y hy hyx => ⟨k, hkl, rfl, hy.trans hyx, hno.out⟩
      have HD2 : Hid (∀ y, l[k] = y → y ≠ x → ∀ j (hj : j < l.length), j < k + 1 → l[j] ≠ x) := fun y hy hyx j hj hjk => by
        by_cases hjk2 : j < k
        · exact hno.out j hj hjk2
        · obtain rfl : j = k := by omega
          rw [hy]; exact hyx
      have HD3 := Lib.hid (HD.out _ rfl)
      have HD4 := Lib.hid (HD2.out _ rfl)
      clear hm hno HD HD2
      generalize l[k]'hkl = y at *
      by_cases hx : y = x
      · subst hx
        have HD5 := Lib.hid (HD3.out rfl)
        clear HD3 HD4
        go_wp2_with fail
        go_ret
        exact ⟨_, rfl, Or.inl HD5.out, Hm.out⟩
      · have b1 : (x == y) = false := beq_eq_false_iff_ne.2 (fun h => hx h.symm)
        have HD5 := Lib.hid (HD4.out hx)
        clear HD3 HD4 hx
        go_wp2_with fail
        exact ⟨⟨k + 1, by go_num, by omega, HD5.out, Hm.out⟩, by simp [intOf]; omega⟩
    · obtain rfl : k = l.length := by omega
      have HF : Hid (∀ j (hj : j < l.length), l[j] ≠ x) := fun j hj => hno.out j hj hj
      clear hm hno
      go_wp2_with fail
      go_ret
      exact ⟨_, rfl, Or.inr ⟨rfl, HF.out⟩, Hm.out⟩
end Go.Proofs.Ytdlgpcjdaaeliaa
