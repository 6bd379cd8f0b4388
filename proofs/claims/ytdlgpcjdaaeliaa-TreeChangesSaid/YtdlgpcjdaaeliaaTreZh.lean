/- The law TreeChanges. Conditions: none. -/
import Derived.Test.YtdlgpcjdaaeliaaTreZd
import Derived.Test.YtdlgpcjdaaeliaaTreM
import Derived.Test.YtdlgpcjdaaeliaaTreI
import Derived.Test.YtdlgpcjdaaeliaaHeld
import Derived.Test.YtdlgpcjdaaeliaaRegI
namespace Go.Proofs.Ytdlgpcjdaaeliaa
open Go.RowKit Go.Shelf
attribute [local go_sem] Oper.semAt_some

section
variable {F : Fence} {n : Nat} {P : Program} {l : List Oper} {Q : Exit → Act → World → Prop} {S : World → Prop} {a : Act} {w : World}
/-- One of two comes next; S is to be shown behind it. -/
theorem regi_two_keep {kk : Nat} {fuel : Nat} {listed : Array Bool} {o o' : Oper} (k k' : Nat) (ho : l[k]? = some o) (ho' : l[k']? = some o') (hr : Region.ready .any l.toArray listed = [k, k']) (hcl : Clo .any l.toArray listed)
    (h : ∀ K' : Act → World → Prop, Hid (∀ a w, S w → (Clo .any l.toArray (listed.setIfInBounds k true) → wpAnyHI F n P .any l.toArray Q S kk fuel (listed.setIfInBounds k true) a w) → K' a w) → if Region.wanted o (yielded l.toArray a.tmps) = true then Oper.wpIn F n P o a w K' Q else (∀ f, o.about P w a.eval = some f → F.fn f) ∧ K' (a.put o.dst undef) w)
    (h' : ∀ K' : Act → World → Prop, Hid (∀ a w, S w → (Clo .any l.toArray (listed.setIfInBounds k' true) → wpAnyHI F n P .any l.toArray Q S kk fuel (listed.setIfInBounds k' true) a w) → K' a w) → if Region.wanted o' (yielded l.toArray a.tmps) = true then Oper.wpIn F n P o' a w K' Q else (∀ f, o'.about P w a.eval = some f → F.fn f) ∧ K' (a.put o'.dst undef) w) :
    wpAnyHI F n P .any l.toArray Q S kk (fuel + 1) listed a w := by
  refine ⟨fun h0 => (by rw [hr] at h0; cases h0), fun i hi => ?_⟩
  have hi0 := hi
  rw [hr] at hi
  rcases List.mem_cons.1 hi with rfl | hi
  · exact wpOpIn_step (by simpa using ho) (fun K' hK => h K' (fun a w hS hW => hK a w ⟨fun _ => hS, hW (clo_set hcl hi0)⟩))
  · rw [List.mem_singleton] at hi
    subst hi
    exact wpOpIn_step (by simpa using ho') (fun K' hK => h' K' (fun a w hS hW => hK a w ⟨fun _ => hS, hW (clo_set hcl hi0)⟩))
end

theorem grs_set3 (W : World) (B : Nat) (u0 u1 u2 : Value) : GrS W (((W.setCell ⟨B, 0, none⟩ u0).setCell ⟨B, 1, none⟩ u1).setCell ⟨B, 2, none⟩ u2) (fun b => b = B) := ((grs_set W B 0 u0).trans (grs_set _ _ _ _)).trans (grs_set _ _ _ _)
abbrev chE : (Int × Int × Bool) → List Value := fun x => [.int .i64 x.1, .int .i64 x.2.1, .bool x.2.2]
theorem ch_at {w : World} {a : Option Addr} {n cap : Nat} {l : List (Int × Int × Bool)} (hv : SlOf w (.slice a n cap) 3 chE l) {k : Nat} (hk : k < l.length) :
    ∃ b off, a = some ⟨b, off, none⟩ ∧ b < w.heap.size ∧ w.cell? ⟨b, off + k * 3, none⟩ = some (.int .i64 l[k].1) ∧ w.cell? ⟨b, off + k * 3 + 1, none⟩ = some (.int .i64 l[k].2.1) ∧ w.cell? ⟨b, off + k * 3 + 2, none⟩ = some (.bool l[k].2.2) := by
  obtain ⟨a', cap', hv', hl, hn, hc⟩ := hv
  injection hv' with h1 h2 h3
  subst h1
  rcases hc with rfl | ⟨b, off, rfl, hb, hcell⟩
  · simp at hk
  · exact ⟨b, off, rfl, hb, by simpa using hcell k hk 0 (by omega), by simpa [Nat.add_assoc] using hcell k hk 1 (by omega), by simpa [Nat.add_assoc] using hcell k hk 2 (by omega)⟩
theorem slP_lt {α : Type} {w : World} {v : Value} {k : Nat} {E : α → List Value} {xs : List α} (h : SlOf w v k E xs) : SlP w (fun b => b < w.heap.size) v k E xs := by
  obtain ⟨a, cap, hv, hl, hn, hc⟩ := h
  refine ⟨a, cap, hv, hl, hn, hc.imp id ?_⟩
  rintro ⟨b, off, ha, hb, hcell⟩
  exact ⟨b, off, ha, hb, hb, hcell⟩
theorem nodeP_lt {w : World} {n : N3} {t : Tr} (h : NodeV w n t) : NodeP w (fun b => b < w.heap.size) n t := by
  induction h with
  | mk ns hk hv hx lk lv lx hl _ ih => exact .mk ns (slP_lt hk) (slP_lt hv) (slP_lt hx) lk lv lx hl ih

def ChRel (w : World) (nL : Nat) (up i : Value) (wr : World) : Prop :=
  ∃ (k : Nat) (lp : List (Int × Int)) (aP : Option Addr) (cP : Nat) (t : Tr) (u0 u1 u2 : Value), i = .int .i64 k ∧ k ≤ nL ∧ up = .slice aP lp.length cP ∧ Hid (mayT16 t = true) ∧ Hid (lp = pairsT t) ∧ Hid (lp.length ≤ 12000 + k) ∧ Hid (OwnP wr (w.heap.size + 1) (.slice aP lp.length cP) lp) ∧ Hid (NodeP wr (fun b => b ≠ w.heap.size) (u0, u1, u2) t) ∧ Nd3 wr w.heap.size u0 u1 u2 ∧ Below w.heap.size w wr
theorem nodeP_below {w w' : World} {B : Nat} {n : N3} {t : Tr} (h : NodeP w (fun b => b ≠ B) n t) (hb : Below w.heap.size w w') : NodeP w' (fun b => b ≠ B) n t :=
  nodeP_mono (nodeP_kept (nodeP_mono (P' := fun b => b ≠ B ∧ b < w.heap.size) h (fun b hb h => ⟨h, hb⟩)) (grs_below hb) (fun b h h' => by omega)) (fun b _ h => h.1)

set_option maxRecDepth 100000 in
set_option maxHeartbeats 8000000 in
theorem changes_in {w : World} {n3 : N3} {t : Tr} (h : NodeV w n3 t) (v : Value) (l : List (Int × Int × Bool)) (hv : SlOf w v 3 chE l) :
    CallsIn Fence.wide 6 Try.prog 4 #[.agg #[n3.1, n3.2.1, n3.2.2], v] w fun e w' => e = .returned (.bool true) ∧ Below w.heap.size w w' := by
  obtain ⟨v0, v1, v2⟩ := n3
  obtain ⟨a0, a1, a2, n0, k0, n1, k1, n2, k2, rfl, rfl, rfl⟩ := node_shape h
  obtain ⟨aL, cL, rfl⟩ := sl_shape hv
  obtain ⟨W1, hW, e0, e1, e2, hs1, hb1⟩ := boxed3 w (.slice a0 n0 k0) (.slice a1 n1 k1) (.slice a2 n2 k2) 25
  have HN1 : Hid (Nd3 W1 w.heap.size (.slice a0 n0 k0) (.slice a1 n1 k1) (.slice a2 n2 k2)) := by rw [← hW]; exact Nd3.new _ _ _ _ _
  have HN := Lib.hid h
  have HB1 := Lib.hid hb1
  have HV := Lib.hid hv
  clear h hb1 e0 e1 e2 hv
  obtain ⟨p00, p0, p1, p2, z0, z1, z2⟩ := HN1.out
  dsimp only
  refine callsIn_of_wp Try.func4 rfl trivial ?_ rfl
  simp only [Try.ntmps4, List.size_toArray, List.length_cons, List.length_nil, Nat.reduceAdd, Nat.reduceSub, Array.replicate_succ, Array.replicate_zero, List.push_toArray, List.append_toArray, List.nil_append, List.cons_append]
  gi_wp2
  refine ⟨trivial, (callsIn_wide (n := 6 - 1) |>.2 (fixed_any W1)).mono ?_⟩
  rintro e W2 ⟨rfl, hb2⟩
  have HB2 := Lib.hid (HB1.out.trans (hb2.mono HB1.out.size))
  have HN2 := Lib.hid (HN1.out.kept hb2)
  clear p00 p0 p1 p2 z0 z1 z2
  obtain ⟨p00, p0, p1, p2, z0, z1, z2⟩ := HN2.out
  have hsm := small_any HN.out W2 HB2.out
  dsimp only at hsm
  clear hb2
  gi_wp2
  refine ⟨trivial, (callsIn_wide (n := 6 - 1) |>.2 (hsm)).mono ?_⟩
  rintro e W3 ⟨rfl, hb3⟩
  have HB3 := Lib.hid (HB2.out.trans (hb3.mono HB2.out.size))
  have HN3 := Lib.hid (HN2.out.kept hb3)
  clear p00 p0 p1 p2 z0 z1 z2
  obtain ⟨p00, p0, p1, p2, z0, z1, z2⟩ := HN3.out
  clear hb3 hsm
  cases hsmall : smallT t with
  | false =>
    gi_wp2
    refine ⟨trivial, ?_⟩
    gi_wp2
    refine ⟨trivial, (callsIn_wide (n := 6 - 1) |>.2 (fixed_any W3)).mono ?_⟩
    rintro e W4 ⟨rfl, hb4⟩
    have HB4 := Lib.hid (HB3.out.trans (hb4.mono HB3.out.size))
    clear hb4
    gi_wp2
    exact ⟨rfl, .bool true, by simp [results, Try.f4, go_sem], rfl, HB4.out⟩
  | true =>
  have hlen := small_pairs hsmall
  have hmy := mayR_any HN.out W3 HB3.out (by omega)
  dsimp only at hmy
  clear hsmall
  gi_wp2
  refine ⟨trivial, (callsIn_wide (n := 6 - 1) |>.2 (hmy)).mono ?_⟩
  rintro e W4 ⟨rfl, hb4⟩
  have HB4 := Lib.hid (HB3.out.trans (hb4.mono HB3.out.size))
  have HN4 := Lib.hid (HN3.out.kept hb4)
  clear p00 p0 p1 p2 z0 z1 z2
  obtain ⟨p00, p0, p1, p2, z0, z1, z2⟩ := HN4.out
  clear hb4 hmy
  cases hmay : mayT16 t with
  | false =>
    gi_wp2
    refine ⟨trivial, (callsIn_wide (n := 6 - 1) |>.2 (fixed_any W4)).mono ?_⟩
    rintro e W5 ⟨rfl, hb5⟩
    have HB5 := Lib.hid (HB4.out.trans (hb5.mono HB4.out.size))
    clear hb5
    gi_wp2
    exact ⟨rfl, .bool true, by simp [results, Try.f4, go_sem], rfl, HB5.out⟩
  | true =>
  by_cases h60 : 60 < l.length
  · have b1 : decide ((60 : Int) < (l.length : Int)) = true := decide_eq_true (by omega)
    gi_wp2
    refine ⟨trivial, (callsIn_wide (n := 6 - 1) |>.2 (fixed_any W4)).mono ?_⟩
    rintro e W5 ⟨rfl, hb5⟩
    have HB5 := Lib.hid (HB4.out.trans (hb5.mono HB4.out.size))
    clear hb5
    gi_wp2
    exact ⟨rfl, .bool true, by simp [results, Try.f4, go_sem], rfl, HB5.out⟩
  have b1 : decide ((60 : Int) < (l.length : Int)) = false := decide_eq_false (by omega)
  have hpr := pairs_any HN.out W4 HB4.out (by omega)
  dsimp only at hpr
  have HM := Lib.hid hmay
  have hw4 : w.heap.size + 1 ≤ W4.heap.size := p00
  clear hmay
  gi_wp2
  refine ⟨trivial, (callsIn_wide (n := 6 - 1) |>.2 (hpr)).mono ?_⟩
  rintro e W5 ⟨aP, cP, lp, rfl, hl, hown, hb5⟩
  have HB5 := Lib.hid (HB4.out.trans (hb5.mono HB4.out.size))
  have HN5 := Lib.hid (HN4.out.kept hb5)
  clear p00 p0 p1 p2 z0 z1 z2
  obtain ⟨p00, p0, p1, p2, z0, z1, z2⟩ := HN5.out
  have HO5 : Hid (OwnP W5 (w.heap.size + 1) (.slice aP lp.length cP) lp) := owns_base hown hw4
  have HND : Hid (NodeP W5 (fun b => b ≠ w.heap.size) (.slice a0 n0 k0, .slice a1 n1 k1, .slice a2 n2 k2) t) := nodeP_mono (nodeP_kept (nodeP_lt HN.out) (grs_below HB5.out) (fun b hb hk => by omega)) (fun b _ hb => by omega)
  have HL := Lib.hid hl
  have Hlen : Hid (lp.length ≤ 12000) := by unfold Hid; rw [hl.out]; exact hlen
  clear hpr hl hown hb5 hlen b1
  gi_wp2
  gi_loopw [5, 6] (fun up i wr => ChRel w l.length up i wr) (fun _ i _ => l.length - (intOf i).toNat)
  case atStart => exact ⟨0, lp, aP, cP, t, _, _, _, rfl, Nat.zero_le _, rfl, HM.out, HL.out, Hlen.out, HO5.out, HND.out, HN5.out, HB5.out⟩
  case round =>
    clear HM HL Hlen HO5 HND HN5 p00 p0 p1 p2 z0 z1 z2
    obtain ⟨k, lp, aP, cP, t, u0, u1, u2, rfl, hk, rfl, HM, HL, HLn, HO, HND, hbx, hbr⟩ := hrel
    obtain ⟨a0, a1, a2, n0, k0, n1, k1, n2, k2, rfl, rfl, rfl⟩ := node_shape (nodeP_of HND.out)
    have HNr := Lib.hid hbx
    have HBr := Lib.hid hbr
    obtain ⟨p00, p0, p1, p2, z0, z1, z2⟩ := hbx
    have HP := Lib.hid (sl_of_ownsE pairE_ok HO.out).1
    clear hbr
    by_cases hlt : k < l.length
    · have g0 : (k : Int) < (l.length : Int) := by omega
      have g1 : (0 : Int) ≤ (k : Int) := by omega
      have b5 : decide ((k : Int) < (l.length : Int)) = true := decide_eq_true g0
      have b6 : decide (k < l.length) = true := decide_eq_true hlt
      have x2 : IntKind.i64.wrap ((k : Int) + 1) = (k : Int) + 1 := IntWalk.i64_in _ (by omega)
      obtain ⟨bC, oC, hveq, hbC0, c0, c1, c2⟩ := ch_at HV.out hlt
      replace c0 := (HBr.out.cell (p := ⟨bC, oC + k * 3, none⟩) hbC0).trans c0
      replace c1 := (HBr.out.cell (p := ⟨bC, oC + k * 3 + 1, none⟩) hbC0).trans c1
      replace c2 := (HBr.out.cell (p := ⟨bC, oC + k * 3 + 2, none⟩) hbC0).trans c2
      have hbC : bC < wr.heap.size := Nat.lt_trans hbC0 p00
      have HbCw : Hid (bC ≠ w.heap.size) := by unfold Hid; omega
      clear hbC0
      subst hveq
      generalize l[k] = ch at *
      obtain ⟨kx, kv, kc⟩ := ch
      dsimp only at c0 c1 c2
      generalize l.length = nL at *
      cases kc with
      | true =>
        have hcut : ∀ wx, Held wr wx → CallsIn Fence.wide (6 - 1) Try.prog 19 #[.agg #[.slice a0 n0 k0, .slice a1 n1 k1, .slice a2 n2 k2], .int .i64 kx] wx fun e w'' => ∃ (a0 a1 a2 : Value) (ok : Bool) (t' : Tr), e = .returned (.tuple #[.agg #[a0, a1, a2], .bool ok]) ∧ Hid (ok = cutOk t kx) ∧ Hid (t' = cutTr t kx) ∧ NodeP w'' (fun b => wx.heap.size < b) (a0, a1, a2) t' ∧ Below wx.heap.size wx w'' := fun wx hx =>
          callsIn_wide (n := 6 - 1) |>.2 (cut_any (nodeP_of HND.out) kx wx hx.2 (by have := HLn.out; rw [← HL.out]; omega))
        gi_wp2
        refine regi_start (S := Held wr) 13 (by kernel_rfl) 13 rfl (fun hcl => ?_)
        have hHeld : Held wr wr.drew := held_start
        refine regi_take 0 6 (by kernel_rfl) rfl (by kernel_rfl) (by kernel_rfl) (by kernel_rfl) (by kernel_rfl) (fun _ _ _ h => h) (by rfl) (by intro w' hSw; go_simp; with_reducible rfl) (fun _ => rfl) (by assumption) hcl (fun hcl => ?_)
        try simp only [Act.put, List.setIfInBounds_toArray, List.set_cons_zero, List.set_cons_succ]
        refine regi_take 1 6 (by kernel_rfl) rfl (by kernel_rfl) (by kernel_rfl) (by kernel_rfl) (by kernel_rfl) (fun _ _ _ h => h) (by rfl) (by intro w' hSw; go_simp; with_reducible rfl) (fun _ => rfl) (by assumption) hcl (fun hcl => ?_)
        try simp only [Act.put, List.setIfInBounds_toArray, List.set_cons_zero, List.set_cons_succ]
        refine regi_take 2 6 (by kernel_rfl) rfl (by kernel_rfl) (by kernel_rfl) (by kernel_rfl) (by kernel_rfl) (fun _ _ _ h => h) (by rfl) (by intro w' hSw; go_simp; with_reducible rfl) (fun _ => rfl) (by assumption) hcl (fun hcl => ?_)
        try simp only [Act.put, List.setIfInBounds_toArray, List.set_cons_zero, List.set_cons_succ]
        refine regi_take 3 6 (by kernel_rfl) rfl (by kernel_rfl) (by kernel_rfl) (by kernel_rfl) (by kernel_rfl) (fun _ _ _ h => h) (by rfl) (by intro w' hSw; go_simp; with_reducible rfl) (fun _ => rfl) (by assumption) hcl (fun hcl => ?_)
        try simp only [Act.put, List.setIfInBounds_toArray, List.set_cons_zero, List.set_cons_succ]
        refine regi_take 4 6 (by kernel_rfl) rfl (by kernel_rfl) (by kernel_rfl) (by kernel_rfl) (by kernel_rfl) (fun _ _ _ h => h) (by rfl) (by intro w' hSw; go_simp; with_reducible rfl) (fun _ => rfl) (by assumption) hcl (fun hcl => ?_)
        try simp only [Act.put, List.setIfInBounds_toArray, List.set_cons_zero, List.set_cons_succ]
        refine regi_take 5 6 (by kernel_rfl) rfl (by kernel_rfl) (by kernel_rfl) (by kernel_rfl) (by kernel_rfl) (fun _ _ _ h => h) (by rfl) (by intro w' hSw; go_simp; with_reducible rfl) (fun _ => rfl) (by assumption) hcl (fun hcl => ?_)
        try simp only [Act.put, List.setIfInBounds_toArray, List.set_cons_zero, List.set_cons_succ]
        refine regi_two_keep 6 10 rfl rfl (by kernel_rfl) hcl (fun K hK => ?_) (fun K hK => ?_)
        focus
          go_simp
          refine ⟨trivial, (hcut _ hHeld).mono ?_⟩
          rintro e w9 ⟨d0, d1, d2, ok, t', rfl, hok, ht, hnc, hb9⟩
          obtain ⟨b0, b1, b2, m0, j0, m1, j1, m2, j2, rfl, rfl, rfl⟩ := node_shape (nodeP_of hnc)
          have hh9 : Held wr w9 := held_call hb9 hHeld
          refine hK.out _ _ hh9 (fun hcl => ?_)
          clear hK K
          try simp only [Act.put, List.setIfInBounds_toArray, List.set_cons_zero, List.set_cons_succ]
          refine regi_take 7 6 (by kernel_rfl) rfl (by kernel_rfl) (by kernel_rfl) (by kernel_rfl) (by kernel_rfl) (fun _ _ _ h => h) (by rfl) (by intro w' hSw; go_simp; with_reducible rfl) (fun _ => rfl) (by assumption) hcl (fun hcl => ?_)
          try simp only [Act.put, List.setIfInBounds_toArray, List.set_cons_zero, List.set_cons_succ]
          refine regi_take 8 6 (by kernel_rfl) rfl (by kernel_rfl) (by kernel_rfl) (by kernel_rfl) (by kernel_rfl) (fun _ _ _ h => h) (by rfl) (by intro w' hSw; go_simp; with_reducible rfl) (fun _ => rfl) (by assumption) hcl (fun hcl => ?_)
          try simp only [Act.put, List.setIfInBounds_toArray, List.set_cons_zero, List.set_cons_succ]
          refine regi_take 9 6 (by kernel_rfl) rfl (by kernel_rfl) (by kernel_rfl) (by kernel_rfl) (by kernel_rfl) (fun _ _ _ h => h) (by rfl) (by intro w' hSw; go_simp; with_reducible rfl) (fun _ => rfl) (by assumption) hcl (fun hcl => ?_)
          try simp only [Act.put, List.setIfInBounds_toArray, List.set_cons_zero, List.set_cons_succ]
          refine regi_keep 10 rfl (by kernel_rfl) hcl (fun K hK => ?_)
          go_simp
          have hhA : Held wr (w9.alloc (.cells #[.slice none 0 0, .slice none 0 0, .slice none 0 0] 25)) := held_of (hh9.2.alloc hh9.2.size _)
          have hnA := Nd3.new w9 (.slice none 0 0) (.slice none 0 0) (.slice none 0 0) 25
          have hncA := nodeP_mono (P' := fun b => b ≠ w.heap.size ∧ b ≠ w9.heap.size) hnc (fun b hb hk => ⟨by have hk' : wr.heap.size < b := hk; omega, by omega⟩)
          have hncB := nodeP_kept hncA (grs_alloc w9 (.cells #[.slice none 0 0, .slice none 0 0, .slice none 0 0] 25) (fun _ => False)) (fun _ _ h => h)
          have hsz9 := hh9.2.size
          clear hncA
          refine hK.out _ _ hhA (fun hcl => ?_)
          clear hK K
          try simp only [Act.put, List.setIfInBounds_toArray, List.set_cons_zero, List.set_cons_succ]
          obtain ⟨g00, g0, g1', g2, y0, y1, y2⟩ := id hnA
          refine regi_keep 11 rfl (by kernel_rfl) hcl (fun K hK => ?_)
          go_simp
          have hhS : Held wr (w9.alloc (.cells #[.slice b0 m0 j0, .slice b1 m1 j1, .slice b2 m2 j2] 25)) := held_of (hh9.2.alloc hh9.2.size _)
          have hnS := Nd3.new w9 (.slice b0 m0 j0) (.slice b1 m1 j1) (.slice b2 m2 j2) 25
          have hncS := nodeP_mono (P' := fun b => b ≠ w.heap.size) (nodeP_kept hnc (grs_alloc w9 (.cells #[.slice b0 m0 j0, .slice b1 m1 j1, .slice b2 m2 j2] 25) (fun _ => False)) (fun _ _ h => h)) (fun b hb hk => by have hk' : wr.heap.size < b := hk; omega)
          have hBx : w.heap.size < w9.heap.size := Nat.lt_of_lt_of_le p00 hsz9
          refine hK.out _ _ hhS (fun hcl => ?_)
          clear hK K hnA hhA g00 g0 g1' g2 y0 y1 y2
          try simp only [Act.put, List.setIfInBounds_toArray, List.set_cons_zero, List.set_cons_succ]
          generalize w9.alloc (.cells #[.slice b0 m0 j0, .slice b1 m1 j1, .slice b2 m2 j2] 25) = Wf at *
          generalize w9.heap.size = Bx at *
          refine regi_take 12 6 (by kernel_rfl) rfl (by kernel_rfl) (by kernel_rfl) (by kernel_rfl) (by kernel_rfl) (fun _ _ _ h => h) (by rfl) (by intro w' hSw; go_simp; with_reducible rfl) (fun _ => rfl) (by assumption) hcl (fun hcl => ?_)
          try simp only [Act.put, List.setIfInBounds_toArray, List.set_cons_zero, List.set_cons_succ]
        rotate_left
        focus
          go_simp
          have hhA : Held wr (wr.alloc (.cells #[.slice none 0 0, .slice none 0 0, .slice none 0 0] 25)).drew := held_of (hHeld.2.alloc hHeld.2.size _)
          have hnA : Nd3 (wr.alloc (.cells #[.slice none 0 0, .slice none 0 0, .slice none 0 0] 25)).drew wr.heap.size (.slice none 0 0) (.slice none 0 0) (.slice none 0 0) := Nd3.new wr.drew (.slice none 0 0) (.slice none 0 0) (.slice none 0 0) 25
          refine hK.out _ _ hhA (fun hcl => ?_)
          clear hK K
          try simp only [Act.put, List.setIfInBounds_toArray, List.set_cons_zero, List.set_cons_succ]
          generalize hWA : (wr.alloc (.cells #[.slice none 0 0, .slice none 0 0, .slice none 0 0] 25)).drew = WA at *
          have hszA : wr.heap.size < WA.heap.size := hnA.lt
          have HhA := Lib.hid hhA
          have HnA := Lib.hid hnA
          clear hWA hnA hhA
          refine regi_keep 6 rfl (by kernel_rfl) hcl (fun K hK => ?_)
          go_simp
          refine ⟨trivial, (hcut _ HhA.out).mono ?_⟩
          rintro e w9 ⟨d0, d1, d2, ok, t', rfl, hok, ht, hnc, hb9⟩
          obtain ⟨b0, b1, b2, m0, j0, m1, j1, m2, j2, rfl, rfl, rfl⟩ := node_shape (nodeP_of hnc)
          have hh9 : Held wr w9 := held_call hb9 HhA.out
          have hnA9 := HnA.out.kept (hb9.mono (Nat.le_refl _))
          refine hK.out _ _ hh9 (fun hcl => ?_)
          clear hK K
          try simp only [Act.put, List.setIfInBounds_toArray, List.set_cons_zero, List.set_cons_succ]
          refine regi_take 7 6 (by kernel_rfl) rfl (by kernel_rfl) (by kernel_rfl) (by kernel_rfl) (by kernel_rfl) (fun _ _ _ h => h) (by rfl) (by intro w' hSw; go_simp; with_reducible rfl) (fun _ => rfl) (by assumption) hcl (fun hcl => ?_)
          try simp only [Act.put, List.setIfInBounds_toArray, List.set_cons_zero, List.set_cons_succ]
          refine regi_take 8 6 (by kernel_rfl) rfl (by kernel_rfl) (by kernel_rfl) (by kernel_rfl) (by kernel_rfl) (fun _ _ _ h => h) (by rfl) (by intro w' hSw; go_simp; with_reducible rfl) (fun _ => rfl) (by assumption) hcl (fun hcl => ?_)
          try simp only [Act.put, List.setIfInBounds_toArray, List.set_cons_zero, List.set_cons_succ]
          refine regi_take 9 6 (by kernel_rfl) rfl (by kernel_rfl) (by kernel_rfl) (by kernel_rfl) (by kernel_rfl) (fun _ _ _ h => h) (by rfl) (by intro w' hSw; go_simp; with_reducible rfl) (fun _ => rfl) (by assumption) hcl (fun hcl => ?_)
          try simp only [Act.put, List.setIfInBounds_toArray, List.set_cons_zero, List.set_cons_succ]
          obtain ⟨g00, g0, g1', g2, y0, y1, y2⟩ := id hnA9
          refine regi_keep 11 rfl (by kernel_rfl) hcl (fun K hK => ?_)
          go_simp
          have hhS : Held wr (((w9.setCell ⟨wr.heap.size, 0, none⟩ (.slice b0 m0 j0)).setCell ⟨wr.heap.size, 1, none⟩ (.slice b1 m1 j1)).setCell ⟨wr.heap.size, 2, none⟩ (.slice b2 m2 j2)) := held_of (hh9.2.trans ((grs_set3 w9 wr.heap.size _ _ _).below hh9.2.size (fun k hk => by omega)))
          have hnS := ((hnA9.set0 (.slice b0 m0 j0)).set1 (.slice b1 m1 j1)).set2 (.slice b2 m2 j2)
          have hncS := nodeP_mono (P' := fun b => b ≠ w.heap.size) (nodeP_kept hnc (grs_set3 w9 wr.heap.size (.slice b0 m0 j0) (.slice b1 m1 j1) (.slice b2 m2 j2)) (fun b hb hk => by have hb' : WA.heap.size < b := hb; omega)) (fun b _ hk => by have hb' : WA.heap.size < b := hk; omega)
          have hBx : w.heap.size < wr.heap.size := p00
          refine hK.out _ _ hhS (fun hcl => ?_)
          clear hK K g00 g0 g1' g2 y0 y1 y2 hnA9 HnA HhA hszA
          try simp only [Act.put, List.setIfInBounds_toArray, List.set_cons_zero, List.set_cons_succ]
          generalize ((w9.setCell ⟨wr.heap.size, 0, none⟩ (.slice b0 m0 j0)).setCell ⟨wr.heap.size, 1, none⟩ (.slice b1 m1 j1)).setCell ⟨wr.heap.size, 2, none⟩ (.slice b2 m2 j2) = Wf at *
          generalize hB' : wr.heap.size = Bx at hnS hBx ⊢
          clear hB'
          refine regi_take 12 6 (by kernel_rfl) rfl (by kernel_rfl) (by kernel_rfl) (by kernel_rfl) (by kernel_rfl) (fun _ _ _ h => h) (by rfl) (by intro w' hSw; go_simp; with_reducible rfl) (fun _ => rfl) (by assumption) hcl (fun hcl => ?_)
          try simp only [Act.put, List.setIfInBounds_toArray, List.set_cons_zero, List.set_cons_succ]
        all_goals
          refine regi_done (by kernel_rfl) ?_ _
          have HBf := Lib.hid (HBr.out.trans (hhS.2.mono HBr.out.size))
          have HNf := Lib.hid (HNr.out.kept hhS.2)
          have HOf := Lib.hid (owns_below HO.out hhS.2)
          have HNDf := Lib.hid (nodeP_below HND.out hhS.2)
          have HnS := Lib.hid hnS
          have HncS := Lib.hid hncS
          have HBx := Lib.hid hBx
          have hbC' : bC < Wf.heap.size := Nat.lt_of_lt_of_le hbC hhS.2.size
          have c0' := (hhS.2.cell (p := ⟨bC, oC + k * 3, none⟩) hbC).trans c0
          clear p00 p0 p1 p2 z0 z1 z2 c0 c1 c2 hhS hnS hncS hHeld hBx hbC hcut
          obtain ⟨p00, p0, p1, p2, z0, z1, z2⟩ := HNf.out
          obtain ⟨q00, q0, q1, q2, _, _, _⟩ := HnS.out
          have hgR := getR_any _ _ kx Wf (sl_of_ownsE pairE_ok HOf.out).1 (by have := HLn.out; omega)
          have Hok : Hid (ok = (getP lp kx).isSome) := by unfold Hid; rw [hok.out, HL.out]; exact cutOk_eq HM.out kx
          obtain rfl : t' = cutTr t kx := ht.out
          clear hok ht
          cases hgp : getP lp kx with
          | none =>
            rw [hgp] at hgR
            obtain rfl : ok = false := by rw [Hok.out, hgp]; rfl
            simp only [getV, Option.getD_none, Option.isSome_none] at hgR
            clear hgp
            gi_wp2
            refine ⟨trivial, (callsIn_wide (n := 6 - 1) |>.2 hgR).mono ?_⟩
            rintro e Wg ⟨rfl, hbg⟩
            have HBg := Lib.hid (HBf.out.trans (hbg.mono HBf.out.size))
            have HNg := Lib.hid (HNf.out.kept hbg)
            have HOg := Lib.hid (owns_below HOf.out hbg)
            have HNDg := Lib.hid (nodeP_below HNDf.out hbg)
            clear hbg hgR c0' hbC' p00 p0 p1 p2 z0 z1 z2 q00 q0 q1 q2
            gi_wp2
            exact ⟨⟨k + 1, lp, aP, cP, t, _, _, _, by go_num, by omega, rfl, HM.out, HL.out, (by unfold Hid; have := HLn.out; omega), HOg.out, HNDg.out, HNg.out, HBg.out⟩, by simp [intOf]; omega⟩
          | some v =>
            rw [hgp] at hgR
            obtain rfl : ok = true := by rw [Hok.out, hgp]; rfl
            simp only [getV, Option.getD_some, Option.isSome_some] at hgR
            have Hcut := Lib.hid (cut_ok (t := t) HM.out (by have := HLn.out; rw [← HL.out]; omega) kx (by rw [← HL.out, hgp]; simp))
            clear hgp
            gi_wp2
            refine ⟨trivial, (callsIn_wide (n := 6 - 1) |>.2 hgR).mono ?_⟩
            rintro e Wg ⟨rfl, hbg⟩
            have HBg := Lib.hid (HBf.out.trans (hbg.mono HBf.out.size))
            have HNg := Lib.hid (HNf.out.kept hbg)
            have HOg := Lib.hid (owns_below HOf.out hbg)
            have HncG := Lib.hid (nodeP_below HncS.out hbg)
            have hnSg := HnS.out.kept (hbg.mono (Nat.le_refl _))
            have hbC2 : bC < Wg.heap.size := Nat.lt_of_lt_of_le hbC' hbg.size
            have c0g := (hbg.cell (p := ⟨bC, oC + k * 3, none⟩) hbC').trans c0'
            clear hbg hgR c0' hbC' p00 p0 p1 p2 z0 z1 z2 q00 q0 q1 q2 HBf HNf HOf HNDf HnS HncS
            obtain ⟨p00, p0, p1, p2, z0, z1, z2⟩ := HNg.out
            obtain ⟨q00, q0, q1, q2, _, _, _⟩ := hnSg
            have gset := grs_set3 Wg w.heap.size (.slice b0 m0 j0) (.slice b1 m1 j1) (.slice b2 m2 j2)
            have HBt := Lib.hid (HBg.out.trans (gset.below HBg.out.size (fun k hk => by omega)))
            have HNt := Lib.hid (((HNg.out.set0 (.slice b0 m0 j0)).set1 (.slice b1 m1 j1)).set2 (.slice b2 m2 j2))
            have HOt := Lib.hid (gset.owns HOg.out (fun g hg hk => by have := owns_block HOg.out g hg; omega))
            have HNDt := Lib.hid (nodeP_kept HncG.out gset (fun b h h' => h h'))
            have hbCw : bC ≠ w.heap.size := HbCw.out
            have c0t := (gset.cell (k := bC) (o := oC + k * 3) hbC2 hbCw).trans c0g
            have hszt : Wg.heap.size ≤ (((Wg.setCell ⟨w.heap.size, 0, none⟩ (.slice b0 m0 j0)).setCell ⟨w.heap.size, 1, none⟩ (.slice b1 m1 j1)).setCell ⟨w.heap.size, 2, none⟩ (.slice b2 m2 j2)).heap.size := gset.size
            generalize hWt : ((Wg.setCell ⟨w.heap.size, 0, none⟩ (.slice b0 m0 j0)).setCell ⟨w.heap.size, 1, none⟩ (.slice b1 m1 j1)).setCell ⟨w.heap.size, 2, none⟩ (.slice b2 m2 j2) = Wt at *
            clear gset
            have hcR := cutR_any _ _ kx Wt (sl_of_ownsE pairE_ok HOt.out).1 (by have := HLn.out; omega)
            have HWt := Lib.hid hWt
            clear hWt
            gi_wp2
            rw [HWt.out]
            clear p00 p0 p1 p2 z0 z1 z2 q00 q0 q1 q2 HBg HNg HOg HncG c0g hbC2
            obtain ⟨p00, p0, p1, p2, z0, z1, z2⟩ := HNt.out
            gi_wp2
            refine ⟨trivial, (callsIn_wide (n := 6 - 1) |>.2 hcR).mono ?_⟩
            rintro e Wc ⟨aR, cR, r, rfl, hr, hown, hbc⟩
            have HBc := Lib.hid (HBt.out.trans (hbc.mono HBt.out.size))
            have HNc := Lib.hid (HNt.out.kept hbc)
            have HNDc := Lib.hid (nodeP_below HNDt.out hbc)
            have HOc := Lib.hid (owns_base hown (by omega : w.heap.size + 1 ≤ Wt.heap.size))
            have HMc : Hid (mayT16 (cutTr t kx) = true) := Hcut.out.1
            have HLc : Hid (r = pairsT (cutTr t kx)) := by unfold Hid; rw [Hcut.out.2, ← HL.out]; exact hr.out
            have HLnc : Hid (r.length ≤ 12000 + (k + 1)) := by unfold Hid; rw [hr.out]; have := HLn.out; have := cutP_len lp kx; omega
            clear hcR hr hown hbc p00 p0 p1 p2 z0 z1 z2 HBt HNt HNDt HOt HWt hbCw c0t hszt
            have hklt : k + 1 ≤ nL := hlt
            have hk2 : k < 60 := by omega
            have hp00 : w.heap.size < Wc.heap.size := HNc.out.lt
            obtain ⟨p00, p0, p1, p2, z0, z1, z2⟩ := HNc.out
            have hmR := mayR_any (nodeP_of HNDc.out) Wc (Below.refl _ _) (by have := HLnc.out; rw [← HLc.out]; omega)
            rw [HMc.out] at hmR
            dsimp only at hmR
            gi_wp2
            refine ⟨trivial, (callsIn_wide (n := 6 - 1) |>.2 hmR).mono ?_⟩
            rintro e Wd ⟨rfl, hbd⟩
            have HBd := Lib.hid (HBc.out.trans (hbd.mono HBc.out.size))
            have HNd := Lib.hid (HNc.out.kept hbd)
            have HNDd := Lib.hid (nodeP_below HNDc.out hbd)
            have HOd := Lib.hid (owns_below HOc.out hbd)
            clear hmR hbd p00 p0 p1 p2 z0 z1 z2 HBc HNc HNDc HOc hp00
            obtain ⟨p00, p0, p1, p2, z0, z1, z2⟩ := HNd.out
            have hmy := may_any (nodeP_of HNDd.out) Wd (Below.refl _ _)
            rw [HMc.out] at hmy
            dsimp only at hmy
            gi_wp2
            refine ⟨trivial, (callsIn_wide (n := 6 - 1) |>.2 hmy).mono ?_⟩
            rintro e We ⟨rfl, hbd⟩
            have HBe := Lib.hid (HBd.out.trans (hbd.mono HBd.out.size))
            have HNe := Lib.hid (HNd.out.kept hbd)
            have HNDe := Lib.hid (nodeP_below HNDd.out hbd)
            have HOe := Lib.hid (owns_below HOd.out hbd)
            clear hmy hbd p00 p0 p1 p2 z0 z1 z2 HBd HNd HNDd HOd
            obtain ⟨p00, p0, p1, p2, z0, z1, z2⟩ := HNe.out
            have hpr := pairs_any (nodeP_of HNDe.out) We (Below.refl _ _) (by have := HLnc.out; rw [← HLc.out]; omega)
            dsimp only at hpr
            gi_wp2
            refine ⟨trivial, (callsIn_wide (n := 6 - 1) |>.2 hpr).mono ?_⟩
            rintro e Wf2 ⟨aQ, cQ, q, rfl, hq, hownq, hbd⟩
            obtain rfl : q = r := hq.out.trans HLc.out.symm
            have HBh := Lib.hid (HBe.out.trans (hbd.mono HBe.out.size))
            have HNh := Lib.hid (HNe.out.kept hbd)
            have HNDh := Lib.hid (nodeP_below HNDe.out hbd)
            have HOh := Lib.hid (owns_below HOe.out hbd)
            have hsame := sameP_eq _ _ _ Wf2 (sl_of_ownsE pairE_ok hownq).1 (sl_of_ownsE pairE_ok HOh.out).1 (by have := HLnc.out; omega)
            clear hpr hbd p00 p0 p1 p2 z0 z1 z2 HBe HNe HNDe HOe hownq hq
            gi_wp2
            refine ⟨trivial, (callsIn_wide (n := 6 - 1) |>.2 hsame).mono ?_⟩
            rintro e Wg2 ⟨rfl, hbd⟩
            have HBi := Lib.hid (HBh.out.trans (hbd.mono HBh.out.size))
            have HNi := Lib.hid (HNh.out.kept hbd)
            have HNDi := Lib.hid (nodeP_below HNDh.out hbd)
            have HOi := Lib.hid (owns_below HOh.out hbd)
            clear hsame hbd HBh HNh HNDh HOh
            gi_wp2
            exact ⟨⟨k + 1, q, _, _, _, _, _, _, by go_num, hklt, rfl, HMc.out, HLc.out, HLnc.out, HOi.out, HNDi.out, HNi.out, HBi.out⟩, by simp [intOf]; omega⟩
      | false =>
        have hput : ∀ wx, Held wr wx → CallsIn Fence.wide (6 - 1) Try.prog 21 #[.agg #[.slice a0 n0 k0, .slice a1 n1 k1, .slice a2 n2 k2], .int .i64 kx, .int .i64 kv] wx fun e w'' => ∃ (a0 a1 a2 : Value) (t' : Tr), e = .returned (.agg #[a0, a1, a2]) ∧ Hid (t' = putTr t kx kv) ∧ NodeP w'' (fun b => wx.heap.size < b) (a0, a1, a2) t' ∧ Below wx.heap.size wx w'' := fun wx hx =>
          callsIn_wide (n := 6 - 1) |>.2 (put_any (nodeP_of HND.out) kx kv wx hx.2 (by have := HLn.out; rw [← HL.out]; omega))
        have Hput := Lib.hid (put_ok (t := t) HM.out (by have := HLn.out; rw [← HL.out]; omega) kx kv)
        gi_wp2
        refine regi_start (S := Held wr) 11 (by kernel_rfl) 13 rfl (fun hcl => ?_)
        have hHeld : Held wr wr.drew := held_start
        refine regi_take 0 12 (by kernel_rfl) rfl (by kernel_rfl) (by kernel_rfl) (by kernel_rfl) (by kernel_rfl) (fun _ _ _ h => h) (by rfl) (by intro w' hSw; go_simp; with_reducible rfl) (fun _ => rfl) (by assumption) hcl (fun hcl => ?_)
        try simp only [Act.put, List.setIfInBounds_toArray, List.set_cons_zero, List.set_cons_succ]
        refine regi_take 1 12 (by kernel_rfl) rfl (by kernel_rfl) (by kernel_rfl) (by kernel_rfl) (by kernel_rfl) (fun _ _ _ h => h) (by rfl) (by intro w' hSw; go_simp; with_reducible rfl) (fun _ => rfl) (by assumption) hcl (fun hcl => ?_)
        try simp only [Act.put, List.setIfInBounds_toArray, List.set_cons_zero, List.set_cons_succ]
        refine regi_take 2 12 (by kernel_rfl) rfl (by kernel_rfl) (by kernel_rfl) (by kernel_rfl) (by kernel_rfl) (fun _ _ _ h => h) (by rfl) (by intro w' hSw; go_simp; with_reducible rfl) (fun _ => rfl) (by assumption) hcl (fun hcl => ?_)
        try simp only [Act.put, List.setIfInBounds_toArray, List.set_cons_zero, List.set_cons_succ]
        refine regi_take 3 12 (by kernel_rfl) rfl (by kernel_rfl) (by kernel_rfl) (by kernel_rfl) (by kernel_rfl) (fun _ _ _ h => h) (by rfl) (by intro w' hSw; go_simp; with_reducible rfl) (fun _ => rfl) (by assumption) hcl (fun hcl => ?_)
        try simp only [Act.put, List.setIfInBounds_toArray, List.set_cons_zero, List.set_cons_succ]
        refine regi_take 4 12 (by kernel_rfl) rfl (by kernel_rfl) (by kernel_rfl) (by kernel_rfl) (by kernel_rfl) (fun _ _ _ h => h) (by rfl) (by intro w' hSw; go_simp; with_reducible rfl) (fun _ => rfl) (by assumption) hcl (fun hcl => ?_)
        try simp only [Act.put, List.setIfInBounds_toArray, List.set_cons_zero, List.set_cons_succ]
        refine regi_take 5 12 (by kernel_rfl) rfl (by kernel_rfl) (by kernel_rfl) (by kernel_rfl) (by kernel_rfl) (fun _ _ _ h => h) (by rfl) (by intro w' hSw; go_simp; with_reducible rfl) (fun _ => rfl) (by assumption) hcl (fun hcl => ?_)
        try simp only [Act.put, List.setIfInBounds_toArray, List.set_cons_zero, List.set_cons_succ]
        refine regi_take 6 12 (by kernel_rfl) rfl (by kernel_rfl) (by kernel_rfl) (by kernel_rfl) (by kernel_rfl) (fun _ _ _ h => h) (by rfl) (by intro w' hSw; go_simp; with_reducible rfl) (fun _ => rfl) (by assumption) hcl (fun hcl => ?_)
        try simp only [Act.put, List.setIfInBounds_toArray, List.set_cons_zero, List.set_cons_succ]
        refine regi_take 7 12 (by kernel_rfl) rfl (by kernel_rfl) (by kernel_rfl) (by kernel_rfl) (by kernel_rfl) (fun _ _ _ h => h) (by rfl) (by intro w' hSw; go_simp; with_reducible rfl) (fun _ => rfl) (by assumption) hcl (fun hcl => ?_)
        try simp only [Act.put, List.setIfInBounds_toArray, List.set_cons_zero, List.set_cons_succ]
        refine regi_take 8 12 (by kernel_rfl) rfl (by kernel_rfl) (by kernel_rfl) (by kernel_rfl) (by kernel_rfl) (fun _ _ _ h => h) (by rfl) (by intro w' hSw; go_simp; with_reducible rfl) (fun _ => rfl) (by assumption) hcl (fun hcl => ?_)
        try simp only [Act.put, List.setIfInBounds_toArray, List.set_cons_zero, List.set_cons_succ]
        refine regi_take 9 12 (by kernel_rfl) rfl (by kernel_rfl) (by kernel_rfl) (by kernel_rfl) (by kernel_rfl) (fun _ _ _ h => h) (by rfl) (by intro w' hSw; go_simp; with_reducible rfl) (fun _ => rfl) (by assumption) hcl (fun hcl => ?_)
        try simp only [Act.put, List.setIfInBounds_toArray, List.set_cons_zero, List.set_cons_succ]
        refine regi_take 10 12 (by kernel_rfl) rfl (by kernel_rfl) (by kernel_rfl) (by kernel_rfl) (by kernel_rfl) (fun _ _ _ h => h) (by rfl) (by intro w' hSw; go_simp; with_reducible rfl) (fun _ => rfl) (by assumption) hcl (fun hcl => ?_)
        try simp only [Act.put, List.setIfInBounds_toArray, List.set_cons_zero, List.set_cons_succ]
        refine regi_call 11 (by decide) rfl (by kernel_rfl) (fun K hK => ?_)
        go_simp
        refine ⟨trivial, (hput _ hHeld).mono ?_⟩
        rintro e w9 ⟨d0, d1, d2, t', rfl, ht, hnc, hb9⟩
        obtain ⟨b0, b1, b2, m0, j0, m1, j1, m2, j2, rfl, rfl, rfl⟩ := node_shape (nodeP_of hnc)
        obtain rfl : t' = putTr t kx kv := ht.out
        have hh9 : Held wr w9 := held_call hb9 hHeld
        have HBg := Lib.hid (HBr.out.trans (hh9.2.mono HBr.out.size))
        have HNg := Lib.hid (HNr.out.kept hh9.2)
        have HOg := Lib.hid (owns_below HO.out hh9.2)
        have HncG := Lib.hid (nodeP_mono (P' := fun b => b ≠ w.heap.size) hnc (fun b _ hk => by have hk' : wr.heap.size < b := hk; omega))
        have hbC2 : bC < w9.heap.size := Nat.lt_of_lt_of_le hbC hh9.2.size
        have c0g := (hh9.2.cell (p := ⟨bC, oC + k * 3, none⟩) hbC).trans c0
        have c1g := (hh9.2.cell (p := ⟨bC, oC + k * 3 + 1, none⟩) hbC).trans c1
        refine hK.out _ _ ?_
        clear hK K ht hnc hput hcl
        try simp only [Act.put, List.setIfInBounds_toArray, List.set_cons_zero, List.set_cons_succ]
        refine regi_call 12 (by decide) rfl (by kernel_rfl) (fun K hK => ?_)
        clear p00 p0 p1 p2 z0 z1 z2 c0 c1 c2 hHeld hbC hh9
        obtain ⟨p00, p0, p1, p2, z0, z1, z2⟩ := HNg.out
        go_simp
        have gset := grs_set3 w9 w.heap.size (.slice b0 m0 j0) (.slice b1 m1 j1) (.slice b2 m2 j2)
        have HBt := Lib.hid (HBg.out.trans (gset.below HBg.out.size (fun k hk => by omega)))
        have HNt := Lib.hid (((HNg.out.set0 (.slice b0 m0 j0)).set1 (.slice b1 m1 j1)).set2 (.slice b2 m2 j2))
        have HOt := Lib.hid (gset.owns HOg.out (fun g hg hk => by have := owns_block HOg.out g hg; omega))
        have HNDt := Lib.hid (nodeP_kept HncG.out gset (fun b h h' => h h'))
        have hbCw : bC ≠ w.heap.size := HbCw.out
        have c0 := (gset.cell (k := bC) (o := oC + k * 3) hbC2 hbCw).trans c0g
        have c1 := (gset.cell (k := bC) (o := oC + k * 3 + 1) hbC2 hbCw).trans c1g
        have hszt : w9.heap.size ≤ (((w9.setCell ⟨w.heap.size, 0, none⟩ (.slice b0 m0 j0)).setCell ⟨w.heap.size, 1, none⟩ (.slice b1 m1 j1)).setCell ⟨w.heap.size, 2, none⟩ (.slice b2 m2 j2)).heap.size := gset.size
        generalize ((w9.setCell ⟨w.heap.size, 0, none⟩ (.slice b0 m0 j0)).setCell ⟨w.heap.size, 1, none⟩ (.slice b1 m1 j1)).setCell ⟨w.heap.size, 2, none⟩ (.slice b2 m2 j2) = Wt at *
        refine hK.out _ _ ?_
        clear hK K gset HBg HNg HOg HncG c0g c1g p00 p0 p1 p2 z0 z1 z2
        try simp only [Act.put, List.setIfInBounds_toArray, List.set_cons_zero, List.set_cons_succ]
        refine regi_done (by kernel_rfl) ?_ _
        have hbC : bC < Wt.heap.size := Nat.lt_of_lt_of_le hbC2 hszt
        have hpR : ∀ wx, Held Wt wx → CallsIn Fence.wide (6 - 1) Try.prog 22 #[.slice aP lp.length cP, .int .i64 kx, .int .i64 kv] wx fun e w' => ∃ (a : Option Addr) (cap : Nat) (r : List (Int × Int)), e = .returned (.slice a r.length cap) ∧ Hid (r = putP lp kx kv) ∧ OwnP w' wx.heap.size (.slice a r.length cap) r ∧ Below wx.heap.size wx w' := fun wx hx =>
          callsIn_wide (n := 6 - 1) |>.2 (putR_any _ _ kx kv wx (sl_of_ownsE pairE_ok (owns_below HOt.out hx.2)).1 (by have := HLn.out; omega))
        gi_wp2
        refine regi_start (S := Held Wt) 11 (by kernel_rfl) 13 rfl (fun hcl => ?_)
        have hHeld : Held Wt Wt.drew := held_start
        refine regi_take 0 12 (by kernel_rfl) rfl (by kernel_rfl) (by kernel_rfl) (by kernel_rfl) (by kernel_rfl) (fun _ _ _ h => h) (by rfl) (by intro w' hSw; go_simp; with_reducible rfl) (fun _ => rfl) (by assumption) hcl (fun hcl => ?_)
        try simp only [Act.put, List.setIfInBounds_toArray, List.set_cons_zero, List.set_cons_succ]
        refine regi_take 1 12 (by kernel_rfl) rfl (by kernel_rfl) (by kernel_rfl) (by kernel_rfl) (by kernel_rfl) (fun _ _ _ h => h) (by rfl) (by intro w' hSw; go_simp; with_reducible rfl) (fun _ => rfl) (by assumption) hcl (fun hcl => ?_)
        try simp only [Act.put, List.setIfInBounds_toArray, List.set_cons_zero, List.set_cons_succ]
        refine regi_take 2 12 (by kernel_rfl) rfl (by kernel_rfl) (by kernel_rfl) (by kernel_rfl) (by kernel_rfl) (fun _ _ _ h => h) (by rfl) (by intro w' hSw; go_simp; with_reducible rfl) (fun _ => rfl) (by assumption) hcl (fun hcl => ?_)
        try simp only [Act.put, List.setIfInBounds_toArray, List.set_cons_zero, List.set_cons_succ]
        refine regi_take 3 12 (by kernel_rfl) rfl (by kernel_rfl) (by kernel_rfl) (by kernel_rfl) (by kernel_rfl) (fun _ _ _ h => h) (by rfl) (by intro w' hSw; go_simp; with_reducible rfl) (fun _ => rfl) (by assumption) hcl (fun hcl => ?_)
        try simp only [Act.put, List.setIfInBounds_toArray, List.set_cons_zero, List.set_cons_succ]
        refine regi_take 4 12 (by kernel_rfl) rfl (by kernel_rfl) (by kernel_rfl) (by kernel_rfl) (by kernel_rfl) (fun _ _ _ h => h) (by rfl) (by intro w' hSw; go_simp; with_reducible rfl) (fun _ => rfl) (by assumption) hcl (fun hcl => ?_)
        try simp only [Act.put, List.setIfInBounds_toArray, List.set_cons_zero, List.set_cons_succ]
        refine regi_take 5 12 (by kernel_rfl) rfl (by kernel_rfl) (by kernel_rfl) (by kernel_rfl) (by kernel_rfl) (fun _ _ _ h => h) (by rfl) (by intro w' hSw; go_simp; with_reducible rfl) (fun _ => rfl) (by assumption) hcl (fun hcl => ?_)
        try simp only [Act.put, List.setIfInBounds_toArray, List.set_cons_zero, List.set_cons_succ]
        refine regi_take 6 12 (by kernel_rfl) rfl (by kernel_rfl) (by kernel_rfl) (by kernel_rfl) (by kernel_rfl) (fun _ _ _ h => h) (by rfl) (by intro w' hSw; go_simp; with_reducible rfl) (fun _ => rfl) (by assumption) hcl (fun hcl => ?_)
        try simp only [Act.put, List.setIfInBounds_toArray, List.set_cons_zero, List.set_cons_succ]
        refine regi_take 7 12 (by kernel_rfl) rfl (by kernel_rfl) (by kernel_rfl) (by kernel_rfl) (by kernel_rfl) (fun _ _ _ h => h) (by rfl) (by intro w' hSw; go_simp; with_reducible rfl) (fun _ => rfl) (by assumption) hcl (fun hcl => ?_)
        try simp only [Act.put, List.setIfInBounds_toArray, List.set_cons_zero, List.set_cons_succ]
        refine regi_take 8 12 (by kernel_rfl) rfl (by kernel_rfl) (by kernel_rfl) (by kernel_rfl) (by kernel_rfl) (fun _ _ _ h => h) (by rfl) (by intro w' hSw; go_simp; with_reducible rfl) (fun _ => rfl) (by assumption) hcl (fun hcl => ?_)
        try simp only [Act.put, List.setIfInBounds_toArray, List.set_cons_zero, List.set_cons_succ]
        refine regi_take 9 12 (by kernel_rfl) rfl (by kernel_rfl) (by kernel_rfl) (by kernel_rfl) (by kernel_rfl) (fun _ _ _ h => h) (by rfl) (by intro w' hSw; go_simp; with_reducible rfl) (fun _ => rfl) (by assumption) hcl (fun hcl => ?_)
        try simp only [Act.put, List.setIfInBounds_toArray, List.set_cons_zero, List.set_cons_succ]
        refine regi_take 10 12 (by kernel_rfl) rfl (by kernel_rfl) (by kernel_rfl) (by kernel_rfl) (by kernel_rfl) (fun _ _ _ h => h) (by rfl) (by intro w' hSw; go_simp; with_reducible rfl) (fun _ => rfl) (by assumption) hcl (fun hcl => ?_)
        try simp only [Act.put, List.setIfInBounds_toArray, List.set_cons_zero, List.set_cons_succ]
        refine regi_call 11 (by decide) rfl (by kernel_rfl) (fun K hK => ?_)
        go_simp
        refine ⟨trivial, (hpR _ hHeld).mono ?_⟩
        rintro e Wc ⟨aR, cR, r, rfl, hr, hown, hb9⟩
        have hh9 : Held Wt Wc := held_call hb9 hHeld
        have HBc := Lib.hid (HBt.out.trans (hh9.2.mono HBt.out.size))
        have HNc := Lib.hid (HNt.out.kept hh9.2)
        have HNDc := Lib.hid (nodeP_below HNDt.out hh9.2)
        have HOc := Lib.hid (owns_base hown (by have : w.heap.size < Wt.heap.size := HNt.out.lt; exact this : w.heap.size + 1 ≤ Wt.drew.heap.size))
        have HMc : Hid (mayT16 (putTr t kx kv) = true) := Hput.out.1
        have HLc : Hid (r = pairsT (putTr t kx kv)) := by unfold Hid; rw [Hput.out.2, ← HL.out]; exact hr.out
        have HLnc : Hid (r.length ≤ 12000 + (k + 1)) := by unfold Hid; rw [hr.out]; have := HLn.out; have := put_len lp kx kv; omega
        refine hK.out _ _ ?_
        clear hK K hr hown hb9 hh9 hpR HBt HNt HNDt HOt hbCw c0 c1 hszt hbC hbC2 hcl hHeld
        try simp only [Act.put, List.setIfInBounds_toArray, List.set_cons_zero, List.set_cons_succ]
        refine regi_call 12 (by decide) rfl (by kernel_rfl) (fun K hK => ?_)
        go_simp
        refine hK.out _ _ ?_
        clear hK K
        try simp only [Act.put, List.setIfInBounds_toArray, List.set_cons_zero, List.set_cons_succ]
        refine regi_done (by kernel_rfl) ?_ _
        have hklt : k + 1 ≤ nL := hlt
        have hk2 : k < 60 := by omega
        have hp00 : w.heap.size < Wc.heap.size := HNc.out.lt
        obtain ⟨p00, p0, p1, p2, z0, z1, z2⟩ := HNc.out
        have hmR := mayR_any (nodeP_of HNDc.out) Wc (Below.refl _ _) (by have := HLnc.out; rw [← HLc.out]; omega)
        rw [HMc.out] at hmR
        dsimp only at hmR
        gi_wp2
        refine ⟨trivial, (callsIn_wide (n := 6 - 1) |>.2 hmR).mono ?_⟩
        rintro e Wd ⟨rfl, hbd⟩
        have HBd := Lib.hid (HBc.out.trans (hbd.mono HBc.out.size))
        have HNd := Lib.hid (HNc.out.kept hbd)
        have HNDd := Lib.hid (nodeP_below HNDc.out hbd)
        have HOd := Lib.hid (owns_below HOc.out hbd)
        clear hmR hbd p00 p0 p1 p2 z0 z1 z2 HBc HNc HNDc HOc hp00
        obtain ⟨p00, p0, p1, p2, z0, z1, z2⟩ := HNd.out
        have hmy := may_any (nodeP_of HNDd.out) Wd (Below.refl _ _)
        rw [HMc.out] at hmy
        dsimp only at hmy
        gi_wp2
        refine ⟨trivial, (callsIn_wide (n := 6 - 1) |>.2 hmy).mono ?_⟩
        rintro e We ⟨rfl, hbd⟩
        have HBe := Lib.hid (HBd.out.trans (hbd.mono HBd.out.size))
        have HNe := Lib.hid (HNd.out.kept hbd)
        have HNDe := Lib.hid (nodeP_below HNDd.out hbd)
        have HOe := Lib.hid (owns_below HOd.out hbd)
        clear hmy hbd p00 p0 p1 p2 z0 z1 z2 HBd HNd HNDd HOd
        obtain ⟨p00, p0, p1, p2, z0, z1, z2⟩ := HNe.out
        have hpr := pairs_any (nodeP_of HNDe.out) We (Below.refl _ _) (by have := HLnc.out; rw [← HLc.out]; omega)
        dsimp only at hpr
        gi_wp2
        refine ⟨trivial, (callsIn_wide (n := 6 - 1) |>.2 hpr).mono ?_⟩
        rintro e Wf2 ⟨aQ, cQ, q, rfl, hq, hownq, hbd⟩
        obtain rfl : q = r := hq.out.trans HLc.out.symm
        have HBh := Lib.hid (HBe.out.trans (hbd.mono HBe.out.size))
        have HNh := Lib.hid (HNe.out.kept hbd)
        have HNDh := Lib.hid (nodeP_below HNDe.out hbd)
        have HOh := Lib.hid (owns_below HOe.out hbd)
        have hsame := sameP_eq _ _ _ Wf2 (sl_of_ownsE pairE_ok hownq).1 (sl_of_ownsE pairE_ok HOh.out).1 (by have := HLnc.out; omega)
        clear hpr hbd p00 p0 p1 p2 z0 z1 z2 HBe HNe HNDe HOe hownq hq
        gi_wp2
        refine ⟨trivial, (callsIn_wide (n := 6 - 1) |>.2 hsame).mono ?_⟩
        rintro e Wg2 ⟨rfl, hbd⟩
        have HBi := Lib.hid (HBh.out.trans (hbd.mono HBh.out.size))
        have HNi := Lib.hid (HNh.out.kept hbd)
        have HNDi := Lib.hid (nodeP_below HNDh.out hbd)
        have HOi := Lib.hid (owns_below HOh.out hbd)
        clear hsame hbd HBh HNh HNDh HOh
        gi_wp2
        exact ⟨⟨k + 1, q, _, _, _, _, _, _, by go_num, hklt, rfl, HMc.out, HLc.out, HLnc.out, HOi.out, HNDi.out, HNi.out, HBi.out⟩, by simp [intOf]; omega⟩
    · obtain rfl : k = l.length := by omega
      clear hlt hk
      have HMc := HM
      have hw := HLn.out
      have b5 : decide ((l.length : Int) < (l.length : Int)) = false := by simp
      have b6 : decide (l.length < l.length) = false := by simp
      have hwk := walk_any (nodeP_of HND.out) (-9223372036854775808) 9223372036854775807 wr (Below.refl _ _) (by rw [← HL.out]; omega)
      dsimp only at hwk
      gi_wp2
      refine ⟨trivial, (callsIn_wide (n := 6 - 1) |>.2 hwk).mono ?_⟩
      rintro e W7 ⟨aQ, cQ, q, rfl, hq, hownq, hbd⟩
      obtain rfl : q = walkP lp (-9223372036854775808) 9223372036854775807 := hq.out.trans ((walkT_eq HM.out _ _).trans (by rw [← HL.out]))
      have HB7 := Lib.hid (HBr.out.trans (hbd.mono HBr.out.size))
      have HO7 := Lib.hid (owns_below HO.out hbd)
      have HQ7 := Lib.hid hownq
      have hwR := walkR_any _ _ (-9223372036854775808) 9223372036854775807 W7 (sl_of_ownsE pairE_ok HO7.out).1 (by omega)
      clear hwk hq hownq hbd p00 p0 p1 p2 z0 z1 z2
      gi_wp2
      refine ⟨trivial, (callsIn_wide (n := 6 - 1) |>.2 hwR).mono ?_⟩
      rintro e W8 ⟨aS, cS, s, rfl, hs, howns, hbd⟩
      obtain rfl : s = walkP lp (-9223372036854775808) 9223372036854775807 := hs.out
      have HB8 := Lib.hid (HB7.out.trans (hbd.mono HB7.out.size))
      have hsame := sameP_eq _ _ _ W8 (sl_of_ownsE pairE_ok (owns_below HQ7.out hbd)).1 (sl_of_ownsE pairE_ok howns).1 (by have := walk_len lp (-9223372036854775808) 9223372036854775807; omega)
      clear hwR hs howns hbd
      gi_wp2
      refine ⟨trivial, (callsIn_wide (n := 6 - 1) |>.2 hsame).mono ?_⟩
      rintro e W9 ⟨rfl, hbd⟩
      have HB9 := Lib.hid (HB8.out.trans (hbd.mono HB8.out.size))
      clear hsame hbd
      gi_wp2
      exact ⟨rfl, .bool true, by simp [results, Try.f4, go_sem], rfl, HB9.out⟩
theorem changes_any {w : World} {n3 : N3} {t : Tr} (h : NodeV w n3 t) (v : Value) (l : List (Int × Int × Bool)) (hv : SlOf w v 3 chE l) :
    Calls Try.prog 4 #[.agg #[n3.1, n3.2.1, n3.2.2], v] w fun e w' => e = .returned (.bool true) ∧ Below w.heap.size w w' := (callsIn_wide (n := 6)).1 (changes_in h v l hv)
end Go.Proofs.Ytdlgpcjdaaeliaa
