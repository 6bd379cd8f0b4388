/- heap.Push, heap.Pop at a forest; mark. Conditions: numbers fit. -/
import Derived.Test.YtpkbbbdbcedkfaaHufE
namespace Go.Proofs.Ytpkbbbdbcedkfaa
open Go.RowKit

set_option maxRecDepth 100000 in
set_option maxHeartbeats 4000000 in
theorem push_any (B F : Nat) (A : List HT) (p : Nat) (t : HT) (w : World) (h : ForS B F w A) (hrep : Rep w p t) (hl : A.length < 1000000) (hh : Heap A A.length) :
    Calls Try.prog 21 #[forestV F, .iface 36 (ptrV p)] w fun e w' => e = .returned (.tuple #[]) ∧ ∃ A', ForS B F w' A' ∧ A'.Perm (t :: A) ∧ Heap A' A'.length ∧ Kp B w w' := by
  have H := Lib.hid h
  have Hrep := Lib.hid hrep
  have HH := Lib.hid hh
  clear h hrep hh
  have m1 := fun wx => meth_push ⟨F, 0, none⟩ wx
  go_enter Try.func21, Try.ntmps21
  go_wp2_with fail
  refine (pushM_any B F A p t w H.out Hrep.out hl).mono ?_
  rintro e w1 ⟨rfl, hfs1, hkp1⟩
  have Hfs1 := Lib.hid hfs1
  have Hkp1 := Lib.hid hkp1
  obtain ⟨v, ps, hB, hF, hr⟩ := hfs1
  have hcell := fs_cell hF
  have m2 := meth_len F w1 v hcell
  have hlen : (A ++ [t]).length = A.length + 1 := by simp
  obtain ⟨a0, c0, rfl, _⟩ := owns_shape hr.1
  have hln := len_any _ (A ++ [t]).length w1 a0 c0 rfl
  rw [hlen] at hln
  rw [hlen] at hcell m2
  clear hB hF hr m1 hkp1 hcell
  go_wp2_with fail
  refine hln.mono ?_
  rintro e w2 ⟨rfl, rfl⟩
  have hup := up_any B F (A ++ [t]) A.length w1 Hfs1.out (by simp) (by simp; omega) (by rw [hlen]; exact up_start HH.out)
  have x1 : (((A.length + 1 : Nat) : Int) - 1) = (A.length : Int) := by omega
  clear hln m2
  go_wp2_with fail
  refine hup.mono ?_
  rintro e w3 ⟨rfl, A', hfs3, hp3, hh3, hkp3⟩
  go_wp2_with fail
  go_end0
  exact ⟨rfl, A', hfs3, hp3.trans (List.perm_append_comm (l₁ := A) (l₂ := [t])), hh3, Hkp1.out.trans hkp3⟩

theorem take_at {A : List HT} {n i : Nat} (hi : i < n) : atT (A.take n) i = atT A i := by
  unfold atT; rw [List.getElem?_take_of_lt hi]

set_option maxRecDepth 100000 in
set_option maxHeartbeats 4000000 in
theorem pop_any (B F : Nat) (A : List HT) (n : Nat) (w : World) (h : ForS B F w A) (hn : A.length = n + 1) (hl : A.length ≤ 1000000) (hh : Heap A A.length) :
    Calls Try.prog 23 #[forestV F] w fun e w' => ∃ p t A', e = .returned (.iface 36 (ptrV p)) ∧ Rep w' p t ∧ ForS B F w' A' ∧ (t :: A').Perm A ∧ (∀ x ∈ A', leT t x) ∧ Heap A' A'.length ∧ Kp B w w' := by
  have H := Lib.hid h
  have HH := Lib.hid hh
  obtain ⟨v, ps, hB, hF, hr⟩ := h
  have hcell := fs_cell hF
  have m1 := meth_len F w v hcell
  have m2 := meth_swap F w v hcell
  have hsw := swap_fs hB hF hr 0 n (by omega) (by omega) hl
  obtain ⟨a0, c0, rfl, _⟩ := owns_shape hr.1
  have hln := len_any _ A.length w a0 c0 rfl
  rw [hn] at hln m1 m2 hsw
  have x1 : (((n + 1 : Nat) : Int) - 1) = (n : Int) := by omega
  clear hB hF hr hcell hh
  go_enter Try.func23, Try.ntmps23
  go_wp2_with fail
  refine hln.mono ?_
  rintro e w1 ⟨rfl, rfl⟩
  clear m1 hln
  go_wp2_with fail
  refine hsw.mono ?_
  rintro e w2 ⟨rfl, hfs2, hkp2⟩
  have Hkp2 := Lib.hid hkp2
  have hdn := down_any B F (swapT A 0 n) n w2 hfs2 (by rw [swapT_length]; exact hn) (by rw [swapT_length]; exact hl) (dn_start hn (by have := HH.out; rwa [hn] at this))
  clear hsw m2 hkp2 hfs2
  go_wp2_with fail
  refine hdn.mono ?_
  rintro e w3 ⟨⟨b, rfl⟩, A3, hfs3, hp3, hh3, hlast, hkp3⟩
  have Hkp3 := Lib.hid (Hkp2.out.trans hkp3)
  have hlen3 : A3.length = n + 1 := by rw [hp3.length_eq, swapT_length]; exact hn
  have m3 := meth_pop ⟨F, 0, none⟩ w3
  have hpm := popM_any B F A3 n w3 hfs3 hlen3 (by omega)
  have Hp3 := Lib.hid (hp3.trans (swapT_perm (by omega) (by omega)))
  have Hh3 := Lib.hid hh3
  have Hlast : Hid (atT A3 n = atT A 0) := by
    unfold Hid
    rw [hlast, swapT_at (by omega) (by omega), if_pos rfl]
  have Hlen3 := Lib.hid hlen3
  clear hdn hfs3 hp3 hh3 hlast hkp3 hlen3
  go_wp2_with fail
  refine hpm.mono ?_
  rintro e w4 ⟨p, rfl, hrep4, hfs4, hkp4⟩
  have Hrep4 := Lib.hid hrep4
  have Hfs4 := Lib.hid hfs4
  have Hkp4 := Lib.hid (Hkp3.out.trans hkp4)
  clear hpm m3 hrep4 hfs4 hkp4
  go_wp2_with fail
  go_ret
  have htl : (A3.take n).length = n := by rw [List.length_take, Hlen3.out]; omega
  have hperm : (atT A3 n :: A3.take n).Perm A := by
    have hlt : n < A3.length := by rw [Hlen3.out]; omega
    have e : A3 = A3.take n ++ [atT A3 n] := by
      rw [atT_get hlt, ← List.take_succ_eq_append_getElem hlt, List.take_of_length_le (by rw [Hlen3.out]; exact Nat.le_refl _)]
    have h1 : (atT A3 n :: A3.take n).Perm (A3.take n ++ [atT A3 n]) := List.perm_append_comm (l₁ := [atT A3 n]) (l₂ := A3.take n)
    rw [← e] at h1
    exact h1.trans Hp3.out
  refine ⟨p, _, _, rfl, Hrep4.out, Hfs4.out, hperm, fun x hx => ?_, fun i h0 hi => ?_, Hkp4.out⟩
  · rw [Hlast.out]
    have hxA := hperm.mem_iff.1 (List.mem_cons_of_mem _ hx)
    obtain ⟨j, hj, rfl⟩ := List.getElem_of_mem hxA
    rw [← atT_get hj]
    exact heap_min HH.out j hj
  · rw [htl] at hi
    have := par_lt h0
    rw [take_at (by omega), take_at hi]
    exact Hh3.out i h0 hi

/-- All blocks but those of integers are as they were. -/
structure Km (B : Nat) (w w' : World) : Prop where
  below : Below B w w'
  keep : ∀ (b : Nat) (cs : Array Value) (t : TypeId), w.heap[b]? = some (Obj.cells cs t (0, 0)) → t ≠ 3 → w'.heap[b]? = w.heap[b]?
theorem rep_km {B : Nat} {w w' : World} (h : Km B w w') : ∀ {t : HT} {p : Nat}, Rep w p t → Rep w' p t := by
  intro t
  induction t with
  | leaf x n => intro p hr; exact (h.keep p _ _ hr (by decide)).trans hr
  | node l r ihl ihr =>
    intro p hr
    obtain ⟨pl, pr, hh, hl, hr⟩ := hr
    exact ⟨pl, pr, (h.keep p _ _ hh (by decide)).trans hh, ihl hl, ihr hr⟩
theorem Km.trans {B : Nat} {a b c : World} (h : Km B a b) (k : Km B b c) : Km B a c :=
  ⟨h.below.trans k.below, fun g cs t hg h1 => by rw [k.keep g cs t (by rw [h.keep g cs t hg h1]; exact hg) h1, h.keep g cs t hg h1]⟩
/-- The row of depths. -/
abbrev Lens (B : Nat) (w : World) (v : Value) (L : List Int) : Prop := w.ownsRow B 3 1 v L.length (L.map (Value.int .i64))
def height : HT → Nat
  | .leaf _ _ => 0
  | .node l r => max (height l) (height r) + 1

set_option maxRecDepth 100000 in
set_option maxHeartbeats 4000000 in
theorem mark_any (B : Nat) (t : HT) : ∀ (p d : Nat) (v : Value) (L : List Int) (w : World), Rep w p t → Lens B w v L → (∀ s ∈ syms t, s < L.length) → L.length ≤ 1000000 → d + height t ≤ 1000000 →
    Calls Try.prog 24 #[ptrV p, .int .i64 d, v] w fun e w' => e = .returned (.tuple #[]) ∧ Lens B w' v (markL t d L) ∧ Km B w w' := by
  induction t with
  | leaf x n =>
    intro p d v L w hrep hown hs hl hd
    have hn : n < L.length := hs n (by simp [syms])
    have c2 : w.cell? ⟨p, 2, none⟩ = some (.pointer none) := by rw [cell_of_row w p 2 _ _ (0, 0) hrep]; rfl
    have c1 : w.cell? ⟨p, 1, none⟩ = some (.int .i64 n) := by rw [cell_of_row w p 1 _ _ (0, 0) hrep]; rfl
    obtain ⟨g, cap, rfl, hBg, _⟩ := hown.form (by omega)
    have e1 : w.cell? ⟨g, n, none⟩ = some (.int .i64 L[n]) := by
      rw [hown.cellAt n (by omega), List.getElem?_map, List.getElem?_eq_getElem hn]; rfl
    have e2 := hown.frozenAt n
    have hst := (hown.stored n (.int .i64 (d : Int))).1
    rw [← List.map_set] at hst
    have Hst := Lib.hid hst
    have hgi : ∃ cur, w.heap[g]? = some (.cells cur 3 (0, 0)) := by
      obtain ⟨_, h⟩ := hown
      rcases h with ⟨h, _⟩ | ⟨g', cap', cur, hv, _, hc', _⟩
      · cases h
      · injection hv with hv _ _
        injection hv with hv
        injection hv with hv
        subst hv
        exact ⟨cur, hc'⟩
    obtain ⟨cur, hcur⟩ := hgi
    have hkm : Km B w (w.setCell ⟨g, n, none⟩ (.int .i64 (d : Int))) := ⟨(Below.refl B w).setCell (p := ⟨g, n, none⟩) hBg _, fun b cs ty hb h1 => by
      refine Below.heap_setCell _ _ _ _ fun e => ?_
      have e : b = g := e
      subst e
      rw [hcur] at hb
      injection hb with hb
      injection hb with _ hb _
      exact h1 hb.symm⟩
    have Hkm := Lib.hid hkm
    have g0 : (n : Int) < (L.length : Int) := by omega
    have g1 : (0 : Int) ≤ (n : Int) := by omega
    clear hst hkm hown hcur hrep hs
    go_enter Try.func24, Try.ntmps24
    go_wp2_with fail
    first | go_end0 | refine bodyPost_ret (results_none rfl _ _ _) rfl ?_
    exact ⟨rfl, by show Lens B _ _ (L.set n d); unfold Lens; rw [List.length_set]; exact Hst.out, Hkm.out⟩
  | node l r ihl ihr =>
    intro p d v L w hrep hown hs hl hd
    obtain ⟨pl, pr, hh, hl', hr'⟩ := hrep
    have c2 : w.cell? ⟨p, 2, none⟩ = some (ptrV pl) := by rw [cell_of_row w p 2 _ _ (0, 0) hh]; rfl
    have c3 : w.cell? ⟨p, 3, none⟩ = some (ptrV pr) := by rw [cell_of_row w p 3 _ _ (0, 0) hh]; rfl
    rw [height] at hd
    have i0 : ∀ wx, (Instr.index 37 (.agg #[ptrV pl, ptrV pr]) (.int .i64 0)).run Try.prog wx = .ok (ptrV pl) wx := fun _ => by kernel_rfl
    have i1 : ∀ wx, (Instr.index 37 (.agg #[ptrV pl, ptrV pr]) (.int .i64 1)).run Try.prog wx = .ok (ptrV pr) wx := fun _ => by kernel_rfl
    have h1 := ihl pl (d + 1) v L w hl' hown (fun s h => hs s (by rw [syms]; exact List.mem_append_left _ h)) hl (by omega)
    have Hown := Lib.hid hown
    have Hr := Lib.hid hr'
    have Hs := Lib.hid hs
    clear hown hr' hl' hh hs
    go_enter Try.func24, Try.ntmps24
    go_wp2_with fail
    refine wp_loop_rounds 3 ?_
    rw [rounds_succ]
    go_wp2_with fail
    refine h1.mono ?_
    rintro e w1 ⟨rfl, hown1, hkm1⟩
    have Hkm1 := Lib.hid hkm1
    have h2 := ihr pr (d + 1) v (markL l (d + 1 : Nat) L) w1 (rep_km hkm1 Hr.out) hown1 (fun s h => by rw [markL_length]; exact Hs.out s (by rw [syms]; exact List.mem_append_right _ h)) (by rw [markL_length]; exact hl) (by omega)
    clear h1 hown1 hkm1
    go_wp2_with fail
    rw [rounds_succ]
    go_wp2_with fail
    refine h2.mono ?_
    rintro e w2 ⟨rfl, hown2, hkm2⟩
    go_wp2_with fail
    rw [rounds_succ]
    go_wp2_with fail
    go_end0
    exact ⟨rfl, hown2, Hkm1.out.trans hkm2⟩
end Go.Proofs.Ytpkbbbdbcedkfaa
