/- The contracts of the reader's num and token. Conditions: numbers fit. The contract of the reader's token. Conditions: numbers fit. The contract of the reader's lens. Conditions: numbers fit. The deferred closure of pack.Read: entered where the frame returns, and where broken was thrown. No condition. The contract of pack.Read. Conditions: numbers fit. Plain lemmas: the bounds of what is read. No condition; no program. The contract of pack.Read: the walk. Conditions: numbers fit. -/
import Derived.Defers
import Derived.Recover
import Derived.Test.YtolappilfjhfaaaWc
import Derived.Test.YtolappilfjhfaaaWb
import Derived.Test.YtolappilfjhfaaaW1
import Derived.Test.YtolappilfjhfaaaWs
import Derived.Test.YtolappilfjhfaaaWd
import Derived.Test.YtolappilfjhfaaaWg
namespace Go.Proofs.Ytolappilfjhfaaa
open Go.RowKit

/-- What is thrown where bits are none. -/
abbrev brokenV : Value := .iface 57 (.agg #[])
/-- The reader at block r reads v from p on. -/
structure RdAt (w : World) (r : Nat) (v : Value) (p : Int) : Prop where
  lt : r < w.heap.size
  c0 : w.cell? ⟨r, 0, none⟩ = some v
  c1 : w.cell? ⟨r, 1, none⟩ = some (.int .i64 p)
  fz : w.frozen? ⟨r, 1, none⟩ = false
theorem RdAt.keep {w w' : World} {r : Nat} {v : Value} {p : Int} (h : RdAt w r v p) (hb : Below w.heap.size w w') : RdAt w' r v p :=
  ⟨Nat.lt_of_lt_of_le h.lt hb.size, by rw [hb.cell (p := ⟨r, 0, none⟩) h.lt]; exact h.c0, by rw [hb.cell (p := ⟨r, 1, none⟩) h.lt]; exact h.c1, by rw [hb.frozen (p := ⟨r, 1, none⟩) h.lt]; exact h.fz⟩
theorem RdAt.drewN {w : World} {r : Nat} {v : Value} {p : Int} (h : RdAt w r v p) (n : Nat) : RdAt (w.drewN n) r v p := ⟨h.lt, h.c0, h.c1, h.fz⟩
theorem RdAt.set {w : World} {r : Nat} {v : Value} {p : Int} (h : RdAt w r v p) (q : Int) : RdAt (w.setCell ⟨r, 1, none⟩ (.int .i64 q)) r v q :=
  ⟨by simpa [World.setCell] using h.lt, set_cell_ne h.c0 (by decide), set_cell_same h.c1, by rw [World.frozen?_setCell]; exact h.fz⟩
theorem RdAt.save {w w' : World} {r m : Nat} {S : Nat → Prop} {v : Value} {p : Int} (h : RdAt w r v p) (hs : Save S m w w') (hr : r < m) (hn : ¬ S r) : RdAt w' r v p :=
  ⟨Nat.lt_of_lt_of_le h.lt hs.size, by rw [hs.cell (p := ⟨r, 0, none⟩) hr hn]; exact h.c0, by rw [hs.cell (p := ⟨r, 1, none⟩) hr hn]; exact h.c1, by rw [hs.frozen (p := ⟨r, 1, none⟩) hr hn]; exact h.fz⟩

/-- What num leaves. -/
def NumV (bs : List Bool) (p width : Int) (r : Nat) (v : Value) (w : World) (e : Ending) (w' : World) : Prop :=
  Save (· = r) w.heap.size w w' ∧ ((∃ n, numO bs p width = some n ∧ e = .returned (.int .i64 n) ∧ RdAt w' r v (p + width)) ∨ (numO bs p width = none ∧ e = .panicked [{ v := brokenV, recovered := false }]))
theorem takeOk_num {bs : List Bool} {p width : Int} (h : takeOk bs.length p width = true) : numO bs p width = some (takeN ((bs.drop p.toNat).take width.toNat)) := by
  unfold numO; rw [if_pos (by simpa [takeOk] using h)]
theorem takeNo_num {bs : List Bool} {p width : Int} (h : takeOk bs.length p width = false) : numO bs p width = none := by
  unfold numO; rw [if_neg (by simpa [takeOk] using h)]

set_option maxRecDepth 100000 in
set_option maxHeartbeats 1000000 in
theorem num_any (r : Nat) (v : Value) (bs : List Bool) (p width : Int) (w : World) (hr : RdAt w r v p) (hv : Bits w v bs) (hl : bs.length ≤ 140737488355328) (hpb : p ≤ 9223372036854775807) :
    Calls Try.prog 64 #[.pointer (some ⟨r, 0, none⟩), .int .i64 width] w fun e w' => NumV bs p width r v w e w' := by
  have hlt := hr.lt
  have hc0 := hr.c0
  have hc1 := hr.c1
  have HR := Lib.hid hr
  by_cases hok : takeOk bs.length p width = true
  · have HN := Lib.hid (takeOk_num hok)
    have ht : ∀ W, Held w W → Calls Try.prog 79 #[v, .int .i64 p, .int .i64 width] W fun e w' => e = .returned (.tuple #[.int .i64 (takeN ((bs.drop p.toNat).take width.toNat)), .int .i64 (p + width), .bool true]) ∧ Below W.heap.size W w' := fun W hW =>
      (take_any v bs p width W (sl_below hv hW.2) hl hok).mono fun e w' ⟨he, hw⟩ => ⟨he, hw ▸ Below.refl _ _⟩
    clear hv hok hr
    generalize takeN ((bs.drop p.toNat).take width.toNat) = n at *
    go_enter Try.func64, Try.ntmps64
    go_wp2_with fail
    go_region_held3 (Held w) (first | exact held_start | exact held_call (by assumption) (by assumption)) (first | (go_at_call 79; refine (ht _ (by assumption)).mono ?_; rintro e w' ⟨rfl, hb⟩))
    rename Held w w' => hh
    have HR2 := Lib.hid (HR.out.keep hh.2)
    have hfz := HR2.out.fz
    have hc1' := HR2.out.c1
    have HS := Lib.hid (Save.of (S := (· = r)) hh.2)
    have HR3 := Lib.hid (HR2.out.set (p + width))
    clear hh ht hc0 hc1
    go_wp2_with fail
    go_ret
    exact ⟨HS.out.set (Or.inl rfl) _, Or.inl ⟨n, HN.out, rfl, HR3.out⟩⟩
  · have hok' : takeOk bs.length p width = false := by cases q : takeOk bs.length p width with
      | true => exact absurd q hok
      | false => rfl
    have HN := Lib.hid (takeNo_num hok')
    have ht : ∀ W, Held w W → Calls Try.prog 79 #[v, .int .i64 p, .int .i64 width] W fun e w' => e = .returned (.tuple #[.int .i64 0, .int .i64 0, .bool false]) ∧ Below W.heap.size W w' := fun W hW =>
      (take_no v bs p width W (sl_below hv hW.2) hl hpb hok').mono fun e w' ⟨he, hw⟩ => ⟨he, hw ▸ Below.refl _ _⟩
    clear hv hok hok' hr
    go_enter Try.func64, Try.ntmps64
    go_wp2_with fail
    go_region_held3 (Held w) (first | exact held_start | exact held_call (by assumption) (by assumption)) (first | (go_at_call 79; refine (ht _ (by assumption)).mono ?_; rintro e w' ⟨rfl, hb⟩))
    rename Held w w' => hh
    have HS := Lib.hid (Save.of (S := (· = r)) hh.2)
    clear hh ht hc0 hc1
    go_wp2_with fail
    exact ⟨rfl, HS.out, Or.inr ⟨HN.out, rfl⟩⟩
end Go.Proofs.Ytolappilfjhfaaa
namespace Go.Proofs.Ytolappilfjhfaaa
open Go.RowKit

/-- What token leaves. -/
def TokV (L : List Int) (bs : List Bool) (p : Int) (r : Nat) (v : Value) (w : World) (e : Ending) (w' : World) : Prop :=
  Save (· = r) w.heap.size w w' ∧ ((∃ b d n q, tokO L bs p = some ((b, d, n), q) ∧ e = .returned (.agg #[.int .i64 b, .int .i64 d, .int .i64 n]) ∧ RdAt w' r v q) ∨ (tokO L bs p = none ∧ e = .panicked [{ v := brokenV, recovered := false }]))
theorem boxed3f (w : World) (v0 v1 v2 : Value) (t : TypeId) : ∃ W2, w.alloc (.cells #[v0, v1, v2] t) = W2 ∧
    W2.cell? ⟨w.heap.size, 0, none⟩ = some v0 ∧ W2.cell? ⟨w.heap.size, 1, none⟩ = some v1 ∧ W2.cell? ⟨w.heap.size, 2, none⟩ = some v2 ∧ (∀ o, W2.frozen? ⟨w.heap.size, o, none⟩ = false) ∧ W2.heap.size = w.heap.size + 1 ∧ Below w.heap.size w W2 :=
  ⟨_, rfl, by simp, by simp, by simp, fun o => World.frozen?_alloc_new w _ _ o, by simp, (Below.refl _ _).alloc (Nat.le_refl _) _⟩
theorem cell_set_block {w : World} {r o b i : Nat} (u : Value) (h : b ≠ r) : (w.setCell ⟨r, o, none⟩ u).cell? ⟨b, i, none⟩ = w.cell? ⟨b, i, none⟩ :=
  World.cell?_setCell_other w _ _ _ (by intro e; cases e; exact h rfl)
/-- Three cells of one block, stored one behind the other. -/
theorem put3 {w : World} {b : Nat} {x0 x1 x2 : Value} (v0 v1 v2 : Value) (h0 : w.cell? ⟨b, 0, none⟩ = some x0) (h1 : w.cell? ⟨b, 1, none⟩ = some x1) (h2 : w.cell? ⟨b, 2, none⟩ = some x2) :
    ∃ wf, ((w.setCell ⟨b, 0, none⟩ v0).setCell ⟨b, 1, none⟩ v1).setCell ⟨b, 2, none⟩ v2 = wf ∧ wf.cell? ⟨b, 0, none⟩ = some v0 ∧ wf.cell? ⟨b, 1, none⟩ = some v1 ∧ wf.cell? ⟨b, 2, none⟩ = some v2 ∧ Below b w wf :=
  ⟨_, rfl, set_cell_ne (set_cell_ne (set_cell_same h0) (by decide)) (by decide), set_cell_ne (set_cell_same (set_cell_ne h1 (by decide))) (by decide),
    set_cell_same (set_cell_ne (set_cell_ne h2 (by decide)) (by decide)),
    (((Below.refl b w).setCell (p := ⟨b, 0, none⟩) (Nat.le_refl b) v0).setCell (p := ⟨b, 1, none⟩) (Nat.le_refl b) v1).setCell (p := ⟨b, 2, none⟩) (Nat.le_refl b) v2⟩
theorem readO_lt {l : List Int} {b : List Bool} {p : Int} {s : Nat} (h : readO l b p = some s) : s < l.length := by
  unfold readO at h
  split at h
  · have := List.mem_of_find?_eq_some h; simpa using this
  · cases h

set_option maxRecDepth 100000 in
set_option maxHeartbeats 2000000 in
theorem token_any (W0 : World) (r : Nat) (v vL : Value) (L : List Int) (bs : List Bool) (p : Int) (w : World) (hr : RdAt w r v p) (hv : Bits W0 v bs) (hB0 : Below W0.heap.size W0 w) (hr0 : W0.heap.size ≤ r) (hL : SlOf w vL 1 (fun x => [.int .i64 x]) L)
    (hl : bs.length ≤ 140737488355328) (hlL : L.length ≤ 272) (hLb : ∀ x ∈ L, 0 ≤ x ∧ x ≤ 15) (hp0 : 0 ≤ p) (hpb : p ≤ 1407374883553280) :
    Calls Try.prog 42 #[.pointer (some ⟨r, 0, none⟩), vL] w fun e w' => TokV L bs p r v w e w' := by
  obtain ⟨W1, hW1, e0, e1, e2, hfz, hsz1, hbw⟩ := boxed3f w (.int .i64 0) (.int .i64 0) (.int .i64 0) 30
  have HR1 := Lib.hid (hr.keep hbw)
  have hrlt := hr.lt
  have hlt := HR1.out.lt
  have hc0 := HR1.out.c0
  have hc1 := HR1.out.c1
  have HB1 := Lib.hid (hB0.trans (hbw.mono hB0.size))
  have hread : ∀ W, Held W1 W → Calls Try.prog 65 #[vL, v, .int .i64 p] W fun e w' => e = .returned (readV L bs p) ∧ Below W.heap.size W w' := fun W hW =>
    read_any vL v L bs p W (sl_below (sl_below hL hbw) hW.2) (sl_below hv (HB1.out.trans (hW.2.mono HB1.out.size))) (by omega) hl
  have HV := Lib.hid hv
  have Hbw := Lib.hid hbw
  have Hfz := Lib.hid hfz
  have hg : w.heap.size < W1.heap.size := by omega
  have he0 := e0
  have he1 := e1
  have he2 := e2
  clear hv hB0 hL hbw hfz
  cases hro : readO L bs p with
  | none =>
    have HT : Hid (tokO L bs p = none) := by unfold Hid tokO; rw [hro]
    rw [readV_none hro] at hread
    clear hro
    go_enter Try.func42, Try.ntmps42
    go_wp2_with fail
    clear hW1
    go_region_held3 (Held W1) (first | exact held_start | exact held_call (by assumption) (by assumption)) (first | (go_at_call 65; refine (hread _ (by assumption)).mono ?_; rintro e w' ⟨rfl, hb⟩))
    rename Held W1 w' => hh
    have HS := Lib.hid ((Save.of (S := (· = r)) Hbw.out).trans ((Save.of hh.2).mono (by omega) (fun _ _ q => q)))
    clear hh hread hc0 hc1 e0 e1 e2 he0 he1 he2
    go_wp2_with fail
    exact ⟨rfl, HS.out, Or.inr ⟨HT.out, rfl⟩⟩
  | some s =>
    rw [readV_some hro] at hread
    have hs := readO_lt hro
    have hk : 0 ≤ L[s]?.getD 0 ∧ L[s]?.getD 0 ≤ 15 := by rw [List.getElem?_eq_getElem hs]; exact hLb _ (List.getElem_mem hs)
    have HT : Hid (tokO L bs p = if s < 256 then some (((s : Int), 0, 0), p + L[s]?.getD 0) else match numO bs (p + L[s]?.getD 0) 8 with
      | some d => some ((0, d, (s : Int) - 253), p + L[s]?.getD 0 + 8)
      | none => none) := by unfold Hid tokO; rw [hro]; rfl
    have Hs := Lib.hid hs
    clear hro hs
    generalize L[s]?.getD 0 = k at *
    have hqb : 0 ≤ p + k ∧ p + k ≤ 1407374883553300 := by omega
    generalize p + k = q at *
    go_enter Try.func42, Try.ntmps42
    go_wp2_with fail
    clear hW1
    go_region_held3 (Held W1) (first | exact held_start | exact held_call (by assumption) (by assumption)) (first | (go_at_call 65; refine (hread _ (by assumption)).mono ?_; rintro e w' ⟨rfl, hb⟩))
    rename Held W1 w' => hh
    have HR2 := Lib.hid (HR1.out.keep hh.2)
    have HS2 := Lib.hid ((Save.of (S := (· = r)) Hbw.out).trans ((Save.of hh.2).mono (by omega) (fun _ _ q => q)))
    have hf2 := HR2.out.fz
    have hc2 := HR2.out.c1
    have t0 : w'.cell? ⟨w.heap.size, 0, none⟩ = some (.int .i64 0) := by rw [hh.1 _ _ hg]; exact he0
    have t1 : w'.cell? ⟨w.heap.size, 1, none⟩ = some (.int .i64 0) := by rw [hh.1 _ _ hg]; exact he1
    have t2 : w'.cell? ⟨w.heap.size, 2, none⟩ = some (.int .i64 0) := by rw [hh.1 _ _ hg]; exact he2
    have tf : ∀ o, w'.frozen? ⟨w.heap.size, o, none⟩ = false := fun o => by rw [hh.2.frozen (p := ⟨w.heap.size, o, none⟩) hg]; exact Hfz.out o
    have hsz2 := hh.2.size
    have HSB : Hid (Below W1.heap.size W1 w') := hh.2
    have hne : w.heap.size ≠ r := by omega
    obtain ⟨W3, hW3⟩ : ∃ W3, w'.setCell ⟨r, 1, none⟩ (.int .i64 q) = W3 := ⟨_, rfl⟩
    have HR3 : Hid (RdAt W3 r v q) := by rw [← hW3]; exact HR2.out.set q
    have HS3 : Hid (Save (· = r) w.heap.size w W3) := by rw [← hW3]; exact HS2.out.set (Or.inl rfl) _
    have s0 : W3.cell? ⟨w.heap.size, 0, none⟩ = some (.int .i64 0) := by rw [← hW3, cell_set_block _ hne]; exact t0
    have s1 : W3.cell? ⟨w.heap.size, 1, none⟩ = some (.int .i64 0) := by rw [← hW3, cell_set_block _ hne]; exact t1
    have s2 : W3.cell? ⟨w.heap.size, 2, none⟩ = some (.int .i64 0) := by rw [← hW3, cell_set_block _ hne]; exact t2
    have sf : ∀ o, W3.frozen? ⟨w.heap.size, o, none⟩ = false := fun o => by rw [← hW3, World.frozen?_setCell]; exact tf o
    have hsz3 : w.heap.size < W3.heap.size := by rw [← hW3]; simp [World.setCell]; omega
    have HB3 : Hid (Below W0.heap.size W0 W3) := by rw [← hW3]; exact (HB1.out.trans (HSB.out.mono HB1.out.size)).setCell hr0 _
    clear hh hread hc0 hc1 e0 e1 e2 he0 he1 he2 t0 t1 t2 tf
    by_cases h256 : s < 256
    · have d1 : decide ((s : Int) < 256) = true := by simp; omega
      have HT2 : Hid (tokO L bs p = some (((s : Int), 0, 0), q)) := by unfold Hid; rw [HT.out, if_pos h256]
      obtain ⟨wf, hwf, f0, f1, f2, hbf⟩ := put3 (.int .i64 s) (.int .i64 0) (.int .i64 0) s0 s1 s2
      have HRf := Lib.hid (RdAt.save HR3.out (Save.of (S := fun _ => False) hbf) hrlt (fun q => q))
      have HSf := Lib.hid (HS3.out.trans (Save.of hbf))
      have z0 := sf 0
      have z1 := sf 1
      have z2 := sf 2
      clear hbf HT h256
      go_wp2_with fail
      clear hW3 hwf
      refine bodyPost_ret (v := .agg #[.int .i64 s, .int .i64 0, .int .i64 0]) (by simp [results, Try.results42, go_sem, f0, f1, f2]) rfl ?_
      exact ⟨HSf.out, Or.inl ⟨_, _, _, _, HT2.out, rfl, HRf.out⟩⟩
    · have d1 : decide ((s : Int) < 256) = false := by simp; omega
      have hs2 := Hs.out
      have y : IntKind.i64.wrap ((s : Int) - 253) = (s : Int) - 253 := by rw [IntKind.wrap_i64]; omega
      have hnum := num_any r v bs q 8 W3 HR3.out (sl_below HV.out (HB3.out)) hl (by omega)
      have HT2 : Hid (tokO L bs p = match numO bs q 8 with
        | some d => some ((0, d, (s : Int) - 253), q + 8)
        | none => none) := by unfold Hid; rw [HT.out, if_neg h256]
      clear HT h256
      go_wp2_with fail
      clear hW3
      refine hnum.mono ?_
      rintro e w4 ⟨hs4, ⟨n, hn, rfl, hr4⟩ | ⟨hn, rfl⟩⟩
      · have HT3 : Hid (tokO L bs p = some ((0, n, (s : Int) - 253), q + 8)) := by unfold Hid; rw [HT2.out, hn]
        have u0 : w4.cell? ⟨w.heap.size, 0, none⟩ = some (.int .i64 0) := by rw [hs4.cell (p := ⟨w.heap.size, 0, none⟩) hsz3 hne]; exact s0
        have u1 : w4.cell? ⟨w.heap.size, 1, none⟩ = some (.int .i64 0) := by rw [hs4.cell (p := ⟨w.heap.size, 1, none⟩) hsz3 hne]; exact s1
        have u2 : w4.cell? ⟨w.heap.size, 2, none⟩ = some (.int .i64 0) := by rw [hs4.cell (p := ⟨w.heap.size, 2, none⟩) hsz3 hne]; exact s2
        have z0 : w4.frozen? ⟨w.heap.size, 0, none⟩ = false := by rw [hs4.frozen (p := ⟨w.heap.size, 0, none⟩) hsz3 hne]; exact sf 0
        have z1 : w4.frozen? ⟨w.heap.size, 1, none⟩ = false := by rw [hs4.frozen (p := ⟨w.heap.size, 1, none⟩) hsz3 hne]; exact sf 1
        have z2 : w4.frozen? ⟨w.heap.size, 2, none⟩ = false := by rw [hs4.frozen (p := ⟨w.heap.size, 2, none⟩) hsz3 hne]; exact sf 2
        obtain ⟨wf, hwf, f0, f1, f2, hbf⟩ := put3 (.int .i64 0) (.int .i64 n) (.int .i64 ((s : Int) - 253)) u0 u1 u2
        have HRf := Lib.hid (RdAt.save hr4 (Save.of (S := fun _ => False) hbf) hrlt (fun q => q))
        have HSf := Lib.hid ((HS3.out.trans (hs4.mono (by omega) (fun _ _ q => q))).trans (Save.of hbf))
        clear hs4 hn hr4 hbf HT2 s0 s1 s2
        go_wp2_with fail
        clear hwf
        refine bodyPost_ret (v := .agg #[.int .i64 0, .int .i64 n, .int .i64 ((s : Int) - 253)]) (by simp [results, Try.results42, go_sem, f0, f1, f2]) rfl ?_
        exact ⟨HSf.out, Or.inl ⟨_, _, _, _, HT3.out, rfl, HRf.out⟩⟩
      · have HT3 : Hid (tokO L bs p = none) := by unfold Hid; rw [HT2.out, hn]
        have HSf := Lib.hid (HS3.out.trans (hs4.mono (by omega) (fun _ _ q => q)))
        clear hs4 hn HT2
        go_wp2_with fail
        exact ⟨rfl, HSf.out, Or.inr ⟨HT3.out, rfl⟩⟩
end Go.Proofs.Ytolappilfjhfaaa
namespace Go.Proofs.Ytolappilfjhfaaa
open Go.RowKit

theorem numO_bd {b : List Bool} {p width n : Int} (h : numO b p width = some n) : 0 ≤ n ∧ n < p2 width.toNat ∧ p + width ≤ b.length := by
  unfold numO at h
  split at h
  · rename_i hc
    injection h with h
    subst h
    have hb := takeN_bd ((b.drop p.toNat).take width.toNat)
    have hl : ((b.drop p.toNat).take width.toNat).length = width.toNat := by rw [List.length_take, List.length_drop]; omega
    rw [hl] at hb
    exact ⟨hb.1, hb.2, hc.2.2.2⟩
  · cases h
theorem hdr_none1 {b : List Bool} {m : Nat} {p a : Int} {L : List Int} (h : numO b p 9 = none) : hdrO b (m + 1) p a L = none := by
  unfold hdrO; rw [h]
theorem hdr_none2 {b : List Bool} {m : Nat} {p a s : Int} {L : List Int} (h : numO b p 9 = some s) (h2 : numO b (p + 9) 4 = none) : hdrO b (m + 1) p a L = none := by
  unfold hdrO; rw [h, h2]
theorem hdr_bad {b : List Bool} {m : Nat} {p a s k : Int} {L : List Int} (h : numO b p 9 = some s) (h2 : numO b (p + 9) 4 = some k) (hc : s ≤ a ∨ 272 ≤ s ∨ k = 0) : hdrO b (m + 1) p a L = none := by
  conv => lhs; unfold hdrO
  rw [h, h2]; simp only []; rw [if_pos hc]
theorem hdr_step {b : List Bool} {m : Nat} {p a s k : Int} {L : List Int} (h : numO b p 9 = some s) (h2 : numO b (p + 9) 4 = some k) (hc : ¬ (s ≤ a ∨ 272 ≤ s ∨ k = 0)) : hdrO b (m + 1) p a L = hdrO b m (p + 13) s (L.set s.toNat k) := by
  conv => lhs; unfold hdrO
  rw [h, h2]; simp only []; rw [if_neg hc]
theorem lensO_none0 {b : List Bool} (h : numO b 0 9 = none) : lensO b = none := by unfold lensO; rw [h]
theorem lensO_none1 {b : List Bool} {n : Nat} (h : numO b 0 9 = some (n : Int)) (h2 : hdrO b n 9 (-1) (List.replicate 272 0) = none) : lensO b = none := by
  unfold lensO; rw [h]; simp only [Int.toNat_natCast]; rw [h2]
theorem lensO_some {b : List Bool} {n : Nat} {L : List Int} {p : Int} (h : numO b 0 9 = some (n : Int)) (h2 : hdrO b n 9 (-1) (List.replicate 272 0) = some (L, p)) : lensO b = if lensOk L = true then some (L, p) else none := by
  unfold lensO; rw [h]; simp only [Int.toNat_natCast]; rw [h2]

/-- What lens leaves. -/
def LensOV (bs : List Bool) (r : Nat) (v : Value) (w : World) (e : Ending) (w' : World) : Prop :=
  Save (· = r) w.heap.size w w' ∧ ((∃ L q, lensO bs = some (L, q) ∧ e = .returned (.slice (some ⟨w.heap.size, 0, none⟩) 272 272) ∧ w'.ownsRow w.heap.size 3 1 (.slice (some ⟨w.heap.size, 0, none⟩) 272 272) 272 (L.map (Value.int .i64)) ∧ L.length = 272 ∧ RdAt w' r v q) ∨ (lensO bs = none ∧ e = .panicked [{ v := brokenV, recovered := false }]))
theorem home {W0 w w' : World} {r : Nat} (hB0 : Below W0.heap.size W0 w) (hr0 : W0.heap.size ≤ r) (hs : Save (· = r) w.heap.size w w') : Below W0.heap.size W0 w' :=
  hB0.trans (hs.below (fun k hk e => by omega) hB0.size)

set_option maxRecDepth 100000 in
set_option maxHeartbeats 4000000 in
theorem rlens_any (W0 : World) (r : Nat) (v : Value) (bs : List Bool) (w : World) (hr : RdAt w r v 0) (hv : Bits W0 v bs) (hB0 : Below W0.heap.size W0 w) (hr0 : W0.heap.size ≤ r) (hl : bs.length ≤ 140737488355328) :
    Calls Try.prog 41 #[.pointer (some ⟨r, 0, none⟩)] w fun e w' => LensOV bs r v w e w' := by
  obtain ⟨i0, hi, hz0, hz1, hz2⟩ := info_parts info_int
  have hrlt := hr.lt
  have HR := Lib.hid hr
  have HV := Lib.hid hv
  have HB0 := Lib.hid hB0
  clear hr hv hB0
  go_enter Try.func41, Try.ntmps41
  go_wp2_with (first
    | (at_make; refine wpList_make_full _ rfl _ _ 50 rfl w.heap.size 3 i0 (.int .i64 0) 1 Try.underlying50 hi hz0 hz1 .i64 .i64 _ _ 272 rfl rfl rfl rfl (by rw [hz2]; omega) (by simp [maxLen]) (Nat.le_refl _) ?_
       intro w1 hown1 hg1
       have hb1 := (Below.refl w.heap.size w).grown hg1 (Nat.le_refl _) (fun k hk => by cases hk)
       have hs1 : w.heap.size < w1.heap.size := owns_lt hown1 _ rfl
       have Hown1 : Hid (w1.ownsRow w.heap.size 3 1 (.slice (some ⟨w.heap.size, 0, none⟩) 272 272) 272 ((List.replicate 272 (0 : Int)).map (Value.int .i64))) := by
         unfold Hid
         rw [← made_zero]
         rw [Nat.mul_one] at hown1
         exact hown1
       have HS1 := Lib.hid (Save.of (S := (· = r)) hb1)
       have HR1 := Lib.hid (HR.out.keep hb1)
       have hn0 := num_any r v bs 0 9 w1 HR1.out (sl_below HV.out (home HB0.out hr0 HS1.out)) hl (by decide)
       clear hown1 hg1 hb1)
    | fail)
  refine hn0.mono ?_
  rintro e w2 ⟨hs2, ⟨n, hn, rfl, hr2⟩ | ⟨hn, rfl⟩⟩
  rotate_left
  · have HN := Lib.hid (lensO_none0 hn)
    have HS2 := Lib.hid (HS1.out.trans (hs2.mono (by omega) (fun _ _ q => q)))
    clear hs2 hn hn0
    go_wp2_with fail
    exact ⟨rfl, HS2.out, Or.inr ⟨HN.out, rfl⟩⟩
  obtain ⟨hn0', hn1, _⟩ := numO_bd hn
  obtain ⟨N, rfl⟩ := Int.eq_ofNat_of_zero_le hn0'
  have hN : (N : Int) < 512 := by have : p2 (Int.toNat 9) = 512 := by decide
                                  rw [this] at hn1; exact hn1
  have HN := Lib.hid hn
  have HR2 := Lib.hid hr2
  have HS2 := Lib.hid (HS1.out.trans (hs2.mono (by omega) (fun _ _ q => q)))
  have HO2 := Lib.hid (hs2.owns Hown1.out (Nat.le_refl _) (fun k hk e => by omega))
  clear hs2 hn hn0 hr2 hn1 hn0' Hown1 HS1 HR1
  go_wp2_with fail
  go_loopw [4, 12] (fun ah i wr => ∃ (k : Nat) (a : Int) (L : List Int), i = .int .i64 k ∧ k ≤ N ∧ ah = .int .i64 a ∧ -1 ≤ a ∧ a < 272 ∧ L.length = 272 ∧ hdrO bs N 9 (-1) (List.replicate 272 0) = hdrO bs (N - k) (9 + 13 * k) a L ∧ RdAt wr r v (9 + 13 * k) ∧ wr.ownsRow w.heap.size 3 1 (.slice (some ⟨w.heap.size, 0, none⟩) 272 272) 272 (L.map (Value.int .i64)) ∧ Save (· = r) w.heap.size w wr) (fun _ i _ => N - (intOf i).toNat)
  case atStart => exact ⟨0, -1, _, rfl, Nat.zero_le _, rfl, by decide, by decide, List.length_replicate .., rfl, by simpa using HR2.out, HO2.out, HS2.out⟩
  case round =>
    obtain ⟨k, a, L, rfl, hk, rfl, ha0, ha1, hL, hh, hrd, hown, hs⟩ := hrel
    have HL := Lib.hid hL
    have HH := Lib.hid hh
    have HRd := Lib.hid hrd
    have HO := Lib.hid hown
    have HS := Lib.hid hs
    clear hL hh hrd hown hs HR2 HO2 HS2
    by_cases hlt : k < N
    · have g2 : (k : Int) < (N : Int) := by omega
      have ek : N - k = (N - (k + 1)) + 1 := by omega
      have Hek := Lib.hid ek
      clear ek
      have hsz := HS.out.size
      generalize hp : (9 : Int) + 13 * k = p at *
      have hpb : 0 ≤ p ∧ p ≤ 10000 := by omega
      have Hp := Lib.hid hp
      clear hp
      have hn1 := num_any r v bs p 9 wr HRd.out (sl_below HV.out (home HB0.out hr0 HS.out)) hl (by omega)
      go_wp2_with fail
      refine hn1.mono ?_
      rintro e w3 ⟨hs3, ⟨s, hns, rfl, hr3⟩ | ⟨hns, rfl⟩⟩
      rotate_left
      · have HNo : Hid (lensO bs = none) := lensO_none1 HN.out (by rw [HH.out, Hek.out]; exact hdr_none1 hns)
        have HS3 := Lib.hid (HS.out.trans (hs3.mono hsz (fun _ _ q => q)))
        clear hs3 hns hn1
        go_wp2_with fail
        exact ⟨rfl, HS3.out, Or.inr ⟨HNo.out, rfl⟩⟩
      obtain ⟨s0, s1, _⟩ := numO_bd hns
      have HNs := Lib.hid hns
      have HS3 := Lib.hid (HS.out.trans (hs3.mono hsz (fun _ _ q => q)))
      have HO3 := Lib.hid (hs3.owns HO.out (Nat.le_refl _) (fun k hk e => by omega))
      have hsz3 := HS3.out.size
      have hn2 := num_any r v bs (p + 9) 4 w3 hr3 (sl_below HV.out (home HB0.out hr0 HS3.out)) hl (by omega)
      clear hs3 hns hn1 hr3 s1
      go_wp2_with fail
      refine hn2.mono ?_
      rintro e w4 ⟨hs4, ⟨m, hnm, rfl, hr4⟩ | ⟨hnm, rfl⟩⟩
      rotate_left
      · have HNo : Hid (lensO bs = none) := lensO_none1 HN.out (by rw [HH.out, Hek.out]; exact hdr_none2 HNs.out hnm)
        have HS4 := Lib.hid (HS3.out.trans (hs4.mono hsz3 (fun _ _ q => q)))
        clear hs4 hnm hn2
        go_wp2_with fail
        exact ⟨rfl, HS4.out, Or.inr ⟨HNo.out, rfl⟩⟩
      obtain ⟨m0, m1, _⟩ := numO_bd hnm
      have HNm := Lib.hid hnm
      have HS4 := Lib.hid (HS3.out.trans (hs4.mono hsz3 (fun _ _ q => q)))
      have HO4 := Lib.hid (hs4.owns HO3.out (Nat.le_refl _) (fun k hk e => by omega))
      have hsz4 := HS4.out.size
      have HR4 : Hid (RdAt w4 r v (p + 13)) := by have q := hr4; rw [Int.add_assoc] at q; exact q
      clear hs4 hnm hn2 hr4 m1
      by_cases hbad : s ≤ a ∨ 272 ≤ s ∨ m = 0
      · have HNo : Hid (lensO bs = none) := lensO_none1 HN.out (by rw [HH.out, Hek.out]; exact hdr_bad HNs.out HNm.out hbad)
        by_cases x1 : s ≤ a
        · have b1 : decide (s ≤ a) = true := by simpa using x1
          clear hbad
          go_wp2_with fail
          exact ⟨rfl, HS4.out, Or.inr ⟨HNo.out, rfl⟩⟩
        by_cases x2 : 272 ≤ s
        · have b1 : decide (s ≤ a) = false := by simpa using x1
          have b2 : decide (272 ≤ s) = true := by simpa using x2
          clear hbad
          go_wp2_with fail
          exact ⟨rfl, HS4.out, Or.inr ⟨HNo.out, rfl⟩⟩
        obtain rfl : m = 0 := by omega
        have b1 : decide (s ≤ a) = false := by simpa using x1
        have b2 : decide (272 ≤ s) = false := by simpa using x2
        clear hbad
        go_wp2_with fail
        exact ⟨rfl, HS4.out, Or.inr ⟨HNo.out, rfl⟩⟩
      · have HH2 : Hid (hdrO bs N 9 (-1) (List.replicate 272 0) = hdrO bs (N - (k + 1)) (p + 13) s (L.set s.toNat m)) := by
          unfold Hid; rw [HH.out, Hek.out]; exact hdr_step HNs.out HNm.out hbad
        have x1 : ¬ s ≤ a := fun q => hbad (Or.inl q)
        have x2 : ¬ 272 ≤ s := fun q => hbad (Or.inr (Or.inl q))
        have x3 : ¬ m = 0 := fun q => hbad (Or.inr (Or.inr q))
        have b1 : decide (s ≤ a) = false := by simpa using x1
        have b2 : decide (272 ≤ s) = false := by simpa using x2
        have b3 : (m == 0) = false := by simpa using x3
        obtain ⟨t, rfl⟩ := Int.eq_ofNat_of_zero_le s0
        have ht : t < 272 := by omega
        have ht2 : (t : Int) < 272 := by omega
        have e1 := HO4.out.frozenAt t
        have e0 : w4.cell? ⟨w.heap.size, t, none⟩ = some (.int .i64 (L[t]'(by rw [HL.out]; exact ht))) := by rw [HO4.out.cellAt t (by omega), List.getElem?_map, List.getElem?_eq_getElem (by rw [HL.out]; exact ht)]; rfl
        have hst := (HO4.out.stored t (.int .i64 m)).1
        rw [← List.map_set] at hst
        have Hst := Lib.hid hst
        have HS5 := Lib.hid (HS4.out.set (p := ⟨w.heap.size, t, none⟩) (Or.inr (Nat.le_refl _)) (.int .i64 m))
        have HR5 : Hid (RdAt (w4.setCell ⟨w.heap.size, t, none⟩ (.int .i64 m)) r v (p + 13)) :=
          RdAt.save HR4.out ((Save.refl (· = w.heap.size) w4.heap.size w4).set (p := ⟨w.heap.size, t, none⟩) (Or.inl rfl) _) HR4.out.lt (by intro e; exact absurd e (by omega))
        rw [Int.toNat_natCast] at HH2
        have e13 : p + 13 = 9 + 13 * ((k + 1 : Nat) : Int) := by have := Hp.out; omega
        have HR6 : Hid (RdAt (w4.setCell ⟨w.heap.size, t, none⟩ (.int .i64 m)) r v (9 + 13 * ((k + 1 : Nat) : Int))) := by unfold Hid; rw [← e13]; exact HR5.out
        have HH3 : Hid (hdrO bs N 9 (-1) (List.replicate 272 0) = hdrO bs (N - (k + 1)) (9 + 13 * ((k + 1 : Nat) : Int)) t (L.set t m)) := by unfold Hid; rw [← e13]; exact HH2.out
        clear e13
        generalize L[t]'(by rw [HL.out]; exact ht) = old at e0
        clear hst hbad
        go_wp2_with fail
        exact ⟨⟨k + 1, t, L.set t m, by go_num, by omega, rfl, by omega, by omega, by rw [List.length_set]; exact HL.out, HH3.out, HR6.out, Hst.out, HS5.out⟩, by simp [intOf]; omega⟩
    · obtain rfl : k = N := by omega
      rw [Nat.sub_self] at HH
      have hf : lensO bs = if lensOk L = true then some (L, 9 + 13 * (k : Int)) else none := lensO_some HN.out HH.out
      have Hf := Lib.hid hf
      have hcd := codes_any (.slice (some ⟨w.heap.size, 0, none⟩) 272 272) L wr ((sl_of_owns HO.out).1) (by rw [HL.out]; omega)
      clear hf
      have hsz := HS.out.size
      cases hok : lensOk L with
      | false =>
        rw [hok] at hcd
        have HNo : Hid (lensO bs = none) := by unfold Hid; rw [Hf.out, hok]; rfl
        clear hok
        go_wp2_with fail
        refine hcd.mono ?_
        rintro e w3 ⟨v3, rfl, _, hb3⟩
        have HS3 := Lib.hid (HS.out.then hb3 hsz)
        clear hcd hb3
        go_wp2_with fail
        exact ⟨rfl, HS3.out, Or.inr ⟨HNo.out, rfl⟩⟩
      | true =>
        rw [hok] at hcd
        have HYes : Hid (lensO bs = some (L, 9 + 13 * (k : Int))) := by unfold Hid; rw [Hf.out, hok]; rfl
        clear hok
        go_wp2_with fail
        refine hcd.mono ?_
        rintro e w3 ⟨v3, rfl, _, hb3⟩
        have HS3 := Lib.hid (HS.out.then hb3 hsz)
        have HR3 := Lib.hid (HRd.out.keep hb3)
        have HO3 := Lib.hid (owns_below HO.out hb3)
        clear hcd hb3
        go_wp2_with fail
        go_ret
        exact ⟨HS3.out, Or.inl ⟨L, _, HYes.out, rfl, HO3.out, HL.out, HR3.out⟩⟩
end Go.Proofs.Ytolappilfjhfaaa
namespace Go.Proofs.Ytolappilfjhfaaa
open Go.RowKit

set_option maxRecDepth 100000 in
theorem catch_idle (p0 p1 p2 : Addr) (w : World) :
    CallsD Try.prog 40 #[.pointer (some p0), .pointer (some p1), .pointer (some p2)] .returning w fun e u' w' => e = .returned (.tuple #[]) ∧ u' = .returning ∧ w' = w := by
  refine callsD_of_wpS Try.func40 rfl fun c₀ cs hu => ?_
  apply wpS_seq
  apply wpS_region
  simp [wpOpsS, go_sem, recoverD, hu, Try.ntmps40, Exit.thenS]
  have ht : (#[Value.pointer (some p0), Value.pointer (some p1), Value.pointer (some p2)] ++ ((Array.replicate 14 undef).setIfInBounds 3 Value.nilIface).setIfInBounds 0 Value.nilIface) = #[Value.pointer (some p0), Value.pointer (some p1), Value.pointer (some p2), Value.nilIface, undef, undef, Value.nilIface, undef, undef, undef, undef, undef, undef, undef, undef, undef, undef] := rfl
  rw [ht]
  clear ht
  refine wpS_of_wp ?_
  go_wp2_with fail
  cases c₀
  simp_all [bodyPostS, results, Try.results40]

theorem cell_lt {w : World} {p : Addr} {x : Value} (h : w.cell? p = some x) : p.block < w.heap.size := by
  rcases Nat.lt_or_ge p.block w.heap.size with h1 | h1
  · exact h1
  · simp [World.cell?, Array.getElem?_eq_none h1] at h

set_option maxRecDepth 100000 in
theorem assert_broken (w : World) : (Instr.typeAssert (.iface 57 (.agg #[])) 20 57 true).run Try.prog w = .ok (.tuple #[.agg #[], .bool true]) w := by simp [Instr.typeAssert, go_sem]

set_option maxRecDepth 100000 in
set_option maxHeartbeats 4000000 in
theorem catch_broken (p0 p1 p2 : Addr) (x0 x1 x2 : Value) (w : World) (h0 : w.cell? p0 = some x0) (h1 : w.cell? p1 = some x1) (h2 : w.cell? p2 = some x2) (f0 : w.frozen? p0 = false) (f1 : w.frozen? p1 = false) (f2 : w.frozen? p2 = false) (hne1 : p1 ≠ p0) (hne2 : p2 ≠ p0) (hne3 : p2 ≠ p1) :
    CallsD Try.prog 40 #[.pointer (some p0), .pointer (some p1), .pointer (some p2)] (.panicking [{ v := brokenV, recovered := false }]) w fun e u' w' =>
      e = .returned (.tuple #[]) ∧ u' = .panicking [{ v := brokenV, recovered := true }] ∧ w' = (((w.alloc (.cells #[] 57)).setCell p0 (.slice none 0 0)).setCell p1 (.int .i64 0)).setCell p2 (.bool false) := by
  refine callsD_of_wpS Try.func40 rfl fun c₀ cs hu => ?_
  apply wpS_seq
  apply wpS_region
  simp [wpOpsS, go_sem, recoverD, hu, Try.ntmps40, Exit.thenS]
  have ht : (#[Value.pointer (some p0), Value.pointer (some p1), Value.pointer (some p2)] ++ ((Array.replicate 14 undef).setIfInBounds 3 brokenV).setIfInBounds 0 brokenV) = #[Value.pointer (some p0), Value.pointer (some p1), Value.pointer (some p2), .iface 57 (.agg #[]), undef, undef, .iface 57 (.agg #[]), undef, undef, undef, undef, undef, undef, undef, undef, undef, undef] := rfl
  rw [ht]
  clear ht
  refine wpS_of_wp ?_
  have hta := assert_broken w
  have b0 : p0.block < w.heap.size := cell_lt h0
  have b1 : p1.block < w.heap.size := cell_lt h1
  have b2 : p2.block < w.heap.size := cell_lt h2
  obtain ⟨W1, hW1⟩ : ∃ W1, w.alloc (.cells #[] 57) = W1 := ⟨_, rfl⟩
  have e0 : W1.cell? p0 = some x0 := by rw [← hW1, World.cell?_alloc_lt _ _ _ b0]; exact h0
  have e1 : W1.cell? p1 = some x1 := by rw [← hW1, World.cell?_alloc_lt _ _ _ b1]; exact h1
  have e2 : W1.cell? p2 = some x2 := by rw [← hW1, World.cell?_alloc_lt _ _ _ b2]; exact h2
  have z0 : W1.frozen? p0 = false := by rw [← hW1, frozen?_alloc_cells]; exact f0
  have z1 : W1.frozen? p1 = false := by rw [← hW1, frozen?_alloc_cells]; exact f1
  have z2 : W1.frozen? p2 = false := by rw [← hW1, frozen?_alloc_cells]; exact f2
  have y1 : (W1.setCell p0 (.slice none 0 0)).cell? p1 = some x1 := by rw [World.cell?_setCell_other _ _ _ _ hne1.symm]; exact e1
  have y2 : ((W1.setCell p0 (.slice none 0 0)).setCell p1 (.int .i64 0)).cell? p2 = some x2 := by rw [World.cell?_setCell_other _ _ _ _ hne3.symm, World.cell?_setCell_other _ _ _ _ hne2.symm]; exact e2
  go_wp2_with fail
  subst hW1
  clear h0 h1 h2 f0 f1 f2 e0 e1 e2 z0 z1 z2 y1 y2 b0 b1 b2 hta hne1 hne2 hne3
  cases c₀
  simp [bodyPostS, results, Try.results40, go_sem]
end Go.Proofs.Ytolappilfjhfaaa
namespace Go.Proofs.Ytolappilfjhfaaa
open Go.RowKit

/-- What Read leaves. -/
def RdV (bs : List Bool) (many : Int) (w : World) (e : Ending) (w' : World) : Prop :=
  ∃ (a : Option Addr) (cap : Nat) (l : List TokT) (q : Int) (ok : Bool), e = .returned (.tuple #[.slice a l.length cap, .int .i64 q, .bool ok]) ∧ ToksR w' (.slice a l.length cap) l ∧
    ((rdO bs many = some (l, q) ∧ ok = true) ∨ (rdO bs many = none ∧ l = [] ∧ q = 0 ∧ ok = false)) ∧ Below w.heap.size w w'
theorem rdV_no {bs : List Bool} {many : Int} {w w' : World} (h : rdO bs many = none) (hb : Below w.heap.size w w') : RdV bs many w (.returned (.tuple #[.slice none 0 0, .int .i64 0, .bool false])) w' :=
  ⟨none, 0, [], 0, false, rfl, sl_nil fun _ => rfl, Or.inr ⟨h, rfl, rfl, rfl⟩, hb⟩
theorem asz9 (w : World) (o : Obj) : (w.alloc o).heap.size = w.heap.size + 1 := by simp
theorem frozen_past {w : World} {n o : Nat} (h : w.heap.size ≤ n) : w.frozen? ⟨n, o, none⟩ = false := by
  simp [World.frozen?, Array.getElem?_eq_none h]
/-- The three results' variables. -/
structure Res3 (w : World) (n : Nat) (x0 x1 x2 : Value) : Prop where
  c0 : w.cell? ⟨n, 0, none⟩ = some x0
  c1 : w.cell? ⟨n + 1, 0, none⟩ = some x1
  c2 : w.cell? ⟨n + 2, 0, none⟩ = some x2
  f0 : w.frozen? ⟨n, 0, none⟩ = false
  f1 : w.frozen? ⟨n + 1, 0, none⟩ = false
  f2 : w.frozen? ⟨n + 2, 0, none⟩ = false
theorem Res3.save {w w' : World} {n m : Nat} {x0 x1 x2 : Value} {S : Nat → Prop} (h : Res3 w n x0 x1 x2) (hs : Save S m w w') (hm : n + 2 < m) (hS : ∀ k, k ≤ n + 2 → ¬ S k) : Res3 w' n x0 x1 x2 :=
  ⟨by rw [hs.cell (p := ⟨n, 0, none⟩) (by show n < m; omega) (hS n (by omega))]; exact h.c0, by rw [hs.cell (p := ⟨n + 1, 0, none⟩) (by show n + 1 < m; omega) (hS (n + 1) (by omega))]; exact h.c1, by rw [hs.cell (p := ⟨n + 2, 0, none⟩) hm (hS (n + 2) (by omega))]; exact h.c2,
    by rw [hs.frozen (p := ⟨n, 0, none⟩) (by show n < m; omega) (hS n (by omega))]; exact h.f0, by rw [hs.frozen (p := ⟨n + 1, 0, none⟩) (by show n + 1 < m; omega) (hS (n + 1) (by omega))]; exact h.f1, by rw [hs.frozen (p := ⟨n + 2, 0, none⟩) hm (hS (n + 2) (by omega))]; exact h.f2⟩
theorem Res3.put0 {w : World} {n : Nat} {x0 x1 x2 : Value} (h : Res3 w n x0 x1 x2) (u : Value) : Res3 (w.setCell ⟨n, 0, none⟩ u) n u x1 x2 :=
  ⟨set_cell_same h.c0, by rw [cell_set_block _ (by omega)]; exact h.c1, by rw [cell_set_block _ (by omega)]; exact h.c2, by rw [World.frozen?_setCell]; exact h.f0, by rw [World.frozen?_setCell]; exact h.f1, by rw [World.frozen?_setCell]; exact h.f2⟩
theorem Res3.put1 {w : World} {n : Nat} {x0 x1 x2 : Value} (h : Res3 w n x0 x1 x2) (u : Value) : Res3 (w.setCell ⟨n + 1, 0, none⟩ u) n x0 u x2 :=
  ⟨by rw [cell_set_block _ (by omega)]; exact h.c0, set_cell_same h.c1, by rw [cell_set_block _ (by omega)]; exact h.c2, by rw [World.frozen?_setCell]; exact h.f0, by rw [World.frozen?_setCell]; exact h.f1, by rw [World.frozen?_setCell]; exact h.f2⟩
theorem Res3.put2 {w : World} {n : Nat} {x0 x1 x2 : Value} (h : Res3 w n x0 x1 x2) (u : Value) : Res3 (w.setCell ⟨n + 2, 0, none⟩ u) n x0 x1 u :=
  ⟨by rw [cell_set_block _ (by omega)]; exact h.c0, by rw [cell_set_block _ (by omega)]; exact h.c1, set_cell_same h.c2, by rw [World.frozen?_setCell]; exact h.f0, by rw [World.frozen?_setCell]; exact h.f1, by rw [World.frozen?_setCell]; exact h.f2⟩
theorem Res3.lt {w : World} {n : Nat} {x0 x1 x2 : Value} (h : Res3 w n x0 x1 x2) : n + 2 < w.heap.size := cell_lt h.c2
theorem res3_new (w : World) (x0 x1 x2 : Value) (t0 t1 t2 : TypeId) : ∃ W3, ((w.alloc (.cells #[x0] t0)).alloc (.cells #[x1] t1)).alloc (.cells #[x2] t2) = W3 ∧ Res3 W3 w.heap.size x0 x1 x2 ∧ W3.heap.size = w.heap.size + 3 ∧ Below w.heap.size w W3 := by
  refine ⟨_, rfl, ⟨?_, ?_, ?_, ?_, ?_, ?_⟩, by simp, (((Below.refl _ _).alloc (Nat.le_refl _) _).alloc (by simp) _).alloc (by simp; omega) _⟩
  · rw [World.cell?_alloc_lt _ _ _ (by simp; omega), World.cell?_alloc_lt _ _ _ (by simp), World.cell?_alloc_new]; rfl
  · rw [World.cell?_alloc_lt _ _ _ (by simp)]
    have h := World.cell?_alloc_new (w.alloc (.cells #[x0] t0)) #[x1] t1 0
    rw [asz9] at h
    rw [h]; rfl
  · have h := World.cell?_alloc_new ((w.alloc (.cells #[x0] t0)).alloc (.cells #[x1] t1)) #[x2] t2 0
    rw [asz9, asz9] at h
    rw [h]; rfl
  · simp only [frozen?_alloc_cells]; exact frozen_past (by omega)
  · simp only [frozen?_alloc_cells]; exact frozen_past (by omega)
  · simp only [frozen?_alloc_cells]; exact frozen_past (by omega)
/-- What the closure leaves of the three where broken was thrown. -/
theorem res3_caught {w w' : World} {n : Nat} {x0 x1 x2 : Value} {t : TypeId} (h : Res3 w n x0 x1 x2) (hw : w' = (((w.alloc (.cells #[] t)).setCell ⟨n, 0, none⟩ (.slice none 0 0)).setCell ⟨n + 1, 0, none⟩ (.int .i64 0)).setCell ⟨n + 2, 0, none⟩ (.bool false)) :
    Res3 w' n (.slice none 0 0) (.int .i64 0) (.bool false) ∧ Below n w w' := by
  have hlt := h.lt
  have hb : Below w.heap.size w (w.alloc (.cells #[] t)) := (Below.refl _ _).alloc (Nat.le_refl _) _
  have h1 := h.save (Save.of (S := fun _ => False) hb) hlt (fun _ _ q => q)
  subst hw
  exact ⟨((h1.put0 _).put1 _).put2 _, ((((hb.mono (B' := n) (by omega)).setCell (p := ⟨n, 0, none⟩) (Nat.le_refl _) _).setCell (p := ⟨n + 1, 0, none⟩) (Nat.le_succ _) _).setCell (p := ⟨n + 2, 0, none⟩) (by show n ≤ n + 2; omega) _)⟩
/-- What an append to a row of the call's own keeps. -/
theorem put_tok {S : Nat → Prop} {m n r : Nat} {w5 w9 w10 : World} {x0 x1 x2 v : Value} {p : Int} {c : Obj} {row : Option Nat} (hS : Save S m w5 w9) (hm : m ≤ w9.heap.size) (hres : Res3 w9 n x0 x1 x2) (hn : n + 2 < m) (hr : RdAt w9 r v p) (hrm : r < m) (hg : (w9.alloc c).grownBy w10 row) (hrow : ∀ k, row = some k → m ≤ k) :
    Res3 w10 n x0 x1 x2 ∧ RdAt w10 r v p ∧ Save S m w5 w10 := by
  have hb := ((Below.refl m w9).alloc hm c).grown hg (by simp; omega) hrow
  exact ⟨hres.save (Save.of (S := fun _ => False) hb) hn (fun _ _ q => q), hr.save (Save.of (S := fun _ => False) hb) hrm (fun q => q), hS.trans (Save.of hb)⟩
end Go.Proofs.Ytolappilfjhfaaa
namespace Go.Proofs.Ytolappilfjhfaaa

theorem hdrO_bd {b : List Bool} : ∀ (n : Nat) (p a : Int) (L M : List Int) (q : Int), hdrO b n p a L = some (M, q) → 0 ≤ p → p ≤ b.length → 0 ≤ q ∧ q ≤ b.length := by
  intro n
  induction n with
  | zero => intro p a L M q h h0 h1; unfold hdrO at h; injection h with h; injection h with _ h; subst h; exact ⟨h0, h1⟩
  | succ n ih =>
    intro p a L M q h h0 h1
    cases hs : numO b p 9 with
    | none => rw [hdr_none1 hs] at h; cases h
    | some s =>
      cases hk : numO b (p + 9) 4 with
      | none => rw [hdr_none2 hs hk] at h; cases h
      | some k =>
        by_cases hc : s ≤ a ∨ 272 ≤ s ∨ k = 0
        · rw [hdr_bad hs hk hc] at h; cases h
        · rw [hdr_step hs hk hc] at h
          have := (numO_bd hk).2.2
          exact ih _ _ _ _ _ h (by omega) (by omega)
theorem lensO_bd {b : List Bool} {L : List Int} {q : Int} (h : lensO b = some (L, q)) : lensOk L = true ∧ 0 ≤ q ∧ q ≤ b.length := by
  cases hn : numO b 0 9 with
  | none => rw [lensO_none0 hn] at h; cases h
  | some n =>
    have hb := numO_bd hn
    obtain ⟨N, rfl⟩ := Int.eq_ofNat_of_zero_le hb.1
    cases hh : hdrO b N 9 (-1) (List.replicate 272 0) with
    | none => rw [lensO_none1 hn hh] at h; cases h
    | some x =>
      obtain ⟨M, p⟩ := x
      rw [lensO_some hn hh] at h
      split at h
      · rename_i hok
        injection h with h
        injection h with h1 h2
        subst h1 h2
        exact ⟨hok, hdrO_bd _ _ _ _ _ _ hh (by decide) (by omega)⟩
      · cases h
theorem readO_bd {l : List Int} {b : List Bool} {p : Int} {s : Nat} (h : readO l b p = some s) : p + l[s]?.getD 0 ≤ b.length ∧ 0 ≤ p ∧ 0 < l[s]?.getD 0 := by
  have h1 := readO_some h
  have h2 := hit_iff.1 h1.2.2
  have h3 := h1.2.1
  omega
theorem tokO_bd {L : List Int} {b : List Bool} {p q : Int} {t : TokT} (h : tokO L b p = some (t, q)) : p < q ∧ q ≤ b.length := by
  unfold tokO at h
  cases hr : readO L b p with
  | none => rw [hr] at h; cases h
  | some s =>
    rw [hr] at h
    have hb := readO_bd hr
    simp only [] at h
    split at h
    · injection h with h; injection h with _ h; subst h; omega
    · cases hd : numO b (p + L[s]?.getD 0) 8 with
      | none => rw [hd] at h; cases h
      | some d =>
        rw [hd] at h
        have := (numO_bd hd).2.2
        injection h with h; injection h with _ h; subst h; omega
theorem toks_end {L : List Int} {b : List Bool} {many t p : Int} {m : Nat} {out : List TokT} (h : ¬ t < many) : toksO L b many (m + 1) t p out = some (out, p) := by
  unfold toksO; rw [if_neg h]
theorem toks_none {L : List Int} {b : List Bool} {many t p : Int} {m : Nat} {out : List TokT} (h : t < many) (h2 : tokO L b p = none) : toksO L b many (m + 1) t p out = none := by
  unfold toksO; rw [if_pos h, h2]
theorem toks_bad {L : List Int} {b : List Bool} {many t p q : Int} {m : Nat} {out : List TokT} {x : TokT} (h : t < many) (h2 : tokO L b p = some (x, q)) (hc : mayT x = false ∨ t < x.2.1 ∨ many < t + max x.2.2 1) : toksO L b many (m + 1) t p out = none := by
  conv => lhs; unfold toksO
  rw [if_pos h, h2]; simp only []; rw [if_pos hc]
theorem toks_step {L : List Int} {b : List Bool} {many t p q : Int} {m : Nat} {out : List TokT} {x : TokT} (h : t < many) (h2 : tokO L b p = some (x, q)) (hc : ¬ (mayT x = false ∨ t < x.2.1 ∨ many < t + max x.2.2 1)) : toksO L b many (m + 1) t p out = toksO L b many m (t + max x.2.2 1) q (out ++ [x]) := by
  conv => lhs; unfold toksO
  rw [if_pos h, h2]; simp only []; rw [if_neg hc]
end Go.Proofs.Ytolappilfjhfaaa
namespace Go.Proofs.Ytolappilfjhfaaa
open Go.RowKit

theorem res3_reader (W : World) (n : Nat) (x0 x1 x2 v : Value) (t : TypeId) (h : Res3 W n x0 x1 x2) (hn : W.heap.size = n + 3) : ∃ W4, W.alloc (.cells #[v, .int .i64 0] t) = W4 ∧ RdAt W4 (n + 3) v 0 ∧ Res3 W4 n x0 x1 x2 ∧ W4.heap.size = n + 4 ∧ Below W.heap.size W W4 := by
  have hb : Below W.heap.size W (W.alloc (.cells #[v, .int .i64 0] t)) := (Below.refl _ _).alloc (Nat.le_refl _) _
  refine ⟨_, rfl, ⟨by simp; omega, ?_, ?_, ?_⟩, h.save (Save.of (S := fun _ => False) hb) (by omega) (fun _ _ q => q), by simp; omega, hb⟩
  · rw [← hn]; simp
  · rw [← hn]; simp
  · rw [frozen?_alloc_cells]; exact frozen_past (by omega)

theorem cells3_after9 {w W : World} {g : Nat} {v0 v1 v2 : Value} (hb : Below w.heap.size w W) (hg : g < w.heap.size) (e0 : w.cell? ⟨g, 0, none⟩ = some v0) (e1 : w.cell? ⟨g, 1, none⟩ = some v1) (e2 : w.cell? ⟨g, 2, none⟩ = some v2) :
    W.cell? ⟨g, 0, none⟩ = some v0 ∧ W.cell? ⟨g, 1, none⟩ = some v1 ∧ W.cell? ⟨g, 2, none⟩ = some v2 :=
  ⟨by rw [hb.cell (p := ⟨g, 0, none⟩) hg]; exact e0, by rw [hb.cell (p := ⟨g, 1, none⟩) hg]; exact e1, by rw [hb.cell (p := ⟨g, 2, none⟩) hg]; exact e2⟩

set_option maxRecDepth 100000 in
set_option maxHeartbeats 8000000 in
theorem readP_any (v : Value) (bs : List Bool) (many : Int) (w : World) (hv : Bits w v bs) (hl : bs.length ≤ 140737488355328) :
    Calls Try.prog 21 #[v, .int .i64 many] w fun e w' => RdV bs many w e w' := by
  have hmf : ∀ (fn : Fn) (first cap : Array Value) (w : World), (Instr.makeFunc fn first cap).run Try.prog w = .ok (.func fn first cap) w := fun _ _ _ _ => rfl
  obtain ⟨W3, hW3, hres, hsz3, hb3⟩ := res3_new w (.slice none 0 0) (.int .i64 0) (.bool false) 22 3 4
  have HRes := Lib.hid hres
  have HB3 := Lib.hid hb3
  have HV := Lib.hid hv
  obtain ⟨aV, cV, rfl, _⟩ := hv
  clear hb3
  by_cases hm : many < 0 ∨ 1000 < many
  · have HN : Hid (rdO bs many = none) := by unfold Hid rdO; rw [if_pos hm]
    have c0 := hres.c0
    have f0 := hres.f0
    obtain ⟨W4, hW4⟩ : ∃ W4, W3.setCell ⟨w.heap.size, 0, none⟩ (.slice none 0 0) = W4 := ⟨_, rfl⟩
    have hr4 : Res3 W4 w.heap.size (.slice none 0 0) (.int .i64 0) (.bool false) := by rw [← hW4]; exact hres.put0 _
    have hb4 : Hid (Below w.heap.size w W4) := by rw [← hW4]; exact HB3.out.setCell (Nat.le_refl _) _
    obtain ⟨W5, hW5⟩ : ∃ W5, W4.setCell ⟨w.heap.size + 1, 0, none⟩ (.int .i64 0) = W5 := ⟨_, rfl⟩
    have hr5 : Res3 W5 w.heap.size (.slice none 0 0) (.int .i64 0) (.bool false) := by rw [← hW5]; exact hr4.put1 _
    have hb5 : Hid (Below w.heap.size w W5) := by rw [← hW5]; exact hb4.out.setCell (by show w.heap.size ≤ w.heap.size + 1; omega) _
    obtain ⟨W6, hW6⟩ : ∃ W6, W5.setCell ⟨w.heap.size + 2, 0, none⟩ (.bool false) = W6 := ⟨_, rfl⟩
    have hr6 : Res3 W6 w.heap.size (.slice none 0 0) (.int .i64 0) (.bool false) := by rw [← hW6]; exact hr5.put2 _
    have hb6 : Hid (Below w.heap.size w W6) := by rw [← hW6]; exact hb5.out.setCell (by show w.heap.size ≤ w.heap.size + 2; omega) _
    have c1 := hr4.c1
    have f1 := hr4.f1
    have c2 := hr5.c2
    have f2 := hr5.f2
    have d0 := hr6.c0
    have d1 := hr6.c1
    have d2 := hr6.c2
    clear hres hr4 hr5 hr6
    have hdoor := catch_idle ⟨w.heap.size, 0, none⟩ ⟨w.heap.size + 1, 0, none⟩ ⟨w.heap.size + 2, 0, none⟩ W6
    by_cases h1 : many < 0
    · clear hm
      go_enter_defers Try.func21, Try.ntmps21
      go_wp2_with fail
      refine leaves_cons (f := 40) (args := #[.pointer (some ⟨w.heap.size, 0, none⟩), .pointer (some ⟨w.heap.size + 1, 0, none⟩), .pointer (some ⟨w.heap.size + 2, 0, none⟩)]) (by simp) (by simp [go_sem]) ?_
      refine hdoor.mono ?_
      rintro e u' w'' ⟨rfl, rfl, rfl⟩
      simp [Leaves, settle, results, Try.results21, go_sem, d0, d1, d2]
      exact rdV_no HN.out hb6.out
    · have h2 : 1000 < many := by omega
      clear hm
      go_enter_defers Try.func21, Try.ntmps21
      go_wp2_with fail
      refine leaves_cons (f := 40) (args := #[.pointer (some ⟨w.heap.size, 0, none⟩), .pointer (some ⟨w.heap.size + 1, 0, none⟩), .pointer (some ⟨w.heap.size + 2, 0, none⟩)]) (by simp) (by simp [go_sem]) ?_
      refine hdoor.mono ?_
      rintro e u' w'' ⟨rfl, rfl, rfl⟩
      simp [Leaves, settle, results, Try.results21, go_sem, d0, d1, d2]
      exact rdV_no HN.out hb6.out
  · have m0 : ¬ many < 0 := fun q => hm (Or.inl q)
    have m1 : ¬ 1000 < many := fun q => hm (Or.inr q)
    have hN : rdO bs many = (match lensO bs with
      | some (L, p) => toksO L bs many (many.toNat + 1) 0 p []
      | none => none) := by unfold rdO; rw [if_neg hm]; rfl
    have HN := Lib.hid hN
    have b1 : decide (many < 0) = false := by simpa using m0
    have b2 : decide (1000 < many) = false := by simpa using m1
    clear hm hN
    obtain ⟨W4, hW4, hrd, hres4, hsz4, hb4⟩ := res3_reader W3 w.heap.size _ _ _ (.slice aV bs.length cV) 61 hres hsz3
    have HB4 := Lib.hid (HB3.out.trans (hb4.mono HB3.out.size))
    have HRes4 := Lib.hid hres4
    have HRd := Lib.hid hrd
    have hrl := rlens_any w (w.heap.size + 3) (.slice aV bs.length cV) bs W4 hrd HV.out HB4.out (by omega) hl
    clear hres hres4 hrd hb4
    go_enter_defers Try.func21, Try.ntmps21
    go_wp2_with fail
    refine hrl.mono ?_
    rintro e w5 ⟨hs5, ⟨L, q, hL, rfl, hown5, hL272, hr5⟩ | ⟨hL, rfl⟩⟩
    rotate_left
    · have HNo : Hid (rdO bs many = none) := by unfold Hid; rw [HN.out, hL]
      have hres5 := HRes4.out.save hs5 (by omega) (fun k hk e => by omega)
      have hb5 := Lib.hid (HB4.out.trans (hs5.below (m' := w.heap.size) (fun k hk e => by omega) (by omega)))
      have hdoor := catch_broken ⟨w.heap.size, 0, none⟩ ⟨w.heap.size + 1, 0, none⟩ ⟨w.heap.size + 2, 0, none⟩ _ _ _ w5 hres5.c0 hres5.c1 hres5.c2 hres5.f0 hres5.f1 hres5.f2 (by simp) (by simp) (by simp)
      clear hs5 hL hrl
      go_wp2_with fail
      refine leaves_cons (f := 40) (args := #[.pointer (some ⟨w.heap.size, 0, none⟩), .pointer (some ⟨w.heap.size + 1, 0, none⟩), .pointer (some ⟨w.heap.size + 2, 0, none⟩)]) (by simp) (by simp [go_sem]) ?_
      refine hdoor.mono ?_
      rintro e u' w'' ⟨rfl, rfl, hw⟩
      obtain ⟨hrc, hbc⟩ := res3_caught hres5 hw
      have d0 := hrc.c0
      have d1 := hrc.c1
      have d2 := hrc.c2
      clear hw hdoor hrc hres5
      simp [Leaves, settle, results, Try.results21, go_sem, d0, d1, d2]
      exact rdV_no HNo.out (hb5.out.trans hbc)
    obtain ⟨hok, hq0, hqb⟩ := lensO_bd hL
    obtain ⟨_, hLb, _⟩ := lensOk_parts hok
    have HLb := Lib.hid hLb
    have HN2 : Hid (rdO bs many = toksO L bs many (many.toNat + 1) 0 q []) := by unfold Hid; rw [HN.out, hL]
    rw [hsz4] at hown5
    have hres5 := HRes4.out.save hs5 (by omega) (fun k hk e => by omega)
    have HRes5 := Lib.hid hres5
    have HB5 := Lib.hid (HB4.out.trans (hs5.below (m' := w.heap.size) (fun k hk e => by omega) (by omega)))
    have HO5 := Lib.hid hown5
    have HR5 := Lib.hid hr5
    have HL272 := Lib.hid hL272
    have hs5lt : w.heap.size + 4 < w5.heap.size := by have h1 := owns_lt hown5 _ rfl; exact h1
    obtain ⟨i0, hi, hz0, hz1, hz2⟩ := info_parts info_tok
    clear hs5 hL hrl hown5 hr5 hL272 hres5 hLb hok HN HRes4 HRd
    go_wp2_with fail
    go_loopw [9] (fun ti wr => ∃ (t p : Int) (out : List TokT) (a : Option Addr) (cap m : Nat), ti = .int .i64 t ∧ 0 ≤ t ∧ t ≤ many ∧ many - t < m ∧ 0 ≤ p ∧ p ≤ bs.length ∧ (out.length : Int) ≤ t ∧ toksO L bs many (many.toNat + 1) 0 q [] = toksO L bs many m t p out ∧ RdAt wr (w.heap.size + 3) (.slice aV bs.length cV) p ∧ Res3 wr w.heap.size (.slice a out.length cap) (.int .i64 0) (.bool false) ∧ wr.ownsRow w5.heap.size 30 3 (.slice a out.length cap) out.length (cellsT out) ∧ Save (fun k => k = w.heap.size ∨ k = w.heap.size + 3) w5.heap.size w5 wr) (fun ti _ => (many - intOf ti).toNat)
    case atStart => exact ⟨0, q, [], none, 0, many.toNat + 1, rfl, by decide, by omega, by omega, hq0, hqb, by decide, rfl, HR5.out, HRes5.out, World.ownsRow_nil _ _ _ _, Save.refl _ _ _⟩
    case round =>
      obtain ⟨t, p, out, a, cap, m, rfl, ht0, ht1, hmt, hp0, hpb, hot, htk, hrd, hres, hown, hsv⟩ := hrel
      have HTk := Lib.hid htk
      have HRd := Lib.hid hrd
      have HRes := Lib.hid hres
      have HO := Lib.hid hown
      have HSv := Lib.hid hsv
      have HBw := Lib.hid (HB5.out.trans (hsv.below (m' := w.heap.size) (fun k hk e => by omega) (by omega)))
      have hsz := hsv.size
      obtain ⟨m', rfl⟩ : ∃ m', m = m' + 1 := ⟨m - 1, by omega⟩
      clear htk hrd hres hown hsv
      by_cases hlt : t < many
      · have b3 : decide (t < many) = true := by simpa using hlt
        have hl5 := HSv.out.owns HO5.out (Nat.le_refl _) (fun k hk e => by omega)
        have htok := token_any w (w.heap.size + 3) (.slice aV bs.length cV) (.slice (some ⟨w.heap.size + 4, 0, none⟩) 272 272) L bs p wr HRd.out HV.out HBw.out (by omega) ((sl_of_owns hl5).1) hl (by rw [HL272.out]; omega) HLb.out hp0 (by omega)
        clear hl5
        go_wp2_with fail
        refine htok.mono ?_
        rintro e w6 ⟨hs6, ⟨tb, td, tn, q', htk, rfl, hr6⟩ | ⟨htk, rfl⟩⟩
        rotate_left
        · have HNo : Hid (rdO bs many = none) := by unfold Hid; rw [HN2.out, HTk.out]; exact toks_none hlt htk
          have hres5 := HRes.out.save hs6 (by have := HRes.out.lt; omega) (fun k hk e => by omega)
          have hb5 := Lib.hid (HBw.out.trans (hs6.below (m' := w.heap.size) (fun k hk e => by omega) (by omega)))
          have hdoor := catch_broken ⟨w.heap.size, 0, none⟩ ⟨w.heap.size + 1, 0, none⟩ ⟨w.heap.size + 2, 0, none⟩ _ _ _ w6 hres5.c0 hres5.c1 hres5.c2 hres5.f0 hres5.f1 hres5.f2 (by simp) (by simp) (by simp)
          clear hs6 htk htok
          go_wp2_with fail
          refine leaves_cons (f := 40) (args := #[.pointer (some ⟨w.heap.size, 0, none⟩), .pointer (some ⟨w.heap.size + 1, 0, none⟩), .pointer (some ⟨w.heap.size + 2, 0, none⟩)]) (by simp) (by simp [go_sem]) ?_
          refine hdoor.mono ?_
          rintro e u' w'' ⟨rfl, rfl, hw⟩
          obtain ⟨hrc, hbc⟩ := res3_caught hres5 hw
          have d0 := hrc.c0
          have d1 := hrc.c1
          have d2 := hrc.c2
          clear hw hdoor hrc hres5
          simp [Leaves, settle, results, Try.results21, go_sem, d0, d1, d2]
          exact rdV_no HNo.out (hb5.out.trans hbc)
        have htq := tokO_bd htk
        have Htk := Lib.hid htk
        have hres6 := HRes.out.save hs6 (by have := HRes.out.lt; omega) (fun k hk e => by omega)
        have HB6 := Lib.hid (HBw.out.trans (hs6.below (m' := w.heap.size) (fun k hk e => by omega) (by omega)))
        have HO6 := Lib.hid (hs6.owns HO.out (Nat.le_refl _) (fun k hk e => by omega))
        have HSv6 := Lib.hid (HSv.out.trans (hs6.mono (m' := w5.heap.size) hsz (fun k _ e => Or.inr e)))
        have HR6 := Lib.hid hr6
        have hsz6 := HSv6.out.size
        obtain ⟨W7, hW7, e0, e1, e2, hfz, hsz7, hb7⟩ := boxed3f w6 (.int .i64 0) (.int .i64 0) (.int .i64 0) 30
        obtain ⟨W8, hW8, f0, f1, f2, hb8⟩ := put3 (.int .i64 tb) (.int .i64 td) (.int .i64 tn) e0 e1 e2
        have z0 := hfz 0
        have z1 := hfz 1
        have z2 := hfz 2
        have HB8 := Lib.hid (hb7.trans hb8)
        have hsz8 : w6.heap.size < W8.heap.size := by have := hb8.size; omega
        have hmay := may_any tb td tn W8
        have HRes6 := Lib.hid hres6
        clear hs6 htk hr6 hfz hb7 hb8 htok hres6 hsz7
        by_cases h1 : 1 ≤ tn
        · skip
          go_wp2_with fail
          have hmm : max tn 1 = tn := by omega
          refine hmay.mono ?_
          rintro e w9 ⟨rfl, hb9⟩
          obtain ⟨f0, f1, f2⟩ := cells3_after9 hb9 hsz8 f0 f1 f2
          have HB69 : Hid (Below w6.heap.size w6 w9) := HB8.out.trans (hb9.mono HB8.out.size)
          have hres9 := HRes6.out.save (Save.of (S := fun _ => False) HB69.out) (by have := HRes6.out.lt; omega) (fun _ _ q => q)
          have HB9 := Lib.hid (HB6.out.trans (HB69.out.mono HB6.out.size))
          have HO9 := Lib.hid (owns_below HO6.out HB69.out)
          have HR9 := Lib.hid (HR6.out.keep HB69.out)
          have HSv9 := Lib.hid (HSv6.out.then HB69.out hsz6)
          have hsz9 := HSv9.out.size
          clear hmay hb9 hW7 hW8 e0 e1 e2 z0 z1 z2
          by_cases hmt3 : mayT (tb, td, tn) = false
          · skip
            have HNo : Hid (rdO bs many = none) := by unfold Hid; rw [HN2.out, HTk.out]; exact toks_bad hlt Htk.out (Or.inl hmt3)
            rw [hmt3]
            have hdoor := catch_broken ⟨w.heap.size, 0, none⟩ ⟨w.heap.size + 1, 0, none⟩ ⟨w.heap.size + 2, 0, none⟩ _ _ _ w9 hres9.c0 hres9.c1 hres9.c2 hres9.f0 hres9.f1 hres9.f2 (by simp) (by simp) (by simp)
            go_wp2_with fail
            refine leaves_cons (f := 40) (args := #[.pointer (some ⟨w.heap.size, 0, none⟩), .pointer (some ⟨w.heap.size + 1, 0, none⟩), .pointer (some ⟨w.heap.size + 2, 0, none⟩)]) (by simp) (by simp [go_sem]) ?_
            refine hdoor.mono ?_
            rintro e u' w'' ⟨rfl, rfl, hw⟩
            obtain ⟨hrc, hbc⟩ := res3_caught hres9 hw
            have d0 := hrc.c0
            have d1 := hrc.c1
            have d2 := hrc.c2
            clear hw hdoor hrc hres9
            simp [Leaves, settle, results, Try.results21, go_sem, d0, d1, d2]
            exact rdV_no HNo.out (HB9.out.trans hbc)
          have hmt2 : mayT (tb, td, tn) = true := by cases q : mayT (tb, td, tn) with
            | true => rfl
            | false => exact absurd q hmt3
          clear hmt3
          have hpt := mayT_parts hmt2
          have hmx : 1 ≤ tn ∧ tn ≤ 18 := by omega
          have y : IntKind.i64.wrap (t + tn) = t + tn := by rw [IntKind.wrap_i64]; omega
          have HMx := Lib.hid hmx
          clear hpt hmx
          by_cases hd : t < td
          · have HNo : Hid (rdO bs many = none) := by unfold Hid; rw [HN2.out, HTk.out]; exact toks_bad hlt Htk.out (Or.inr (Or.inl hd))
            have b4 : decide (t < td) = true := by simpa using hd
            rw [hmt2]
            have hdoor := catch_broken ⟨w.heap.size, 0, none⟩ ⟨w.heap.size + 1, 0, none⟩ ⟨w.heap.size + 2, 0, none⟩ _ _ _ w9 hres9.c0 hres9.c1 hres9.c2 hres9.f0 hres9.f1 hres9.f2 (by simp) (by simp) (by simp)
            go_wp2_with fail
            refine leaves_cons (f := 40) (args := #[.pointer (some ⟨w.heap.size, 0, none⟩), .pointer (some ⟨w.heap.size + 1, 0, none⟩), .pointer (some ⟨w.heap.size + 2, 0, none⟩)]) (by simp) (by simp [go_sem]) ?_
            refine hdoor.mono ?_
            rintro e u' w'' ⟨rfl, rfl, hw⟩
            obtain ⟨hrc, hbc⟩ := res3_caught hres9 hw
            have d0 := hrc.c0
            have d1 := hrc.c1
            have d2 := hrc.c2
            clear hw hdoor hrc hres9
            simp [Leaves, settle, results, Try.results21, go_sem, d0, d1, d2]
            exact rdV_no HNo.out (HB9.out.trans hbc)
          have b4 : decide (t < td) = false := by simpa using hd
          by_cases hn : many < t + tn
          · have HNo : Hid (rdO bs many = none) := by unfold Hid; rw [HN2.out, HTk.out]; exact toks_bad hlt Htk.out (Or.inr (Or.inr (by show many < t + max tn 1; omega)))
            have b5 : decide (many < t + tn) = true := by simpa using hn
            rw [hmt2]
            have hdoor := catch_broken ⟨w.heap.size, 0, none⟩ ⟨w.heap.size + 1, 0, none⟩ ⟨w.heap.size + 2, 0, none⟩ _ _ _ w9 hres9.c0 hres9.c1 hres9.c2 hres9.f0 hres9.f1 hres9.f2 (by simp) (by simp) (by simp)
            go_wp2_with fail
            refine leaves_cons (f := 40) (args := #[.pointer (some ⟨w.heap.size, 0, none⟩), .pointer (some ⟨w.heap.size + 1, 0, none⟩), .pointer (some ⟨w.heap.size + 2, 0, none⟩)]) (by simp) (by simp [go_sem]) ?_
            refine hdoor.mono ?_
            rintro e u' w'' ⟨rfl, rfl, hw⟩
            obtain ⟨hrc, hbc⟩ := res3_caught hres9 hw
            have d0 := hrc.c0
            have d1 := hrc.c1
            have d2 := hrc.c2
            clear hw hdoor hrc hres9
            simp [Leaves, settle, results, Try.results21, go_sem, d0, d1, d2]
            exact rdV_no HNo.out (HB9.out.trans hbc)
          have b5 : decide (many < t + tn) = false := by simpa using hn
          have hc : ¬ (mayT (tb, td, tn) = false ∨ t < td ∨ many < t + max tn 1) := by
            rintro (q | q | q)
            · rw [hmt2] at q; cases q
            · exact hd q
            · omega
          have HStep : Hid (toksO L bs many (many.toNat + 1) 0 q [] = toksO L bs many m' (t + tn) q' (out ++ [(tb, td, tn)])) := by
            have q2 : toksO L bs many (m' + 1) t p out = toksO L bs many m' (t + max tn 1) q' (out ++ [(tb, td, tn)]) := toks_step hlt Htk.out hc
            rw [hmm] at q2
            unfold Hid; rw [HTk.out]; exact q2
          clear hc
          rw [hmt2]
          have c0 := hres9.c0
          have z0 := hres9.f0
          have HRes9 := Lib.hid hres9
          clear hres9 hmt2 hmm
          go_wp2_with (first | (at_builtin; have hQ := HO9.out.alloc (.cells #[.int .i64 tb, .int .i64 td, .int .i64 tn] 30); refine wpList_append_own_at _ rfl _ _ 22 rfl w5.heap.size 30 i0 _ 3 24 Try.underlying22 hi hz0 hz1 hz2 rfl (by decide) _ _ _ rfl hQ ⟨w9.heap.size, 0, none⟩ 1 1 (tokE (tb, td, tn)) rfl rfl (cells_three_newM _ _ _ _ _) (tokE_one _) (by simp [maxLen]; omega) (by omega) (by simp; omega) ?_
                                intro v3 w10 hown10 hg10 _ hat10
                                obtain ⟨k0, k1, k2⟩ := put_tok HSv9.out hsz9 HRes9.out (by omega) HR9.out (by omega) hg10 (fun b hbk => owns_block HO9.out b hbk)
                                obtain ⟨a3, c3, rfl, _⟩ := owns_shape hown10
                                have HO10 := Lib.hid hown10
                                have HRes10 := Lib.hid k0
                                have HR10 := Lib.hid k1
                                have HSv10 := Lib.hid k2
                                have c10 := HRes10.out.c0
                                have z10 := HRes10.out.f0
                                clear hown10 hg10 hat10 hQ k0 k1 k2))
          have hlen : (out ++ [(tb, td, tn)]).length = out.length + 1 := by simp
          have HO11 := Lib.hid (ownsRow_setCell_below HO10.out (a := ⟨w.heap.size, 0, none⟩) (by show w.heap.size < w5.heap.size; omega) (.slice a3 (out.length + 1) c3))
          have HRes11 := Lib.hid (HRes10.out.put0 (.slice a3 (out.length + 1) c3))
          have HR11 := Lib.hid (HR10.out.save ((Save.refl (· = w.heap.size) (w.heap.size + 4) w10).set (p := ⟨w.heap.size, 0, none⟩) (Or.inl rfl) (.slice a3 (out.length + 1) c3)) (by omega) (by intro e; exact absurd e (by omega)))
          have HSv11 := Lib.hid (HSv10.out.set (p := ⟨w.heap.size, 0, none⟩) (Or.inl (Or.inl rfl)) (.slice a3 (out.length + 1) c3))
          exact ⟨⟨t + tn, q', out ++ [(tb, td, tn)], a3, c3, m', by first | rfl | rw [show max tn 1 = tn by omega], by omega, by omega, by omega, by omega, by omega, by rw [hlen]; omega, HStep.out, HR11.out, by rw [hlen]; exact HRes11.out, by rw [hlen, cellsT_snoc]; exact HO11.out, HSv11.out⟩, by simp [intOf]; omega⟩
        · skip
          go_wp2_with fail
          have hmm : max tn 1 = 1 := by omega
          refine hmay.mono ?_
          rintro e w9 ⟨rfl, hb9⟩
          obtain ⟨f0, f1, f2⟩ := cells3_after9 hb9 hsz8 f0 f1 f2
          have HB69 : Hid (Below w6.heap.size w6 w9) := HB8.out.trans (hb9.mono HB8.out.size)
          have hres9 := HRes6.out.save (Save.of (S := fun _ => False) HB69.out) (by have := HRes6.out.lt; omega) (fun _ _ q => q)
          have HB9 := Lib.hid (HB6.out.trans (HB69.out.mono HB6.out.size))
          have HO9 := Lib.hid (owns_below HO6.out HB69.out)
          have HR9 := Lib.hid (HR6.out.keep HB69.out)
          have HSv9 := Lib.hid (HSv6.out.then HB69.out hsz6)
          have hsz9 := HSv9.out.size
          clear hmay hb9 hW7 hW8 e0 e1 e2 z0 z1 z2
          by_cases hmt3 : mayT (tb, td, tn) = false
          · skip
            have HNo : Hid (rdO bs many = none) := by unfold Hid; rw [HN2.out, HTk.out]; exact toks_bad hlt Htk.out (Or.inl hmt3)
            rw [hmt3]
            have hdoor := catch_broken ⟨w.heap.size, 0, none⟩ ⟨w.heap.size + 1, 0, none⟩ ⟨w.heap.size + 2, 0, none⟩ _ _ _ w9 hres9.c0 hres9.c1 hres9.c2 hres9.f0 hres9.f1 hres9.f2 (by simp) (by simp) (by simp)
            go_wp2_with fail
            refine leaves_cons (f := 40) (args := #[.pointer (some ⟨w.heap.size, 0, none⟩), .pointer (some ⟨w.heap.size + 1, 0, none⟩), .pointer (some ⟨w.heap.size + 2, 0, none⟩)]) (by simp) (by simp [go_sem]) ?_
            refine hdoor.mono ?_
            rintro e u' w'' ⟨rfl, rfl, hw⟩
            obtain ⟨hrc, hbc⟩ := res3_caught hres9 hw
            have d0 := hrc.c0
            have d1 := hrc.c1
            have d2 := hrc.c2
            clear hw hdoor hrc hres9
            simp [Leaves, settle, results, Try.results21, go_sem, d0, d1, d2]
            exact rdV_no HNo.out (HB9.out.trans hbc)
          have hmt2 : mayT (tb, td, tn) = true := by cases q : mayT (tb, td, tn) with
            | true => rfl
            | false => exact absurd q hmt3
          clear hmt3
          have hpt := mayT_parts hmt2
          have hmx : 1 ≤ 1 ∧ 1 ≤ 18 := by omega
          have y : IntKind.i64.wrap (t + 1) = t + 1 := by rw [IntKind.wrap_i64]; omega
          have HMx := Lib.hid hmx
          clear hpt hmx
          by_cases hd : t < td
          · have HNo : Hid (rdO bs many = none) := by unfold Hid; rw [HN2.out, HTk.out]; exact toks_bad hlt Htk.out (Or.inr (Or.inl hd))
            have b4 : decide (t < td) = true := by simpa using hd
            rw [hmt2]
            have hdoor := catch_broken ⟨w.heap.size, 0, none⟩ ⟨w.heap.size + 1, 0, none⟩ ⟨w.heap.size + 2, 0, none⟩ _ _ _ w9 hres9.c0 hres9.c1 hres9.c2 hres9.f0 hres9.f1 hres9.f2 (by simp) (by simp) (by simp)
            go_wp2_with fail
            refine leaves_cons (f := 40) (args := #[.pointer (some ⟨w.heap.size, 0, none⟩), .pointer (some ⟨w.heap.size + 1, 0, none⟩), .pointer (some ⟨w.heap.size + 2, 0, none⟩)]) (by simp) (by simp [go_sem]) ?_
            refine hdoor.mono ?_
            rintro e u' w'' ⟨rfl, rfl, hw⟩
            obtain ⟨hrc, hbc⟩ := res3_caught hres9 hw
            have d0 := hrc.c0
            have d1 := hrc.c1
            have d2 := hrc.c2
            clear hw hdoor hrc hres9
            simp [Leaves, settle, results, Try.results21, go_sem, d0, d1, d2]
            exact rdV_no HNo.out (HB9.out.trans hbc)
          have b4 : decide (t < td) = false := by simpa using hd
          have hn : ¬ many < t + 1 := by omega
          have b6 : decide (many ≤ t) = false := by simp; omega
          have b5 : decide (many < t + 1) = false := by simpa using hn
          have hc : ¬ (mayT (tb, td, tn) = false ∨ t < td ∨ many < t + max tn 1) := by
            rintro (q | q | q)
            · rw [hmt2] at q; cases q
            · exact hd q
            · omega
          have HStep : Hid (toksO L bs many (many.toNat + 1) 0 q [] = toksO L bs many m' (t + 1) q' (out ++ [(tb, td, tn)])) := by
            have q2 : toksO L bs many (m' + 1) t p out = toksO L bs many m' (t + max tn 1) q' (out ++ [(tb, td, tn)]) := toks_step hlt Htk.out hc
            rw [hmm] at q2
            unfold Hid; rw [HTk.out]; exact q2
          clear hc
          rw [hmt2]
          have c0 := hres9.c0
          have z0 := hres9.f0
          have HRes9 := Lib.hid hres9
          clear hres9 hmt2 hmm
          go_wp2_with (first | (at_builtin; have hQ := HO9.out.alloc (.cells #[.int .i64 tb, .int .i64 td, .int .i64 tn] 30); refine wpList_append_own_at _ rfl _ _ 22 rfl w5.heap.size 30 i0 _ 3 24 Try.underlying22 hi hz0 hz1 hz2 rfl (by decide) _ _ _ rfl hQ ⟨w9.heap.size, 0, none⟩ 1 1 (tokE (tb, td, tn)) rfl rfl (cells_three_newM _ _ _ _ _) (tokE_one _) (by simp [maxLen]; omega) (by omega) (by simp; omega) ?_
                                intro v3 w10 hown10 hg10 _ hat10
                                obtain ⟨k0, k1, k2⟩ := put_tok HSv9.out hsz9 HRes9.out (by omega) HR9.out (by omega) hg10 (fun b hbk => owns_block HO9.out b hbk)
                                obtain ⟨a3, c3, rfl, _⟩ := owns_shape hown10
                                have HO10 := Lib.hid hown10
                                have HRes10 := Lib.hid k0
                                have HR10 := Lib.hid k1
                                have HSv10 := Lib.hid k2
                                have c10 := HRes10.out.c0
                                have z10 := HRes10.out.f0
                                clear hown10 hg10 hat10 hQ k0 k1 k2))
          have hlen : (out ++ [(tb, td, tn)]).length = out.length + 1 := by simp
          have HO11 := Lib.hid (ownsRow_setCell_below HO10.out (a := ⟨w.heap.size, 0, none⟩) (by show w.heap.size < w5.heap.size; omega) (.slice a3 (out.length + 1) c3))
          have HRes11 := Lib.hid (HRes10.out.put0 (.slice a3 (out.length + 1) c3))
          have HR11 := Lib.hid (HR10.out.save ((Save.refl (· = w.heap.size) (w.heap.size + 4) w10).set (p := ⟨w.heap.size, 0, none⟩) (Or.inl rfl) (.slice a3 (out.length + 1) c3)) (by omega) (by intro e; exact absurd e (by omega)))
          have HSv11 := Lib.hid (HSv10.out.set (p := ⟨w.heap.size, 0, none⟩) (Or.inl (Or.inl rfl)) (.slice a3 (out.length + 1) c3))
          exact ⟨⟨t + 1, q', out ++ [(tb, td, tn)], a3, c3, m', by first | rfl | rw [show max tn 1 = 1 by omega], by omega, by omega, by omega, by omega, by omega, by rw [hlen]; omega, HStep.out, HR11.out, by rw [hlen]; exact HRes11.out, by rw [hlen, cellsT_snoc]; exact HO11.out, HSv11.out⟩, by simp [intOf]; omega⟩
      · obtain rfl : t = many := by omega
        have HYes : Hid (rdO bs t = some (out, p)) := by unfold Hid; rw [HN2.out, HTk.out]; exact toks_end (by omega)
        have b3 : decide (t < t) = false := by simp
        have c0 := HRes.out.c0
        have c1 := HRes.out.c1
        have c2 := HRes.out.c2
        have z0 := HRes.out.f0
        have z1 := HRes.out.f1
        have z2 := HRes.out.f2
        have r1 := HRd.out.c1
        have HO6 := Lib.hid (ownsRow_setCell_below (ownsRow_setCell_below (ownsRow_setCell_below HO.out (a := ⟨w.heap.size, 0, none⟩) (by show w.heap.size < w5.heap.size; omega) (.slice a out.length cap)) (a := ⟨w.heap.size + 1, 0, none⟩) (by show w.heap.size + 1 < w5.heap.size; omega) (.int .i64 p)) (a := ⟨w.heap.size + 1 + 1, 0, none⟩) (by show w.heap.size + 1 + 1 < w5.heap.size; omega) (.bool true))
        have HR6 := Lib.hid (((HRes.out.put0 (.slice a out.length cap)).put1 (.int .i64 p)).put2 (.bool true))
        have HB6 := Lib.hid (((HBw.out.setCell (p := ⟨w.heap.size, 0, none⟩) (Nat.le_refl _) (.slice a out.length cap)).setCell (p := ⟨w.heap.size + 1, 0, none⟩) (by show w.heap.size ≤ w.heap.size + 1; omega) (.int .i64 p)).setCell (p := ⟨w.heap.size + 1 + 1, 0, none⟩) (by show w.heap.size ≤ w.heap.size + 1 + 1; omega) (.bool true)).drew
        go_wp2_with fail
        go_region
        obtain ⟨W6, hW6⟩ : ∃ W6, (((wr.setCell ⟨w.heap.size, 0, none⟩ (Value.slice a out.length cap)).setCell ⟨w.heap.size + 1, 0, none⟩ (.int .i64 p)).setCell ⟨w.heap.size + 1 + 1, 0, none⟩ (.bool true)).drew = W6 := ⟨_, rfl⟩
        have HT7 : Hid (ToksR W6 (.slice a out.length cap) out) := by rw [← hW6]; exact (toks_of_owns HO6.out).1
        have HB7 : Hid (Below w.heap.size w W6) := by rw [← hW6]; exact HB6.out
        have hr7 : Res3 W6 w.heap.size (.slice a out.length cap) (.int .i64 p) (.bool true) := by rw [← hW6]; exact ⟨HR6.out.c0, HR6.out.c1, HR6.out.c2, HR6.out.f0, HR6.out.f1, HR6.out.f2⟩
        rw [hW6]
        have hdoor := catch_idle ⟨w.heap.size, 0, none⟩ ⟨w.heap.size + 1, 0, none⟩ ⟨w.heap.size + 2, 0, none⟩ W6
        have d0 := hr7.c0
        have d1 := hr7.c1
        have d2 := hr7.c2
        clear hW6 c0 c1 c2 z0 z1 z2 r1 hr7
        go_wp2_with fail
        refine leaves_cons (f := 40) (args := #[.pointer (some ⟨w.heap.size, 0, none⟩), .pointer (some ⟨w.heap.size + 1, 0, none⟩), .pointer (some ⟨w.heap.size + 2, 0, none⟩)]) (by simp) (by simp [go_sem]) ?_
        refine hdoor.mono ?_
        rintro e u' w'' ⟨rfl, rfl, rfl⟩
        simp [Leaves, settle, results, Try.results21, go_sem, d0, d1, d2]
        exact ⟨a, cap, out, p, true, rfl, HT7.out, Or.inl ⟨HYes.out, rfl⟩, HB7.out⟩
end Go.Proofs.Ytolappilfjhfaaa
