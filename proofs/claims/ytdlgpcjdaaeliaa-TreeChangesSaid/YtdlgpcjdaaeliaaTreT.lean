/- The program's Walk. Conditions: numbers fit. -/
import Derived.Test.YtdlgpcjdaaeliaaTreS
namespace Go.Proofs.Ytdlgpcjdaaeliaa
open Go.RowKit Go.Shelf
attribute [local go_sem] Oper.semAt_some

def walkT (t : Tr) (x y : Int) : List (Int × Int) := if mayT16 t = true then walkP (pairsT t) x y else []
theorem walkP_snoc_in {l : List (Int × Int)} {p : Int × Int} {x y : Int} (h1 : x ≤ p.1) (h2 : p.1 < y) : walkP (l ++ [p]) x y = walkP l x y ++ [p] := by
  unfold walkP
  rw [List.filter_append, List.filter_cons, List.filter_nil, decide_eq_true h1, decide_eq_true h2]; rfl
theorem walkP_snoc_low {l : List (Int × Int)} {p : Int × Int} {x y : Int} (h1 : ¬ x ≤ p.1) : walkP (l ++ [p]) x y = walkP l x y := by
  unfold walkP
  rw [List.filter_append, List.filter_cons, List.filter_nil, decide_eq_false h1]; simp
theorem walkP_snoc_high {l : List (Int × Int)} {p : Int × Int} {x y : Int} (h2 : ¬ p.1 < y) : walkP (l ++ [p]) x y = walkP l x y := by
  unfold walkP
  rw [List.filter_append, List.filter_cons, List.filter_nil, decide_eq_false h2]; simp
/-- What comes behind a key that is not below is not below. -/
theorem walkP_stop {l pre rest : List (Int × Int)} {p : Int × Int} {x y : Int} (h : (pre ++ [p]) ++ rest = l) (hp : (keysP l).Pairwise (· < ·)) (h2 : y ≤ p.1) : walkP l x y = walkP pre x y := by
  subst h
  rw [keysP_append, keysP_append, List.pairwise_append] at hp
  unfold walkP
  rw [List.filter_append, List.filter_append, List.filter_cons, List.filter_nil, decide_eq_false (show ¬ p.1 < y by omega)]
  have hn : rest.filter (fun q => decide (x ≤ q.1) && decide (q.1 < y)) = [] := by
    rw [List.filter_eq_nil_iff]
    intro q hq hh
    have := hp.2.2 p.1 (by simp [keysP]) q.1 (List.mem_map.2 ⟨q, hq, rfl⟩)
    simp only [Bool.and_eq_true, decide_eq_true_eq] at hh
    omega
  rw [hn]
  simp
theorem walkP_len (l : List (Int × Int)) (x y : Int) : (walkP l x y).length ≤ l.length := List.length_filter_le _ _

set_option maxRecDepth 100000 in
set_option maxHeartbeats 4000000 in
theorem walk_in {w : World} {v0 v1 v2 : Value} {t : Tr} (h : NodeV w (v0, v1, v2) t) (x y : Int) (w' : World) (hb : Below w.heap.size w w') (hl : (pairsT t).length ≤ 1000000) :
    CallsIn Fence.wide 6 Try.prog 12 #[.agg #[v0, v1, v2], .int .i64 x, .int .i64 y] w' fun e w'' => ∃ (a : Option Addr) (cap : Nat) (r : List (Int × Int)), e = .returned (.slice a r.length cap) ∧ Hid (r = walkT t x y) ∧ OwnP w'' w'.heap.size (.slice a r.length cap) r ∧ Below w'.heap.size w' w'' := by
  obtain ⟨i0, hi, hz0, hz1, hz2⟩ := info_parts info_pair
  refine callsIn_of_wp_marks Try.func12 rfl trivial ?_ rfl
  simp only [Try.ntmps12, List.size_toArray, List.length_cons, List.length_nil, Nat.reduceAdd, Nat.reduceSub, Array.replicate_succ, Array.replicate_zero, List.push_toArray, List.append_toArray, List.nil_append, List.cons_append]
  obtain ⟨W1, hW, e0, e1, e2, hs1, hb0⟩ := boxed3 w' v0 v1 v2 25
  have hs2 : W1.heap.size + 1 + 1 = ((W1.alloc (.cells #[.int .i64 x] 3)).alloc (.cells #[.int .i64 y] 3)).heap.size := by simp
  have hb2 : Below w'.heap.size w' ((W1.alloc (.cells #[.int .i64 x] 3)).alloc (.cells #[.int .i64 y] 3)) := (hb0.alloc (Nat.le_of_lt hs1) _).alloc (by simp; omega) _
  have bX : Boxed ((W1.alloc (.cells #[.int .i64 x] 3)).alloc (.cells #[.int .i64 y] 3)) W1.heap.size 3 (.int .i64 x) := (Boxed.new _ _ _).alloc _
  have bY : Boxed ((W1.alloc (.cells #[.int .i64 x] 3)).alloc (.cells #[.int .i64 y] 3)) (W1.heap.size + 1) 3 (.int .i64 y) := by have := Boxed.new (W1.alloc (.cells #[.int .i64 x] 3)) 3 (.int .i64 y); simpa using this
  have E0 : ((W1.alloc (.cells #[.int .i64 x] 3)).alloc (.cells #[.int .i64 y] 3)).cell? ⟨w'.heap.size, 0, none⟩ = some v0 := by rw [World.cell?_alloc_lt _ _ _ (by simp; omega), World.cell?_alloc_lt _ _ _ hs1]; exact e0
  have E1 : ((W1.alloc (.cells #[.int .i64 x] 3)).alloc (.cells #[.int .i64 y] 3)).cell? ⟨w'.heap.size, 1, none⟩ = some v1 := by rw [World.cell?_alloc_lt _ _ _ (by simp; omega), World.cell?_alloc_lt _ _ _ hs1]; exact e1
  have E2 : ((W1.alloc (.cells #[.int .i64 x] 3)).alloc (.cells #[.int .i64 y] 3)).cell? ⟨w'.heap.size, 2, none⟩ = some v2 := by rw [World.cell?_alloc_lt _ _ _ (by simp; omega), World.cell?_alloc_lt _ _ _ hs1]; exact e2
  obtain ⟨W3, hW3⟩ : ∃ W3, (W1.alloc (.cells #[.int .i64 x] 3)).alloc (.cells #[.int .i64 y] 3) = W3 := ⟨_, rfl⟩
  rw [hW3] at hs2 hb2 bX bY E0 E1 E2
  have hmay := callsIn_wide (n := 6 - 1) |>.2 (may_any h W3 (hb.trans (hb2.mono hb.size)))
  have HT := Lib.hid h
  have Hb := Lib.hid hb
  have Hb2 := Lib.hid hb2
  have HbX := Lib.hid bX
  have HbY := Lib.hid bY
  have Hl := Lib.hid hl
  dsimp only at hmay
  clear e0 e1 e2 hb0 hb hb2 h bX bY hl
  have hs3 : W1.heap.size + 1 < W3.heap.size := by omega
  have hs4 : w'.heap.size < W3.heap.size := by omega
  have HS2 := Lib.hid hs2
  clear hs2
  cases hm : mayT16 t with
  | false =>
    rw [hm] at hmay
    have HE : Hid (walkT t x y = []) := by unfold Hid walkT; rw [hm]; rfl
    clear hm
    gi_wp2
    refine ⟨trivial, hmay.mono ?_⟩
    rintro e w4 ⟨rfl, hb4⟩
    have HB4 := Lib.hid (Hb2.out.trans (hb4.mono (Nat.le_of_lt hs4)))
    clear hmay hb4
    gi_wp2
    refine ⟨.slice none 0 0, by simp [results, Try.f12, go_sem], none, 0, [], rfl, HE.out.symm, World.ownsRow_nil _ _ _ _, HB4.out⟩
  | true =>
    rw [hm] at hmay
    obtain ⟨_, hsz, hpw⟩ := may_parts hm
    have HE : Hid (walkT t x y = walkP (pairsT t) x y) := by unfold Hid walkT; rw [if_pos hm]
    have Hpw := Lib.hid hpw
    have Hsz := Lib.hid hsz
    clear hm hsz hpw
    gi_wp2
    refine ⟨trivial, hmay.mono ?_⟩
    rintro e w4 ⟨rfl, hb4⟩
    have HB4 := Lib.hid (Hb2.out.trans (hb4.mono (Nat.le_of_lt hs4)))
    have F0 : w4.cell? ⟨w'.heap.size, 0, none⟩ = some v0 := (hb4.cell (p := ⟨w'.heap.size, 0, none⟩) hs4).trans E0
    have F1 : w4.cell? ⟨w'.heap.size, 1, none⟩ = some v1 := (hb4.cell (p := ⟨w'.heap.size, 1, none⟩) hs4).trans E1
    have F2 : w4.cell? ⟨w'.heap.size, 2, none⟩ = some v2 := (hb4.cell (p := ⟨w'.heap.size, 2, none⟩) hs4).trans E2
    have hs5 : w'.heap.size < w4.heap.size := Nat.lt_of_lt_of_le hs4 hb4.size
    have Hnx : W1.heap.size + 1 < w4.heap.size := Nat.lt_of_lt_of_le hs3 hb4.size
    have HX4 : Hid (Boxed w4 W1.heap.size 3 (.int .i64 x)) := (hb4.block _ HbX.out.lt).trans HbX.out
    have HY4 : Hid (Boxed w4 (W1.heap.size + 1) 3 (.int .i64 y)) := (hb4.block _ HbY.out.lt).trans HbY.out
    have HC5 := Lib.hid (col_nil (n₀ := w'.heap.size) w4)
    have F0 : (w4.alloc (.cells #[.slice none 0 0] 32)).cell? ⟨w'.heap.size, 0, none⟩ = some v0 := by rw [World.cell?_alloc_lt _ _ _ hs5]; exact F0
    have F1 : (w4.alloc (.cells #[.slice none 0 0] 32)).cell? ⟨w'.heap.size, 1, none⟩ = some v1 := by rw [World.cell?_alloc_lt _ _ _ hs5]; exact F1
    have F2 : (w4.alloc (.cells #[.slice none 0 0] 32)).cell? ⟨w'.heap.size, 2, none⟩ = some v2 := by rw [World.cell?_alloc_lt _ _ _ hs5]; exact F2
    obtain ⟨W5, hW5⟩ : ∃ W5, w4.alloc (.cells #[.slice none 0 0] 32) = W5 := ⟨_, rfl⟩
    have hsz5 : W5.heap.size = w4.heap.size + 1 := by rw [← hW5]; simp
    rw [hW5] at F0 F1 F2 HC5
    have HX5 : Hid (Boxed W5 W1.heap.size 3 (.int .i64 x)) := by rw [← hW5]; exact HX4.out.alloc _
    have HY5 : Hid (Boxed W5 (W1.heap.size + 1) 3 (.int .i64 y)) := by rw [← hW5]; exact HY4.out.alloc _
    have HB5 : Hid (Below w'.heap.size w' W5) := by rw [← hW5]; exact HB4.out.alloc (Nat.le_of_lt hs5) _
    have Hsz5 := Lib.hid hsz5
    clear hmay hb4 E0 E1 E2 HX4 HY4 HbX HbY hsz5
    gi_wp2
    refine ⟨trivial, (pairs_in (6 - 1) v0 v1 v2 W5).mono ?_⟩
    rintro e W6 ⟨rfl, hW6⟩
    have HC6 : Hid (Col w'.heap.size w4.heap.size [] W6) := by rw [hW6]; exact col_alloc HC5.out _
    have HX6 : Hid (Boxed W6 W1.heap.size 3 (.int .i64 x)) := by rw [hW6]; exact HX5.out.alloc _
    have HY6 : Hid (Boxed W6 (W1.heap.size + 1) 3 (.int .i64 y)) := by rw [hW6]; exact HY5.out.alloc _
    have HB6 : Hid (Below w'.heap.size w' W6) := by rw [hW6]; exact HB5.out.alloc HB5.out.size _
    have hz6 : W6.heap.size = W5.heap.size + 1 := by rw [hW6]; simp
    have C0 : W6.cell? ⟨W5.heap.size, 0, none⟩ = some v0 := by rw [hW6, World.cell?_alloc_new]; rfl
    have C1 : W6.cell? ⟨W5.heap.size, 1, none⟩ = some v1 := by rw [hW6, World.cell?_alloc_new]; rfl
    have C2 : W6.cell? ⟨W5.heap.size, 2, none⟩ = some v2 := by rw [hW6, World.cell?_alloc_new]; rfl
    have hst := pairs_stops HT.out Hsz.out (6 - 1) (by omega) W5.heap.size w'.heap.size W6 (Hb.out.trans (HB6.out.mono Hb.out.size)) Hb.out.size HB6.out.size (by omega) C0 C1 C2
    have Hz6 := Lib.hid hz6
    have Hst := Lib.hid hst
    clear hW6 F0 F1 F2 HX5 HY5 HC5 HB5 C0 C1 C2 hz6 hst
    have Hne : Hid (W1.heap.size + 1 < w4.heap.size) := Hnx
    have hn01 : w'.heap.size ≤ W1.heap.size := Nat.le_of_lt hs1
    have hn04 : w'.heap.size ≤ w4.heap.size := Nat.le_of_lt hs5
    have Hw15 : Hid (W1.heap.size + 1 < W6.heap.size ∧ w4.heap.size < W6.heap.size) := by
      have h1 := HY6.out.lt
      have h2 := Hz6.out
      have h3 := Hsz5.out
      exact ⟨h1, by omega⟩
    gi_wp2
    refine wpIn_rangeFunc_ownH rfl (by omega) (gf := 33) (lb := #[.pointer (some ⟨W5.heap.size, 0, none⟩)]) rfl trivial (enters_of Try.func33 (by kernel_rfl) rfl)
      Hst.out kpE_t (kpE_b HB6.out.size) (Below.refl _ _) (fun _ => rfl)
      (fun pre W => ((Col w'.heap.size w4.heap.size (walkP pre x y) W ∧ ∀ q ∈ pre, q.1 < y) ∧ Boxed W W1.heap.size 3 (.int .i64 x) ∧ Boxed W (W1.heap.size + 1) 3 (.int .i64 y)) ∧ Below w'.heap.size w' W)
      (fun c pre W => (c = .exit 0 ∧ ∃ ini last, pre = ini ++ [last] ∧ y ≤ last.1 ∧ Col w'.heap.size w4.heap.size (walkP ini x y) W) ∧ Below w'.heap.size w' W)
      (OwnFrom.and (OwnFrom.and (OwnFrom.and (col_own _ _ _ (fun pre => walkP pre x y)) (fun s A B row hs _ _ => hs)) (OwnFrom.and (boxed_own9 _ _ _ _) (boxed_own9 _ _ _ _))) (ownFrom_below (Nat.le_refl _) HB6.out.size))
      (fun c => OwnFrom.and (fun s A B row hs hg hr => by
        obtain ⟨hc, ini, last, e1, e2, e3⟩ := hs
        exact ⟨hc, ini, last, e1, e2, col_own _ _ _ (fun _ : Unit => walkP ini x y) () A B row e3 hg hr⟩) (ownFrom_below (Nat.le_refl _) HB6.out.size))
      ⟨⟨⟨HC6.out, by simp⟩, HX6.out, HY6.out⟩, HB6.out⟩
      (fun p a' W => ∃ Bx, w4.heap.size < Bx ∧ W.cell? ⟨Bx, 0, none⟩ = some (.int .i64 p.1) ∧ W.cell? ⟨Bx, 1, none⟩ = some (.int .i64 p.2) ∧ a' = { tmps := #[.agg #[v0, v1, v2], .int .i64 x, .int .i64 y, .pointer (some ⟨w'.heap.size, 0, none⟩), .pointer (some ⟨W1.heap.size, 0, none⟩), .pointer (some ⟨W1.heap.size + 1, 0, none⟩), .slice none 0 0, .pointer (some ⟨w4.heap.size, 0, none⟩), .pointer (some ⟨Bx, 0, none⟩), .agg #[v0, v1, v2], .bool true, .bool false, .agg #[v0, v1, v2], .func (.func 33) #[] #[.pointer (some ⟨W5.heap.size, 0, none⟩)], .agg #[.int .i64 p.1, .int .i64 p.2], undef, undef, undef, undef, undef, undef, undef, undef, undef, undef, undef, undef, undef], defers := [] })
      (fun p a' s A B row hs hg hr => by
        obtain ⟨Bx, h1, h2, h3, h4⟩ := hs
        exact ⟨Bx, h1, cell_kept h2 hg (fun r e => (hr r e).2), cell_kept h3 hg (fun r e => (hr r e).2), h4⟩) ?assign ?body ?done ?stop
    case assign =>
      rintro l pre p W K ⟨⟨⟨hc, hall⟩, hX, hY⟩, hB⟩ hK
      have hlt4 : w4.heap.size < W.heap.size := by obtain ⟨v, hv, _⟩ := hc; exact hv.lt
      have HK := Lib.hid hK
      have HCc := Lib.hid hc
      have Hall := Lib.hid hall
      clear hK hc hall
      gi_wp2
      exact HK.out _ _ ((KeepsOthers.alloc _ _).from _) (kpE_alloc hB.size _) ⟨⟨⟨col_alloc HCc.out _, Hall.out⟩, hX.alloc _, hY.alloc _⟩, hB.alloc hB.size _⟩ ⟨W.heap.size, hlt4, by rw [World.cell?_alloc_new]; rfl, by rw [World.cell?_alloc_new]; rfl, rfl⟩
    case body =>
      rintro l pre p a' W hl ⟨r, hr⟩ ⟨⟨⟨hc, hall⟩, hX, hY⟩, hB⟩ ⟨Bx, hBx, p0, p1, rfl⟩ hlt
      obtain ⟨v, hv, hrow, _⟩ := hc
      obtain ⟨pk, pv⟩ := p
      dsimp only at p0 p1
      have cv := hv.cell
      have fv := hv.frozen
      have cX := hX.cell
      have cY := hY.cell
      have Hv := Lib.hid hv
      have Hrow := Lib.hid hrow
      have HX := Lib.hid hX
      have HY := Lib.hid hY
      have HB := Lib.hid hB
      have Hall := Lib.hid hall
      have hlen : (walkP pre x y).length ≤ 1000000 := by have := walkP_len pre x y; have := Hl.out; omega
      clear hv hrow hX hY hB hall hl hr hlt
      by_cases hy : y ≤ pk
      · have b1 : decide (y ≤ pk) = true := decide_eq_true hy
        gi_wp2
        exact ⟨KeepsFrom.refl _ _, ⟨rfl, pre, (pk, pv), rfl, hy, ⟨v, Hv.out, Hrow.out, trivial⟩⟩, HB.out⟩
      · have b1 : decide (y ≤ pk) = false := decide_eq_false hy
        have Hall2 : Hid (∀ q ∈ pre ++ [(pk, pv)], q.1 < y) := fun q hq => (List.mem_append.1 hq).elim (Hall.out q) (fun e => by rw [List.mem_singleton.1 e]; show pk < y; omega)
        by_cases hx : x ≤ pk
        · have b2 : decide (x ≤ pk) = true := decide_eq_true hx
          have HW : Hid (walkP (pre ++ [(pk, pv)]) x y = walkP pre x y ++ [(pk, pv)]) := walkP_snoc_in hx (by show pk < y; omega)
          clear hy hx
          gi_wp2_with (gi_at_builtin; refine wpListIn_append_own _ rfl _ _ 32 rfl w'.heap.size 51 i0 _ 2 16 Try.underlying32 hi hz0 hz1 hz2 rfl (by decide) _ _ _ rfl (Hrow.out.alloc _) ⟨W.heap.size, 0, none⟩ 1 1 (pairE (pk, pv)) rfl rfl (cells_newE _ _ _) (pairE_ok.one _) (by simp [maxLen]; omega) (by omega) (by have := HB.out.size; simp; omega) ?_
                       intro v' w1 hown' hgrow _
                       obtain ⟨g', cap', rfl⟩ := ownsRow_succ hown'
                       have hown2 : w1.ownsRow w'.heap.size 51 2 (.slice (some ⟨g', 0, none⟩) ((walkP pre x y).length + 1) cap') (walkP (pre ++ [(pk, pv)]) x y).length (cellsE pairE (walkP (pre ++ [(pk, pv)]) x y)) := by
                         rw [HW.out, cellsE_append, List.length_append]; exact hown'
                       obtain ⟨hv1, hc2, hk2, hke⟩ := col_appended Hv.out Hrow.out HB.out.size hn04 hown2 hgrow
                       have hc1 := hv1.cell
                       have hf1 := hv1.frozen
                       have HXn := Lib.hid (hke)
                       have HX2 := Lib.hid (Boxed.other (((HX.out.alloc _).kept hgrow (HX.out.not_row (by decide) Hrow.out))) (show W1.heap.size ≠ w4.heap.size by omega) (.slice (some ⟨g', 0, none⟩) ((walkP pre x y).length + 1) cap'))
                       have HY2 := Lib.hid (Boxed.other (((HY.out.alloc _).kept hgrow (HY.out.not_row (by decide) Hrow.out))) (show W1.heap.size + 1 ≠ w4.heap.size by omega) (.slice (some ⟨g', 0, none⟩) ((walkP pre x y).length + 1) cap'))
                       have Hc2 := Lib.hid hc2
                       have Hk2 := Lib.hid hk2
                       clear hown' hgrow hown2 hv1 hc2 hk2 hke)
          exact ⟨Hk2.out.from _, HXn.out, ⟨⟨Hc2.out, Hall2.out⟩, HX2.out, HY2.out⟩, HB.out.trans HXn.out.1⟩
        · have b2 : decide (x ≤ pk) = false := decide_eq_false hx
          have HW : Hid (walkP (pre ++ [(pk, pv)]) x y = walkP pre x y) := walkP_snoc_low hx
          clear hy hx
          gi_wp2
          exact ⟨KeepsFrom.refl _ _, kpE_refl _ _, ⟨⟨by rw [HW.out]; exact ⟨v, Hv.out, Hrow.out, trivial⟩, Hall2.out⟩, HX.out, HY.out⟩, HB.out⟩
    case done =>
      rintro D ys W hD rfl ⟨⟨⟨⟨v, hv, hrow, _⟩, _⟩, hX, hY⟩, hB⟩ hK
      obtain ⟨a, cap, rfl, _⟩ := owns_shape hrow
      have hr2 := ownsRow_putObj hrow (.deferred none) hK rfl
      have cv := hv.cell
      have Hr2 := Lib.hid hr2
      have HBf := Lib.hid (hB.trans (belowK_b (w := W6) HB6.out.size W D (.deferred (some [])) (.deferred none) hD hK rfl rfl))
      clear hr2 hv hrow hX hY hB
      gi_wp2
      refine ⟨by simp, .inl ⟨_, _, rfl, run_takeDeferred hK, ?_⟩⟩
      exact ⟨_, results_tmp rfl _ _ _, a, cap, walkP (pairsT t) x y, rfl, HE.out.symm, Hr2.out, HBf.out⟩
    case stop =>
      rintro D c pre W hD ⟨rest, hrest⟩ ⟨⟨rfl, ini, last, e1, e2, ⟨v, hv, hrow, _⟩⟩, hB⟩ hK
      obtain ⟨a, cap, rfl, _⟩ := owns_shape hrow
      have hr2 := ownsRow_putObj hrow (.deferred none) hK rfl
      have cv := hv.cell
      have Hr2 := Lib.hid hr2
      have HBf := Lib.hid (hB.trans (belowK_b (w := W6) HB6.out.size W D (.deferred (some [])) (.deferred none) hD hK rfl rfl))
      have HE2 : Hid (walkP ini x y = walkT t x y) := by
        unfold Hid
        rw [HE.out, walkP_stop (rest := rest) (by rw [← e1]; exact hrest) Hpw.out e2]
      clear hr2 hv hrow hB e1 e2 hrest
      gi_wp2
      refine ⟨by simp, .inl ⟨_, _, rfl, run_takeDeferred hK, ?_⟩⟩
      exact ⟨_, results_tmp rfl _ _ _, a, cap, walkP ini x y, rfl, HE2.out, Hr2.out, HBf.out⟩

theorem walk_any {w : World} {n3 : N3} {t : Tr} (h : NodeV w n3 t) (x y : Int) (w' : World) (hb : Below w.heap.size w w') (hl : (pairsT t).length ≤ 1000000) :
    Calls Try.prog 12 #[.agg #[n3.1, n3.2.1, n3.2.2], .int .i64 x, .int .i64 y] w' fun e w'' => ∃ (a : Option Addr) (cap : Nat) (r : List (Int × Int)), e = .returned (.slice a r.length cap) ∧ Hid (r = walkT t x y) ∧ OwnP w'' w'.heap.size (.slice a r.length cap) r ∧ Below w'.heap.size w' w'' := by
  obtain ⟨v0, v1, v2⟩ := n3
  exact (callsIn_wide (n := 6)).1 (walk_in h x y w' hb hl)
end Go.Proofs.Ytdlgpcjdaaeliaa
