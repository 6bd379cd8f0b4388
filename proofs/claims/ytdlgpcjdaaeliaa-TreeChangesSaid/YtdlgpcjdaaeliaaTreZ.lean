/- The program's Cut. Conditions: numbers fit. -/
import Derived.Test.YtdlgpcjdaaeliaaTreT
import Derived.Test.YtdlgpcjdaaeliaaTreY
namespace Go.Proofs.Ytdlgpcjdaaeliaa
open Go.RowKit Go.Shelf
attribute [local go_sem] Oper.semAt_some

def cutHas (l : List (Int × Int)) (x : Int) : Bool := l.any fun p => p.1 == x
def cutTr (t : Tr) (x : Int) : Tr := if mayT16 t = true ∧ cutHas (pairsT t) x = true then bldT (cutP (pairsT t) x) else noT
def cutOk (t : Tr) (x : Int) : Bool := mayT16 t && cutHas (pairsT t) x
theorem cutP_len (l : List (Int × Int)) (x : Int) : (cutP l x).length ≤ l.length := List.length_filter_le _ _
theorem cutP_hit {l : List (Int × Int)} {p : Int × Int} {x : Int} (h : p.1 = x) : cutP (l ++ [p]) x = cutP l x ∧ cutHas (l ++ [p]) x = true := by
  unfold cutP cutHas
  constructor
  · rw [List.filter_append, List.filter_cons, List.filter_nil, h]; simp
  · rw [List.any_append]; simp [h]
theorem cutP_miss {l : List (Int × Int)} {p : Int × Int} {x : Int} (h : p.1 ≠ x) : cutP (l ++ [p]) x = cutP l x ++ [p] ∧ cutHas (l ++ [p]) x = cutHas l x := by
  unfold cutP cutHas
  constructor
  · rw [List.filter_append, List.filter_cons, List.filter_nil, bne_iff_ne.2 h]; rfl
  · rw [List.any_append]; simp [h]
theorem col_set {n₀ Bl B : Nat} {l : List (Int × Int)} {W : World} {t : TypeId} {u : Value} (h : Col n₀ Bl l W) (hB : Boxed W B t u) (ht : t ≠ 51) (hne : Bl ≠ B) (u' : Value) : Col n₀ Bl l (W.setCell ⟨B, 0, none⟩ u') := by
  obtain ⟨v, hv, hr, _⟩ := h
  exact ⟨v, hv.other hne u', (grs_set W B 0 u').owns hr (fun g hg e => hB.not_row ht hr (by rw [hg, e])), trivial⟩
theorem nbox_own {β : Type} (b : Nat) (v0 v1 v2 : Value) (B : Nat) : OwnFrom B (fun (_ : β) W => NBox W b v0 v1 v2) :=
  fun s W W' row hs hg hr => by
    have hlt : b < W.heap.size := by
      rcases Nat.lt_or_ge b W.heap.size with h | h
      · exact h
      · have hs' : W.heap[b]? = some _ := hs; rw [Array.getElem?_eq_none h] at hs'; cases hs'
    refine (hg.block b hlt fun e => ?_).trans hs
    obtain ⟨_, o, ho, hc⟩ := hr b e.symm
    rw [hs] at ho; cases ho; cases hc
theorem nd3_of {W : World} {b : Nat} {v0 v1 v2 : Value} (hs : NBox W b v0 v1 v2) : Nd3 W b v0 v1 v2 := by
  have hlt : b < W.heap.size := by
    rcases Nat.lt_or_ge b W.heap.size with h | h
    · exact h
    · have hs' : W.heap[b]? = some _ := hs; rw [Array.getElem?_eq_none h] at hs'; cases hs'
  obtain ⟨c0, c1, c2⟩ := nbox_cells hs
  exact ⟨hlt, c0, c1, c2, by unfold World.frozen?; simp [hs], by unfold World.frozen?; simp [hs], by unfold World.frozen?; simp [hs]⟩
theorem grs_nbox {W W' : World} {R : Nat → Prop} {b : Nat} {v0 v1 v2 : Value} (hg : GrS W W' R) (h : NBox W b v0 v1 v2) (hr : ¬ R b) : NBox W' b v0 v1 v2 := (hg.block b (nd3_of h).lt hr).trans h
theorem noT_node (W : World) (P : Nat → Prop) : NodeP W P (.slice none 0 0, .slice none 0 0, .slice none 0 0) noT :=
  .mk [] ⟨none, 0, rfl, by simp, fun _ => rfl, Or.inl rfl⟩ ⟨none, 0, rfl, by simp, fun _ => rfl, Or.inl rfl⟩ ⟨none, 0, rfl, by simp, fun _ => rfl, Or.inl rfl⟩ (by simp) (by simp) (by simp) rfl (fun i hi => by simp at hi)

set_option maxRecDepth 100000 in
set_option maxHeartbeats 4000000 in
theorem cut_in {w : World} {v0 v1 v2 : Value} {t : Tr} (h : NodeV w (v0, v1, v2) t) (x : Int) (w' : World) (hb : Below w.heap.size w w') (hl : (pairsT t).length ≤ 1000000) :
    CallsIn Fence.wide 6 Try.prog 19 #[.agg #[v0, v1, v2], .int .i64 x] w' fun e w'' => ∃ (a0 a1 a2 : Value) (ok : Bool) (t' : Tr), e = .returned (.tuple #[.agg #[a0, a1, a2], .bool ok]) ∧ Hid (ok = cutOk t x) ∧ Hid (t' = cutTr t x) ∧ NodeP w'' (fun b => w'.heap.size < b) (a0, a1, a2) t' ∧ Below w'.heap.size w' w'' := by
  obtain ⟨i0, hi, hz0, hz1, hz2⟩ := info_parts info_pair
  refine callsIn_of_wp_marks Try.func19 rfl trivial ?_ rfl
  simp only [Try.ntmps19, List.size_toArray, List.length_cons, List.length_nil, Nat.reduceAdd, Nat.reduceSub, Array.replicate_succ, Array.replicate_zero, List.push_toArray, List.append_toArray, List.nil_append, List.cons_append]
  obtain ⟨W1, hW, e0, e1, e2, hs1, hb0⟩ := boxed3 w' v0 v1 v2 25
  have hs2 : W1.heap.size + 1 + 1 = ((W1.alloc (.cells #[.int .i64 x] 3)).alloc (.cells #[.slice none 0 0, .slice none 0 0, .slice none 0 0] 25)).heap.size := by simp
  have hb2 : Below w'.heap.size w' ((W1.alloc (.cells #[.int .i64 x] 3)).alloc (.cells #[.slice none 0 0, .slice none 0 0, .slice none 0 0] 25)) := (hb0.alloc (Nat.le_of_lt hs1) _).alloc (by simp; omega) _
  have bX : Boxed ((W1.alloc (.cells #[.int .i64 x] 3)).alloc (.cells #[.slice none 0 0, .slice none 0 0, .slice none 0 0] 25)) W1.heap.size 3 (.int .i64 x) := (Boxed.new _ _ _).alloc _
  have bR : NBox ((W1.alloc (.cells #[.int .i64 x] 3)).alloc (.cells #[.slice none 0 0, .slice none 0 0, .slice none 0 0] 25)) (W1.heap.size + 1) (.slice none 0 0) (.slice none 0 0) (.slice none 0 0) := by have := nbox_new (W1.alloc (.cells #[.int .i64 x] 3)) (.slice none 0 0) (.slice none 0 0) (.slice none 0 0); rw [World.size_alloc] at this; exact this
  have E0 : ((W1.alloc (.cells #[.int .i64 x] 3)).alloc (.cells #[.slice none 0 0, .slice none 0 0, .slice none 0 0] 25)).cell? ⟨w'.heap.size, 0, none⟩ = some v0 := by rw [World.cell?_alloc_lt _ _ _ (by simp; omega), World.cell?_alloc_lt _ _ _ hs1]; exact e0
  have E1 : ((W1.alloc (.cells #[.int .i64 x] 3)).alloc (.cells #[.slice none 0 0, .slice none 0 0, .slice none 0 0] 25)).cell? ⟨w'.heap.size, 1, none⟩ = some v1 := by rw [World.cell?_alloc_lt _ _ _ (by simp; omega), World.cell?_alloc_lt _ _ _ hs1]; exact e1
  have E2 : ((W1.alloc (.cells #[.int .i64 x] 3)).alloc (.cells #[.slice none 0 0, .slice none 0 0, .slice none 0 0] 25)).cell? ⟨w'.heap.size, 2, none⟩ = some v2 := by rw [World.cell?_alloc_lt _ _ _ (by simp; omega), World.cell?_alloc_lt _ _ _ hs1]; exact e2
  obtain ⟨W3, hW3⟩ : ∃ W3, (W1.alloc (.cells #[.int .i64 x] 3)).alloc (.cells #[.slice none 0 0, .slice none 0 0, .slice none 0 0] 25) = W3 := ⟨_, rfl⟩
  rw [hW3] at hs2 hb2 bX bR E0 E1 E2
  have hmay := callsIn_wide (n := 6 - 1) |>.2 (may_any h W3 (hb.trans (hb2.mono hb.size)))
  have HT := Lib.hid h
  have Hb := Lib.hid hb
  have Hb2 := Lib.hid hb2
  have HbX := Lib.hid bX
  have HbR := Lib.hid bR
  have Hl := Lib.hid hl
  dsimp only at hmay
  clear e0 e1 e2 hb0 hb hb2 h bX bR hl
  have hs3 : W1.heap.size + 1 < W3.heap.size := by omega
  have hs4 : w'.heap.size < W3.heap.size := by omega
  have HS2 := Lib.hid hs2
  clear hs2
  cases hm : mayT16 t with
  | false =>
    rw [hm] at hmay
    have HE : Hid (cutTr t x = noT) := by unfold Hid cutTr; rw [hm]; rfl
    have HE2 : Hid (cutOk t x = false) := by unfold Hid cutOk; rw [hm]; rfl
    clear hm
    gi_wp2
    refine ⟨trivial, hmay.mono ?_⟩
    rintro e w4 ⟨rfl, hb4⟩
    have HB4 := Lib.hid (Hb2.out.trans (hb4.mono (Nat.le_of_lt hs4)))
    have hR := (grs_below hb4).nd3 (nd3_of HbR.out) (by omega)
    have HR := Lib.hid hR
    obtain ⟨hlt, p0, p1, p2, z0, z1, z2⟩ := hR
    have hset := HR.out.set (.slice none 0 0) (.slice none 0 0) (.slice none 0 0)
    have q0 := hset.c0
    have q1 := hset.c1
    have q2 := hset.c2
    have hbs := below_set3 HB4.out (show w'.heap.size ≤ W1.heap.size + 1 by omega) (.slice none 0 0) (.slice none 0 0) (.slice none 0 0)
    have Hbs := Lib.hid hbs
    clear hmay hb4 hset hbs
    gi_wp2
    refine ⟨.tuple #[.agg #[.slice none 0 0, .slice none 0 0, .slice none 0 0], .bool false], by simp [results, Try.f19, go_sem, q0, q1, q2], _, _, _, false, noT, rfl, HE2.out.symm, HE.out.symm, noT_node _ _, Hbs.out⟩
  | true =>
    rw [hm] at hmay
    obtain ⟨_, hsz, hpw⟩ := may_parts hm
    have HEt : Hid (cutHas (pairsT t) x = true → cutTr t x = bldT (cutP (pairsT t) x) ∧ cutOk t x = true) := fun h => ⟨by unfold cutTr; rw [if_pos ⟨hm, h⟩], by unfold cutOk; rw [hm, h]; rfl⟩
    have HEf : Hid (cutHas (pairsT t) x = false → cutTr t x = noT ∧ cutOk t x = false) := fun h => ⟨by unfold cutTr; rw [if_neg (by rw [h]; simp)], by unfold cutOk; rw [h]; simp⟩
    have Hsz := Lib.hid hsz
    clear hm hsz hpw
    gi_wp2
    refine ⟨trivial, hmay.mono ?_⟩
    rintro e w4 ⟨rfl, hb4⟩
    have HB4 := Lib.hid (Hb2.out.trans (hb4.mono (Nat.le_of_lt hs4)))
    have hs5 : w'.heap.size < w4.heap.size := Nat.lt_of_lt_of_le hs4 hb4.size
    have Hnx : W1.heap.size + 1 < w4.heap.size := Nat.lt_of_lt_of_le hs3 hb4.size
    have hX4 : Boxed w4 W1.heap.size 3 (.int .i64 x) := (hb4.block _ HbX.out.lt).trans HbX.out
    have hR4 := grs_nbox (grs_below hb4) HbR.out (by omega)
    have F0 : w4.cell? ⟨w'.heap.size, 0, none⟩ = some v0 := (hb4.cell (p := ⟨w'.heap.size, 0, none⟩) hs4).trans E0
    have F1 : w4.cell? ⟨w'.heap.size, 1, none⟩ = some v1 := (hb4.cell (p := ⟨w'.heap.size, 1, none⟩) hs4).trans E1
    have F2 : w4.cell? ⟨w'.heap.size, 2, none⟩ = some v2 := (hb4.cell (p := ⟨w'.heap.size, 2, none⟩) hs4).trans E2
    have hC5a := col_alloc (col_nil (n₀ := w'.heap.size) w4) (.cells #[.bool false] 4)
    have hF5a := Boxed.new (w4.alloc (.cells #[.slice none 0 0] 32)) 4 (.bool false)
    rw [World.size_alloc] at hF5a
    have hg5a : GrS w4 ((w4.alloc (.cells #[.slice none 0 0] 32)).alloc (.cells #[.bool false] 4)) (fun _ => False) := (grs_alloc _ _ _).trans (grs_alloc _ _ _)
    obtain ⟨W5a, hW5a⟩ : ∃ W5a, (w4.alloc (.cells #[.slice none 0 0] 32)).alloc (.cells #[.bool false] 4) = W5a := ⟨_, rfl⟩
    have hsz5a : W5a.heap.size = w4.heap.size + 2 := by rw [← hW5a]; simp
    rw [hW5a] at hC5a hF5a hg5a
    have cF5 := hF5a.cell
    have fF5 := hF5a.frozen
    have hC5 := col_set hC5a hF5a (by decide) (by omega) (.bool false)
    have hF5 := hF5a.set (.bool false)
    have hg5 : GrS w4 (W5a.setCell ⟨w4.heap.size + 1, 0, none⟩ (.bool false)) (fun _ => False) := hg5a.trans' (grs_set _ _ _ _) (fun i hi he => by omega)
    obtain ⟨W5, hW5⟩ : ∃ W5, W5a.setCell ⟨w4.heap.size + 1, 0, none⟩ (.bool false) = W5 := ⟨_, rfl⟩
    have hsz5 : W5.heap.size = w4.heap.size + 2 := by rw [← hW5]; simp [hsz5a]
    rw [hW5] at hC5 hF5 hg5
    have G0 : W5.cell? ⟨w'.heap.size, 0, none⟩ = some v0 := (hg5.cell hs5 id).trans F0
    have G1 : W5.cell? ⟨w'.heap.size, 1, none⟩ = some v1 := (hg5.cell hs5 id).trans F1
    have G2 : W5.cell? ⟨w'.heap.size, 2, none⟩ = some v2 := (hg5.cell hs5 id).trans F2
    have HX5 := Lib.hid (hg5.boxed hX4 id)
    have HR5 := Lib.hid (grs_nbox hg5 hR4 id)
    have HB5 : Hid (Below w'.heap.size w' W5) := HB4.out.trans (hg5.below (Nat.le_of_lt hs5) (fun _ h => h.elim))
    have HC5 := Lib.hid hC5
    have HF5 := Lib.hid hF5
    have Hsz5 := Lib.hid hsz5
    clear hmay hb4 E0 E1 E2 hX4 hR4 F0 F1 F2 hC5 hF5 hg5 HbX HbR hsz5
    gi_wp2
    refine ⟨trivial, (pairs_in (6 - 1) v0 v1 v2 W5).mono ?_⟩
    rintro e W6 ⟨rfl, hW6⟩
    have hg6 : GrS W5 W6 (fun _ => False) := by rw [hW6]; exact grs_alloc _ _ _
    have HC6 : Hid (Col w'.heap.size w4.heap.size [] W6) := by rw [hW6]; exact col_alloc HC5.out _
    have HX6 := Lib.hid (hg6.boxed HX5.out id)
    have HF6 := Lib.hid (hg6.boxed HF5.out id)
    have HR6 := Lib.hid (grs_nbox hg6 HR5.out id)
    have HB6 : Hid (Below w'.heap.size w' W6) := HB5.out.trans (hg6.below HB5.out.size (fun _ h => h.elim))
    have hz6 : W6.heap.size = W5.heap.size + 1 := by rw [hW6]; simp
    have C0 : W6.cell? ⟨W5.heap.size, 0, none⟩ = some v0 := by rw [hW6, World.cell?_alloc_new]; rfl
    have C1 : W6.cell? ⟨W5.heap.size, 1, none⟩ = some v1 := by rw [hW6, World.cell?_alloc_new]; rfl
    have C2 : W6.cell? ⟨W5.heap.size, 2, none⟩ = some v2 := by rw [hW6, World.cell?_alloc_new]; rfl
    have hst := pairs_stops HT.out Hsz.out (6 - 1) (by omega) W5.heap.size w'.heap.size W6 (Hb.out.trans (HB6.out.mono Hb.out.size)) Hb.out.size HB6.out.size (by omega) C0 C1 C2
    have Hz6 := Lib.hid hz6
    have Hst := Lib.hid hst
    clear hW6 G0 G1 G2 HX5 HC5 HB5 HF5 HR5 C0 C1 C2 hz6 hst hg6
    have hn04 : w'.heap.size ≤ w4.heap.size := Nat.le_of_lt hs5
    gi_wp2
    refine wpIn_rangeFunc_ownH rfl (by omega) (gf := 33) (lb := #[.pointer (some ⟨W5.heap.size, 0, none⟩)]) rfl trivial (enters_of Try.func33 (by kernel_rfl) rfl)
      Hst.out kpE_t (kpE_b HB6.out.size) (Below.refl _ _) (fun _ => rfl)
      (fun pre W => ((Col w'.heap.size w4.heap.size (cutP pre x) W ∧ Boxed W (w4.heap.size + 1) 4 (.bool (cutHas pre x))) ∧ Boxed W W1.heap.size 3 (.int .i64 x)) ∧ NBox W (W1.heap.size + 1) (.slice none 0 0) (.slice none 0 0) (.slice none 0 0) ∧ Below w'.heap.size w' W)
      (fun _ _ _ => False)
      (OwnFrom.and (OwnFrom.and (OwnFrom.and (col_own _ _ _ (fun pre => cutP pre x)) (fun _ _ _ _ hs hg hr => boxed_own9 (β := Unit) _ _ _ _ () _ _ _ hs hg hr)) (boxed_own9 _ _ _ _)) (OwnFrom.and (nbox_own _ _ _ _ _) (ownFrom_below (Nat.le_refl _) HB6.out.size)))
      (fun _ _ _ _ _ hs _ _ => hs)
      ⟨⟨⟨HC6.out, HF6.out⟩, HX6.out⟩, HR6.out, HB6.out⟩
      (fun p a' W => ∃ Bx, w4.heap.size + 1 < Bx ∧ W.cell? ⟨Bx, 0, none⟩ = some (.int .i64 p.1) ∧ W.cell? ⟨Bx, 1, none⟩ = some (.int .i64 p.2) ∧ a' = { tmps := #[.agg #[v0, v1, v2], .int .i64 x, .pointer (some ⟨w'.heap.size, 0, none⟩), .pointer (some ⟨W1.heap.size, 0, none⟩), .pointer (some ⟨W1.heap.size + 1, 0, none⟩), .bool false, .pointer (some ⟨w4.heap.size, 0, none⟩), .pointer (some ⟨w4.heap.size + 1, 0, none⟩), .pointer (some ⟨Bx, 0, none⟩), .agg #[v0, v1, v2], .bool true, .bool false, undef, .agg #[v0, v1, v2], .func (.func 33) #[] #[.pointer (some ⟨W5.heap.size, 0, none⟩)], .agg #[.int .i64 p.1, .int .i64 p.2], undef, undef, undef, undef, undef, undef, undef, undef, undef, undef, undef, undef, undef], defers := [] })
      (fun p a' s A B row hs hg hr => by
        obtain ⟨Bx, h1, h2, h3, h4⟩ := hs
        exact ⟨Bx, h1, cell_kept h2 hg (fun r e => (hr r e).2), cell_kept h3 hg (fun r e => (hr r e).2), h4⟩) ?assign ?body ?done ?stop
    case assign =>
      rintro l pre p W K ⟨⟨⟨hc, hF⟩, hX⟩, hR, hB⟩ hK
      have hlt4 : w4.heap.size + 1 < W.heap.size := hF.lt
      have HK := Lib.hid hK
      have HCc := Lib.hid hc
      have HR := Lib.hid hR
      clear hK hc hR
      gi_wp2
      exact HK.out _ _ ((KeepsOthers.alloc _ _).from _) (kpE_alloc hB.size _) ⟨⟨⟨col_alloc HCc.out _, hF.alloc _⟩, hX.alloc _⟩, grs_nbox (grs_alloc _ _ (fun _ => False)) HR.out id, hB.alloc hB.size _⟩ ⟨W.heap.size, hlt4, by rw [World.cell?_alloc_new]; rfl, by rw [World.cell?_alloc_new]; rfl, rfl⟩
    case stop =>
      rintro D c pre W _ _ h _
      exact h.elim
    case body =>
      rintro l pre p a' W hl ⟨r, hr⟩ ⟨⟨⟨hc, hF⟩, hX⟩, hR, hB⟩ ⟨Bx, hBx, p0, p1, rfl⟩ hlt
      have HCol := Lib.hid hc
      obtain ⟨v, hv, hrow, _⟩ := hc
      obtain ⟨pk, pv⟩ := p
      dsimp only at p0 p1
      have cv := hv.cell
      have fv := hv.frozen
      have cX := hX.cell
      have cF := hF.cell
      have fF := hF.frozen
      have Hv := Lib.hid hv
      have Hrow := Lib.hid hrow
      have HX := Lib.hid hX
      have HF := Lib.hid hF
      have HR := Lib.hid hR
      have HB := Lib.hid hB
      have hlen : (cutP pre x).length ≤ 1000000 := by have := cutP_len pre x; have := Hl.out; omega
      clear hv hrow hX hF hB hR hl hr hlt
      by_cases hx : pk = x
      · have b1 : (pk == x) = true := by simpa using hx
        have H2 := Lib.hid (cutP_hit (l := pre) (p := (pk, pv)) hx)
        have hk := kpE_set HF.out (by decide) (show w'.heap.size ≤ w4.heap.size + 1 by omega) (.bool true)
        have Hk := Lib.hid hk
        clear hx hk
        gi_wp2
        exact ⟨(KeepsOthers.setCell _ _ _).from _, Hk.out, ⟨⟨by rw [H2.out.1]; exact col_set HCol.out HF.out (by decide) (by omega) _, by rw [H2.out.2]; exact HF.out.set _⟩, HX.out.other (by omega) _⟩, grs_nbox (grs_set _ _ _ _) HR.out (by omega), HB.out.trans Hk.out.1⟩
      · have b1 : (pk == x) = false := by simpa using hx
        have H2 := Lib.hid (cutP_miss (l := pre) (p := (pk, pv)) hx)
        clear hx
        gi_wp2_with (gi_at_builtin; refine wpListIn_append_own _ rfl _ _ 32 rfl w'.heap.size 51 i0 _ 2 16 Try.underlying32 hi hz0 hz1 hz2 rfl (by decide) _ _ _ rfl (Hrow.out.alloc _) ⟨W.heap.size, 0, none⟩ 1 1 (pairE (pk, pv)) rfl rfl (cells_newE _ _ _) (pairE_ok.one _) (by simp [maxLen]; omega) (by omega) (by have := HB.out.size; simp; omega) ?_
                     intro v' w1 hown' hgrow _
                     obtain ⟨g', cap', rfl⟩ := ownsRow_succ hown'
                     have hown2 : w1.ownsRow w'.heap.size 51 2 (.slice (some ⟨g', 0, none⟩) ((cutP pre x).length + 1) cap') (cutP (pre ++ [(pk, pv)]) x).length (cellsE pairE (cutP (pre ++ [(pk, pv)]) x)) := by
                       rw [H2.out.1, cellsE_append, List.length_append]; exact hown'
                     obtain ⟨hv1, hc2, hk2, hke⟩ := col_appended Hv.out Hrow.out HB.out.size hn04 hown2 hgrow
                     have hc1 := hv1.cell
                     have hf1 := hv1.frozen
                     have HKe := Lib.hid hke
                     have Hc2 := Lib.hid hc2
                     have Hk2 := Lib.hid hk2
                     have hGa : GrS W w1 (fun b => some b = v.ownBlock) := ((grs_alloc W _ (fun _ => False)).mono (fun _ _ h => h.elim)).trans (grs_grown hgrow)
                     have HX2 := Lib.hid (Boxed.other (hGa.boxed HX.out (fun e => HX.out.not_row (by decide) Hrow.out e)) (show W1.heap.size ≠ w4.heap.size by omega) (.slice (some ⟨g', 0, none⟩) ((cutP pre x).length + 1) cap'))
                     have HF2 := Lib.hid (Boxed.other (hGa.boxed HF.out (fun e => HF.out.not_row (by decide) Hrow.out e)) (show w4.heap.size + 1 ≠ w4.heap.size by omega) (.slice (some ⟨g', 0, none⟩) ((cutP pre x).length + 1) cap'))
                     clear hown' hgrow hown2 hv1 hc2 hk2 hke hGa)
        exact ⟨Hk2.out.from _, HKe.out, ⟨⟨Hc2.out, by rw [H2.out.2]; exact HF2.out⟩, HX2.out⟩, nbox_kept HR.out HKe.out, HB.out.trans HKe.out.1⟩
    case done =>
      rintro D ys Wd hD rfl ⟨⟨⟨hc, hF⟩, hX⟩, hR, hB⟩ hK
      have HR := Lib.hid hR
      have HB := Lib.hid hB
      have HKd := Lib.hid hK
      have cF := hF.cell
      obtain ⟨v, hv, hrow, _⟩ := hc
      have cv := hv.cell
      have hP : Prs Wd v (cutP (pairsT t) x) := (sl_of_ownsE pairE_ok hrow).1
      have hlen : (cutP (pairsT t) x).length ≤ 1000000 := by have := cutP_len (pairsT t) x; have := Hl.out; omega
      have hDlt : D < Wd.heap.size := by
        rcases Nat.lt_or_ge D Wd.heap.size with h' | h'
        · exact h'
        · rw [Array.getElem?_eq_none h'] at hK; cases hK
      have hD1 : W6.heap.size ≤ D := hD
      have hDne : W1.heap.size + 1 < D := by have := Hz6.out; have := Hsz5.out; omega
      have hD2 : w'.heap.size ≤ D := by have := HB6.out.size; omega
      clear hF hX hv hrow hR hB hK
      cases hh : cutHas (pairsT t) x with
      | false =>
        rw [hh] at cF
        have HE := Lib.hid (HEf.out hh)
        clear hh
        obtain ⟨hlt, p0, p1, p2, z0, z1, z2⟩ := nd3_of HR.out
        have hset := (nd3_of HR.out).set (.slice none 0 0) (.slice none 0 0) (.slice none 0 0)
        have hbs := below_set3 HB.out (show w'.heap.size ≤ W1.heap.size + 1 by omega) (.slice none 0 0) (.slice none 0 0) (.slice none 0 0)
        have Hset := Lib.hid hset
        have Hbs := Lib.hid hbs
        clear hset hbs
        gi_wp2
        have hX1 : GrS Wd (((Wd.setCell ⟨W1.heap.size + 1, 0, none⟩ (.slice none 0 0)).setCell ⟨W1.heap.size + 1, 1, none⟩ (.slice none 0 0)).setCell ⟨W1.heap.size + 1, 2, none⟩ (.slice none 0 0)) (fun b => b = W1.heap.size + 1) := ((grs_set Wd (W1.heap.size + 1) 0 _).trans (grs_set _ _ _ _)).trans (grs_set _ _ _ _)
        refine leaves_marks [D] _ (fun E hE => ?_) (by simp) (fun W' hW' => ?_)
        · rw [List.mem_singleton.1 hE]; exact (hX1.block D hDlt (by omega)).trans HKd.out
        · have hn' := hW'.nd3 Hset.out (fun h => by have := List.mem_singleton.1 h; omega)
          have q0 := hn'.c0
          have q1 := hn'.c1
          have q2 := hn'.c2
          exact ⟨.tuple #[.agg #[.slice none 0 0, .slice none 0 0, .slice none 0 0], .bool false], by simp [results, Try.f19, go_sem, q0, q1, q2], _, _, _, false, noT, rfl, HE.out.2.symm, HE.out.1.symm, noT_node _ _, Hbs.out.trans (hW'.below Hbs.out.size (fun k hk => by rw [List.mem_singleton.1 hk]; exact hD2))⟩
      | true =>
        rw [hh] at cF
        have HE := Lib.hid (HEt.out hh)
        clear hh
        have hbld := callsIn_wide (n := 6 - 1) |>.2 ((callsIn_wide (n := 6)).1 (build_in v (cutP (pairsT t) x) hP hlen))
        obtain ⟨aL, cL, rfl, _⟩ := id hP
        gi_wp2
        refine ⟨trivial, hbld.mono ?_⟩
        rintro e Wb ⟨a0, a1, a2, rfl, hnode, hbb⟩
        have hlt1 := (nd3_of HR.out).lt
        have hgb := grs_below hbb
        have hn1 := hgb.nd3 (nd3_of HR.out) (by omega)
        have hBb := HB.out.trans (hbb.mono HB.out.size)
        have HDb : Hid (Wb.heap[D]? = some (.deferred (some []))) := (hgb.block D hDlt (by omega)).trans HKd.out
        have hDb : D < Wb.heap.size := Nat.lt_of_lt_of_le hDlt hbb.size
        obtain ⟨b0, b1, b2, n0, k0, n1, k1, n2, k2, rfl, rfl, rfl⟩ := node_shape (nodeP_of hnode)
        have hset := hn1.set (.slice b0 n0 k0) (.slice b1 n1 k1) (.slice b2 n2 k2)
        obtain ⟨hlt, p0, p1, p2, z0, z1, z2⟩ := hn1
        have hbs := below_set3 hBb (show w'.heap.size ≤ W1.heap.size + 1 by omega) (.slice b0 n0 k0) (.slice b1 n1 k1) (.slice b2 n2 k2)
        have Hset := Lib.hid hset
        have Hbs := Lib.hid hbs
        have Hnode := Lib.hid hnode
        clear hset hbs hnode hbb hgb hbld hBb
        gi_wp2
        have hX1 : GrS Wb (((Wb.setCell ⟨W1.heap.size + 1, 0, none⟩ (.slice b0 n0 k0)).setCell ⟨W1.heap.size + 1, 1, none⟩ (.slice b1 n1 k1)).setCell ⟨W1.heap.size + 1, 2, none⟩ (.slice b2 n2 k2)) (fun b => b = W1.heap.size + 1) := ((grs_set Wb (W1.heap.size + 1) 0 _).trans (grs_set _ _ _ _)).trans (grs_set _ _ _ _)
        refine leaves_marks [D] _ (fun E hE => ?_) (by simp) (fun W' hW' => ?_)
        · rw [List.mem_singleton.1 hE]; exact (hX1.block D hDb (by omega)).trans HDb.out
        · have hn' := hW'.nd3 Hset.out (fun h => by have := List.mem_singleton.1 h; omega)
          have q0 := hn'.c0
          have q1 := hn'.c1
          have q2 := hn'.c2
          exact ⟨.tuple #[.agg #[.slice b0 n0 k0, .slice b1 n1 k1, .slice b2 n2 k2], .bool true], by simp [results, Try.f19, go_sem, q0, q1, q2], _, _, _, true, _, rfl, HE.out.2.symm, HE.out.1.symm, nodeP_mono (nodeP_kept (nodeP_kept Hnode.out hX1 (fun b hb he => by omega)) hW' (fun b hb he => by have := List.mem_singleton.1 he; omega)) (fun b _ hb => by have := HB.out.size; omega), Hbs.out.trans (hW'.below Hbs.out.size (fun k hk => by rw [List.mem_singleton.1 hk]; exact hD2))⟩
theorem cut_any {w : World} {n3 : N3} {t : Tr} (h : NodeV w n3 t) (x : Int) (w' : World) (hb : Below w.heap.size w w') (hl : (pairsT t).length ≤ 1000000) :
    Calls Try.prog 19 #[.agg #[n3.1, n3.2.1, n3.2.2], .int .i64 x] w' fun e w'' => ∃ (a0 a1 a2 : Value) (ok : Bool) (t' : Tr), e = .returned (.tuple #[.agg #[a0, a1, a2], .bool ok]) ∧ Hid (ok = cutOk t x) ∧ Hid (t' = cutTr t x) ∧ NodeP w'' (fun b => w'.heap.size < b) (a0, a1, a2) t' ∧ Below w'.heap.size w' w'' := by
  obtain ⟨v0, v1, v2⟩ := n3
  exact (callsIn_wide (n := 6)).1 (cut_in h x w' hb hl)
end Go.Proofs.Ytdlgpcjdaaeliaa
