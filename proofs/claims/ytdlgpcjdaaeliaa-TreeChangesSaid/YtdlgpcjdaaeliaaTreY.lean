/- The walk of build. Conditions: numbers fit. -/
import Derived.Test.YtdlgpcjdaaeliaaTreXa
import Derived.Sort.LoopGhostIn
namespace Go.Proofs.Ytdlgpcjdaaeliaa
open Go.RowKit Go.Shelf
attribute [local go_sem] Oper.semAt_some

theorem info_intT : (Try.prog.info? 3).map (fun i => (i.zero, i.size, i.bytes)) = some (some (.int .i64 0), 1, 8) := by kernel_rfl
theorem info_node : (Try.prog.info? 25).map (fun i => (i.zero, i.size, i.bytes)) = some (some (.agg #[.slice none 0 0, .slice none 0 0, .slice none 0 0]), 3, 72) := by kernel_rfl
theorem nd3_own {β : Type} (b : Nat) (v0 v1 v2 : Value) (B : Nat) : OwnFrom B (fun (_ : β) W => Nd3 W b v0 v1 v2) :=
  Own.from (fun _ _ _ _ hs hg hr => ⟨Nat.lt_of_lt_of_le hs.lt hg.size, cell_kept hs.c0 hg hr, cell_kept hs.c1 hg hr, cell_kept hs.c2 hg hr, (frozen_kept hs.c0 hg hr).trans hs.f0, (frozen_kept hs.c1 hg hr).trans hs.f1, (frozen_kept hs.c2 hg hr).trans hs.f2⟩) B
/-- The leaves of the first parts. -/
def lvs {k : Nat} (l : List (Int × Int)) (pre : List (Bd k)) : List Tr := pre.map fun x => leafT ((l.drop x.1.1).take (x.1.2 - x.1.1))
theorem lvs_all (l : List (Int × Int)) : lvs l (boundsL l.length) = lvl0 l := by
  unfold lvs lvl0 boundsL cutL
  rw [List.map_map]
  apply List.ext_getElem
  · simp
  · intro i h1 h2
    simp [bdAt]
theorem lvs_snoc {k : Nat} (l : List (Int × Int)) (pre : List (Bd k)) (x : Bd k) : lvs l (pre ++ [x]) = lvs l pre ++ [leafT ((l.drop x.1.1).take (x.1.2 - x.1.1))] := by simp [lvs]

theorem GrS.trans' {a b c : World} {R R' : Nat → Prop} (h : GrS a b R) (k : GrS b c R') (hr : ∀ i, i < a.heap.size → R' i → R i) : GrS a c R :=
  ⟨k.os.trans h.os, k.tape.trans h.tape, k.output.trans h.output, Nat.le_trans h.size k.size, fun i hi hn => (k.block i (Nat.lt_of_lt_of_le hi h.size) fun h' => hn (hr i hi h')).trans (h.block i hi hn)⟩

theorem owns_at {w : World} {base e size n cap g i : Nat} {cs : List Value} {v : Value} (h : w.ownsRow base e size (.slice (some ⟨g, 0, none⟩) n cap) n cs) (hi : cs[i]? = some v) : w.cell? ⟨g, i, none⟩ = some v ∧ w.frozen? ⟨g, i, none⟩ = false := by
  obtain ⟨_, h⟩ := h
  rcases h with ⟨h, _⟩ | ⟨g', cap', cur, hv, h1, h2, h3, h4, h5, h6⟩
  · cases h
  · injection hv with q1 q2 q3
    injection q1 with q1
    injection q1 with q1
    subst q1 q3
    rw [← h6, List.getElem?_take] at hi
    split at hi
    · exact ⟨by unfold World.cell?; simp [h2]; simpa using hi, by unfold World.frozen?; simp [h2]⟩
    · cases hi
theorem place_at {w : World} {base g cap N : Nat} {ns : List N3} (h : w.ownsRow base 25 3 (.slice (some ⟨g, 0, none⟩) (N + 1) cap) (N + 1) (cellsE nodeE ns ++ nodeE nilN)) (hN : ns.length = N) :
    ∀ j, j < 3 → w.cell? ⟨g, N * 3 + j, none⟩ = some (.slice none 0 0) ∧ w.frozen? ⟨g, N * 3 + j, none⟩ = false := fun j hj => by
  refine owns_at h ?_
  have hl := cellsN_length ns
  rw [List.getElem?_append_right (by omega), hl, hN, Nat.add_sub_cancel_left]
  match j, hj with
  | 0, _ => rfl
  | 1, _ => rfl
  | 2, _ => rfl

/-- A node that is being made: two rows of its own, one in each of two of its fields. -/
structure Mk (W1 : World) (bN : Nat) (e : TypeId) (s : Nat) (j : Nat) (ck cx : List Value) (vK vX : Value) (wr : World) : Prop where
  rk : wr.ownsRow W1.heap.size 3 1 vK j ck
  rx : wr.ownsRow W1.heap.size e s vX j cx
  ne : vK.ownBlock = none ∨ vK.ownBlock ≠ vX.ownBlock
  gr : GrS W1 wr (fun b => b = bN)
/-- The first of the two appended to, behind two new blocks; stored. -/
theorem Mk.first {W1 wr w2 : World} {bN e s j : Nat} {ck cx c : List Value} {vK vX vK' : Value} (h : Mk W1 bN e s j ck cx vK vX wr) {X : World} (hX : GrS wr X (fun _ => False))
    (hown : w2.ownsRow W1.heap.size 3 1 vK' (j + 1) c) (hg : X.grownBy w2 vK.ownBlock) (hat : vK'.ownBlock = vK.ownBlock ∨ vK'.ownBlock = some X.heap.size) :
    GrS wr w2 (fun b => some b = vK.ownBlock) ∧ w2.ownsRow W1.heap.size e s vX j cx ∧ (vK'.ownBlock ≠ vX.ownBlock) ∧ GrS W1 w2 (fun b => b = bN) := by
  have hG : GrS wr w2 (fun b => some b = vK.ownBlock) := (hX.mono (fun _ _ h => h.elim)).trans (grs_grown hg)
  have hxk : ∀ g, vX.ownBlock = some g → ¬ some g = vK.ownBlock := fun g hgx e => by
    rcases h.ne with h1 | h1
    · rw [h1] at e; cases e
    · exact h1 (by rw [← e, hgx])
  refine ⟨hG, hG.owns h.rx hxk, ?_, h.gr.trans' hG (fun i hi e => ?_)⟩
  · rcases hat with h1 | h1
    · rw [h1]
      rcases h.ne with h2 | h2
      · obtain ⟨g, cap, rfl⟩ := ownsRow_succ hown
        rw [h2] at h1; cases h1
      · exact h2
    · rw [h1]
      intro e
      have := owns_lt h.rx _ e.symm
      have := hX.size
      omega
  · have := owns_block h.rk i e.symm
    omega
/-- The second. -/
theorem Mk.second {W1 w2 w3 : World} {bN e s j m : Nat} {ck cx : List Value} {vK vX vX' : Value} (rk : w2.ownsRow W1.heap.size 3 1 vK m ck) (rx : w2.ownsRow W1.heap.size e s vX j cx) (ne : vK.ownBlock ≠ vX.ownBlock) (gr : GrS W1 w2 (fun b => b = bN))
    {X : World} (hX : GrS w2 X (fun b => b = bN)) (hbN : bN < W1.heap.size) (hg : X.grownBy w3 vX.ownBlock) (hat : vX'.ownBlock = vX.ownBlock ∨ vX'.ownBlock = some X.heap.size) :
    GrS w2 w3 (fun b => b = bN ∨ some b = vX.ownBlock) ∧ w3.ownsRow W1.heap.size 3 1 vK m ck ∧ (vK.ownBlock ≠ vX'.ownBlock) ∧ GrS W1 w3 (fun b => b = bN) := by
  have hG : GrS w2 w3 (fun b => b = bN ∨ some b = vX.ownBlock) := (hX.mono (fun _ _ h => Or.inl h)).trans ((grs_grown hg).mono (fun _ _ h => Or.inr h))
  refine ⟨hG, hG.owns rk (fun g hgk e => ?_), ?_, gr.trans' hG (fun i hi e => ?_)⟩
  · rcases e with rfl | e
    · have := owns_block rk _ hgk; omega
    · exact ne (by rw [hgk, e])
  · rcases hat with h1 | h1
    · rw [h1]; exact ne
    · rw [h1]
      intro e
      have := owns_lt rk _ e
      have := hX.size
      omega
  · rcases e with rfl | e
    · rfl
    · have := owns_block rx i e.symm; omega

/-- The nodes above the first parts. -/
def ups {k : Nat} (ts : List Tr) (pre : List (Bd k)) : List Tr := pre.map fun x => innT ((ts.drop x.1.1).take (x.1.2 - x.1.1))
theorem ups_all (ts : List Tr) : ups ts (boundsL ts.length) = upT ts := by
  unfold ups upT boundsL cutL
  rw [List.map_map]
  apply List.ext_getElem
  · simp
  · intro i h1 h2
    simp [bdAt]
theorem ups_snoc {k : Nat} (ts : List Tr) (pre : List (Bd k)) (x : Bd k) : ups ts (pre ++ [x]) = ups ts pre ++ [innT ((ts.drop x.1.1).take (x.1.2 - x.1.1))] := by simp [ups]
theorem grs_below {B : Nat} {a b : World} (h : Below B a b) : GrS a b (fun k => B ≤ k) := ⟨h.os, h.tape, h.output, h.size, fun k _ hn => h.block k (by omega)⟩
theorem node_key {w : World} {v0 v1 v2 : Value} {t : Tr} {x : Int} (h : NodeV w (v0, v1, v2) t) (hx : headK t = some x) : ∃ (aK aV aX : Option Addr) (nK cK nV cV nX cX b off : Nat), v0 = .slice aK nK cK ∧ v1 = .slice aV nV cV ∧ v2 = .slice aX nX cX ∧ 0 < nK ∧ aK = some ⟨b, off, none⟩ ∧ b < w.heap.size ∧ w.cell? ⟨b, off, none⟩ = some (.int .i64 x) := by
  obtain ⟨ks, vs, kids, ns, aK, aV, aX, cK, cV, cX, rfl, rfl, rfl, rfl, sK, _⟩ := node_parts h
  have h0 : 0 < ks.length := by
    match ks, hx with
    | y :: _, _ => simp
  obtain ⟨b, off, rfl, hb, hc⟩ := int_at sK h0
  rw [Nat.add_zero] at hc
  have hx2 : ks[0] = x := by
    match ks, hx with
    | y :: _, hx => simpa [headK] using hx
  rw [hx2] at hc
  exact ⟨_, aV, aX, _, cK, _, cV, _, cX, b, off, rfl, rfl, rfl, h0, rfl, hb, hc⟩
theorem slP_cells {α : Type} {w : World} {P : Nat → Prop} {v : Value} {k : Nat} {E : α → List Value} {xs : List α} (hE : ∀ x, 0 < k ∧ (E x).length = k) (h : SlP w P v k E xs) : SlP w (fun b => P b ∧ ∃ o u, w.cell? ⟨b, o, none⟩ = some u) v k E xs := by
  obtain ⟨a, cap, hv, hl, hn, hc⟩ := h
  by_cases h0 : xs = []
  · exact ⟨a, cap, hv, hl, hn, Or.inl h0⟩
  · rcases hc with hc | ⟨b, off, ha, hb, hp, hcl⟩
    · exact absurd hc h0
    · have hpos : 0 < xs.length := List.length_pos_iff.2 h0
      have h1 := hcl 0 hpos 0 (hE xs[0]).1
      rw [List.getElem?_eq_getElem (by have := hE xs[0]; omega)] at h1
      exact ⟨a, cap, hv, hl, hn, Or.inr ⟨b, off, ha, hb, ⟨hp, _, _, h1⟩, hcl⟩⟩
theorem nodeP_cells {w : World} {P : Nat → Prop} {n : N3} {t : Tr} (h : NodeP w P n t) : NodeP w (fun b => P b ∧ ∃ o u, w.cell? ⟨b, o, none⟩ = some u) n t := by
  induction h with
  | mk ns hk hv hx lk lv lx hl _ ih => exact .mk ns (slP_cells (fun _ => ⟨by decide, rfl⟩) hk) (slP_cells (fun _ => ⟨by decide, rfl⟩) hv) (slP_cells (fun _ => ⟨by decide, rfl⟩) hx) lk lv lx hl ih
def marksD (Ds : List Nat) : List Deferred := Ds.map fun D => { target := .collected D, args := #[] }
theorem leaves_marks {F : Fence} {n : Nat} {P : Program} {fn : Func} {tmps : Array Value} {R : Ending → World → Prop} : ∀ (Ds : List Nat) (W : World), (∀ D ∈ Ds, W.heap[D]? = some (.deferred (some []))) → Ds.Nodup →
    (∀ W', GrS W W' (fun b => b ∈ Ds) → ∃ v, (results fn tmps).run P W' = .ok v W' ∧ R (.returned v) W') → LeavesInM F n P fn tmps R (marksD Ds) .returning W
  | [], W, _, _, h => h W (grs_refl _ _)
  | D :: Ds, W, hm, hn, h => by
    have hD := hm D (by simp)
    obtain ⟨hn1, hn2⟩ := List.nodup_cons.1 hn
    refine ⟨by simp, .inl ⟨D, _, rfl, run_takeDeferred hD, ?_⟩⟩
    have hg : GrS W (W.putObj D (.deferred none)) (fun b => b ∈ D :: Ds) := (grs_grown (grownBy_putObj' W D (.deferred none))).mono (fun k _ e => by cases e; simp)
    refine leaves_marks Ds _ (fun E hE => ?_) hn2 (fun W' hW' => h W' (hg.trans (hW'.mono (fun k _ hk => List.mem_cons_of_mem _ hk))))
    exact (World.putObj_heap_other (by rintro rfl; exact hn1 hE)).trans (hm E (List.mem_cons_of_mem _ hE))
/-- Between two levels. -/
structure Inv2 (w : World) (l : List (Int × Int)) (ts : List Tr) (Ds : List Nat) (d : Nat) (W : World) : Prop where
  lvl : Lvl (w.heap.size + 5) (w.heap.size + 1 + 1) (fun b => w.heap.size + 1 < b) ts W
  nd : Nd3 W (w.heap.size + 1) (.slice none 0 0) (.slice none 0 0) (.slice none 0 0)
  bl : Below w.heap.size w W
  mks : ∀ D ∈ Ds, w.heap.size + 5 ≤ D ∧ W.heap[D]? = some (.deferred (some []))
  nodup : Ds.Nodup
  ok : LevOk d ts ∧ 1 ≤ d
  bld : bldF ts = bldT l
  len : ts.length ≤ 1000000
  sz : w.heap.size + 5 ≤ W.heap.size

set_option maxRecDepth 100000 in
set_option maxHeartbeats 8000000 in
theorem build_in {w : World} (v : Value) (l : List (Int × Int)) (hv : Prs w v l) (hl : l.length ≤ 1000000) :
    CallsIn Fence.wide 6 Try.prog 30 #[v] w fun e w' => ∃ (a0 a1 a2 : Value), e = .returned (.agg #[a0, a1, a2]) ∧ NodeP w' (fun b => w.heap.size < b) (a0, a1, a2) (bldT l) ∧ Below w.heap.size w w' := by
  obtain ⟨i3, hi3, hz30, hz31, hz32⟩ := info_parts info_intT
  obtain ⟨iN, hiN, hzN0, hzN1, hzN2⟩ := info_parts info_node
  have HV := Lib.hid hv
  obtain ⟨aL, cL, rfl⟩ := sl_shape hv
  clear hv
  refine callsIn_of_wp_marks Try.func30 rfl trivial ?_ rfl
  simp only [Try.ntmps30, List.size_toArray, List.length_cons, List.length_nil, Nat.reduceAdd, Nat.reduceSub, Array.replicate_succ, Array.replicate_zero, List.push_toArray, List.append_toArray, List.nil_append, List.cons_append]
  -- the boxes
  obtain ⟨W3, hW3⟩ : ∃ W3, ((w.alloc (.cells #[.slice aL l.length cL] 32)).alloc (.cells #[.slice none 0 0, .slice none 0 0, .slice none 0 0] 25)).alloc (.cells #[.slice none 0 0] 23) = W3 := ⟨_, rfl⟩
  have hz3 : W3.heap.size = w.heap.size + 3 := by rw [← hW3]; simp
  have b1 : Boxed W3 w.heap.size 32 (.slice aL l.length cL) := by rw [← hW3]; exact ((Boxed.new _ _ _).alloc _).alloc _
  have b2 : Nd3 W3 (w.heap.size + 1) (.slice none 0 0) (.slice none 0 0) (.slice none 0 0) := by
    rw [← hW3]
    have := Nd3.new (w.alloc (.cells #[.slice aL l.length cL] 32)) (.slice none 0 0) (.slice none 0 0) (.slice none 0 0) 25
    rw [World.size_alloc] at this
    exact (grs_alloc _ _ (fun _ => False)).nd3 this id
  have b3 : Lvl (w.heap.size + 5) (w.heap.size + 1 + 1) (fun b => w.heap.size + 1 < b) [] W3 := by
    rw [← hW3]
    have := lvl_nil (n₀ := w.heap.size + 5) (fun b => w.heap.size + 1 < b) ((w.alloc (.cells #[.slice aL l.length cL] 32)).alloc (.cells #[.slice none 0 0, .slice none 0 0, .slice none 0 0] 25))
    rw [World.size_alloc, World.size_alloc] at this
    exact this
  have hb3 : Below w.heap.size w W3 := by rw [← hW3]; exact (((Below.refl _ _).alloc (Nat.le_refl _) _).alloc (by simp) _).alloc (by simp; omega) _
  obtain ⟨W5, hW5⟩ : ∃ W5, (W3.alloc (.cells #[.int .i64 (l.length : Nat)] 3)).alloc (.cells #[.int .i64 (manyP l.length : Nat)] 3) = W5 := ⟨_, rfl⟩
  have hz5 : W5.heap.size = w.heap.size + 5 := by rw [← hW5]; simp; omega
  have hG5 : GrS W3 W5 (fun _ => False) := by rw [← hW5]; exact (grs_alloc _ _ _).trans (grs_alloc _ _ _)
  have c1 : Boxed W5 (w.heap.size + 4) 3 (.int .i64 (manyP l.length : Nat)) := by
    rw [← hW5]
    have := Boxed.new (W3.alloc (.cells #[.int .i64 (l.length : Nat)] 3)) 3 (.int .i64 (manyP l.length : Nat))
    rw [World.size_alloc, hz3] at this
    exact this
  have c2 : Boxed W5 (w.heap.size + 3) 3 (.int .i64 (l.length : Nat)) := by
    rw [← hW5]
    have := Boxed.new W3 3 (.int .i64 (l.length : Nat))
    rw [hz3] at this
    exact this.alloc _
  have e1 := b1.cell
  have HP := (parts_in (6 - 1) l.length W3 hl).mono (R' := fun e w' => e = .returned (.func (.func 38) #[] #[.pointer (some ⟨w.heap.size + 4, 0, none⟩), .pointer (some ⟨w.heap.size + 3, 0, none⟩)]) ∧ w' = W5) (fun e w' h => by rw [h.1, h.2, hW5, hz3]; exact ⟨rfl, rfl⟩)
  have B1 : Hid (Boxed W5 w.heap.size 32 (.slice aL l.length cL)) := hG5.boxed b1 id
  have B2 : Hid (Nd3 W5 (w.heap.size + 1) (.slice none 0 0) (.slice none 0 0) (.slice none 0 0)) := hG5.nd3 b2 id
  have B3 : Hid (Lvl (w.heap.size + 5) (w.heap.size + 1 + 1) (fun b => w.heap.size + 1 < b) [] W5) := lvl_kept b3 hG5 id (fun _ h _ => h) (fun _ _ h => h)
  have HB5 : Hid (Below w.heap.size w W5) := hb3.trans (hG5.below hb3.size (fun _ h => h.elim))
  have C1 := Lib.hid c1
  have C2 := Lib.hid c2
  have Hz5 := Lib.hid hz5
  have HP2 := Lib.hid HP
  have hnl : l.length ≤ 9223372036854775807 := by omega
  clear b1 b2 b3 hb3 hG5 c1 c2 hz5 hz3 hW5 HP
  gi_wp2
  refine ⟨trivial, HP2.out.mono ?_⟩
  rintro e w6 ⟨rfl, rfl⟩
  have hst := parts_stops (6 - 1) (by omega) l.length (w.heap.size + 4) (w.heap.size + 3) w.heap.size w6 hl (by have := Hz5.out; omega) (by have := Hz5.out; omega) C1.out.cell C2.out.cell
  have Hst := Lib.hid hst
  clear hst e1
  gi_wp2
  refine wpIn_rangeFunc_ownG rfl (by omega) (gf := 38) (lb := #[.pointer (some ⟨w.heap.size + 4, 0, none⟩), .pointer (some ⟨w.heap.size + 3, 0, none⟩)]) rfl trivial (enters_of Try.func38 (by kernel_rfl) rfl)
    Hst.out kpN_t (kpN_b HB5.out.size) (Below.refl _ _) (fun _ => rfl)
    (fun pre W => ((Lvl (w.heap.size + 5) (w.heap.size + 1 + 1) (fun b => w.heap.size + 1 < b) (lvs l pre) W ∧ Boxed W w.heap.size 32 (.slice aL l.length cL)) ∧ (Boxed W (w.heap.size + 4) 3 (.int .i64 (manyP l.length : Nat)) ∧ Boxed W (w.heap.size + 3) 3 (.int .i64 (l.length : Nat)))) ∧ Nd3 W (w.heap.size + 1) (.slice none 0 0) (.slice none 0 0) (.slice none 0 0) ∧ Below w.heap.size w W)
    (fun _ _ _ => False)
    (OwnFrom.and (OwnFrom.and (OwnFrom.and (lvl_own _ _ _ _ (fun pre => lvs l pre)) (boxed_own9 _ _ _ _)) (OwnFrom.and (boxed_own9 _ _ _ _) (boxed_own9 _ _ _ _))) (OwnFrom.and (nd3_own _ _ _ _ _) (ownFrom_below (Nat.le_refl _) HB5.out.size)))
    (fun _ _ _ _ _ hs _ _ => hs)
    ⟨⟨⟨B3.out, B1.out⟩, C1.out, C2.out⟩, B2.out, HB5.out⟩
    (fun x => { tmps := #[.slice aL l.length cL, .pointer (some ⟨w.heap.size, 0, none⟩), .pointer (some ⟨w.heap.size + 1, 0, none⟩), .pointer (some ⟨w.heap.size + 1 + 1, 0, none⟩), .int .i64 (x.1.1 : Int), .int .i64 (x.1.2 : Int), undef, undef, undef, undef, undef, undef, undef, undef, undef, .slice aL l.length cL, .int .i64 l.length, .func (.func 38) #[] #[.pointer (some ⟨w.heap.size + 4, 0, none⟩), .pointer (some ⟨w.heap.size + 3, 0, none⟩)], .int .i64 (x.1.1 : Int), .int .i64 (x.1.2 : Int), undef, undef, undef, undef, undef, undef, undef, undef, undef, undef, undef, undef, undef, undef, undef, undef, undef, undef, undef, undef, undef, undef, undef, undef, undef, undef, undef, undef, undef, undef, undef, undef, undef, undef, undef, undef, undef, undef, undef, undef, undef, undef, undef, undef, undef, undef, undef, undef, undef, undef, undef, undef, undef, undef, undef, undef, undef, undef, undef, undef, undef, undef, undef, undef, undef, undef, undef, undef, undef, undef, undef, undef, undef, undef, undef, undef, undef], defers := [] }) ?assign ?body ?done ?stop
  case assign =>
    intro l' x W K hK
    gi_wp2
    exact hK
  case stop =>
    rintro D c pre W _ _ h _
    exact h.elim
  case body =>
    rintro l' pre ⟨⟨p, q⟩, hpq1, hpq2, hpq3⟩ W ⟨⟨⟨hL, h1⟩, h4, h3⟩, hN, hB⟩ hlen
    dsimp only at hpq1 hpq2 hpq3
    obtain ⟨vL, ns, hvL, hrowL, hns, hnodes⟩ := hL
    have hbb := hB.size
    have hBx := hvL.lt
    -- the part
    have hpl : p < l.length := by omega
    obtain ⟨bP, oP, hveq, hbP, _⟩ := prs_at HV.out hpl
    subst hveq
    have hcap : l.length ≤ cL := by obtain ⟨_, _, hq, hc, _⟩ := HV.out; injection hq with _ _ hq; subst hq; exact hc
    obtain ⟨ps, hps⟩ : ∃ ps, ps = (l.drop p).take (q - p) := ⟨_, rfl⟩
    have hpsl : ps.length = q - p := by rw [hps, List.length_take, List.length_drop]; omega
    have hsrc : Prs w (.slice (some ⟨bP, oP + p * 2, none⟩) (q - p) (cL - p)) ps := by
      rw [hps]
      exact sl_part HV.out p (q - p) (cL - p) (by omega) (by omega)
    have Hsrc := Lib.hid hsrc
    have Hpsl := Lib.hid hpsl
    have Hps := Lib.hid hps
    have HvL := Lib.hid hvL
    have HrowL := Lib.hid hrowL
    have Hns := Lib.hid hns
    have Hnodes := Lib.hid hnodes
    have H1 := Lib.hid h1
    have H3 := Lib.hid h3
    have H4 := Lib.hid h4
    have HN := Lib.hid hN
    have HB := Lib.hid hB
    have hNd := Nd3.new W (.slice none 0 0) (.slice none 0 0) (.slice none 0 0) 25
    have c1' := h1.cell
    have c1'' : (W.alloc (.cells #[.slice none 0 0, .slice none 0 0, .slice none 0 0] 25)).cell? ⟨w.heap.size, 0, none⟩ = some (.slice (some ⟨bP, oP, none⟩) l.length cL) := by rw [World.cell?_alloc_lt _ _ _ h1.lt]; exact c1'
    obtain ⟨W1, hW1⟩ : ∃ W1, W.alloc (.cells #[.slice none 0 0, .slice none 0 0, .slice none 0 0] 25) = W1 := ⟨_, rfl⟩
    have hz1 : W1.heap.size = W.heap.size + 1 := by rw [← hW1]; simp
    have hG1 : GrS W W1 (fun _ => False) := by rw [← hW1]; exact grs_alloc _ _ _
    rw [hW1] at hNd c1''
    have HNd := Lib.hid hNd
    have HG1 := Lib.hid hG1
    have Hz1 := Lib.hid hz1
    have g0 : (0 : Int) ≤ (p : Int) := by omega
    have g1 : (p : Int) ≤ (q : Int) := by omega
    have g2 : (q : Int) ≤ (cL : Int) := by omega
    have g3 : (p : Int) ≤ (cL : Int) := by omega
    have d1 : ¬ cL = p := by omega
    clear hvL hrowL hns hnodes h1 h3 h4 hN hB hNd hG1 c1' hsrc hpsl hps hz1
    gi_wp2
    gi_loopw [25] (fun ui wr => ∃ (k : Nat) (aK aV : Option Addr) (cK cV : Nat), ui = .int .i64 k ∧ k ≤ q - p ∧ Nd3 wr W.heap.size (.slice aK k cK) (.slice aV k cV) (.slice none 0 0) ∧ Hid (Mk W1 W.heap.size 3 1 k (cellsE intE ((ps.take k).map Prod.fst)) (cellsE intE ((ps.take k).map Prod.snd)) (.slice aK k cK) (.slice aV k cV) wr)) (fun ui _ => q - p - (intOf ui).toNat)
    case atStart => exact ⟨0, none, none, 0, 0, rfl, Nat.zero_le _, HNd.out, ⟨World.ownsRow_nil _ _ _ _, World.ownsRow_nil _ _ _ _, Or.inl rfl, grs_refl _ _⟩⟩
    case round =>
      obtain ⟨k, aK, aV, cK, cV, rfl, hk, hnd, hmk⟩ := hrel
      have Hnd := Lib.hid hnd
      obtain ⟨hlt, p0, p1, p2, z0, z1, z2⟩ := hnd
      have hW1r : W1.heap.size ≤ wr.heap.size := hmk.out.gr.size
      by_cases hkl : k < q - p
      · have hkl2 : k < ps.length := by rw [Hpsl.out]; exact hkl
        have hbr : Below w.heap.size w wr := HB.out.trans ((HG1.out.below (by omega) (fun _ h => h.elim)).trans (hmk.out.gr.below (by have := Hz1.out; omega) (fun b e => by rw [e]; exact hbb)))
        obtain ⟨bx, ox, hveq, hbx, E0, E1⟩ := prs_at (sl_below Hsrc.out hbr) hkl2
        injection hveq with hveq
        injection hveq with t1 t2 t3
        subst t1 t2
        have HS1 : Hid ((ps.take (k + 1)).map Prod.fst = (ps.take k).map Prod.fst ++ [ps[k].1]) := by unfold Hid; rw [List.take_succ_eq_append_getElem hkl2, List.map_append]; rfl
        have HS2 : Hid ((ps.take (k + 1)).map Prod.snd = (ps.take k).map Prod.snd ++ [ps[k].2]) := by unfold Hid; rw [List.take_succ_eq_append_getElem hkl2, List.map_append]; rfl
        have hbW : W.heap.size < wr.heap.size := by have := Hz1.out; omega
        have hbWne : wr.heap.size ≠ W.heap.size := by omega
        clear hbr
        generalize ps[k] = xy at *
        obtain ⟨x, y⟩ := xy
        dsimp only at E0 E1 HS1 HS2
        have gk0 : (k : Int) < ((q - p : Nat) : Int) := by omega
        have gk1 : (0 : Int) ≤ (k : Int) := by omega
        have hX1 : GrS wr ((wr.alloc (.cells #[.int .i64 x, .int .i64 y] 51)).alloc (.cells #[.int .i64 x] 3)) (fun _ => False) := (grs_alloc _ _ _).trans (grs_alloc _ _ _)
        have HX1 := Lib.hid hX1
        have HK1 := Lib.hid (hX1.owns hmk.out.rk (fun _ _ h => h))
        have Hn1 : Hid (∀ j u, [Value.int .i64 x][j]? = some u → ((wr.alloc (.cells #[.int .i64 x, .int .i64 y] 51)).alloc (.cells #[.int .i64 x] 3)).cell? ((⟨wr.heap.size + 1, 0, none⟩ : Addr).add j) = some u) := by
          have := cells_newE (wr.alloc (.cells #[.int .i64 x, .int .i64 y] 51)) [.int .i64 x] 3
          rw [World.size_alloc] at this
          exact this
        have hp0 : ((wr.alloc (.cells #[.int .i64 x, .int .i64 y] 51)).alloc (.cells #[.int .i64 x] 3)).cell? ⟨wr.heap.size, 1, none⟩ = some (.int .i64 y) := by
          rw [World.cell?_alloc_lt _ _ _ (by simp), World.cell?_alloc_new]; rfl
        have Hp0 := Lib.hid hp0
        have hz2 : ((wr.alloc (.cells #[.int .i64 x, .int .i64 y] 51)).alloc (.cells #[.int .i64 x] 3)).heap.size = wr.heap.size + 2 := by simp
        have Hz2 := Lib.hid hz2
        have hle9 : W1.heap.size ≤ ((wr.alloc (.cells #[.int .i64 x, .int .i64 y] 51)).alloc (.cells #[.int .i64 x] 3)).heap.size := by rw [hz2]; omega
        clear hX1 hp0 hz2
        gi_wp2_with (first
          | (gi_at_builtin; refine wpListIn_append_at rfl _ _ 22 rfl W1.heap.size 3 i3 _ 1 8 Try.underlying22 hi3 hz30 hz31 hz32 rfl (by decide) (.slice aK k cK) k _ rfl HK1.out ⟨wr.heap.size + 1, 0, none⟩ 1 1 [.int .i64 x] rfl rfl Hn1.out (intE_ok.one x) (by simp [maxLen]; omega) (by omega) hle9 ?_
             intro vK w2 hown2 hg2 hat2
             obtain ⟨gK, cK2, rfl⟩ := ownsRow_succ hown2
             obtain ⟨hGr, hrx, hne2, hgr2⟩ := hmk.out.first HX1.out hown2 hg2 hat2
             have hnd2 := hGr.nd3 Hnd.out (fun e => by have := owns_block hmk.out.rk _ e.symm; have := Hz1.out; omega)
             have r0 := hnd2.c1
             have r1 := hnd2.f1
             have r2 : w2.cell? ⟨wr.heap.size, 1, none⟩ = some (.int .i64 y) := (hg2.cell_far ⟨wr.heap.size, 1, none⟩ (by rw [Hz2.out]; show wr.heap.size < _; omega) (fun e => Nat.lt_irrefl _ (owns_lt hmk.out.rk _ e.symm))).trans Hp0.out
             have r3 := hnd2.c0
             have r4 := hnd2.f0
             have hw2 : wr.heap.size < w2.heap.size := by have := hg2.size; rw [Hz2.out] at this; omega
             have hX2 : GrS w2 ((w2.setCell ⟨W.heap.size, 0, none⟩ (.slice (some ⟨gK, 0, none⟩) (k + 1) cK2)).alloc (.cells #[.int .i64 y] 3)) (fun b => b = W.heap.size) := (grs_set _ _ _ _).trans (grs_alloc _ _ _)
             have HX2 := Lib.hid hX2
             have HV2 := Lib.hid (hX2.owns hrx (fun g hgv e => by have := owns_block hrx g hgv; have := Hz1.out; omega))
             have Hn2 : Hid (∀ j u, [Value.int .i64 y][j]? = some u → ((w2.setCell ⟨W.heap.size, 0, none⟩ (.slice (some ⟨gK, 0, none⟩) (k + 1) cK2)).alloc (.cells #[.int .i64 y] 3)).cell? ((⟨w2.heap.size, 0, none⟩ : Addr).add j) = some u) := by
               have := cells_newE (w2.setCell ⟨W.heap.size, 0, none⟩ (.slice (some ⟨gK, 0, none⟩) (k + 1) cK2)) [.int .i64 y] 3
               have e : (w2.setCell ⟨W.heap.size, 0, none⟩ (.slice (some ⟨gK, 0, none⟩) (k + 1) cK2)).heap.size = w2.heap.size := by simp [World.setCell]
               rw [e] at this
               exact this
             have hle8 : W1.heap.size ≤ ((w2.setCell ⟨W.heap.size, 0, none⟩ (.slice (some ⟨gK, 0, none⟩) (k + 1) cK2)).alloc (.cells #[.int .i64 y] 3)).heap.size := by have := hX2.size; omega
             have Hnd2 := Lib.hid (hnd2.set0 (.slice (some ⟨gK, 0, none⟩) (k + 1) cK2))
             have Hown2 := Lib.hid hown2
             have Hrx := Lib.hid hrx
             have Hne2 := Lib.hid hne2
             have Hgr2 := Lib.hid hgr2
             clear hown2 hg2 hat2 hGr hrx hne2 hgr2 hnd2 hX2)
          | (gi_at_builtin; refine wpListIn_append_at rfl _ _ 22 rfl W1.heap.size 3 i3 _ 1 8 Try.underlying22 hi3 hz30 hz31 hz32 rfl (by decide) (.slice aV k cV) k _ rfl HV2.out ⟨w2.heap.size, 0, none⟩ 1 1 [.int .i64 y] rfl rfl Hn2.out (intE_ok.one y) (by simp [maxLen]; omega) (by omega) hle8 ?_
             intro vV w3 hown3 hg3 hat3
             obtain ⟨gV, cV2, rfl⟩ := ownsRow_succ hown3
             obtain ⟨hG3, hrk3, hne3, hgr3⟩ := Mk.second Hown2.out Hrx.out Hne2.out Hgr2.out HX2.out (by have := Hz1.out; omega) hg3 hat3
             have hnd3 : Nd3 w3 W.heap.size (.slice (some ⟨gK, 0, none⟩) (k + 1) cK2) (.slice aV k cV) (.slice none 0 0) := (grs_grown hg3).nd3 ((grs_alloc _ _ (fun _ => False)).nd3 Hnd2.out id) (fun e => by have := owns_block Hrx.out _ e.symm; have := Hz1.out; omega)
             have s0 := hnd3.c1
             have s1 := hnd3.f1
             have Hnd3 := Lib.hid (hnd3.set1 (.slice (some ⟨gV, 0, none⟩) (k + 1) cV2))
             have hst : GrS w3 (w3.setCell ⟨W.heap.size, 1, none⟩ (.slice (some ⟨gV, 0, none⟩) (k + 1) cV2)) (fun b => b = W.heap.size) := grs_set _ _ _ _
             have Hmk : Hid (Mk W1 W.heap.size 3 1 (k + 1) (cellsE intE ((ps.take (k + 1)).map Prod.fst)) (cellsE intE ((ps.take (k + 1)).map Prod.snd)) (.slice (some ⟨gK, 0, none⟩) (k + 1) cK2) (.slice (some ⟨gV, 0, none⟩) (k + 1) cV2) (w3.setCell ⟨W.heap.size, 1, none⟩ (.slice (some ⟨gV, 0, none⟩) (k + 1) cV2))) := by
               refine ⟨hst.owns (by rw [HS1.out, cellsE_append]; exact hrk3) (fun g hgv e => ?_), hst.owns (by rw [HS2.out, cellsE_append]; exact hown3) (fun g hgv e => ?_), Or.inr hne3, hgr3.trans hst⟩
               · have := owns_block hrk3 g hgv; have := Hz1.out; omega
               · have := owns_block hown3 g hgv; have := Hz1.out; omega
             clear hown3 hg3 hat3 hG3 hrk3 hne3 hgr3 hnd3 hst))
        exact ⟨⟨k + 1, some ⟨gK, 0, none⟩, some ⟨gV, 0, none⟩, cK2, cV2, by go_num, by omega, Hnd3.out, Hmk.out⟩, by simp [intOf]; omega⟩
      · obtain rfl : k = q - p := by omega
        have hGW : GrS W wr (fun _ => False) := HG1.out.trans' hmk.out.gr (fun i hi e => by omega)
        have hleaf : NodeP wr (fun b => some b ≠ vL.ownBlock ∧ b ≠ w.heap.size + 1 + 1 ∧ w.heap.size + 1 < b) (.slice aK (q - p) cK, .slice aV (q - p) cV, .slice none 0 0) (leafT ps) := by
          have h1 := hmk.out.rk
          have h2 := hmk.out.rx
          have hge : ∀ b, W1.heap.size ≤ b → some b ≠ vL.ownBlock ∧ b ≠ w.heap.size + 1 + 1 ∧ w.heap.size + 1 < b := fun b hb => ⟨fun e => by have := owns_lt HrowL.out b e.symm; have := Hz1.out; omega, by have := Hz1.out; omega, by have := Hz1.out; omega⟩
          rw [List.take_of_length_le (by rw [Hpsl.out]; exact Nat.le_refl _)] at h1 h2
          have hl9 : ps.length ≤ maxLen := by rw [Hpsl.out]; unfold maxLen; omega
          exact .mk [] (slP_mono (slP_owns intE_ok h1) (fun b _ e => hge b (owns_block h1 b e))) (slP_mono (slP_owns intE_ok h2) (fun b _ e => hge b (owns_block h2 b e))) ⟨none, 0, rfl, by simp, fun _ => rfl, Or.inl rfl⟩ (by simpa using hl9) (by simpa using hl9) (by unfold maxLen; simp) rfl (fun i hi => by simp at hi)
        have HNode := Lib.hid hleaf
        have HLV := Lib.hid (hGW.boxed HvL.out id)
        have HRL := Lib.hid (hGW.owns HrowL.out (fun _ _ h => h))
        have HNS : Hid (∀ i (hi : i < ns.length) (hj : i < (lvs l pre).length), NodeP wr (fun b => some b ≠ vL.ownBlock ∧ b ≠ w.heap.size + 1 + 1 ∧ w.heap.size + 1 < b) ns[i] (lvs l pre)[i]) := fun i hi hj => nodeP_kept (Hnodes.out i hi hj) hGW (fun _ _ h => h)
        have HGW := Lib.hid hGW
        obtain ⟨aLv, cLv, rfl, _⟩ := owns_shape HrowL.out
        have hw5 : w.heap.size + 5 ≤ W.heap.size := by have := H4.out.lt; omega
        have hlvl : (lvs l pre).length ≤ 1000000 := by unfold lvs; rw [List.length_map]; unfold manyP at hlen; omega
        have Hfin : Hid (∀ X : World, Lvl (w.heap.size + 5) (w.heap.size + 1 + 1) (fun b => w.heap.size + 1 < b) (lvs l pre ++ [leafT ps]) X ∧ GrS wr X (fun b => some b = (Value.slice aLv (lvs l pre).length cLv).ownBlock ∨ b = w.heap.size + 1 + 1) → ownPostG w6.heap.size (KpN w.heap.size (w.heap.size + 4) (w.heap.size + 3)) (fun pre W => ((Lvl (w.heap.size + 5) (w.heap.size + 1 + 1) (fun b => w.heap.size + 1 < b) (lvs l pre) W ∧ Boxed W w.heap.size 32 (.slice (some ⟨bP, oP, none⟩) l.length cL)) ∧ (Boxed W (w.heap.size + 4) 3 (.int .i64 (manyP l.length : Nat)) ∧ Boxed W (w.heap.size + 3) 3 (.int .i64 (l.length : Nat)))) ∧ Nd3 W (w.heap.size + 1) (.slice none 0 0) (.slice none 0 0) (.slice none 0 0) ∧ Below w.heap.size w W) (fun _ _ _ => False) (pre ++ [⟨(p, q), hpq1, hpq2, hpq3⟩]) W .normal { tmps := #[], defers := [] } X) := by
          rintro X ⟨hL, hGX⟩
          have hG : GrS W X (fun b => some b = (Value.slice aLv (lvs l pre).length cLv).ownBlock ∨ b = w.heap.size + 1 + 1) := (HGW.out.mono (fun _ _ h => h.elim)).trans hGX
          have hno : ∀ b, b < w.heap.size + 5 → b ≠ w.heap.size + 1 + 1 → ¬ (some b = (Value.slice aLv (lvs l pre).length cLv).ownBlock ∨ b = w.heap.size + 1 + 1) := fun b hb hne h => by
            rcases h with h | h
            · have := owns_block HrowL.out b h.symm; omega
            · exact hne h
          refine ⟨(hG.others (fun b o hR ho => ?_)).from _, ⟨hG.below hbb (fun b hR => ?_), fun v hv => ?_, fun v hv => ?_⟩, ⟨⟨by rw [lvs_snoc, ← Hps.out]; exact hL, hG.boxed H1.out (hno _ (by omega) (by omega))⟩, hG.boxed H4.out (hno _ (by omega) (by omega)), hG.boxed H3.out (hno _ (by omega) (by omega))⟩, hG.nd3 HN.out (hno _ (by omega) (by omega)), HB.out.trans (hG.below hbb (fun b hR => ?_))⟩
          · rcases hR with h | h
            · rcases HrowL.out.2 with ⟨h', _⟩ | ⟨g', _, _, hv', _, hc', _⟩
              · rw [h'] at h; cases h
              · rw [hv'] at h
                simp only [Value.ownBlock, Option.some.injEq] at h
                rw [h, hc'] at ho; cases ho; rfl
            · rw [h, show W.heap[w.heap.size + 1 + 1]? = _ from HvL.out] at ho; cases ho; rfl
          · rcases hR with h | h
            · have := owns_block HrowL.out b h.symm; omega
            · omega
          · rw [hG.cell H4.out.lt (hno _ (by omega) (by omega))]; exact hv
          · rw [hG.cell H3.out.lt (hno _ (by omega) (by omega))]; exact hv
          · rcases hR with h | h
            · have := owns_block HrowL.out b h.symm; omega
            · omega
        clear hmk hGW hleaf p0 p1 p2 z0 z1 z2
        have hlt9 := hlt
        gi_wp2
        refine regi_start (S := fun w' => GrS wr w' (fun _ => False)) 4 (by kernel_rfl) 8 rfl (fun hcl => ?_)
        have hSd : GrS wr wr.drew (fun _ => False) := grs_drew _ _
        refine regi_take 0 6 (by kernel_rfl) rfl (by kernel_rfl) (by kernel_rfl) (by kernel_rfl) (by kernel_rfl) (fun _ _ _ h => h) (by rfl) (by intro w' hSw; have hcl := (hSw.boxed HLV.out id).cell; clear hSw; go_simp; with_reducible rfl) (fun _ => rfl) hSd hcl (fun hcl => ?_)
        try simp only [Act.put, List.setIfInBounds_toArray, List.set_cons_zero, List.set_cons_succ]
        refine regi_take 1 6 (by kernel_rfl) rfl (by kernel_rfl) (by kernel_rfl) (by kernel_rfl) (by kernel_rfl) (fun _ _ _ h => h) (by rfl) (by intro w' hSw; have hn3 := hSw.nd3 Hnd.out id; have k0 := hn3.c0; have k1 := hn3.c1; have k2 := hn3.c2; clear hSw hn3; go_simp; with_reducible rfl) (fun _ => rfl) hSd hcl (fun hcl => ?_)
        try simp only [Act.put, List.setIfInBounds_toArray, List.set_cons_zero, List.set_cons_succ]
        refine regi_take 2 6 (by kernel_rfl) rfl (by kernel_rfl) (by kernel_rfl) (by kernel_rfl) (by kernel_rfl) (fun _ _ _ h => h) (by rfl) (by intro w' hSw; clear hSw; go_simp; with_reducible rfl) (fun _ => rfl) hSd hcl (fun hcl => ?_)
        try simp only [Act.put, List.setIfInBounds_toArray, List.set_cons_zero, List.set_cons_succ]
        refine regi_keep 3 rfl (by kernel_rfl) hcl (fun K hK => ?_)
        go_simp
        have hSa : GrS wr (wr.drew.alloc (.cells #[.slice none 0 0, .slice none 0 0, .slice none 0 0] 25)) (fun _ => False) := hSd.trans (grs_alloc _ _ _)
        refine hK.out _ _ hSa (fun hcl => ?_)
        clear hK K
        try simp only [Act.put, List.setIfInBounds_toArray, List.set_cons_zero, List.set_cons_succ]
        refine regi_call 4 (by decide) rfl (by kernel_rfl) (fun K hK => ?_)
        have HownA := Lib.hid (hSa.owns HRL.out (fun _ _ h => h))
        have HnA := Lib.hid (cells_newE wr.drew (nodeE nilN) 25)
        have hbA : w.heap.size + 5 ≤ (wr.drew.alloc (.cells #[.slice none 0 0, .slice none 0 0, .slice none 0 0] 25)).heap.size := by have := hSa.size; omega
        refine stepIn_append_at (by rfl) _ _ 23 (by rfl) (w.heap.size + 5) 25 iN _ 3 72 Try.underlying23 hiN hzN0 hzN1 hzN2 rfl (by decide) (.slice aLv (lvs l pre).length cLv) (lvs l pre).length _ (by rfl) HownA.out ⟨wr.heap.size, 0, none⟩ 1 1 (nodeE nilN) (by rfl) rfl HnA.out (by intro u hu; simp only [nodeE, List.mem_cons, List.not_mem_nil, or_false] at hu; rcases hu with rfl | rfl | rfl <;> rfl) (by simp [maxLen]; omega) (by omega) hbA ?_
        intro vN w1 hown1 hg1 hat1
        obtain ⟨g, cap, rfl, hpush⟩ := pushed_mk HLV.out HRL.out Hns.out HNS.out HNode.out hSa hown1 hg1 hat1
        obtain ⟨nsw, hroww, hnsw, _⟩ := hpush.row
        have hpl := place_at hroww hnsw
        have q0 := (hpl 0 (by decide)).1
        have q1 := (hpl 1 (by decide)).1
        have q2 := (hpl 2 (by decide)).1
        have y0 := (hpl 0 (by decide)).2
        have y1 := (hpl 1 (by decide)).2
        have y2 := (hpl 2 (by decide)).2
        rw [Nat.add_zero] at q0 y0
        have qb := hpush.box.cell
        have yb := hpush.box.frozen
        have hgne := hpush.ne
        have hgne2 : w.heap.size + 1 + 1 ≠ g := fun e => hgne e.symm
        have Hpush := Lib.hid hpush
        clear hown1 hg1 hat1 hpush hroww hnsw hpl HownA HnA hSa hSd
        refine hK.out _ _ ?_
        clear hK K
        try simp only [Act.put, List.setIfInBounds_toArray, List.set_cons_zero, List.set_cons_succ]
        have gN0 : (0 : Int) ≤ ((lvs l pre).length : Int) := by omega
        have gN1 : ((lvs l pre).length : Int) < ((lvs l pre).length : Int) + 1 := by omega
        have gN2 : ((lvs l pre).length : Int) < (((lvs l pre).length + 1 : Nat) : Int) := by omega
        refine regi_two 5 7 (by decide) (by decide) rfl rfl (by kernel_rfl) (fun K hK => ?_) (fun K hK => ?_)
        · go_simp
          refine hK.out _ _ ?_
          clear hK K
          try simp only [Act.put, List.setIfInBounds_toArray, List.set_cons_zero, List.set_cons_succ]
          refine regi_two 6 7 (by decide) (by decide) rfl rfl (by kernel_rfl) (fun K hK => ?_) (fun K hK => ?_)
          · go_simp
            refine hK.out _ _ ?_
            clear hK K
            try simp only [Act.put, List.setIfInBounds_toArray, List.set_cons_zero, List.set_cons_succ]
            refine regi_call 7 (by decide) rfl (by kernel_rfl) (fun K hK => ?_)
            go_simp
            refine hK.out _ _ ?_
            clear hK K
            try simp only [Act.put, List.setIfInBounds_toArray, List.set_cons_zero, List.set_cons_succ]
            refine regi_done (by kernel_rfl) ?_ _
            gi_wp2
            exact Hfin.out _ ((pushed_done Hpush.out (k := (lvs l pre).length * 3) rfl).1)
          · go_simp
            refine hK.out _ _ ?_
            clear hK K
            try simp only [Act.put, List.setIfInBounds_toArray, List.set_cons_zero, List.set_cons_succ]
            refine regi_call 6 (by decide) rfl (by kernel_rfl) (fun K hK => ?_)
            go_simp
            refine hK.out _ _ ?_
            clear hK K
            try simp only [Act.put, List.setIfInBounds_toArray, List.set_cons_zero, List.set_cons_succ]
            refine regi_done (by kernel_rfl) ?_ _
            gi_wp2
            exact Hfin.out _ ((pushed_done Hpush.out (k := (lvs l pre).length * 3) rfl).2)
        · go_simp
          refine hK.out _ _ ?_
          clear hK K
          try simp only [Act.put, List.setIfInBounds_toArray, List.set_cons_zero, List.set_cons_succ]
          refine regi_call 5 (by decide) rfl (by kernel_rfl) (fun K hK => ?_)
          go_simp
          refine hK.out _ _ ?_
          clear hK K
          try simp only [Act.put, List.setIfInBounds_toArray, List.set_cons_zero, List.set_cons_succ]
          refine regi_call 6 (by decide) rfl (by kernel_rfl) (fun K hK => ?_)
          go_simp
          refine hK.out _ _ ?_
          clear hK K
          try simp only [Act.put, List.setIfInBounds_toArray, List.set_cons_zero, List.set_cons_succ]
          refine regi_done (by kernel_rfl) ?_ _
          gi_wp2
          exact Hfin.out _ ((pushed_done Hpush.out (k := (lvs l pre).length * 3) rfl).2)
  case done =>
    rintro D ys Wd hD rfl ⟨⟨⟨hL, h1⟩, h4, h3⟩, hN, hB⟩ hK
    rw [lvs_all] at hL
    have hinv : Inv2 w l (lvl0 l) [D] 1 Wd := ⟨hL, hN, hB, fun E hE => by rw [List.mem_singleton.1 hE]; exact ⟨by have := Hz5.out; omega, hK⟩, by simp, ⟨lvl0_ok l, Nat.le_refl _⟩, rfl, by unfold lvl0; rw [List.length_map, cutL_length]; unfold manyP; omega, by have := h4.lt; omega⟩
    have Hinv := Lib.hid hinv
    clear hL h1 h4 h3 hN hB hK hinv hD
    gi_wp2
    refine wpIn_loop_ghost (fun n a W => ∃ (ts : List Tr) (Ds : List Nat) (d : Nat) (u9 u50 u51 u52 u53 u54 u55 u89 : Value), n = ts.length ∧ a = { tmps := #[.slice aL l.length cL, .pointer (some ⟨w.heap.size, 0, none⟩), .pointer (some ⟨w.heap.size + 1, 0, none⟩), .pointer (some ⟨w.heap.size + 1 + 1, 0, none⟩), undef, undef, undef, undef, undef, u9, undef, undef, undef, undef, undef, .slice aL l.length cL, .int .i64 l.length, .func (.func 38) #[] #[.pointer (some ⟨w.heap.size + 4, 0, none⟩), .pointer (some ⟨w.heap.size + 3, 0, none⟩)], undef, undef, undef, undef, undef, undef, undef, undef, undef, undef, undef, undef, undef, undef, undef, undef, undef, undef, undef, undef, undef, undef, undef, undef, undef, undef, undef, undef, undef, undef, undef, undef, u50, u51, u52, u53, u54, u55, undef, undef, undef, undef, undef, undef, undef, undef, undef, undef, undef, undef, undef, undef, undef, undef, undef, undef, undef, undef, undef, undef, undef, undef, undef, undef, undef, undef, undef, undef, undef, undef, undef, u89, undef, undef, undef, undef, undef, undef, undef], defers := marksD Ds } ∧ Hid (Inv2 w l ts Ds d W)) (lvl0 l).length ⟨lvl0 l, [D], 1, undef, undef, undef, undef, undef, undef, undef, undef, rfl, rfl, Hinv.out⟩ ?_
    clear Hinv
    rintro n a W ⟨ts, Ds, d, u9, u50, u51, u52, u53, u54, u55, u89, rfl, rfl, hinv⟩
    obtain ⟨vL, ns, hvL, hrowL, hns, hnodes⟩ := hinv.out.lvl
    have HvL := Lib.hid hvL
    have HrowL := Lib.hid hrowL
    have Hns := Lib.hid hns
    have Hnodes := Lib.hid hnodes
    have hsz := hinv.out.sz
    have hts := hinv.out.len
    by_cases hlen : 1 < ts.length
    · obtain ⟨gL, cV, rfl, hgL, _⟩ := World.ownsRow.form hrowL (by omega)
      have hcV : ts.length ≤ cV := by obtain ⟨_, _, hq, hc, _⟩ := owns_shape hrowL; injection hq with _ _ hq; subst hq; exact hc
      have hcL := hvL.cell
      have b1 : decide ((1 : Int) < (ts.length : Int)) = true := decide_eq_true (by omega)
      have b1n : decide (1 < ts.length) = true := decide_eq_true hlen
      have hcL1 : (W.alloc (.cells #[.slice none 0 0] 23)).cell? ⟨w.heap.size + 1 + 1, 0, none⟩ = some (.slice (some ⟨gL, 0, none⟩) ts.length cV) := by rw [World.cell?_alloc_lt _ _ _ hvL.lt]; exact hcL
      have hla := lvl_nil (n₀ := W.heap.size) (fun b => b ≠ w.heap.size + 1 + 1 ∧ w.heap.size + 1 < b) W
      obtain ⟨W1, hW1⟩ : ∃ W1, W.alloc (.cells #[.slice none 0 0] 23) = W1 := ⟨_, rfl⟩
      have hz1 : W1.heap.size = W.heap.size + 1 := by rw [← hW1]; simp
      have hG1 : GrS W W1 (fun _ => False) := by rw [← hW1]; exact grs_alloc _ _ _
      rw [hW1] at hcL1 hla
      obtain ⟨W2, hW2⟩ : ∃ W2, (W1.alloc (.cells #[.int .i64 (ts.length : Nat)] 3)).alloc (.cells #[.int .i64 (manyP ts.length : Nat)] 3) = W2 := ⟨_, rfl⟩
      have hz2 : W2.heap.size = W.heap.size + 3 := by rw [← hW2]; simp; omega
      have hG2 : GrS W1 W2 (fun _ => False) := by rw [← hW2]; exact (grs_alloc _ _ _).trans (grs_alloc _ _ _)
      have k1 : Boxed W2 (W.heap.size + 2) 3 (.int .i64 (manyP ts.length : Nat)) := by
        rw [← hW2]
        have := Boxed.new (W1.alloc (.cells #[.int .i64 (ts.length : Nat)] 3)) 3 (.int .i64 (manyP ts.length : Nat))
        rw [World.size_alloc, hz1] at this
        exact this
      have k2 : Boxed W2 (W.heap.size + 1) 3 (.int .i64 (ts.length : Nat)) := by
        rw [← hW2]
        have := Boxed.new W1 3 (.int .i64 (ts.length : Nat))
        rw [hz1] at this
        exact this.alloc _
      have HP := (parts_in (6 - 1) ts.length W1 hts).mono (R' := fun e w' => e = .returned (.func (.func 38) #[] #[.pointer (some ⟨W.heap.size + 2, 0, none⟩), .pointer (some ⟨W.heap.size + 1, 0, none⟩)]) ∧ w' = W2) (fun e w' h => by rw [h.1, h.2, hW2, hz1]; exact ⟨rfl, rfl⟩)
      have HP3 := Lib.hid HP
      have HLa : Hid (Lvl W.heap.size W.heap.size (fun b => b ≠ w.heap.size + 1 + 1 ∧ w.heap.size + 1 < b) [] W2) := lvl_kept hla hG2 id (fun _ h _ => h) (fun _ _ h => h)
      have HBW : Hid (Below W.heap.size W W2) := (hG1.below (Nat.le_refl _) (fun _ h => h.elim)).trans (hG2.below (by omega) (fun _ h => h.elim))
      have HK1 := Lib.hid k1
      have HK2 := Lib.hid k2
      have Hz2 := Lib.hid hz2
      clear HP hla hG1 hG2 k1 k2 hz2 hW2 hz1 hvL hrowL hns hnodes
      gi_wp2
      refine ⟨trivial, HP3.out.mono ?_⟩
      rintro e w6' ⟨rfl, rfl⟩
      have hst := parts_stops (6 - 1) (by omega) ts.length (W.heap.size + 2) (W.heap.size + 1) W.heap.size w6' hts (by have := Hz2.out; omega) (by have := Hz2.out; omega) HK1.out.cell HK2.out.cell
      have Hst2 := Lib.hid hst
      clear hst hcL1 hcL
      gi_wp2
      refine wpIn_rangeFunc_ownG rfl (by omega) (gf := 38) (lb := #[.pointer (some ⟨W.heap.size + 2, 0, none⟩), .pointer (some ⟨W.heap.size + 1, 0, none⟩)]) rfl trivial (enters_of Try.func38 (by kernel_rfl) rfl)
        Hst2.out kpN_t (kpN_b HBW.out.size) (Below.refl _ _) (fun _ => rfl)
        (fun pre V => (Lvl W.heap.size W.heap.size (fun b => b ≠ w.heap.size + 1 + 1 ∧ w.heap.size + 1 < b) (ups ts pre) V ∧ Boxed V (W.heap.size + 2) 3 (.int .i64 (manyP ts.length : Nat)) ∧ Boxed V (W.heap.size + 1) 3 (.int .i64 (ts.length : Nat))) ∧ Below W.heap.size W V)
        (fun _ _ _ => False)
        (OwnFrom.and (OwnFrom.and (lvl_own _ _ _ _ (fun pre => ups ts pre)) (OwnFrom.and (boxed_own9 _ _ _ _) (boxed_own9 _ _ _ _))) (ownFrom_below (Nat.le_refl _) HBW.out.size))
        (fun _ _ _ _ _ hs _ _ => hs)
        ⟨⟨HLa.out, HK1.out, HK2.out⟩, HBW.out⟩
        (fun x => { tmps := #[.slice aL l.length cL, .pointer (some ⟨w.heap.size, 0, none⟩), .pointer (some ⟨w.heap.size + 1, 0, none⟩), .pointer (some ⟨w.heap.size + 1 + 1, 0, none⟩), undef, undef, undef, undef, undef, .pointer (some ⟨W.heap.size, 0, none⟩), .int .i64 (x.1.1 : Int), .int .i64 (x.1.2 : Int), undef, undef, undef, .slice aL l.length cL, .int .i64 l.length, .func (.func 38) #[] #[.pointer (some ⟨w.heap.size + 4, 0, none⟩), .pointer (some ⟨w.heap.size + 3, 0, none⟩)], undef, undef, undef, undef, undef, undef, undef, undef, undef, undef, undef, undef, undef, undef, undef, undef, undef, undef, undef, undef, undef, undef, undef, undef, undef, undef, undef, undef, undef, undef, undef, undef, .slice (some ⟨gL, 0, none⟩) ts.length cV, .int .i64 ts.length, .bool true, .slice (some ⟨gL, 0, none⟩) ts.length cV, .int .i64 ts.length, .func (.func 38) #[] #[.pointer (some ⟨W.heap.size + 2, 0, none⟩), .pointer (some ⟨W.heap.size + 1, 0, none⟩)], .int .i64 (x.1.1 : Int), .int .i64 (x.1.2 : Int), undef, undef, undef, undef, undef, undef, undef, undef, undef, undef, undef, undef, undef, undef, undef, undef, undef, undef, undef, undef, undef, undef, undef, undef, undef, undef, undef, undef, undef, undef, undef, u89, undef, undef, undef, undef, undef, undef, undef], defers := [] }) ?assign ?body ?done ?stop
      case assign =>
        intro l' x V K hK
        gi_wp2
        exact hK
      case stop =>
        rintro D c pre V _ _ h _
        exact h.elim
      case body =>
        rintro l' pre ⟨⟨p, q⟩, hpq1, hpq2, hpq3⟩ V ⟨⟨hLa, hb2, hb1⟩, hBV⟩ hlenp
        dsimp only at hpq1 hpq2 hpq3
        obtain ⟨va, nsa, hva, hrowa, hnsa, hnodesa⟩ := hLa
        have hVW : W.heap.size ≤ V.heap.size := hBV.size
        have hnsl : ns.length = ts.length := Hns.out
        have hsrc0 : SlOf W (.slice (some ⟨gL, p * 3, none⟩) (q - p) (cV - p)) 3 nodeE ((ns.drop p).take (q - p)) := by
          have := sl_part (slP_of (slP_ownsN HrowL.out).1) p (q - p) (cV - p) (by omega) (by omega)
          rw [Nat.zero_add] at this
          exact this
        have hnp0 : ∀ i (hi : i < ((ns.drop p).take (q - p)).length) (hj : i < ((ts.drop p).take (q - p)).length), NodeP W (fun b => b < W.heap.size ∧ b ≠ w.heap.size + 1 + 1 ∧ w.heap.size + 1 < b) ((ns.drop p).take (q - p))[i] ((ts.drop p).take (q - p))[i] := fun i hi hj => by
          have hi' := hi
          rw [List.length_take, List.length_drop] at hi'
          have h := Hnodes.out (p + i) (by omega) (by omega)
          simp only [List.getElem_take, List.getElem_drop]
          exact nodeP_mono h (fun b hb h => ⟨hb, h.2.1, h.2.2⟩)
        have hhd0 : ∀ i (hj : i < ((ts.drop p).take (q - p)).length), ∃ x, headK ((ts.drop p).take (q - p))[i] = some x := fun i hj => by
          have h := (hinv.out.ok.1 ((ts.drop p).take (q - p))[i] (List.mem_of_mem_drop (List.mem_of_mem_take (List.getElem_mem hj)))).2
          rw [if_neg (by omega)] at h
          exact head_sized h
        obtain ⟨kp, hkp⟩ : ∃ kp, kp = (ts.drop p).take (q - p) := ⟨_, rfl⟩
        obtain ⟨np, hnp⟩ : ∃ np, np = (ns.drop p).take (q - p) := ⟨_, rfl⟩
        have hkpl : kp.length = q - p := by rw [hkp, List.length_take, List.length_drop]; omega
        have hnpl : np.length = q - p := by rw [hnp, List.length_take, List.length_drop]; omega
        rw [← hnp] at hsrc0
        have Hsrc2 := Lib.hid hsrc0
        have HnP : Hid (∀ i (hi : i < np.length) (hj : i < kp.length), NodeP W (fun b => b < W.heap.size ∧ b ≠ w.heap.size + 1 + 1 ∧ w.heap.size + 1 < b) np[i] kp[i]) := by
          subst hkp hnp
          exact hnp0
        have Hheads : Hid (∀ i (hj : i < kp.length), ∃ x, headK kp[i] = some x) := by
          subst hkp
          exact hhd0
        have Hkp := Lib.hid hkp
        have Hkpl := Lib.hid hkpl
        have Hnpl := Lib.hid hnpl
        have Hva := Lib.hid hva
        have Hrowa := Lib.hid hrowa
        have Hnsa := Lib.hid hnsa
        have Hnodesa := Lib.hid hnodesa
        have Hb1 := Lib.hid hb1
        have Hb2 := Lib.hid hb2
        have HBV := Lib.hid hBV
        have hBlV : Boxed V (w.heap.size + 1 + 1) 23 (.slice (some ⟨gL, 0, none⟩) ts.length cV) := (hBV.block _ HvL.out.lt).trans HvL.out
        have hNd := Nd3.new V (.slice none 0 0) (.slice none 0 0) (.slice none 0 0) 25
        have c3 : (V.alloc (.cells #[.slice none 0 0, .slice none 0 0, .slice none 0 0] 25)).cell? ⟨w.heap.size + 1 + 1, 0, none⟩ = some (.slice (some ⟨gL, 0, none⟩) ts.length cV) := by rw [World.cell?_alloc_lt _ _ _ hBlV.lt]; exact hBlV.cell
        obtain ⟨V1, hV1⟩ : ∃ V1, V.alloc (.cells #[.slice none 0 0, .slice none 0 0, .slice none 0 0] 25) = V1 := ⟨_, rfl⟩
        have hzv : V1.heap.size = V.heap.size + 1 := by rw [← hV1]; simp
        have hGV : GrS V V1 (fun _ => False) := by rw [← hV1]; exact grs_alloc _ _ _
        rw [hV1] at hNd c3
        have HNdv := Lib.hid hNd
        have HGV := Lib.hid hGV
        have Hzv := Lib.hid hzv
        have g0 : (0 : Int) ≤ (p : Int) := by omega
        have g1 : (p : Int) ≤ (q : Int) := by omega
        have g2 : (q : Int) ≤ (cV : Int) := by omega
        have g3 : (p : Int) ≤ (cV : Int) := by omega
        have d1 : ¬ cV = p := by omega
        have d2 : ¬ p = cV := by omega
        clear hva hrowa hnsa hnodesa hb1 hb2 hBV hNd hGV hsrc0 hkpl hnpl hkp hnp hnp0 hhd0 hzv hBlV hnsl
        gi_wp2
        gi_loopw [63] (fun ui wr => ∃ (k : Nat) (aK aX : Option Addr) (cK cX : Nat), ui = .int .i64 k ∧ k ≤ q - p ∧ Nd3 wr V.heap.size (.slice aK k cK) (.slice none 0 0) (.slice aX k cX) ∧ Hid (Mk V1 V.heap.size 25 3 k (cellsE intE ((kp.take k).map keyT)) (cellsE nodeE (np.take k)) (.slice aK k cK) (.slice aX k cX) wr)) (fun ui _ => q - p - (intOf ui).toNat)
        case atStart => exact ⟨0, none, none, 0, 0, rfl, Nat.zero_le _, HNdv.out, ⟨World.ownsRow_nil _ _ _ _, World.ownsRow_nil _ _ _ _, Or.inl rfl, grs_refl _ _⟩⟩
        case round =>
          obtain ⟨k, aK, aX, cK, cX, rfl, hk, hnd, hmk⟩ := hrel
          have Hnd := Lib.hid hnd
          obtain ⟨hlt, p0, p1, p2, z0, z1, z2⟩ := hnd
          have hW1r : V1.heap.size ≤ wr.heap.size := hmk.out.gr.size
          have hbr : Below W.heap.size W wr := HBV.out.trans ((HGV.out.below hVW (fun _ h => h.elim)).trans (hmk.out.gr.below (by have := Hzv.out; omega) (fun b e => by rw [e]; exact hVW)))
          by_cases hkl : k < q - p
          · have hkl2 : k < kp.length := by rw [Hkpl.out]; exact hkl
            have hkl3 : k < np.length := by rw [Hnpl.out]; exact hkl
            obtain ⟨bx, ox, hveq, hbx, E0, E1, E2⟩ := kid_at (sl_below Hsrc2.out hbr) hkl3
            injection hveq with hveq
            injection hveq with t1 t2 t3
            subst t1 t2
            have hnk := nodeP_of (nodeP_kept (R := fun b => W.heap.size ≤ b) (HnP.out k hkl3 hkl2) (grs_below hbr) (fun b hb h => by omega))
            obtain ⟨xk, hxk⟩ := Hheads.out k hkl2
            have HS1 : Hid ((kp.take (k + 1)).map keyT = (kp.take k).map keyT ++ [xk]) := by
              unfold Hid
              rw [List.take_succ_eq_append_getElem hkl2, List.map_append, List.map_cons, List.map_nil]
              unfold keyT
              rw [hxk]; rfl
            have HS2 : Hid (np.take (k + 1) = np.take k ++ [np[k]]) := by unfold Hid; rw [List.take_succ_eq_append_getElem hkl3]
            generalize kp[k] = kid at *
            generalize np[k] = n3 at *
            obtain ⟨v0', v1', v2'⟩ := n3
            obtain ⟨aK', aV', aX', nK', cK', nV', cV', nX', cX', bh, oh, rfl, rfl, rfl, hnK, rfl, hbh, kh⟩ := node_key hnk hxk
            dsimp only at E0 E1 E2 HS2
            have gk0 : (k : Int) < ((q - p : Nat) : Int) := by omega
            have gk1 : (0 : Int) ≤ (k : Int) := by omega
            have gh0 : (0 : Int) < (nK' : Int) := by omega
            have hbW : V.heap.size < wr.heap.size := by have := Hzv.out; omega
            have HndP := Lib.hid ((grs_alloc wr (.cells #[.slice (some ⟨bh, oh, none⟩) nK' cK', .slice aV' nV' cV', .slice aX' nX' cX'] 25) (fun _ => False)).nd3 Hnd.out id)
            have hGp : GrS wr (wr.alloc (.cells #[.slice (some ⟨bh, oh, none⟩) nK' cK', .slice aV' nV' cV', .slice aX' nX' cX'] 25)) (fun _ => False) := grs_alloc _ _ _
            have kh2 : (wr.alloc (.cells #[.slice (some ⟨bh, oh, none⟩) nK' cK', .slice aV' nV' cV', .slice aX' nX' cX'] 25)).cell? ⟨bh, oh, none⟩ = some (.int .i64 xk) := by rw [World.cell?_alloc_lt _ _ _ hbh]; exact kh
            have hKd := Nd3.new wr (.slice (some ⟨bh, oh, none⟩) nK' cK') (.slice aV' nV' cV') (.slice aX' nX' cX') 25
            obtain ⟨Wp, hWp⟩ : ∃ Wp, wr.alloc (.cells #[.slice (some ⟨bh, oh, none⟩) nK' cK', .slice aV' nV' cV', .slice aX' nX' cX'] 25) = Wp := ⟨_, rfl⟩
            have hzp : Wp.heap.size = wr.heap.size + 1 := by rw [← hWp]; simp
            rw [hWp] at hGp kh2 hKd HndP
            have hbhp : bh < Wp.heap.size := by omega
            have HKd := Lib.hid hKd
            have HGp := Lib.hid hGp
            have Hzp := Lib.hid hzp
            have Hkh2 := Lib.hid kh2
            clear hnk hxk hbr kh hKd hGp kh2 hzp
            gi_wp2
            refine regi_start (S := fun w' => GrS Wp w' (fun _ => False)) 7 (by kernel_rfl) 10 rfl (fun hcl => ?_)
            have hSd : GrS Wp Wp.drew (fun _ => False) := grs_drew _ _
            refine regi_take 0 8 (by kernel_rfl) rfl (by kernel_rfl) (by kernel_rfl) (by kernel_rfl) (by kernel_rfl) (fun _ _ _ h => h) (by rfl) (by intro w' hSw; clear hSw; go_simp; with_reducible rfl) (fun _ => rfl) hSd hcl (fun hcl => ?_)
            try simp only [Act.put, List.setIfInBounds_toArray, List.set_cons_zero, List.set_cons_succ]
            refine regi_take 1 8 (by kernel_rfl) rfl (by kernel_rfl) (by kernel_rfl) (by kernel_rfl) (by kernel_rfl) (fun _ _ _ h => h) (by rfl) (by intro w' hSw; have hn3 := hSw.nd3 HndP.out id; have k0 := hn3.c0; clear hSw hn3; go_simp; with_reducible rfl) (fun _ => rfl) hSd hcl (fun hcl => ?_)
            try simp only [Act.put, List.setIfInBounds_toArray, List.set_cons_zero, List.set_cons_succ]
            refine regi_take 2 8 (by kernel_rfl) rfl (by kernel_rfl) (by kernel_rfl) (by kernel_rfl) (by kernel_rfl) (fun _ _ _ h => h) (by rfl) (by intro w' hSw; clear hSw; go_simp; with_reducible rfl) (fun _ => rfl) hSd hcl (fun hcl => ?_)
            try simp only [Act.put, List.setIfInBounds_toArray, List.set_cons_zero, List.set_cons_succ]
            refine regi_take 3 8 (by kernel_rfl) rfl (by kernel_rfl) (by kernel_rfl) (by kernel_rfl) (by kernel_rfl) (fun _ _ _ h => h) (by rfl) (by intro w' hSw; have hn3 := hSw.nd3 HKd.out id; have k0 := hn3.c0; clear hSw hn3; go_simp; with_reducible rfl) (fun _ => rfl) hSd hcl (fun hcl => ?_)
            try simp only [Act.put, List.setIfInBounds_toArray, List.set_cons_zero, List.set_cons_succ]
            refine regi_take 4 8 (by kernel_rfl) rfl (by kernel_rfl) (by kernel_rfl) (by kernel_rfl) (by kernel_rfl) (fun _ _ _ h => h) (by rfl) (by intro w' hSw; clear hSw; go_simp; with_reducible rfl) (fun _ => rfl) hSd hcl (fun hcl => ?_)
            try simp only [Act.put, List.setIfInBounds_toArray, List.set_cons_zero, List.set_cons_succ]
            refine regi_take 5 8 (by kernel_rfl) rfl (by kernel_rfl) (by kernel_rfl) (by kernel_rfl) (by kernel_rfl) (fun _ _ _ h => h) (by rfl) (by intro w' hSw; have k0 := (hSw.cell (k := bh) (o := oh) hbhp id).trans Hkh2.out; clear hSw; go_simp; with_reducible rfl) (fun _ => rfl) hSd hcl (fun hcl => ?_)
            try simp only [Act.put, List.setIfInBounds_toArray, List.set_cons_zero, List.set_cons_succ]
            refine regi_keep 6 rfl (by kernel_rfl) hcl (fun K hK => ?_)
            go_simp
            have hSa : GrS Wp (Wp.drew.alloc (.cells #[.int .i64 xk] 3)) (fun _ => False) := hSd.trans (grs_alloc _ _ _)
            refine hK.out _ _ hSa (fun hcl => ?_)
            clear hK K
            try simp only [Act.put, List.setIfInBounds_toArray, List.set_cons_zero, List.set_cons_succ]
            refine regi_call 7 (by decide) rfl (by kernel_rfl) (fun K hK => ?_)
            have HX1 : Hid (GrS wr (Wp.drew.alloc (.cells #[.int .i64 xk] 3)) (fun _ => False)) := HGp.out.trans hSa
            have HK1' := Lib.hid (HX1.out.owns hmk.out.rk (fun _ _ h => h))
            have HnA := Lib.hid (cells_newE Wp.drew [.int .i64 xk] 3)
            have hbA : V1.heap.size ≤ (Wp.drew.alloc (.cells #[.int .i64 xk] 3)).heap.size := by have := HX1.out.size; omega
            refine stepIn_append_at (by rfl) _ _ 22 (by rfl) V1.heap.size 3 i3 _ 1 8 Try.underlying22 hi3 hz30 hz31 hz32 rfl (by decide) (.slice aK k cK) k _ (by rfl) HK1'.out ⟨Wp.heap.size, 0, none⟩ 1 1 [.int .i64 xk] (by rfl) rfl HnA.out (intE_ok.one xk) (by simp [maxLen]; omega) (by omega) hbA ?_
            intro vK w2 hown2 hg2 hat2
            obtain ⟨gK, cK2, rfl⟩ := ownsRow_succ hown2
            obtain ⟨hGr, hrx, hne2, hgr2⟩ := hmk.out.first HX1.out hown2 hg2 hat2
            have hnd2 := hGr.nd3 Hnd.out (fun e => by have := owns_block hmk.out.rk _ e.symm; have := Hzv.out; omega)
            have hG2 : GrS Wp w2 (fun b => some b = (Value.slice aK k cK).ownBlock) := (hSa.mono (fun _ _ h => h.elim)).trans (grs_grown hg2)
            have hkd2 := hG2.nd3 HKd.out (fun e => Nat.lt_irrefl _ (owns_lt hmk.out.rk _ e.symm))
            have r0 := hnd2.c0
            have r1 := hnd2.f0
            have r2 := hnd2.c2
            have r3 := hnd2.f2
            have j0 := hkd2.c0
            have j1 := hkd2.c1
            have j2 := hkd2.c2
            have hw2 : wr.heap.size < w2.heap.size := by have := hG2.size; have := Hzp.out; omega
            have hX2 : GrS w2 ((w2.setCell ⟨V.heap.size, 0, none⟩ (.slice (some ⟨gK, 0, none⟩) (k + 1) cK2)).alloc (.cells #[.slice (some ⟨bh, oh, none⟩) nK' cK', .slice aV' nV' cV', .slice aX' nX' cX'] 25)) (fun b => b = V.heap.size) := (grs_set _ _ _ _).trans (grs_alloc _ _ _)
            have HX2 := Lib.hid hX2
            have HV2 := Lib.hid (hX2.owns hrx (fun g hgv e => by have := owns_block hrx g hgv; have := Hzv.out; omega))
            have Hn2 : Hid (∀ j u, (nodeE (.slice (some ⟨bh, oh, none⟩) nK' cK', .slice aV' nV' cV', .slice aX' nX' cX'))[j]? = some u → ((w2.setCell ⟨V.heap.size, 0, none⟩ (.slice (some ⟨gK, 0, none⟩) (k + 1) cK2)).alloc (.cells #[.slice (some ⟨bh, oh, none⟩) nK' cK', .slice aV' nV' cV', .slice aX' nX' cX'] 25)).cell? ((⟨w2.heap.size, 0, none⟩ : Addr).add j) = some u) := by
              have := cells_newE (w2.setCell ⟨V.heap.size, 0, none⟩ (.slice (some ⟨gK, 0, none⟩) (k + 1) cK2)) (nodeE (.slice (some ⟨bh, oh, none⟩) nK' cK', .slice aV' nV' cV', .slice aX' nX' cX')) 25
              have e : (w2.setCell ⟨V.heap.size, 0, none⟩ (.slice (some ⟨gK, 0, none⟩) (k + 1) cK2)).heap.size = w2.heap.size := by simp [World.setCell]
              rw [e] at this
              exact this
            have hle8 : V1.heap.size ≤ ((w2.setCell ⟨V.heap.size, 0, none⟩ (.slice (some ⟨gK, 0, none⟩) (k + 1) cK2)).alloc (.cells #[.slice (some ⟨bh, oh, none⟩) nK' cK', .slice aV' nV' cV', .slice aX' nX' cX'] 25)).heap.size := by have := hX2.size; omega
            have Hnd2 := Lib.hid (hnd2.set0 (.slice (some ⟨gK, 0, none⟩) (k + 1) cK2))
            have Hown2 := Lib.hid hown2
            have Hrx := Lib.hid hrx
            have Hne2 := Lib.hid hne2
            have Hgr2 := Lib.hid hgr2
            have hbWne : wr.heap.size ≠ V.heap.size := by omega
            clear hown2 hg2 hat2 hGr hrx hne2 hgr2 hnd2 hX2 hG2 hkd2 hSa hSd HnA
            refine hK.out _ _ ?_
            clear hK K
            try simp only [Act.put, List.setIfInBounds_toArray, List.set_cons_zero, List.set_cons_succ]
            refine regi_call 8 (by decide) rfl (by kernel_rfl) (fun K hK => ?_)
            go_simp
            refine hK.out _ _ ?_
            clear hK K
            try simp only [Act.put, List.setIfInBounds_toArray, List.set_cons_zero, List.set_cons_succ]
            refine regi_call 9 (by decide) rfl (by kernel_rfl) (fun K hK => ?_)
            go_simp
            refine hK.out _ _ ?_
            clear hK K
            try simp only [Act.put, List.setIfInBounds_toArray, List.set_cons_zero, List.set_cons_succ]
            refine regi_done (by kernel_rfl) ?_ _
            gi_wp2_with (first
              | (gi_at_builtin; refine wpListIn_append_at rfl _ _ 23 rfl V1.heap.size 25 iN _ 3 72 Try.underlying23 hiN hzN0 hzN1 hzN2 rfl (by decide) (.slice aX k cX) k _ rfl HV2.out ⟨w2.heap.size, 0, none⟩ 1 1 (nodeE (.slice (some ⟨bh, oh, none⟩) nK' cK', .slice aV' nV' cV', .slice aX' nX' cX')) rfl rfl Hn2.out (by intro u hu; simp only [nodeE, List.mem_cons, List.not_mem_nil, or_false] at hu; rcases hu with rfl | rfl | rfl <;> rfl) (by simp [maxLen]; omega) (by omega) hle8 ?_
                 intro vV w3 hown3 hg3 hat3
                 obtain ⟨gV, cV2, rfl⟩ := ownsRow_succ hown3
                 obtain ⟨hG3, hrk3, hne3, hgr3⟩ := Mk.second Hown2.out Hrx.out Hne2.out Hgr2.out HX2.out (by have := Hzv.out; omega) hg3 hat3
                 have hnd3 : Nd3 w3 V.heap.size (.slice (some ⟨gK, 0, none⟩) (k + 1) cK2) (.slice none 0 0) (.slice aX k cX) := (grs_grown hg3).nd3 ((grs_alloc _ _ (fun _ => False)).nd3 Hnd2.out id) (fun e => by have := owns_block Hrx.out _ e.symm; have := Hzv.out; omega)
                 have s0 := hnd3.c2
                 have s1 := hnd3.f2
                 have Hnd3 := Lib.hid (hnd3.set2 (.slice (some ⟨gV, 0, none⟩) (k + 1) cV2))
                 have hst : GrS w3 (w3.setCell ⟨V.heap.size, 2, none⟩ (.slice (some ⟨gV, 0, none⟩) (k + 1) cV2)) (fun b => b = V.heap.size) := grs_set _ _ _ _
                 have Hmk : Hid (Mk V1 V.heap.size 25 3 (k + 1) (cellsE intE ((kp.take (k + 1)).map keyT)) (cellsE nodeE (np.take (k + 1))) (.slice (some ⟨gK, 0, none⟩) (k + 1) cK2) (.slice (some ⟨gV, 0, none⟩) (k + 1) cV2) (w3.setCell ⟨V.heap.size, 2, none⟩ (.slice (some ⟨gV, 0, none⟩) (k + 1) cV2))) := by
                   refine ⟨hst.owns (by rw [HS1.out, cellsE_append]; exact hrk3) (fun g hgv e => ?_), hst.owns (by rw [HS2.out, cellsE_append]; exact hown3) (fun g hgv e => ?_), Or.inr hne3, hgr3.trans hst⟩
                   · have := owns_block hrk3 g hgv; have := Hzv.out; omega
                   · have := owns_block hown3 g hgv; have := Hzv.out; omega
                 clear hown3 hg3 hat3 hG3 hrk3 hne3 hgr3 hnd3 hst))
            exact ⟨⟨k + 1, some ⟨gK, 0, none⟩, some ⟨gV, 0, none⟩, cK2, cV2, by go_num, by omega, Hnd3.out, Hmk.out⟩, by simp [intOf]; omega⟩
          · obtain rfl : k = q - p := by omega
            have hGW : GrS V wr (fun _ => False) := HGV.out.trans' hmk.out.gr (fun i hi e => by omega)
            have hinn : NodeP wr (fun b => some b ≠ va.ownBlock ∧ b ≠ W.heap.size ∧ b ≠ w.heap.size + 1 + 1 ∧ w.heap.size + 1 < b) (.slice aK (q - p) cK, .slice none 0 0, .slice aX (q - p) cX) (innT kp) := by
              have h1 := hmk.out.rk
              have h2 := hmk.out.rx
              have hge : ∀ b, V1.heap.size ≤ b → some b ≠ va.ownBlock ∧ b ≠ W.heap.size ∧ b ≠ w.heap.size + 1 + 1 ∧ w.heap.size + 1 < b := fun b hb => ⟨fun e => by have := owns_lt Hrowa.out b e.symm; have := Hzv.out; omega, by have := Hzv.out; omega, by have := Hzv.out; omega, by have := Hzv.out; omega⟩
              rw [List.take_of_length_le (by rw [Hkpl.out]; exact Nat.le_refl _)] at h1
              rw [List.take_of_length_le (by rw [Hnpl.out]; exact Nat.le_refl _)] at h2
              have hl9 : kp.length ≤ maxLen := by rw [Hkpl.out]; unfold maxLen; omega
              refine .mk np (slP_mono (slP_owns intE_ok h1) (fun b _ e => hge b (owns_block h1 b e))) ⟨none, 0, rfl, by simp, fun _ => rfl, Or.inl rfl⟩ (slP_mono (slP_ownsN h2).1 (fun b _ e => hge b (owns_block h2 b e))) (by simpa using hl9) (by unfold maxLen; simp) hl9 (by rw [Hnpl.out, Hkpl.out]) (fun i hi hj => ?_)
              exact nodeP_mono (nodeP_kept (R := fun b => W.heap.size ≤ b) (HnP.out i hi hj) (grs_below hbr) (fun b hb h => by omega)) (fun b _ hb => ⟨fun e => by have := owns_block Hrowa.out b e.symm; omega, by omega, hb.2.1, hb.2.2⟩)
            have HNode := Lib.hid hinn
            have HLV := Lib.hid (hGW.boxed Hva.out id)
            have HRL := Lib.hid (hGW.owns Hrowa.out (fun _ _ h => h))
            have HNS : Hid (∀ i (hi : i < nsa.length) (hj : i < (ups ts pre).length), NodeP wr (fun b => some b ≠ va.ownBlock ∧ b ≠ W.heap.size ∧ b ≠ w.heap.size + 1 + 1 ∧ w.heap.size + 1 < b) nsa[i] (ups ts pre)[i]) := fun i hi hj => nodeP_kept (Hnodesa.out i hi hj) hGW (fun _ _ h => h)
            have HGW := Lib.hid hGW
            have Hno2 : Hid (∀ (B : Nat) (u : Value), Boxed V B 3 u → B ≠ W.heap.size → ¬ (some B = va.ownBlock ∨ B = W.heap.size)) := fun B u hb hne h => h.elim (fun e => hb.not_row (by decide) Hrowa.out e) hne
            obtain ⟨aLv, cLv, rfl, _⟩ := owns_shape Hrowa.out
            have hlvl : (ups ts pre).length ≤ 1000000 := by unfold ups; rw [List.length_map]; unfold manyP at hlenp; omega
            have Hfin : Hid (∀ X : World, Lvl W.heap.size W.heap.size (fun b => b ≠ w.heap.size + 1 + 1 ∧ w.heap.size + 1 < b) (ups ts pre ++ [innT kp]) X ∧ GrS wr X (fun b => some b = (Value.slice aLv (ups ts pre).length cLv).ownBlock ∨ b = W.heap.size) → ownPostG w6'.heap.size (KpN W.heap.size (W.heap.size + 2) (W.heap.size + 1)) (fun pre V => (Lvl W.heap.size W.heap.size (fun b => b ≠ w.heap.size + 1 + 1 ∧ w.heap.size + 1 < b) (ups ts pre) V ∧ Boxed V (W.heap.size + 2) 3 (.int .i64 (manyP ts.length : Nat)) ∧ Boxed V (W.heap.size + 1) 3 (.int .i64 (ts.length : Nat))) ∧ Below W.heap.size W V) (fun _ _ _ => False) (pre ++ [⟨(p, q), hpq1, hpq2, hpq3⟩]) V .normal { tmps := #[], defers := [] } X) := by
              rintro X ⟨hL, hGX⟩
              have hG : GrS V X (fun b => some b = (Value.slice aLv (ups ts pre).length cLv).ownBlock ∨ b = W.heap.size) := (HGW.out.mono (fun _ _ h => h.elim)).trans hGX
              have hR : ∀ b, (some b = (Value.slice aLv (ups ts pre).length cLv).ownBlock ∨ b = W.heap.size) → W.heap.size ≤ b := fun b hR => by
                rcases hR with h | h
                · exact owns_block Hrowa.out b h.symm
                · omega
              refine ⟨(hG.others (fun b o hR ho => ?_)).from _, ⟨hG.below hVW hR, fun v hv => ?_, fun v hv => ?_⟩, ⟨⟨by rw [ups_snoc, ← Hkp.out]; exact hL, hG.boxed Hb2.out (Hno2.out _ _ Hb2.out (by omega)), hG.boxed Hb1.out (Hno2.out _ _ Hb1.out (by omega))⟩, HBV.out.trans (hG.below hVW hR)⟩⟩
              · rcases hR with h | h
                · rcases Hrowa.out.2 with ⟨h', _⟩ | ⟨g', _, _, hv', _, hc', _⟩
                  · rw [h'] at h; cases h
                  · rw [hv'] at h
                    simp only [Value.ownBlock, Option.some.injEq] at h
                    rw [h, hc'] at ho; cases ho; rfl
                · rw [h, show V.heap[W.heap.size]? = _ from Hva.out] at ho; cases ho; rfl
              · rw [hG.cell Hb2.out.lt (Hno2.out _ _ Hb2.out (by omega))]; exact hv
              · rw [hG.cell Hb1.out.lt (Hno2.out _ _ Hb1.out (by omega))]; exact hv
            clear hmk hGW hinn p0 p1 p2 z0 z1 z2 hbr
            gi_wp2
            refine regi_start (S := fun w' => GrS wr w' (fun _ => False)) 4 (by kernel_rfl) 8 rfl (fun hcl => ?_)
            have hSd : GrS wr wr.drew (fun _ => False) := grs_drew _ _
            refine regi_take 0 6 (by kernel_rfl) rfl (by kernel_rfl) (by kernel_rfl) (by kernel_rfl) (by kernel_rfl) (fun _ _ _ h => h) (by rfl) (by intro w' hSw; have hcl := (hSw.boxed HLV.out id).cell; clear hSw; go_simp; with_reducible rfl) (fun _ => rfl) hSd hcl (fun hcl => ?_)
            try simp only [Act.put, List.setIfInBounds_toArray, List.set_cons_zero, List.set_cons_succ]
            refine regi_take 1 6 (by kernel_rfl) rfl (by kernel_rfl) (by kernel_rfl) (by kernel_rfl) (by kernel_rfl) (fun _ _ _ h => h) (by rfl) (by intro w' hSw; have hn3 := hSw.nd3 Hnd.out id; have k0 := hn3.c0; have k1 := hn3.c1; have k2 := hn3.c2; clear hSw hn3; go_simp; with_reducible rfl) (fun _ => rfl) hSd hcl (fun hcl => ?_)
            try simp only [Act.put, List.setIfInBounds_toArray, List.set_cons_zero, List.set_cons_succ]
            refine regi_take 2 6 (by kernel_rfl) rfl (by kernel_rfl) (by kernel_rfl) (by kernel_rfl) (by kernel_rfl) (fun _ _ _ h => h) (by rfl) (by intro w' hSw; clear hSw; go_simp; with_reducible rfl) (fun _ => rfl) hSd hcl (fun hcl => ?_)
            try simp only [Act.put, List.setIfInBounds_toArray, List.set_cons_zero, List.set_cons_succ]
            refine regi_keep 3 rfl (by kernel_rfl) hcl (fun K hK => ?_)
            go_simp
            have hSa : GrS wr (wr.drew.alloc (.cells #[.slice none 0 0, .slice none 0 0, .slice none 0 0] 25)) (fun _ => False) := hSd.trans (grs_alloc _ _ _)
            refine hK.out _ _ hSa (fun hcl => ?_)
            clear hK K
            try simp only [Act.put, List.setIfInBounds_toArray, List.set_cons_zero, List.set_cons_succ]
            refine regi_call 4 (by decide) rfl (by kernel_rfl) (fun K hK => ?_)
            have HownA := Lib.hid (hSa.owns HRL.out (fun _ _ h => h))
            have HnA := Lib.hid (cells_newE wr.drew (nodeE nilN) 25)
            have hbA : W.heap.size ≤ (wr.drew.alloc (.cells #[.slice none 0 0, .slice none 0 0, .slice none 0 0] 25)).heap.size := by have := hSa.size; omega
            refine stepIn_append_at (by rfl) _ _ 23 (by rfl) (W.heap.size) 25 iN _ 3 72 Try.underlying23 hiN hzN0 hzN1 hzN2 rfl (by decide) (.slice aLv (ups ts pre).length cLv) (ups ts pre).length _ (by rfl) HownA.out ⟨wr.heap.size, 0, none⟩ 1 1 (nodeE nilN) (by rfl) rfl HnA.out (by intro u hu; simp only [nodeE, List.mem_cons, List.not_mem_nil, or_false] at hu; rcases hu with rfl | rfl | rfl <;> rfl) (by simp [maxLen]; omega) (by omega) hbA ?_
            intro vN w1 hown1 hg1 hat1
            obtain ⟨g, cap, rfl, hpush⟩ := pushed_mk HLV.out HRL.out Hnsa.out HNS.out HNode.out hSa hown1 hg1 hat1
            obtain ⟨nsw, hroww, hnsw, _⟩ := hpush.row
            have hpl := place_at hroww hnsw
            have q0 := (hpl 0 (by decide)).1
            have y0 := (hpl 0 (by decide)).2
            have q1 := (hpl 1 (by decide)).1
            have y1 := (hpl 1 (by decide)).2
            have q2 := (hpl 2 (by decide)).1
            have y2 := (hpl 2 (by decide)).2
            rw [Nat.add_zero] at q0 y0
            have qb := hpush.box.cell
            have yb := hpush.box.frozen
            have hgne := hpush.ne
            have hgne2 : W.heap.size ≠ g := fun e => hgne e.symm
            have Hpush := Lib.hid hpush
            clear hown1 hg1 hat1 hpush hroww hnsw hpl HownA HnA hSa hSd
            refine hK.out _ _ ?_
            clear hK K
            try simp only [Act.put, List.setIfInBounds_toArray, List.set_cons_zero, List.set_cons_succ]
            have gN0 : (0 : Int) ≤ ((ups ts pre).length : Int) := by omega
            have gN1 : ((ups ts pre).length : Int) < ((ups ts pre).length : Int) + 1 := by omega
            have gN2 : ((ups ts pre).length : Int) < (((ups ts pre).length + 1 : Nat) : Int) := by omega
            refine regi_two 5 7 (by decide) (by decide) rfl rfl (by kernel_rfl) (fun K hK => ?_) (fun K hK => ?_)
            · go_simp
              refine hK.out _ _ ?_
              clear hK K
              try simp only [Act.put, List.setIfInBounds_toArray, List.set_cons_zero, List.set_cons_succ]
              refine regi_two 6 7 (by decide) (by decide) rfl rfl (by kernel_rfl) (fun K hK => ?_) (fun K hK => ?_)
              · go_simp
                refine hK.out _ _ ?_
                clear hK K
                try simp only [Act.put, List.setIfInBounds_toArray, List.set_cons_zero, List.set_cons_succ]
                refine regi_call 7 (by decide) rfl (by kernel_rfl) (fun K hK => ?_)
                go_simp
                refine hK.out _ _ ?_
                clear hK K
                try simp only [Act.put, List.setIfInBounds_toArray, List.set_cons_zero, List.set_cons_succ]
                refine regi_done (by kernel_rfl) ?_ _
                gi_wp2
                exact Hfin.out _ ((pushed_done Hpush.out (k := (ups ts pre).length * 3) rfl).1)
              · go_simp
                refine hK.out _ _ ?_
                clear hK K
                try simp only [Act.put, List.setIfInBounds_toArray, List.set_cons_zero, List.set_cons_succ]
                refine regi_call 6 (by decide) rfl (by kernel_rfl) (fun K hK => ?_)
                go_simp
                refine hK.out _ _ ?_
                clear hK K
                try simp only [Act.put, List.setIfInBounds_toArray, List.set_cons_zero, List.set_cons_succ]
                refine regi_done (by kernel_rfl) ?_ _
                gi_wp2
                exact Hfin.out _ ((pushed_done Hpush.out (k := (ups ts pre).length * 3) rfl).2)
            · go_simp
              refine hK.out _ _ ?_
              clear hK K
              try simp only [Act.put, List.setIfInBounds_toArray, List.set_cons_zero, List.set_cons_succ]
              refine regi_call 5 (by decide) rfl (by kernel_rfl) (fun K hK => ?_)
              go_simp
              refine hK.out _ _ ?_
              clear hK K
              try simp only [Act.put, List.setIfInBounds_toArray, List.set_cons_zero, List.set_cons_succ]
              refine regi_call 6 (by decide) rfl (by kernel_rfl) (fun K hK => ?_)
              go_simp
              refine hK.out _ _ ?_
              clear hK K
              try simp only [Act.put, List.setIfInBounds_toArray, List.set_cons_zero, List.set_cons_succ]
              refine regi_done (by kernel_rfl) ?_ _
              gi_wp2
              exact Hfin.out _ ((pushed_done Hpush.out (k := (ups ts pre).length * 3) rfl).2)
      case done =>
        rintro D ys V hD rfl ⟨⟨hLa, hb2, hb1⟩, hBV⟩ hK
        rw [ups_all] at hLa
        obtain ⟨va, nsa, hva, hrowa, hnsa, hnodesa⟩ := hLa
        obtain ⟨aLv, cLv, rfl, _⟩ := owns_shape hrowa
        have hBlW := HvL.out.lt
        have hBlV : Boxed V (w.heap.size + 1 + 1) 23 (.slice (some ⟨gL, 0, none⟩) ts.length cV) := (hBV.block _ hBlW).trans HvL.out
        have hDV : D < V.heap.size := by
          rcases Nat.lt_or_ge D V.heap.size with h | h
          · exact h
          · rw [Array.getElem?_eq_none h] at hK; cases hK
        have hWV := hBV.size
        have hs : GrS V (V.setCell ⟨w.heap.size + 1 + 1, 0, none⟩ (.slice aLv (upT ts).length cLv)) (fun b => b = w.heap.size + 1 + 1) := grs_set _ _ _ _
        have hDW : W.heap.size < D := by have := Hz2.out; omega
        have hinv2 : Inv2 w l (upT ts) (D :: Ds) (d + 1) (V.setCell ⟨w.heap.size + 1 + 1, 0, none⟩ (.slice aLv (upT ts).length cLv)) := by
          have hold : ∀ E ∈ Ds, E < W.heap.size := fun E hE => by
            have h := (hinv.out.mks E hE).2
            rcases Nat.lt_or_ge E W.heap.size with h' | h'
            · exact h'
            · rw [Array.getElem?_eq_none h'] at h; cases h
          refine ⟨⟨.slice aLv (upT ts).length cLv, nsa, hBlV.set _, hs.owns (owns_base hrowa (by omega)) (fun g hg e => ?_), hnsa, fun i hi hj => ?_⟩, ?_, ?_, ?_, ?_, ⟨upT_ok hinv.out.ok.1 hlen hinv.out.ok.2, by omega⟩, (bldF_step hlen).symm.trans hinv.out.bld, ?_, ?_⟩
          · have := owns_block hrowa g hg; omega
          · exact nodeP_mono (nodeP_kept (hnodesa i hi hj) hs (fun b hb e => hb.2.2.1 e)) (fun b _ hb => ⟨hb.1, hb.2.2.1, hb.2.2.2⟩)
          · exact hs.nd3 ((grs_below hBV).nd3 hinv.out.nd (by omega)) (by omega)
          · exact (hinv.out.bl.trans (hBV.mono hinv.out.bl.size)).setCell (p := ⟨w.heap.size + 1 + 1, 0, none⟩) (by show w.heap.size ≤ w.heap.size + 1 + 1; omega) _
          · intro E hE
            rcases List.mem_cons.1 hE with rfl | hE
            · exact ⟨by omega, (hs.block E hDV (by omega)).trans hK⟩
            · have h1 := hinv.out.mks E hE
              have h2 := hold E hE
              exact ⟨h1.1, ((hs.block E (by omega) (by omega)).trans (hBV.block E h2)).trans h1.2⟩
          · exact List.nodup_cons.2 ⟨fun hE => by have := hold D hE; omega, hinv.out.nodup⟩
          · rw [upT_length]; have := manyP_half (n := ts.length) (by omega); omega
          · have := hs.size; omega
        have hlt9 : (upT ts).length < ts.length := by rw [upT_length]; have := manyP_half (n := ts.length) (by omega); omega
        have c9 := hva.cell
        have c3 := hBlV.cell
        have f3 := hBlV.frozen
        have Hinv2 := Lib.hid hinv2
        clear hva hrowa hnsa hnodesa hb1 hb2 hK hs hinv2 hBlV
        gi_wp2
        exact ⟨(upT ts).length, hlt9, upT ts, D :: Ds, d + 1, _, _, _, _, _, _, _, _, rfl, rfl, Hinv2.out⟩
    · have b1 : decide ((1 : Int) < (ts.length : Int)) = false := decide_eq_false (by omega)
      have b1n : decide (1 < ts.length) = false := decide_eq_false hlen
      have hcL := hvL.cell
      obtain ⟨aLv, cLv, rfl, hcv, _⟩ := owns_shape hrowL
      have Hi := Lib.hid hinv.out
      have hnd := hinv.out.nd
      have Hnd := Lib.hid hnd
      obtain ⟨hlt, p0, p1, p2, z0, z1, z2⟩ := hnd
      have hmk : Hid (∀ W', GrS W W' (fun b => b = w.heap.size + 1) → ∀ D ∈ Ds, W'.heap[D]? = some (.deferred (some []))) := fun W' hg D hD => by
        have h := hinv.out.mks D hD
        exact (hg.block D (by
          rcases Nat.lt_or_ge D W.heap.size with h' | h'
          · exact h'
          · rw [Array.getElem?_eq_none h'] at h; cases h.2) (by omega)).trans h.2
      have hfinal : ∀ (X : World) (a0 a1 a2 : Value) (tm : Array Value), GrS W X (fun b => b = w.heap.size + 1) → Nd3 X (w.heap.size + 1) a0 a1 a2 → NodeP X (fun b => w.heap.size + 1 < b) (a0, a1, a2) (bldT l) → tm.getD 2 undef = .pointer (some ⟨w.heap.size + 1, 0, none⟩) →
          LeavesInM Fence.wide 6 Try.prog Try.f30 tm (fun e w' => ∃ (a0 a1 a2 : Value), e = .returned (.agg #[a0, a1, a2]) ∧ NodeP w' (fun b => w.heap.size < b) (a0, a1, a2) (bldT l) ∧ Below w.heap.size w w') (marksD Ds) .returning X := by
        intro X a0 a1 a2 tm hg hn hnode htm
        refine leaves_marks Ds X (hmk.out X hg) Hi.out.nodup (fun W' hW' => ?_)
        have hnotD : ∀ D ∈ Ds, w.heap.size + 5 ≤ D := fun D hD => (Hi.out.mks D hD).1
        have hn' := hW'.nd3 hn (fun h => by have := hnotD _ h; omega)
        refine ⟨.agg #[a0, a1, a2], ?_, a0, a1, a2, rfl, ?_, ?_⟩
        · have q0 := hn'.c0
          have q1 := hn'.c1
          have q2 := hn'.c2
          rw [Array.getD_eq_getD_getElem?] at htm
          simp [results, Try.f30, go_sem, htm, q0, q1, q2]
        · refine nodeP_mono (nodeP_kept (nodeP_cells hnode) hW' (fun b hb hD => ?_)) (fun b _ hb => by have := hb.1; omega)
          obtain ⟨_, o, u, hc⟩ := hb
          have h := hmk.out X hg b hD
          unfold World.cell? at hc
          rw [h] at hc
          cases hc
        · refine Hi.out.bl.trans ((hg.below Hi.out.bl.size (fun b hb => by omega)).trans (hW'.below (by have := hg.size; have := Hi.out.sz; omega) (fun b hb => by have := hnotD b hb; omega)))
      have Hfinal := Lib.hid hfinal
      clear hfinal
      by_cases h0 : ts.length = 0
      · have b2 : ((ts.length : Int) == 0) = true := beq_iff_eq.2 (by omega)
        have hts0 := List.length_eq_zero_iff.1 h0
        have Hb : Hid (bldT l = .nd [] [] []) := by unfold Hid; rw [← hinv.out.bld, hts0]; rfl
        have hset := Hnd.out.set (.slice none 0 0) (.slice none 0 0) (.slice none 0 0)
        have Hset := Lib.hid hset
        clear hvL hrowL hns hnodes hset hinv hmk h0 hts0
        gi_wp2
        refine Hfinal.out _ _ _ _ _ (((grs_set _ _ _ _).trans (grs_set _ _ _ _)).trans (grs_set _ _ _ _)) Hset.out ?_ rfl
        rw [Hb.out]
        exact .mk [] ⟨none, 0, rfl, by simp, fun _ => rfl, Or.inl rfl⟩ ⟨none, 0, rfl, by simp, fun _ => rfl, Or.inl rfl⟩ ⟨none, 0, rfl, by simp, fun _ => rfl, Or.inl rfl⟩ (by simp) (by simp) (by simp) rfl (fun i hi => by simp at hi)
      · have h1 : ts.length = 1 := by omega
        have b2 : ((ts.length : Int) == 0) = false := beq_eq_false_iff_ne.2 (by omega)
        have g0 : (0 : Int) < (ts.length : Int) := by omega
        have hn0 : 0 < ns.length := by rw [hns]; omega
        have hnode := hnodes 0 hn0 (by omega)
        have Hb : Hid (bldT l = ts[0]'(by omega)) := by
          unfold Hid
          rw [← hinv.out.bld, bldF_end (by omega)]
          match ts, h1 with
          | [t], _ => rfl
        obtain ⟨t0, ht0⟩ : ∃ t0, t0 = ts[0]'(by omega) := ⟨_, rfl⟩
        rw [← ht0] at hnode Hb
        clear ht0
        obtain ⟨bx, ox, rfl, hbx, E0, E1, E2⟩ := kid_at (slP_of (slP_ownsN hrowL).1) hn0
        rw [Nat.zero_mul, Nat.add_zero] at E0 E1 E2
        generalize hn3 : ns[0]'hn0 = n3 at *
        clear hn3
        obtain ⟨v0', v1', v2'⟩ := n3
        obtain ⟨aK', aV', aX', nK', cK', nV', cV', nX', cX', rfl, rfl, rfl⟩ := node_shape (nodeP_of hnode)
        dsimp only at E0 E1 E2
        have hset := Hnd.out.set (.slice aK' nK' cK') (.slice aV' nV' cV') (.slice aX' nX' cX')
        have Hset := Lib.hid hset
        have Hnode := Lib.hid hnode
        clear hvL hrowL hns hnodes hset hinv hmk h0 h1 hnode
        gi_wp2
        refine Hfinal.out _ _ _ _ _ (((grs_set _ _ _ _).trans (grs_set _ _ _ _)).trans (grs_set _ _ _ _)) Hset.out ?_ rfl
        rw [Hb.out]
        exact nodeP_kept (nodeP_mono Hnode.out (fun b _ hb => hb.2.2)) (((grs_set _ _ _ _).trans (grs_set _ _ _ _)).trans (grs_set _ _ _ _)) (fun b hb e => by omega)
end Go.Proofs.Ytdlgpcjdaaeliaa
