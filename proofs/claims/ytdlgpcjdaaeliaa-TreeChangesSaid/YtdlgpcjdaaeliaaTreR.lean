/- The iterator over a tree's pairs. Conditions: numbers fit. -/
import Derived.Test.YtdlgpcjdaaeliaaTreO
import Derived.RangeFuncNested
import Derived.RangeFuncBound
import Derived.RangeFuncCalls
import Derived.RangeFuncLeaves
import Derived.RangeFuncBox
import Derived.Shelf.Abstract
import Derived.Shelf.RegionOpen
import Derived.OwnWalkIn
import Derived.TacticsInMore
import Derived.LoopNIn
import Derived.LoopIn
namespace Go.Proofs.Ytdlgpcjdaaeliaa
open Go.RowKit Go.Shelf
attribute [local go_sem] Oper.semAt_some

abbrev encP (x : Int × Int) : Array Value := #[.agg #[.int .i64 x.1, .int .i64 x.2]]

/-- What a round that goes on keeps: all below n₀, and each block that holds a node. -/
def KpE (n₀ : Nat) (W W' : World) : Prop := Below n₀ W W' ∧ ∀ (b : Nat) (c : Array Value) (z : Nat × Nat), W.heap[b]? = some (Obj.cells c 25 z) → W'.heap[b]? = some (Obj.cells c 25 z)
theorem kpE_t {n₀ : Nat} {A B C : World} (h : KpE n₀ A B) (k : KpE n₀ B C) : KpE n₀ A C := ⟨h.1.trans k.1, fun b c z hb => k.2 b c z (h.2 b c z hb)⟩
theorem kpE_refl (n₀ : Nat) (W : World) : KpE n₀ W W := ⟨Below.refl _ _, fun _ _ _ h => h⟩
theorem kpE_b {n₀ : Nat} {w : World} (hn : n₀ ≤ w.heap.size) (W : World) (l : Nat) (o o' : Obj) (hl : w.heap.size ≤ l) (h : W.heap[l]? = some o) (hc : o.isCells = false) (hw : o.isWalk = false) : KpE n₀ W (W.putObj l o') :=
  ⟨belowK_b hn W l o o' hl h hc hw, fun b c z hb => by
    have hne : l ≠ b := by rintro rfl; rw [hb] at h; cases h; cases hc
    exact ((grownBy_putObj' W l o').block b (by
      rcases Nat.lt_or_ge b W.heap.size with h | h
      · exact h
      · rw [Array.getElem?_eq_none h] at hb; cases hb) (by simpa using hne.symm)).trans hb⟩
theorem kpE_alloc {n₀ : Nat} {W : World} (hn : n₀ ≤ W.heap.size) (o : Obj) : KpE n₀ W (W.alloc o) :=
  ⟨(Below.refl _ _).alloc hn o, fun b c z hb => by
    have hlt : b < W.heap.size := by
      rcases Nat.lt_or_ge b W.heap.size with h | h
      · exact h
      · rw [Array.getElem?_eq_none h] at hb; cases hb
    exact ((World.grownBy_alloc W o none).block b hlt (by simp)).trans hb⟩
/-- A node's box, by its whole block. -/
abbrev NBox (W : World) (b : Nat) (v0 v1 v2 : Value) : Prop := W.heap[b]? = some (Obj.cells #[v0, v1, v2] 25 (0, 0))
theorem nbox_new (W : World) (v0 v1 v2 : Value) : NBox (W.alloc (.cells #[v0, v1, v2] 25)) W.heap.size v0 v1 v2 := World.alloc_heap_new W _
theorem nbox_cells {W : World} {b : Nat} {v0 v1 v2 : Value} (h : NBox W b v0 v1 v2) : W.cell? ⟨b, 0, none⟩ = some v0 ∧ W.cell? ⟨b, 1, none⟩ = some v1 ∧ W.cell? ⟨b, 2, none⟩ = some v2 := by
  refine ⟨?_, ?_, ?_⟩ <;> · unfold World.cell?; simp [h]
theorem nbox_kept {n₀ : Nat} {W W' : World} {b : Nat} {v0 v1 v2 : Value} (h : NBox W b v0 v1 v2) (k : KpE n₀ W W') : NBox W' b v0 v1 v2 := k.2 _ _ _ h

theorem yield_any {m : Nat} (m' : Nat) {P : Program} {l : Nat} {args : Array Value} {W : World} {R : Ending → World → Prop} (h : YieldAt Fence.wide m P l args W R) : YieldAt Fence.wide m' P l args W R := by
  obtain ⟨fn, tmps, assign, body, h1, h2, h3⟩ := h
  exact ⟨fn, tmps, assign, body, h1, h2, fun c cs _ => h3 c cs (room_wide _)⟩
theorem abides_alloc {β : Type} {B : Nat} {J : β → World → Prop} (h : AbidesFrom B J) {s : β} {W : World} (hs : J s W) (o : Obj) : J s (W.alloc o) :=
  h s W _ none hs (World.grownBy_alloc W o none) (fun _ e => by cases e)

/-- What the leaves of a tree must be, for the iterator not to fail. -/
theorem sized_zip {ks vs : List Int} {k : Nat} (hk : k < ks.length) (hv : k < vs.length) : (ks.zip vs).take (k + 1) = (ks.zip vs).take k ++ [(ks[k], vs[k])] := zip_take_succ hk hv

def EachR (J Jx : List (Int × Int) → World → Prop) (n₀ : Nat) (pre l : List (Int × Int)) (W : World) (e : Ending) (W' : World) : Prop :=
  (e = .returned (.bool true) ∧ J (pre ++ l) W' ∧ KpE n₀ W W') ∨ (e = .returned (.bool false) ∧ ∃ p, p <+: l ∧ Jx (pre ++ p) W')

set_option maxRecDepth 100000 in
set_option maxHeartbeats 4000000 in
theorem each_in {w : World} {n3 : N3} {t : Tr} (h : NodeV w n3 t) (l n₀ N B : Nat) (J Jx : List (Int × Int) → World → Prop) (hJ : AbidesFrom B J) (m : Nat)
    (hY : ∀ pre x W, J pre W → pre.length < N → YieldAt Fence.wide m Try.prog l (encP x) W fun e W' =>
      (e = .returned (.bool true) ∧ J (pre ++ [x]) W' ∧ KpE n₀ W W') ∨ (e = .returned (.bool false) ∧ Jx (pre ++ [x]) W')) (hw0 : w.heap.size ≤ n₀) :
    ∀ (low n : Nat) (pre : List (Int × Int)) (W : World), 1 ≤ n → sizedT t low = true → Below w.heap.size w W → n₀ ≤ W.heap.size → pre.length + (pairsT t).length ≤ N → J pre W →
    CallsIn Fence.wide n Try.prog 34 #[.agg #[n3.1, n3.2.1, n3.2.2], .func (.yield l) #[] #[]] W (EachR J Jx n₀ pre (pairsT t) W) := by
  induction h with
  | mk ns hk hv hx lk lv lx hl hn ih =>
    rename_i kv vv xv ks vs kids
    intro low n pre W hn1 hs hb hn0 hN hJ0
    obtain ⟨aK, cK, rfl⟩ := sl_shape hk
    obtain ⟨aV, cV, rfl⟩ := sl_shape hv
    obtain ⟨aX, cX, rfl⟩ := sl_shape hx
    dsimp only
    have hNB := nbox_new W (.slice aK ks.length cK) (.slice aV vs.length cV) (.slice aX ns.length cX)
    have hKp := kpE_alloc hn0 (.cells #[.slice aK ks.length cK, .slice aV vs.length cV, .slice aX ns.length cX] 25)
    have hJ1 := abides_alloc hJ hJ0 (.cells #[.slice aK ks.length cK, .slice aV vs.length cV, .slice aX ns.length cX] 25)
    obtain ⟨W1, hW, e0, e1, e2, hs1, hb0⟩ := boxed3 W (.slice aK ks.length cK) (.slice aV vs.length cV) (.slice aX ns.length cX) 25
    rw [hW] at hNB hKp hJ1
    have HNB := Lib.hid hNB
    have HKp := Lib.hid hKp
    have HX := Lib.hid hx
    have HK := Lib.hid hk
    have HV := Lib.hid hv
    have Hb1 : Hid (Below w.heap.size w W1) := hb.trans (hb0.mono hb.size)
    have IH := Lib.hid ih
    have HNd := Lib.hid hn
    have Hl := Lib.hid hl
    have hnl : ns.length ≤ 9223372036854775807 := by unfold maxLen at lx; omega
    have hkl : ks.length ≤ 9223372036854775807 := by unfold maxLen at lk; omega
    have hn01 : n₀ ≤ W1.heap.size := Nat.le_trans hn0 (Nat.le_of_lt hs1)
    have HN := Lib.hid hN
    have HJ := Lib.hid hJ
    have HY := Lib.hid hY
    have HJ1 := Lib.hid hJ1
    clear hk hv hx lk lv lx ih hl hn hb hb0 hNB hKp hJ1 hJ0 hN hJ hY
    refine callsIn_of_wp Try.func34 rfl trivial ?_ rfl
    simp only [Try.ntmps34, List.size_toArray, List.length_cons, List.length_nil, Nat.reduceAdd, Nat.reduceSub, Array.replicate_succ, Array.replicate_zero, List.push_toArray, List.append_toArray, List.nil_append, List.cons_append]
    by_cases hz : ns.length = 0
    · have b1 : ((ns.length : Int) == 0) = true := beq_iff_eq.2 (by omega)
      obtain ⟨hvk, hpr, _⟩ := sized_leaf hs (by have := Hl.out; omega)
      have Hpr := Lib.hid hpr
      have Hvk := Lib.hid hvk
      clear hz hpr hvk hs
      gi_wp2
      gi_loopw [16] (fun i wr => ∃ k : Nat, i = .int .i64 k ∧ k ≤ ks.length ∧ Hid (J (pre ++ (ks.zip vs).take k) wr) ∧ Hid (KpE n₀ W1 wr)) (fun i _ => ks.length - (intOf i).toNat)
      case atStart => exact ⟨0, rfl, Nat.zero_le _, by unfold Hid; rw [List.take_zero, List.append_nil]; exact HJ1.out, kpE_refl _ _⟩
      case round =>
        obtain ⟨k, rfl, hk, hJr, hKr⟩ := hrel
        have hbb : Below w.heap.size w wr := Hb1.out.trans (hKr.out.1.mono hw0)
        obtain ⟨f0, f1, f2⟩ := nbox_cells (nbox_kept HNB.out hKr.out)
        clear e0 e1 e2
        by_cases hlt : k < ks.length
        · have hk2 : k < vs.length := by rw [Hvk.out]; exact hlt
          have g0 : (k : Int) < (ks.length : Int) := by omega
          have g1 : (k : Int) < (vs.length : Int) := by omega
          have g2 : (0 : Int) ≤ (k : Int) := by omega
          obtain ⟨bk, ok, hveq, hbk, kc⟩ := int_at (sl_below HK.out hbb) hlt
          subst hveq
          obtain ⟨bv, ov, hveq, hbv, vc⟩ := int_at (sl_below HV.out hbb) hk2
          subst hveq
          have Hz := Lib.hid (zip_take_succ hlt hk2)
          have hlen : (pre ++ (ks.zip vs).take k).length < N := by
            have h := HN.out
            have hvk := Hvk.out
            rw [Hpr.out, List.length_zip] at h
            rw [List.length_append, List.length_take, List.length_zip]
            omega
          have Hpx : Hid (∀ x y, ks[k] = x → vs[k] = y → (pre ++ (ks.zip vs).take k) ++ [(x, y)] = pre ++ (ks.zip vs).take (k + 1)) := fun x y hx hy => by
            rw [Hz.out, hx, hy, List.append_assoc]
          have HPX := Lib.hid (Hpx.out _ _ rfl rfl)
          have Hpfx : Hid ((ks.zip vs).take (k + 1) <+: pairsT (.nd ks vs kids)) := by unfold Hid; rw [Hpr.out]; exact List.take_prefix _ _
          clear hbb Hz Hpx
          generalize ks[k] = x at *
          generalize vs[k] = y at *
          obtain ⟨fn, tmps, assign, body, hy, hR⟩ := yield_any (n - 1) (HY.out _ (x, y) wr hJr.out hlen)
          dsimp only [encP] at hy
          clear hlen
          gi_wp2
          refine hR.mono ?_
          rintro e W3 (⟨rfl, hJ3, hk3⟩ | ⟨rfl, hJx3⟩)
          · have HJ3 : Hid (J (pre ++ (ks.zip vs).take (k + 1)) W3) := by unfold Hid; rw [← HPX.out]; exact hJ3
            have HK3 := Lib.hid (kpE_t hKr.out hk3)
            clear hJ3 hk3 hR hy
            gi_wp2
            exact ⟨⟨k + 1, by go_num, by omega, HJ3.out, HK3.out⟩, by simp [intOf]; omega⟩
          · have HJx3 : Hid (Jx (pre ++ (ks.zip vs).take (k + 1)) W3) := by unfold Hid; rw [← HPX.out]; exact hJx3
            clear hJx3 hR hy
            gi_wp2
            go_ret
            exact Or.inr ⟨rfl, _, Hpfx.out, HJx3.out⟩
        · obtain rfl : k = ks.length := by omega
          have HJ3 : Hid (J (pre ++ pairsT (.nd ks vs kids)) wr) := by
            have h := hJr.out
            have hvk := Hvk.out
            rw [List.take_of_length_le (by rw [List.length_zip]; omega)] at h
            unfold Hid
            rw [Hpr.out]; exact h
          clear hJr hbb
          gi_wp2
          go_ret
          exact Or.inl ⟨rfl, HJ3.out, kpE_t HKp.out hKr.out⟩
    · have b1 : ((ns.length : Int) == 0) = false := beq_eq_false_iff_ne.2 (by omega)
      obtain ⟨_, hsl, _⟩ := sized_inner hs (by have := Hl.out; omega)
      have Hpr : Hid (pairsT (.nd ks vs kids) = pairsL kids) := by unfold Hid; rw [pairsT, if_neg (by have := Hl.out; omega)]
      have Hsl := Lib.hid hsl
      clear hz hsl hs
      gi_wp2
      gi_loopw [35] (fun i wr => ∃ k : Nat, i = .int .i64 k ∧ k ≤ ns.length ∧ Hid (J (pre ++ pairsL (kids.take k)) wr) ∧ Hid (KpE n₀ W1 wr)) (fun i _ => ns.length - (intOf i).toNat)
      case atStart => exact ⟨0, rfl, Nat.zero_le _, by unfold Hid; rw [List.take_zero, pairsL, List.append_nil]; exact HJ1.out, kpE_refl _ _⟩
      case round =>
        obtain ⟨k, rfl, hk, hJr, hKr⟩ := hrel
        have hbb : Below w.heap.size w wr := Hb1.out.trans (hKr.out.1.mono hw0)
        clear e0 e1 e2
        by_cases hlt : k < ns.length
        · have hkk : k < kids.length := by have := Hl.out; omega
          have g0 : (k : Int) < (ns.length : Int) := by omega
          have g2 : (0 : Int) ≤ (k : Int) := by omega
          obtain ⟨bx, off, hveq, hblt, q0, q1, q2⟩ := kid_at (sl_below HX.out hbb) hlt
          subst hveq
          have hnr : n₀ ≤ wr.heap.size := Nat.le_trans hn01 hKr.out.1.size
          have HPT := Lib.hid (pairsL_take kids k hkk)
          have hlen : (pre ++ pairsL (kids.take k)).length + (pairsT kids[k]).length ≤ N := by
            have h := HN.out
            rw [Hpr.out] at h
            have h2 := pairsL_take_le kids (k + 1)
            rw [HPT.out, List.length_append] at h2
            rw [List.length_append]; omega
          have Hpfx : Hid (pairsL (kids.take k) ++ pairsT kids[k] <+: pairsT (.nd ks vs kids)) := by
            unfold Hid
            rw [Hpr.out, ← HPT.out]
            exact ⟨pairsL (kids.drop (k + 1)), by rw [← pairsL_append, List.take_append_drop]⟩
          have hcall := fun W2 h1 h2 h3 => callsIn_wide (n := n - 1) |>.2 (callsIn_wide.1 (IH.out k hlt hkk 2 1 (pre ++ pairsL (kids.take k)) W2 (Nat.le_refl _) (sizedL_get Hsl.out k hkk).1 h1 h2 hlen h3))
          have Hcall := Lib.hid hcall
          clear hlen hcall
          have hnode := HNd.out k hlt hkk
          generalize hkid : kids[k] = kid at *
          clear hkid
          generalize hnid : ns[k] = n3 at *
          clear hnid
          obtain ⟨v0, v1, v2⟩ := n3
          obtain ⟨aK', aV', aX', nK', cK', nV', cV', nX', cX', rfl, rfl, rfl⟩ := node_shape hnode
          dsimp only at q0 q1 q2 Hcall
          have hKp2 := kpE_alloc hnr (.cells #[.slice aK' nK' cK', .slice aV' nV' cV', .slice aX' nX' cX'] 25)
          have hJ2 := abides_alloc HJ.out hJr.out (.cells #[.slice aK' nK' cK', .slice aV' nV' cV', .slice aX' nX' cX'] 25)
          obtain ⟨W2, hW2, t0, t1, t2, hs2, hb2⟩ := boxed3 wr (.slice aK' nK' cK') (.slice aV' nV' cV') (.slice aX' nX' cX') 25
          rw [hW2] at hKp2 hJ2
          have hc2 := Hcall.out W2 (hbb.trans (hb2.mono hbb.size)) (Nat.le_trans hnr (Nat.le_of_lt hs2)) hJ2
          have HKp2 := Lib.hid (kpE_t hKr.out hKp2)
          clear hKp2 hJ2 hnode Hcall hb2 hbb hnr hs2
          gi_wp2
          refine ⟨trivial, hc2.mono ?_⟩
          rintro e W3 (⟨rfl, hJ3, hk3⟩ | ⟨rfl, p, hp, hJx3⟩)
          · have HJ3 : Hid (J (pre ++ pairsL (kids.take (k + 1))) W3) := by unfold Hid; rw [HPT.out, ← List.append_assoc]; exact hJ3
            have HK3 := Lib.hid (kpE_t HKp2.out hk3)
            clear hJ3 hk3 hc2
            gi_wp2
            exact ⟨⟨k + 1, by go_num, by omega, HJ3.out, HK3.out⟩, by simp [intOf]; omega⟩
          · have HJx3 : Hid (∃ p, p <+: pairsT (.nd ks vs kids) ∧ Jx (pre ++ p) W3) :=
              ⟨pairsL (kids.take k) ++ p, ((List.prefix_append_right_inj _).2 hp).trans Hpfx.out, by rw [← List.append_assoc]; exact hJx3⟩
            clear hJx3 hc2 hp
            gi_wp2
            go_ret
            exact Or.inr ⟨rfl, HJx3.out⟩
        · obtain rfl : k = ns.length := by omega
          have HJ3 : Hid (J (pre ++ pairsT (.nd ks vs kids)) wr) := by
            have h := hJr.out
            rw [List.take_of_length_le (by have := Hl.out; omega)] at h
            unfold Hid
            rw [Hpr.out]; exact h
          clear hJr hbb
          gi_wp2
          go_ret
          exact Or.inl ⟨rfl, HJ3.out, kpE_t HKp.out hKr.out⟩
end Go.Proofs.Ytdlgpcjdaaeliaa
