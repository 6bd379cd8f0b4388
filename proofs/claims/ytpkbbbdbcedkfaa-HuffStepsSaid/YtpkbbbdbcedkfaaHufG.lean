/- The contract of depths. Conditions: numbers fit. -/
import Derived.Test.YtpkbbbdbcedkfaaHufF
import Derived.Laws.MakeOwn
namespace Go.Proofs.Ytpkbbbdbcedkfaa
open Go.RowKit

theorem height_lt (t : HT) : height t + 1 ≤ (syms t).length := by
  induction t with
  | leaf w n => simp [height, syms]
  | node l r ihl ihr => rw [height, syms, List.length_append]; omega
/-- All the weight. -/
def wtSum (F : List HT) : Int := (F.map wt).sum
theorem wtSum_cons (t : HT) (F : List HT) : wtSum (t :: F) = wt t + wtSum F := by simp [wtSum]
theorem wtSum_perm {F G : List HT} (h : F.Perm G) : wtSum F = wtSum G := by
  induction h with
  | nil => rfl
  | cons x _ ih => rw [wtSum_cons, wtSum_cons, ih]
  | swap x y l => rw [wtSum_cons, wtSum_cons, wtSum_cons, wtSum_cons]; omega
  | trans _ _ ih1 ih2 => exact ih1.trans ih2
theorem owns_none (w : World) (e size : Nat) : (w.alloc (.cells #[] e)).ownsRow w.heap.size e size (.slice (some ⟨w.heap.size, 0, none⟩) 0 0) 0 [] :=
  ⟨by simp, Or.inr ⟨w.heap.size, 0, #[], rfl, Nat.le_refl _, heap_alloc_new w _, Nat.le_refl _, by simp [maxLen], by simp, by simp⟩⟩
def Pos (F : List HT) : Prop := ∀ t ∈ F, 0 < wt t
theorem pos_perm {F G : List HT} (h : F.Perm G) (hp : Pos F) : Pos G := fun t ht => hp t (h.mem_iff.2 ht)
theorem wtSum_nonneg {F : List HT} (h : Pos F) : 0 ≤ wtSum F := by
  induction F with
  | nil => exact Int.le_refl _
  | cons t F ih =>
    have := h t (List.mem_cons_self ..)
    have := ih fun x hx => h x (List.mem_cons_of_mem _ hx)
    rw [wtSum_cons]; omega
theorem apart_wt {F : List HT} (h : Pos F) {t : HT} (ht : t ∈ F) : wt t ≤ wtSum F := by
  induction F with
  | nil => cases ht
  | cons x F ih =>
    have hx := h x (List.mem_cons_self ..)
    have hF : Pos F := fun y hy => h y (List.mem_cons_of_mem _ hy)
    have := wtSum_nonneg hF
    rw [wtSum_cons]
    rcases List.mem_cons.1 ht with rfl | ht
    · omega
    · have := ih hF ht; omega
theorem initT_pos (f : List Int) : Pos (initT f) := fun t ht => by
  obtain ⟨i, _, h, rfl⟩ := initT_mem.1 ht
  exact h
theorem initTo_sum (f : List Int) {m : Int} (hm : 0 ≤ m) (hf : ∀ x ∈ f, x ≤ m) : ∀ k, k ≤ f.length → wtSum (initTo f k) ≤ m * k := by
  intro k
  induction k with
  | zero => intro _; rw [initTo_zero]; simp [wtSum]
  | succ k ih =>
    intro hk
    have hlt : k < f.length := by omega
    have h1 := ih (by omega)
    have e : m * ((k + 1 : Nat) : Int) = m * k + m := by rw [show ((k + 1 : Nat) : Int) = (k : Int) + 1 by omega, Int.mul_add, Int.mul_one]
    by_cases h : 0 < f[k]
    · have h2 := hf f[k] (List.getElem_mem hlt)
      rw [initTo_yes hlt h, e]
      have : wtSum (initTo f k ++ [.leaf f[k] k]) = wtSum (initTo f k) + f[k] := by simp [wtSum, wt, List.sum_append]
      rw [this]; omega
    · rw [initTo_no hlt h, e]; omega

theorem kp_alloc {B : Nat} {w : World} (hB : B ≤ w.heap.size) (o : Obj) : Kp B w (w.alloc o) := (Kp.refl B w).alloc hB o
theorem fs_lt {B F : Nat} {w : World} {A : List HT} (h : ForS B F w A) : F < w.heap.size := by
  obtain ⟨v, ps, _, hF, _⟩ := h
  rcases Nat.lt_or_ge F w.heap.size with q | q
  · exact q
  · rw [Array.getElem?_eq_none q] at hF; cases hF
theorem fs_alloc {B F : Nat} {w : World} {A : List HT} (h : ForS B F w A) (o : Obj) : ForS B F (w.alloc o) A := by
  have hlt := fs_lt h
  obtain ⟨v, ps, hB, hF, hr⟩ := h
  refine ⟨v, ps, hB, by rw [Below.heap_alloc _ _ _ hlt]; exact hF, row_kp hr (kp_alloc (by omega) o) fun g hg => Below.heap_alloc _ _ _ (hr.1.lt g hg).2⟩
theorem rep_alloc {w : World} {p : Nat} {t : HT} (h : Rep w p t) (o : Obj) : Rep (w.alloc o) p t := rep_kp (kp_alloc (Nat.zero_le _) o) h
/-- A block that has just been laid holds a symbol; two trees. -/
theorem rep_leaf (w : World) (x : Int) (n : Nat) : Rep (w.alloc (.cells #[.int .i64 x, .int .i64 n, .pointer none, .pointer none] 39)) w.heap.size (.leaf x n) := heap_alloc_new w _
theorem rep_node {w : World} {p q : Nat} {a b : HT} (hp : Rep w p a) (hq : Rep w q b) : Rep (w.alloc (.cells #[.int .i64 (wt a + wt b), .int .i64 (min (nm a) (nm b) : Nat), ptrV p, ptrV q] 39)) w.heap.size (.node a b) :=
  ⟨p, q, heap_alloc_new w _, rep_alloc hp _, rep_alloc hq _⟩
theorem wtSum_node (a b : HT) (R : List HT) : wtSum (.node a b :: R) = wtSum (a :: b :: R) := by
  rw [wtSum_cons, wtSum_cons, wtSum_cons, wt]; omega
theorem rep_lt {w : World} {p : Nat} {t : HT} (h : Rep w p t) : p < w.heap.size := by
  rcases Nat.lt_or_ge p w.heap.size with q | q
  · exact q
  · cases t with
    | leaf x n => have h : w.heap[p]? = _ := h; rw [Array.getElem?_eq_none q] at h; cases h
    | node l r => obtain ⟨_, _, h, _⟩ := h; rw [Array.getElem?_eq_none q] at h; cases h
theorem heads {w : World} {p q : Nat} {a b : HT} (h : Rep w p a) (k : Rep w q b) : w.cell? ⟨p, 0, none⟩ = some (.int .i64 (wt a)) ∧ w.cell? ⟨p, 1, none⟩ = some (.int .i64 (nm a)) ∧ w.cell? ⟨q, 0, none⟩ = some (.int .i64 (wt b)) ∧ w.cell? ⟨q, 1, none⟩ = some (.int .i64 (nm b)) :=
  ⟨(rep_head h).1, (rep_head h).2, (rep_head k).1, (rep_head k).2⟩
theorem fs_drew {B F : Nat} {w : World} {A : List HT} (h : ForS B F w A) : ForS B F w.drew A := fs_drewN h 1
theorem rep_drew {w : World} {p : Nat} {t : HT} (h : Rep w p t) : Rep w.drew p t := rep_kp ((Kp.refl 0 w).drewN 1) h
theorem held_alloc {W a : World} {o : Obj} (h : Held W a) : Held W (a.alloc o) := held_of (h.2.alloc h.2.size o)
theorem lens_kp {B B' : Nat} {w w' : World} {v : Value} {L : List Int} (h : Lens B w v L) (hk : Kp B' w w') : Lens B w' v L := by
  obtain ⟨hl, h⟩ := h
  refine ⟨hl, ?_⟩
  rcases h with h | ⟨g, cap, cur, rfl, hg, hc, rest⟩
  · exact Or.inl h
  · exact Or.inr ⟨g, cap, cur, rfl, hg, (hk.keep g _ _ hc (by decide) (by decide)).trans hc, rest⟩
theorem info_int : (Try.prog.info? 3).map (fun i => (i.zero, i.size, i.bytes)) = some (some (.int .i64 0), 1, 8) := by kernel_rfl
theorem made_zero (n : Nat) : (madeCells #[Value.int .i64 0] n).toList = (List.replicate n (0 : Int)).map (Value.int .i64) := by
  apply List.ext_getElem
  · simp [madeCells]
  · intro i h1 h2
    simp [madeCells, Nat.mod_one]
/-- How many trees a forest's slice has. -/
def lenOf : Option Value → Nat
  | some (.slice _ n _) => n
  | _ => 0
theorem fs_len {B F : Nat} {w : World} {A : List HT} (h : ForS B F w A) : lenOf (w.cell? ⟨F, 0, none⟩) = A.length := by
  obtain ⟨v, ps, _, hF, hr⟩ := h
  obtain ⟨a, c, rfl, _⟩ := owns_shape hr.1
  rw [fs_cell hF]; rfl
/-- The forest's slice, and its cell. -/
theorem fs_slice {B F : Nat} {w : World} {A : List HT} (h : ForS B F w A) : ∃ a c, w.cell? ⟨F, 0, none⟩ = some (.slice a A.length c) := by
  obtain ⟨v, ps, _, hF, hr⟩ := h
  obtain ⟨a, c, rfl, _⟩ := owns_shape hr.1
  exact ⟨a, c, fs_cell hF⟩
/-- The first tree. -/
theorem fs_first {B F : Nat} {w : World} {A : List HT} (h : ForS B F w A) (hp : 0 < A.length) : ∃ g c p, w.cell? ⟨F, 0, none⟩ = some (.slice (some ⟨g, 0, none⟩) A.length c) ∧ w.cell? ⟨g, 0, none⟩ = some (ptrV p) ∧ Rep w p A[0] := by
  obtain ⟨v, ps, _, hF, hr⟩ := h
  obtain ⟨g, cap, rfl, _, _, hc⟩ := row_cells hr hp
  obtain ⟨hi, c0, _, r0⟩ := hc 0 hp
  exact ⟨g, cap, _, fs_cell hF, c0, r0⟩

/-- What follows under a name: a region at the end of a round is then left by one way. -/
theorem wp_abs {P : Program} {c : Code} {Q : Exit → Act → World → Prop} {a : Act} {w : World} (h : ∀ Q', Hid (Q' = Q) → c.wp P Q' a w) : c.wp P Q a w := h Q rfl

set_option maxRecDepth 100000 in
set_option maxHeartbeats 8000000 in
theorem depths_any (v : Value) (f : List Int) (w : World) (hv : SlOf w v 1 (fun x => [.int .i64 x]) f) (hl : f.length ≤ 1000) (hf : ∀ x ∈ f, x ≤ 1000000) :
    Calls Try.prog 18 #[v] w fun e w' => ∃ v' L, e = .returned v' ∧ Lens w.heap.size w' v' L ∧ OnceR f L ∧ Below w.heap.size w w' := by
  obtain ⟨i0, hi, hz0, hz1, hz2⟩ := info_parts info_int
  have HV := Lib.hid hv
  obtain ⟨aX, cX, rfl, hcX, hnX, hcellX⟩ := hv
  clear hcellX hnX
  go_enter Try.func18, Try.ntmps18
  go_wp2_with (first
    | (at_make; refine wpList_make_full _ rfl _ _ 22 rfl w.heap.size 3 i0 (.int .i64 0) 1 Try.underlying22 hi hz0 hz1 .i64 .i64 _ _ f.length rfl rfl rfl rfl (by rw [hz2]; omega) (by simp [maxLen]; omega) (Nat.le_refl _) ?_
       intro w1 hown1 hg1
       have hb1 := (Below.refl w.heap.size w).grown hg1 (Nat.le_refl _) (fun k hk => by cases hk)
       have hs1 : w.heap.size < w1.heap.size := owns_lt hown1 _ rfl
       have Hown1 : Hid (Lens w.heap.size w1 (.slice (some ⟨w.heap.size, 0, none⟩) f.length f.length) (List.replicate f.length 0)) := by
         unfold Hid Lens
         rw [List.length_replicate, ← made_zero]
         rw [Nat.mul_one] at hown1
         exact hown1
       have Hb1 := Lib.hid hb1
       clear hown1 hg1 hb1)
    | fail)
  have hFS0 : ForS w.heap.size (w1.heap.size + 1) ((w1.alloc (.cells #[] 36)).alloc (.cells #[.slice (some ⟨w1.heap.size, 0, none⟩) 0 0] 34)) [] := by
    refine ⟨.slice (some ⟨w1.heap.size, 0, none⟩) 0 0, [], by omega, ?_, ?_⟩
    · have h := heap_alloc_new (w1.alloc (.cells #[] 36)) (.cells #[.slice (some ⟨w1.heap.size, 0, none⟩) 0 0] 34)
      have e : (w1.alloc (.cells #[] 36)).heap.size = w1.heap.size + 1 := by simp
      rw [e] at h
      exact h
    · exact ⟨owns_base ((owns_none w1 36 1).alloc _) (by omega), rfl, fun i h => by simp at h⟩
  have hL0 : Lens w.heap.size ((w1.alloc (.cells #[] 36)).alloc (.cells #[.slice (some ⟨w1.heap.size, 0, none⟩) 0 0] 34)) (.slice (some ⟨w.heap.size, 0, none⟩) f.length f.length) (List.replicate f.length 0) := (Hown1.out.alloc _).alloc _
  have hB2 : Below w.heap.size w ((w1.alloc (.cells #[] 36)).alloc (.cells #[.slice (some ⟨w1.heap.size, 0, none⟩) 0 0] 34)) := (Hb1.out.alloc (by omega) _).alloc (by simp; omega) _
  have hsz2 : w.heap.size ≤ ((w1.alloc (.cells #[] 36)).alloc (.cells #[.slice (some ⟨w1.heap.size, 0, none⟩) 0 0] 34)).heap.size := by simp; omega
  have HFS0 := Lib.hid hFS0
  have HL0 := Lib.hid hL0
  have HB2 := Lib.hid hB2
  clear hFS0 hL0 hB2 Hown1 Hb1
  generalize (w1.alloc (.cells #[] 36)).alloc (.cells #[.slice (some ⟨w1.heap.size, 0, none⟩) 0 0] 34) = w2 at *
  obtain ⟨F, hF⟩ : ∃ F, F = w1.heap.size + 1 := ⟨_, rfl⟩
  rw [← hF] at HFS0 ⊢
  have hFB : w.heap.size ≤ F := by omega
  clear hF hs1
  have hsum := initTo_sum f (m := 1000000) (by omega) hf f.length (Nat.le_refl _)
  go_loopw [16] (fun i wr => ∃ (k : Nat) (A : List HT), i = .int .i64 k ∧ k ≤ f.length ∧ ForS w.heap.size F wr A ∧ A.Perm (initTo f k) ∧ Heap A A.length ∧ Kp w.heap.size w2 wr) (fun i _ => f.length - (intOf i).toNat)
  case atStart => exact ⟨0, [], rfl, Nat.zero_le _, HFS0.out, List.Perm.refl _, fun i _ h => by simp at h, Kp.refl _ _⟩
  case round =>
    obtain ⟨k, A, rfl, hk, hfs, hp, hh, hkp⟩ := hrel
    have Hfs := Lib.hid hfs
    have Hp := Lib.hid hp
    have Hh := Lib.hid hh
    have Hkp := Lib.hid hkp
    have hle := initTo_le f k
    have hAl : A.length ≤ k := by rw [hp.length_eq]; exact hle
    clear hfs hp hh hkp HFS0 hle
    by_cases hlt : k < f.length
    · rcases sl_one HV.out with ⟨rfl, _⟩ | ⟨_, bX, oX, cX', hveq, _, hbX, cellX⟩
      · simp at hlt
      injection hveq with q1 q2 q3
      subst q1 q3
      have hbX2 := Nat.lt_of_lt_of_le hbX hsz2
      have e0 : wr.cell? ⟨bX, oX + k, none⟩ = some (.int .i64 f[k]) := by
        rw [Hkp.out.below.cell (p := ⟨bX, oX + k, none⟩) hbX, HB2.out.cell (p := ⟨bX, oX + k, none⟩) hbX]; exact cellX k hlt
      have g0 : (k : Int) < (f.length : Int) := by omega
      have g1 : (0 : Int) ≤ (k : Int) := by omega
      have Hyes := Lib.hid (fun h => initTo_yes (f := f) hlt h)
      have Hno := Lib.hid (fun h => initTo_no (f := f) hlt h)
      have Hsz := Lib.hid (Nat.le_trans hsz2 Hkp.out.below.size)
      clear cellX q2 hbX hbX2
      generalize f[k] = x at *
      by_cases hx : 0 < x
      · have hpush := push_any w.heap.size F A wr.heap.size (.leaf x k) _ (fs_alloc Hfs.out (.cells #[.int .i64 x, .int .i64 k, .pointer none, .pointer none] 39)) (rep_leaf wr x k) (by omega) Hh.out
        go_wp2_with fail
        refine hpush.mono ?_
        rintro e w4 ⟨rfl, A', hfs4, hp4, hh4, hkp4⟩
        go_wp2_with fail
        refine ⟨⟨k + 1, A', by go_num, by omega, hfs4, ?_, hh4, Hkp.out.trans ((kp_alloc Hsz.out _).trans hkp4)⟩, by simp [intOf]; omega⟩
        rw [Hyes.out hx]
        exact hp4.trans ((Hp.out.cons _).trans (List.perm_append_comm (l₁ := [HT.leaf x k]) (l₂ := initTo f k)))
      · go_wp2_with fail
        exact ⟨⟨k + 1, A, by go_num, by omega, Hfs.out, by rw [Hno.out hx]; exact Hp.out, Hh.out, Hkp.out⟩, by simp [intOf]; omega⟩
    · obtain rfl : k = f.length := by omega
      rw [initTo_all] at Hp
      obtain ⟨aF, cF, hcF⟩ := fs_slice Hfs.out
      have hln := len_any (.slice aF A.length cF) A.length wr aF cF rfl
      have HL := Lib.hid (lens_kp HL0.out Hkp.out)
      have HB := Lib.hid (HB2.out.trans Hkp.out.below)
      by_cases h0 : A.length = 0
      · have hA : A = [] := List.length_eq_zero_iff.1 h0
        have hi0 : initT f = [] := by have := Hp.out; rw [hA] at this; exact List.nil_perm.1 this
        have Hi0 := Lib.hid hi0
        rw [h0] at hcF hln
        clear hA hi0
        go_wp2_with fail
        refine hln.mono ?_
        rintro e w4 ⟨rfl, rfl⟩
        go_wp2_with fail
        go_ret
        exact ⟨_, _, rfl, HL.out, Or.inl ⟨Hi0.out, rfl⟩, HB.out⟩
      · obtain ⟨g, c, p, hcF2, hc0, hrep⟩ := fs_first Hfs.out (by omega)
        rw [hcF] at hcF2
        injection hcF2 with hcF2
        injection hcF2 with q1 _ q3
        subst q1 q3
        by_cases h1 : A.length = 1
        · obtain ⟨t, hA⟩ : ∃ t, A = [t] := List.length_eq_one_iff.1 h1
          subst hA
          have hi1 : initT f = [t] := List.perm_singleton.1 Hp.out.symm
          obtain ⟨j, hj, hjp, rfl⟩ := initT_mem.1 (show t ∈ initT f by rw [hi1]; exact List.mem_singleton.2 rfl)
          have Hi1 := Lib.hid hi1
          have hn1 := (rep_head hrep).2
          replace hn1 : wr.cell? ⟨p, 1, none⟩ = some (.int .i64 (j : Nat)) := hn1
          have hl1 := HL.out
          have e1 : wr.cell? ⟨w.heap.size, j, none⟩ = some (.int .i64 0) := by
            unfold Lens at hl1
            rw [List.length_replicate] at hl1
            rw [hl1.cellAt j (by omega), List.getElem?_map, List.getElem?_replicate, if_pos hj]; rfl
          have e2 : wr.frozen? ⟨w.heap.size, j, none⟩ = false := by
            unfold Lens at hl1
            rw [List.length_replicate] at hl1
            exact hl1.frozenAt j
          have hst : Lens w.heap.size (wr.setCell ⟨w.heap.size, j, none⟩ (.int .i64 1)) (.slice (some ⟨w.heap.size, 0, none⟩) f.length f.length) ((List.replicate f.length 0).set j 1) := by
            unfold Lens at hl1 ⊢
            rw [List.length_replicate] at hl1
            rw [List.length_set, List.length_replicate, List.map_set]
            exact (hl1.stored j (.int .i64 1)).1
          have Hst := Lib.hid hst
          have Hbs := Lib.hid (HB.out.setCell (p := ⟨w.heap.size, j, none⟩) (Nat.le_refl _) (.int .i64 1))
          have g0 : (j : Int) < (f.length : Int) := by omega
          have g1 : (0 : Int) ≤ (j : Int) := by omega
          have hcF' : wr.cell? ⟨F, 0, none⟩ = some (.slice (some ⟨g, 0, none⟩) 1 cF) := hcF
          have hln' := hln
          clear hst hl1 hi1 hrep hjp hcF
          go_wp2_with fail
          refine hln.mono ?_
          rintro e w4 ⟨rfl, rfl⟩
          go_wp2_with fail
          refine hln'.mono ?_
          rintro e w4 ⟨rfl, rfl⟩
          go_wp2_with fail
          go_ret
          exact ⟨_, _, rfl, Hst.out, Or.inr (Or.inl ⟨_, _, Hi1.out, rfl⟩), Hbs.out⟩
        · have h2 : 2 ≤ A.length := by omega
          have hln' := hln
          have Hsy := Lib.hid (flat_perm Hp.out)
          have Hpos := Lib.hid (pos_perm Hp.out.symm (initT_pos f))
          have Hws : Hid (wtSum A ≤ 1000000000) := by
            unfold Hid
            rw [wtSum_perm Hp.out, ← initTo_all]
            omega
          have HL2 : Hid (2 ≤ (initT f).length) := by unfold Hid; rw [← Hp.out.length_eq]; exact h2
          have d0 : ((A.length : Int) == 0) = false := by simpa using h0
          have d1 : ((A.length : Int) == 1) = false := by simp; omega
          clear hrep hc0
          go_wp2_with fail
          refine hln.mono ?_
          rintro e w4 ⟨rfl, rfl⟩
          go_wp2_with fail
          refine hln'.mono ?_
          rintro e w4 ⟨rfl, rfl⟩
          clear hln hln' hcF
          go_wp2_with fail
          have Hred : Hid (∀ T, Red A T → Red (initT f) T) := fun T h => red_perm h Hp.out.symm
          have hal : A.length ≤ 1000 := by omega
          clear d0 d1 hAl hsum
          obtain ⟨wo, hwo⟩ : ∃ wo : World, wo = wr := ⟨_, rfl⟩
          subst hwo
          go_loopw [7] (fun _ wr => ∃ A : List HT, 1 ≤ A.length ∧ A.length ≤ 1000 ∧ ForS w.heap.size F wr A ∧ Heap A A.length ∧ (∀ T, Red A T → Red (initT f) T) ∧ (A.flatMap syms).Perm ((initT f).flatMap syms) ∧ Pos A ∧ wtSum A ≤ 1000000000 ∧ Kp w.heap.size w2 wr) (fun _ wr => lenOf (wr.cell? ⟨F, 0, none⟩))
          case atStart => exact ⟨A, by omega, hal, Hfs.out, Hh.out, Hred.out, Hsy.out, Hpos.out, Hws.out, Hkp.out⟩
          case round =>
            clear Hfs Hp Hh Hkp HL HB Hsy Hpos Hws Hred h0 h1 h2 hal
            obtain ⟨G, hA1, hA2, hfs, hh, hred, hsy, hpos, hws, hkp⟩ := hrel
            have Hfs := Lib.hid hfs
            have Hh := Lib.hid hh
            have Hkp := Lib.hid hkp
            have Hred := Lib.hid hred
            have Hsy := Lib.hid hsy
            have Hpos := Lib.hid hpos
            have Hws := Lib.hid hws
            obtain ⟨aF, cF, hcF⟩ := fs_slice hfs
            have hln := len_any (.slice aF G.length cF) G.length wr aF cF rfl
            clear hfs hh hred hsy hpos hws hkp
            by_cases h2 : 2 ≤ G.length
            · have g1 : (1 : Int) < (G.length : Int) := by omega
              obtain ⟨n, hn⟩ : ∃ n, G.length = n + 1 := ⟨G.length - 1, by omega⟩
              have hpop := pop_any w.heap.size F G n wr Hfs.out hn (by omega) Hh.out
              have Hn := Lib.hid hn
              clear hn
              go_wp2_with fail
              refine hln.mono ?_
              rintro e w4 ⟨rfl, rfl⟩
              clear hln hcF
              go_wp2_with fail
              refine hpop.mono ?_
              rintro e w5 ⟨p1, t1, A1, rfl, hr1, hfs1, hp1, hm1, hh1, hkp1⟩
              have ha1 := assert_tree p1
              have Hl1 : Hid (A1.length = n) := by show A1.length = n; have := hp1.length_eq; have := Hn.out; simp at *; omega
              obtain ⟨m, rfl⟩ : ∃ m, n = m + 1 := ⟨n - 1, by have := Hn.out; omega⟩
              have hpop2 := pop_any w.heap.size F A1 m w5 hfs1 Hl1.out (by have := Hl1.out; have := Hn.out; omega) hh1
              have Hr1 := Lib.hid hr1
              have Hp1 := Lib.hid hp1
              have Hm1 := Lib.hid hm1
              have Hkp1 := Lib.hid (Hkp.out.trans hkp1)
              clear hpop hr1 hfs1 hp1 hm1 hh1 hkp1
              go_wp2_with fail
              refine hpop2.mono ?_
              rintro e w6 ⟨p2, t2, A2, rfl, hr2, hfs2, hp2, hm2, hh2, hkp2⟩
              have ha2 := assert_tree p2
              have Hl2 : Hid (A2.length = m) := by show A2.length = m; have := hp2.length_eq; have := Hl1.out; simp at *; omega
              have hr1' := rep_kp hkp2 Hr1.out
              have HpA : Hid (G.Perm (t1 :: t2 :: A2)) := Hp1.out.symm.trans (hp2.symm.cons t1)
              have Hm1' : Hid (∀ x ∈ t2 :: A2, leT t1 x) := fun x hx => Hm1.out x (hp2.mem_iff.1 hx)
              have Hm2 := Lib.hid hm2
              have Hkp2 := Lib.hid (Hkp1.out.trans hkp2)
              have hws2 : wtSum (t1 :: t2 :: A2) ≤ 1000000000 := by rw [← wtSum_perm HpA.out]; exact Hws.out
              have hps2 : Pos (t1 :: t2 :: A2) := pos_perm HpA.out Hpos.out
              have hps3 : Pos A2 := fun x hx => hps2 x (List.mem_cons_of_mem _ (List.mem_cons_of_mem _ hx))
              have hn2 := wtSum_nonneg hps3
              have hw1 := hps2 t1 (List.mem_cons_self ..)
              have hw2 := hps2 t2 (List.mem_cons_of_mem _ (List.mem_cons_self ..))
              have hwsum : wt t1 + wt t2 ≤ 1000000000 := by rw [wtSum_cons, wtSum_cons] at hws2; omega
              have x1 : IntKind.i64.wrap (wt t1 + wt t2) = wt t1 + wt t2 := IntWalk.i64_in _ (by omega)
              have hlt1 := rep_lt hr1'
              have hlt2 := rep_lt hr2
              have HR1 := Lib.hid hr1'
              have HR2 := Lib.hid hr2
              obtain ⟨e10, e11⟩ := rep_head hr1'
              obtain ⟨e20, e21⟩ := rep_head hr2
              have hpush := push_any w.heap.size F A2 w6.heap.size (.node t1 t2) _ (fs_drew (fs_alloc hfs2 (.cells #[.int .i64 (wt t1 + wt t2), .int .i64 (min (nm t1) (nm t2) : Nat), ptrV p1, ptrV p2] 39))) (rep_drew (rep_node hr1' hr2)) (by have := Hl2.out; have := Hn.out; omega) hh2
              rcases (show (min (nm t1) (nm t2) = nm t2 ∧ nm t2 < nm t1) ∨ (min (nm t1) (nm t2) = nm t1 ∧ ¬ nm t2 < nm t1) by omega) with ⟨hmin, hmn⟩ | ⟨hmin, hmn⟩
              all_goals
                rw [hmin] at hpush
                clear hmin
                have Hpush := Lib.hid hpush
                have Hsz := Lib.hid (Nat.le_trans hsz2 Hkp2.out.below.size)
                have HN : Hid (wtSum (.node t1 t2 :: A2) ≤ 1000000000) := by unfold Hid; rw [wtSum_node]; exact hws2
                have HPs : Hid (Pos (.node t1 t2 :: A2)) := fun x hx => by
                  rcases List.mem_cons.1 hx with rfl | hx
                  · show 0 < wt t1 + wt t2; omega
                  · exact hps3 x hx
                clear hpop2 hr2 hfs2 hp2 hm2 hh2 hkp2 hr1' hws2 hps2 hps3 hn2 hpush
                go_wp2_with fail
                refine wp_abs fun Q9 HQ9 => ?_
                go_region_held3 (fun w' => w'.cell? ⟨p1, 0, none⟩ = some (.int .i64 (wt t1)) ∧ w'.cell? ⟨p1, 1, none⟩ = some (.int .i64 (nm t1)) ∧ w'.cell? ⟨p2, 0, none⟩ = some (.int .i64 (wt t2)) ∧ w'.cell? ⟨p2, 1, none⟩ = some (.int .i64 (nm t2))) (first | exact ⟨e10, e11, e20, e21⟩ | exact heads (rep_drew (rep_alloc HR1.out _)) (rep_drew (rep_alloc HR2.out _)) | exact heads (rep_alloc (rep_drew HR1.out) _) (rep_alloc (rep_drew HR2.out) _) | exact heads (rep_kp hkp3 (rep_drew (rep_alloc HR1.out _))) (rep_kp hkp3 (rep_drew (rep_alloc HR2.out _)))) (first | (go_at_call 21; refine Hpush.out.mono ?_; rintro e w7 ⟨rfl, A3, hfs3, hp3, hh3, hkp3⟩))
                all_goals
                  rw [HQ9.out]
                  have h3l := hp3.length_eq
                  simp only [List.length_cons] at h3l
                  have Hfs3 := Lib.hid hfs3
                  have Hp3 := Lib.hid hp3
                  have Hh3 := Lib.hid hh3
                  have Hkp3 := Lib.hid hkp3
                  have H3l := Lib.hid h3l
                  clear hfs3 hp3 hh3 hkp3 h3l
                  go_wp2_with fail
                  refine ⟨⟨A3, by have := H3l.out; omega, by have := H3l.out; have := Hl2.out; have := Hn.out; omega, Hfs3.out, Hh3.out, fun T hT => Hred.out T (.step HpA.out Hm1'.out Hm2.out (red_perm hT Hp3.out.symm)), ?_, pos_perm Hp3.out.symm HPs.out, by rw [wtSum_perm Hp3.out]; exact HN.out, Hkp2.out.trans (((kp_alloc Hsz.out _).drewN 1).trans Hkp3.out)⟩, ?_⟩
                  · have h := flat_perm Hp3.out
                    rw [flat_node] at h
                    exact h.trans ((flat_perm HpA.out).symm.trans Hsy.out)
                  · rw [fs_len Hfs3.out, fs_len Hfs.out]
                    have := H3l.out; have := Hl2.out; have := Hn.out; omega
            · have g1 : ¬ (1 : Int) < (G.length : Int) := by omega
              obtain ⟨T, hT⟩ : ∃ T, G = [T] := List.length_eq_one_iff.1 (by omega)
              subst hT
              obtain ⟨g, c, p, hcF2, hc0, hrep⟩ := fs_first Hfs.out (by simp)
              rw [hcF] at hcF2
              injection hcF2 with hcF2
              injection hcF2 with q1 _ q3
              subst q1 q3
              have hsyT : (syms T).Perm ((initT f).flatMap syms) := by have := Hsy.out; simpa using this
              have hsl : ∀ s ∈ syms T, s < f.length := fun s hs => (initT_syms f).2 s (hsyT.mem_iff.1 hs)
              have hht := height_lt T
              have hsyl : (syms T).length ≤ f.length := by
                have h1 := hsyT.length_eq
                rw [← initT_nm, List.length_map] at h1
                have h2 := initTo_le f f.length
                rw [initTo_all] at h2
                omega
              have hmk := mark_any w.heap.size T p 0 (.slice (some ⟨w.heap.size, 0, none⟩) f.length f.length) (List.replicate f.length 0) wr hrep (lens_kp HL0.out Hkp.out) (by rw [List.length_replicate]; exact hsl) (by rw [List.length_replicate]; omega) (by omega)
              have Hmk := Lib.hid hmk
              have hcF' : wr.cell? ⟨F, 0, none⟩ = some (.slice (some ⟨g, 0, none⟩) 1 cF) := hcF
              have HB := Lib.hid (HB2.out.trans Hkp.out.below)
              clear hmk hrep hsyT hsl hht hsyl hcF
              go_wp2_with fail
              refine hln.mono ?_
              rintro e w4 ⟨rfl, rfl⟩
              go_wp2_with fail
              refine Hmk.out.mono ?_
              rintro e w5 ⟨rfl, hl5, hkm5⟩
              go_wp2_with fail
              go_ret
              exact ⟨_, _, rfl, hl5, Or.inr (Or.inr ⟨HL2.out, T, Hred.out T (.one T), rfl⟩), HB.out.trans hkm5.below⟩
end Go.Proofs.Ytpkbbbdbcedkfaa
