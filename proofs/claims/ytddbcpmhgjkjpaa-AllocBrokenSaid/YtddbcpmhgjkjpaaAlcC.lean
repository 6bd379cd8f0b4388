/- Slices of tables made anew: what a function makes of each table; one of them laid anew; Commit with the place of its table. Conditions: numbers fit. -/
import Derived.Test.YtddbcpmhgjkjpaaAlcB
import Derived.Maps.AppendAt
namespace Go.Proofs.Ytddbcpmhgjkjpaa
open Go.RowKit

theorem info_tab : (Try.prog.info? 22).map (fun i => (i.zero, i.size, i.bytes)) = some (some (.slice none 0 0), 1, 24) := by kernel_rfl
theorem use_grown {w w' : World} {x : Value} {l : List Us} {row : Option Nat} (h : UseV w x l) (hg : w.grownBy w' row) (hn : ∀ b, x.ownBlock = some b → some b ≠ row) : UseV w' x l := by
  obtain ⟨a, cap, rfl, h1, h2, h3⟩ := h
  refine ⟨a, cap, rfl, h1, h2, ?_⟩
  rcases h3 with h3 | ⟨b, off, rfl, hb, hc⟩
  · exact Or.inl h3
  · refine Or.inr ⟨b, off, rfl, Nat.lt_of_lt_of_le hb hg.size, fun i hi j hj => ?_⟩
    rw [World.cell?_of_block (w := w) (hg.block b hb (hn b rfl))]
    exact hc i hi j hj
/-- A store where a slice lies turns no table. -/
theorem use_set {w : World} {x : Value} {l : List Us} (h : UseV w x l) {p : Addr} {a : Option Addr} {n c : Nat} (hp : w.cell? p = some (.slice a n c)) (v : Value) : UseV (w.setCell p v) x l := by
  obtain ⟨a0, cap, rfl, h1, h2, h3⟩ := h
  refine ⟨a0, cap, rfl, h1, h2, ?_⟩
  rcases h3 with h3 | ⟨b, off, rfl, hb, hc⟩
  · exact Or.inl h3
  · refine Or.inr ⟨b, off, rfl, by simpa [World.setCell] using hb, fun i hi j hj => ?_⟩
    have h0 := hc i hi j hj
    rw [World.cell?_setCell_other w _ _ _ (by
      intro e
      rw [e] at hp
      rw [hp] at h0
      rcases j with _ | _ | _ | _ | j
      · simp at h0
      · simp at h0
      · simp at h0
      · simp at h0
      · omega)]
    exact h0
theorem owns_free {w : World} {base e size n b : Nat} {v : Value} {xs : List Value} (h : w.ownsRow base e size v n xs) (hb : v.ownBlock = some b) (j : Nat) : w.frozen? ⟨b, j, none⟩ = false := by
  obtain ⟨_, h⟩ := h
  rcases h with ⟨rfl, _⟩ | ⟨g, cap, cur, rfl, hg, hc, _⟩
  · cases hb
  · simp only [Value.ownBlock, Option.some.injEq] at hb
    subst hb
    exact frozen_of_row w g j cur e hc
theorem tab_of_owns {w : World} {base e n : Nat} {v : Value} {vs : List Value} {ls : List (List Us)} (h : w.ownsRow base e 1 v n vs) (hl : vs.length = ls.length) (hu : ∀ i (hi : i < vs.length) (hj : i < ls.length), UseV w vs[i] ls[i]) : TabV w v ls := by
  have h' : w.ownsRow base e 1 v n (vs.map fun x => x) := by simpa using h
  exact ⟨vs, (sl_of_owns h').1, hl, hu⟩
/-- One table laid anew. -/
theorem tab_set {w : World} {b off n cap : Nat} {ls : List (List Us)} (h : TabV w (.slice (some ⟨b, off, none⟩) n cap) ls) {k : Nat} (hk : k < ls.length) {x : Value} {l : List Us} (hx : UseV w x l) :
    TabV (w.setCell ⟨b, off + k, none⟩ x) (.slice (some ⟨b, off, none⟩) n cap) (ls.set k l) := by
  obtain ⟨b', off', au, cu, he, hb, hcell, _⟩ := tab_at h hk
  injection he with he
  injection he with e1 e2 e3
  subst e1 e2
  obtain ⟨vs, ⟨a', cap', hv', hl, hn, hc⟩, h2, h3⟩ := h
  injection hv' with e1 e2 e3
  subst e1 e2 e3
  rcases hc with rfl | ⟨b', off', he, hb', hc⟩
  · simp at h2; omega
  injection he with he
  injection he with e1 e2 e3
  subst e1 e2
  refine ⟨vs.set k x, ⟨some ⟨b, off, none⟩, cap, by simp, by simpa using hl, nofun, Or.inr ⟨b, off, rfl, by simpa [World.setCell] using hb, fun i hi j hj => ?_⟩⟩, by simpa using h2, fun i hi hj => ?_⟩
  · obtain rfl : j = 0 := by omega
    simp only [List.length_set] at hi
    have h0 := hc i hi 0 (by omega)
    simp only [Nat.mul_one, Nat.add_zero] at h0 ⊢
    by_cases hik : i = k
    · subst hik
      rw [World.cell?_setCell_same w _ _ hcell]; simp
    · rw [World.cell?_setCell_other w _ _ _ (by intro e; injection e with _ e _; omega), h0]
      simp [Ne.symm hik]
  · simp only [List.length_set] at hi hj
    by_cases hik : i = k
    · subst hik
      simpa using use_set hx hcell x
    · have := use_set (h3 i hi (by omega)) hcell x
      simpa [List.getElem_set, Ne.symm hik] using this

/-- One more table laid behind those of a row of the call's own. -/
theorem tab_step {wr w1 w3 : World} {O : Obj} {vo v1 v3 : Value} {vs : List Value} {G : List (List Us)} {l : List Us} {k : Nat} (h1 : Below wr.heap.size wr w1) (hol : ∀ b, vo.ownBlock = some b → b < wr.heap.size)
    (hus : ∀ i (hi : i < vs.length) (hj : i < G.length), UseV wr vs[i] G[i]) (hlen : vs.length = k) (hbk : ∀ x ∈ vs, ∀ b, x.ownBlock = some b → vo.ownBlock ≠ some b ∧ b < wr.heap.size)
    (hu1 : UseV w1 v1 l) (hb1 : ∀ b, v1.ownBlock = some b → wr.heap.size ≤ b ∧ b < w1.heap.size) (hg : (w1.alloc O).grownBy w3 vo.ownBlock) (hv3 : v3.ownBlock = vo.ownBlock ∨ v3.ownBlock = some (w1.alloc O).heap.size)
    (hk : k < G.length) (hl : G[k] = l) :
    (∀ i (hi : i < (vs ++ [v1]).length) (hj : i < G.length), UseV w3 (vs ++ [v1])[i] G[i]) ∧ ∀ x ∈ vs ++ [v1], ∀ b, x.ownBlock = some b → v3.ownBlock ≠ some b ∧ b < w3.heap.size := by
  have hs := hg.size
  have hs1 := h1.size
  rw [World.size_alloc] at hs
  have ha : Below w1.heap.size w1 (w1.alloc O) := (Below.refl _ _).alloc (Nat.le_refl _) _
  constructor
  · intro i hi hj
    simp only [List.length_append, List.length_cons, List.length_nil] at hi
    by_cases hik : i < vs.length
    · rw [List.getElem_append_left hik]
      refine use_grown (sl_below (sl_below (hus i hik hj) h1) ha) hg fun b hb e => ?_
      exact (hbk _ (List.getElem_mem hik) b hb).1 e.symm
    · obtain rfl : i = k := by omega
      rw [List.getElem_append_right (by omega)]
      simp only [hlen, Nat.sub_self, List.getElem_cons_zero]
      rw [hl]
      refine use_grown (sl_below hu1 ha) hg fun b hb e => ?_
      have := hol b e.symm
      have := hb1 b hb
      omega
  · intro x hx b hb
    rw [List.mem_append, List.mem_singleton] at hx
    have key : vo.ownBlock ≠ some b ∧ b < w1.heap.size := by
      rcases hx with hx | rfl
      · have := hbk x hx b hb
        exact ⟨this.1, by omega⟩
      · have h2 := hb1 b hb
        refine ⟨fun e => ?_, h2.2⟩
        have := hol b e
        omega
    refine ⟨fun e => ?_, by omega⟩
    rcases hv3 with h | h
    · rw [h] at e; exact key.1 e
    · rw [h, World.size_alloc] at e
      injection e with e
      omega

set_option maxRecDepth 100000 in
set_option maxHeartbeats 1000000 in
theorem eachT_any (F : FuncId) (hrun : ∀ args w, (callFunc F args).run Try.prog w = .ok (.enter F args) w) (g : List Us → List Us)
    (hF : ∀ v l w, UseV w v l → l.length ≤ 100 → Calls Try.prog F #[v] w fun e w' => ∃ v', e = .returned v' ∧ UseV w' v' (g l) ∧ (∀ b, v'.ownBlock = some b → w.heap.size ≤ b ∧ b < w'.heap.size) ∧ Below w.heap.size w w')
    (v : Value) (ls : List (List Us)) (w : World) (hv : TabV w v ls) (hf : FewT ls) :
    Calls Try.prog 62 #[v, .func (.func F) #[] #[]] w fun e w' => ∃ a cap, e = .returned (.slice a ls.length cap) ∧ TabV w' (.slice a ls.length cap) (ls.map g) ∧ (∀ b, (Value.slice a ls.length cap).ownBlock = some b → w.heap.size ≤ b ∧ ∀ j, w'.frozen? ⟨b, j, none⟩ = false) ∧ Below w.heap.size w w' := by
  obtain ⟨i0, hi, hz0, hz1, hz2⟩ := info_parts info_tab
  have HV := Lib.hid hv
  obtain ⟨hf1, hf2⟩ := hf
  obtain ⟨aX, cX, rfl, hnX, _⟩ := tab_shape hv
  clear hv hnX
  go_enter Try.func62, Try.ntmps62
  go_wp2_with (first
    | (at_make; refine wpList_make_own _ rfl _ _ 46 rfl w.heap.size 22 i0 (.slice none 0 0) 1 Try.underlying46 hi hz0 hz1 .i64 .i64 _ ls.length rfl rfl rfl (by rw [hz2]; omega) (by simp [maxLen]; omega) (Nat.le_refl _) ?_
       intro w2 hown2 hg2
       have hb2 := (Below.refl w.heap.size w).grown hg2 (Nat.le_refl _) (fun k hk => by cases hk)
       have Hown2 := Lib.hid hown2
       have Hb2 := Lib.hid hb2
       clear hown2 hg2 hb2)
    | fail)
  go_loopw [5, 13] (fun vo i wr => ∃ (k : Nat) (vs : List Value), k ≤ ls.length ∧ i = .int .i64 k ∧ wr.ownsRow w.heap.size 22 1 vo k vs ∧ vs.length = k ∧ (∀ i (hi : i < vs.length) (hj : i < (ls.map g).length), UseV wr vs[i] (ls.map g)[i]) ∧ (∀ x ∈ vs, ∀ b, x.ownBlock = some b → vo.ownBlock ≠ some b ∧ b < wr.heap.size) ∧ Below w.heap.size w wr) (fun _ i _ => ls.length - (intOf i).toNat)
  case atStart => exact ⟨0, [], Nat.zero_le _, rfl, Hown2.out, rfl, fun i hi => by simp at hi, (fun x hx => by simp at hx), Hb2.out⟩
  case round =>
    clear Hown2 Hb2
    obtain ⟨k, vs, hk, rfl, hown, hvl, hus, hbk, hbw⟩ := hrel
    obtain ⟨a0, c0, rfl, _⟩ := owns_shape hown
    have Hown := Lib.hid hown
    have Hb := Lib.hid hbw
    have Hus := Lib.hid hus
    have Hbk := Lib.hid hbk
    have Hvl := Lib.hid hvl
    clear hown hbw hus hbk hvl
    by_cases hlt : k < ls.length
    · obtain ⟨b, off, au, cu, hveq, hblt, hcell, hu⟩ := tab_at (tab_below HV.out Hb.out) hlt
      subst hveq
      have hmx := hf1 _ (List.getElem_mem hlt)
      have hc := hF _ _ wr hu hmx
      have g0 : (k : Int) < (ls.length : Int) := by omega
      have g1 : (0 : Int) ≤ (k : Int) := by omega
      have HG : Hid (∃ hk : k < (ls.map g).length, (ls.map g)[k] = g ls[k]) := ⟨by simpa using hlt, by simp⟩
      clear hu
      generalize g ls[k] = gl at *
      generalize ls[k].length = xn at *
      go_wp2_with fail
      refine hc.mono ?_
      rintro e w1 ⟨v1, rfl, hu1, hbl1, hb1⟩
      obtain ⟨a1, c1, hv1, _⟩ := id hu1
      subst hv1
      have HB1 := Lib.hid (below_step9 Hb.out hb1)
      have HO := Lib.hid (owns_below Hown.out hb1)
      have hsz := HB1.out.size
      have HU1 := Lib.hid hu1
      have Hbl1 := Lib.hid hbl1
      have Hb1 := Lib.hid hb1
      have Hobk : Hid (∀ b, (Value.slice a0 k c0).ownBlock = some b → b < wr.heap.size) := owns_lt Hown.out
      have Hone : Hid (∀ u ∈ [Value.slice a1 gl.length c1], u.oneCell' = true) := by
        intro u hu
        rw [List.mem_singleton] at hu
        subst hu; rfl
      clear hb1 hc Hown hu1 hbl1
      go_wp2_with (first
        | (at_builtin; refine wpList_append_own_at _ rfl _ _ 46 rfl w.heap.size 22 i0 (.slice none 0 0) 1 24 Try.underlying46 hi hz0 hz1 hz2 rfl (by decide) (.slice a0 k c0) _ _ rfl (HO.out.alloc _) ⟨w1.heap.size, 0, none⟩ 1 1 [.slice a1 gl.length c1] rfl rfl (cell_one9 _ _ _) Hone.out (by simp [maxLen]; omega) (by omega) (by simp; omega) ?_
           intro v3 w3 hown3 hg3 _ hbk3
           have hb3 := (HB1.out.alloc hsz _).grown hg3 (by simp; omega) (fun b hbk => owns_block HO.out b hbk)
           have HO3 := Lib.hid hown3
           have HB3 := Lib.hid hb3
           have HT3 := Lib.hid (tab_step Hb1.out Hobk.out Hus.out Hvl.out Hbk.out HU1.out Hbl1.out hg3 hbk3 HG.out.1 HG.out.2)
           clear hown3 hg3 hb3 hbk3)
        | fail)
      exact ⟨⟨k + 1, vs ++ [_], by omega, by go_num, HO3.out, by simp [Hvl.out], HT3.out.1, HT3.out.2, HB3.out⟩, by simp [intOf]; omega⟩
    · obtain rfl : k = ls.length := by omega
      have HS := Lib.hid (tab_of_owns (ls := ls.map g) Hown.out (by rw [Hvl.out, List.length_map]) (fun i hi hj => by have := Hus.out i hi hj; exact this))
      go_wp2_with fail
      go_ret
      exact ⟨_, _, rfl, HS.out, fun b hb => ⟨owns_block Hown.out b hb, owns_free Hown.out hb⟩, Hb.out⟩

set_option maxRecDepth 100000 in
set_option maxHeartbeats 4000000 in
theorem commitB_any (v : Value) (l : List Us) (w : World) (hv : UseV w v l) (hl : l.length ≤ 140737488355328) :
    Calls Try.prog 29 #[v] w fun e w' => ∃ a cap, e = .returned (.slice a (commitU l).length cap) ∧ UseV w' (.slice a (commitU l).length cap) (commitU l) ∧ Below w.heap.size w w' ∧ ∀ b, (Value.slice a (commitU l).length cap).ownBlock = some b → w.heap.size ≤ b ∧ b < w'.heap.size := by
  obtain ⟨i0, hi, hz0, hz1, hz2⟩ := info_parts info_use
  have hm := may_any v l w hv hl
  have HV := Lib.hid hv
  obtain ⟨aX, cX, rfl, hcX, hnX, hcellX⟩ := hv
  clear hcellX hnX
  cases hmay : mayU l with
  | false =>
    rw [hmay] at hm
    have HU : Hid (commitU l = []) := by unfold Hid commitU; rw [hmay]; rfl
    clear hmay
    go_enter Try.func29, Try.ntmps29
    go_wp2_with fail
    refine hm.mono ?_
    rintro e w1 ⟨rfl, hb1⟩
    go_wp2_with fail
    go_ret
    rw [HU.out]
    exact ⟨none, 0, rfl, sl_nil fun _ => rfl, hb1, nofun⟩
  | true =>
    rw [hmay] at hm
    have HU : Hid (commitU l = commitL l) := by unfold Hid commitU; rw [hmay]; rfl
    have hl16 := mayU_len hmay
    clear hmay
    go_enter Try.func29, Try.ntmps29
    go_wp2_with fail
    refine hm.mono ?_
    rintro e w1 ⟨rfl, hb1⟩
    have Hb1 := Lib.hid hb1
    clear hb1 hm
    go_wp2_with fail
    go_loopw [3, 11] (fun vo i wr => ∃ k : Nat, k ≤ l.length ∧ i = .int .i64 k ∧ wr.ownsRow w.heap.size 41 4 vo (commitL (l.take k)).length (cells4 (commitL (l.take k))) ∧ Below w.heap.size w wr) (fun _ i _ => l.length - (intOf i).toNat)
    case atStart => exact ⟨0, Nat.zero_le _, rfl, World.ownsRow_nil _ _ _ _, Hb1.out⟩
    case round =>
      clear Hb1
      obtain ⟨k, hk, rfl, hown, hbw⟩ := hrel
      obtain ⟨a0, c0, rfl, _⟩ := owns_shape hown
      have Hown := Lib.hid hown
      have Hb := Lib.hid hbw
      clear hown hbw
      by_cases hlt : k < l.length
      · obtain ⟨b0, off, hveq, hblt, cells⟩ := use_at (sl_below HV.out Hb.out) hlt
        subst hveq
        obtain ⟨e0, e1, e2, e3⟩ := cells
        have HN : Hid (commitL (l.take (k + 1)) = commitL (l.take k) ++ (if 0 < l[k].2.2.1 then [oldU l[k]] else [])) := by unfold Hid; rw [List.take_succ_eq_append_getElem hlt]; exact commitL_snoc _ _
        have hle := commitL_le (l.take k)
        have hle2 : (l.take k).length ≤ k := List.length_take_le _ _
        have hsz := Hb.out.size
        have g0 : (k : Int) < (l.length : Int) := by omega
        have g1 : (0 : Int) ≤ (k : Int) := by omega
        generalize l[k] = u at *
        generalize commitL (l.take k) = L0 at *
        obtain ⟨p, q, c, o⟩ := u
        dsimp only at e0 e1 e2 e3 HN
        by_cases hc : 0 < c
        · have b1 : decide (0 < c) = true := by simpa using hc
          rw [if_pos hc] at HN
          clear hc
          go_wp2_with (first
            | (at_builtin; refine wpList_append_own _ rfl _ _ 22 rfl w.heap.size 41 i0 _ 4 32 Try.underlying22 hi hz0 hz1 hz2 rfl (by decide) (.slice a0 L0.length c0) _ _ rfl ((Hown.out.alloc _).alloc _) ⟨wr.heap.size + 1, 0, none⟩ 1 1 (useE (p, q, c, true)) rfl rfl (by have h := cells_four9 (wr.alloc (.cells #[.int .i64 p, .int .i64 q, .int .i64 c, .bool true] 41)) (p, q, c, true) 41; rw [asz9] at h; exact h) (useE_one _) (by simp [maxLen]; omega) (by omega) (by simp; omega) ?_
               intro v3 w3 hown3 hg3 _
               have hb3 := ((Hb.out.alloc hsz _).alloc (by simp; omega) _).grown hg3 (by simp; omega) (fun b hbk => owns_block Hown.out b hbk)
               have HO3 := Lib.hid hown3
               have HB3 := Lib.hid hb3
               clear hown3 hg3 hb3)
            | fail)
          exact ⟨⟨k + 1, by omega, by go_num, by rw [HN.out, cells4_append, List.length_append]; exact HO3.out, HB3.out⟩, by simp [intOf]; omega⟩
        · have b1 : decide (0 < c) = false := by simpa using hc
          rw [if_neg hc, List.append_nil] at HN
          clear hc
          go_wp2_with fail
          exact ⟨⟨k + 1, by omega, by go_num, by rw [HN.out]; exact Hown.out.alloc _, Hb.out.alloc hsz _⟩, by simp [intOf]; omega⟩
      · obtain rfl : k = l.length := by omega
        have hown := Hown.out
        rw [List.take_length] at hown ⊢
        have hs := (use_of_owns hown).1
        have HS := Lib.hid hs
        have HK := Lib.hid (fun b hb => And.intro (owns_block hown b hb) (owns_lt hown b hb))
        clear hown hs
        go_wp2_with fail
        go_ret
        rw [HU.out]
        exact ⟨_, _, rfl, HS.out, Hb.out, fun b hb => HK.out b hb⟩

/-- Clone of each table. -/
theorem cloneT_any (v : Value) (ls : List (List Us)) (w : World) (hv : TabV w v ls) (hf : FewT ls) :
    Calls Try.prog 62 #[v, .func (.func 56) #[] #[]] w fun e w' => ∃ a cap, e = .returned (.slice a ls.length cap) ∧ TabV w' (.slice a ls.length cap) ls ∧ (∀ b, (Value.slice a ls.length cap).ownBlock = some b → w.heap.size ≤ b ∧ ∀ j, w'.frozen? ⟨b, j, none⟩ = false) ∧ Below w.heap.size w w' := by
  have h := eachT_any 56 (run_func_enter Try.func56 (by kernel_rfl) rfl) (fun l => l) (fun v l w hv hl => by
    refine (clone_use v l w hv (by omega)).mono ?_
    rintro e w' ⟨v', rfl, ho, hb⟩
    exact ⟨v', rfl, (use_of_owns ho).1, fun b hbk => ⟨owns_block ho b hbk, owns_lt ho b hbk⟩, hb⟩) v ls w hv hf
  refine h.mono ?_
  rintro e w' ⟨a, cap, rfl, ht, hk, hb⟩
  rw [List.map_id'] at ht
  exact ⟨a, cap, rfl, ht, hk, hb⟩

def commitT (ls : List (List Us)) : List (List Us) := if mayT ls = true then ls.map commitU else []
set_option maxRecDepth 100000 in
set_option maxHeartbeats 1000000 in
theorem commitTP_any (v : Value) (ls : List (List Us)) (w : World) (hv : TabV w v ls) (hf : FewT ls) :
    Calls Try.prog 50 #[v] w fun e w' => ∃ a cap, e = .returned (.slice a (commitT ls).length cap) ∧ TabV w' (.slice a (commitT ls).length cap) (commitT ls) ∧ Below w.heap.size w w' := by
  have hc := mayTP_any v ls w hv hf
  have hd : ∀ w1, Below w.heap.size w w1 → Calls Try.prog 62 #[v, .func (.func 29) #[] #[]] w1 fun e w' => ∃ a cap, e = .returned (.slice a ls.length cap) ∧ TabV w' (.slice a ls.length cap) (ls.map commitU) ∧ (∀ b, (Value.slice a ls.length cap).ownBlock = some b → w1.heap.size ≤ b ∧ ∀ j, w'.frozen? ⟨b, j, none⟩ = false) ∧ Below w1.heap.size w1 w' := fun w1 hb => eachT_any 29 (run_func_enter Try.func29 (by kernel_rfl) rfl) commitU (fun v l w hv hl => by
    refine (commitB_any v l w hv (by omega)).mono ?_
    rintro e w' ⟨a, cap, rfl, hu, hb, hk⟩
    exact ⟨_, rfl, hu, hk, hb⟩) v ls w1 (tab_below hv hb) hf
  obtain ⟨aX, cX, rfl, hnX, _⟩ := tab_shape hv
  clear hv hnX
  cases hm : mayT ls with
  | false =>
    have HE : Hid (commitT ls = []) := by unfold Hid commitT; rw [hm]; rfl
    rw [hm] at hc
    clear hd hm
    go_enter Try.func50, Try.ntmps50
    go_wp2_with fail
    refine hc.mono ?_
    rintro e w1 ⟨rfl, hb1⟩
    go_wp2_with fail
    go_ret
    rw [HE.out]
    exact ⟨none, 0, rfl, tab_nil fun _ => rfl, hb1⟩
  | true =>
    have HE : Hid (commitT ls = ls.map commitU) := by unfold Hid commitT; rw [hm]; rfl
    rw [hm] at hc
    clear hm
    go_enter Try.func50, Try.ntmps50
    go_wp2_with fail
    refine hc.mono ?_
    rintro e w1 ⟨rfl, hb1⟩
    have HB1 := Lib.hid hb1
    have hd1 := hd w1 hb1
    clear hd hc hb1
    go_wp2_with fail
    refine hd1.mono ?_
    rintro e w2 ⟨a2, c2, rfl, ht2, _, hb2⟩
    have HT2 := Lib.hid ht2
    have HB2 := Lib.hid (below_step9 HB1.out hb2)
    clear hd1 ht2 hb2
    go_wp2_with fail
    go_ret
    rw [HE.out]
    exact ⟨a2, c2, by rw [List.length_map]; rfl, by rw [List.length_map]; exact HT2.out, HB2.out⟩
end Go.Proofs.Ytddbcpmhgjkjpaa
