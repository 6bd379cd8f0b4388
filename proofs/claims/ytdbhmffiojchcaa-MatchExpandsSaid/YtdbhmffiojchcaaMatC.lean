/- The walk of 'add'. Conditions: numbers fit. -/
import Derived.Test.YtdbhmffiojchcaaMatB
import Derived.Maps.GroupsBeside
import Derived.Test.YtdbhmffiojchcaaOpen
import Derived.Test.YtdbhmffiojchcaaSl
namespace Go.Proofs.Ytdbhmffiojchcaa
open Go.RowKit Go.Maps Go.WideMaps
open Go.ChangeShapes (lits)

theorem info_int : (Try.prog.info? 3).map (fun i => (i.zero, i.size, i.bytes)) = some (some (.int .i64 0), 1, 8) := by kernel_rfl
theorem zeroInts (w : World) : (zeroValue 34).run Try.prog w = .ok (.slice none 0 0) w := by kernel_rfl
theorem key_is (s : ByteArray) (hs : s.size ≤ 17592186044416) : keyOf Try.prog 9 (.string s) = some (.string s.data.toList) := keyOf_string_mk Try.underlying9 (by unfold maxLen; omega)

/-- Nothing below B, and no block of which No holds, has turned, but for B itself. -/
def Bes (No : Nat → Prop) (B : Nat) (w w' : World) : Prop := Below B w w' ∧ ∀ g, No g → g ≠ B → g < w.heap.size → w'.heap[g]? = w.heap[g]?
theorem bes_refl (No : Nat → Prop) (B : Nat) (w : World) : Bes No B w w := ⟨Below.refl _ _, fun _ _ _ _ => rfl⟩
theorem bes_trans {No : Nat → Prop} {B : Nat} {a b c : World} (h : Bes No B a b) (k : Bes No B b c) : Bes No B a c :=
  ⟨h.1.trans k.1, fun g h1 h2 h3 => (k.2 g h1 h2 (Nat.lt_of_lt_of_le h3 h.1.size)).trans (h.2 g h1 h2 h3)⟩
theorem bes_drew {No : Nat → Prop} {B : Nat} {a b : World} (h : Bes No B a b) : Bes No B a b.drew := ⟨h.1.drew, h.2⟩
theorem bes_alloc {No : Nat → Prop} {B : Nat} {a b : World} (h : Bes No B a b) (hB : B ≤ b.heap.size) (o : Obj) : Bes No B a (b.alloc o) :=
  ⟨h.1.alloc hB o, fun g h1 h2 h3 => (Below.heap_alloc b o g (Nat.lt_of_lt_of_le h3 h.1.size)).trans (h.2 g h1 h2 h3)⟩
theorem bes_grown {No : Nat → Prop} {B : Nat} {a w w' : World} {row : Option Nat} (h : Bes No B a w) (hg : w.grownBy w' row) (hB : B ≤ w.heap.size) (hr : ∀ k, row = some k → B ≤ k ∧ (No k → k = B)) : Bes No B a w' :=
  ⟨h.1.grown hg hB fun k hk => (hr k hk).1, fun g h1 h2 h3 => (hg.block g (Nat.lt_of_lt_of_le h3 h.1.size) (fun e => h2 ((hr g e.symm).2 h1))).trans (h.2 g h1 h2 h3)⟩
/-- A row of which No holds stays. -/
theorem bes_row {No : Nat → Prop} {B base e size n : Nat} {v : Value} {cs : List Value} {w w' : World} (hb : Bes No B w w') (h : w.ownsRow base e size v n cs) (hN : ∀ g, v.ownBlock = some g → No g ∧ g ≠ B) : w'.ownsRow base e size v n cs := by
  obtain ⟨hl, h⟩ := h
  refine ⟨hl, ?_⟩
  rcases h with h | ⟨g, cap, cur, rfl, hg, hc, hn, hm, hs, ht⟩
  · exact Or.inl h
  · have hlt : g < w.heap.size := by
      rcases Nat.lt_or_ge g w.heap.size with h | h
      · exact h
      · rw [Array.getElem?_eq_none h] at hc; cases hc
    obtain ⟨h1, h2⟩ := hN g (by simp [Value.ownBlock])
    exact Or.inr ⟨g, cap, cur, rfl, hg, by rw [hb.2 g h1 h2 hlt]; exact hc, hn, hm, hs, ht⟩

theorem extract_row3 (s : ByteArray) (i : Nat) : (s.extract i (i + 3)).data.toList = row3 s.data.toList i := by
  obtain ⟨⟨l⟩⟩ := s
  rw [show ByteArray.mk ⟨l⟩ = ByteArray.mk l.toArray from rfl, ByteArray.extract_mk]
  simp [row3]

/-- The state behind a store. -/
theorem stood_put {H : Type} {D : DataW H} {L : List UInt8} {lo c : Nat} {d : DataW H} (hm : IsMap D) 
    (hD : ∀ key : List UInt8, key.length = 3 → (D.atKey (.string key) .nil = .nil ∧ plc L key lo c = []) ∨ D.atKey (.string key) .nil = .slice (lits .i64 ((plc L key lo c).map Int.ofNat)) [])
    (hd : d = .slice (lits .i64 ((plc L (row3 L (lo + c)) lo c).map Int.ofNat ++ [((lo + c : Nat) : Int)])) []) :
    ∀ key : List UInt8, key.length = 3 → ((D.put (.string (row3 L (lo + c))) d).atKey (.string key) .nil = .nil ∧ plc L key lo (c + 1) = []) ∨ (D.put (.string (row3 L (lo + c))) d).atKey (.string key) .nil = .slice (lits .i64 ((plc L key lo (c + 1)).map Int.ofNat)) [] := by
  intro key hk
  rw [plc_succ]
  by_cases e : row3 L (lo + c) = key
  · subst e
    right
    rw [atKey_put_same hm (by simp [WideAt.IsKeyLit]), hd, if_pos rfl]
    simp
  · rw [atKey_put_other (by simpa using fun h => e h.symm), if_neg e, List.append_nil]
    exact hD key hk
theorem stood_pass {L : List UInt8} {key : List UInt8} {lo c : Nat} (h : L.length < lo + c + 3) (hk : key.length = 3) : plc L key lo (c + 1) = plc L key lo c := by
  rw [plc_succ, if_neg, List.append_nil]
  intro e
  exact row3_short L (lo + c) h (by rw [e]; exact hk)

set_option maxHeartbeats 4000000 in
theorem add_any {H : Type} (No : Nat → Prop) (s : ByteArray) (B n lo c : Nat) (w : World) (hst : Stood H w B B n s.data.toList lo c) (hsh : w.Shuns B No) (hN : ∀ g, No g → g < w.heap.size) (hs : s.size ≤ 1099511627776) (ha : lo + c ≤ s.size) (hn : n ≤ 1099511627776) :
    Calls Try.prog 31 #[.map (some B), .string s, .int .i64 ((lo + c : Nat) : Int)] w fun e w' => (∃ v, e = .returned v) ∧ Stood H w' B B (n + 1) s.data.toList lo (c + 1) ∧ w'.Shuns B No ∧ Bes No B w w' := by
  obtain ⟨i0, hi, hz0, hz1, hz2⟩ := info_parts info_int
  have hl : s.data.toList.length = s.size := by simp
  generalize hat' : lo + c = at' at *
  go_enter Try.func31, Try.ntmps31
  by_cases h3 : s.size < at' + 3
  · go_wp2_with fail
    first | go_end0 | refine bodyPost_ret (results_none rfl _ _ _) rfl ?_
    obtain ⟨D, hown, hm, hD⟩ := hst
    refine ⟨⟨_, rfl⟩, ⟨D, ?_, hm, fun key hk => ?_⟩, hsh, bes_refl _ _ _⟩
    · obtain ⟨es, clock, h1, h2, h3, h4, h5, h6, h7⟩ := hown
      exact ⟨es, clock, h1, h2, by omega, h4, h5, fun x hx zs hz => by have := h6 x hx zs hz; omega, h7⟩
    · rw [stood_pass (by omega) hk]
      exact hD key hk
  · obtain ⟨D, hown, hm, hD⟩ := hst
    have HD := Lib.hid hD
    clear hD
    have hkey := key_is (s.extract at' (at' + 3)) (by simp; omega)
    have hx := extract_row3 s at'
    rw [hx] at hkey
    have HX := Lib.hid hx
    clear hx
    have hrl : (row3 s.data.toList at').length = 3 := by simp [row3]; omega
    have hblt : B < w.heap.size := by
      obtain ⟨es, clock, h1, _⟩ := hown
      exact (Array.getElem?_eq_some_iff.1 h1).1
    have hwf : (Lit.int .i64 (at' : Int)).wf = true := WalkArith.wf_i64 (by omega)
    go_wp2_with (first
      | (at_lookup; refine wpList_lookup_groups_shuns _ rfl _ _ 61 rfl 9 34 3 .i64 kstr Try.underlying61 (zeroInts _) (B + 1) B n _ rfl hown (by unfold maxLen; omega) _ _ rfl hkey ?_; intro v zs hat hoi hzl hback hshv)
      | (at_builtin; refine wpList_append_own_at _ rfl _ _ 34 rfl (B + 1) 3 i0 (.int .i64 0) 1 8 Try.underlying34 hi hz0 hz1 hz2 rfl (by decide) v _ _ rfl (hoi.1.alloc _) ⟨w.heap.size, 0, none⟩ 1 1 [.int .i64 at'] rfl rfl (cell_one_new _ _ _) (ints_oneCell .i64 [(at' : Int)]) (by unfold maxLen; omega) (by omega) (by simp; omega) ?_; intro v' w1 hown' hgrow hnil hloc)
      | (at_mapUpdate; refine wpList_mapUpdate_back_shuns _ rfl _ _ _ 61 rfl kstr Try.underlying61 hkey hown (by unfold maxLen; omega) hoi hsh ?hno hback rfl rfl rfl ((World.grownBy_alloc _ _ _).trans hgrow) (hoi.appended hown' hwf) (by simp; omega) (hloc.imp id (fun h => ⟨_, h, by simp⟩)) ?_; rotate_left; intro w2 hown2 hgrow2 hsh2)
      | fail)
    · go_end0
      have hzs := stood_zs hat hoi (HD.out _ hrl)
      refine ⟨⟨_, rfl⟩, ⟨_, hown2, hm.put _ _, ?_⟩, hsh2, ?_⟩
      · subst hat'
        refine stood_put hm HD.out ?_
        show rowDatum .i64 v' (zs ++ [((lo + c : Nat) : Int)]) = _
        rw [(hoi.appended hown' hwf).datum_pos (by simp), hzs]
      · refine bes_grown (bes_grown (bes_refl _ _ _) ((World.grownBy_alloc _ _ _).trans hgrow) (by omega) fun k hk => ⟨?_, fun hNk => absurd hNk (hshv No hsh k hk)⟩) hgrow2 (by have := hgrow.size; simp at this; omega) fun k hk => by cases hk; exact ⟨Nat.le_refl _, fun _ => rfl⟩
        have := (hoi.1.lt k hk).1
        omega
    · intro g hg hNg
      rcases hloc with h | h
      · exact hshv No hsh g (by rw [← h]; exact hg) hNg
      · rw [h] at hg
        have h1 := hN g hNg
        simp at hg
        omega
end Go.Proofs.Ytdbhmffiojchcaa
