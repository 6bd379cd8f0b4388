/- The walk of common. Conditions: numbers fit. The map of places: its state, 'add' and 'longest'. Conditions: numbers fit. The walk of 'add'. Conditions: numbers fit. The walk of 'longest'. Conditions: numbers fit. The walk of match.Longest. Conditions: numbers fit. The walk of Split. Conditions: numbers fit. The walk of Split. Conditions: numbers fit. The walks of the two Mays. No condition. -/
import Derived.Test.YtolappilfjhfaaaChecked
import Derived.WalkKit
import Derived.WalkLawsBesides
import Derived.WalkSpells
import Derived.Outline
import Derived.OwnWalk
import Derived.IntWalk
import Derived.Lib.Hide
import Derived.Deep.QuietTactic
import Derived.BigQuiet
import Derived.Deep.RegionHeld3
import Derived.Deep.LoopGhost
import Derived.Deep.DeepFit
import Derived.Below
import Derived.Maps.OwnRows
import Derived.Maps.AppendAt
import Derived.Maps.Views
import Derived.Maps.GroupsBeside
import Derived.WalkMore
import Derived.Scope
import Derived.Test.YtolappilfjhfaaaWa
import Derived.Test.YtolappilfjhfaaaW1
namespace Go.Proofs.Ytolappilfjhfaaa
open Go.RowKit

theorem bt_get (s : ByteArray) (i : Nat) (h : i < s.size) : bt s.data.toList i = s[i] := by
  unfold bt
  have h' : i < s.data.toList.length := by simpa using h
  simp [List.getD, List.getElem?_eq_getElem h']
  rfl

set_option maxRecDepth 100000 in
set_option maxHeartbeats 1000000 in
theorem common_any (s : ByteArray) (at' d : Nat) (w : World) (hd : d ≤ at') (ha : at' ≤ 17592186044416) (hs : s.size ≤ 17592186044416) :
    Calls Try.prog 81 #[.string s, .int .i64 at', .int .i64 d] w fun e w' => e = .returned (.int .i64 (com s.data.toList at' d)) ∧ ∃ m, w' = w.drewN m := by
  have hl : s.data.toList.length = s.size := by simp
  go_enter Try.func81, Try.ntmps81
  go_wp2_with fail
  go_loopw [7] (fun i wr => ∃ n : Nat, n ≤ 18 ∧ i = .int .i64 n ∧ (∀ i, i < n → at' + i < s.data.toList.length ∧ bt s.data.toList (at' + i) = bt s.data.toList (at' + i - d)) ∧ ∃ m, wr = w.drewN m) (fun i _ => 18 - (intOf i).toNat)
  case atStart => exact ⟨0, by omega, rfl, fun i h => by omega, 0, rfl⟩
  case round =>
    obtain ⟨n, hn, rfl, hall, m, rfl⟩ := hrel
    have HA := Lib.hid hall
    clear hall
    by_cases h18 : n = 18
    · subst h18
      have hc := com_eq (L := s.data.toList) (at' := at') (d := d) (by omega) HA.out (Or.inl rfl)
      have Hc := Lib.hid hc
      clear hc
      have b1 : decide ((18 : Int) < 18) = false := by decide
      go_wp2_with fail
      go_quiet (fail)
      go_wp2_with fail
      go_ret
      exact ⟨by rw [Hc.out]; rfl, _, World.drewN_drewN _ _ _⟩
    · have x1 : IntKind.i64.wrap ((at' : Int) + (n : Int)) = (at' : Int) + (n : Int) := IntWalk.i64_in _ (by omega)
      have t1 : ((at' : Int) + (n : Int)).toNat = at' + n := by omega
      have c1 : (0 : Int) ≤ (at' : Int) + (n : Int) := by omega
      have b1 : decide ((n : Int) < 18) = true := by simp; omega
      by_cases hlt : at' + n < s.size
      · have x2 : IntKind.i64.wrap ((at' : Int) + (n : Int) - (d : Int)) = (at' : Int) + (n : Int) - (d : Int) := IntWalk.i64_in _ (by omega)
        have t2 : ((at' : Int) + (n : Int) - (d : Int)).toNat = at' + n - d := by omega
        have c2 : (at' : Int) + (n : Int) < (s.size : Int) := by omega
        have c3 : (0 : Int) ≤ (at' : Int) + (n : Int) - (d : Int) := by omega
        have c5 : (d : Int) ≤ (at' : Int) + (n : Int) := by omega
        have c4 : (at' : Int) + (n : Int) - (d : Int) < (s.size : Int) := by omega
        have hlt2 : at' + n - d < s.size := by omega
        have b2 : decide ((at' : Int) + (n : Int) < (s.size : Int)) = true := by simp; omega
        by_cases he : s[at' + n] = s[at' + n - d]
        · have x3 : ((s[at' + n].toNat : Int) == (s[at' + n - d].toNat : Int)) = true := by rw [he]; simp
          have HE := Lib.hid he
          clear he
          go_wp2_with fail
          go_quiet (fail)
          go_wp2_with fail
          exact ⟨⟨n + 1, by omega, by go_num, fun i hi => by
            by_cases e : i = n
            · subst e; rw [bt_get s _ hlt, bt_get s _ hlt2]; exact ⟨by omega, HE.out⟩
            · exact HA.out i (by omega), _, rfl⟩, by simp [intOf]; omega⟩
        · have x3 : ((s[at' + n].toNat : Int) == (s[at' + n - d].toNat : Int)) = false := by
            simp only [beq_eq_false_iff_ne, ne_eq]
            intro h
            exact he (UInt8.toNat_inj.1 (by omega))
          have hc := com_eq (L := s.data.toList) (at' := at') (d := d) hn HA.out (Or.inr (by rw [bt_get s _ hlt, bt_get s _ hlt2]; exact fun h => he h.2))
          clear he
          have Hc := Lib.hid hc
          clear hc
          go_wp2_with fail
          go_quiet (fail)
          go_wp2_with fail
          go_ret
          exact ⟨by rw [Hc.out]; rfl, _, World.drewN_drewN _ _ _⟩
      · have hc := com_eq (L := s.data.toList) (at' := at') (d := d) hn HA.out (Or.inr (by rw [hl]; exact fun h => hlt h.1))
        have Hc := Lib.hid hc
        clear hc
        have b2 : decide ((at' : Int) + (n : Int) < (s.size : Int)) = false := by simp; omega
        go_wp2_with fail
        go_quiet (fail)
        go_wp2_with fail
        go_ret
        exact ⟨by rw [Hc.out]; rfl, _, World.drewN_drewN _ _ _⟩
end Go.Proofs.Ytolappilfjhfaaa
namespace Go.Proofs.Ytolappilfjhfaaa
open Go.RowKit Go.Maps Go.WideMaps
open Go.ChangeShapes (lits)

def keyL (key : List UInt8) : Lit := .string key
theorem kstr : Keyed Try.prog 9 := string_keyed Try.underlying9

/-- Block b is the map of the places from lo on, c of them tried. -/
def Stood (H : Type) (w : World) (B b n : Nat) (L : List UInt8) (lo c : Nat) : Prop :=
  ∃ D : DataW H, w.ownsGroups Try.prog 9 (B + 1) 3 .i64 b n D ∧ IsMap D ∧
    ∀ key : List UInt8, key.length = 3 → (D.atKey (.string key) .nil = .nil ∧ plc L key lo c = []) ∨ D.atKey (.string key) .nil = .slice (lits .i64 ((plc L key lo c).map Int.ofNat)) []

theorem lits_inj {H : Type} {xs ys : List Int} (h : lits (H := H) .i64 xs = lits .i64 ys) : xs = ys := by
  unfold lits at h
  exact (List.map_inj_right (f := fun z => DataW.lit (H := H) (.int .i64 z)) (fun a b e => by simpa using e)).1 h
/-- What the look-up has found. -/
theorem stood_zs {H : Type} {w : World} {base : Nat} {e : TypeId} {D : DataW H} {v : Value} {zs : List Int} {ps : List Nat} {key : Lit} (hat : D.atKey key .nil = rowDatum .i64 v zs) (ho : w.ownsInts base e .i64 v zs)
    (h : (D.atKey key .nil = .nil ∧ ps = []) ∨ D.atKey key .nil = .slice (lits .i64 (ps.map Int.ofNat)) []) : zs = ps.map Int.ofNat := by
  rw [hat] at h
  rcases ho.datum (H := H) with ⟨e1, rfl⟩ | e1 <;> rw [e1] at h
  · rcases h with ⟨_, rfl⟩ | h
    · rfl
    · cases h
  · rcases h with ⟨h, _⟩ | h
    · cases h
    · injection h with h
      exact lits_inj h
end Go.Proofs.Ytolappilfjhfaaa
namespace Go.Proofs.Ytolappilfjhfaaa
open Go.RowKit Go.Maps Go.WideMaps
open Go.ChangeShapes (lits)

theorem info_intM : (Try.prog.info? 3).map (fun i => (i.zero, i.size, i.bytes)) = some (some (.int .i64 0), 1, 8) := by kernel_rfl
theorem zeroInts (w : World) : (zeroValue 50).run Try.prog w = .ok (.slice none 0 0) w := by kernel_rfl
theorem key_is (s : ByteArray) (hs : s.size ≤ 17592186044416) : keyOf Try.prog 9 (.string s) = some (.string s.data.toList) := keyOf_string_mk Try.underlying9 (by unfold maxLen; omega)

/-- Nothing below B, and no block of which No holds, has turned, but for B itself. -/
def Bes (No : Nat → Prop) (B : Nat) (w w' : World) : Prop := Below B w w' ∧ ∀ g, No g → g ≠ B → g < w.heap.size → w'.heap[g]? = w.heap[g]?
theorem bes_refl (No : Nat → Prop) (B : Nat) (w : World) : Bes No B w w := ⟨Below.refl _ _, fun _ _ _ _ => rfl⟩
theorem bes_trans {No : Nat → Prop} {B : Nat} {a b c : World} (h : Bes No B a b) (k : Bes No B b c) : Bes No B a c :=
  ⟨h.1.trans k.1, fun g h1 h2 h3 => (k.2 g h1 h2 (Nat.lt_of_lt_of_le h3 h.1.size)).trans (h.2 g h1 h2 h3)⟩
theorem bes_drew {No : Nat → Prop} {B : Nat} {a b : World} (h : Bes No B a b) : Bes No B a b.drew := ⟨h.1.drew, h.2⟩
theorem bes_alloc {No : Nat → Prop} {B : Nat} {a b : World} (h : Bes No B a b) (hB : B ≤ b.heap.size) (o : Obj) : Bes No B a (b.alloc o) :=
  ⟨h.1.alloc hB o, fun g h1 h2 h3 => (Below.heap_alloc b o g (Nat.lt_of_lt_of_le h3 h.1.size)).trans (h.2 g h1 h2 h3)⟩
theorem bes_grown {No : Nat → Prop} {B : Nat} {a w w' : World} {row : Option Nat} (h : Bes No B a w) (hg : w.grownBy w' row) (hB : B ≤ w.heap.size) (hr : ∀ k, row = some k → B ≤ k ∧ (No k → k = B)) : Bes No B a w' :=
  ⟨h.1.grown hg hB fun k hk => (hr k hk).1, fun g h1 h2 h3 => (hg.block g (Nat.lt_of_lt_of_le h3 h.1.size) (fun e => h2 ((hr g e.symm).2 h1))).trans (h.2 g h1 h2 h3)⟩
/-- A row of which No holds stays. -/
theorem bes_row {No : Nat → Prop} {B base e size n : Nat} {v : Value} {cs : List Value} {w w' : World} (hb : Bes No B w w') (h : w.ownsRow base e size v n cs) (hN : ∀ g, v.ownBlock = some g → No g ∧ g ≠ B) : w'.ownsRow base e size v n cs := by
  obtain ⟨hl, h⟩ := h
  refine ⟨hl, ?_⟩
  rcases h with h | ⟨g, cap, cur, rfl, hg, hc, hn, hm, hs, ht⟩
  · exact Or.inl h
  · have hlt : g < w.heap.size := by
      rcases Nat.lt_or_ge g w.heap.size with h | h
      · exact h
      · rw [Array.getElem?_eq_none h] at hc; cases hc
    obtain ⟨h1, h2⟩ := hN g (by simp [Value.ownBlock])
    exact Or.inr ⟨g, cap, cur, rfl, hg, by rw [hb.2 g h1 h2 hlt]; exact hc, hn, hm, hs, ht⟩

theorem extract_row3 (s : ByteArray) (i : Nat) : (s.extract i (i + 3)).data.toList = row3 s.data.toList i := by
  obtain ⟨⟨l⟩⟩ := s
  rw [show ByteArray.mk ⟨l⟩ = ByteArray.mk l.toArray from rfl, ByteArray.extract_mk]
  simp [row3]

/-- The state behind a store. -/
theorem stood_put {H : Type} {D : DataW H} {L : List UInt8} {lo c : Nat} {d : DataW H} (hm : IsMap D) 
    (hD : ∀ key : List UInt8, key.length = 3 → (D.atKey (.string key) .nil = .nil ∧ plc L key lo c = []) ∨ D.atKey (.string key) .nil = .slice (lits .i64 ((plc L key lo c).map Int.ofNat)) [])
    (hd : d = .slice (lits .i64 ((plc L (row3 L (lo + c)) lo c).map Int.ofNat ++ [((lo + c : Nat) : Int)])) []) :
    ∀ key : List UInt8, key.length = 3 → ((D.put (.string (row3 L (lo + c))) d).atKey (.string key) .nil = .nil ∧ plc L key lo (c + 1) = []) ∨ (D.put (.string (row3 L (lo + c))) d).atKey (.string key) .nil = .slice (lits .i64 ((plc L key lo (c + 1)).map Int.ofNat)) [] := by
  intro key hk
  rw [plc_succ]
  by_cases e : row3 L (lo + c) = key
  · subst e
    right
    rw [atKey_put_same hm (by simp [WideAt.IsKeyLit]), hd, if_pos rfl]
    simp
  · rw [atKey_put_other (by simpa using fun h => e h.symm), if_neg e, List.append_nil]
    exact hD key hk
theorem stood_pass {L : List UInt8} {key : List UInt8} {lo c : Nat} (h : L.length < lo + c + 3) (hk : key.length = 3) : plc L key lo (c + 1) = plc L key lo c := by
  rw [plc_succ, if_neg, List.append_nil]
  intro e
  exact row3_short L (lo + c) h (by rw [e]; exact hk)

set_option maxRecDepth 100000 in
set_option maxHeartbeats 4000000 in
theorem add_any {H : Type} (No : Nat → Prop) (s : ByteArray) (B n lo c : Nat) (w : World) (hst : Stood H w B B n s.data.toList lo c) (hsh : w.Shuns B No) (hN : ∀ g, No g → g < w.heap.size) (hs : s.size ≤ 1099511627776) (ha : lo + c ≤ s.size) (hn : n ≤ 1099511627776) :
    Calls Try.prog 67 #[.map (some B), .string s, .int .i64 ((lo + c : Nat) : Int)] w fun e w' => (∃ v, e = .returned v) ∧ Stood H w' B B (n + 1) s.data.toList lo (c + 1) ∧ w'.Shuns B No ∧ Bes No B w w' := by
  obtain ⟨i0, hi, hz0, hz1, hz2⟩ := info_parts info_intM
  have hl : s.data.toList.length = s.size := by simp
  generalize hat' : lo + c = at' at *
  go_enter Try.func67, Try.ntmps67
  by_cases h3 : s.size < at' + 3
  · go_wp2_with fail
    first | go_end0 | refine bodyPost_ret (results_none rfl _ _ _) rfl ?_
    obtain ⟨D, hown, hm, hD⟩ := hst
    refine ⟨⟨_, rfl⟩, ⟨D, ?_, hm, fun key hk => ?_⟩, hsh, bes_refl _ _ _⟩
    · obtain ⟨es, clock, h1, h2, h3, h4, h5, h6, h7⟩ := hown
      exact ⟨es, clock, h1, h2, by omega, h4, h5, fun x hx zs hz => by have := h6 x hx zs hz; omega, h7⟩
    · rw [stood_pass (by omega) hk]
      exact hD key hk
  · obtain ⟨D, hown, hm, hD⟩ := hst
    have HD := Lib.hid hD
    clear hD
    have hkey := key_is (s.extract at' (at' + 3)) (by simp; omega)
    have hx := extract_row3 s at'
    rw [hx] at hkey
    have HX := Lib.hid hx
    clear hx
    have hrl : (row3 s.data.toList at').length = 3 := by simp [row3]; omega
    have hblt : B < w.heap.size := by
      obtain ⟨es, clock, h1, _⟩ := hown
      exact (Array.getElem?_eq_some_iff.1 h1).1
    have hwf : (Lit.int .i64 (at' : Int)).wf = true := WalkArith.wf_i64 (by omega)
    go_wp2_with (first
      | (at_lookup; refine wpList_lookup_groups_shuns _ rfl _ _ 83 rfl 9 50 3 .i64 kstr Try.underlying83 (zeroInts _) (B + 1) B n _ rfl hown (by unfold maxLen; omega) _ _ rfl hkey ?_; intro v zs hat hoi hzl hback hshv)
      | (at_builtin; refine wpList_append_own_at _ rfl _ _ 50 rfl (B + 1) 3 i0 (.int .i64 0) 1 8 Try.underlying50 hi hz0 hz1 hz2 rfl (by decide) v _ _ rfl (hoi.1.alloc _) ⟨w.heap.size, 0, none⟩ 1 1 [.int .i64 at'] rfl rfl (cell_one_new _ _ _) (ints_oneCell .i64 [(at' : Int)]) (by unfold maxLen; omega) (by omega) (by simp; omega) ?_; intro v' w1 hown' hgrow hnil hloc)
      | (at_mapUpdate; refine wpList_mapUpdate_back_shuns _ rfl _ _ _ 83 rfl kstr Try.underlying83 hkey hown (by unfold maxLen; omega) hoi hsh ?hno hback rfl rfl rfl ((World.grownBy_alloc _ _ _).trans hgrow) (hoi.appended hown' hwf) (by simp; omega) (hloc.imp id (fun h => ⟨_, h, by simp⟩)) ?_; rotate_left; intro w2 hown2 hgrow2 hsh2)
      | fail)
    · go_end0
      have hzs := stood_zs hat hoi (HD.out _ hrl)
      refine ⟨⟨_, rfl⟩, ⟨_, hown2, hm.put _ _, ?_⟩, hsh2, ?_⟩
      · subst hat'
        refine stood_put hm HD.out ?_
        show rowDatum .i64 v' (zs ++ [((lo + c : Nat) : Int)]) = _
        rw [(hoi.appended hown' hwf).datum_pos (by simp), hzs]
      · refine bes_grown (bes_grown (bes_refl _ _ _) ((World.grownBy_alloc _ _ _).trans hgrow) (by omega) fun k hk => ⟨?_, fun hNk => absurd hNk (hshv No hsh k hk)⟩) hgrow2 (by have := hgrow.size; simp at this; omega) fun k hk => by cases hk; exact ⟨Nat.le_refl _, fun _ => rfl⟩
        have := (hoi.1.lt k hk).1
        omega
    · intro g hg hNg
      rcases hloc with h | h
      · exact hshv No hsh g (by rw [← h]; exact hg) hNg
      · rw [h] at hg
        have h1 := hN g hNg
        simp at hg
        omega
end Go.Proofs.Ytolappilfjhfaaa
namespace Go.Proofs.Ytolappilfjhfaaa
open Go.RowKit Go.Maps Go.WideMaps
open Go.ChangeShapes (lits)

theorem pair_ret {a b c d : Int} (h1 : a = c) (h2 : b = d) : Ending.returned (.tuple #[.int .i64 a, .int .i64 b]) = Ending.returned (.tuple #[.int .i64 c, .int .i64 d]) := by rw [h1, h2]

set_option maxRecDepth 100000 in
set_option maxHeartbeats 4000000 in
theorem longest_in {H : Type} (s : ByteArray) (B n lo c : Nat) (w : World) (hst : Stood H w B B n s.data.toList lo c) (hs : s.size ≤ 1099511627776) (ha : lo + c ≤ s.size) (hlo : lo ≤ lo + c - 255) (hn : n ≤ 1099511627776) :
    Calls Try.prog 66 #[.map (some B), .string s, .int .i64 ((lo + c : Nat) : Int)] w fun e w' => e = .returned (.tuple #[.int .i64 ((longP s.data.toList (lo + c)).1 : Int), .int .i64 ((longP s.data.toList (lo + c)).2 : Int)]) ∧ ∃ m, w' = w.drewN m := by
  have hl : s.data.toList.length = s.size := by simp
  have HL := Lib.hid hl
  have Hlo := Lib.hid hlo
  clear hlo
  by_cases h3 : s.size < lo + c + 3
  · have hlg := long_short (L := s.data.toList) (at' := lo + c) (by omega)
    rw [hlg]
    generalize lo + c = at' at *
    clear hl
    go_enter Try.func66, Try.ntmps66
    go_wp2_with fail
    refine bodyPost_ret (results_tmp2 rfl _ _ _) rfl ?_
    exact ⟨rfl, 0, rfl⟩
  · obtain ⟨D, hown, hm, hD⟩ := hst
    have hlpA := fun h3 => lp_all (L := s.data.toList) (at' := lo + c) (lo := lo) (c := c) h3 Hlo.out rfl
    have hps := fun j => @plc_lt s.data.toList (row3 s.data.toList (lo + c)) lo c j
    generalize hat' : lo + c = at' at *
    have hrl : (row3 s.data.toList at').length = 3 := by simp [row3]; omega
    have HD := Lib.hid (hD _ hrl)
    clear hD
    have HlpA := Lib.hid (hlpA (by omega))
    clear hlpA hl
    have hkey := key_is (s.extract at' (at' + 3)) (by simp; omega)
    have hx := extract_row3 s at'
    rw [hx] at hkey
    have HX := Lib.hid hx
    clear hx
    generalize hpsd : plc s.data.toList (row3 s.data.toList at') lo c = ps at *
    have Hps := Lib.hid hps
    clear hps
    go_enter Try.func66, Try.ntmps66
    go_wp2_with (first
      | (at_lookup; refine wpList_lookup_groups _ rfl _ _ 83 rfl 9 50 3 .i64 kstr Try.underlying83 (zeroInts _) (B + 1) B n _ rfl hown (by unfold maxLen; omega) _ _ rfl hkey ?_; intro v zs hat hoi hzl hback; clear hback; obtain ⟨a0, cap0, rfl, _⟩ := owns_shape hoi.1; clear hown; have hsl := (sl_of_owns hoi.1).1; have hzs := stood_zs hat hoi HD.out; clear hat hoi; subst hzs; rw [List.length_map] at *)
      | fail)
    generalize hpl : ps.length = len0 at *
    have Hpl := Lib.hid hpl
    clear hpl
    go_loopw [8, 9, 11, 12] (fun um ud ui un wr => ∃ m d k : Nat, um = .int .i64 m ∧ ud = .int .i64 d ∧ k ≤ len0 ∧ ui = .int .i64 ((k : Int) - 1) ∧ m ≤ 18 ∧ d ≤ 255 ∧ lp s.data.toList at' (ps.take k).reverse (m, d) = longP s.data.toList at' ∧ ∃ q, wr = w.drewN q) (fun _ _ ui _ _ => (intOf ui + 1).toNat)
    case atStart =>
      refine ⟨0, 0, len0, rfl, rfl, Nat.le_refl _, rfl, by omega, by omega, ?_, 0, rfl⟩
      rw [← Hpl.out, List.take_length]
      exact HlpA.out
    case round =>
      obtain ⟨m, d, k, rfl, rfl, hk, rfl, hm18, hd, hlp, q, hq⟩ := hrel
      have Hq := Lib.hid hq
      clear hq
      rcases k with _ | j
      · have HLP := Lib.hid (show longP s.data.toList at' = (m, d) by rw [← hlp]; rfl)
        clear hlp
        rw [show (((0 : Nat) : Int) - 1) = -1 from rfl]
        go_wp2_with fail
        refine bodyPost_ret (results_tmp2 rfl _ _ _) rfl ?_
        exact ⟨by rw [HLP.out]; rfl, q, Hq.out⟩
      · rw [show (((j + 1 : Nat) : Int) - 1) = (j : Int) by omega]
        have hjl : j < ps.length := by rw [Hpl.out]; omega
        have hxm := Hps.out _ (List.getElem_mem hjl)
        rw [List.take_succ_eq_append_getElem hjl, List.reverse_append, List.reverse_singleton, List.singleton_append] at hlp
        obtain ⟨h0, _⟩ | ⟨_, b, off, cap, hv, hcl, hb, hcell⟩ := sl_one hsl
        · rw [List.map_eq_nil_iff] at h0
          rw [h0] at hjl
          exact absurd hjl (by simp)
        · injection hv with e1 e2 e3
          subst e1 e3
          have hx0 : wr.cell? ⟨b, off + j, none⟩ = some (.int .i64 ((ps[j] : Nat) : Int)) := by
            rw [Hq.out]
            have := hcell j (by simpa using hjl)
            rw [List.getElem_map] at this
            exact this
          clear hcell hsl
          generalize ps[j] = x at *
          obtain ⟨_, hxa, _⟩ := hxm
          have Hcl := Lib.hid hcl
          clear hcl e2
          by_cases hf : 255 < at' - x
          · have b1 : decide ((at' : Int) - (x : Int) ≤ 255) = false := by simp; omega
            have HLP := Lib.hid (show longP s.data.toList at' = (m, d) by rw [← hlp, lp, if_pos hf])
            clear hlp
            go_wp2_with fail
            refine bodyPost_ret (results_tmp2 rfl _ _ _) rfl ?_
            exact ⟨by rw [HLP.out]; rfl, q, Hq.out⟩
          · have b1 : decide ((at' : Int) - (x : Int) ≤ 255) = true := by simp; omega
            rw [lp, if_neg hf] at hlp
            have HLP := Lib.hid hlp
            clear hlp
            have hcom := common_any s at' (at' - x) wr (by omega) (by omega) (by omega)
            rw [show ((at' - x : Nat) : Int) = (at' : Int) - (x : Int) by omega] at hcom
            have hcle := com_le s.data.toList at' (at' - x)
            go_wp2_with fail
            refine hcom.mono ?_
            rintro e w2 ⟨rfl, q2, hq2⟩
            have Hq2 := Lib.hid hq2
            clear hq2
            have hx2 : w2.cell? ⟨b, off + j, none⟩ = some (.int .i64 ((x : Nat) : Int)) := by rw [Hq2.out]; exact hx0
            have HLP2 := HLP.out
            clear HLP hcom
            generalize com s.data.toList at' (at' - x) = n0 at *
            by_cases hgt : m < n0
            · have b2 : decide ((n0 : Int) > (m : Int)) = true := by simp; omega
              have b3 : decide ((m : Int) < (n0 : Int)) = true := by simp; omega
              have x1 : IntKind.i64.wrap ((at' : Int) - (x : Int)) = (at' : Int) - (x : Int) := IntWalk.i64_in _ (by omega)
              rw [if_pos hgt] at HLP2
              have hdx : ((at' - x : Nat) : Int) = (at' : Int) - (x : Int) := by omega
              have Hdx := Lib.hid hdx
              clear hdx
              by_cases h18 : n0 = 18
              · rw [if_pos h18] at HLP2
                have HLP := Lib.hid HLP2.symm
                clear HLP2
                subst h18
                go_wp2_with fail
                go_quiet (fail)
                go_wp2_with fail
                refine bodyPost_ret (results_tmp2 rfl _ _ _) rfl ?_
                refine ⟨by rw [HLP.out]; exact pair_ret rfl Hdx.out.symm, _, by rw [Hq2.out, Hq.out]; simp only [World.drewN_drewN]; rfl⟩
              · rw [if_neg h18] at HLP2
                have HLP := Lib.hid HLP2
                clear HLP2
                have b4 : ((n0 : Int) == 18) = false := by simp; omega
                go_wp2_with fail
                go_quiet (fail)
                go_wp2_with fail
                exact ⟨⟨n0, at' - x, j, rfl, by rw [Hdx.out], by omega, rfl, by omega, by omega, HLP.out, _, by rw [Hq2.out, Hq.out]; simp only [World.drewN_drewN]; rfl⟩, by simp [intOf]⟩
            · have b2 : decide ((n0 : Int) > (m : Int)) = false := by simp; omega
              have b3 : decide ((m : Int) < (n0 : Int)) = false := by simp; omega
              rw [if_neg hgt] at HLP2
              by_cases h18 : m = 18
              · rw [if_pos h18] at HLP2
                have HLP := Lib.hid HLP2.symm
                clear HLP2
                subst h18
                go_wp2_with fail
                refine bodyPost_ret (results_tmp2 rfl _ _ _) rfl ?_
                exact ⟨by rw [HLP.out]; rfl, _, by rw [Hq2.out, Hq.out]; simp only [World.drewN_drewN]; rfl⟩
              · rw [if_neg h18] at HLP2
                have HLP := Lib.hid HLP2
                clear HLP2
                have b4 : ((m : Int) == 18) = false := by simp; omega
                go_wp2_with fail
                exact ⟨⟨m, d, j, rfl, rfl, by omega, rfl, by omega, by omega, HLP.out, _, by rw [Hq2.out, Hq.out]; simp only [World.drewN_drewN]; rfl⟩, by simp [intOf]⟩
end Go.Proofs.Ytolappilfjhfaaa
namespace Go.Proofs.Ytolappilfjhfaaa
open Go.RowKit Go.Maps Go.WideMaps
open Go.ChangeShapes (lits)

theorem stood_made (w : World) (L : List UInt8) (lo : Nat) : Stood Unit (w.alloc (.map #[] 0)) w.heap.size w.heap.size 0 L lo 0 :=
  ⟨.map [], World.ownsGroups_made _ _ _ _ _, isMap_empty, fun _ _ => Or.inl ⟨rfl, rfl⟩⟩

theorem belowDrewN {B : Nat} {a w : World} (h : Below B a w) (n : Nat) : Below B a (w.drewN n) := h.trans ⟨rfl, rfl, rfl, Nat.le_refl _, fun _ _ => rfl⟩

theorem stood_lt {H : Type} {w : World} {B n : Nat} {L : List UInt8} {lo c : Nat} (h : Stood H w B B n L lo c) : B < w.heap.size := by
  obtain ⟨D, ⟨es, clock, h1, _⟩, _⟩ := h
  exact (Array.getElem?_eq_some_iff.1 h1).1

end Go.Proofs.Ytolappilfjhfaaa
namespace Go.Proofs.Ytolappilfjhfaaa
open Go.RowKit Go.Maps Go.WideMaps
open Go.ChangeShapes (lits)

abbrev tokE : TokT → List Value := fun t => [.int .i64 t.1, .int .i64 t.2.1, .int .i64 t.2.2]
def cellsT (l : List TokT) : List Value := l.flatMap tokE
theorem cellsT_length (l : List TokT) : (cellsT l).length = l.length * 3 := by
  induction l with
  | nil => rfl
  | cons t l ih => simp [cellsT] at ih ⊢; omega
theorem cellsT_get (l : List TokT) : ∀ i (hi : i < l.length) j, j < 3 → (cellsT l)[i * 3 + j]? = (tokE l[i])[j]? := by
  induction l with
  | nil => intro i hi; simp at hi
  | cons t l ih =>
    intro i hi j hj
    have e : cellsT (t :: l) = tokE t ++ cellsT l := by simp [cellsT]
    rw [e]
    rcases i with _ | i
    · rw [Nat.zero_mul, Nat.zero_add, List.getElem?_append_left (by simp; omega)]
      rfl
    · rw [List.getElem?_append_right (by simp; omega)]
      have := ih i (by simpa using hi) j hj
      rw [show (i + 1) * 3 + j - (tokE t).length = i * 3 + j by simp; omega, this]
      rfl
theorem cellsT_snoc (l : List TokT) (t : TokT) : cellsT (l ++ [t]) = cellsT l ++ tokE t := by simp [cellsT]
theorem info_tok : (Try.prog.info? 30).map (fun i => (i.zero, i.size, i.bytes)) = some (some (.agg #[.int .i64 0, .int .i64 0, .int .i64 0]), 3, 24) := by kernel_rfl

abbrev ToksR (w : World) (v : Value) (l : List TokT) : Prop := SlOf w v 3 tokE l
/-- A row of the call's own reads as tokens. -/
theorem toks_of_owns {w : World} {base e n : Nat} {v : Value} {l : List TokT} (h : w.ownsRow base e 3 v n (cellsT l)) : ToksR w v l ∧ n = l.length := by
  obtain ⟨hl, h⟩ := h
  rw [cellsT_length] at hl
  obtain rfl : n = l.length := by omega
  refine ⟨?_, rfl⟩
  rcases h with ⟨rfl, h0⟩ | ⟨g, cap, cur, rfl, hg, hc, hn, hm, hs, ht⟩
  · obtain rfl := List.length_eq_zero_iff.1 h0
    exact sl_nil fun _ => rfl
  · refine ⟨_, cap, rfl, hn, nofun, Or.inr ⟨g, 0, rfl, ?_, fun i hi j hj => ?_⟩⟩
    · rcases Nat.lt_or_ge g w.heap.size with h | h
      · exact h
      · rw [Array.getElem?_eq_none h] at hc; cases hc
    · have h1 : (cur.toList.take (l.length * 3))[i * 3 + j]? = (cellsT l)[i * 3 + j]? := by rw [ht]
      rw [cellsT_get l i hi j hj, List.getElem?_take_of_lt (by omega)] at h1
      simp only [World.cell?, hc, Nat.zero_add]
      simpa using h1
theorem cells_three_newM (w : World) (x y z : Value) (t : TypeId) : ∀ j u, [x, y, z][j]? = some u → (w.alloc (.cells #[x, y, z] t)).cell? ((⟨w.heap.size, 0, none⟩ : Addr).add j) = some u := by
  intro j u hj
  rw [add_none, Nat.zero_add, World.cell?_alloc_new]
  simpa using hj

theorem grown_drewN (w : World) (q : Nat) : w.grownBy (w.drewN q) none := ⟨rfl, rfl, rfl, Nat.le_refl _, fun _ _ _ => rfl⟩
theorem stood_kept {H : Type} {w w' : World} {B n : Nat} {L : List UInt8} {lo c : Nat} {row : Option Nat} (h : Stood H w B B n L lo c) (hg : w.grownBy w' row) (hb : some B ≠ row) {No : Nat → Prop} (hs : w.Shuns B No) (hr : ∀ j, row = some j → No j) : Stood H w' B B n L lo c := by
  obtain ⟨D, hown, hm, hD⟩ := h
  exact ⟨D, hown.kept hg hb (hs.rowsOff hr), hm, hD⟩
theorem stood_reno {H : Type} {w : World} {B n : Nat} {L : List UInt8} {lo c : Nat} {No No' : Nat → Prop} (h : Stood H w B B n L lo c) (hs : w.Shuns B No) (hn : ∀ g, No' g → No g ∨ w.heap.size ≤ g) : w.Shuns B No' := by
  obtain ⟨D, hown, _, _⟩ := h
  exact hs.reno hown hn

/-- What stands in the loops of Split. -/
def InSplit (w wr : World) (L : List UInt8) (ul : Value) (pre : List TokT) (i : Nat) : Prop :=
  wr.ownsRow (w.heap.size + 1) 30 3 ul pre.length (cellsT pre) ∧ Stood Unit wr w.heap.size w.heap.size i L 0 i ∧ wr.Shuns w.heap.size (fun g => ul.ownBlock = some g) ∧ Below w.heap.size w wr

theorem insplit_drewN {w wr : World} {L : List UInt8} {ul : Value} {pre : List TokT} {i : Nat} (h : InSplit w wr L ul pre i) (q : Nat) : InSplit w (wr.drewN q) L ul pre i := by
  obtain ⟨h1, h2, h3, h4⟩ := h
  have hlt := stood_lt h2
  exact ⟨h1.kept (grown_drewN wr q) (by cases ul.ownBlock <;> simp), stood_kept h2 (grown_drewN wr q) (by simp) h3 (fun j hj => by cases hj), h3.kept (grown_drewN wr q) hlt (by simp), belowDrewN h4 q⟩

/-- Behind an append. -/
theorem insplit_put {w wr w3 : World} {L : List UInt8} {ul ul' : Value} {pre : List TokT} {i : Nat} {t : TokT} {e : TypeId} {cs : Array Value} (h : InSplit w wr L ul pre i)
    (hown : w3.ownsRow (w.heap.size + 1) 30 3 ul' (pre.length + 1) (cellsT pre ++ tokE t)) (hg : (wr.alloc (.cells cs e)).grownBy w3 ul.ownBlock)
    (hloc : ul'.ownBlock = ul.ownBlock ∨ ul'.ownBlock = some (wr.alloc (.cells cs e)).heap.size) : InSplit w w3 L ul' (pre ++ [t]) i := by
  obtain ⟨h1, h2, h3, h4⟩ := h
  have hlt := stood_lt h2
  have hg' := (World.grownBy_alloc wr (.cells cs e) _).trans hg
  have hB : some w.heap.size ≠ ul.ownBlock := fun e => by have := owns_block h1 _ e.symm; omega
  have hs' : wr.Shuns w.heap.size (fun g => ul'.ownBlock = some g) := stood_reno h2 h3 fun g hg => by
    rcases hloc with h | h
    · exact Or.inl (by rw [← h]; exact hg)
    · right; rw [h] at hg; simp at hg; omega
  refine ⟨by rw [cellsT_snoc, List.length_append, List.length_singleton]; exact hown, stood_kept h2 hg' hB h3 (fun j hj => hj), hs'.kept hg' hlt hB, h4.grown hg' h4.size fun k hk => ?_⟩
  have := owns_block h1 k hk
  omega

/-- Behind an add. -/
theorem insplit_add {w wr w3 : World} {L : List UInt8} {ul : Value} {pre : List TokT} {i : Nat} (h : InSplit w wr L ul pre i) (hst : Stood Unit w3 w.heap.size w.heap.size (i + 1) L 0 (i + 1)) (hsh : w3.Shuns w.heap.size (fun g => ul.ownBlock = some g)) (hb : Bes (fun g => ul.ownBlock = some g) w.heap.size wr w3) : InSplit w w3 L ul pre (i + 1) := by
  obtain ⟨h1, h2, h3, h4⟩ := h
  exact ⟨bes_row hb h1 fun g hg => ⟨hg, by have := owns_block h1 g hg; omega⟩, hst, hsh, h4.trans hb.1⟩
end Go.Proofs.Ytolappilfjhfaaa
namespace Go.Proofs.Ytolappilfjhfaaa
open Go.RowKit Go.Maps Go.WideMaps
open Go.ChangeShapes (lits)

theorem tokE_one (t : TokT) : ∀ u ∈ tokE t, u.oneCell' = true := by
  intro u hu
  simp only [tokE, List.mem_cons, List.not_mem_nil, or_false] at hu
  rcases hu with rfl | rfl | rfl <;> rfl
theorem add_insplit {w wr : World} (s : ByteArray) {ul : Value} {pre : List TokT} {i : Nat} (h : InSplit w wr s.data.toList ul pre i) (hs : s.size ≤ 1099511627776) (hi : i ≤ s.size) :
    Calls Try.prog 67 #[.map (some w.heap.size), .string s, .int .i64 i] wr fun e w' => (∃ v, e = .returned v) ∧ InSplit w w' s.data.toList ul pre (i + 1) := by
  have h' := h
  obtain ⟨h1, h2, h3, h4⟩ := h
  have hc := add_any (fun g => ul.ownBlock = some g) s w.heap.size i 0 i wr h2 h3 (fun g hg => (h1.lt g hg).2) hs (by omega) (by omega)
  rw [Nat.zero_add] at hc
  exact hc.mono fun e w3 ⟨hv, hst, hsh, hb⟩ => ⟨hv, insplit_add h' hst hsh hb⟩
theorem longest_insplit {w wr : World} (s : ByteArray) {ul : Value} {pre : List TokT} {i : Nat} (h : InSplit w wr s.data.toList ul pre i) (hs : s.size ≤ 1099511627776) (hi : i ≤ s.size) :
    Calls Try.prog 66 #[.map (some w.heap.size), .string s, .int .i64 i] wr fun e w' => e = .returned (.tuple #[.int .i64 ((longP s.data.toList i).1 : Int), .int .i64 ((longP s.data.toList i).2 : Int)]) ∧ InSplit w w' s.data.toList ul pre i := by
  have hc := longest_in s w.heap.size i 0 i wr h.2.1 hs (by omega) (Nat.zero_le _) (by omega)
  rw [Nat.zero_add] at hc
  exact hc.mono fun e w3 ⟨hv, q, hq⟩ => ⟨hv, by rw [hq]; exact insplit_drewN h q⟩

set_option maxRecDepth 100000 in
set_option maxHeartbeats 8000000 in
theorem split_any (s : ByteArray) (w : World) (hs : s.size ≤ 1099511627776) :
    Calls Try.prog 46 #[.string s] w fun e w' => ∃ v, e = .returned v ∧ ToksR w' v (spl s.data.toList s.size 0) ∧ (∃ a cap, v = .slice a (spl s.data.toList s.size 0).length cap) ∧ Below w.heap.size w w' := by
  have hmm := @run_makeMap Try.prog
  obtain ⟨i0, hi, hz0, hz1, hz2⟩ := info_parts info_tok
  have hl : s.data.toList.length = s.size := by simp
  have HL := Lib.hid hl
  clear hl
  have hI0 : InSplit w (w.alloc (.map #[] 0)) s.data.toList (.slice none 0 0) [] 0 :=
    ⟨World.ownsRow_nil _ _ _ _, stood_made w s.data.toList 0, World.Shuns_made w _, (Below.refl _ _).alloc (Nat.le_refl _) _⟩
  have HI0 := Lib.hid hI0
  clear hI0
  go_enter Try.func46, Try.ntmps46
  go_wp2_with fail
  go_step3
  go_wp2_with fail
  go_step3
  go_wp2_with fail
  generalize w.alloc (.map #[] 0) = w1 at *
  go_loopw [3, 5] (fun ul ui wr => ∃ (pre : List TokT) (i f : Nat), ui = .int .i64 i ∧ i ≤ s.size ∧ s.size ≤ i + f ∧ pre.length ≤ i ∧ pre ++ spl s.data.toList f i = spl s.data.toList s.size 0 ∧ InSplit w wr s.data.toList ul pre i) (fun _ ui _ => s.size - (intOf ui).toNat)
  case atStart => exact ⟨[], 0, s.size, rfl, Nat.zero_le _, by omega, Nat.le_refl _, rfl, HI0.out⟩
  case round =>
    obtain ⟨pre, i, f, rfl, hi1, hf, hpl, hspl, hin⟩ := hrel
    obtain ⟨a0, c0, rfl, _⟩ := owns_shape hin.1
    have Hspl := Lib.hid hspl
    have Hin := Lib.hid hin
    clear hspl hin HI0
    by_cases hend : i = s.size
    · subst hend
      have hres : spl s.data.toList s.size 0 = pre := by
        rw [← Hspl.out]
        cases f with
        | zero => simp [spl]
        | succ f => rw [spl, if_neg (by have := HL.out; omega), List.append_nil]
      have Hres := Lib.hid hres
      clear hres
      go_wp2_with fail
      rw [Exit.noGoto_ret]
      go_ret
      rw [Hres.out]
      exact ⟨_, rfl, (toks_of_owns Hin.out.1).1, ⟨a0, c0, rfl⟩, Hin.out.2.2.2⟩
    · have hlt : i < s.size := by omega
      obtain ⟨f, rfl⟩ : ∃ g, f = g + 1 := ⟨f - 1, by omega⟩
      have hsp := Hspl.out
      rw [spl, if_pos (by rw [HL.out]; exact hlt), bt_get s i hlt] at hsp
      have hcall := longest_insplit s Hin.out hs hi1
      have hlc := long_cases s.data.toList i
      rw [HL.out] at hlc
      generalize longP s.data.toList i = nd at *
      obtain ⟨n, d⟩ := nd
      dsimp only at hsp hcall hlc
      by_cases hn : n = 0
      · rw [if_pos hn] at hsp
        have Hsp := Lib.hid hsp
        clear hsp hlc
        subst hn
        have hbl := s[i].toNat_lt
        have hbw : wrap64 (s[i].toNat : Int) = (s[i].toNat : Int) := IntWalk.wrap64_in _ (by omega)
        go_wp2_with fail
        refine hcall.mono ?_
        rintro e w2 ⟨rfl, hin2⟩
        have Hin2 := Lib.hid hin2
        clear hin2 hcall Hin
        go_wp2_with (first
          | (at_builtin; refine wpList_append_own_at _ rfl _ _ 22 rfl (w.heap.size + 1) 30 i0 _ 3 24 Try.underlying22 hi hz0 hz1 hz2 rfl (by decide) (.slice a0 pre.length c0) _ _ rfl (Hin2.out.1.alloc _) ⟨w2.heap.size, 0, none⟩ 1 1 (tokE ((s[i].toNat : Int), 0, 0)) rfl rfl (cells_three_newM _ _ _ _ _) (tokE_one _) (by simp [maxLen]; omega) (by omega) (by have := stood_lt Hin2.out.2.1; simp; omega) ?_; intro v3 w3 hown3 hgrow3 _ hloc3)
          | fail)
        have Hin3 := Lib.hid (insplit_put (t := ((s[i].toNat : Int), 0, 0)) Hin2.out hown3 hgrow3 hloc3)
        clear hown3 hgrow3 hloc3 Hin2
        have hadd := add_insplit s Hin3.out hs hi1
        refine hadd.mono ?_
        rintro e w4 ⟨⟨v, rfl⟩, hin4⟩
        have Hin4 := Lib.hid hin4
        clear hin4 hadd Hin3
        go_wp2_with fail
        exact ⟨⟨pre ++ [((s[i].toNat : Int), 0, 0)], i + 1, f, by go_num, by omega, by omega, by simp; omega, by rw [List.append_assoc, List.singleton_append]; exact Hsp.out, Hin4.out⟩, by simp [intOf]; omega⟩
      · rw [if_neg hn] at hsp
        have Hsp := Lib.hid hsp
        obtain ⟨hn3, hn18, hd1, hd255, hdi, hin', _⟩ : 3 ≤ n ∧ n ≤ 18 ∧ 1 ≤ d ∧ d ≤ 255 ∧ d ≤ i ∧ i + n ≤ s.size ∧ True := by
          rcases hlc with h | h
          · injection h with h1 h2
            exact absurd h1 hn
          · exact ⟨h.1, h.2.1, h.2.2.1, h.2.2.2.1, h.2.2.2.2.1, h.2.2.2.2.2.1, trivial⟩
        clear hsp hlc
        go_wp2_with fail
        refine hcall.mono ?_
        rintro e w2 ⟨rfl, hin2⟩
        have Hin2 := Lib.hid hin2
        clear hin2 hcall Hin
        go_wp2_with (first
          | (at_builtin; refine wpList_append_own_at _ rfl _ _ 22 rfl (w.heap.size + 1) 30 i0 _ 3 24 Try.underlying22 hi hz0 hz1 hz2 rfl (by decide) (.slice a0 pre.length c0) _ _ rfl (Hin2.out.1.alloc _) ⟨w2.heap.size, 0, none⟩ 1 1 (tokE (0, (d : Int), (n : Int))) rfl rfl (cells_three_newM _ _ _ _ _) (tokE_one _) (by simp [maxLen]; omega) (by omega) (by have := stood_lt Hin2.out.2.1; simp; omega) ?_; intro v3 w3 hown3 hgrow3 _ hloc3)
          | fail)
        have Hin3 := Lib.hid (insplit_put (t := (0, (d : Int), (n : Int))) Hin2.out hown3 hgrow3 hloc3)
        clear hown3 hgrow3 hloc3 Hin2
        go_loopw [5, 43] (fun ui uk wr => ∃ k : Nat, uk = .int .i64 k ∧ ui = .int .i64 ((i + k : Nat) : Int) ∧ k ≤ n ∧ InSplit w wr s.data.toList v3 (pre ++ [(0, (d : Int), (n : Int))]) (i + k)) (fun _ uk _ => n - (intOf uk).toNat)
        case atStart => exact ⟨0, rfl, rfl, Nat.zero_le _, Hin3.out⟩
        case round =>
          obtain ⟨k, rfl, rfl, hk, hin4⟩ := hrel
          have Hin4 := Lib.hid hin4
          clear hin4 Hin3
          by_cases hkn : k = n
          · subst hkn
            go_wp2_with fail
            exact ⟨⟨pre ++ [(0, (d : Int), (k : Int))], i + k, f, rfl, by omega, by omega, by simp; omega, by rw [List.append_assoc, List.singleton_append]; exact Hsp.out, Hin4.out⟩, by simp [intOf]; omega⟩
          · have hadd := add_insplit s Hin4.out hs (by omega)
            go_wp2_with fail
            refine hadd.mono ?_
            rintro e w5 ⟨⟨v, rfl⟩, hin5⟩
            have Hin5 := Lib.hid hin5
            clear hin5 hadd
            go_wp2_with fail
            exact ⟨⟨k + 1, by go_num, by go_num, by omega, Hin5.out⟩, by simp [intOf]; omega⟩
end Go.Proofs.Ytolappilfjhfaaa
namespace Go.Proofs.Ytolappilfjhfaaa
open Go.RowKit

theorem may_other {b d n : Int} (h : ¬ (d = 0 ∧ n = 0)) : mayT (b, d, n) = (decide (b = 0) && decide (1 ≤ d) && decide (d ≤ 255) && decide (3 ≤ n) && decide (n ≤ 18)) := if_neg h

set_option maxRecDepth 100000 in
set_option maxHeartbeats 4000000 in
theorem may_any (b d n : Int) (w : World) :
    Calls Try.prog 39 #[.agg #[.int .i64 b, .int .i64 d, .int .i64 n]] w fun e w' => e = .returned (.bool (mayT (b, d, n))) ∧ Below w.heap.size w w' := by
  have fin : ∀ (w' : World) (r : Bool), Below w.heap.size w w' → r = mayT (b, d, n) → ((Ending.returned (.bool r)) = .returned (.bool (mayT (b, d, n))) ∧ Below w.heap.size w w') := fun w' r hb h => by rw [h]; exact ⟨rfl, hb⟩
  by_cases hx : d = 0
  · by_cases hy : n = 0
    · subst hx hy
      by_cases h1 : b < 0
      · go_enter Try.func39, Try.ntmps39
        go_wp2
        go_ret
        refine fin _ _ ((Below.refl _ _).alloc (Nat.le_refl _) _) ?_
        simp [mayT]; omega
      · go_enter Try.func39, Try.ntmps39
        go_wp2
        go_ret
        refine fin _ _ ((Below.refl _ _).alloc (Nat.le_refl _) _) ?_
        rw [mayT, if_pos ⟨rfl, rfl⟩, show decide ((0 : Int) ≤ b) = true by simp; omega]; rfl
    · subst hx
      have hmo := Lib.hid (may_other (b := b) (d := 0) (n := n) (by omega))
      by_cases h1 : b = 0
      · subst h1
        go_enter Try.func39, Try.ntmps39
        go_wp2
        go_ret
        refine fin _ _ ((Below.refl _ _).alloc (Nat.le_refl _) _) ?_
        rw [hmo.out]; simp
      · go_enter Try.func39, Try.ntmps39
        go_wp2
        go_ret
        refine fin _ _ ((Below.refl _ _).alloc (Nat.le_refl _) _) ?_
        rw [hmo.out]; simp [h1]
  · have hmo := Lib.hid (may_other (b := b) (d := d) (n := n) (by omega))
    by_cases h1 : b = 0
    · subst h1
      by_cases h2 : d < 1
      · go_enter Try.func39, Try.ntmps39
        go_wp2
        go_ret
        refine fin _ _ ((Below.refl _ _).alloc (Nat.le_refl _) _) ?_
        rw [hmo.out]; simp; omega
      by_cases h3 : 255 < d
      · go_enter Try.func39, Try.ntmps39
        go_wp2
        go_ret
        refine fin _ _ ((Below.refl _ _).alloc (Nat.le_refl _) _) ?_
        rw [hmo.out]; simp; omega
      by_cases h4 : n < 3
      · go_enter Try.func39, Try.ntmps39
        go_wp2
        go_ret
        refine fin _ _ ((Below.refl _ _).alloc (Nat.le_refl _) _) ?_
        rw [hmo.out]; simp; omega
      go_enter Try.func39, Try.ntmps39
      go_wp2
      go_ret
      refine fin _ _ ((Below.refl _ _).alloc (Nat.le_refl _) _) ?_
      rw [hmo.out, show decide (1 ≤ d) = true by simp; omega, show decide (d ≤ 255) = true by simp; omega, show decide (3 ≤ n) = true by simp; omega]; rfl
    · go_enter Try.func39, Try.ntmps39
      go_wp2
      go_ret
      refine fin _ _ ((Below.refl _ _).alloc (Nat.le_refl _) _) ?_
      rw [hmo.out]; simp [h1]

set_option maxRecDepth 100000 in
set_option maxHeartbeats 4000000 in
theorem mayR_any (b d n : Int) (w : World) :
    Calls Try.prog 35 #[.agg #[.int .i64 b, .int .i64 d, .int .i64 n]] w fun e w' => e = .returned (.bool (mayT (b, d, n))) ∧ Below w.heap.size w w' := by
  have fin : ∀ (w' : World) (r : Bool), Below w.heap.size w w' → r = mayT (b, d, n) → ((Ending.returned (.bool r)) = .returned (.bool (mayT (b, d, n))) ∧ Below w.heap.size w w') := fun w' r hb h => by rw [h]; exact ⟨rfl, hb⟩
  by_cases hx : n = 0
  · by_cases hy : d = 0
    · subst hx hy
      by_cases h1 : b < 0
      · go_enter Try.func35, Try.ntmps35
        go_wp2
        go_ret
        refine fin _ _ ((Below.refl _ _).alloc (Nat.le_refl _) _) ?_
        simp [mayT]; omega
      · go_enter Try.func35, Try.ntmps35
        go_wp2
        go_ret
        refine fin _ _ ((Below.refl _ _).alloc (Nat.le_refl _) _) ?_
        rw [mayT, if_pos ⟨rfl, rfl⟩, show decide ((0 : Int) ≤ b) = true by simp; omega]; rfl
    · subst hx
      have hmo := Lib.hid (may_other (b := b) (d := d) (n := 0) (by omega))
      by_cases h1 : b = 0
      · subst h1
        by_cases h2 : d < 1
        · go_enter Try.func35, Try.ntmps35
          go_wp2
          go_ret
          refine fin _ _ ((Below.refl _ _).alloc (Nat.le_refl _) _) ?_
          rw [hmo.out]; simp
        by_cases h3 : 255 < d
        · go_enter Try.func35, Try.ntmps35
          go_wp2
          go_ret
          refine fin _ _ ((Below.refl _ _).alloc (Nat.le_refl _) _) ?_
          rw [hmo.out]; simp
        go_enter Try.func35, Try.ntmps35
        go_wp2
        go_ret
        refine fin _ _ ((Below.refl _ _).alloc (Nat.le_refl _) _) ?_
        rw [hmo.out]; simp
      · go_enter Try.func35, Try.ntmps35
        go_wp2
        go_ret
        refine fin _ _ ((Below.refl _ _).alloc (Nat.le_refl _) _) ?_
        rw [hmo.out]; simp [h1]
  · have hmo := Lib.hid (may_other (b := b) (d := d) (n := n) (by omega))
    by_cases h1 : b = 0
    · subst h1
      by_cases h2 : d < 1
      · go_enter Try.func35, Try.ntmps35
        go_wp2
        go_ret
        refine fin _ _ ((Below.refl _ _).alloc (Nat.le_refl _) _) ?_
        rw [hmo.out]; simp; omega
      by_cases h3 : 255 < d
      · go_enter Try.func35, Try.ntmps35
        go_wp2
        go_ret
        refine fin _ _ ((Below.refl _ _).alloc (Nat.le_refl _) _) ?_
        rw [hmo.out]; simp; omega
      by_cases h4 : n < 3
      · go_enter Try.func35, Try.ntmps35
        go_wp2
        go_ret
        refine fin _ _ ((Below.refl _ _).alloc (Nat.le_refl _) _) ?_
        rw [hmo.out]; simp; omega
      go_enter Try.func35, Try.ntmps35
      go_wp2
      go_ret
      refine fin _ _ ((Below.refl _ _).alloc (Nat.le_refl _) _) ?_
      rw [hmo.out, show decide (1 ≤ d) = true by simp; omega, show decide (d ≤ 255) = true by simp; omega, show decide (3 ≤ n) = true by simp; omega]; rfl
    · go_enter Try.func35, Try.ntmps35
      go_wp2
      go_ret
      refine fin _ _ ((Below.refl _ _).alloc (Nat.le_refl _) _) ?_
      rw [hmo.out]; simp [h1]
end Go.Proofs.Ytolappilfjhfaaa
