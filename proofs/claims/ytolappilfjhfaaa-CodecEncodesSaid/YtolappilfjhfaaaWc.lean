/- Contracts: what lengths take of all there is, twice. Conditions: numbers fit. Lemmas on a block of cells, whole and cell by cell; the cells of a book. Conditions: numbers fit. The contract of bookOf. Conditions: numbers fit. Contracts: nth; Codes of the program. Conditions: numbers fit. Rows of codes: two cells each. The contract of Codes of the program. Conditions: numbers fit. The contract of Codes of the program. Conditions: numbers fit. The contract of the document's Codes. Conditions: numbers fit. The contracts of both Writes. Conditions: numbers fit. The contracts of both Reads. Conditions: numbers fit. The contract of the document's Read; of Same on codes. Conditions: numbers fit. -/
import Derived.Laws.Rows
import Derived.Laws.Tables
import Derived.Laws.ResultCell
import Derived.Laws.CopyOwn
import Derived.RegionTactic
import Derived.ChangeAlike
import Derived.BigRegion
import Derived.OwnWalk
import Derived.Test.YtolappilfjhfaaaWb
import Derived.Test.YtolappilfjhfaaaW0
import Derived.Test.YtolappilfjhfaaaWa
namespace Go.Proofs.Ytolappilfjhfaaa
open Go.RowKit

theorem kraftL_take (l : List Int) (k : Nat) (hk : k < l.length) : kraftL (l.take (k + 1)) = kraftL (l.take k) + oneK l[k] := by
  rw [List.take_succ_eq_append_getElem hk, kraftL_snoc]
theorem oneK_in {x : Int} (h0 : 1 ≤ x) (h1 : x ≤ 15) : oneK x = p2 (15 - x).toNat := by
  unfold oneK
  rw [if_pos (by omega)]
  congr 1; omega
theorem oneK_out {x : Int} (h : x < 1 ∨ 15 < x) : oneK x = 0 := by
  unfold oneK
  rw [if_neg (by omega)]

set_option maxRecDepth 100000 in
set_option maxHeartbeats 1000000 in
theorem kraft_any (v : Value) (l : List Int) (w : World) (hv : SlOf w v 1 (fun x => [.int .i64 x]) l) (hl : l.length ≤ 140737488355328) :
    Calls Try.prog 85 #[v] w fun e w' => e = .returned (.int .i64 (kraftL l)) ∧ w = w' := by
  rcases sl_one hv with ⟨rfl, a0, c0, rfl, hn0⟩ | ⟨hp0, b0, o0, c0, rfl, hc0, hb0, cell0⟩
  · go_enter Try.func85, Try.ntmps85
    go_wp2
    refine wp_loop_rounds 1 ?_
    rw [rounds_succ]
    go_wp2
    go_ret
    exact ⟨rfl, rfl⟩
  · clear hv
    go_enter Try.func85, Try.ntmps85
    go_wp2
    go_loop [3, 8] (fun n i => ∃ k : Nat, k ≤ l.length ∧ i = .int .i64 k ∧ n = .int .i64 (kraftL (l.take k))) (fun _ i => l.length - (intOf i).toNat)
    case atStart => exact ⟨0, Nat.zero_le _, rfl, by simp [kraftL]⟩
    case round =>
      obtain ⟨k, hk, rfl, rfl⟩ := hrel
      by_cases hlt : k < l.length
      · have e0 := cell0 k hlt
        have HK := Lib.hid (kraftL_take l k hlt)
        have hb1 := kraftL_bd (l.take k)
        have hb2 : (((l.take k).length : Nat) : Int) ≤ 140737488355328 := by have := List.length_take_le k l; omega
        have hk0 := hb1.1
        have hk1 : kraftL (l.take k) ≤ 2305843009213693952 := by omega
        clear hb1 hb2 cell0
        have g0 : (k : Int) < (l.length : Int) := by omega
        have g2 : (0 : Int) ≤ (k : Int) := by omega
        generalize hs : kraftL (l.take k) = s at *
        clear hs
        generalize l[k] = x at *
        by_cases h0 : 1 ≤ x
        · by_cases h1 : x ≤ 15
          · have HO := Lib.hid (oneK_in h0 h1)
            obtain ⟨W, hW⟩ := Int.eq_ofNat_of_zero_le (a := 15 - x) (by omega)
            obtain rfl : x = 15 - W := by omega
            have hp := p2_le (n := W) (by omega)
            have hp1 := p2_pos W
            have hp14 := p2_mono (m := W) (n := 14) (by omega)
            have hp15 : p2 14 = 16384 := by decide
            have hw : wrap64 (2 ^ W) = p2 W := by rw [← p2_pow]; exact IntWalk.wrap64_in _ (by omega)
            have hs1 : (15 - (15 - (W : Int))) = W := by omega
            have hs2 : IntKind.i64.wrap (s + p2 W) = s + p2 W := by rw [IntKind.wrap_i64]; omega
            rw [hs1] at HO
            have HO' : Hid (oneK (15 - (W : Int)) = p2 W) := by rw [Int.toNat_natCast] at HO; exact HO
            clear HO hp hp14 hp15
            go_wp2
            exact ⟨⟨k + 1, by omega, by go_num, by rw [HK.out, HO'.out]⟩, by simp [intOf]; omega⟩
          · have HO := Lib.hid (oneK_out (x := x) (by omega))
            go_wp2
            exact ⟨⟨k + 1, by omega, by go_num, by rw [HK.out, HO.out]; simp⟩, by simp [intOf]; omega⟩
        · have HO := Lib.hid (oneK_out (x := x) (by omega))
          go_wp2
          exact ⟨⟨k + 1, by omega, by go_num, by rw [HK.out, HO.out]; simp⟩, by simp [intOf]; omega⟩
      · obtain rfl : k = l.length := by omega
        have e0 := Lib.hid (List.take_of_length_le (Nat.le_refl l.length))
        clear cell0
        go_wp2
        go_ret
        exact ⟨rfl, rfl⟩

set_option maxRecDepth 100000 in
set_option maxHeartbeats 1000000 in
theorem kraftR_any (v : Value) (l : List Int) (w : World) (hv : SlOf w v 1 (fun x => [.int .i64 x]) l) (hl : l.length ≤ 140737488355328) :
    Calls Try.prog 78 #[v] w fun e w' => e = .returned (.int .i64 (kraftL l)) ∧ w = w' := by
  rcases sl_one hv with ⟨rfl, a0, c0, rfl, hn0⟩ | ⟨hp0, b0, o0, c0, rfl, hc0, hb0, cell0⟩
  · go_enter Try.func78, Try.ntmps78
    go_wp2
    refine wp_loop_rounds 1 ?_
    rw [rounds_succ]
    go_wp2
    go_ret
    exact ⟨rfl, rfl⟩
  · clear hv
    go_enter Try.func78, Try.ntmps78
    go_wp2
    go_loop [3, 4] (fun n i => ∃ k : Nat, k ≤ l.length ∧ i = .int .i64 k ∧ n = .int .i64 (kraftL (l.take k))) (fun _ i => l.length - (intOf i).toNat)
    case atStart => exact ⟨0, Nat.zero_le _, rfl, by simp [kraftL]⟩
    case round =>
      obtain ⟨k, hk, rfl, rfl⟩ := hrel
      by_cases hlt : k < l.length
      · have e0 := cell0 k hlt
        have HK := Lib.hid (kraftL_take l k hlt)
        have hb1 := kraftL_bd (l.take k)
        have hb2 : (((l.take k).length : Nat) : Int) ≤ 140737488355328 := by have := List.length_take_le k l; omega
        have hk0 := hb1.1
        have hk1 : kraftL (l.take k) ≤ 2305843009213693952 := by omega
        clear hb1 hb2 cell0
        have g0 : (k : Int) < (l.length : Int) := by omega
        have g2 : (0 : Int) ≤ (k : Int) := by omega
        generalize hs : kraftL (l.take k) = s at *
        clear hs
        generalize l[k] = x at *
        by_cases h0 : 1 ≤ x
        · by_cases h1 : x ≤ 15
          · have HO := Lib.hid (oneK_in h0 h1)
            have hp1 := p2_pos (15 - x).toNat
            have hp14 := p2_mono (m := (15 - x).toNat) (n := 14) (by omega)
            have hp15 : p2 14 = 16384 := by decide
            have hs2 : IntKind.i64.wrap (s + p2 (15 - x).toNat) = s + p2 (15 - x).toNat := by rw [IntKind.wrap_i64]; omega
            clear hp14 hp15 hp1
            have h0' : 0 < x := by omega
            have h1' : x < 16 := by omega
            go_wp2_with fail
            refine (power_any (15 - x) _ (by omega)).mono ?_
            rintro e w' ⟨rfl, rfl⟩
            go_wp2
            exact ⟨⟨k + 1, by omega, by go_num, by rw [HK.out, HO.out]⟩, by simp [intOf]; omega⟩
          · have HO := Lib.hid (oneK_out (x := x) (by omega))
            have h0' : 0 < x := by omega
            have h1' : ¬ x < 16 := by omega
            go_wp2
            exact ⟨⟨k + 1, by omega, by go_num, by rw [HK.out, HO.out]; simp⟩, by simp [intOf]; omega⟩
        · have HO := Lib.hid (oneK_out (x := x) (by omega))
          have h0' : ¬ 0 < x := by omega
          go_wp2
          exact ⟨⟨k + 1, by omega, by go_num, by rw [HK.out, HO.out]; simp⟩, by simp [intOf]; omega⟩
      · obtain rfl : k = l.length := by omega
        have e0 := Lib.hid (List.take_of_length_le (Nat.le_refl l.length))
        clear cell0
        go_wp2
        go_ret
        exact ⟨rfl, rfl⟩
end Go.Proofs.Ytolappilfjhfaaa
namespace Go.Proofs.Ytolappilfjhfaaa
open Go.RowKit

/-- The block K of w holds the cells cs. -/
def Arr (w : World) (K : Nat) (t : TypeId) (cs : List Value) : Prop := w.heap[K]? = some (.cells cs.toArray t (0, 0))
theorem arr_cell {w : World} {K : Nat} {t : TypeId} {cs : List Value} (h : Arr w K t cs) (i : Nat) : w.cell? ⟨K, i, none⟩ = cs[i]? := by
  rw [cell_of_row w K i _ t (0, 0) h]; simp
theorem arr_frozen {w : World} {K : Nat} {t : TypeId} {cs : List Value} (h : Arr w K t cs) (i : Nat) : w.frozen? ⟨K, i, none⟩ = false := frozen_of_row w K i _ t h
theorem arr_set {w : World} {K : Nat} {t : TypeId} {cs : List Value} (h : Arr w K t cs) (i : Nat) (v : Value) : Arr (w.setCell ⟨K, i, none⟩ v) K t (cs.set i v) := by
  have := heap_setCell_same w K i _ t v h
  simpa [Arr] using this
theorem arr_other {w : World} {K K' i : Nat} {t : TypeId} {cs : List Value} {v : Value} (h : Arr w K t cs) (hne : K ≠ K') : Arr (w.setCell ⟨K', i, none⟩ v) K t cs := by
  unfold Arr
  rw [Below.heap_setCell _ _ _ _ (show K ≠ (⟨K', i, none⟩ : Addr).block from hne)]; exact h
theorem arr_below {w w' : World} {K B : Nat} {t : TypeId} {cs : List Value} (h : Arr w K t cs) (hb : Below B w w') (hK : K < B) : Arr w' K t cs := by
  unfold Arr; rw [hb.block K hK]; exact h
theorem arr_drew {w : World} {K : Nat} {t : TypeId} {cs : List Value} (h : Arr w K t cs) : Arr w.drew K t cs := h
theorem arr_lt {w : World} {K : Nat} {t : TypeId} {cs : List Value} (h : Arr w K t cs) : K < w.heap.size := by
  rcases Nat.lt_or_ge K w.heap.size with q | q
  · exact q
  · unfold Arr at h; rw [Array.getElem?_eq_none q] at h; cases h
theorem arr_new (w : World) (cs : List Value) (t : TypeId) : Arr (w.alloc (.cells cs.toArray t)) w.heap.size t cs := by
  unfold Arr; exact heap_alloc_new w _
theorem arr_old {w : World} {K : Nat} {t : TypeId} {cs : List Value} (h : Arr w K t cs) (o : Obj) : Arr (w.alloc o) K t cs := by
  unfold Arr; rw [Below.heap_alloc w o K (arr_lt h)]; exact h

section
variable {P : Program} {ops : Array Oper} {rest : List Oper} {o : Oper} {a : Act} {w : World} {Q : Exit → Act → World → Prop}
/-- A whole value into a block. -/
theorem wpList_store_arr (hgd : o.guard = none) (ty : TypeId) (x y : Operand) (ho : o.op = .store ty x y) (g : Nat) (cells old : List Value) (n : Nat) (hx : a.eval x = .pointer (some ⟨g, 0, none⟩)) (hy : a.eval y = .agg cells.toArray)
    (t : TypeId) (hg : Arr w g t old) (hi : (P.info? ty).map (·.size) = some n) (hold : old.length = n) (hnew : cells.length = n) (h1 : cells.all (·.oneCell') = true)
    (h : ∀ w2, Arr w2 g t cells → (∀ B, B ≤ g → Below B w w2) → w2.heap.size = w.heap.size → (∀ k, k ≠ g → w2.heap[k]? = w.heap[k]?) → wpList P ops Q rest (a.put o.dst undef) w2) : wpList P ops Q (o :: rest) a w := by
  refine wpList_store_row hgd ty x y ho g cells.toArray hx hy t old.toArray hg (by rw [hi]; simp [hnew]) (by simp [hold, hnew]) (by simpa using h1) ?_
  exact h _ (setRow_heap w g _ _ t _ hg) (fun B hB => below_setRow (Below.refl _ _) hB _) (by simp) (fun k hk => setRow_other w g k _ hk)
/-- A whole value out of a block. -/
theorem wpList_load_arr (hgd : o.guard = none) (ty : TypeId) (x : Operand) (ho : o.op = .load ty x) (g : Nat) (cells : List Value) (n : Nat) (hx : a.eval x = .pointer (some ⟨g, 0, none⟩))
    (t : TypeId) (hg : Arr w g t cells) (d : TypeDesc) (hu : P.underlying ty = some d) (hd : (match d with | .struct _ | .array _ _ => true | _ => false) = true) (hi : (P.info? ty).map (·.size) = some n) (hn : cells.length = n)
    (h : wpList P ops Q rest (a.put o.dst (.agg cells.toArray)) w) : wpList P ops Q (o :: rest) a w :=
  wpList_load_row hgd ty x ho g hx t cells.toArray (0, 0) d hg hu hd (by rw [hi]; simp [hn]) h
end
/-- Two results, the first one out of a block. -/
theorem results_arr {P : Program} {fn : Func} {p u : Tmp} {ty : TypeId} (h : fn.results = #[.cell p ty, .tmp u]) (tmps : Array Value) (w : World) (g : Nat) (cells : List Value) (n : Nat) (hp : tmps.getD p undef = .pointer (some ⟨g, 0, none⟩))
    (t : TypeId) (hg : Arr w g t cells) (d : TypeDesc) (hu : P.underlying ty = some d) (hd : (match d with | .struct _ | .array _ _ => true | _ => false) = true) (hi : (P.info? ty).map (·.size) = some n) (hn : cells.length = n) :
    (results fn tmps).run P w = .ok (.tuple #[.agg cells.toArray, tmps.getD u undef]) w := by
  rw [results_cell_tmp h, hp]
  simp [asAddr, Result.andThen, run_loadVar_row w g t ty cells.toArray (0, 0) d hg hu hd (by rw [hi]; simp [hn])]

/-- The cells of a book. -/
def bookOf (m f : Nat → Int) : List Value := (List.range 16).map (fun j => .int .i64 (m j)) ++ (List.range 16).map (fun j => .int .i64 (f j))
theorem bookOf_length (m f : Nat → Int) : (bookOf m f).length = 32 := by simp [bookOf]
theorem bookOf_one (m f : Nat → Int) : (bookOf m f).all (·.oneCell') = true := by
  simp [bookOf, Value.oneCell']
theorem bookOf_many (m f : Nat → Int) {j : Nat} (h : j < 16) : (bookOf m f)[j]? = some (.int .i64 (m j)) := by
  unfold bookOf
  rw [List.getElem?_append_left (by simp; omega)]
  simp [h]
theorem bookOf_first (m f : Nat → Int) {j : Nat} (h : j < 16) : (bookOf m f)[16 + j]? = some (.int .i64 (f j)) := by
  unfold bookOf
  rw [List.getElem?_append_right (by simp)]
  simp [h]
theorem bookOf_set_many (m f m' : Nat → Int) {j : Nat} (hj : j < 16) (v : Int) (h1 : m' j = v) (h2 : ∀ i, i ≠ j → m' i = m i) : (bookOf m f).set j (.int .i64 v) = bookOf m' f := by
  unfold bookOf
  rw [List.set_append_left _ _ (by simp; omega)]
  congr 1
  apply List.ext_getElem
  · simp
  · intro i hi1 hi2
    rw [List.getElem_set]
    by_cases e : j = i
    · subst e; simp [h1]
    · simp [e, h2 i (by omega)]
theorem bookOf_set_first (m f f' : Nat → Int) {j : Nat} (v : Int) (h1 : f' j = v) (h2 : ∀ i, i ≠ j → f' i = f i) : (bookOf m f).set (16 + j) (.int .i64 v) = bookOf m f' := by
  unfold bookOf
  rw [List.set_append_right _ _ (by simp)]
  congr 1
  simp only [List.length_map, List.length_range, Nat.add_sub_cancel_left]
  apply List.ext_getElem
  · simp
  · intro i hi1 hi2
    rw [List.getElem_set]
    by_cases e : j = i
    · subst e; simp [h1]
    · simp [e, h2 i (by omega)]
theorem bookOf_zero : bookOf (fun _ => 0) (fun _ => 0) = List.replicate 32 (.int .i64 0) := rfl
theorem bookOf_congr {m f m' f' : Nat → Int} (h : ∀ j, j < 16 → m j = m' j ∧ f j = f' j) : bookOf m f = bookOf m' f' := by
  unfold bookOf
  congr 1 <;> exact List.map_congr_left fun j hj => by first | rw [(h j (List.mem_range.1 hj)).1] | rw [(h j (List.mem_range.1 hj)).2]
theorem info_book : (Try.prog.info? 101).map (·.size) = some 32 := by kernel_rfl
theorem info_arr16 : (Try.prog.info? 99).map (·.size) = some 16 := by kernel_rfl

/-- The book of lengths: how many of each, from 1 on. -/
def manyB (l : List Int) (n : Nat) : Int := if n = 0 then 0 else cntL l n
def firstB (l : List Int) (N n : Nat) : Int := if n < N then firstC l n else 0
theorem manyB_snoc (l : List Int) (x : Int) (h : 0 ≤ x) (n : Nat) : manyB (l ++ [x]) n = manyB l n + if 0 < x ∧ x = n then 1 else 0 := by
  unfold manyB
  by_cases h0 : n = 0
  · subst h0
    simp; omega
  · rw [if_neg h0, if_neg h0, cntL_snoc]
    by_cases e : x = n
    · rw [if_pos e, if_pos (by omega)]; omega
    · rw [if_neg e, if_neg (by omega)]; omega
theorem manyB_bd (l : List Int) (n : Nat) : 0 ≤ manyB l n ∧ manyB l n ≤ l.length := by
  unfold manyB
  have := cntL_le l n
  split <;> omega
theorem firstC_step (l : List Int) (n : Nat) : firstC l (n + 1) = (firstC l n + manyB l n) * 2 := rfl
end Go.Proofs.Ytolappilfjhfaaa
namespace Go.Proofs.Ytolappilfjhfaaa
open Go.RowKit

/-- The book of lengths that may be. -/
def bookCells (l : List Int) : List Value := bookOf (manyB l) (firstB l 16)
abbrev zeroBook : List Value := List.replicate 32 (.int .i64 0)
theorem zeroBook_eq : bookOf (fun _ => 0) (fun _ => 0) = zeroBook := rfl
theorem zeroBook_one : ∀ x, x ∈ zeroBook → x.oneCell' = true := by
  intro x hx
  rw [List.eq_of_mem_replicate hx]; rfl
theorem bookCells_one (l : List Int) : ∀ x, x ∈ bookCells l → x.oneCell' = true := List.all_eq_true.1 (bookOf_one _ _)
theorem first_many_bd {l : List Int} (h : lensOk l = true) {M : Nat} (hM : M < 15) : 0 ≤ firstC l M ∧ firstC l M + manyB l M ≤ 32768 := by
  have h0 := firstC_nonneg l M
  refine ⟨h0, ?_⟩
  rcases M with _ | M
  · simp [firstC, manyB]
  · have := first_cnt_le h (n := M) (by omega)
    have h2 := p2_mono (m := M + 1) (n := 15) (by omega)
    rw [p2_15] at h2
    unfold manyB
    rw [if_neg (by omega)]
    omega

set_option maxRecDepth 100000 in
set_option maxHeartbeats 4000000 in
theorem bookOf_any (v : Value) (l : List Int) (w : World) (hv : SlOf w v 1 (fun x => [.int .i64 x]) l) (hl : l.length ≤ 140737488355328) :
    Calls Try.prog 75 #[v] w fun e w' => ∃ cs : List Value, cs.length = 32 ∧ cs.all (·.oneCell') = true ∧ (lensOk l = true → cs = bookCells l) ∧ e = .returned (.tuple #[.agg cs.toArray, .bool (lensOk l)]) ∧ Below w.heap.size w w' := by
  have hv0 := hv
  obtain ⟨aX, cX, rfl, hcX, hnX, hcellX⟩ := hv
  have HV := Lib.hid hv0
  clear hv0 hcellX hnX
  have hA0 : Arr (w.alloc (.cells zeroBook.toArray 101)) w.heap.size 101 zeroBook := arr_new w _ _
  have hA1 : Arr ((w.alloc (.cells zeroBook.toArray 101)).alloc (.cells zeroBook.toArray 101)) w.heap.size 101 zeroBook := arr_old hA0 _
  have hA2 : Arr ((w.alloc (.cells zeroBook.toArray 101)).alloc (.cells zeroBook.toArray 101)) (w.alloc (.cells zeroBook.toArray 101)).heap.size 101 zeroBook := arr_new _ _ _
  have hB : Below w.heap.size w ((w.alloc (.cells zeroBook.toArray 101)).alloc (.cells zeroBook.toArray 101)) := ((Below.refl _ _).alloc (Nat.le_refl _) _).alloc (by simp) _
  have HA1 := Lib.hid hA1
  have HA2 := Lib.hid hA2
  have HB := Lib.hid hB
  clear hA0 hA1 hA2 hB
  by_cases h300 : 300 < l.length
  · have hbad : lensOk l = false := by
      cases h : lensOk l with
      | false => rfl
      | true => have := (lensOk_parts h).1; omega
    have g0 : (300 : Int) < (l.length : Int) := by omega
    go_enter Try.func75, Try.ntmps75
    go_wp2_with (first | (refine wpList_store_arr rfl 101 _ _ rfl w.heap.size zeroBook zeroBook 32 rfl rfl 101 HA1.out info_book rfl rfl rfl ?_; intro w2 hA hb hsz _) | fail)
    refine bodyPost_ret (results_arr rfl _ _ w.heap.size zeroBook 32 rfl 101 hA _ Try.underlying101 rfl info_book rfl) rfl ?_
    exact ⟨zeroBook, rfl, by first | rfl | exact zeroBook_one, fun h => absurd h (by rw [hbad]; decide), by rw [hbad]; rfl, HB.out.trans (hb _ (Nat.le_refl _))⟩
  · have g0 : ¬ (300 : Int) < (l.length : Int) := by omega
    have hK : (w.alloc (.cells zeroBook.toArray 101)).heap.size = w.heap.size + 1 := by simp
    rw [hK] at HA2
    go_enter Try.func75, Try.ntmps75
    go_wp2_with fail
    go_loopw [14] (fun i wr => ∃ k : Nat, k ≤ l.length ∧ i = .int .i64 k ∧ Arr wr w.heap.size 101 zeroBook ∧ Arr wr (w.heap.size + 1) 101 (bookOf (manyB (l.take k)) (fun _ => 0)) ∧ Below w.heap.size w wr ∧ ∀ x ∈ l.take k, 0 ≤ x ∧ x ≤ 15) (fun i _ => l.length - (intOf i).toNat)
    case atStart => exact ⟨0, Nat.zero_le _, rfl, HA1.out, by rw [show bookOf (manyB (l.take 0)) (fun _ => 0) = zeroBook by rw [← zeroBook_eq]; exact bookOf_congr fun j _ => ⟨by simp [manyB, cntL], rfl⟩]; exact HA2.out, HB.out, by simp⟩
    case round =>
      obtain ⟨k, hk, rfl, hA, hM, hb, hall⟩ := hrel
      have Hall := Lib.hid hall
      have HAr := Lib.hid hA
      have HMr := Lib.hid hM
      have Hb := Lib.hid hb
      clear hall hA hM hb
      by_cases hlt : k < l.length
      · rcases sl_one HV.out with ⟨rfl, _⟩ | ⟨hp0, b0, o0, c0, hveq, hc0, hb0, cell0⟩
        · simp at hlt
        · injection hveq with h1 h2 h3
          subst h1 h3
          have e0 : wr.cell? ⟨b0, o0 + k, none⟩ = some (.int .i64 l[k]) := by rw [Hb.out.cell (p := ⟨b0, o0 + k, none⟩) hb0]; exact cell0 k hlt
          have HT := Lib.hid (List.take_succ_eq_append_getElem hlt)
          have HX := Lib.hid (rfl : l[k] = l[k])
          have hmem : l[k] ∈ l := List.getElem_mem hlt
          have hbad : ¬ (0 ≤ l[k] ∧ l[k] ≤ 15) → lensOk l = false := fun hx => by
            cases h : lensOk l with
            | false => rfl
            | true => exact absurd ((lensOk_parts h).2.1 _ hmem) hx
          have Hbad := Lib.hid hbad
          have g1 : (k : Int) < (l.length : Int) := by omega
          have g2 : (0 : Int) ≤ (k : Int) := by omega
          clear cell0 hmem hbad h2
          have Hall' : Hid (0 ≤ l[k] ∧ l[k] ≤ 15 → ∀ x ∈ l.take (k + 1), 0 ≤ x ∧ x ≤ 15) := by
            unfold Hid
            intro hx y hy
            rw [HT.out, List.mem_append, List.mem_singleton] at hy
            rcases hy with hy | rfl
            · exact Hall.out y hy
            · exact hx
          generalize l[k] = x at *
          by_cases hx0 : x < 0
          · have hbad := Hbad.out (by omega)
            have HBad := Lib.hid hbad
            clear hbad
            go_wp2_with (first | (refine wpList_store_arr rfl 101 _ _ rfl w.heap.size zeroBook zeroBook 32 rfl rfl 101 HAr.out info_book rfl rfl rfl ?_; intro w2 hA hb hsz _) | fail)
            refine bodyPost_ret (results_arr rfl _ _ w.heap.size zeroBook 32 rfl 101 hA _ Try.underlying101 rfl info_book rfl) rfl ?_
            exact ⟨zeroBook, rfl, by first | rfl | exact zeroBook_one, fun h => absurd h (by rw [HBad.out]; decide), by rw [HBad.out]; rfl, Hb.out.trans (hb _ (Nat.le_refl _))⟩
          by_cases hx15 : 15 < x
          · have hbad := Hbad.out (by omega)
            have HBad := Lib.hid hbad
            clear hbad
            go_wp2_with (first | (refine wpList_store_arr rfl 101 _ _ rfl w.heap.size zeroBook zeroBook 32 rfl rfl 101 HAr.out info_book rfl rfl rfl ?_; intro w2 hA hb hsz _) | fail)
            refine bodyPost_ret (results_arr rfl _ _ w.heap.size zeroBook 32 rfl 101 hA _ Try.underlying101 rfl info_book rfl) rfl ?_
            exact ⟨zeroBook, rfl, by first | rfl | exact zeroBook_one, fun h => absurd h (by rw [HBad.out]; decide), by rw [HBad.out]; rfl, Hb.out.trans (hb _ (Nat.le_refl _))⟩
          obtain ⟨n, rfl⟩ := Int.eq_ofNat_of_zero_le (a := x) (by omega)
          have hn16 : n < 16 := by omega
          have HS : Hid (∀ j, manyB (l.take (k + 1)) j = manyB (l.take k) j + if 0 < (n : Int) ∧ (n : Int) = j then 1 else 0) := by
            unfold Hid
            intro j; rw [HT.out]; exact manyB_snoc _ _ (by omega) j
          by_cases hn0 : n = 0
          · subst hn0
            have hx0' : ¬ (0 : Int) < 0 := by omega
            go_wp2_with fail
            refine ⟨⟨k + 1, by omega, by go_num, HAr.out, ?_, Hb.out, Hall'.out (by omega)⟩, by simp [intOf]; omega⟩
            rw [show bookOf (manyB (l.take (k + 1))) (fun _ => 0) = bookOf (manyB (l.take k)) (fun _ => 0) from bookOf_congr fun j _ => ⟨by rw [HS.out j]; simp, rfl⟩]
            exact HMr.out
          · have hn1 : 0 < (n : Int) := by omega
            have e1 : wr.cell? ⟨w.heap.size + 1, n, none⟩ = some (.int .i64 (manyB (l.take k) n)) := by rw [arr_cell HMr.out, bookOf_many _ _ hn16]
            have e2 := arr_frozen HMr.out n
            have hbd := manyB_bd (l.take k) n
            have hle := List.length_take_le k l
            have m0 := hbd.1
            have m1 : manyB (l.take k) n ≤ 300 := by omega
            have HSet := Lib.hid (arr_set HMr.out n (.int .i64 (manyB (l.take k) n + 1)))
            have HAk := Lib.hid (arr_other (i := n) (v := .int .i64 (manyB (l.take k) n + 1)) HAr.out (show w.heap.size ≠ w.heap.size + 1 by omega))
            have Hbk := Lib.hid (Hb.out.setCell (p := ⟨w.heap.size + 1, n, none⟩) (by simp) (.int .i64 (manyB (l.take k) n + 1)))
            have HN : Hid (bookOf (manyB (l.take k)) (fun _ => 0) |>.set n (.int .i64 (manyB (l.take k) n + 1)) |> (· = bookOf (manyB (l.take (k + 1))) (fun _ => 0))) := by
              unfold Hid
              exact bookOf_set_many _ _ _ hn16 _ (by rw [HS.out n, if_pos ⟨hn1, rfl⟩]) (fun i hi => by rw [HS.out i, if_neg (by omega)]; simp)
            clear hbd hle HS
            generalize manyB (l.take k) n = m at *
            go_wp2_with fail
            refine ⟨⟨k + 1, by omega, by go_num, HAk.out, ?_, Hbk.out, Hall'.out (by omega)⟩, by simp [intOf]; omega⟩
            rw [← HN.out]
            exact HSet.out
      · obtain rfl : k = l.length := by omega
        have HT := Lib.hid (List.take_length (l := l))
        go_wp2_with fail
        refine (kraft_any _ l wr (sl_below HV.out Hb.out) hl).mono ?_
        rintro e w1 ⟨rfl, rfl⟩
        by_cases hkr : 32768 < kraftL l
        · have hbad : lensOk l = false := by
            cases h : lensOk l with
            | false => rfl
            | true => have := (lensOk_parts h).2.2; omega
          have HBad := Lib.hid hbad
          clear hbad
          generalize kraftL l = kr at *
          go_wp2_with (first | (refine wpList_store_arr rfl 101 _ _ rfl w.heap.size zeroBook zeroBook 32 rfl rfl 101 HAr.out info_book rfl rfl rfl ?_; intro w2 hA hb hsz _) | fail)
          refine bodyPost_ret (results_arr rfl _ _ w.heap.size zeroBook 32 rfl 101 hA _ Try.underlying101 rfl info_book rfl) rfl ?_
          exact ⟨zeroBook, rfl, by first | rfl | exact zeroBook_one, fun h => absurd h (by rw [HBad.out]; decide), by rw [HBad.out]; rfl, Hb.out.trans (hb _ (Nat.le_refl _))⟩
        · have hok : lensOk l = true := lensOk_of (by omega) (by have := Hall.out; rw [HT.out] at this; exact this) (by omega)
          have HOk := Lib.hid hok
          clear hok
          have hMr := HMr.out
          rw [HT.out] at hMr
          have HM0 := Lib.hid hMr
          clear hMr HMr Hall
          generalize kraftL l = kr at *
          go_wp2_with fail
          obtain ⟨wo, hwo⟩ : ∃ wo : World, wo = wr := ⟨_, rfl⟩
          subst hwo
          go_loopw [7] (fun i wr => ∃ M : Nat, M ≤ 15 ∧ i = .int .i64 ((M : Int) + 1) ∧ Arr wr w.heap.size 101 zeroBook ∧ Arr wr (w.heap.size + 1) 101 (bookOf (manyB l) (firstB l (M + 1))) ∧ Below w.heap.size w wr) (fun i _ => 17 - (intOf i).toNat)
          case atStart => exact ⟨0, by omega, rfl, HAr.out, by rw [show bookOf (manyB l) (firstB l (0 + 1)) = bookOf (manyB l) (fun _ => 0) from bookOf_congr fun j _ => ⟨rfl, by unfold firstB; by_cases hj : j = 0; (subst hj; rfl); (rw [if_neg (by omega)])⟩]; exact HM0.out, Hb.out⟩
          case round =>
            obtain ⟨M, hM, rfl, hA2, hM2, hb2⟩ := hrel
            have HA2r := Lib.hid hA2
            have HM2r := Lib.hid hM2
            have Hb2r := Lib.hid hb2
            clear hA2 hM2 hb2 HAr HM0
            by_cases hM15 : M < 15
            · have e1 : wr.cell? ⟨w.heap.size + 1, M, none⟩ = some (.int .i64 (manyB l M)) := by rw [arr_cell HM2r.out, bookOf_many _ _ (by omega)]
              have e2 : wr.cell? ⟨w.heap.size + 1, 16 + M, none⟩ = some (.int .i64 (firstC l M)) := by rw [arr_cell HM2r.out, bookOf_first _ _ (by omega)]; simp [firstB]
              have e3 := arr_frozen HM2r.out (16 + (M + 1))
              have e4 : wr.cell? ⟨w.heap.size + 1, 16 + (M + 1), none⟩ = some (.int .i64 0) := by rw [arr_cell HM2r.out, bookOf_first _ _ (by omega)]; simp [firstB]
              obtain ⟨f0, f1⟩ := first_many_bd HOk.out hM15
              have m0 := (manyB_bd l M).1
              have f2 : firstC l M ≤ 32768 := by omega
              have m1 : manyB l M ≤ 32768 := by omega
              have HSet := Lib.hid (arr_set HM2r.out (16 + (M + 1)) (.int .i64 ((firstC l M + manyB l M) * 2)))
              have HAk := Lib.hid (arr_other (i := 16 + (M + 1)) (v := .int .i64 ((firstC l M + manyB l M) * 2)) HA2r.out (show w.heap.size ≠ w.heap.size + 1 by omega))
              have Hbk := Lib.hid (Hb2r.out.setCell (p := ⟨w.heap.size + 1, 16 + (M + 1), none⟩) (by simp) (.int .i64 ((firstC l M + manyB l M) * 2)))
              have HN : Hid (bookOf (manyB l) (firstB l (M + 1)) |>.set (16 + (M + 1)) (.int .i64 ((firstC l M + manyB l M) * 2)) |> (· = bookOf (manyB l) (firstB l (M + 1 + 1)))) := by
                unfold Hid
                exact bookOf_set_first _ _ _ _ (by unfold firstB; rw [if_pos (by omega)]; exact firstC_step l M) (fun i hi => by unfold firstB; by_cases h : i < M + 1 <;> simp [h] <;> omega)
              have g1 : (M : Int) + 1 ≤ 15 := by omega
              have g2 : (0 : Int) ≤ (M : Int) := by omega
              have g3 : ((M : Int) + 1).toNat = M + 1 := by omega
              have x1 : IntKind.i64.wrap (firstC l M + manyB l M) = firstC l M + manyB l M := by rw [IntKind.wrap_i64]; omega
              have x2 : IntKind.i64.wrap ((firstC l M + manyB l M) * 2) = (firstC l M + manyB l M) * 2 := by rw [IntKind.wrap_i64]; omega
              generalize firstC l M = f at *
              generalize manyB l M = m at *
              go_wp2_with fail
              go_region
              go_wp2_with fail
              refine ⟨⟨M + 1, by omega, by go_num, arr_drew HAk.out, ?_, Hbk.out.drew⟩, by simp [intOf]; omega⟩
              rw [← HN.out]
              exact arr_drew HSet.out
            · obtain rfl : M = 15 := by omega
              have g1 : ¬ (15 : Int) + 1 ≤ 15 := by omega
              have hE : bookOf (manyB l) (firstB l (15 + 1)) = bookCells l := rfl
              rw [hE] at HM2r
              go_wp2_with (first | (refine wpList_load_arr rfl 101 _ rfl (w.heap.size + 1) (bookCells l) 32 rfl 101 HM2r.out _ Try.underlying101 rfl info_book (bookOf_length _ _) ?_) | (refine wpList_store_arr rfl 101 _ _ rfl w.heap.size (bookCells l) zeroBook 32 rfl rfl 101 HA2r.out info_book rfl (bookOf_length _ _) (bookOf_one _ _) ?_; intro w2 hA hb hsz _) | fail)
              refine bodyPost_ret (results_arr rfl _ _ w.heap.size (bookCells l) 32 rfl 101 hA _ Try.underlying101 rfl info_book (bookOf_length _ _)) rfl ?_
              exact ⟨bookCells l, bookOf_length _ _, by first | exact bookOf_one _ _ | exact bookCells_one l, fun _ => rfl, by rw [HOk.out]; rfl, Hb2r.out.trans (hb _ (Nat.le_refl _))⟩
end Go.Proofs.Ytolappilfjhfaaa
namespace Go.Proofs.Ytolappilfjhfaaa
open Go.RowKit

set_option maxRecDepth 100000 in
set_option maxHeartbeats 1000000 in
theorem nth_any (v : Value) (l : List Int) (n i : Int) (s : Nat) (w : World) (hv : SlOf w v 1 (fun x => [.int .i64 x]) l) (hl : l.length ≤ 140737488355328) (hs : s < l.length) (hn : l[s] = n) (hi : i = cntL (l.take s) n.toNat) (hn0 : 0 ≤ n) :
    Calls Try.prog 80 #[v, .int .i64 n, .int .i64 i] w fun e w' => e = .returned (.int .i64 s) ∧ w = w' := by
  obtain ⟨N, rfl⟩ := Int.eq_ofNat_of_zero_le hn0
  rw [Int.toNat_natCast] at hi
  rcases sl_one hv with ⟨rfl, _⟩ | ⟨hp0, b0, o0, c0, rfl, hc0, hb0, cell0⟩
  · simp at hs
  · clear hv
    go_enter Try.func80, Try.ntmps80
    go_wp2
    go_loop [2, 11] (fun i k' => ∃ k : Nat, k ≤ s ∧ k' = .int .i64 k ∧ i = .int .i64 ((cntL (l.take s) N : Int) - cntL (l.take k) N)) (fun _ k' => l.length - (intOf k').toNat)
    case atStart => exact ⟨0, Nat.zero_le _, rfl, by rw [hi]; simp [cntL]⟩
    case round =>
      obtain ⟨k, hk, rfl, rfl⟩ := hrel
      have hlt : k < l.length := by omega
      have e0 := cell0 k hlt
      have g0 : (k : Int) < (l.length : Int) := by omega
      have g2 : (0 : Int) ≤ (k : Int) := by omega
      have hle := cntL_mono l hk (n := N)
      have hle2 := cntL_le (l.take s) N
      have hle3 := List.length_take_le s l
      have HS := Lib.hid (show cntL (l.take (k + 1)) N = cntL (l.take k) N + if l[k] = N then 1 else 0 by rw [List.take_succ_eq_append_getElem hlt, cntL_snoc])
      by_cases hks : k = s
      · subst hks
        have hz : (cntL (l.take k) N : Int) - cntL (l.take k) N = 0 := by omega
        rw [hn] at e0
        clear cell0 hi hn hle hle2 hle3
        rw [hz]
        go_wp2
        go_ret
        exact ⟨rfl, rfl⟩
      · have hlt2 : k < s := by omega
        have hpos : l[k] = (N : Int) → cntL (l.take k) N < cntL (l.take s) N := fun hx => by
          have h1 := cntL_mono l (show k + 1 ≤ s from hlt2) (n := N)
          rw [HS.out, if_pos hx] at h1; omega
        have HP := Lib.hid hpos
        have hne : (l[k] = (N : Int)) ∨ l[k] ≠ (N : Int) := by omega
        clear cell0 hi hn hpos
        generalize l[k] = x at *
        generalize cntL (l.take s) N = cs at *
        generalize cntL (l.take k) N = ck at *
        rcases hne with rfl | hne
        · have hp := HP.out rfl
          have hz : ¬ ((cs : Int) - ck = 0) := by omega
          rw [if_pos rfl] at HS
          have hsub : (ck : Int) ≤ cs := by omega
          have x1 : IntKind.i64.wrap ((cs : Int) - ck - 1) = (cs : Int) - ck - 1 := by rw [IntKind.wrap_i64]; omega
          clear HP
          go_wp2
          exact ⟨⟨k + 1, by omega, by go_num, by rw [HS.out]; congr 1; omega⟩, by simp [intOf]; omega⟩
        · rw [if_neg hne] at HS
          clear HP
          go_wp2
          exact ⟨⟨k + 1, by omega, by go_num, by rw [HS.out]; simp⟩, by simp [intOf]; omega⟩
end Go.Proofs.Ytolappilfjhfaaa
namespace Go.Proofs.Ytolappilfjhfaaa
open Go.RowKit

abbrev codeE : Int × Int → List Value := fun c => [.int .i64 c.1, .int .i64 c.2]
def cellsC (l : List (Int × Int)) : List Value := l.flatMap codeE
theorem cellsC_cons (c : Int × Int) (l : List (Int × Int)) : cellsC (c :: l) = .int .i64 c.1 :: .int .i64 c.2 :: cellsC l := rfl
theorem cellsC_length (l : List (Int × Int)) : (cellsC l).length = l.length * 2 := by
  induction l with
  | nil => rfl
  | cons t l ih => rw [cellsC_cons]; simp only [List.length_cons, ih]; omega
theorem cellsC_get (l : List (Int × Int)) : ∀ i (hi : i < l.length), (cellsC l)[i * 2]? = some (.int .i64 l[i].1) ∧ (cellsC l)[i * 2 + 1]? = some (.int .i64 l[i].2) := by
  induction l with
  | nil => intro i hi; simp at hi
  | cons t l ih =>
    intro i hi
    rw [cellsC_cons]
    rcases i with _ | i
    · exact ⟨rfl, rfl⟩
    · have := ih i (by simpa using hi)
      rw [show (i + 1) * 2 = i * 2 + 1 + 1 by omega]
      simpa using this
theorem cellsC_set (l : List (Int × Int)) (c : Int × Int) : ∀ k, k < l.length → ((cellsC l).set (k * 2) (.int .i64 c.1)).set (k * 2 + 1) (.int .i64 c.2) = cellsC (l.set k c) := by
  induction l with
  | nil => intro k hk; simp at hk
  | cons t l ih =>
    intro k hk
    rcases k with _ | k
    · rfl
    · have := ih k (by simpa using hk)
      rw [show (k + 1) * 2 = k * 2 + 1 + 1 by omega, cellsC_cons, List.set_cons_succ, List.set_cons_succ, List.set_cons_succ, List.set_cons_succ, List.set_cons_succ, cellsC_cons, ← this]
theorem cellsC_append (a b : List (Int × Int)) : cellsC (a ++ b) = cellsC a ++ cellsC b := by simp [cellsC]
theorem cellsC_zero (n : Nat) : (madeCells #[Value.int .i64 0, Value.int .i64 0] (n * 2)).toList = cellsC (List.replicate n (0, 0)) := by
  apply List.ext_getElem?
  intro i
  have h1 : (madeCells #[Value.int .i64 0, Value.int .i64 0] (n * 2)).toList.length = n * 2 := by simp [madeCells]
  by_cases hi : i < n * 2
  · have h2 := cellsC_get (List.replicate n ((0 : Int), (0 : Int))) (i / 2) (by simp; omega)
    rw [List.getElem?_eq_getElem (by omega)]
    rcases Nat.mod_two_eq_zero_or_one i with h | h
    · rw [show i / 2 * 2 = i by omega] at h2
      rw [h2.1]
      simp [madeCells, h]
    · rw [show i / 2 * 2 + 1 = i by omega] at h2
      rw [h2.2]
      simp [madeCells, h]
  · rw [List.getElem?_eq_none (by omega), List.getElem?_eq_none (by rw [cellsC_length]; simp; omega)]
theorem info_code : (Try.prog.info? 80).map (fun i => (i.zero, i.size, i.bytes)) = some (some (.agg #[.int .i64 0, .int .i64 0]), 2, 16) := by kernel_rfl

/-- A row of the call's own reads as codes. -/
theorem codes_of_owns {w : World} {base e n : Nat} {v : Value} {l : List (Int × Int)} (h : w.ownsRow base e 2 v n (cellsC l)) : SlOf w v 2 codeE l ∧ n = l.length := by
  obtain ⟨hl, h⟩ := h
  rw [cellsC_length] at hl
  obtain rfl : n = l.length := by omega
  refine ⟨?_, rfl⟩
  rcases h with ⟨rfl, h0⟩ | ⟨g, cap, cur, rfl, hg, hc, hn, hm, hs, ht⟩
  · obtain rfl := List.length_eq_zero_iff.1 h0
    exact sl_nil fun _ => rfl
  · refine ⟨_, cap, rfl, hn, nofun, Or.inr ⟨g, 0, rfl, ?_, fun i hi j hj => ?_⟩⟩
    · rcases Nat.lt_or_ge g w.heap.size with h | h
      · exact h
      · rw [Array.getElem?_eq_none h] at hc; cases hc
    · have h1 : (cur.toList.take (l.length * 2))[i * 2 + j]? = (cellsC l)[i * 2 + j]? := by rw [ht]
      rw [List.getElem?_take_of_lt (by omega)] at h1
      have h2 : (cellsC l)[i * 2 + j]? = (codeE l[i])[j]? := by
        have := cellsC_get l i hi
        rcases j with _ | _ | j
        · exact this.1
        · exact this.2
        · omega
      rw [h2] at h1
      simp only [World.cell?, hc, Nat.zero_add]
      simpa using h1
/-- The two makes of such a slice. -/
theorem sl_codes {w : World} {v : Value} {l : List (Int × Int)} (h : SlOf w v 2 codeE l) :
    (l = [] ∧ ∃ a cap, v = .slice a 0 cap ∧ (a = none → cap = 0)) ∨
    (0 < l.length ∧ ∃ b off cap, v = .slice (some ⟨b, off, none⟩) l.length cap ∧ l.length ≤ cap ∧ b < w.heap.size ∧ ∀ i (hi : i < l.length), w.cell? ⟨b, off + i * 2, none⟩ = some (.int .i64 l[i].1) ∧ w.cell? ⟨b, off + i * 2 + 1, none⟩ = some (.int .i64 l[i].2)) := by
  obtain ⟨a, cap, hv, hl, hn, hc⟩ := h
  by_cases h0 : l = []
  · subst h0; exact Or.inl ⟨rfl, a, cap, hv, hn⟩
  · rcases hc with hc | ⟨b, off, ha, hb0, hcell⟩
    · exact absurd hc h0
    · subst ha
      exact Or.inr ⟨List.length_pos_iff.2 h0, b, off, cap, hv, hl, hb0, fun i hi => ⟨hcell i hi 0 (by omega), hcell i hi 1 (by omega)⟩⟩

/-- The codes of lengths. -/
def codeAt (l : List Int) (s : Nat) : Int × Int := if 0 < l[s]?.getD 0 then (l[s]?.getD 0, codeC l s) else (0, 0)
def codesL (l : List Int) : List (Int × Int) := (List.range l.length).map (codeAt l)
def codesR (l : List Int) : List (Int × Int) := if lensOk l = true then codesL l else []
theorem codesL_length (l : List Int) : (codesL l).length = l.length := by simp [codesL]
theorem codesL_get {l : List Int} {s : Nat} (hs : s < l.length) : (codesL l)[s]'(by rw [codesL_length]; exact hs) = codeAt l s := by simp [codesL]
/-- .. as far as the first k symbols. -/
def codesTo (l : List Int) (k : Nat) : List (Int × Int) := (List.range l.length).map fun s => if s < k then codeAt l s else (0, 0)
theorem codesTo_length (l : List Int) (k : Nat) : (codesTo l k).length = l.length := by simp [codesTo]
theorem codesTo_zero (l : List Int) : codesTo l 0 = List.replicate l.length (0, 0) := by
  apply List.ext_getElem
  · simp [codesTo]
  · intro i h1 h2; simp [codesTo]
theorem codesTo_all (l : List Int) : codesTo l l.length = codesL l := by
  apply List.ext_getElem
  · simp [codesTo, codesL]
  · intro i h1 h2
    have : i < l.length := by simpa [codesTo] using h1
    simp [codesTo, codesL, this]
theorem codesTo_succ {l : List Int} {k : Nat} (_hk : k < l.length) : (codesTo l k).set k (codeAt l k) = codesTo l (k + 1) := by
  apply List.ext_getElem
  · simp [codesTo]
  · intro i h1 h2
    rw [List.getElem_set]
    by_cases e : k = i
    · subst e; simp [codesTo]
    · have : i < k ↔ i < k + 1 := by omega
      simp [codesTo, e, this]
theorem codesTo_skip {l : List Int} {k : Nat} (hk : k < l.length) (h0 : l[k] = 0) : codesTo l k = codesTo l (k + 1) := by
  rw [← codesTo_succ hk]
  apply List.ext_getElem
  · simp [codesTo]
  · intro i h1 h2
    rw [List.getElem_set]
    by_cases e : k = i
    · subst e; simp [codesTo, codeAt, List.getElem?_eq_getElem hk, h0]
    · rw [if_neg e]

section
variable {P : Program} {ops : Array Oper} {rest : List Oper} {o : Oper} {a : Act} {w : World} {Q : Exit → Act → World → Prop}
theorem run_loadVar_sub (w : World) (g off : Nat) (t ty : TypeId) (cells sub : List Value) (d : TypeDesc) (hg : Arr w g t cells) (hsub : ∀ j u, sub[j]? = some u → cells[off + j]? = some u)
    (hu : P.underlying ty = some d) (hd : (match d with | .struct _ | .array _ _ => true | _ => false) = true) (hi : (P.info? ty).map (·.size) = some sub.length) :
    (loadVar ty ⟨g, off, none⟩).run P w = .ok (.agg sub.toArray) w := by
  have hl : (loadCells ⟨g, off, none⟩ sub.length).run P w = .ok sub.toArray w :=
    run_loadCells_list (P := P) w ⟨g, off, none⟩ sub (fun j v hv => by rw [add_none, arr_cell hg]; exact hsub j v hv)
  cases hq : P.info? ty with
  | none => simp [hq] at hi
  | some i =>
    have hs : i.size = sub.length := by simpa [hq] using hi
    have hagg : (isAgg ty).run P w = .ok true w := by
      unfold isAgg
      rw [Sem.run_bind, run_underlying hu w]
      cases d <;> simp_all
    simp [loadVar, Sem.run_bind, hagg, sizeOf, typeInfo, hq, hs, hl]
/-- A part of a block, whole. -/
theorem wpList_load_sub (hgd : o.guard = none) (ty : TypeId) (x : Operand) (ho : o.op = .load ty x) (g off : Nat) (cells sub : List Value) (hx : a.eval x = .pointer (some ⟨g, off, none⟩))
    (t : TypeId) (hg : Arr w g t cells) (hsub : ∀ j u, sub[j]? = some u → cells[off + j]? = some u) (d : TypeDesc) (hu : P.underlying ty = some d) (hd : (match d with | .struct _ | .array _ _ => true | _ => false) = true)
    (hi : (P.info? ty).map (·.size) = some sub.length) (h : wpList P ops Q rest (a.put o.dst (.agg sub.toArray)) w) : wpList P ops Q (o :: rest) a w :=
  wpList_plain hgd fun K hK => by
    unfold Oper.wp execOp
    simp only [ho, hx, Instr.loadAt, Instr.sureAddr, Sem.run_bind, Sem.run_pure, Result.andThen_ok, run_loadVar_sub w g off t ty cells sub d hg hsub hu hd hi]
    exact hK _ _ h
end

/-- The cells of the codes that come next. -/
def rowI (f : Nat → Int) : List Value := (List.range 16).map fun j => .int .i64 (f j)
theorem rowI_length (f : Nat → Int) : (rowI f).length = 16 := by simp [rowI]
theorem rowI_one (f : Nat → Int) : (rowI f).all (·.oneCell') = true := by simp [rowI, Value.oneCell']
theorem rowI_get (f : Nat → Int) {j : Nat} (h : j < 16) : (rowI f)[j]? = some (.int .i64 (f j)) := by simp [rowI, h]
theorem rowI_set (f f' : Nat → Int) {j : Nat} (v : Int) (h1 : f' j = v) (h2 : ∀ i, i ≠ j → f' i = f i) : (rowI f).set j (.int .i64 v) = rowI f' := by
  apply List.ext_getElem
  · simp [rowI]
  · intro i hi1 hi2
    rw [List.getElem_set]
    by_cases e : j = i
    · subst e; simp [rowI, h1]
    · simp [rowI, e, h2 i (by omega)]
theorem rowI_congr {f f' : Nat → Int} (h : ∀ j, j < 16 → f j = f' j) : rowI f = rowI f' := List.map_congr_left fun j hj => by rw [h j (List.mem_range.1 hj)]
theorem book_first_sub (l : List Int) : ∀ j u, (rowI (firstC l))[j]? = some u → (bookCells l)[16 + j]? = some u := by
  intro j u hj
  have hlt : j < 16 := by
    rcases Nat.lt_or_ge j 16 with h | h
    · exact h
    · rw [List.getElem?_eq_none (by rw [rowI_length]; exact h)] at hj; cases hj
  rw [rowI_get _ hlt] at hj
  unfold bookCells
  rw [bookOf_first _ _ hlt, ← hj]
  simp [firstB, hlt]
/-- The code that comes next, of each length, behind k symbols. -/
def nextB (l : List Int) (k n : Nat) : Int := if n = 0 then 0 else firstC l n + cntL (l.take k) n
theorem nextB_zero (l : List Int) : rowI (nextB l 0) = rowI (firstC l) := by
  refine rowI_congr fun j _ => ?_
  unfold nextB
  by_cases h : j = 0
  · subst h; rfl
  · rw [if_neg h]; simp [cntL]
theorem nextB_same {l : List Int} {k n : Nat} (hk : k < l.length) (h : l[k] = n) (hn : 0 < n) : nextB l (k + 1) n = nextB l k n + 1 ∧ ∀ i, i ≠ n → nextB l (k + 1) i = nextB l k i := by
  have hT := List.take_succ_eq_append_getElem hk
  refine ⟨?_, fun i hi => ?_⟩
  · unfold nextB
    rw [if_neg (by omega), if_neg (by omega), hT, cntL_snoc, if_pos h]; omega
  · unfold nextB
    by_cases h0 : i = 0
    · rw [if_pos h0, if_pos h0]
    · rw [if_neg h0, if_neg h0, hT, cntL_snoc, if_neg (by omega)]; simp
theorem nextB_skip {l : List Int} {k : Nat} (hk : k < l.length) (h : l[k] = 0) : rowI (nextB l (k + 1)) = rowI (nextB l k) := by
  refine rowI_congr fun i _ => ?_
  unfold nextB
  by_cases h0 : i = 0
  · rw [if_pos h0, if_pos h0]
  · rw [if_neg h0, if_neg h0, List.take_succ_eq_append_getElem hk, cntL_snoc, if_neg (by omega)]; simp
theorem nextB_code {l : List Int} {k n : Nat} (hk : k < l.length) (h : l[k] = n) (hn : 0 < n) : codeAt l k = ((n : Int), nextB l k n) := by
  have e : l[k]?.getD 0 = (n : Int) := by rw [List.getElem?_eq_getElem hk, Option.getD_some, h]
  unfold codeAt nextB codeC
  rw [e, if_pos (by omega), if_neg (by omega), Int.toNat_natCast]
theorem nextB_bd {l : List Int} (hok : lensOk l = true) {k n : Nat} (hn : n < 16) : 0 ≤ nextB l k n ∧ nextB l k n ≤ 65536 := by
  unfold nextB
  rcases n with _ | n
  · simp
  · rw [if_neg (by omega)]
    have h1 := first_cnt_le hok (n := n) (by omega)
    have h2 := cntL_take_le l k (n + 1)
    have h3 := p2_mono (m := n + 1) (n := 15) (by omega)
    have h4 := firstC_nonneg l (n + 1)
    rw [p2_15] at h3
    omega
end Go.Proofs.Ytolappilfjhfaaa
namespace Go.Proofs.Ytolappilfjhfaaa
open Go.RowKit

theorem arr_kept {w w' : World} {K : Nat} {t : TypeId} {cs : List Value} {row : Option Nat} (h : Arr w K t cs) (hg : w.grownBy w' row) (hK : some K ≠ row) : Arr w' K t cs := by
  unfold Arr
  obtain ⟨_, _, _, _, h5⟩ := hg
  rw [h5 K (arr_lt h) hK]; exact h
theorem owns_store {w w' : World} {base e n size : Nat} {v : Value} {cs : List Value} (h : w.ownsRow base e size v n cs) (hne : ∀ g, v.ownBlock = some g → w'.heap[g]? = w.heap[g]?) : w'.ownsRow base e size v n cs := by
  obtain ⟨hl, h⟩ := h
  refine ⟨hl, ?_⟩
  rcases h with h | ⟨g, cap, cur, rfl, hg, hc, hn, hm, hs, ht⟩
  · exact Or.inl h
  · exact Or.inr ⟨g, cap, cur, rfl, hg, by rw [hne g rfl]; exact hc, hn, hm, hs, ht⟩

theorem codesR_no {l : List Int} (h : lensOk l = false) : codesR l = [] := by unfold codesR; rw [h]; rfl
theorem codesR_ok {l : List Int} (h : lensOk l = true) : codesR l = codesL l := by unfold codesR; rw [if_pos h]

set_option maxRecDepth 100000 in
set_option maxHeartbeats 4000000 in
theorem codes_any (v : Value) (l : List Int) (w : World) (hv : SlOf w v 1 (fun x => [.int .i64 x]) l) (hl : l.length ≤ 140737488355328) :
    Calls Try.prog 58 #[v] w fun e w' => ∃ v', e = .returned (.tuple #[v', .bool (lensOk l)]) ∧ SlOf w' v' 2 codeE (codesR l) ∧ Below w.heap.size w w' := by
  obtain ⟨i0, hi, hz0, hz1, hz2⟩ := info_parts info_code
  have hbk := bookOf_any v l w hv hl
  have hv0 := hv
  obtain ⟨aX, cX, rfl, hcX, hnX, hcellX⟩ := hv
  have HV := Lib.hid hv0
  clear hv0 hcellX hnX
  go_enter Try.func58, Try.ntmps58
  go_wp2_with fail
  refine hbk.mono ?_
  rintro e w1 ⟨cs, hcs1, hcs2, hcs3, rfl, hb1⟩
  have HN1 := Lib.hid (arr_new w1 zeroBook 101)
  have Hb1 := Lib.hid hb1
  have Hcs1 := Lib.hid hcs1
  have Hcs2 := Lib.hid hcs2
  have Hcs3 := Lib.hid hcs3
  clear hbk hb1 hcs1 hcs2 hcs3
  cases hok : lensOk l with
  | false =>
    have HOk := Lib.hid hok
    go_wp2_with (first | (refine wpList_store_arr rfl 101 _ _ rfl w1.heap.size cs zeroBook 32 rfl rfl 101 HN1.out info_book rfl Hcs1.out Hcs2.out ?_; intro w2 hA hb hsz _) | fail)
    refine bodyPost_ret (results_tmp2 rfl _ _ _) rfl ?_
    exact ⟨.slice none 0 0, by rw [HOk.out]; rfl, by rw [codesR_no HOk.out]; exact sl_nil (fun _ => rfl), (Hb1.out.alloc Hb1.out.size _).trans (hb _ Hb1.out.size)⟩
  | true =>
    have HOk := Lib.hid hok
    have hcs := Hcs3.out HOk.out
    subst hcs
    have h300 : l.length ≤ 300 := (lensOk_parts HOk.out).1
    clear Hcs1 Hcs2 Hcs3
    have hge : w.heap.size ≤ w1.heap.size := Hb1.out.size
    go_wp2_with (first
      | (refine wpList_store_arr rfl 101 _ _ rfl w1.heap.size (bookCells l) zeroBook 32 rfl rfl 101 HN1.out info_book rfl (bookOf_length _ _) (bookOf_one _ _) ?_
         intro w2 hA hb hsz _
         have Hb2 := Lib.hid ((Hb1.out.alloc Hb1.out.size _).trans (hb _ Hb1.out.size))
         have HA2 := Lib.hid hA
         have hsz2 : w2.heap.size = w1.heap.size + 1 := by rw [hsz]; simp
         clear hA hb hsz HN1)
      | (at_make; refine wpList_make_full _ rfl _ _ 76 rfl w.heap.size 80 i0 (.agg #[.int .i64 0, .int .i64 0]) 2 Try.underlying76 hi hz0 hz1 .i64 .i64 _ _ l.length rfl rfl rfl rfl (by rw [hz2]; omega) (by simp [maxLen]; omega) (by omega) ?_
         intro w3 hown3 hg3
         have hA3 := arr_kept HA2.out hg3 (by simp)
         have hb3 := Hb2.out.grown hg3 (by omega) (fun k hk => by cases hk)
         have hs3 : w2.heap.size < w3.heap.size := owns_lt hown3 _ rfl
         have HA3 := Lib.hid hA3
         have Hb3 := Lib.hid hb3
         have Hown3 := Lib.hid hown3
         clear hown3 hg3 hA3 hb3)
      | (refine wpList_load_sub rfl 99 _ rfl w1.heap.size 16 (bookCells l) (rowI (firstC l)) rfl 101 HA3.out (book_first_sub l) _ Try.underlying99 rfl info_arr16 ?_)
      | (refine wpList_store_arr rfl 99 _ _ rfl w3.heap.size (rowI (firstC l)) (List.replicate 16 (.int .i64 0)) 16 rfl rfl 99 (arr_new w3 (List.replicate 16 (.int .i64 0)) 99) info_arr16 rfl (rowI_length _) (rowI_one _) ?_
         intro w4 hA hb hsz hoth
         have HN4 := Lib.hid hA
         have Hb4 := Lib.hid ((Hb3.out.alloc Hb3.out.size _).trans (hb _ Hb3.out.size))
         have hs4 : w4.heap.size = w3.heap.size + 1 := by rw [hsz]; simp
         have hO3 : w4.heap[w1.heap.size + 1]? = w3.heap[w1.heap.size + 1]? := by rw [hoth _ (by omega), Below.heap_alloc _ _ _ (by omega)]
         have Hown4 := Lib.hid (owns_store Hown3.out (w' := w4) (fun g hg => by injection hg with hg; rw [← hg, hsz2]; exact hO3))
         clear hA hb hsz hoth hO3 Hown3 Hb3)
      | fail)
    have Hown5 : Hid (w4.ownsRow w.heap.size 80 2 (.slice (some ⟨w1.heap.size + 1, 0, none⟩) l.length l.length) l.length (cellsC (codesTo l 0))) := by
      unfold Hid
      have h := Hown4.out
      rw [hsz2] at h
      rw [codesTo_zero, ← cellsC_zero]
      exact h
    obtain ⟨O, hO⟩ : ∃ O, O = w1.heap.size + 1 := ⟨_, rfl⟩
    rw [← hO] at Hown5 ⊢
    clear Hown4
    obtain ⟨N, hN⟩ : ∃ N, N = w3.heap.size := ⟨_, rfl⟩
    rw [← hN] at HN4 ⊢
    have hON : O ≠ N := by omega
    have hOw : w.heap.size ≤ O := by omega
    have hNw : w.heap.size ≤ N := by omega
    clear hO hN hs4 hs3 hsz2 HA2 HA3 Hb1 Hb2 hge
    go_loopw [24] (fun i wr => ∃ k : Nat, k ≤ l.length ∧ i = .int .i64 k ∧ wr.ownsRow w.heap.size 80 2 (.slice (some ⟨O, 0, none⟩) l.length l.length) l.length (cellsC (codesTo l k)) ∧ Arr wr N 99 (rowI (nextB l k)) ∧ Below w.heap.size w wr) (fun i _ => l.length - (intOf i).toNat)
    case atStart => exact ⟨0, Nat.zero_le _, rfl, Hown5.out, by rw [nextB_zero]; exact HN4.out, Hb4.out⟩
    case round =>
      obtain ⟨k, hk, rfl, hown, hN, hb⟩ := hrel
      have Hown := Lib.hid hown
      have HN := Lib.hid hN
      have Hb := Lib.hid hb
      clear hown hN hb Hown5 HN4 Hb4
      by_cases hlt : k < l.length
      · rcases sl_one HV.out with ⟨rfl, _⟩ | ⟨hp0, b0, o0, c0, hveq, hc0, hb0, cell0⟩
        · simp at hlt
        · injection hveq with h1 h2 h3
          subst h1 h3
          have e0 : wr.cell? ⟨b0, o0 + k, none⟩ = some (.int .i64 l[k]) := by rw [Hb.out.cell (p := ⟨b0, o0 + k, none⟩) hb0]; exact cell0 k hlt
          have hx := (lensOk_parts HOk.out).2.1 l[k] (List.getElem_mem hlt)
          have g1 : (k : Int) < (l.length : Int) := by omega
          have g2 : (0 : Int) ≤ (k : Int) := by omega
          have HX : Hid (∃ n : Nat, n < 16 ∧ l[k] = (n : Int)) := ⟨l[k].toNat, by omega, by omega⟩
          obtain ⟨n, hn16, hn⟩ := HX.out
          rw [hn] at e0
          have Hn := Lib.hid hn
          clear cell0 h2 hn hx HX
          by_cases hn0 : n = 0
          · subst hn0
            have hx0' : ¬ (0 : Int) < 0 := by omega
            go_wp2_with fail
            exact ⟨⟨k + 1, by omega, by go_num, by rw [← codesTo_skip hlt Hn.out]; exact Hown.out, by rw [nextB_skip hlt Hn.out]; exact HN.out, Hb.out⟩, by simp [intOf]; omega⟩
          · have hn1 : 0 < (n : Int) := by omega
            have e1 : wr.cell? ⟨N, n, none⟩ = some (.int .i64 (nextB l k n)) := by rw [arr_cell HN.out, rowI_get _ hn16]
            have e2 := arr_frozen HN.out n
            have hlen : (codesTo l k).length = l.length := codesTo_length l k
            have hc := cellsC_get (codesTo l k) k (by omega)
            have e3 : wr.cell? ⟨O, k * 2, none⟩ = some (.int .i64 (codesTo l k)[k].1) := by rw [Hown.out.cellAt (k * 2) (by omega)]; exact hc.1
            have e4 : wr.cell? ⟨O, k * 2 + 1, none⟩ = some (.int .i64 (codesTo l k)[k].2) := by rw [Hown.out.cellAt (k * 2 + 1) (by omega)]; exact hc.2
            have e5 := Hown.out.frozenAt (k * 2)
            have e6 := Hown.out.frozenAt (k * 2 + 1)
            obtain ⟨m0, m1⟩ := nextB_bd HOk.out (k := k) hn16
            have HC := Lib.hid (nextB_code hlt Hn.out (by omega))
            have HNx := Lib.hid (nextB_same hlt Hn.out (by omega))
            have hs1 := (Hown.out.stored (k * 2) (.int .i64 (n : Int))).1
            have hs2 := (hs1.stored (k * 2 + 1) (.int .i64 (nextB l k n))).1
            have hset := cellsC_set (codesTo l k) ((n : Int), nextB l k n) k (by omega)
            rw [hset, ← HC.out, codesTo_succ hlt] at hs2
            have hs3 := owns_store hs2 (w' := (((wr.setCell ⟨O, k * 2, none⟩ (.int .i64 (n : Int))).setCell ⟨O, k * 2 + 1, none⟩ (.int .i64 (nextB l k n))).setCell ⟨N, n, none⟩ (.int .i64 (nextB l k n + 1)))) (fun g hg => by
              injection hg with hg
              exact Below.heap_setCell _ _ _ _ (by rw [← hg]; exact hON))
            have HS := Lib.hid hs3
            have HN2 := Lib.hid (arr_set (arr_other (i := k * 2 + 1) (v := .int .i64 (nextB l k n)) (arr_other (i := k * 2) (v := .int .i64 (n : Int)) HN.out (Ne.symm hON)) (Ne.symm hON)) n (.int .i64 (nextB l k n + 1)))
            have Hb2 := Lib.hid (((Hb.out.setCell (p := ⟨O, k * 2, none⟩) hOw (.int .i64 (n : Int))).setCell (p := ⟨O, k * 2 + 1, none⟩) hOw (.int .i64 (nextB l k n))).setCell (p := ⟨N, n, none⟩) hNw (.int .i64 (nextB l k n + 1)))
            have HR := Lib.hid (rowI_set (nextB l k) (nextB l (k + 1)) (j := n) (nextB l k n + 1) HNx.out.1 HNx.out.2)
            clear hs1 hs2 hs3 hset hc HC HNx HV
            generalize nextB l k n = nx at *
            generalize (codesTo l k)[k].1 = y1 at *
            generalize (codesTo l k)[k].2 = y2 at *
            clear hlen
            go_wp2_with fail
            exact ⟨⟨k + 1, by omega, by go_num, HS.out, by rw [← HR.out]; exact HN2.out, Hb2.out⟩, by simp [intOf]; omega⟩
      · obtain rfl : k = l.length := by omega
        go_wp2_with fail
        refine bodyPost_ret (results_tmp2 rfl _ _ _) rfl ?_
        refine ⟨_, by rw [HOk.out]; rfl, ?_, Hb.out⟩
        rw [codesR_ok HOk.out, ← codesTo_all]
        have h := (codes_of_owns Hown.out).1
        exact h
end Go.Proofs.Ytolappilfjhfaaa
namespace Go.Proofs.Ytolappilfjhfaaa
open Go.RowKit

/-- The codes that are laid, where the lengths below n are, and of the length n the first i symbols. -/
def refTo (l : List Int) (n i : Nat) : List (Int × Int) := (List.range l.length).map fun s => if l[s]?.getD 0 < (n : Int) ∨ (l[s]?.getD 0 = (n : Int) ∧ s < i) then codeAt l s else (0, 0)
theorem refTo_length (l : List Int) (n i : Nat) : (refTo l n i).length = l.length := by simp [refTo]
theorem refTo_start {l : List Int} (h : ∀ x ∈ l, 0 ≤ x ∧ x ≤ 15) : refTo l 1 0 = List.replicate l.length (0, 0) := by
  apply List.ext_getElem
  · simp [refTo]
  · intro i h1 h2
    have hi : i < l.length := by simpa [refTo] using h1
    have := h l[i] (List.getElem_mem hi)
    simp only [refTo, List.getElem_map, List.getElem_range, List.getElem_replicate]
    by_cases h0 : l[i] = 0
    · simp [codeAt, List.getElem?_eq_getElem hi, h0]
    · rw [if_neg]
      rw [List.getElem?_eq_getElem hi, Option.getD_some]; omega
theorem refTo_end {l : List Int} (h : ∀ x ∈ l, 0 ≤ x ∧ x ≤ 15) : refTo l 16 0 = codesL l := by
  apply List.ext_getElem
  · simp [refTo, codesL]
  · intro i h1 h2
    have hi : i < l.length := by simpa [refTo] using h1
    have := h l[i] (List.getElem_mem hi)
    simp only [refTo, codesL, List.getElem_map, List.getElem_range]
    rw [if_pos]
    rw [List.getElem?_eq_getElem hi, Option.getD_some]; omega
theorem refTo_next (l : List Int) (n : Nat) : refTo l n l.length = refTo l (n + 1) 0 := by
  apply List.ext_getElem
  · simp [refTo]
  · intro i h1 h2
    have hi : i < l.length := by simpa [refTo] using h1
    simp only [refTo, List.getElem_map, List.getElem_range]
    have : (l[i]?.getD 0 < (n : Int) ∨ (l[i]?.getD 0 = (n : Int) ∧ i < l.length)) ↔ (l[i]?.getD 0 < ((n + 1 : Nat) : Int) ∨ (l[i]?.getD 0 = ((n + 1 : Nat) : Int) ∧ i < 0)) := by omega
    simp only [this]
theorem refTo_skip {l : List Int} {n i : Nat} (hi : i < l.length) (h : l[i] ≠ n) : refTo l n i = refTo l n (i + 1) := by
  apply List.ext_getElem
  · simp [refTo]
  · intro s h1 h2
    simp only [refTo, List.getElem_map, List.getElem_range]
    have : (l[s]?.getD 0 < (n : Int) ∨ (l[s]?.getD 0 = (n : Int) ∧ s < i)) ↔ (l[s]?.getD 0 < (n : Int) ∨ (l[s]?.getD 0 = (n : Int) ∧ s < i + 1)) := by
      by_cases e : s = i
      · subst e; rw [List.getElem?_eq_getElem hi, Option.getD_some]; omega
      · omega
    simp only [this]
theorem refTo_set {l : List Int} {n i : Nat} (hi : i < l.length) (h : l[i] = n) : (refTo l n i).set i (codeAt l i) = refTo l n (i + 1) := by
  apply List.ext_getElem
  · simp [refTo]
  · intro s h1 h2
    rw [List.getElem_set]
    simp only [refTo, List.getElem_map, List.getElem_range]
    by_cases e : i = s
    · subst e
      rw [if_pos rfl, if_pos]
      rw [List.getElem?_eq_getElem hi, Option.getD_some]; omega
    · rw [if_neg e]
      have : (l[s]?.getD 0 < (n : Int) ∨ (l[s]?.getD 0 = (n : Int) ∧ s < i)) ↔ (l[s]?.getD 0 < (n : Int) ∨ (l[s]?.getD 0 = (n : Int) ∧ s < i + 1)) := by omega
      simp only [this]
theorem code_next {l : List Int} {n i : Nat} (hi : i < l.length) (h : l[i] = n) (hn : 0 < n) : codeAt l i = ((n : Int), firstC l n + cntL (l.take i) n) := by
  have := nextB_code hi h hn
  rw [this]
  unfold nextB
  rw [if_neg (by omega)]
theorem cnt_skip {l : List Int} {n i : Nat} (hi : i < l.length) (h : l[i] ≠ n) : cntL (l.take (i + 1)) n = cntL (l.take i) n := by
  rw [List.take_succ_eq_append_getElem hi, cntL_snoc, if_neg h, Nat.add_zero]
theorem cnt_same {l : List Int} {n i : Nat} (hi : i < l.length) (h : l[i] = n) : cntL (l.take (i + 1)) n = cntL (l.take i) n + 1 := by
  rw [List.take_succ_eq_append_getElem hi, cntL_snoc, if_pos h]

theorem owns_addr {w : World} {base e n size cap : Nat} {a : Option Addr} {cs : List Value} (h : w.ownsRow base e size (.slice a n cap) n cs) (hn : 0 < n) : ∃ g, a = some ⟨g, 0, none⟩ ∧ base ≤ g := by
  obtain ⟨_, h⟩ := h
  rcases h with ⟨_, h0⟩ | ⟨g, cap', cur, hv, hg, _⟩
  · omega
  · injection hv with h1 _ _
    exact ⟨g, h1, hg⟩
theorem cells_two_new (w : World) (x y : Value) (t : TypeId) : ∀ j u, [x, y][j]? = some u → (w.alloc (.cells #[x, y] t)).cell? ((⟨w.heap.size, 0, none⟩ : Addr).add j) = some u := by
  intro j u hj
  rw [add_none, Nat.zero_add, World.cell?_alloc_new]
  simpa using hj
theorem codeE_one (c : Int × Int) : ∀ u ∈ codeE c, u.oneCell' = true := by
  intro u hu
  simp only [codeE, List.mem_cons, List.not_mem_nil, or_false] at hu
  rcases hu with rfl | rfl <;> rfl
theorem rep_snoc (k : Nat) : cellsC (List.replicate k (0, 0)) ++ codeE (0, 0) = cellsC (List.replicate (k + 1) (0, 0)) := by
  rw [List.replicate_succ', cellsC_append]; rfl

set_option maxRecDepth 100000 in
set_option maxHeartbeats 4000000 in
theorem codesR_any (v : Value) (l : List Int) (w : World) (hv : SlOf w v 1 (fun x => [.int .i64 x]) l) (hl : l.length ≤ 140737488355328) :
    Calls Try.prog 63 #[v] w fun e w' => ∃ v', e = .returned (.tuple #[v', .bool (lensOk l)]) ∧ SlOf w' v' 2 codeE (codesR l) ∧ Below w.heap.size w w' := by
  obtain ⟨i0, hi, hz0, hz1, hz2⟩ := info_parts info_code
  have hv0 := hv
  obtain ⟨aX, cX, rfl, hcX, hnX, hcellX⟩ := hv
  have HV := Lib.hid hv0
  clear hv0 hcellX hnX
  by_cases h300 : 300 < l.length
  · have hbad : lensOk l = false := by
      cases h : lensOk l with
      | false => rfl
      | true => have := (lensOk_parts h).1; omega
    have HBad := Lib.hid hbad
    clear hbad
    have g0 : (300 : Int) < (l.length : Int) := by omega
    go_enter Try.func63, Try.ntmps63
    go_wp2_with fail
    refine bodyPost_ret (results_tmp2 rfl _ _ _) rfl ?_
    exact ⟨.slice none 0 0, by rw [HBad.out]; rfl, by rw [codesR_no HBad.out]; exact sl_nil (fun _ => rfl), Below.refl _ _⟩
  · have g0 : ¬ (300 : Int) < (l.length : Int) := by omega
    have HE := Lib.hid (owns_empty w 80 2)
    go_enter Try.func63, Try.ntmps63
    go_wp2_with fail
    go_loopw [4, 5] (fun out i wr => ∃ k : Nat, k ≤ l.length ∧ i = .int .i64 k ∧ wr.ownsRow w.heap.size 80 2 out k (cellsC (List.replicate k (0, 0))) ∧ Below w.heap.size w wr ∧ ∀ x ∈ l.take k, 0 ≤ x ∧ x ≤ 15) (fun _ i _ => l.length - (intOf i).toNat)
    case atStart => exact ⟨0, Nat.zero_le _, rfl, HE.out, (Below.refl _ _).alloc (Nat.le_refl _) _, by simp⟩
    case round =>
      obtain ⟨k, hk, rfl, hown, hb, hall⟩ := hrel
      obtain ⟨a0, c0, rfl, _⟩ := owns_shape hown
      have Hall := Lib.hid hall
      have Hown := Lib.hid hown
      have Hb := Lib.hid hb
      clear hall hown hb HE
      by_cases hlt : k < l.length
      · rcases sl_one HV.out with ⟨rfl, _⟩ | ⟨hp0, b0, o0, c1, hveq, hc0, hb0, cell0⟩
        · simp at hlt
        · injection hveq with h1 h2 h3
          subst h1 h3
          have e0 : wr.cell? ⟨b0, o0 + k, none⟩ = some (.int .i64 l[k]) := by rw [Hb.out.cell (p := ⟨b0, o0 + k, none⟩) hb0]; exact cell0 k hlt
          have HT := Lib.hid (List.take_succ_eq_append_getElem hlt)
          have hmem : l[k] ∈ l := List.getElem_mem hlt
          have hbad : ¬ (0 ≤ l[k] ∧ l[k] ≤ 15) → lensOk l = false := fun hx => by
            cases h : lensOk l with
            | false => rfl
            | true => exact absurd ((lensOk_parts h).2.1 _ hmem) hx
          have Hbad := Lib.hid hbad
          have g1 : (k : Int) < (l.length : Int) := by omega
          have g2 : (0 : Int) ≤ (k : Int) := by omega
          clear cell0 hmem hbad h2
          have Hall' : Hid (0 ≤ l[k] ∧ l[k] ≤ 15 → ∀ x ∈ l.take (k + 1), 0 ≤ x ∧ x ≤ 15) := by
            unfold Hid
            intro hx y hy
            rw [HT.out, List.mem_append, List.mem_singleton] at hy
            rcases hy with hy | rfl
            · exact Hall.out y hy
            · exact hx
          generalize l[k] = x at *
          by_cases hx0 : x < 0
          · have HBad := Lib.hid (Hbad.out (by omega))
            go_wp2_with fail
            refine bodyPost_ret (results_tmp2 rfl _ _ _) rfl ?_
            exact ⟨.slice none 0 0, by rw [HBad.out]; rfl, by rw [codesR_no HBad.out]; exact sl_nil (fun _ => rfl), Hb.out⟩
          by_cases hx15 : 15 < x
          · have HBad := Lib.hid (Hbad.out (by omega))
            go_wp2_with fail
            refine bodyPost_ret (results_tmp2 rfl _ _ _) rfl ?_
            exact ⟨.slice none 0 0, by rw [HBad.out]; rfl, by rw [codesR_no HBad.out]; exact sl_nil (fun _ => rfl), Hb.out⟩
          go_wp2_with (first
            | (at_builtin; refine wpList_append_own _ rfl _ _ 76 rfl w.heap.size 80 i0 _ 2 16 Try.underlying76 hi hz0 hz1 hz2 rfl (by decide) (.slice a0 k c0) _ _ rfl (Hown.out.alloc _) ⟨wr.heap.size, 0, none⟩ 1 1 (codeE (0, 0)) rfl rfl (cells_two_new _ _ _ _) (codeE_one _) (by simp [maxLen]; omega) (by omega) (by have := Hb.out.size; simp; omega) ?_; intro v3 w3 hown3 hgrow3 _)
            | fail)
          have hb3 : Below w.heap.size w w3 := (Hb.out.alloc Hb.out.size _).grown hgrow3 (by have := Hb.out.size; simp; omega) (fun b hbk => owns_block Hown.out b hbk)
          rw [rep_snoc] at hown3
          exact ⟨⟨k + 1, by omega, by go_num, hown3, hb3, Hall'.out (by omega)⟩, by simp [intOf]; omega⟩
      · obtain rfl : k = l.length := by omega
        have HT := Lib.hid (List.take_length (l := l))
        have hrange := Hall.out
        rw [HT.out] at hrange
        have HR := Lib.hid hrange
        clear hrange Hall
        go_wp2_with fail
        refine (kraftR_any _ l wr (sl_below HV.out Hb.out) hl).mono ?_
        rintro e w1 ⟨rfl, rfl⟩
        by_cases hkr : 32768 < kraftL l
        · have hbad : lensOk l = false := by
            cases h : lensOk l with
            | false => rfl
            | true => have := (lensOk_parts h).2.2; omega
          have HBad := Lib.hid hbad
          clear hbad
          generalize kraftL l = kr at *
          go_wp2_with fail
          refine bodyPost_ret (results_tmp2 rfl _ _ _) rfl ?_
          exact ⟨.slice none 0 0, by rw [HBad.out]; rfl, by rw [codesR_no HBad.out]; exact sl_nil (fun _ => rfl), Hb.out⟩
        · have HOk := Lib.hid (lensOk_of (l := l) (by omega) HR.out (by omega))
          have hst := Hown.out
          rw [← refTo_start HR.out] at hst
          have HSt := Lib.hid hst
          clear hst Hown
          generalize kraftL l = kr at *
          go_wp2_with fail
          obtain ⟨wo, hwo⟩ : ∃ wo : World, wo = wr := ⟨_, rfl⟩
          subst hwo
          go_loopw [6, 7] (fun nx i wr => ∃ M : Nat, M ≤ 15 ∧ i = .int .i64 ((M : Int) + 1) ∧ nx = .int .i64 (firstC l M + manyB l M) ∧ wr.ownsRow w.heap.size 80 2 (.slice a0 l.length c0) l.length (cellsC (refTo l (M + 1) 0)) ∧ Below w.heap.size w wr) (fun _ i _ => 17 - (intOf i).toNat)
          case atStart => exact ⟨0, by omega, rfl, rfl, HSt.out, Hb.out⟩
          case round =>
            obtain ⟨M, hM, rfl, rfl, hownM, hbM⟩ := hrel
            have HownM := Lib.hid hownM
            have HbM := Lib.hid hbM
            clear hownM hbM HSt
            by_cases hM15 : M < 15
            · obtain ⟨f0, f1⟩ := first_many_bd HOk.out hM15
              have m0 := (manyB_bd l M).1
              have HF := Lib.hid (firstC_step l M)
              have hfc : firstC l (M + 1) = 2 * (firstC l M + manyB l M) := by rw [HF.out]; omega
              have HFC := Lib.hid hfc
              have hcl := first_cnt_le HOk.out hM15
              have hp := p2_mono (m := M + 1) (n := 15) (by omega)
              rw [p2_15] at hp
              have g1 : (M : Int) + 1 ≤ 15 := by omega
              have q0 : 0 ≤ firstC l M + manyB l M := by omega
              clear hfc f0 m0
              generalize hs : firstC l M + manyB l M = s at *
              clear hs
              go_wp2_with fail
              obtain ⟨wo2, hwo2⟩ : ∃ wo2 : World, wo2 = wr := ⟨_, rfl⟩
              subst hwo2
              go_loopw [6, 8] (fun nx i wr => ∃ j : Nat, j ≤ l.length ∧ i = .int .i64 j ∧ nx = .int .i64 (firstC l (M + 1) + cntL (l.take j) (M + 1)) ∧ wr.ownsRow w.heap.size 80 2 (.slice a0 l.length c0) l.length (cellsC (refTo l (M + 1) j)) ∧ Below w.heap.size w wr) (fun _ i _ => l.length - (intOf i).toNat)
              case atStart => exact ⟨0, Nat.zero_le _, rfl, by rw [HFC.out]; simp [cntL], HownM.out, HbM.out⟩
              case round =>
                obtain ⟨j, hj, rfl, rfl, hownJ, hbJ⟩ := hrel
                have HownJ := Lib.hid hownJ
                have HbJ := Lib.hid hbJ
                clear hownJ hbJ HownM HbM
                by_cases hjl : j < l.length
                · obtain ⟨O, rfl, hOw⟩ := owns_addr HownJ.out (by omega)
                  rcases sl_one HV.out with ⟨rfl, _⟩ | ⟨hp0, b0, o0, c1, hveq, hc0, hb0, cell0⟩
                  · simp at hjl
                  · injection hveq with h1 h2 h3
                    subst h1 h3
                    have e0 : wr.cell? ⟨b0, o0 + j, none⟩ = some (.int .i64 l[j]) := by rw [HbJ.out.cell (p := ⟨b0, o0 + j, none⟩) hb0]; exact cell0 j hjl
                    have g3 : (j : Int) < (l.length : Int) := by omega
                    have g4 : (0 : Int) ≤ (j : Int) := by omega
                    have hct := cntL_take_le l j (M + 1)
                    have n0 := firstC_nonneg l (M + 1)
                    have hbO : b0 ≠ O := by omega
                    clear cell0 h2
                    by_cases hx : l[j] = ((M + 1 : Nat) : Int)
                    · have hlen : (refTo l (M + 1) j).length = l.length := refTo_length _ _ _
                      have hc := cellsC_get (refTo l (M + 1) j) j (by omega)
                      have e3 : wr.cell? ⟨O, j * 2, none⟩ = some (.int .i64 (refTo l (M + 1) j)[j].1) := by rw [HownJ.out.cellAt (j * 2) (by omega)]; exact hc.1
                      have e4 : wr.cell? ⟨O, j * 2 + 1, none⟩ = some (.int .i64 (refTo l (M + 1) j)[j].2) := by rw [HownJ.out.cellAt (j * 2 + 1) (by omega)]; exact hc.2
                      have e5 := HownJ.out.frozenAt (j * 2)
                      have e6 := HownJ.out.frozenAt (j * 2 + 1)
                      have hs1 := (HownJ.out.stored (j * 2) (.int .i64 ((M : Int) + 1))).1
                      have hs2 := (hs1.stored (j * 2 + 1) (.int .i64 (firstC l (M + 1) + cntL (l.take j) (M + 1)))).1
                      have hset := cellsC_set (refTo l (M + 1) j) ((M : Int) + 1, firstC l (M + 1) + cntL (l.take j) (M + 1)) j (by omega)
                      have hcn := code_next hjl hx (by omega)
                      rw [show (((M + 1 : Nat) : Int)) = (M : Int) + 1 by omega] at hcn
                      rw [hset, ← hcn, refTo_set hjl hx] at hs2
                      have HS := Lib.hid hs2
                      have Hb2 := Lib.hid ((HbJ.out.setCell (p := ⟨O, j * 2, none⟩) hOw (.int .i64 ((M : Int) + 1))).setCell (p := ⟨O, j * 2 + 1, none⟩) hOw (.int .i64 (firstC l (M + 1) + cntL (l.take j) (M + 1))))
                      have HC := Lib.hid (cnt_same hjl hx)
                      rw [hx, show (((M + 1 : Nat) : Int)) = (M : Int) + 1 by omega] at e0
                      have x1 : IntKind.i64.wrap (firstC l (M + 1) + (cntL (l.take j) (M + 1) : Int) + 1) = firstC l (M + 1) + (cntL (l.take j) (M + 1) : Int) + 1 := by rw [IntKind.wrap_i64]; omega
                      have HX := Lib.hid hx
                      clear hs1 hs2 hset hc hcn HV hx
                      generalize firstC l (M + 1) = F at *
                      generalize (refTo l (M + 1) j)[j].1 = y1 at *
                      generalize (refTo l (M + 1) j)[j].2 = y2 at *
                      generalize cntL (l.take j) (M + 1) = C at *
                      clear hlen
                      go_wp2_with fail
                      exact ⟨⟨j + 1, by omega, by go_num, by rw [HC.out]; congr 1; omega, HS.out, Hb2.out⟩, by simp [intOf]; omega⟩
                    · have HSk := Lib.hid (refTo_skip hjl hx)
                      have HC := Lib.hid (cnt_skip hjl hx)
                      have hne : ¬ (l[j] = (M : Int) + 1) := by omega
                      generalize l[j] = x at *
                      go_wp2_with fail
                      exact ⟨⟨j + 1, by omega, by go_num, by rw [HC.out], by rw [← HSk.out]; exact HownJ.out, HbJ.out⟩, by simp [intOf]; omega⟩
                · obtain rfl : j = l.length := by omega
                  have HN := Lib.hid (refTo_next l (M + 1))
                  have HT2 := Lib.hid (List.take_length (l := l))
                  go_wp2_with fail
                  refine ⟨⟨M + 1, by omega, by go_num, ?_, by rw [← HN.out]; exact HownJ.out, HbJ.out⟩, by simp [intOf]; omega⟩
                  rw [HT2.out]
                  unfold manyB
                  rw [if_neg (by omega)]
            · obtain rfl : M = 15 := by omega
              have g1 : ¬ (15 : Int) + 1 ≤ 15 := by omega
              go_wp2_with fail
              refine bodyPost_ret (results_tmp2 rfl _ _ _) rfl ?_
              refine ⟨_, by rw [HOk.out]; rfl, ?_, HbM.out⟩
              rw [codesR_ok HOk.out, ← refTo_end HR.out]
              exact (codes_of_owns HownM.out).1
end Go.Proofs.Ytolappilfjhfaaa
namespace Go.Proofs.Ytolappilfjhfaaa
open Go.RowKit

abbrev Bits (w : World) (v : Value) (l : List Bool) : Prop := SlOf w v 1 (fun x => [.bool x]) l
theorem put_sl (v : Value) (bs : List Bool) (n width : Int) (w : World) (hv : Bits w v bs) (hl : bs.length ≤ 140737488355232) (hok : putOk n width = true) :
    Calls Try.prog 57 #[v, .int .i64 n, .int .i64 width] w fun e w' => ∃ (a : Option Addr) (cap : Nat) (l : List Bool), e = .returned (.tuple #[.slice a l.length cap, .bool true]) ∧ Hid (l = bs ++ putL n width.toNat) ∧ Bits w' (.slice a l.length cap) l ∧ Below w.heap.size w w' :=
  (put_any v bs n width w hv hl hok).mono fun e w' ⟨v', he, hown, hb⟩ => by
    obtain ⟨a, cap, rfl, _⟩ := owns_shape hown
    exact ⟨a, cap, _, he, rfl, (sl_of_owns hown).1, hb⟩
theorem putR_sl (v : Value) (bs : List Bool) (n width : Int) (w : World) (hv : Bits w v bs) (hl : bs.length ≤ 140737488355232) (hok : putOk n width = true) :
    Calls Try.prog 62 #[v, .int .i64 n, .int .i64 width] w fun e w' => ∃ (a : Option Addr) (cap : Nat) (l : List Bool), e = .returned (.tuple #[.slice a l.length cap, .bool true]) ∧ Hid (l = bs ++ putL n width.toNat) ∧ Bits w' (.slice a l.length cap) l ∧ Below w.heap.size w w' :=
  (putR_any v bs n width w hv hl hok).mono fun e w' ⟨v', he, hown, hb⟩ => by
    obtain ⟨a, cap, rfl, _⟩ := owns_shape hown
    exact ⟨a, cap, _, he, rfl, (sl_of_owns hown).1, hb⟩

/-- May the symbol x be written? -/
def writeOk (l : List Int) (x : Int) : Bool := lensOk l && decide (0 ≤ x ∧ x < l.length ∧ l[x.toNat]?.getD 0 ≠ 0)
theorem writeOk_iff {l : List Int} {x : Int} : writeOk l x = true ↔ lensOk l = true ∧ 0 ≤ x ∧ x < l.length ∧ l[x.toNat]?.getD 0 ≠ 0 := by simp [writeOk]
theorem bits_putOk {l : List Int} (hok : lensOk l = true) {s : Nat} (hs : s < l.length) (h0 : l[s] ≠ 0) : putOk (codeC l s) l[s] = true := by
  obtain ⟨n, hn, hl⟩ := lens_get hok hs h0
  have h1 := codeC_nonneg l s
  have h2 := code_lt hok hs hl hn
  simp only [putOk, decide_eq_true_eq]
  rw [hl, Int.toNat_natCast]
  omega

set_option maxRecDepth 100000 in
set_option maxHeartbeats 2000000 in
theorem write_yes (v : Value) (l : List Int) (x : Int) (w : World) (hv : SlOf w v 1 (fun x => [.int .i64 x]) l) (hl : l.length ≤ 140737488355328) (h : writeOk l x = true) :
    Calls Try.prog 34 #[v, .int .i64 x] w fun e w' => ∃ (a : Option Addr) (cap : Nat) (b : List Bool), e = .returned (.tuple #[.slice a b.length cap, .bool true]) ∧ Hid (b = bitsC l x.toNat) ∧ Bits w' (.slice a b.length cap) b ∧ Below w.heap.size w w' := by
  obtain ⟨hok, hx0, hxl, hne⟩ := writeOk_iff.1 h
  obtain ⟨s, rfl⟩ := Int.eq_ofNat_of_zero_le hx0
  rw [Int.toNat_natCast] at hne ⊢
  have hs : s < l.length := by omega
  rw [List.getElem?_eq_getElem hs, Option.getD_some] at hne
  have h300 := (lensOk_parts hok).1
  have hrg := (lensOk_parts hok).2.1 l[s] (List.getElem_mem hs)
  have Hput := Lib.hid (bits_putOk hok hs hne)
  have hbits : Hid (bitsC l s = putL (codeC l s) l[s].toNat) := by unfold Hid bitsC; rw [List.getElem?_eq_getElem hs, Option.getD_some]
  have hcd := codes_any v l w hv hl
  rw [codesR_ok hok, hok] at hcd
  have hat : codeAt l s = (l[s], codeC l s) := by
    unfold codeAt
    rw [List.getElem?_eq_getElem hs, Option.getD_some, if_pos (by omega)]
  have Hat := Lib.hid hat
  have HOk := Lib.hid hok
  have HLn := Lib.hid (codesL_length l)
  have HGet := Lib.hid (codesL_get hs)
  clear hok h hat
  go_enter Try.func34, Try.ntmps34
  go_wp2_with fail
  refine hcd.mono ?_
  rintro e w1 ⟨v1, rfl, hsl, hb1⟩
  clear hcd
  rcases sl_codes hsl with ⟨h0, _⟩ | ⟨hp, b0, o0, c0, rfl, hc0, hb0, cell⟩
  · have := HLn.out; rw [h0] at this; simp at this; omega
  · have hcs := cell s (by rw [HLn.out]; exact hs)
    rw [HGet.out, Hat.out] at hcs
    rw [HLn.out]
    obtain ⟨e0, e1⟩ := hcs
    have hc0' := hc0
    rw [HLn.out] at hc0'
    have Hb1 := Lib.hid hb1
    have g0 : (s : Int) < (l.length : Int) := by omega
    have g1 : (0 : Int) ≤ (s : Int) := by omega
    have Hne := Lib.hid hne
    have hne2 : ¬ (l[s] = 0) := hne
    clear cell hsl hb1 hc0 hp hne
    generalize codeC l s = C at *
    generalize l[s] = n at *
    have d1 : decide ((s : Int) < 0) = false := by simp
    have d2 : decide (l.length ≤ s) = false := by simp; omega
    have d3 : (n == 0) = false := by simpa using hne2
    go_wp2_with fail
    go_region_held3 (Held w1) (first | exact held_start | exact held_call (by assumption) held_start) (first | (go_at_call 57; refine (put_sl _ [] _ _ _ (sl_nil fun _ => rfl) (by simp) Hput.out).mono ?_; rintro e w' ⟨a2, c2, l2, rfl, hl2, hs2, hb⟩))
    have hh : Held w1 w' := by assumption
    go_wp2_with fail
    refine bodyPost_ret (results_tmp2 rfl _ _ _) rfl ?_
    exact ⟨a2, c2, l2, rfl, by unfold Hid; rw [hl2.out, hbits.out, List.nil_append], hs2, Hb1.out.trans (hh.2.mono Hb1.out.size)⟩

set_option maxRecDepth 100000 in
set_option maxHeartbeats 2000000 in
theorem write_no (v : Value) (l : List Int) (x : Int) (w : World) (hv : SlOf w v 1 (fun x => [.int .i64 x]) l) (hl : l.length ≤ 140737488355328) (h : writeOk l x = false) :
    Calls Try.prog 34 #[v, .int .i64 x] w fun e w' => e = .returned (.tuple #[.slice none 0 0, .bool false]) ∧ Below w.heap.size w w' := by
  have hcd := codes_any v l w hv hl
  go_enter Try.func34, Try.ntmps34
  go_wp2_with fail
  refine hcd.mono ?_
  rintro e w1 ⟨v1, rfl, hsl, hb1⟩
  have Hb1 := Lib.hid hb1
  have Hsl := Lib.hid hsl
  clear hcd hb1 hsl hv
  cases hok : lensOk l with
  | false =>
    go_wp2_with fail
    go_ret2
    exact ⟨rfl, Hb1.out⟩
  | true =>
    have hsl := Hsl.out
    rw [codesR_ok hok] at hsl
    have HLn := Lib.hid (codesL_length l)
    by_cases hx0 : x < 0
    · go_wp2_with fail
      go_ret2
      exact ⟨rfl, Hb1.out⟩
    by_cases hxl : (l.length : Int) ≤ x
    · obtain ⟨a1, c1, rfl, _⟩ := hsl
      rw [HLn.out]
      clear Hsl
      go_wp2_with fail
      go_ret2
      exact ⟨rfl, Hb1.out⟩
    obtain ⟨s, rfl⟩ := Int.eq_ofNat_of_zero_le (a := x) (by omega)
    have hs : s < l.length := by omega
    have hz : l[s] = 0 := by
      by_cases hz : l[s] = 0
      · exact hz
      · exfalso
        have : writeOk l (s : Int) = true := writeOk_iff.2 ⟨hok, by omega, by omega, by rw [Int.toNat_natCast, List.getElem?_eq_getElem hs, Option.getD_some]; exact hz⟩
        rw [this] at h; cases h
    have hat : codeAt l s = (0, 0) := by
      unfold codeAt
      rw [List.getElem?_eq_getElem hs, Option.getD_some, hz]; rfl
    rcases sl_codes hsl with ⟨h0, _⟩ | ⟨hp, b0, o0, c0, rfl, hc0, hb0, cell⟩
    · have := HLn.out; rw [h0] at this; simp at this; omega
    · have hcs := cell s (by rw [HLn.out]; exact hs)
      rw [codesL_get hs, hat] at hcs
      rw [HLn.out]
      obtain ⟨e0, e1⟩ := hcs
      have g0 : (s : Int) < (l.length : Int) := by omega
      have g1 : (0 : Int) ≤ (s : Int) := by omega
      clear cell hsl hc0 hp hat hz Hsl h
      go_wp2_with fail
      go_ret2
      exact ⟨rfl, Hb1.out⟩

set_option maxRecDepth 100000 in
set_option maxHeartbeats 2000000 in
theorem writeR_yes (v : Value) (l : List Int) (x : Int) (w : World) (hv : SlOf w v 1 (fun x => [.int .i64 x]) l) (hl : l.length ≤ 140737488355328) (h : writeOk l x = true) :
    Calls Try.prog 38 #[v, .int .i64 x] w fun e w' => ∃ (a : Option Addr) (cap : Nat) (b : List Bool), e = .returned (.tuple #[.slice a b.length cap, .bool true]) ∧ Hid (b = bitsC l x.toNat) ∧ Bits w' (.slice a b.length cap) b ∧ Below w.heap.size w w' := by
  obtain ⟨hok, hx0, hxl, hne⟩ := writeOk_iff.1 h
  obtain ⟨s, rfl⟩ := Int.eq_ofNat_of_zero_le hx0
  rw [Int.toNat_natCast] at hne ⊢
  have hs : s < l.length := by omega
  rw [List.getElem?_eq_getElem hs, Option.getD_some] at hne
  have h300 := (lensOk_parts hok).1
  have hrg := (lensOk_parts hok).2.1 l[s] (List.getElem_mem hs)
  have Hput := Lib.hid (bits_putOk hok hs hne)
  have hbits : Hid (bitsC l s = putL (codeC l s) l[s].toNat) := by unfold Hid bitsC; rw [List.getElem?_eq_getElem hs, Option.getD_some]
  have hcd := codesR_any v l w hv hl
  rw [codesR_ok hok, hok] at hcd
  have hat : codeAt l s = (l[s], codeC l s) := by
    unfold codeAt
    rw [List.getElem?_eq_getElem hs, Option.getD_some, if_pos (by omega)]
  have Hat := Lib.hid hat
  have HOk := Lib.hid hok
  have HLn := Lib.hid (codesL_length l)
  have HGet := Lib.hid (codesL_get hs)
  rcases sl_one hv with ⟨rfl, _⟩ | ⟨_, bX, oX, cX, rfl, hcX, hbX, cellX⟩
  · simp at hs
  have eX := cellX s hs
  clear hok h hat hv cellX
  go_enter Try.func38, Try.ntmps38
  go_wp2_with fail
  refine hcd.mono ?_
  rintro e w1 ⟨v1, rfl, hsl, hb1⟩
  clear hcd
  have eX1 : w1.cell? ⟨bX, oX + s, none⟩ = some (.int .i64 l[s]) := by rw [hb1.cell (p := ⟨bX, oX + s, none⟩) hbX]; exact eX
  clear eX
  rcases sl_codes hsl with ⟨h0, _⟩ | ⟨hp, b0, o0, c0, rfl, hc0, hb0, cell⟩
  · have := HLn.out; rw [h0] at this; simp at this; omega
  · have hcs := cell s (by rw [HLn.out]; exact hs)
    rw [HGet.out, Hat.out] at hcs
    rw [HLn.out]
    obtain ⟨e0, e1⟩ := hcs
    have hc0' := hc0
    rw [HLn.out] at hc0'
    have Hb1 := Lib.hid hb1
    have g0 : (s : Int) < (l.length : Int) := by omega
    have g1 : (0 : Int) ≤ (s : Int) := by omega
    have Hne := Lib.hid hne
    have hne2 : ¬ (l[s] = 0) := hne
    clear cell hsl hb1 hc0 hp hne
    generalize codeC l s = C at *
    generalize l[s] = n at *
    go_wp2_with fail
    go_region_held3 (Held w1) (first | exact held_start | exact held_call (by assumption) held_start) (first | (go_at_call 62; refine (putR_sl _ [] _ _ _ (sl_nil fun _ => rfl) (by simp) Hput.out).mono ?_; rintro e w' ⟨a2, c2, l2, rfl, hl2, hs2, hb⟩))
    have hh : Held w1 w' := by assumption
    go_wp2_with fail
    refine bodyPost_ret (results_tmp2 rfl _ _ _) rfl ?_
    exact ⟨a2, c2, l2, rfl, by unfold Hid; rw [hl2.out, hbits.out, List.nil_append], hs2, Hb1.out.trans (hh.2.mono Hb1.out.size)⟩

set_option maxRecDepth 100000 in
set_option maxHeartbeats 2000000 in
theorem writeR_no (v : Value) (l : List Int) (x : Int) (w : World) (hv : SlOf w v 1 (fun x => [.int .i64 x]) l) (hl : l.length ≤ 140737488355328) (h : writeOk l x = false) :
    Calls Try.prog 38 #[v, .int .i64 x] w fun e w' => e = .returned (.tuple #[.slice none 0 0, .bool false]) ∧ Below w.heap.size w w' := by
  have hcd := codesR_any v l w hv hl
  have hv0 := hv
  obtain ⟨aX, cX, rfl, hcX, hnX, hcellX⟩ := hv
  have HV := Lib.hid hv0
  clear hv0 hcellX hnX
  go_enter Try.func38, Try.ntmps38
  go_wp2_with fail
  refine hcd.mono ?_
  rintro e w1 ⟨v1, rfl, hsl, hb1⟩
  have Hb1 := Lib.hid hb1
  clear hcd hb1 hsl
  cases hok : lensOk l with
  | false =>
    go_wp2_with fail
    go_ret2
    exact ⟨rfl, Hb1.out⟩
  | true =>
    by_cases hx0 : x < 0
    · go_wp2_with fail
      go_ret2
      exact ⟨rfl, Hb1.out⟩
    by_cases hxl : (l.length : Int) ≤ x
    · go_wp2_with fail
      go_ret2
      exact ⟨rfl, Hb1.out⟩
    obtain ⟨s, rfl⟩ := Int.eq_ofNat_of_zero_le (a := x) (by omega)
    have hs : s < l.length := by omega
    have hz : l[s] = 0 := by
      by_cases hz : l[s] = 0
      · exact hz
      · exfalso
        have : writeOk l (s : Int) = true := writeOk_iff.2 ⟨hok, by omega, by omega, by rw [Int.toNat_natCast, List.getElem?_eq_getElem hs, Option.getD_some]; exact hz⟩
        rw [this] at h; cases h
    rcases sl_one HV.out with ⟨rfl, _⟩ | ⟨_, bX, oX, cX, hveq, hcX, hbX, cellX⟩
    · simp at hs
    · injection hveq with h1 h2 h3
      subst h1 h3
      have eX : w1.cell? ⟨bX, oX + s, none⟩ = some (.int .i64 0) := by rw [Hb1.out.cell (p := ⟨bX, oX + s, none⟩) hbX, cellX s hs, hz]
      have g0 : (s : Int) < (l.length : Int) := by omega
      have g1 : (0 : Int) ≤ (s : Int) := by omega
      clear cellX hz h h2
      go_wp2_with fail
      go_ret2
      exact ⟨rfl, Hb1.out⟩
end Go.Proofs.Ytolappilfjhfaaa
namespace Go.Proofs.Ytolappilfjhfaaa
open Go.RowKit

/-- What Read tells. -/
def readV (l : List Int) (b : List Bool) (p : Int) : Value := match readO l b p with
  | some s => .tuple #[.int .i64 s, .int .i64 (p + l[s]?.getD 0), .bool true]
  | none => .tuple #[.int .i64 0, .int .i64 0, .bool false]
theorem readV_none {l : List Int} {b : List Bool} {p : Int} (h : readO l b p = none) : readV l b p = .tuple #[.int .i64 0, .int .i64 0, .bool false] := by unfold readV; rw [h]
theorem readV_some {l : List Int} {b : List Bool} {p : Int} {s : Nat} (h : readO l b p = some s) : readV l b p = .tuple #[.int .i64 s, .int .i64 (p + l[s]?.getD 0), .bool true] := by unfold readV; rw [h]
theorem readO_bad {l : List Int} {b : List Bool} {p : Int} (h : lensOk l = false) : readO l b p = none := by
  unfold readO; rw [if_neg]; rw [h]; simp
theorem readO_neg {l : List Int} {b : List Bool} {p : Int} (h : p < 0) : readO l b p = none := by
  unfold readO; rw [if_neg]; omega
theorem readO_far {l : List Int} {b : List Bool} {p : Int} (h : (b.length : Int) < p) : readO l b p = none := by
  cases hr : readO l b p with
  | none => rfl
  | some s =>
    have := readO_some hr
    have := (hit_iff.1 this.2.2).2.1
    omega

set_option maxRecDepth 100000 in
set_option maxHeartbeats 4000000 in
theorem read_any (v u : Value) (l : List Int) (b : List Bool) (p : Int) (w : World) (hv : SlOf w v 1 (fun x => [.int .i64 x]) l) (hu : Bits w u b) (hl : l.length ≤ 140737488355328) (hlb : b.length ≤ 140737488355328) :
    Calls Try.prog 65 #[v, u, .int .i64 p] w fun e w' => e = .returned (readV l b p) ∧ Below w.heap.size w w' := by
  have hbk := bookOf_any v l w hv hl
  have hu0 := hu
  obtain ⟨aU, cU, rfl, hcU, hnU, hcellU⟩ := hu
  have HU := Lib.hid hu0
  have HV := Lib.hid hv
  clear hu0 hcellU hnU hv
  go_enter Try.func65, Try.ntmps65
  go_wp2_with fail
  refine hbk.mono ?_
  rintro e w1 ⟨cs, hcs1, hcs2, hcs3, rfl, hb1⟩
  have HN1 := Lib.hid (arr_new w1 zeroBook 101)
  have Hb1 := Lib.hid hb1
  have Hcs1 := Lib.hid hcs1
  have Hcs2 := Lib.hid hcs2
  have Hcs3 := Lib.hid hcs3
  clear hbk hb1 hcs1 hcs2 hcs3
  cases hok : lensOk l with
  | false =>
    have HOk := Lib.hid hok
    go_wp2_with (first | (refine wpList_store_arr rfl 101 _ _ rfl w1.heap.size cs zeroBook 32 rfl rfl 101 HN1.out info_book rfl Hcs1.out Hcs2.out ?_; intro w2 hA hb hsz _) | fail)
    go_ret3
    exact ⟨by rw [readV_none (readO_bad HOk.out)]; rfl, (Hb1.out.alloc Hb1.out.size _).trans (hb _ Hb1.out.size)⟩
  | true =>
    have HOk := Lib.hid hok
    have hcs := Hcs3.out HOk.out
    subst hcs
    have h300 : l.length ≤ 300 := (lensOk_parts HOk.out).1
    clear Hcs1 Hcs2 Hcs3 hok
    by_cases hp0 : p < 0
    · go_wp2_with (first | (refine wpList_store_arr rfl 101 _ _ rfl w1.heap.size (bookCells l) zeroBook 32 rfl rfl 101 HN1.out info_book rfl (bookOf_length _ _) (bookOf_one _ _) ?_; intro w2 hA hb hsz _) | fail)
      go_ret3
      exact ⟨by rw [readV_none (readO_neg hp0)]; rfl, (Hb1.out.alloc Hb1.out.size _).trans (hb _ Hb1.out.size)⟩
    by_cases hpl : (b.length : Int) < p
    · have Hfar := Lib.hid (readO_far (l := l) hpl)
      go_wp2_with (first | (refine wpList_store_arr rfl 101 _ _ rfl w1.heap.size (bookCells l) zeroBook 32 rfl rfl 101 HN1.out info_book rfl (bookOf_length _ _) (bookOf_one _ _) ?_; intro w2 hA hb hsz _) | fail)
      go_ret3
      exact ⟨by rw [readV_none Hfar.out]; rfl, (Hb1.out.alloc Hb1.out.size _).trans (hb _ Hb1.out.size)⟩
    obtain ⟨P, rfl⟩ := Int.eq_ofNat_of_zero_le (a := p) (by omega)
    have hPb : P ≤ b.length := by omega
    go_wp2_with (first
      | (refine wpList_store_arr rfl 101 _ _ rfl w1.heap.size (bookCells l) zeroBook 32 rfl rfl 101 HN1.out info_book rfl (bookOf_length _ _) (bookOf_one _ _) ?_
         intro w2 hA hb hsz _
         have Hb2 := Lib.hid ((Hb1.out.alloc Hb1.out.size _).trans (hb _ Hb1.out.size))
         have HA2 := Lib.hid hA
         clear hA hb hsz HN1)
      | fail)
    have hKw : w.heap.size ≤ w1.heap.size := Hb1.out.size
    generalize hK : w1.heap.size = K at *
    clear hK Hb1
    go_loopw [11, 12] (fun c i wr => ∃ n : Nat, n ≤ 15 ∧ P + n ≤ b.length ∧ i = .int .i64 ((n : Int) + 1) ∧ c = .int .i64 (takeN ((b.drop P).take n)) ∧ Arr wr K 101 (bookCells l) ∧ Below w.heap.size w wr ∧ ∀ s, hit l b P s = true → n < (l[s]?.getD 0).toNat) (fun _ i _ => 17 - (intOf i).toNat)
    case atStart => exact ⟨0, by omega, by omega, rfl, by simp [takeN], HA2.out, Hb2.out, fun s h => (hit_iff.1 h).1⟩
    case round =>
      obtain ⟨n, hn, hPn, rfl, rfl, hA, hb, hno⟩ := hrel
      have HA := Lib.hid hA
      have Hb := Lib.hid hb
      have Hno := Lib.hid hno
      clear hA hb hno HA2 Hb2
      by_cases hend : n = 15 ∨ P + n = b.length
      · have hnone : ∀ s, hit l b P s = false := fun s => by
          cases hh : hit l b P s with
          | false => rfl
          | true =>
            exfalso
            have h1 := Hno.out s hh
            obtain ⟨hs, h0⟩ := hit_in hh
            have h2 := (lensOk_parts HOk.out).2.1 l[s] (List.getElem_mem hs)
            have h3 := (hit_iff.1 hh).2.1
            rw [List.getElem?_eq_getElem hs, Option.getD_some] at h1 h3
            omega
        have HNo := Lib.hid (readV_none (readO_none hnone))
        clear hnone
        by_cases h15 : n = 15
        · subst h15
          have g1 : ¬ (15 : Int) + 1 ≤ 15 := by omega
          go_wp2_with fail
          go_ret3
          exact ⟨by rw [HNo.out]; rfl, Hb.out⟩
        · have hlen : P + n = b.length := by omega
          have g1 : (n : Int) + 1 ≤ 15 := by omega
          have g2 : ¬ ((n : Int) + 1 ≤ (b.length : Int) - P) := by omega
          have d2 : decide ((n : Int) + 1 ≤ (b.length : Int) - P) = false := by simp; omega
          go_wp2_with fail
          go_ret3
          exact ⟨by rw [HNo.out]; rfl, Hb.out⟩
      · have hn15 : n < 15 := by omega
        have hlt : P + n < b.length := by omega
        rcases sl_one HU.out with ⟨rfl, _⟩ | ⟨_, b0, o0, c0, hveq, hc0, hb0, cell0⟩
        · simp at hlt
        · injection hveq with q1 q2 q3
          subst q1 q3
          have e0 : wr.cell? ⟨b0, o0 + (P + n), none⟩ = some (.bool b[P + n]) := by rw [Hb.out.cell (p := ⟨b0, o0 + (P + n), none⟩) hb0]; exact cell0 (P + n) hlt
          have e1 : wr.cell? ⟨K, 16 + (n + 1), none⟩ = some (.int .i64 (firstC l (n + 1))) := by
            rw [arr_cell HA.out]; unfold bookCells; rw [bookOf_first _ _ (by omega)]; simp [firstB]; omega
          have e2 : wr.cell? ⟨K, n + 1, none⟩ = some (.int .i64 (cntL l (n + 1))) := by
            rw [arr_cell HA.out]; unfold bookCells; rw [bookOf_many _ _ (by omega)]; simp [manyB]
          have htk : (b.drop P).take (n + 1) = (b.drop P).take n ++ [b[P + n]] := by
            have h1 : n < (b.drop P).length := by rw [List.length_drop]; omega
            rw [List.take_succ_eq_append_getElem h1, List.getElem_drop]
          have hT := takeN_snoc ((b.drop P).take n) b[P + n]
          rw [← htk] at hT
          have HT := Lib.hid hT
          have hbd := takeN_bd ((b.drop P).take n)
          have hbd2 := takeN_bd ((b.drop P).take (n + 1))
          have hle1 := p2_mono (m := ((b.drop P).take n).length) (n := 15) (by rw [List.length_take]; omega)
          have hle2 := p2_mono (m := ((b.drop P).take (n + 1)).length) (n := 15) (by rw [List.length_take]; omega)
          rw [p2_15] at hle1 hle2
          have hcc := first_cnt_le HOk.out hn15
          have hp15 := p2_mono (m := n + 1) (n := 15) (by omega)
          rw [p2_15] at hp15
          have hf0 := firstC_nonneg l (n + 1)
          have t0 := hbd.1
          have t1 : takeN ((b.drop P).take n) ≤ 32768 := by omega
          have t2 := hbd2.1
          have t3 : takeN ((b.drop P).take (n + 1)) ≤ 32768 := by omega
          have hf1 : firstC l (n + 1) ≤ 32768 := by omega
          have hcb : (cntL l (n + 1) : Int) ≤ 32768 := by omega
          have g1 : (n : Int) + 1 ≤ 15 := by omega
          have g2 : (n : Int) + 1 ≤ (b.length : Int) - P := by omega
          have d2 : decide ((n : Int) + 1 ≤ (b.length : Int) - P) = true := by simp; omega
          have g3 : (P : Int) + ((n : Int) + 1) - 1 = (P : Int) + (n : Int) := by omega
          have x1 : IntKind.i64.wrap ((P : Int) + ((n : Int) + 1)) = (P : Int) + ((n : Int) + 1) := IntWalk.i64_in _ (by omega)
          have x2 : IntKind.i64.wrap ((P : Int) + ((n : Int) + 1) - 1) = (P : Int) + (n : Int) := by rw [g3]; exact IntWalk.i64_in _ (by omega)
          have g4 : ((P : Int) + (n : Int)).toNat = P + n := by omega
          have g5 : (P : Int) + (n : Int) < (b.length : Int) := by omega
          have g6 : (0 : Int) ≤ (P : Int) + (n : Int) := by omega
          have g7 : ((n : Int) + 1).toNat = n + 1 := by omega
          have hnext : ∀ s, hit l b P s = true → n + 1 < (l[s]?.getD 0).toNat ∨ (firstC l (n + 1) ≤ takeN ((b.drop P).take (n + 1)) ∧ takeN ((b.drop P).take (n + 1)) < firstC l (n + 1) + cntL l (n + 1)) := fun s hh => by
            have h1 := Hno.out s hh
            obtain ⟨hs, h0⟩ := hit_in hh
            rcases Nat.lt_or_ge (n + 1) (l[s]?.getD 0).toNat with h | h
            · exact Or.inl h
            · right
              have hls : l[s] = ((n + 1 : Nat) : Int) := by
                rw [List.getElem?_eq_getElem hs, Option.getD_some] at h1 h
                omega
              exact hit_range hs hls hh
          have Hnext := Lib.hid hnext
          have Hin : Hid (firstC l (n + 1) ≤ takeN ((b.drop P).take (n + 1)) → takeN ((b.drop P).take (n + 1)) < firstC l (n + 1) + cntL l (n + 1) → ∃ s, ∃ hs : s < l.length, l[s] = ((n + 1 : Nat) : Int) ∧ (cntL (l.take s) (n + 1) : Int) = takeN ((b.drop P).take (n + 1)) - firstC l (n + 1) ∧ readV l b P = .tuple #[.int .i64 s, .int .i64 ((P : Int) + ((n : Int) + 1)), .bool true]) := by
            unfold Hid
            intro h1 h2
            obtain ⟨s, hs, hls, hcn, hh⟩ := hit_nth (l := l) (b := b) (p := P) (n := n) (i := (takeN ((b.drop P).take (n + 1)) - firstC l (n + 1)).toNat) (by omega) (by omega) (by omega)
            refine ⟨s, hs, hls, by omega, ?_⟩
            rw [readV_some (readO_hit HOk.out hh), List.getElem?_eq_getElem hs, Option.getD_some, hls]
            congr 5
          have hex := Hb.out
          clear cell0 htk hT hbd hbd2 hle1 hle2 hcc hp15 hnext Hno q2 hex
          generalize hT1 : takeN ((b.drop P).take (n + 1)) = T1 at *
          generalize hT0 : takeN ((b.drop P).take n) = t at *
          generalize hF : firstC l (n + 1) = F at *
          generalize hC : cntL l (n + 1) = C at *
          generalize b[P + n] = x at *
          have HT1 := Lib.hid hT1
          clear hT1 hT0 hF hC
          cases x
          · have hc : T1 = t * 2 := by rw [HT.out]; simp
            subst hc
            clear HT
            by_cases r0 : F ≤ t * 2
            · by_cases r1 : t * 2 - F < (C : Int)
              · obtain ⟨s, hs, hls, hcn, hrv⟩ := Hin.out r0 (by omega)
                have Hrv := Lib.hid hrv
                have hnth := nth_any v l ((n : Int) + 1) (t * 2 - F) s wr (sl_below HV.out Hb.out) hl hs (by rw [hls]; omega) (by rw [g7]; exact hcn.symm) (by omega)
                have b0 : decide (F ≤ t * 2) = true := by simpa using r0
                have b1 : decide (t * 2 - F < (C : Int)) = true := by simpa using r1
                have r2 : 0 ≤ t * 2 - F := by omega
                have b2 : decide (0 ≤ t * 2 - F) = true := by simpa using r2
                clear hrv hls hcn Hin Hnext HT1 hs
                go_wp2_with fail
                refine hnth.mono ?_
                rintro e w9 ⟨rfl, rfl⟩
                go_wp2_with fail
                go_ret3
                exact ⟨by rw [Hrv.out]; rfl, Hb.out⟩
              · have b0 : decide (F ≤ t * 2) = true := by simpa using r0
                have b1 : decide (t * 2 - F < (C : Int)) = false := by simpa using r1
                have r2 : 0 ≤ t * 2 - F := by omega
                have b2 : decide (0 ≤ t * 2 - F) = true := by simpa using r2
                have Hn2 : Hid (∀ s, hit l b P s = true → n + 1 < (l[s]?.getD 0).toNat) := by
                  intro s hh
                  rcases Hnext.out s hh with h | h
                  · exact h
                  · exfalso; omega
                clear Hin Hnext
                go_wp2_with fail
                exact ⟨⟨n + 1, by omega, by omega, by go_num, by rw [HT1.out], HA.out, Hb.out, Hn2.out⟩, by simp [intOf]; omega⟩
            · have b0 : decide (F ≤ t * 2) = false := by simpa using r0
              have r2 : ¬ 0 ≤ t * 2 - F := by omega
              have b2 : decide (0 ≤ t * 2 - F) = false := by simpa using r2
              have Hn2 : Hid (∀ s, hit l b P s = true → n + 1 < (l[s]?.getD 0).toNat) := by
                intro s hh
                rcases Hnext.out s hh with h | h
                · exact h
                · exfalso; omega
              clear Hin Hnext
              go_wp2_with fail
              exact ⟨⟨n + 1, by omega, by omega, by go_num, by rw [HT1.out], HA.out, Hb.out, Hn2.out⟩, by simp [intOf]; omega⟩
          · have hc : T1 = t * 2 + 1 := by rw [HT.out]; simp
            subst hc
            clear HT
            by_cases r0 : F ≤ t * 2 + 1
            · by_cases r1 : t * 2 + 1 - F < (C : Int)
              · obtain ⟨s, hs, hls, hcn, hrv⟩ := Hin.out r0 (by omega)
                have Hrv := Lib.hid hrv
                have hnth := nth_any v l ((n : Int) + 1) (t * 2 + 1 - F) s wr (sl_below HV.out Hb.out) hl hs (by rw [hls]; omega) (by rw [g7]; exact hcn.symm) (by omega)
                have b0 : decide (F ≤ t * 2 + 1) = true := by simpa using r0
                have b1 : decide (t * 2 + 1 - F < (C : Int)) = true := by simpa using r1
                have r2 : 0 ≤ t * 2 + 1 - F := by omega
                have b2 : decide (0 ≤ t * 2 + 1 - F) = true := by simpa using r2
                clear hrv hls hcn Hin Hnext HT1 hs
                go_wp2_with fail
                refine hnth.mono ?_
                rintro e w9 ⟨rfl, rfl⟩
                go_wp2_with fail
                go_ret3
                exact ⟨by rw [Hrv.out]; rfl, Hb.out⟩
              · have b0 : decide (F ≤ t * 2 + 1) = true := by simpa using r0
                have b1 : decide (t * 2 + 1 - F < (C : Int)) = false := by simpa using r1
                have r2 : 0 ≤ t * 2 + 1 - F := by omega
                have b2 : decide (0 ≤ t * 2 + 1 - F) = true := by simpa using r2
                have Hn2 : Hid (∀ s, hit l b P s = true → n + 1 < (l[s]?.getD 0).toNat) := by
                  intro s hh
                  rcases Hnext.out s hh with h | h
                  · exact h
                  · exfalso; omega
                clear Hin Hnext
                go_wp2_with fail
                exact ⟨⟨n + 1, by omega, by omega, by go_num, by rw [HT1.out], HA.out, Hb.out, Hn2.out⟩, by simp [intOf]; omega⟩
            · have b0 : decide (F ≤ t * 2 + 1) = false := by simpa using r0
              have r2 : ¬ 0 ≤ t * 2 + 1 - F := by omega
              have b2 : decide (0 ≤ t * 2 + 1 - F) = false := by simpa using r2
              have Hn2 : Hid (∀ s, hit l b P s = true → n + 1 < (l[s]?.getD 0).toNat) := by
                intro s hh
                rcases Hnext.out s hh with h | h
                · exact h
                · exfalso; omega
              clear Hin Hnext
              go_wp2_with fail
              exact ⟨⟨n + 1, by omega, by omega, by go_num, by rw [HT1.out], HA.out, Hb.out, Hn2.out⟩, by simp [intOf]; omega⟩
end Go.Proofs.Ytolappilfjhfaaa
namespace Go.Proofs.Ytolappilfjhfaaa
open Go.RowKit

set_option maxRecDepth 100000 in
set_option maxHeartbeats 4000000 in
theorem readR_any (v u : Value) (l : List Int) (b : List Bool) (p : Int) (w : World) (hv : SlOf w v 1 (fun x => [.int .i64 x]) l) (hu : Bits w u b) (hl : l.length ≤ 140737488355328) (hlb : b.length ≤ 140737488355328) (hpb : p ≤ 9223372036854775807) :
    Calls Try.prog 44 #[v, u, .int .i64 p] w fun e w' => e = .returned (readV l b p) ∧ Below w.heap.size w w' := by
  have hcd := codesR_any v l w hv hl
  have HU := Lib.hid hu
  clear hu hv
  go_enter Try.func44, Try.ntmps44
  go_wp2_with fail
  refine hcd.mono ?_
  rintro e w1 ⟨v1, rfl, hsl, hb1⟩
  have Hb1 := Lib.hid hb1
  have HU1 := Lib.hid (sl_below HU.out hb1)
  clear hcd hb1 HU
  cases hok : lensOk l with
  | false =>
    have HOk := Lib.hid hok
    go_wp2_with fail
    go_ret3
    exact ⟨by rw [readV_none (readO_bad HOk.out)]; rfl, Hb1.out⟩
  | true =>
    have HOk := Lib.hid hok
    rw [codesR_ok hok] at hsl
    have h300 := (lensOk_parts hok).1
    have HLn := Lib.hid (codesL_length l)
    have hsl0 := hsl
    obtain ⟨aC, cC, rfl, hcC, _⟩ := hsl
    have HC := Lib.hid hsl0
    rw [HLn.out] at HC
    have HC' := Lib.hid hsl0
    rw [HLn.out]
    clear hsl0 hok
    go_wp2_with fail
    go_loop [11] (fun i => ∃ k : Nat, k ≤ l.length ∧ i = .int .i64 k ∧ ∀ s, s < k → readO l b p ≠ some s) (fun i => l.length - (intOf i).toNat)
    case atStart => exact ⟨0, Nat.zero_le _, rfl, fun s hs => by omega⟩
    case round =>
      obtain ⟨k, hk, rfl, hno⟩ := hrel
      have Hno := Lib.hid hno
      clear hno
      by_cases hlt : k < l.length
      · rcases sl_codes HC'.out with ⟨h0, _⟩ | ⟨_, b0, o0, c0, hveq, hc0, hb0, cell⟩
        · have := HLn.out; rw [h0] at this; simp at this; omega
        · rw [HLn.out] at hveq
          injection hveq with q1 q2 q3
          subst q1 q3
          obtain ⟨e0, e1⟩ := cell k (by rw [HLn.out]; exact hlt)
          rw [codesL_get hlt] at e0 e1
          have hx := (lensOk_parts HOk.out).2.1 l[k] (List.getElem_mem hlt)
          have g0 : (k : Int) < (l.length : Int) := by omega
          have g1 : (0 : Int) ≤ (k : Int) := by omega
          have hgd : l[k]?.getD 0 = l[k] := by rw [List.getElem?_eq_getElem hlt, Option.getD_some]
          have Hnx : Hid (readO l b p ≠ some k → ∀ s, s < k + 1 → readO l b p ≠ some s) := by
            unfold Hid
            intro h s hs
            by_cases e : s = k
            · subst e; exact h
            · exact Hno.out s (by omega)
          clear cell q2 hc0
          by_cases hz : l[k] = 0
          · have hat : codeAt l k = (0, 0) := by unfold codeAt; rw [hgd, hz]; rfl
            rw [hat] at e0 e1
            have hne : readO l b p ≠ some k := fun h => by
              have := (hit_in (readO_some h).2.2).2
              omega
            have Hne := Lib.hid hne
            clear hat hgd hz hne
            go_wp2_with fail
            exact ⟨⟨k + 1, by omega, by go_num, Hnx.out Hne.out⟩, by simp [intOf]; omega⟩
          · have hat : codeAt l k = (l[k], codeC l k) := by unfold codeAt; rw [hgd, if_pos (by omega)]
            rw [hat] at e0 e1
            have hl0 : ¬ l[k] = 0 := hz
            obtain ⟨n, hn⟩ := Int.eq_ofNat_of_zero_le (a := l[k]) (by omega)
            have hgt : (l[k]?.getD 0).toNat = n := by rw [hgd, hn, Int.toNat_natCast]
            have d0 : ((n : Int) == 0) = false := by simp; omega
            rw [hn] at e0
            cases htk : takeOkR b.length p (n : Int) with
            | false =>
              have hne : readO l b p ≠ some k := fun h => by
                obtain ⟨_, hp0, hh⟩ := readO_some h
                have h2 := (hit_iff.1 hh).2.1
                rw [hgt] at h2
                have : takeOkR b.length p (n : Int) = true := by simp only [takeOkR, decide_eq_true_eq]; omega
                rw [this] at htk; cases htk
              have Hne := Lib.hid hne
              have hT := takeR_no _ b p (n : Int) w1 HU1.out hlb hpb htk
              clear hat hgd hz hne hgt hn htk
              go_wp2_with fail
              refine hT.mono ?_
              rintro e w9 ⟨rfl, rfl⟩
              go_wp2_with fail
              exact ⟨⟨k + 1, by omega, by go_num, Hnx.out Hne.out⟩, by simp [intOf]; omega⟩
            | true =>
              have htk' : 0 ≤ (n : Int) ∧ (n : Int) ≤ 30 ∧ 0 ≤ p ∧ p + (n : Int) ≤ b.length := by simpa [takeOkR] using htk
              have hT := takeR_any _ b p (n : Int) w1 HU1.out hlb htk
              rw [Int.toNat_natCast] at hT
              obtain ⟨_, _, hp0, hp1⟩ := htk'
              obtain ⟨P, rfl⟩ := Int.eq_ofNat_of_zero_le hp0
              rw [Int.toNat_natCast] at hT
              by_cases hm : takeN ((b.drop P).take n) = codeC l k
              · have hh : hit l b P k = true := hit_iff.2 (by rw [hgt]; exact ⟨by omega, by omega, hm⟩)
                have hrv := readV_some (readO_hit HOk.out hh)
                rw [hgd, hn] at hrv
                have Hrv := Lib.hid hrv
                have d1 : (takeN ((b.drop P).take n) == codeC l k) = true := by simpa using hm
                clear hat hgd hz hgt hn htk hh hrv hm
                generalize codeC l k = C at *
                generalize takeN ((b.drop P).take n) = T at *
                go_wp2_with fail
                refine hT.mono ?_
                rintro e w9 ⟨rfl, rfl⟩
                go_wp2_with fail
                go_ret3
                exact ⟨by rw [Hrv.out]; rfl, Hb1.out⟩
              · have hne : readO l b (P : Int) ≠ some k := fun h => by
                  have := (hit_iff.1 (readO_some h).2.2).2.2
                  rw [hgt, Int.toNat_natCast] at this
                  exact hm this
                have Hne := Lib.hid hne
                have d1 : (takeN ((b.drop P).take n) == codeC l k) = false := by simpa using hm
                clear hat hgd hz hgt hn htk hne hm
                generalize codeC l k = C at *
                generalize takeN ((b.drop P).take n) = T at *
                go_wp2_with fail
                refine hT.mono ?_
                rintro e w9 ⟨rfl, rfl⟩
                go_wp2_with fail
                exact ⟨⟨k + 1, by omega, by go_num, Hnx.out Hne.out⟩, by simp [intOf]; omega⟩
      · obtain rfl : k = l.length := by omega
        have hnone : readO l b p = none := by
          cases h : readO l b p with
          | none => rfl
          | some s =>
            obtain ⟨hs, _⟩ := hit_in (readO_some h).2.2
            exact absurd h (Hno.out s hs)
        have HNo := Lib.hid (readV_none hnone)
        clear hnone
        go_wp2_with fail
        go_ret3
        exact ⟨by rw [HNo.out]; rfl, Hb1.out⟩
end Go.Proofs.Ytolappilfjhfaaa
