/- Blocks as they are kept, and back: plain. No condition; no program. The contracts of codec's Encode, Decode, Sectors. Conditions: numbers fit. The fixed calls of layer 8. No condition. The walks of CodecSectors and CodecUnlike. Conditions: numbers fit. The walk of CodecBack. Conditions: numbers fit. The walk of CodecTotal. Conditions: numbers fit. -/
import Derived.Test.YtolappilfjhfaaaWk
import Derived.Test.YtolappilfjhfaaaWb
import Derived.Test.YtolappilfjhfaaaWh
import Derived.Test.YtolappilfjhfaaaWm
import Derived.Test.YtolappilfjhfaaaW1
namespace Go.Proofs.Ytolappilfjhfaaa

/-- What is told of a block's tokens. -/
abbrev splS (s : ByteArray) : List TokT := spl s.data.toList s.size 0
theorem exl_mayC {most : Int} : ∀ {ts : List TokT} {out r : List Int}, exl most ts out = some r → ∀ t ∈ ts, mayT t = true
  | [], _, _, _, t, ht => by cases ht
  | t :: ts, out, r, h, u, hu => by
    rw [exl] at h
    split at h
    · rename_i hc
      rcases List.mem_cons.1 hu with rfl | hu
      · exact hc.1
      · exact exl_mayC h u hu
    · cases h
theorem spl_wrOk (s : ByteArray) (h : s.size ≤ 256) : wrOk (splS s) = true := by
  have h1 := spl_count s.data.toList s.size 0
  have h2 : s.data.toList.length = s.size := rfl
  simp only [wrOk, Bool.and_eq_true, decide_eq_true_eq, List.all_eq_true]
  exact ⟨by show (spl s.data.toList s.size 0).length ≤ 1000; omega, spl_may _ _ _⟩
theorem spl_told (s : ByteArray) (most : Int) (h : (s.size : Int) ≤ most) : exl most (splS s) [] = some (numsOf s) := by
  have h2 := spl_back s.data.toList most h s.size 0 (by show s.size ≤ 0 + s.size; omega) (Nat.zero_le _)
  rw [List.take_zero] at h2
  exact h2
theorem exl_most {a b : Int} : ∀ {ts : List TokT} {out r : List Int}, exl a ts out = some r → (r.length : Int) ≤ b → exl b ts out = some r
  | [], out, r, h, _ => h
  | t :: ts, out, r, h, hb => by
    rw [exl] at h ⊢
    split at h
    · rename_i hc
      have h1 := (exl_le h).1
      have h2 := tell_length hc.1 out
      rw [if_pos ⟨hc.1, hc.2.1, by omega⟩]
      exact exl_most h hb
    · cases h

/-- What a block is encoded to. -/
def EncV (s : ByteArray) (t : ByteArray) (p ok : Bool) : Prop :=
  (s.size ≠ 256 → t = ByteArray.mk #[] ∧ p = false ∧ ok = false) ∧
  (s.size = 256 → ok = true ∧ ∃ L, LensR (timesL (splS s)) L ∧ (((packL (wrB L (splS s))).length < 256 ∧ t = strOfNums (packL (wrB L (splS s))) ∧ p = true) ∨ (256 ≤ (packL (wrB L (splS s))).length ∧ t = s ∧ p = false)))
theorem encV_det {s t u : ByteArray} {p q ok is : Bool} (h : EncV s t p ok) (k : EncV s u q is) : t = u ∧ p = q ∧ ok = is := by
  by_cases h0 : s.size = 256
  · obtain ⟨rfl, L, hL, h⟩ := h.2 h0
    obtain ⟨rfl, M, hM, k⟩ := k.2 h0
    obtain rfl := lensR_det hL hM
    rcases h with ⟨h1, rfl, rfl⟩ | ⟨h1, rfl, rfl⟩ <;> rcases k with ⟨k1, rfl, rfl⟩ | ⟨k1, rfl, rfl⟩
    · exact ⟨rfl, rfl, rfl⟩
    · omega
    · omega
    · exact ⟨rfl, rfl, rfl⟩
  · obtain ⟨rfl, rfl, rfl⟩ := h.1 h0
    obtain ⟨rfl, rfl, rfl⟩ := k.1 h0
    exact ⟨rfl, rfl, rfl⟩

/-- What bytes are decoded to. -/
def decO (s : ByteArray) (packed : Bool) : Option (List Int) :=
  if packed = false then (if s.size = 256 then some (numsOf s) else none)
  else match rdO (unpackL (numsOf s)) 256 with
    | some (l, q) => if 8 ≤ ((unpackL (numsOf s)).length : Int) - q ∨ ((unpackL (numsOf s)).drop q.toNat).any id = true then none else exl 256 l []
    | none => none
theorem decO_plain {s : ByteArray} (h : s.size = 256) : decO s false = some (numsOf s) := by unfold decO; rw [if_pos rfl, if_pos h]
theorem decO_plain_no {s : ByteArray} (h : s.size ≠ 256) : decO s false = none := by unfold decO; rw [if_pos rfl, if_neg h]
theorem decO_none {s : ByteArray} (h : rdO (unpackL (numsOf s)) 256 = none) : decO s true = none := by unfold decO; rw [if_neg (by decide), h]
theorem decO_bad {s : ByteArray} {l : List TokT} {q : Int} (h : rdO (unpackL (numsOf s)) 256 = some (l, q)) (hc : 8 ≤ ((unpackL (numsOf s)).length : Int) - q ∨ ((unpackL (numsOf s)).drop q.toNat).any id = true) : decO s true = none := by
  unfold decO; rw [if_neg (by decide), h]; simp only []; rw [if_pos hc]
theorem decO_good {s : ByteArray} {l : List TokT} {q : Int} (h : rdO (unpackL (numsOf s)) 256 = some (l, q)) (hc : ¬ (8 ≤ ((unpackL (numsOf s)).length : Int) - q ∨ ((unpackL (numsOf s)).drop q.toNat).any id = true)) : decO s true = exl 256 l [] := by
  unfold decO; rw [if_neg (by decide), h]; simp only []; rw [if_neg hc]
theorem decO_len {s : ByteArray} {p : Bool} {r : List Int} (h : decO s p = some r) : r.length = 256 := by
  unfold decO at h
  split at h
  · split at h
    · injection h with h; subst h; rw [numsOf_length]; assumption
    · cases h
  · cases hr : rdO (unpackL (numsOf s)) 256 with
    | none => rw [hr] at h; cases h
    | some x =>
      obtain ⟨l, q⟩ := x
      rw [hr] at h
      simp only [] at h
      split at h
      · cases h
      · obtain ⟨⟨r', h1, h2⟩, _⟩ := rd_facts hr
        rw [h1] at h
        injection h with h
        subst h
        omega
theorem packN_le (n : Nat) : 8 * packN n < n + 8 ∧ n ≤ 8 * packN n := by unfold packN; omega
theorem packL_bd (l : List Bool) : ∀ c ∈ packL l, 0 ≤ c ∧ c < 256 := by
  intro c hc
  unfold packL packTo at hc
  obtain ⟨j, _, rfl⟩ := List.mem_map.1 hc
  exact byteVal_bd l j
/-- What is encoded is decoded. -/
theorem dec_enc {s t : ByteArray} {p ok : Bool} (h : EncV s t p ok) (h0 : s.size = 256) : ok = true ∧ decO t p = some (numsOf s) ∧ t.size ≤ 256 ∧ 1 ≤ t.size ∧ (p = true ↔ t.size < 256) := by
  obtain ⟨rfl, L, hL, h⟩ := h.2 h0
  have hx := spl_told s 1000 (by omega)
  have hx2 := spl_told s 256 (by omega)
  have hlen := numsOf_length s
  rcases h with ⟨h1, rfl, rfl⟩ | ⟨h1, rfl, rfl⟩
  · have hu : unpackL (numsOf (strOfNums (packL (wrB L (splS s))))) = wrB L (splS s) ++ List.replicate (8 * packN (wrB L (splS s)).length - (wrB L (splS s)).length) false := by
      rw [nums_str (packL_bd _), unpack_pack]
    have hr := rd_wr hL (spl_wrOk s (by omega)) hx (List.replicate (8 * packN (wrB L (splS s)).length - (wrB L (splS s)).length) false)
    rw [← hu, hlen, h0] at hr
    have hpn := packN_le (wrB L (splS s)).length
    have h9 := (rd_facts hr).2.1
    refine ⟨rfl, ?_, by rw [str_size]; omega, ?_, by rw [str_size]; simp [h1]⟩
    · rw [decO_good hr ?_, hx2]
      rw [hu, Int.toNat_natCast, List.drop_left]
      simp
      omega
    · rw [str_size, packL_length]; omega
  · exact ⟨rfl, decO_plain h0, by omega, by omega, by simp [h0]⟩
theorem unpack_app (a b : List Int) : unpackL (a ++ b) = unpackL a ++ unpackL b := by unfold unpackL; rw [List.flatMap_append]
/-- A byte more is not decoded. -/
theorem dec_more {s t : ByteArray} {p : Bool} {r : List Int} (h : decO s p = some r) {x : Int} (ht : numsOf t = numsOf s ++ [x]) : decO t p = none := by
  have hl : t.size = s.size + 1 := by rw [← numsOf_length t, ht, List.length_append, numsOf_length]; rfl
  cases p with
  | false =>
    have : s.size = 256 := by
      unfold decO at h
      rw [if_pos rfl] at h
      split at h
      · assumption
      · cases h
    exact decO_plain_no (by omega)
  | true =>
    cases hr : rdO (unpackL (numsOf s)) 256 with
    | none => rw [decO_none hr] at h; cases h
    | some y =>
      obtain ⟨l, q⟩ := y
      obtain ⟨_, h9, hq, _, _, hp⟩ := rd_facts hr
      have hr2 : rdO (unpackL (numsOf t)) 256 = some (l, q) := by
        refine hp _ ⟨by omega, ?_, ?_⟩
        · rw [ht, unpack_app, List.length_append]; omega
        · rw [ht, unpack_app, List.take_append_of_le_length (by omega)]
      exact decO_bad hr2 (Or.inl (by rw [unpackL_length, numsOf_length] at hq ⊢; omega))
/-- A byte less is not decoded. -/
theorem dec_less {s t : ByteArray} {p : Bool} {r : List Int} (h : decO s p = some r) (hs : 0 < s.size) (ht : numsOf t = (numsOf s).take (s.size - 1)) : decO t p = none := by
  have hl : t.size = s.size - 1 := by rw [← numsOf_length t, ht, List.length_take, numsOf_length]; omega
  cases p with
  | false =>
    have : s.size = 256 := by
      unfold decO at h
      rw [if_pos rfl] at h
      split at h
      · assumption
      · cases h
    exact decO_plain_no (by omega)
  | true =>
    cases hr : rdO (unpackL (numsOf s)) 256 with
    | none => rw [decO_none hr] at h; cases h
    | some y =>
      obtain ⟨l, q⟩ := y
      obtain ⟨_, h9, hq, _, _, hp⟩ := rd_facts hr
      have hc : ¬ (8 ≤ ((unpackL (numsOf s)).length : Int) - q ∨ ((unpackL (numsOf s)).drop q.toNat).any id = true) := fun hc => by rw [decO_bad hr hc] at h; cases h
      have hc1 : ¬ (8 ≤ ((unpackL (numsOf s)).length : Int) - q) := fun e => hc (Or.inl e)
      have hul : (unpackL (numsOf s)).length = 8 * s.size := by rw [unpackL_length, numsOf_length]
      have hut : unpackL (numsOf t) = (unpackL (numsOf s)).take (8 * (s.size - 1)) := by
        have e : unpackL (numsOf s) = unpackL (numsOf t) ++ unpackL ((numsOf s).drop (s.size - 1)) := by rw [ht, ← unpack_app, List.take_append_drop]
        rw [e, List.take_left' (by rw [unpackL_length, numsOf_length, hl])]
      exact decO_none (by rw [hut]; exact rd_cut hr (by omega))
theorem nums_inj {s t : ByteArray} (h : numsOf s = numsOf t) : s = t := by rw [← str_nums s, ← str_nums t, h]
/-- Unlike blocks are encoded unlike. -/
theorem enc_inj {s t a b : ByteArray} {p q ok is : Bool} (h : EncV s a p ok) (k : EncV t b q is) (h0 : s.size = 256) (k0 : t.size = 256) (e : a = b ∧ p = q) : s = t := by
  obtain ⟨rfl, rfl⟩ := e
  have h1 := (dec_enc h h0).2.1
  have h2 := (dec_enc k k0).2.1
  rw [h1] at h2
  injection h2 with h2
  exact nums_inj h2
/-- How many sectors n bytes take. -/
def secN (n : Int) : Int := if n ≤ 0 then 0 else (n - 1) / 32 + 1
end Go.Proofs.Ytolappilfjhfaaa
namespace Go.Proofs.Ytolappilfjhfaaa
open Go.RowKit

theorem sectors_any (n : Int) (w : World) (hn : n ≤ 9223372036854775807) :
    Calls Try.prog 28 #[.int .i64 n] w fun e w' => e = .returned (.int .i64 (secN n)) ∧ w = w' := by
  by_cases h : n ≤ 0
  · have d : decide (n ≤ 0) = true := by simpa using h
    have HS : Hid (secN n = 0) := by unfold Hid secN; rw [if_pos h]
    go_enter Try.func28, Try.ntmps28
    go_wp2_with fail
    go_ret
    exact ⟨by rw [HS.out]; rfl, rfl⟩
  · have d : decide (n ≤ 0) = false := by simpa using h
    have HS : Hid (secN n = (n - 1) / 32 + 1) := by unfold Hid secN; rw [if_neg h]
    have h1 : 1 ≤ n := by omega
    have h2 : 0 ≤ n - 1 := by omega
    go_enter Try.func28, Try.ntmps28
    go_wp2_with fail
    go_ret
    exact ⟨by rw [HS.out]; rfl, rfl⟩

set_option maxRecDepth 100000 in
set_option maxHeartbeats 8000000 in
theorem encode_any (s : ByteArray) (w : World) :
    Calls Try.prog 25 #[.string s] w fun e w' => ∃ (t : ByteArray) (p ok : Bool), e = .returned (.tuple #[.string t, .bool p, .bool ok]) ∧ Hid (EncV s t p ok) ∧ Below w.heap.size w w' := by
  by_cases h0 : s.size = 256
  · have b0 : ((s.size : Int) != 256) = false := by rw [h0]; decide
    have b1 : ((s.size : Int) == 256) = true := by rw [h0]; decide
    have H0 := Lib.hid h0
    have hok := spl_wrOk s (by omega)
    have Hok := Lib.hid hok
    have hc1 := split_any s w (by omega)
    clear h0 hok
    go_enter Try.func25, Try.ntmps25
    go_wp2_with fail
    refine hc1.mono ?_
    rintro e w1 ⟨v1, rfl, hv1, ⟨a1, c1, rfl⟩, hb1⟩
    have hc2 := writeP_ok (.slice a1 (spl s.data.toList s.size 0).length c1) (splS s) w1 hv1 Hok.out
    have HB1 := Lib.hid hb1
    clear hc1 hv1 hb1
    generalize (spl s.data.toList s.size 0).length = nl at *
    go_wp2_with fail
    refine hc2.mono ?_
    rintro e w2 ⟨a2, c2, b2, rfl, hw2, hs2, hb2⟩
    have HB2 := Lib.hid (below_step' HB1.out hb2)
    have hle := wrV_le hw2
    have HW2 := Lib.hid hw2
    have hc3 := pack_any (.slice a2 b2.length c2) b2 w2 hs2 (by omega)
    have hsz := str_size (packL b2)
    have Hsz := Lib.hid hsz
    generalize hts : strOfNums (packL b2) = ts at *
    have Hts := Lib.hid hts
    clear hc2 hw2 hs2 hb2 hsz hts
    go_wp2_with fail
    refine hc3.mono ?_
    rintro e w3 ⟨rfl, hb3⟩
    have HB3 := Lib.hid (below_step' HB2.out hb3)
    clear hc3 hb3
    by_cases hlt : ts.size < 256
    · have d1 : decide ((ts.size : Int) < 256) = true := by simp; omega
      have d2 : decide (ts.size < 256) = true := by simp; omega
      go_wp2_with fail
      go_ret3
      refine ⟨ts, true, true, rfl, ⟨fun h => absurd H0.out h, fun _ => ⟨rfl, ?_⟩⟩, HB3.out⟩
      obtain ⟨L, hL, rfl⟩ := HW2.out.1 Hok.out
      exact ⟨L, hL, Or.inl ⟨by rw [← Hsz.out]; exact hlt, Hts.out.symm, rfl⟩⟩
    · have d1 : decide ((ts.size : Int) < 256) = false := by simp; omega
      have d2 : decide (ts.size < 256) = false := by simp; omega
      go_wp2_with fail
      go_ret3
      refine ⟨s, false, true, rfl, ⟨fun h => absurd H0.out h, fun _ => ⟨rfl, ?_⟩⟩, HB3.out⟩
      obtain ⟨L, hL, rfl⟩ := HW2.out.1 Hok.out
      exact ⟨L, hL, Or.inr ⟨by rw [← Hsz.out]; omega, rfl, rfl⟩⟩
  · have b0 : ((s.size : Int) != 256) = true := by simp; omega
    have b1 : ((s.size : Int) == 256) = false := by simp; omega
    have HE : Hid (EncV s (ByteArray.mk #[]) false false) := ⟨fun _ => ⟨rfl, rfl, rfl⟩, fun h => absurd h h0⟩
    clear h0
    go_enter Try.func25, Try.ntmps25
    go_wp2_with fail
    go_ret3
    exact ⟨_, false, false, rfl, HE.out, Below.refl _ _⟩

/-- What is told of what bytes are decoded to. -/
def decS (s : ByteArray) (p : Bool) : ByteArray := toldS (decO s p)
def decB (s : ByteArray) (p : Bool) : Bool := toldB (decO s p)
theorem dec_no {s : ByteArray} {p : Bool} (h : decO s p = none) : decS s p = ByteArray.empty ∧ decB s p = false := by unfold decS decB; rw [h]; exact ⟨rfl, rfl⟩
theorem dec_yes {s : ByteArray} {p : Bool} {r : List Int} (h : decO s p = some r) : decS s p = strOfNums r ∧ decB s p = true := by unfold decS decB; rw [h]; exact ⟨rfl, rfl⟩
theorem empty_lit : (ByteArray.mk #[] : ByteArray) = ByteArray.empty := rfl
theorem bits_drop {w : World} {b off n c : Nat} {l : List Bool} (h : Bits w (.slice (some ⟨b, off, none⟩) n c) l) {k : Nat} (hk : k < l.length) : b < w.heap.size ∧ w.cell? ⟨b, off + k, none⟩ = some (.bool l[k]) := by
  rcases sl_one h with ⟨h0, _⟩ | ⟨_, b', off', cap', hv', _, hb, hcell⟩
  · rw [h0] at hk; simp at hk
  · injection hv' with e1 _ _
    injection e1 with e1
    injection e1 with e1 e2 _
    subst e1 e2
    exact ⟨hb, hcell k hk⟩

set_option maxRecDepth 100000 in
set_option maxHeartbeats 8000000 in
theorem decode_any (s : ByteArray) (p : Bool) (w : World) (hs : s.size ≤ 17592186044416) :
    Calls Try.prog 30 #[.string s, .bool p] w fun e w' => e = .returned (.tuple #[.string (decS s p), .bool (decB s p)]) ∧ Below w.heap.size w w' := by
  cases p with
  | false =>
    by_cases h0 : s.size = 256
    · have b0 : ((s.size : Int) != 256) = false := by rw [h0]; decide
      have b1 : ((s.size : Int) == 256) = true := by rw [h0]; decide
      have hd := dec_yes (decO_plain h0)
      have H1 : Hid (decS s false = s) := by unfold Hid; rw [hd.1, str_nums]
      have H2 := Lib.hid hd.2
      clear h0 hd
      go_enter Try.func30, Try.ntmps30
      go_wp2_with fail
      go_ret2
      exact ⟨by rw [H1.out, H2.out]; rfl, Below.refl _ _⟩
    · have b0 : ((s.size : Int) != 256) = true := by simp; omega
      have b1 : ((s.size : Int) == 256) = false := by simp; omega
      have hd := dec_no (decO_plain_no h0)
      have H1 := Lib.hid hd.1
      have H2 := Lib.hid hd.2
      clear h0 hd
      go_enter Try.func30, Try.ntmps30
      go_wp2_with fail
      go_ret2
      exact ⟨by rw [H1.out, H2.out]; rfl, Below.refl _ _⟩
  | true =>
    have hc1 := unpack_any s w hs
    have hul := unpackL_length (numsOf s)
    rw [numsOf_length] at hul
    go_enter Try.func30, Try.ntmps30
    go_wp2_with fail
    refine hc1.mono ?_
    rintro e w1 ⟨v1, rfl, hown1, hb1⟩
    obtain ⟨a1, c1, rfl, hlc1, _⟩ := owns_shape hown1
    have HS1 := Lib.hid (sl_of_owns hown1).1
    have HB1 := Lib.hid hb1
    have hbits : (unpackL (numsOf s)).length ≤ 140737488355328 := by omega
    have hc2 := readP_any (.slice a1 (unpackL (numsOf s)).length c1) (unpackL (numsOf s)) 256 w1 HS1.out hbits
    clear hc1 hown1 hb1 hul
    go_wp2_with fail
    refine hc2.mono ?_
    rintro e w2 ⟨a2, c2, l, q, ok, rfl, hs2, ⟨hr, rfl⟩ | ⟨hr, rfl, rfl, rfl⟩, hb2⟩
    rotate_left
    · have hd := dec_no (decO_none hr)
      have H1 := Lib.hid hd.1
      have H2 := Lib.hid hd.2
      have HB2 := Lib.hid (below_step' HB1.out hb2)
      rw [show ([] : List TokT).length = 0 from rfl]
      clear hc2 hs2 hr hb2 hd
      generalize unpackL (numsOf s) = bs at *
      go_wp2_with fail
      go_ret2
      exact ⟨by rw [H1.out, H2.out]; rfl, HB2.out⟩
    have HB2 := Lib.hid (below_step' HB1.out hb2)
    have HS2 := Lib.hid hs2
    have HS1b := Lib.hid (sl_below HS1.out hb2)
    obtain ⟨⟨r, hx, hrl⟩, h9, hqb, _, _, _⟩ := rd_facts hr
    have Hbad := Lib.hid (decO_bad hr)
    have Hgood := Lib.hid (decO_good hr)
    have hll : l.length ≤ 256 := by have := (exl_le hx).1; simp only [List.length_nil] at this; omega
    clear hc2 hs2 hr hb2 hx hrl
    generalize unpackL (numsOf s) = bs at *
    obtain ⟨Q, rfl⟩ := Int.eq_ofNat_of_zero_le (a := q) (by omega)
    rw [Int.toNat_natCast] at Hbad Hgood
    by_cases h8 : 8 ≤ (bs.length : Int) - Q
    · have hd := dec_no (Hbad.out (Or.inl h8))
      have H1 := Lib.hid hd.1
      have H2 := Lib.hid hd.2
      have d1 : decide (8 ≤ (bs.length : Int) - (Q : Int)) = true := by simpa using h8
      clear hd
      go_wp2_with fail
      go_ret2
      exact ⟨by rw [H1.out, H2.out]; rfl, HB2.out⟩
    have d1 : decide (8 ≤ (bs.length : Int) - (Q : Int)) = false := by simpa using h8
    have hQ : Q ≤ bs.length := by omega
    have hQc : bs.length ≤ c1 := hlc1
    rcases sl_one HS1b.out with ⟨h0, _⟩ | ⟨_, bX, oX, cX, hveq, _, hbX, cellX⟩
    · rw [h0] at hQ; simp at hQ; omega
    injection hveq with q1 q2 q3
    subst q1 q3
    have HcX := Lib.hid cellX
    clear cellX q2
    have hQ8 : bs.length < Q + 8 := by omega
    -- the row of the bits behind Q
    by_cases hQe : Q = c1
    · have hQl : Q = bs.length := by omega
      have hd : decO s true = exl 256 l [] := Hgood.out (by rintro (h | h); exact h8 h; rw [hQl, List.drop_length] at h; cases h)
      have HD := Lib.hid hd
      have hex := expand_any (.slice a2 l.length c2) l 256 w2 HS2.out (by omega)
      rw [← hd] at hex
      obtain ⟨n, hn⟩ : ∃ n, bs.length = n := ⟨_, rfl⟩
      have hcn : c1 = n := by omega
      have hqn : Q = n := by omega
      rw [hn]
      subst hcn hqn
      clear hd hn hQe hQl HcX Hbad Hgood HS1 HS1b h8 hQ hQc hQ8 hqb h9 hlc1
      go_wp2_with fail
      go_loop [39] (fun ui => ui = .int .i64 0) (fun _ => 0)
      case atStart => rfl
      case round =>
        subst hrel
        go_wp2_with fail
        refine hex.mono ?_
        rintro e w3 ⟨rfl, hb3⟩
        go_wp2_with fail
        go_ret2
        exact ⟨rfl, below_step' HB2.out hb3⟩
    · have HD : Hid ((∀ i (hi : i < bs.length), Q ≤ i → bs[i] = false) → decO s true = exl 256 l []) := fun h => Hgood.out (by
        rintro (h' | h')
        · exact h8 h'
        · rw [List.any_eq_true] at h'
          obtain ⟨x, hx, hx1⟩ := h'
          obtain ⟨i, hi, rfl⟩ := List.getElem_of_mem hx
          rw [List.length_drop] at hi
          rw [List.getElem_drop, h _ (by omega) (by omega)] at hx1
          cases hx1)
      have HNo : Hid (∀ i (hi : i < bs.length), Q ≤ i → bs[i] = true → decO s true = none) := fun i hi hQi hb => Hbad.out (Or.inr (by
        rw [List.any_eq_true]
        refine ⟨bs[i], ?_, hb⟩
        have : bs[i] = (bs.drop Q)[i - Q]'(by rw [List.length_drop]; omega) := by
          rw [List.getElem_drop]; congr 1; omega
        rw [this]; exact List.getElem_mem _))
      have hne : ¬ (c1 = Q) := fun e => hQe e.symm
      have hex := expand_any (.slice a2 l.length c2) l 256 w2 HS2.out (by omega)
      have hbX1 : bX < w2.heap.size := hbX
      clear Hbad Hgood HS1 HS1b hQe
      go_wp2_with fail
      go_loop [39] (fun ui => ∃ j : Nat, ui = .int .i64 j ∧ j ≤ bs.length - Q ∧ Hid (∀ i (hi : i < bs.length), Q ≤ i → i < Q + j → bs[i] = false)) (fun ui => bs.length - Q - (intOf ui).toNat)
      case atStart => exact ⟨0, rfl, Nat.zero_le _, fun i hi h1 h2 => by omega⟩
      case round =>
        obtain ⟨j, rfl, hj, Hj⟩ := hrel
        by_cases hjl : j < bs.length - Q
        · have hjb : Q + j < bs.length := by omega
          have e0 := HcX.out (Q + j) hjb
          rw [← Nat.add_assoc] at e0
          have HNj := Lib.hid (HNo.out (Q + j) hjb (by omega))
          have Hnext : Hid (bs[Q + j] = false → ∀ i (hi : i < bs.length), Q ≤ i → i < Q + (j + 1) → bs[i] = false) := fun h i hi h1 h2 => by
            by_cases e : i = Q + j
            · subst e; exact h
            · exact Hj.out i hi h1 (by omega)
          generalize bs[Q + j] = x at *
          cases x with
          | false =>
            have Hn := Lib.hid (Hnext.out rfl)
            clear Hnext HNj
            go_wp2_with fail
            exact ⟨⟨j + 1, by go_num, by omega, Hn.out⟩, by simp [intOf]; omega⟩
          | true =>
            have hd := dec_no (HNj.out rfl)
            have H1 := Lib.hid hd.1
            have H2 := Lib.hid hd.2
            clear hd Hnext HNj
            go_wp2_with fail
            go_ret2
            exact ⟨by rw [H1.out, H2.out]; rfl, HB2.out⟩
        · have hjn : j = bs.length - Q := by omega
          have hd := HD.out (fun i hi h1 => Hj.out i hi h1 (by omega))
          rw [← hd] at hex
          clear hd
          go_wp2_with fail
          refine hex.mono ?_
          rintro e w3 ⟨rfl, hb3⟩
          go_wp2_with fail
          go_ret2
          exact ⟨rfl, below_step' HB2.out hb3⟩
end Go.Proofs.Ytolappilfjhfaaa
namespace Go.Proofs.Ytolappilfjhfaaa
open Go.RowKit

def zeroBytes : List Value := List.replicate 256 (.int .u8 0)
def zeroStr : ByteArray := strOfNums (List.replicate 256 0)
theorem zeroStr_size : zeroStr.size = 256 := by unfold zeroStr; rw [str_size, List.length_replicate]
theorem zeroBytes_eq : zeroBytes = (List.replicate 256 (0 : Int)).map (Value.int .u8) := by unfold zeroBytes; rw [List.map_replicate]

set_option maxRecDepth 100000 in
theorem make256 : ∀ w : World, (Instr.makeSlice 69 (.int .i64 256) (.int .i64 256)).run Try.prog w = .ok (.slice (some ⟨w.heap.size, 0, none⟩) 256 256) (w.alloc (.cells zeroBytes.toArray 5)) := fun _ => by kernel_rfl

set_option maxRecDepth 100000 in
set_option maxHeartbeats 2000000 in
theorem zeros_any (w : World) : Calls Try.prog 50 #[] w fun e w' => e = .returned (.string zeroStr) ∧ Below w.heap.size w w' := by
  have hmk := make256
  have hsl : SlOf (w.alloc (.cells zeroBytes.toArray 5)) (.slice (some ⟨w.heap.size, 0, none⟩) 256 256) 1 (fun x => [.int .u8 x]) (List.replicate 256 0) := by
    have := sl_alloc (f := Value.int .u8) w 5 (List.replicate 256 (0 : Int)) 256 (by simp)
    rw [← zeroBytes_eq, List.length_replicate] at this
    exact this
  have hcv := convert_sl hsl
  have HB : Hid (Below w.heap.size w (w.alloc (.cells zeroBytes.toArray 5))) := (Below.refl _ _).alloc (Nat.le_refl _) _
  change _ = Result.ok (Value.string zeroStr) _ at hcv
  clear hsl
  generalize zeroStr = z at *
  generalize zeroBytes.toArray = zb at *
  go_enter Try.func50, Try.ntmps50
  go_wp2_with fail
  go_ret
  exact ⟨rfl, HB.out⟩

theorem spl_cps (c : UInt8) : ∀ (m f i n : Nat), 1 ≤ i → n = i + 18 * m + 3 → m + 2 ≤ f → spl (List.replicate n c) f i = List.replicate m (0, 1, 18) ++ [(0, 1, 3)]
  | 0, f, i, n, h1, hn, hf => by
    obtain ⟨f', rfl⟩ : ∃ f', f = f' + 1 + 1 := ⟨f - 2, by omega⟩
    have h3 : longP (List.replicate n c) i = (3, 1) := by rw [long_rep n i c h1 (by omega), show n - i = 3 by omega]; rfl
    rw [spl, if_pos (by rw [List.length_replicate]; omega), h3, if_neg (by decide), spl, if_neg (by rw [List.length_replicate]; simp; omega)]
    rfl
  | m + 1, f, i, n, h1, hn, hf => by
    obtain ⟨f', rfl⟩ : ∃ f', f = f' + 1 := ⟨f - 1, by omega⟩
    have h3 : longP (List.replicate n c) i = (18, 1) := by rw [long_rep n i c h1 (by omega), Nat.min_eq_left (by omega)]
    rw [spl, if_pos (by rw [List.length_replicate]; omega), h3, if_neg (by decide), spl_cps c m f' (i + 18) n (by omega) (by omega) (by omega)]
    rfl
def zTok : List TokT := (0, 0, 0) :: (List.replicate 14 (0, 1, 18) ++ [(0, 1, 3)])
theorem zero_split : splS zeroStr = zTok := by
  have hd : zeroStr.data.toList = List.replicate 256 (0 : UInt8) := by
    unfold zeroStr
    rw [strOfNums_data, List.map_replicate]; rfl
  show spl zeroStr.data.toList zeroStr.size 0 = zTok
  rw [hd, zeroStr_size]
  have h0 : longP (List.replicate 256 (0 : UInt8)) 0 = (0, 0) := long_rep_none 256 0 0 (Or.inl rfl)
  show spl (List.replicate 256 0) (255 + 1) 0 = zTok
  rw [spl, if_pos (by rw [List.length_replicate]; decide), h0, if_pos rfl, spl_cps 0 14 255 (0 + 1) 256 (by decide) (by decide) (by decide), bt_rep 256 0 0 (by decide)]
  rfl
def zLn : List Int := (((List.replicate 272 (0 : Int)).set 0 2).set 256 2).set 271 1
theorem z_init : initT (timesL zTok) = [.leaf 1 0, .leaf 1 256, .leaf 14 271] := by kernel_rfl
theorem z_lens : LensR (timesL zTok) zLn := by
  refine .stop (Or.inr (Or.inr ⟨by rw [z_init]; decide, .node (.node (.leaf 1 0) (.leaf 1 256)) (.leaf 14 271), ?_, ?_⟩)) ?_
  · rw [z_init]
    refine .step (a := .leaf 1 0) (b := .leaf 1 256) (R := [.leaf 14 271]) (List.Perm.refl _) ?_ ?_ (.step (a := .node (.leaf 1 0) (.leaf 1 256)) (b := .leaf 14 271) (R := []) (List.Perm.refl _) ?_ ?_ (.one _))
    · intro x hx
      rcases List.mem_cons.1 hx with rfl | hx
      · show ltT _ _ = false; decide
      · rw [List.mem_singleton.1 hx]; show ltT _ _ = false; decide
    · intro x hx; rw [List.mem_singleton.1 hx]; show ltT _ _ = false; decide
    · intro x hx; rw [List.mem_singleton.1 hx]; show ltT _ _ = false; decide
    · intro x hx; cases hx
  · rw [timesL_length]; rfl
  · unfold maxOk; decide +kernel
theorem z_len : (packL (wrB zLn zTok)).length = 24 := by
  rw [packL_length]
  have : (wrB zLn zTok).length = 186 := by decide +kernel
  rw [this]; rfl
theorem enc_zero {t : ByteArray} {p ok : Bool} (h : EncV zeroStr t p ok) : ok = true ∧ p = true ∧ t.size = 24 ∧ decS t true = zeroStr ∧ decB t true = true := by
  obtain ⟨h1, h2, _, _, h5⟩ := dec_enc h zeroStr_size
  obtain ⟨_, L, hL, hc⟩ := h.2 zeroStr_size
  rw [zero_split] at hL hc
  obtain rfl := lensR_det hL z_lens
  rw [z_len] at hc
  rcases hc with ⟨_, rfl, rfl⟩ | ⟨hc, _⟩
  · obtain ⟨d1, d2⟩ := dec_yes h2
    exact ⟨h1, rfl, by rw [str_size, z_len], by rw [d1, str_nums], d2⟩
  · omega
abbrev strA : ByteArray := { data := #[97] }
theorem enc_a {t : ByteArray} {p ok : Bool} (h : EncV strA t p ok) : t = ByteArray.mk #[] ∧ p = false ∧ ok = false := h.1 (by decide)
theorem dec_a : decS strA false = ByteArray.empty ∧ decB strA false = false := dec_no (decO_plain_no (by decide))
theorem sec33 : secN 33 = 2 ∧ secN 0 = 0 := by decide

set_option maxRecDepth 100000 in
set_option maxHeartbeats 8000000 in
theorem fixed08_any (w : World) : Calls Try.prog 27 #[] w fun e w' => e = .returned (.bool true) ∧ Below w.heap.size w w' := by
  have c1 := zeros_any w
  go_enter Try.func27, Try.ntmps27
  go_wp2_with fail
  refine c1.mono ?_
  rintro e w1 ⟨rfl, hb1⟩
  have c2 := encode_any zeroStr w1
  have HB1 := Lib.hid hb1
  clear c1 hb1
  go_wp2_with fail
  refine c2.mono ?_
  rintro e w2 ⟨t, p, ok, rfl, hen, hb2⟩
  obtain ⟨rfl, rfl, hts, hd1, hd2⟩ := enc_zero hen
  have HB2 := Lib.hid (below_step' HB1.out hb2)
  have c3 := decode_any t true w2 (by omega)
  rw [hd1, hd2] at c3
  have d32 : decide ((t.size : Int) < 32) = true := by simp; omega
  have d32' : decide (t.size < 32) = true := by simp; omega
  clear c2 hen hts hd1 hd2 hb2
  go_wp2_with fail
  refine c3.mono ?_
  rintro e w3 ⟨rfl, hb3⟩
  have HB3 := Lib.hid (below_step' HB2.out hb3)
  have c4 := encode_any strA w3
  clear c3 hb3
  go_wp2_with fail
  refine c4.mono ?_
  rintro e w4 ⟨t4, p4, ok4, rfl, hen, hb4⟩
  obtain ⟨rfl, rfl, rfl⟩ := enc_a hen
  have HB4 := Lib.hid (below_step' HB3.out hb4)
  have c5 := decode_any strA false w4 (by decide)
  rw [dec_a.1, dec_a.2] at c5
  clear c4 hen hb4
  go_wp2_with fail
  refine c5.mono ?_
  rintro e w5 ⟨rfl, hb5⟩
  have HB5 := Lib.hid (below_step' HB4.out hb5)
  have c6 := zeros_any w5
  clear c5 hb5
  go_wp2_with fail
  refine c6.mono ?_
  rintro e w6 ⟨rfl, hb6⟩
  have HB6 := Lib.hid (below_step' HB5.out hb6)
  have hse : (zeroStr.toList == zeroStr.toList) = true := by simp
  have c7 := sectors_any 33 w6 (by decide)
  have c8 := sectors_any 0 w6 (by decide)
  rw [sec33.1] at c7
  rw [sec33.2] at c8
  clear c6 hb6
  go_wp2_with fail
  refine c7.mono ?_
  rintro e w7 ⟨rfl, rfl⟩
  go_wp2_with fail
  refine c8.mono ?_
  rintro e w8 ⟨rfl, rfl⟩
  go_wp2_with fail
  go_ret
  exact ⟨rfl, HB6.out⟩
end Go.Proofs.Ytolappilfjhfaaa
namespace Go.Proofs.Ytolappilfjhfaaa
open Go.RowKit

theorem str_eq_yes (a : ByteArray) : (a.toList == a.toList) = true := by simp
theorem str_eq_no {a b : ByteArray} (h : a ≠ b) : (a.toList == b.toList) = false := by
  rw [beq_eq_false_iff_ne]
  intro e
  rw [ByteArray.toList_eq, ByteArray.toList_eq] at e
  exact h (ByteArray.ext (Array.toList_inj.mp e))

set_option maxRecDepth 100000 in
set_option maxHeartbeats 8000000 in
theorem csectors_walk (n m : Int) (w : World) (hn : n ≤ 9223372036854775807) (hm : m ≤ 9223372036854775807) :
    Calls Try.prog 13 #[.int .i64 n, .int .i64 m] w fun e w' => e = .returned (.bool true) ∧ Below w.heap.size w w' := by
  have hf := fixed08_any w
  go_enter Try.func13, Try.ntmps13
  go_wp2_with fail
  refine hf.mono ?_
  rintro e w1 ⟨rfl, hb1⟩
  have HB1 := Lib.hid hb1
  clear hf hb1
  have hf := fixed08_any w1
  by_cases hbad : n < 1 ∨ m < n ∨ 1000000000 < m
  · have hend : ∀ W, Calls Try.prog 28 #[.int .i64 0] W fun e w' => e = .returned (.int .i64 0) ∧ W = w' := fun W => by
      have q := sectors_any 0 W (by decide)
      rw [sec33.2] at q; exact q
    have Hend := Lib.hid hend
    clear hend
    by_cases h1 : n < 1
    · have d1 : decide (n < 1) = true := by simpa using h1
      clear hbad
      go_wp2_with fail
      refine hf.mono ?_
      rintro e w2 ⟨rfl, hb2⟩
      go_wp2_with fail
      refine (Hend.out w2).mono ?_
      rintro e w3 ⟨rfl, rfl⟩
      go_wp2_with fail
      go_ret
      exact ⟨rfl, below_step' HB1.out hb2⟩
    have d1 : decide (n < 1) = false := by simpa using h1
    by_cases h2 : m < n
    · have d2 : decide (m < n) = true := by simpa using h2
      clear hbad
      go_wp2_with fail
      refine hf.mono ?_
      rintro e w2 ⟨rfl, hb2⟩
      go_wp2_with fail
      refine (Hend.out w2).mono ?_
      rintro e w3 ⟨rfl, rfl⟩
      go_wp2_with fail
      go_ret
      exact ⟨rfl, below_step' HB1.out hb2⟩
    have d2 : decide (m < n) = false := by simpa using h2
    have d3 : decide (1000000000 < m) = true := by simp; omega
    clear hbad
    go_wp2_with fail
    refine hf.mono ?_
    rintro e w2 ⟨rfl, hb2⟩
    go_wp2_with fail
    refine (Hend.out w2).mono ?_
    rintro e w3 ⟨rfl, rfl⟩
    go_wp2_with fail
    go_ret
    exact ⟨rfl, below_step' HB1.out hb2⟩
  · have d1 : decide (n < 1) = false := by simp; omega
    have d2 : decide (m < n) = false := by simp; omega
    have d3 : decide (1000000000 < m) = false := by simp; omega
    have c1 := sectors_any n w1 hn
    have c2 := sectors_any m w1 hm
    have e1 : secN n = (n - 1) / 32 + 1 := by unfold secN; rw [if_neg (by omega)]
    have e2 : secN m = (m - 1) / 32 + 1 := by unfold secN; rw [if_neg (by omega)]
    have hk : 1 ≤ secN n ∧ secN n ≤ 40000000 ∧ n ≤ 32 * secN n ∧ 32 * (secN n - 1) < n ∧ secN n ≤ secN m := by rw [e1, e2]; omega
    generalize secN n = k at *
    generalize secN m = j at *
    obtain ⟨k1, k2, k3, k4, k5⟩ := hk
    have d4 : decide (n ≤ 32 * k) = true := by simpa using k3
    have d5 : decide (32 * (k - 1) < n) = true := by simpa using k4
    have d6 : decide (k ≤ j) = true := by simpa using k5
    clear hf hbad e1 e2
    go_wp2_with fail
    refine c1.mono ?_
    rintro e w2 ⟨rfl, rfl⟩
    clear c1
    go_wp2_with fail
    refine c2.mono ?_
    rintro e w2 ⟨rfl, rfl⟩
    go_wp2_with fail
    go_ret
    exact ⟨by first | rfl | simp, HB1.out⟩

set_option maxRecDepth 100000 in
set_option maxHeartbeats 8000000 in
theorem cunlike_walk (s t : ByteArray) (w : World) :
    Calls Try.prog 12 #[.string s, .string t] w fun e w' => e = .returned (.bool true) ∧ Below w.heap.size w w' := by
  have hf := fixed08_any w
  go_enter Try.func12, Try.ntmps12
  go_wp2_with fail
  refine hf.mono ?_
  rintro e w1 ⟨rfl, hb1⟩
  have HB1 := Lib.hid hb1
  clear hf hb1
  have hf := fixed08_any w1
  by_cases hs : s.size = 256
  · have s0 : ((s.size : Int) != 256) = false := by rw [hs]; decide
    have s1 : ((s.size : Int) == 256) = true := by rw [hs]; decide
    have Hs := Lib.hid hs
    clear hs
    by_cases ht : t.size = 256
    · have t0 : ((t.size : Int) != 256) = false := by rw [ht]; decide
      have t1 : ((t.size : Int) == 256) = true := by rw [ht]; decide
      have Ht := Lib.hid ht
      have c1 := encode_any s w1
      clear ht hf
      go_wp2_with fail
      refine c1.mono ?_
      rintro e w2 ⟨a, p, ok, rfl, h1, hb2⟩
      have HB2 := Lib.hid (below_step' HB1.out hb2)
      have c2 := encode_any t w2
      clear c1 hb2
      go_wp2_with fail
      refine c2.mono ?_
      rintro e w3 ⟨b, q, is, rfl, h2, hb3⟩
      have HB3 := Lib.hid (below_step' HB2.out hb3)
      clear c2 hb3
      by_cases hst : s = t
      · subst hst
        obtain ⟨rfl, rfl, rfl⟩ := encV_det h1.out h2.out
        have x1 := str_eq_yes s
        have x2 := str_eq_yes a
        have x3 : (p == p) = true := by simp
        clear h1 h2
        go_wp2_with fail
        go_ret
        exact ⟨by first | rfl | simp, HB3.out⟩
      · have x1 := str_eq_no hst
        by_cases hab : a = b
        · subst hab
          have hpq : p ≠ q := fun e => hst (enc_inj h1.out h2.out Hs.out Ht.out ⟨rfl, e⟩)
          have x2 := str_eq_yes a
          have x3 : (p == q) = false := by simpa using hpq
          clear h1 h2 hst hpq
          go_wp2_with fail
          go_ret
          exact ⟨by first | rfl | simp, HB3.out⟩
        · have x2 := str_eq_no hab
          clear h1 h2 hst hab
          go_wp2_with fail
          go_ret
          exact ⟨by first | rfl | simp, HB3.out⟩
    · have t0 : ((t.size : Int) != 256) = true := by simp; omega
      have t1 : ((t.size : Int) == 256) = false := by simp; omega
      clear ht
      go_wp2_with fail
      refine hf.mono ?_
      rintro e w2 ⟨rfl, hb2⟩
      go_wp2_with fail
      go_ret
      exact ⟨rfl, below_step' HB1.out hb2⟩
  · have s0 : ((s.size : Int) != 256) = true := by simp; omega
    have s1 : ((s.size : Int) == 256) = false := by simp; omega
    clear hs
    go_wp2_with fail
    refine hf.mono ?_
    rintro e w2 ⟨rfl, hb2⟩
    go_wp2_with fail
    go_ret
    exact ⟨rfl, below_step' HB1.out hb2⟩
end Go.Proofs.Ytolappilfjhfaaa
namespace Go.Proofs.Ytolappilfjhfaaa
open Go.RowKit

set_option maxRecDepth 100000 in
set_option maxHeartbeats 8000000 in
theorem cback_walk (s : ByteArray) (w : World) :
    Calls Try.prog 10 #[.string s] w fun e w' => e = .returned (.bool true) ∧ Below w.heap.size w w' := by
  have c1 := encode_any s w
  go_enter Try.func10, Try.ntmps10
  go_wp2_with fail
  refine c1.mono ?_
  rintro e w1 ⟨a, p, ok, rfl, h1, hb1⟩
  have HB1 := Lib.hid hb1
  have hf := fixed08_any w1
  clear c1 hb1
  go_wp2_with fail
  refine hf.mono ?_
  rintro e w2 ⟨rfl, hb2⟩
  have HB2 := Lib.hid (below_step' HB1.out hb2)
  clear hf hb2
  by_cases hs : s.size = 256
  · have s0 : ((s.size : Int) != 256) = false := by rw [hs]; decide
    have s1 : ((s.size : Int) == 256) = true := by rw [hs]; decide
    obtain ⟨rfl, hd, hle, hge, hp⟩ := dec_enc h1.out hs
    obtain ⟨d1, d2⟩ := dec_yes hd
    rw [str_nums] at d1
    have c2 := decode_any a p w2 (by omega)
    rw [d1, d2] at c2
    have hsec : secN (a.size : Int) ≤ 8 ∧ 1 ≤ secN (a.size : Int) := by unfold secN; rw [if_neg (by omega)]; omega
    have c3 := sectors_any (a.size : Int) 
    have x0 := str_eq_yes s
    have y1 : decide ((a.size : Int) ≤ 256) = true := by simp; omega
    have y1' : decide (a.size ≤ 256) = true := by simp; omega
    have hpb : (p == decide (a.size < 256)) = true := by
      rw [beq_iff_eq]
      by_cases h : a.size < 256
      · rw [hp.2 h]; simp [h]
      · cases p with
        | true => exact absurd (hp.1 rfl) h
        | false => simp [h]
    have hpb' : (p == decide ((a.size : Int) < 256)) = true := by
      rw [← hpb]; congr 1; simp; omega
    generalize secN (a.size : Int) = k at *
    have y2 : decide (k ≤ 8) = true := by simp; omega
    have y3 : decide (1 ≤ k) = true := by simp; omega
    have C3 := Lib.hid c3
    have hak : (a.size : Int) ≤ 9223372036854775807 := by omega
    clear h1 hs hd hp d1 d2 c3
    go_wp2_with fail
    refine c2.mono ?_
    rintro e w3 ⟨rfl, hb3⟩
    have HB3 := Lib.hid (below_step' HB2.out hb3)
    clear c2 hb3
    go_wp2_with fail
    refine (C3.out w3 hak).mono ?_
    rintro e w4 ⟨rfl, rfl⟩
    go_wp2_with fail
    refine (C3.out w3 hak).mono ?_
    rintro e w4 ⟨rfl, rfl⟩
    go_wp2_with fail
    go_ret
    exact ⟨by first | rfl | simp, HB3.out⟩
  · have s0 : ((s.size : Int) != 256) = true := by simp; omega
    have s1 : ((s.size : Int) == 256) = false := by simp; omega
    obtain ⟨rfl, rfl, rfl⟩ := h1.out.1 hs
    have hf := fixed08_any w2
    clear h1 hs
    go_wp2_with fail
    refine hf.mono ?_
    rintro e w3 ⟨rfl, hb3⟩
    go_wp2_with fail
    go_ret
    exact ⟨by first | rfl | simp, below_step' HB2.out hb3⟩
end Go.Proofs.Ytolappilfjhfaaa
namespace Go.Proofs.Ytolappilfjhfaaa
open Go.RowKit

theorem nums_app (a b : ByteArray) : numsOf (a ++ b) = numsOf a ++ numsOf b := by
  unfold numsOf
  rw [ByteArray.data_append, Array.toList_append, List.map_append]
theorem nums_less (s : ByteArray) : numsOf (s.extract 0 (s.size - 1)) = (numsOf s).take (s.size - 1) := by
  unfold numsOf
  rw [ByteArray.data_extract, Array.toList_extract, List.map_take]
  simp
theorem dec_pos {s : ByteArray} {p : Bool} {r : List Int} (h : decO s p = some r) : 0 < s.size := by
  rcases Nat.eq_zero_or_pos s.size with h0 | h0
  · exfalso
    cases p with
    | false => rw [decO_plain_no (by omega)] at h; cases h
    | true =>
      cases hr : rdO (unpackL (numsOf s)) 256 with
      | none => rw [decO_none hr] at h; cases h
      | some x =>
        obtain ⟨l, q⟩ := x
        obtain ⟨_, h9, hq, _⟩ := rd_facts hr
        rw [unpackL_length, numsOf_length, h0] at hq
        omega
  · exact h0

set_option maxRecDepth 100000 in
set_option maxHeartbeats 8000000 in
theorem ctotal_walk (s : ByteArray) (p : Bool) (w : World) :
    Calls Try.prog 11 #[.string s, .bool p] w fun e w' => e = .returned (.bool true) ∧ Below w.heap.size w w' := by
  have hf := fixed08_any w
  go_enter Try.func11, Try.ntmps11
  go_wp2_with fail
  refine hf.mono ?_
  rintro e w1 ⟨rfl, hb1⟩
  have HB1 := Lib.hid hb1
  clear hf hb1
  by_cases hs : 2000 < s.size
  · have d1 : decide ((2000 : Int) < (s.size : Int)) = true := by simp; omega
    have d1' : decide (2000 < s.size) = true := by simp; omega
    have hf := fixed08_any w1
    clear hs
    go_wp2_with fail
    refine hf.mono ?_
    rintro e w2 ⟨rfl, hb2⟩
    go_wp2_with fail
    go_ret
    exact ⟨rfl, below_step' HB1.out hb2⟩
  have d1 : decide ((2000 : Int) < (s.size : Int)) = false := by simp; omega
  have d1' : decide (2000 < s.size) = false := by simp; omega
  have c1 := decode_any s p w1 (by omega)
  cases hd : decO s p with
  | none =>
    obtain ⟨z1, z2⟩ := dec_no hd
    rw [z1, z2] at c1
    clear hd z1 z2
    go_wp2_with fail
    refine c1.mono ?_
    rintro e w2 ⟨rfl, hb2⟩
    go_wp2_with fail
    go_ret
    exact ⟨by first | rfl | simp, below_step' HB1.out hb2⟩
  | some r =>
    obtain ⟨z1, z2⟩ := dec_yes hd
    have hrl := decO_len hd
    have hts : (decS s p).size = 256 := by rw [z1, str_size, hrl]
    rw [z2] at c1
    generalize decS s p = ts at *
    have x1 : ((ts.size : Int) == 256) = true := by rw [hts]; decide
    have Hd := Lib.hid hd
    clear hd z1 z2 hrl hts
    go_wp2_with fail
    refine c1.mono ?_
    rintro e w2 ⟨rfl, hb2⟩
    have HB2 := Lib.hid (below_step' HB1.out hb2)
    clear c1 hb2
    have hpos := dec_pos Hd.out
    have c2 := decode_any (s ++ ByteArray.mk #[120]) p w2 (by rw [ByteArray.size_append]; show s.size + 1 ≤ _; omega)
    obtain ⟨z1, z2⟩ := dec_no (dec_more Hd.out (x := 120) (nums_app s (ByteArray.mk #[120])))
    rw [z1, z2] at c2
    clear z1 z2
    go_wp2_with fail
    refine c2.mono ?_
    rintro e w3 ⟨rfl, hb3⟩
    have HB3 := Lib.hid (below_step' HB2.out hb3)
    have c3 := decode_any (s.extract 0 (s.size - 1)) p w3 (by rw [ByteArray.size_extract]; omega)
    obtain ⟨z1, z2⟩ := dec_no (dec_less Hd.out hpos (nums_less s))
    rw [z1, z2] at c3
    have y0 : ((s.size : Int) - 1).toNat = s.size - 1 := by omega
    have y1 : (0 : Int) ≤ (s.size : Int) - 1 := by omega
    have y2 : (1 : Int) ≤ (s.size : Int) := by omega
    have y3 : (s.size : Int) - 1 ≤ (s.size : Int) := by omega
    clear c2 hb3 z1 z2
    go_wp2_with fail
    refine c3.mono ?_
    rintro e w4 ⟨rfl, hb4⟩
    go_wp2_with fail
    go_ret
    exact ⟨by first | rfl | simp, below_step' HB3.out hb4⟩
end Go.Proofs.Ytolappilfjhfaaa
