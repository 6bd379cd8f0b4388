/- The contract of Lens. Conditions: numbers fit. The contract of Lens. Conditions: numbers fit. The contract of Kraft. Conditions: numbers fit. Contracts: may symbols be there so often; how many are there; are two lists alike; what lengths cost; the fixed calls of layer 5. Conditions: numbers fit. -/
import Derived.Test.YtolappilfjhfaaaWd
import Derived.Test.YtolappilfjhfaaaW0
namespace Go.Proofs.Ytolappilfjhfaaa
open Go.RowKit

theorem below_step' {w a b : World} (h : Below w.heap.size w a) (h2 : Below a.heap.size a b) : Below w.heap.size w b := h.trans (h2.mono h.size)
abbrev IntsV (w : World) (v : Value) (l : List Int) : Prop := SlOf w v 1 (fun x => [.int .i64 x]) l

set_option maxRecDepth 100000 in
set_option maxHeartbeats 400000 in
theorem clone_ints (v : Value) (bs : List Int) (w : World) (hv : IntsV w v bs) (hl : bs.length ≤ 1000000) (hp : 0 < bs.length) :
    Calls Try.prog 54 #[v] w fun e w' => ∃ v', e = .returned v' ∧ Lens w.heap.size w' v' bs ∧ Below w.heap.size w w' := by
  obtain ⟨i0, hi, hz0, hz1, hz2⟩ := info_parts info_int
  rcases sl_one hv with ⟨rfl, a0, c0, rfl, hn0⟩ | ⟨hp0, b0, o0, c0, rfl, hc0, hb0, cell0⟩
  · simp at hp
  · have hq := fun wx : World => Lib.run_eql_slice_nil (P := Try.prog) wx 50 3 (some ⟨b0, o0, none⟩) bs.length c0 0 0 Try.underlying50
    have hnews : ∀ (j : Nat) (u : Value), (bs.map (Value.int .i64))[j]? = some u → (w.alloc (.cells #[] 3)).cell? ((⟨b0, o0, none⟩ : Addr).add j) = some u := by
      intro j u hj
      rw [add_none, World.cell?_alloc_lt _ _ _ hb0]
      rw [List.getElem?_map] at hj
      cases hjb : bs[j]? with
      | none => rw [hjb] at hj; cases hj
      | some x =>
        rw [hjb] at hj
        obtain ⟨hlt, rfl⟩ := List.getElem?_eq_some_iff.1 hjb
        rw [cell0 j hlt]
        exact hj
    have Hnews := Lib.hid hnews
    clear hnews cell0 hv
    go_enter Try.func54, Try.ntmps54
    go_wp2_with (at_builtin; refine wpList_append_own _ rfl _ _ 50 rfl w.heap.size 3 i0 (.int .i64 0) 1 8 Try.underlying50 hi hz0 hz1 hz2 rfl (by decide) _ _ _ rfl (owns_none w 3 1) ⟨b0, o0, none⟩ bs.length c0 (bs.map (Value.int .i64)) rfl ?hl Hnews.out ?h1 ?h63 ?hby ?hbase ?_)
    case hl => simp
    case h1 => exact fun u hu => by obtain ⟨b, _, rfl⟩ := List.mem_map.1 hu; rfl
    case h63 => simp [maxLen]; omega
    case hby => omega
    case hbase => simp
    intro v' w' hown hgrow _
    go_wp2
    go_ret
    exact ⟨v', rfl, by unfold Lens; simpa using hown, ((Below.refl _ _).alloc (Nat.le_refl _) _).grown hgrow (by simp) (fun k hk => by simp only [Value.ownBlock, Option.some.injEq] at hk; omega)⟩

set_option maxRecDepth 100000 in
set_option maxHeartbeats 1000000 in
theorem max_any (v : Value) (l : List Int) (w : World) (hv : IntsV w v l) (hl : l.length ≤ 1000000) (hp : 0 < l.length) :
    Calls Try.prog 56 #[v] w fun e w' => ∃ m, e = .returned (.int .i64 m) ∧ Hid (m ∈ l ∧ ∀ x ∈ l, x ≤ m) ∧ w = w' := by
  rcases sl_one hv with ⟨rfl, _⟩ | ⟨_, b0, o0, c0, rfl, hc0, hb0, cell0⟩
  · simp at hp
  · have e00 := cell0 0 hp
    rw [Nat.add_zero] at e00
    have Hcell := Lib.hid cell0
    have g0 : (0 : Int) < (l.length : Int) := by omega
    have g1 : ¬ (l.length : Int) < 1 := by omega
    clear cell0 hv
    obtain ⟨x0, hx0⟩ : ∃ x0, l[0] = x0 := ⟨_, rfl⟩
    rw [hx0] at e00
    have Hx0 := Lib.hid hx0
    clear hx0
    go_enter Try.func56, Try.ntmps56
    go_wp2
    go_loop [3, 4] (fun m i => ∃ (k : Nat) (y : Int), 1 ≤ k ∧ k ≤ l.length ∧ i = .int .i64 k ∧ m = .int .i64 y ∧ y ∈ l ∧ ∀ x ∈ l.take k, x ≤ y) (fun _ i => l.length - (intOf i).toNat)
    case atStart =>
      refine ⟨1, x0, Nat.le_refl _, hp, rfl, rfl, by rw [← Hx0.out]; exact List.getElem_mem hp, fun x hx => ?_⟩
      rw [show l.take 1 = [l[0]] by rw [List.take_one, List.head?_eq_getElem?, List.getElem?_eq_getElem hp]; rfl] at hx
      rw [List.mem_singleton.1 hx, Hx0.out]; exact Int.le_refl _
    case round =>
      obtain ⟨k, y, hk1, hk, rfl, rfl, hy, hall⟩ := hrel
      have Hy := Lib.hid hy
      have Hall := Lib.hid hall
      clear hy hall
      by_cases hlt : k < l.length
      · have e0 := Hcell.out k hlt
        have HT := Lib.hid (List.take_succ_eq_append_getElem hlt)
        have Hmem := Lib.hid (List.getElem_mem hlt)
        have g2 : (k : Int) < (l.length : Int) := by omega
        have g3 : (0 : Int) ≤ (k : Int) := by omega
        generalize l[k] = x at *
        by_cases hxy : y < x
        · go_wp2
          refine ⟨⟨k + 1, x, by omega, by omega, by go_num, by first | rfl | (congr 1; omega), Hmem.out, fun z hz => ?_⟩, by simp [intOf]; omega⟩
          rw [HT.out, List.mem_append, List.mem_singleton] at hz
          rcases hz with hz | rfl
          · have := Hall.out z hz; omega
          · exact Int.le_refl _
        · go_wp2
          refine ⟨⟨k + 1, y, by omega, by omega, by go_num, by first | rfl | (congr 1; omega), Hy.out, fun z hz => ?_⟩, by simp [intOf]; omega⟩
          rw [HT.out, List.mem_append, List.mem_singleton] at hz
          rcases hz with hz | rfl
          · exact Hall.out z hz
          · omega
      · obtain rfl : k = l.length := by omega
        go_wp2
        go_ret
        exact ⟨y, rfl, ⟨Hy.out, fun x hx => Hall.out x (by rw [List.take_length]; exact hx)⟩, rfl⟩
end Go.Proofs.Ytolappilfjhfaaa
namespace Go.Proofs.Ytolappilfjhfaaa
open Go.RowKit

/-- May symbols be there so often? -/
def mayF (f : List Int) : Bool := decide (f.length ≤ 300) && f.all fun n => decide (0 ≤ n ∧ n ≤ 100000)
theorem mayF_iff {f : List Int} : mayF f = true ↔ f.length ≤ 300 ∧ ∀ x ∈ f, 0 ≤ x ∧ x ≤ 100000 := by
  simp only [mayF, Bool.and_eq_true, decide_eq_true_eq, List.all_eq_true]
/-- What Lens tells. -/
def LensV (f L : List Int) : Prop := (mayF f = true → LensR f L) ∧ (mayF f = false → L = [])
theorem lensV_no {f : List Int} (h : mayF f = false) : LensV f [] := ⟨fun h' => absurd h' (by rw [h]; decide), fun _ => rfl⟩
theorem lensV_nil : LensV [] [] := ⟨fun _ => .stop (Or.inl ⟨rfl, rfl⟩) (fun x hx => by cases hx), fun _ => rfl⟩
theorem lens_sl {B : Nat} {w : World} {v : Value} {L : List Int} (h : Lens B w v L) : IntsV w v L := (sl_of_owns h).1
def halveTo (g : List Int) (k : Nat) : List Int := halve (g.take k) ++ g.drop k
theorem halveTo_length (g : List Int) (k : Nat) (_hk : k ≤ g.length) : (halveTo g k).length = g.length := by
  unfold halveTo; rw [List.length_append, halve_length, List.length_take, List.length_drop]; omega
theorem halveTo_at {g : List Int} {k : Nat} (hk : k < g.length) : (halveTo g k)[k]? = some g[k] := by
  unfold halveTo
  rw [List.getElem?_append_right (by rw [halve_length, List.length_take]; omega), halve_length, List.length_take, Nat.min_eq_left (by omega), Nat.sub_self, List.getElem?_drop, Nat.add_zero, List.getElem?_eq_getElem hk]
theorem halveTo_step {g : List Int} {k : Nat} (hk : k < g.length) : (halveTo g k).set k ((g[k] + 1) / 2) = halveTo g (k + 1) := by
  have hl : (halve (g.take k)).length = k := by rw [halve_length, List.length_take]; omega
  have e1 : g.drop k = g[k] :: g.drop (k + 1) := List.drop_eq_getElem_cons hk
  have e2 : halve (g.take (k + 1)) = halve (g.take k) ++ [(g[k] + 1) / 2] := by
    rw [List.take_succ_eq_append_getElem hk]
    simp only [halve, List.map_append]; rfl
  have : (halve (g.take k) ++ g[k] :: g.drop (k + 1)).set k ((g[k] + 1) / 2) = halve (g.take k) ++ (g[k] :: g.drop (k + 1)).set (k - k) ((g[k] + 1) / 2) := by
    rw [List.set_append_right _ _ (by omega), hl]
  unfold halveTo
  rw [e1, this, Nat.sub_self, List.set_cons_zero, e2, List.append_assoc]; rfl
theorem halveTo_skip {g : List Int} {k : Nat} (hk : k < g.length) (h0 : g[k] = 0) : halveTo g k = halveTo g (k + 1) := by
  rw [← halveTo_step hk, h0]
  apply List.ext_getElem?
  intro i
  by_cases e : k = i
  · subst e
    rw [List.getElem?_set_self (by rw [halveTo_length g k (by omega)]; exact hk), halveTo_at hk, h0]; rfl
  · rw [List.getElem?_set_ne e]

set_option maxRecDepth 100000 in
set_option maxHeartbeats 2000000 in
theorem lens_any (v : Value) (f : List Int) (w : World) (hv : IntsV w v f) (hl : f.length ≤ 140737488355328) :
    Calls Try.prog 32 #[v] w fun e w' => ∃ (a : Option Addr) (cap : Nat) (L : List Int), e = .returned (.slice a L.length cap) ∧ Hid (LensV f L) ∧ IntsV w' (.slice a L.length cap) L ∧ Below w.heap.size w w' := by
  have HV := Lib.hid hv
  obtain ⟨aX, cX, rfl, hcX, hnX, hcellX⟩ := hv
  clear hcellX hnX
  by_cases h0 : f.length = 0
  · obtain rfl := List.length_eq_zero_iff.1 h0
    have d0 : (([] : List Int).length : Int) = 0 := rfl
    go_enter Try.func32, Try.ntmps32
    go_wp2_with fail
    go_ret
    exact ⟨none, 0, [], rfl, lensV_nil, sl_nil fun _ => rfl, Below.refl _ _⟩
  by_cases h300 : 300 < f.length
  · have hno : mayF f = false := by
      cases h : mayF f with
      | false => rfl
      | true => have := (mayF_iff.1 h).1; omega
    have HNo := Lib.hid hno
    clear hno
    have d0 : ((f.length : Int) == 0) = false := by simp; exact fun h => h0 (by rw [h]; rfl)
    have d1 : decide ((300 : Int) < (f.length : Int)) = true := by simp; omega
    have g1 : (300 : Int) < (f.length : Int) := by omega
    go_enter Try.func32, Try.ntmps32
    go_wp2_with fail
    go_ret
    exact ⟨none, 0, [], rfl, lensV_no HNo.out, sl_nil fun _ => rfl, Below.refl _ _⟩
  have d0 : ((f.length : Int) == 0) = false := by simp; exact fun h => h0 (by rw [h]; rfl)
  have g1 : ¬ (300 : Int) < (f.length : Int) := by omega
  have d1 : decide ((300 : Int) < (f.length : Int)) = false := by simp; omega
  go_enter Try.func32, Try.ntmps32
  go_wp2_with fail
  go_loop [19] (fun i => ∃ k : Nat, k ≤ f.length ∧ i = .int .i64 k ∧ ∀ x ∈ f.take k, 0 ≤ x ∧ x ≤ 100000) (fun i => f.length - (intOf i).toNat)
  case atStart => exact ⟨0, Nat.zero_le _, rfl, by simp⟩
  case round =>
    obtain ⟨k, hk, rfl, hall⟩ := hrel
    have Hall := Lib.hid hall
    clear hall
    by_cases hlt : k < f.length
    · rcases sl_one HV.out with ⟨rfl, _⟩ | ⟨_, bX, oX, cX', hveq, _, hbX, cellX⟩
      · simp at hlt
      injection hveq with q1 q2 q3
      subst q1 q3
      have e0 := cellX k hlt
      have HT := Lib.hid (List.take_succ_eq_append_getElem hlt)
      have hmem : f[k] ∈ f := List.getElem_mem hlt
      have hbad : ¬ (0 ≤ f[k] ∧ f[k] ≤ 100000) → mayF f = false := fun hx => by
        cases h : mayF f with
        | false => rfl
        | true => exact absurd ((mayF_iff.1 h).2 _ hmem) hx
      have Hbad := Lib.hid hbad
      have g2 : (k : Int) < (f.length : Int) := by omega
      have g3 : (0 : Int) ≤ (k : Int) := by omega
      clear cellX q2 hmem hbad
      generalize f[k] = x at *
      by_cases hx0 : x < 0
      · have HNo := Lib.hid (Hbad.out (by omega))
        have b1 : decide (x < 0) = true := by simpa using hx0
        go_wp2_with fail
        go_ret
        exact ⟨none, 0, [], rfl, lensV_no HNo.out, sl_nil fun _ => rfl, Below.refl _ _⟩
      by_cases hx1 : 100000 < x
      · have HNo := Lib.hid (Hbad.out (by omega))
        have b1 : decide (x < 0) = false := by simpa using hx0
        have b2 : decide (100000 < x) = true := by simpa using hx1
        go_wp2_with fail
        go_ret
        exact ⟨none, 0, [], rfl, lensV_no HNo.out, sl_nil fun _ => rfl, Below.refl _ _⟩
      have b1 : decide (x < 0) = false := by simpa using hx0
      have b2 : decide (100000 < x) = false := by simpa using hx1
      go_wp2_with fail
      exact ⟨⟨k + 1, by omega, by go_num, fun y hy => by
        rw [HT.out, List.mem_append, List.mem_singleton] at hy
        rcases hy with hy | rfl
        · exact Hall.out y hy
        · omega⟩, by simp [intOf]; omega⟩
    · obtain rfl : k = f.length := by omega
      have hrange : ∀ x ∈ f, 0 ≤ x ∧ x ≤ 100000 := by have := Hall.out; rwa [List.take_length] at this
      have hmay : mayF f = true := mayF_iff.2 ⟨by omega, hrange⟩
      have HMay := Lib.hid hmay
      have HRange := Lib.hid hrange
      clear hmay hrange Hall
      go_wp2_with fail
      refine (clone_ints _ f w HV.out (by omega) (by omega)).mono ?_
      rintro e w1 ⟨v1, rfl, hown1, hb1⟩
      obtain ⟨g, cap, rfl, hBg, hgl⟩ := hown1.form (by omega)
      have Hown1 := Lib.hid hown1
      have Hb1 := Lib.hid hb1
      clear hown1 hb1
      go_wp2_with fail
      go_loopg [6] f.sum.toNat (fun n _ wr => ∃ h : List Int, h.length = f.length ∧ h.sum.toNat ≤ n ∧ Lens w.heap.size wr (.slice (some ⟨g, 0, none⟩) f.length cap) h ∧ (∀ x ∈ h, 0 ≤ x ∧ x ≤ 100000) ∧ (∀ L, LensR h L → LensR f L) ∧ Below w.heap.size w wr)
      case atStart => exact ⟨f, rfl, Nat.le_refl _, Hown1.out, HRange.out, fun L h => h, Hb1.out⟩
      case round =>
        obtain ⟨h, hlen, hsum, hown, hrg, hchain, hb⟩ := hrel
        have Hlen := Lib.hid hlen
        have Hsum := Lib.hid hsum
        have Hown := Lib.hid hown
        have Hrg := Lib.hid hrg
        have Hchain := Lib.hid hchain
        have Hb := Lib.hid hb
        have hdep := depths_any _ h wr (by have := lens_sl hown; exact this) (by omega) (fun x hx => by have := hrg x hx; omega)
        clear hlen hsum hown hrg hchain hb Hown1 Hb1
        go_wp2_with fail
        refine hdep.mono ?_
        rintro e w2 ⟨v2, L, rfl, hown2, honce, hb2⟩
        have HLl : Hid (L.length = f.length) := by unfold Hid; rw [onceR_length honce]; exact Hlen.out
        obtain ⟨gd, capd, rfl, hBgd, _⟩ := hown2.form (by have := HLl.out; omega)
        have Honce := Lib.hid honce
        have Hown2 := Lib.hid hown2
        have HbL := Lib.hid (below_step' Hb.out hb2)
        have HownW := Lib.hid (owns_below Hown.out hb2)
        have hmx := max_any _ L w2 (lens_sl hown2) (by have := HLl.out; omega) (by have := HLl.out; omega)
        clear hdep honce hown2 hb2
        go_wp2_with fail
        refine hmx.mono ?_
        rintro e w3 ⟨m, rfl, hm, rfl⟩
        clear hmx
        by_cases hm15 : m ≤ 15
        · have hok : maxOk L := fun x hx => by have := hm.out.2 x hx; omega
          have HOk := Lib.hid hok
          clear hok
          go_wp2_with fail
          go_ret
          exact ⟨_, _, L, rfl, ⟨fun _ => Hchain.out L (.stop Honce.out HOk.out), fun h => by rw [HMay.out] at h; cases h⟩, lens_sl Hown2.out, HbL.out⟩
        · have hdeep : ¬ maxOk L := fun h => hm15 (h m hm.out.1)
          have hlt' := halve_lt Honce.out (fun x hx => (Hrg.out x hx).1) (by have := Hlen.out; omega) hdeep
          have hnn : 0 ≤ (halve h).sum := by
            have : ∀ l : List Int, (∀ x ∈ l, 0 ≤ x) → 0 ≤ l.sum := by
              intro l
              induction l with
              | nil => intro _; simp
              | cons x l ih => intro q; have := q x (List.mem_cons_self ..); have := ih fun y hy => q y (List.mem_cons_of_mem _ hy); simp only [List.sum_cons]; omega
            exact this _ (halve_nonneg fun x hx => (Hrg.out x hx).1)
          have Hlt' : Hid ((halve h).sum.toNat < gk) := by unfold Hid; have := Hsum.out; omega
          have Hch : Hid (∀ L, LensR (halve h) L → LensR f L) := fun L' hL' => Hchain.out L' (.halve Honce.out hdeep hL')
          have Hrg2 : Hid (∀ x ∈ halve h, 0 ≤ x ∧ x ≤ 100000) := fun x hx => ⟨halve_nonneg (fun x hx => (Hrg.out x hx).1) x hx, halve_le (by omega) (fun x hx => (Hrg.out x hx).2) x hx⟩
          clear hlt' hnn hdeep Honce Hown2 Hown Hb Hchain hm
          go_wp2_with fail
          obtain ⟨wo, hwo⟩ : ∃ wo : World, wo = w2 := ⟨_, rfl⟩
          subst hwo
          go_loopw [40] (fun i wr => ∃ k : Nat, k ≤ f.length ∧ i = .int .i64 k ∧ wr.ownsRow w.heap.size 3 1 (.slice (some ⟨g, 0, none⟩) f.length cap) f.length ((halveTo h k).map (Value.int .i64)) ∧ Below w.heap.size w wr) (fun i _ => f.length - (intOf i).toNat)
          case atStart => exact ⟨0, Nat.zero_le _, rfl, by have q := HownW.out; unfold Lens at q; rw [Hlen.out] at q; exact q, HbL.out⟩
          case round =>
            obtain ⟨k, hk, rfl, hownk, hbk⟩ := hrel
            have Hownk := Lib.hid hownk
            have Hbk := Lib.hid hbk
            clear hownk hbk
            by_cases hlt : k < f.length
            · have hkh : k < h.length := by rw [Hlen.out]; exact hlt
              have e0 : wr.cell? ⟨g, k, none⟩ = some (.int .i64 h[k]) := by rw [Hownk.out.cellAt k (by omega), List.getElem?_map, halveTo_at hkh]; rfl
              have e1 := Hownk.out.frozenAt k
              have hx := Hrg.out h[k] (List.getElem_mem hkh)
              have Hskip := Lib.hid (fun q => halveTo_skip hkh q)
              have hst := (Hownk.out.stored k (.int .i64 ((h[k] + 1) / 2))).1
              rw [← List.map_set, halveTo_step hkh] at hst
              have Hst := Lib.hid hst
              have Hbs := Lib.hid (Hbk.out.setCell (p := ⟨g, k, none⟩) hBg (.int .i64 ((h[k] + 1) / 2)))
              have g2 : (k : Int) < (f.length : Int) := by omega
              have g3 : (0 : Int) ≤ (k : Int) := by omega
              obtain ⟨x0, x1⟩ := hx
              clear hst
              generalize h[k] = x at *
              clear hkh
              by_cases hx0 : 0 < x
              · have y0 : 0 ≤ x + 1 := by omega
                go_wp2_with fail
                exact ⟨⟨k + 1, by omega, by go_num, Hst.out, Hbs.out⟩, by simp [intOf]; omega⟩
              · obtain rfl : x = 0 := by omega
                go_wp2_with fail
                exact ⟨⟨k + 1, by omega, by go_num, by rw [← Hskip.out rfl]; exact Hownk.out, Hbk.out⟩, by simp [intOf]; omega⟩
            · obtain rfl : k = f.length := by omega
              go_wp2_with fail
              go_roundg (halve h).sum.toNat
              case measure => exact Hlt'.out
              case rel =>
                refine ⟨halve h, by rw [halve_length]; exact Hlen.out, Nat.le_refl _, ?_, Hrg2.out, Hch.out, Hbk.out⟩
                have q := Hownk.out
                have e : halveTo h f.length = halve h := by
                  unfold halveTo
                  rw [List.take_of_length_le (by rw [Hlen.out]; exact Nat.le_refl _), List.drop_of_length_le (by rw [Hlen.out]; exact Nat.le_refl _), List.append_nil]
                rw [e] at q
                unfold Lens
                rw [halve_length, Hlen.out]
                exact q
end Go.Proofs.Ytolappilfjhfaaa
namespace Go.Proofs.Ytolappilfjhfaaa
open Go.RowKit

theorem kraftL_takeH (l : List Int) (k : Nat) (hk : k < l.length) : kraftL (l.take (k + 1)) = kraftL (l.take k) + oneK l[k] := by
  rw [List.take_succ_eq_append_getElem hk, kraftL_snoc]
theorem oneK_inH {x : Int} (h0 : 1 ≤ x) (h1 : x ≤ 15) : oneK x = p2 (15 - x).toNat := by
  unfold oneK
  rw [if_pos (by omega)]
  congr 1; omega
theorem oneK_outH {x : Int} (h : x < 1 ∨ 15 < x) : oneK x = 0 := by
  unfold oneK
  rw [if_neg (by omega)]

set_option maxRecDepth 100000 in
set_option maxHeartbeats 1000000 in
theorem kraftH_any (v : Value) (l : List Int) (w : World) (hv : SlOf w v 1 (fun x => [.int .i64 x]) l) (hl : l.length ≤ 140737488355328) :
    Calls Try.prog 85 #[v] w fun e w' => e = .returned (.int .i64 (kraftL l)) ∧ w = w' := by
  rcases sl_one hv with ⟨rfl, a0, c0, rfl, hn0⟩ | ⟨hp0, b0, o0, c0, rfl, hc0, hb0, cell0⟩
  · go_enter Try.func85, Try.ntmps85
    go_wp2
    refine wp_loop_rounds 1 ?_
    rw [rounds_succ]
    go_wp2
    go_ret
    exact ⟨rfl, rfl⟩
  · clear hv
    go_enter Try.func85, Try.ntmps85
    go_wp2
    go_loop [3, 8] (fun n i => ∃ k : Nat, k ≤ l.length ∧ i = .int .i64 k ∧ n = .int .i64 (kraftL (l.take k))) (fun _ i => l.length - (intOf i).toNat)
    case atStart => exact ⟨0, Nat.zero_le _, rfl, by simp [kraftL]⟩
    case round =>
      obtain ⟨k, hk, rfl, rfl⟩ := hrel
      by_cases hlt : k < l.length
      · have e0 := cell0 k hlt
        have HK := Lib.hid (kraftL_takeH l k hlt)
        have hb1 := kraftL_bd (l.take k)
        have hb2 : (((l.take k).length : Nat) : Int) ≤ 140737488355328 := by have := List.length_take_le k l; omega
        have hk0 := hb1.1
        have hk1 : kraftL (l.take k) ≤ 2305843009213693952 := by omega
        clear hb1 hb2 cell0
        have g0 : (k : Int) < (l.length : Int) := by omega
        have g2 : (0 : Int) ≤ (k : Int) := by omega
        generalize hs : kraftL (l.take k) = s at *
        clear hs
        generalize l[k] = x at *
        by_cases h0 : 1 ≤ x
        · by_cases h1 : x ≤ 15
          · have HO := Lib.hid (oneK_inH h0 h1)
            obtain ⟨W, hW⟩ := Int.eq_ofNat_of_zero_le (a := 15 - x) (by omega)
            obtain rfl : x = 15 - W := by omega
            have hp := p2_le (n := W) (by omega)
            have hp1 := p2_pos W
            have hp14 := p2_mono (m := W) (n := 14) (by omega)
            have hp15 : p2 14 = 16384 := by decide
            have hw : wrap64 (2 ^ W) = p2 W := by rw [← p2_pow]; exact IntWalk.wrap64_in _ (by omega)
            have hs1 : (15 - (15 - (W : Int))) = W := by omega
            have hs2 : IntKind.i64.wrap (s + p2 W) = s + p2 W := by rw [IntKind.wrap_i64]; omega
            rw [hs1] at HO
            have HO' : Hid (oneK (15 - (W : Int)) = p2 W) := by rw [Int.toNat_natCast] at HO; exact HO
            clear HO hp hp14 hp15
            go_wp2
            exact ⟨⟨k + 1, by omega, by go_num, by rw [HK.out, HO'.out]⟩, by simp [intOf]; omega⟩
          · have HO := Lib.hid (oneK_outH (x := x) (by omega))
            go_wp2
            exact ⟨⟨k + 1, by omega, by go_num, by rw [HK.out, HO.out]; simp⟩, by simp [intOf]; omega⟩
        · have HO := Lib.hid (oneK_outH (x := x) (by omega))
          go_wp2
          exact ⟨⟨k + 1, by omega, by go_num, by rw [HK.out, HO.out]; simp⟩, by simp [intOf]; omega⟩
      · obtain rfl : k = l.length := by omega
        have e0 := Lib.hid (List.take_of_length_le (Nat.le_refl l.length))
        clear cell0
        go_wp2
        go_ret
        exact ⟨rfl, rfl⟩

end Go.Proofs.Ytolappilfjhfaaa
namespace Go.Proofs.Ytolappilfjhfaaa
open Go.RowKit

theorem below_drewN5 {B : Nat} {a w : World} (h : Below B a w) (n : Nat) : Below B a (w.drewN n) := h.trans ⟨rfl, rfl, rfl, Nat.le_refl _, fun _ _ => rfl⟩

set_option maxRecDepth 100000 in
set_option maxHeartbeats 1000000 in
theorem mayF_any (v : Value) (f : List Int) (w : World) (hv : IntsV w v f) (hl : f.length ≤ 140737488355328) :
    Calls Try.prog 59 #[v] w fun e w' => e = .returned (.bool (mayF f)) ∧ w = w' := by
  have HV := Lib.hid hv
  obtain ⟨aX, cX, rfl, hcX, hnX, hcellX⟩ := hv
  clear hcellX hnX
  go_enter Try.func59, Try.ntmps59
  go_wp2_with fail
  go_loop [3] (fun i => ∃ k : Nat, k ≤ f.length ∧ i = .int .i64 k ∧ ∀ x ∈ f.take k, 0 ≤ x ∧ x ≤ 100000) (fun i => f.length - (intOf i).toNat)
  case atStart => exact ⟨0, Nat.zero_le _, rfl, by simp⟩
  case round =>
    obtain ⟨k, hk, rfl, hall⟩ := hrel
    have Hall := Lib.hid hall
    clear hall
    by_cases hlt : k < f.length
    · rcases sl_one HV.out with ⟨rfl, _⟩ | ⟨_, bX, oX, cX', hveq, _, hbX, cellX⟩
      · simp at hlt
      injection hveq with q1 q2 q3
      subst q1 q3
      have e0 := cellX k hlt
      have HT := Lib.hid (List.take_succ_eq_append_getElem hlt)
      have hmem : f[k] ∈ f := List.getElem_mem hlt
      have hbad : ¬ (0 ≤ f[k] ∧ f[k] ≤ 100000) → mayF f = false := fun hx => by
        cases h : mayF f with
        | false => rfl
        | true => exact absurd ((mayF_iff.1 h).2 _ hmem) hx
      have Hbad := Lib.hid hbad
      have g2 : (k : Int) < (f.length : Int) := by omega
      have g3 : (0 : Int) ≤ (k : Int) := by omega
      clear cellX q2 hmem hbad
      generalize f[k] = x at *
      by_cases hx0 : x < 0
      · have HNo := Lib.hid (Hbad.out (by omega))
        have b1 : decide (x < 0) = true := by simpa using hx0
        go_wp2_with fail
        go_ret
        exact ⟨by rw [HNo.out]; rfl, rfl⟩
      by_cases hx1 : 100000 < x
      · have HNo := Lib.hid (Hbad.out (by omega))
        have b1 : decide (x < 0) = false := by simpa using hx0
        have b2 : decide (100000 < x) = true := by simpa using hx1
        go_wp2_with fail
        go_ret
        exact ⟨by rw [HNo.out]; rfl, rfl⟩
      have b1 : decide (x < 0) = false := by simpa using hx0
      have b2 : decide (100000 < x) = false := by simpa using hx1
      go_wp2_with fail
      exact ⟨⟨k + 1, by omega, by go_num, fun y hy => by
        rw [HT.out, List.mem_append, List.mem_singleton] at hy
        rcases hy with hy | rfl
        · exact Hall.out y hy
        · omega⟩, by simp [intOf]; omega⟩
    · obtain rfl : k = f.length := by omega
      have hm : mayF f = decide ((f.length : Int) ≤ 300) := by
        have hrg := Hall.out
        rw [List.take_length] at hrg
        cases h : mayF f with
        | true => have := (mayF_iff.1 h).1; simp; omega
        | false =>
          by_cases h3 : f.length ≤ 300
          · have := mayF_iff.2 ⟨h3, hrg⟩; rw [h] at this; cases this
          · simp; omega
      have HM := Lib.hid hm
      clear hm
      go_wp2_with fail
      go_ret
      exact ⟨by rw [HM.out]; first | rfl | simp, rfl⟩

/-- How many symbols are there. -/
def thereL (f : List Int) : Nat := (f.filter fun x => decide (0 < x)).length
theorem thereL_init (f : List Int) : (initT f).length = thereL f := by
  have : ∀ k, k ≤ f.length → (initTo f k).length = thereL (f.take k) := by
    intro k
    induction k with
    | zero => intro _; rfl
    | succ k ih =>
      intro hk
      have hlt : k < f.length := by omega
      rw [List.take_succ_eq_append_getElem hlt]
      unfold thereL
      rw [List.filter_append]
      by_cases h : 0 < f[k]
      · rw [initTo_yes hlt h, List.length_append, List.length_append, ih (by omega)]
        simp [thereL, h]
      · rw [initTo_no hlt h, List.length_append, ih (by omega)]
        simp [thereL, h]
  have := this f.length (Nat.le_refl _)
  rwa [List.take_length, initTo_all] at this
theorem cost_bd {f l : List Int} (hf : ∀ x ∈ f, 0 ≤ x ∧ x ≤ 100000) (hl : ∀ x ∈ l, 0 ≤ x ∧ x ≤ 1000) : ∀ k, k ≤ l.length → 0 ≤ costL f (l.take k) ∧ costL f (l.take k) ≤ 100000000 * k := by
  intro k
  induction k with
  | zero => intro _; simp [costL, sumG]
  | succ k ih =>
    intro hk
    have hlt : k < l.length := by omega
    obtain ⟨h1, h2⟩ := ih (by omega)
    have h3 := hl l[k] (List.getElem_mem hlt)
    have h4 : 0 ≤ f[k]?.getD 0 ∧ f[k]?.getD 0 ≤ 100000 := by
      by_cases h : k < f.length
      · rw [List.getElem?_eq_getElem h, Option.getD_some]; exact hf _ (List.getElem_mem h)
      · rw [List.getElem?_eq_none (by omega)]; decide
    have e : costL f (l.take (k + 1)) = costL f (l.take k) + f[k]?.getD 0 * l[k] := by
      unfold costL
      rw [sumG_take _ l 0 k hlt, Nat.zero_add]
    have h5 : 0 ≤ f[k]?.getD 0 * l[k] := Int.mul_nonneg h4.1 h3.1
    have h6 : f[k]?.getD 0 * l[k] ≤ 100000 * 1000 := Int.mul_le_mul h4.2 h3.2 h3.1 (by omega)
    rw [e]; omega

end Go.Proofs.Ytolappilfjhfaaa
