/- Contracts of the document's Once and Deep. Conditions: numbers fit. -/
import Derived.Test.YtpkbbbdbcedkfaaHufZa
namespace Go.Proofs.Ytpkbbbdbcedkfaa
open Go.RowKit

theorem onceX_any (v : Value) (f : List Int) (w : World) (hv : IntsV w v f) (hl : f.length ≤ 300) (hf : ∀ x ∈ f, 0 ≤ x ∧ x ≤ 1000000) :
    Calls Try.prog 14 #[v] w fun e w' => ∃ (a : Option Addr) (cap : Nat) (L : List Int), e = .returned (.slice a L.length cap) ∧ Hid (OnceR f L) ∧ IntsV w' (.slice a L.length cap) L ∧ Below w.heap.size w w' := by
  have hc := once_any v f w hv hl hf
  clear hv hl hf
  go_enter Try.func14, Try.ntmps14
  go_wp2_with fail
  refine hc.mono ?_
  rintro e w' ⟨v', L, rfl, hL, hO, hb⟩
  obtain ⟨a, cap, rfl, _⟩ := owns_shape hL
  have HO := Lib.hid hO
  have HS := Lib.hid (lens_sl hL)
  clear hc hL hO
  go_wp2_with fail
  go_ret
  exact ⟨a, cap, L, rfl, HO.out, HS.out, hb⟩

/-- Is a length above 15? -/
def deepB (L : List Int) : Bool := L.any fun x => decide (15 < x)
theorem deepB_false {L : List Int} : deepB L = false ↔ maxOk L := by
  unfold deepB maxOk
  rw [List.any_eq_false]
  constructor
  · intro h x hx; have := h x hx; simp at this; exact this
  · intro h x hx; have := h x hx; simp; exact this

set_option maxHeartbeats 1000000 in
theorem deep_any (v : Value) (f : List Int) (w : World) (hv : IntsV w v f) (hl : f.length ≤ 140737488355328) :
    Calls Try.prog 13 #[v] w fun e w' => e = .returned (.bool (deepB f)) ∧ w = w' := by
  have HV := Lib.hid hv
  obtain ⟨aX, cX, rfl, hcX, hnX, hcellX⟩ := hv
  clear hcellX hnX
  go_enter Try.func13, Try.ntmps13
  go_wp2_with fail
  go_loop [3] (fun i => ∃ k : Nat, k ≤ f.length ∧ i = .int .i64 k ∧ ∀ x ∈ f.take k, x ≤ 15) (fun i => f.length - (intOf i).toNat)
  case atStart => exact ⟨0, Nat.zero_le _, rfl, by simp⟩
  case round =>
    obtain ⟨k, hk, rfl, hall⟩ := hrel
    have Hall := Lib.hid hall
    clear hall
    by_cases hlt : k < f.length
    · rcases sl_one HV.out with ⟨rfl, _⟩ | ⟨_, bX, oX, cX', hveq, _, hbX, cellX⟩
      · simp at hlt
      injection hveq with q1 q2 q3
      subst q1 q3
      have e0 := cellX k hlt
      have HT := Lib.hid (List.take_succ_eq_append_getElem hlt)
      have hmem : f[k] ∈ f := List.getElem_mem hlt
      have hbad : 15 < f[k] → deepB f = true := fun hx => List.any_eq_true.2 ⟨_, hmem, by simpa using hx⟩
      have Hbad := Lib.hid hbad
      have g2 : (k : Int) < (f.length : Int) := by omega
      have g3 : (0 : Int) ≤ (k : Int) := by omega
      clear cellX q2 hmem hbad
      generalize f[k] = x at *
      by_cases hx0 : 15 < x
      · have HNo := Lib.hid (Hbad.out (by omega))
        have b1 : decide (15 < x) = true := by simpa using hx0
        go_wp2_with fail
        go_ret
        exact ⟨by rw [HNo.out]; rfl, rfl⟩
      have b1 : decide (15 < x) = false := by simpa using hx0
      go_wp2_with fail
      exact ⟨⟨k + 1, by omega, by go_num, fun y hy => by
        rw [HT.out, List.mem_append, List.mem_singleton] at hy
        rcases hy with hy | rfl
        · exact Hall.out y hy
        · omega⟩, by simp [intOf]; omega⟩
    · obtain rfl : k = f.length := by omega
      have hm : deepB f = false := by
        have hrg := Hall.out
        rw [List.take_length] at hrg
        exact deepB_false.2 hrg
      have HM := Lib.hid hm
      clear hm
      go_wp2_with fail
      go_ret
      exact ⟨by rw [HM.out]; rfl, rfl⟩
end Go.Proofs.Ytpkbbbdbcedkfaa
