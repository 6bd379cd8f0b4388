/- The walk of Same on two lists of tokens that are alike. Conditions: numbers fit. -/
import Derived.Test.YtdbhmffiojchcaaMatI
namespace Go.Proofs.Ytdbhmffiojchcaa
open Go.RowKit

/-- The cells of a token in such a slice. -/
theorem toks_cells {w : World} {v : Value} {l : List TokT} (hv : ToksR w v l) (hp : 0 < l.length) :
    ∃ b off cap, v = .slice (some ⟨b, off, none⟩) l.length cap ∧ l.length ≤ cap ∧ b < w.heap.size ∧ ∀ k (hk : k < l.length), w.cell? ⟨b, off + k * 3, none⟩ = some (.int .i64 l[k].1) ∧ w.cell? ⟨b, off + k * 3 + 1, none⟩ = some (.int .i64 l[k].2.1) ∧ w.cell? ⟨b, off + k * 3 + 2, none⟩ = some (.int .i64 l[k].2.2) := by
  obtain ⟨a, cap, rfl, hl, hn, hc⟩ := hv
  rcases hc with rfl | ⟨b, off, rfl, hb, hcell⟩
  · exact absurd hp (by simp)
  · exact ⟨b, off, cap, rfl, hl, hb, fun k hk => ⟨by simpa using hcell k hk 0 (by omega), by simpa [Nat.add_assoc] using hcell k hk 1 (by omega), by simpa [Nat.add_assoc] using hcell k hk 2 (by omega)⟩⟩

set_option maxRecDepth 100000 in
set_option maxHeartbeats 8000000 in
theorem same_eq (u v : Value) (l : List TokT) (w : World) (hu : ToksR w u l) (hv : ToksR w v l) (hp : 0 < l.length) (hl : l.length ≤ 1000000) :
    Calls Try.prog 29 #[u, v] w fun e w' => e = .returned (.bool true) ∧ ∃ m, w' = w.drewN m := by
  obtain ⟨b1, o1, c1, rfl, hl1, hb1, hc1⟩ := toks_cells hu hp
  obtain ⟨b2, o2, c2, rfl, hl2, hb2, hc2⟩ := toks_cells hv hp
  have HC1 := Lib.hid hc1
  have HC2 := Lib.hid hc2
  clear hc1 hc2 hu hv
  go_enter Try.func29, Try.ntmps29
  go_wp2_with fail
  go_loopw [5] (fun ui wr => ∃ k : Nat, ui = .int .i64 k ∧ k ≤ l.length ∧ ∃ m, wr = w.drewN m) (fun ui _ => l.length - (intOf ui).toNat)
  case atStart => exact ⟨0, rfl, Nat.zero_le _, 0, rfl⟩
  case round =>
    obtain ⟨k, rfl, hk, m, hm⟩ := hrel
    by_cases hkl : k < l.length
    · obtain ⟨e0, e1, e2⟩ := HC1.out k hkl
      obtain ⟨f0, f1, f2⟩ := HC2.out k hkl
      have E0 : wr.cell? ⟨b1, o1 + k * 3, none⟩ = some (.int .i64 l[k].1) := by rw [hm]; exact e0
      have E1 : wr.cell? ⟨b1, o1 + k * 3 + 1, none⟩ = some (.int .i64 l[k].2.1) := by rw [hm]; exact e1
      have E2 : wr.cell? ⟨b1, o1 + k * 3 + 2, none⟩ = some (.int .i64 l[k].2.2) := by rw [hm]; exact e2
      have F0 : wr.cell? ⟨b2, o2 + k * 3, none⟩ = some (.int .i64 l[k].1) := by rw [hm]; exact f0
      have F1 : wr.cell? ⟨b2, o2 + k * 3 + 1, none⟩ = some (.int .i64 l[k].2.1) := by rw [hm]; exact f1
      have F2 : wr.cell? ⟨b2, o2 + k * 3 + 2, none⟩ = some (.int .i64 l[k].2.2) := by rw [hm]; exact f2
      have Hm := Lib.hid hm
      clear e0 e1 e2 f0 f1 f2 hm
      generalize l[k] = t at *
      obtain ⟨tb, td, tn⟩ := t
      dsimp only at E0 E1 E2 F0 F1 F2
      go_wp2_with fail
      go_quiet (fail)
      go_wp2_with fail
      exact ⟨⟨k + 1, by go_num, by omega, _, by rw [Hm.out]; simp only [World.drewN_drewN]; rfl⟩, by simp [intOf]; omega⟩
    · have Hm := Lib.hid hm
      clear hm
      go_wp2_with fail
      go_ret
      exact ⟨rfl, m, Hm.out⟩
end Go.Proofs.Ytdbhmffiojchcaa
