/- A node parameter opened. Conditions: none. -/
import Derived.Test.YtdlgpcjdaaeliaaTreA
import Derived.Lib.SmallJoins
namespace Go.Proofs.Ytdlgpcjdaaeliaa
open Go.RowKit Go.Joins Go.WideShapes Go.ChangeShapes

theorem node_par {H : Type} {enc : TypeId × Value → H} {P : Program} {W : World} {r : Reach} {b0 : Nat} {v : Value} {d : DataW H} {p : List MemPlace} {tn ts tk ti : TypeId} {f0 f1 f2 : Field}
    (hs : P.underlying tn = some (.struct #[f0, f1, f2])) (hc : P.cellsOf tn = 3) (ft0 : f0.type = tk) (ft1 : f1.type = tk) (ft2 : f2.type = ts) (fo0 : f0.offset = 0) (fo1 : f1.offset = 1) (fo2 : f2.offset = 2)
    (hk : P.underlying tk = some (.slice ti)) (hck : P.cellsOf tk = 1) (hci : P.cellsOf ti = 1) (hi : P.underlying ti = some (.int .i64)) (hsl : P.underlying ts = some (.slice tn)) (hcs : P.cellsOf ts = 1)
    (hv : Value.okWide P W r b0 tn v) (h : DataW.Trod enc P W 0 (fun _ => true) true tn v d p) : ∃ (n : N3) (t : Tr), v = .agg #[n.1, n.2.1, n.2.2] ∧ NodeV W n t := by
  obtain ⟨cs, rfl, hsz⟩ := okWide_struct hs hv
  obtain ⟨c0, c1, c2, rfl⟩ := array3 (hsz.trans hc)
  obtain ⟨fuel, hf⟩ := h
  obtain ⟨n, hn, t, ht⟩ := node_open hs hc ft0 ft1 ft2 fo0 fo1 fo2 hk hck hci hi hsl hcs fuel _ _ hf rfl
  refine ⟨n, t, ?_, ht⟩
  have hn2 : [c0, c1, c2] = nodeE n := hn
  injection hn2 with q0 hn2
  injection hn2 with q1 hn2
  injection hn2 with q2 _
  rw [q0, q1, q2]
end Go.Proofs.Ytdlgpcjdaaeliaa
