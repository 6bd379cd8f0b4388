/- More lemmas on rows of the call's own. No condition; no program. -/
import Derived.Test.YtdlgpcjdaaeliaaSl
namespace Go.Proofs.Ytdlgpcjdaaeliaa
open Go.RowKit
theorem owns_lt {w : World} {v : Value} {base e n size : Nat} {cs : List Value} (h : w.ownsRow base e size v n cs) : ∀ b, v.ownBlock = some b → b < w.heap.size := by
  obtain ⟨_, h⟩ := h
  intro b hb
  rcases h with ⟨rfl, _⟩ | ⟨g, cap, cur, rfl, hg, hc, _⟩
  · cases hb
  · simp only [Value.ownBlock, Option.some.injEq] at hb
    subst hb
    rcases Nat.lt_or_ge g w.heap.size with h | h
    · exact h
    · rw [Array.getElem?_eq_none h] at hc; cases hc
end Go.Proofs.Ytdlgpcjdaaeliaa
