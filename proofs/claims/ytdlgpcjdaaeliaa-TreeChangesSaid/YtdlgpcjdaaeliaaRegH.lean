/- A drawn region walked by hand: operations taken first where they yield alike in each world that meets S, those whose guard is false passed over, and a call that must come. No condition. -/
import Derived.Deep.QuietTactic
import Derived.BigQuiet
import Derived.WalkKit
import Derived.Lib.Hide
import Derived.Deep.RegionHeld3
namespace Go.Proofs.Ytdlgpcjdaaeliaa
open Go.RowKit

section
variable {P : Program} {l : List Oper} {Q : Exit → Act → World → Prop} {a : Act} {w : World} {S : World → Prop}

theorem regh_start {id : Nat} (hm : P.follows .mixedOrders = true) (n : Nat) (hn : l.toArray.size = n) (hS : S w.drew)
    (h : S w.drew → wpAnyH P .any l.toArray Q S n (Array.replicate n false) a w.drew) : (Code.region id l.toArray true).wp P Q a w := by
  subst hn
  exact wp_region_held hm (h hS)
theorem regh_take {fuel : Nat} {listed : Array Bool} {o : Oper} {v : Value} (k : Nat) (ho : l[k]? = some o) (hs : Region.noSelect l.toArray = true)
    (hf : Region.free .any l.toArray listed k = true) (hr : (Region.ready .any l.toArray listed).contains k = true)
    (hQ : ∀ c a w, Q (.panic c) (a.put o.dst v) w → Q (.panic c) a w) (hw : Region.wanted o (yielded l.toArray a.tmps) = true)
    (hy : ∀ w, S w → (execOp a.eval o).run P w = .ok (.value v) w) (hS : S w)
    (h : wpAnyH P .any l.toArray Q S fuel (listed.setIfInBounds k true) (a.put o.dst v) w) : wpAnyH P .any l.toArray Q S (fuel + 1) listed a w :=
  wpAnyH_take (by simpa using ho) hs hf hr hQ (Or.inl ⟨hw, hy⟩) hS h
/-- Its guard is false: it is passed over. -/
theorem regh_skip {fuel : Nat} {listed : Array Bool} {o : Oper} (k : Nat) (ho : l[k]? = some o) (hs : Region.noSelect l.toArray = true)
    (hf : Region.free .any l.toArray listed k = true) (hr : (Region.ready .any l.toArray listed).contains k = true)
    (hQ : ∀ c a w, Q (.panic c) (a.put o.dst undef) w → Q (.panic c) a w) (hw : Region.wanted o (yielded l.toArray a.tmps) = false) (hS : S w)
    (h : wpAnyH P .any l.toArray Q S fuel (listed.setIfInBounds k true) (a.put o.dst undef) w) : wpAnyH P .any l.toArray Q S (fuel + 1) listed a w :=
  wpAnyH_take (by simpa using ho) hs hf hr hQ (Or.inr ⟨hw, rfl⟩) hS h
/-- It must come: run as it comes. -/
theorem regh_call {fuel : Nat} {listed : Array Bool} {o : Oper} (k : Nat) (ho : l[k]? = some o) (hr : Region.ready .any l.toArray listed = [k])
    (h : ∀ K' : Act → World → Prop, Hid (∀ a w, S w → (S w → wpAnyH P .any l.toArray Q S fuel (listed.setIfInBounds k true) a w) → K' a w) → if Region.wanted o (yielded l.toArray a.tmps) = true then Oper.wp P o a w K' Q else K' (a.put o.dst undef) w) :
    wpAnyH P .any l.toArray Q S (fuel + 1) listed a w :=
  wpAnyH_ready hr (by simp) (AllReadyH.cons (by simpa using ho) (fun K' hK => h K' hK) AllReadyH.nil)
theorem regh_done {listed : Array Bool} (hr : Region.ready .any l.toArray listed = []) (h : Q .normal a w) (fuel : Nat) : wpAnyH P .any l.toArray Q S fuel listed a w :=
  wpAnyH_done hr h fuel
end
end Go.Proofs.Ytdlgpcjdaaeliaa
