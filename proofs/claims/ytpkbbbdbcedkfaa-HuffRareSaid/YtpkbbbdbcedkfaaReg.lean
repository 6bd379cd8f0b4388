/- A drawn region whose first operations must come one by one, and whose later ones only read: the first ones are walked as they come, the later ones once, in the order of the text. No condition. -/
import Derived.Deep.QuietTactic
import Derived.BigQuiet
import Derived.WalkKit
import Derived.Lib.Hide
namespace Go.Proofs.Ytpkbbbdbcedkfaa
open Go.RowKit

section
variable {P : Program} {l : List Oper} {Q : Exit → Act → World → Prop} {a : Act} {w : World}

theorem reg_start {id : Nat} (hm : P.follows .mixedOrders = true) (n : Nat) (hn : l.toArray.size = n)
    (h : wpAny P .any l.toArray Q n (Array.replicate n false) a w.drew) : (Code.region id l.toArray true).wp P Q a w := by
  subst hn
  exact wp_region_any hm h
/-- The next one must come. -/
theorem reg_forced {fuel : Nat} {listed : Array Bool} {o : Oper} (k : Nat) (ho : l[k]? = some o) (hr : Region.ready .any l.toArray listed = [k])
    (h : ∀ K' : Act → World → Prop, Hid (∀ a w, wpAny P .any l.toArray Q fuel (listed.setIfInBounds k true) a w → K' a w) → if Region.wanted o (yielded l.toArray a.tmps) = true then Oper.wp P o a w K' Q else K' (a.put o.dst undef) w) :
    wpAny P .any l.toArray Q (fuel + 1) listed a w := by
  refine wpAny_ready hr (by simp) (AllReady.cons (by simpa using ho) h AllReady.nil)
/-- The rest only reads. -/
theorem reg_rest {fuel : Nat} {listed : Array Bool} (k : Nat) (hf : fuel = (l.drop k).length) (hs : Region.noSelect l.toArray = true)
    (hB : Region.lexFrom .any l.toArray (l.drop k).length k listed = true)
    (h : wpQuiet P l.toArray (fun w' => ∃ n, w' = w.drewN n) (fun a' => ∀ w', (∃ n, w' = w.drewN n) → Q .normal a' w') (l.drop k) a) :
    wpAny P .any l.toArray Q fuel listed a w := by
  subst hf
  refine wpAny_of_quiet (C := fun w' => ∃ n, w' = w.drewN n) (Q := fun a' => ∀ w', (∃ n, w' = w.drewN n) → Q .normal a' w') (fun _ w' hw' h => h w' hw') _ _ _ _ ⟨0, rfl⟩ ?_
  exact wpAnyQ_lex hs (l.drop k) k listed a (fun j => by rw [List.getElem?_drop]; simp) hB h
end
end Go.Proofs.Ytpkbbbdbcedkfaa
