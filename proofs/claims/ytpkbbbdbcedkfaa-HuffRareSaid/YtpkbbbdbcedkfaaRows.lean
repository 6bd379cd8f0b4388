/-
  No cell of these rows narrows 'for every input' (looked for: loops, veiled, ifaces, maps, wideKeys, modest, calm, conditions, laid).
  DERIVED. THE GIVEN ROWS OF THIS SEAT. 5 by the template 'for every input the law returns true; each argument reads behind the call as it read before'; 0 by the template 'total and deterministic' (their statements: YtpkbbbdbcedkfaaTotals.lean).
  GIVEN WITH THE SEED: the statements are not yours to turn. If you find one false, say at which input.
  Laid BY PROGRAM, IN A SANDBOX (cutbox-rows.mjs): the forced cells as the released guide's own fill.sh prints them over the translation 67bae123f9903b2c… (all of the seat's roots in one cut). By AI agents, Wed Nov 11 2026. No macro, syntax, notation, axiom, sorry.
-/
import Derived.Test.YtpkbbbdbcedkfaaChecked
import GoSem.Claim
import GoSem.ClaimJoined
import GoSem.ClaimMapViews
import Derived.JoinedTies
import Derived.KernelRfl
namespace Go.Proofs.Ytpkbbbdbcedkfaa
/- THE CELL 'sum', in the pinned program and in every row, IS THE sha256 OF THE DUMP (.gsa) THAT YtpkbbbdbcedkfaaProg.lean LOADS. Nothing in Lean hashes anything: it is a label: what it is worth is what the hold of that sum in a sandbox is worth. -/
noncomputable def Try.pinned : Pinned := { name := "ytpkbbbdbcedkfaa", sum := "67bae123f9903b2c83e4a648a9fa1385b553fd8f0eaa1315f0921b956e7c9881", checked := Try.checked }
namespace Rows
def none {H : Type} : Left H := { results := [], args := [] }

/-- 'ossuarylaw05.HuffFull': WHATEVER THE INPUT: true; the input reads as it did. -/
def huffFullSpec : ChangeSpec := { name := "huffFull", fn := fun _ => fun
  | [d] => { results := [.lit (.bool true)], args := [d] }
  | _ => none }
def huffFullRow : OpenClaim := { program := "ytpkbbbdbcedkfaa", sum := "67bae123f9903b2c83e4a648a9fa1385b553fd8f0eaa1315f0921b956e7c9881", func := "ossuary/ossuarylaw05.HuffFull", spec := "huffFull", unfollowed := true, recurses := true, apart := false }
def HuffFullSaid : Prop := huffFullRow.holds Try.pinned (OpenSpec.ofChange huffFullSpec)

/-- ITS FALSE NEIGHBOUR: 'it returns false'. Refute it at one input. -/
def huffFullWrong : ChangeSpec := { name := "huffFull", fn := fun _ => fun
  | [d] => { results := [.lit (.bool false)], args := [d] }
  | _ => none }
def HuffFullWrongFalsely : Prop := huffFullRow.holds Try.pinned (OpenSpec.ofChange huffFullWrong)

/-- 'ossuarylaw05.HuffLeast': WHATEVER THE INPUT: true; the input reads as it did. -/
def huffLeastSpec : ChangeSpec := { name := "huffLeast", fn := fun _ => fun
  | [d1, d2] => { results := [.lit (.bool true)], args := [d1, d2] }
  | _ => none }
def huffLeastRow : OpenClaim := { program := "ytpkbbbdbcedkfaa", sum := "67bae123f9903b2c83e4a648a9fa1385b553fd8f0eaa1315f0921b956e7c9881", func := "ossuary/ossuarylaw05.HuffLeast", spec := "huffLeast", unfollowed := true, recurses := true, apart := false }
def HuffLeastSaid : Prop := huffLeastRow.holds Try.pinned (OpenSpec.ofChange huffLeastSpec)

/-- ITS FALSE NEIGHBOUR: 'it returns false'. Refute it at one input. -/
def huffLeastWrong : ChangeSpec := { name := "huffLeast", fn := fun _ => fun
  | [d1, d2] => { results := [.lit (.bool false)], args := [d1, d2] }
  | _ => none }
def HuffLeastWrongFalsely : Prop := huffLeastRow.holds Try.pinned (OpenSpec.ofChange huffLeastWrong)

/-- 'ossuarylaw05.HuffRare': WHATEVER THE INPUT: true; the input reads as it did. -/
def huffRareSpec : ChangeSpec := { name := "huffRare", fn := fun _ => fun
  | [d1, d2, d3] => { results := [.lit (.bool true)], args := [d1, d2, d3] }
  | _ => none }
def huffRareRow : OpenClaim := { program := "ytpkbbbdbcedkfaa", sum := "67bae123f9903b2c83e4a648a9fa1385b553fd8f0eaa1315f0921b956e7c9881", func := "ossuary/ossuarylaw05.HuffRare", spec := "huffRare", unfollowed := true, recurses := true, apart := false }
def HuffRareSaid : Prop := huffRareRow.holds Try.pinned (OpenSpec.ofChange huffRareSpec)

/-- ITS FALSE NEIGHBOUR: 'it returns false'. Refute it at one input. -/
def huffRareWrong : ChangeSpec := { name := "huffRare", fn := fun _ => fun
  | [d1, d2, d3] => { results := [.lit (.bool false)], args := [d1, d2, d3] }
  | _ => none }
def HuffRareWrongFalsely : Prop := huffRareRow.holds Try.pinned (OpenSpec.ofChange huffRareWrong)

/-- 'ossuarylaw05.HuffEven': WHATEVER THE INPUT: true; the input reads as it did. -/
def huffEvenSpec : ChangeSpec := { name := "huffEven", fn := fun _ => fun
  | [d1, d2] => { results := [.lit (.bool true)], args := [d1, d2] }
  | _ => none }
def huffEvenRow : OpenClaim := { program := "ytpkbbbdbcedkfaa", sum := "67bae123f9903b2c83e4a648a9fa1385b553fd8f0eaa1315f0921b956e7c9881", func := "ossuary/ossuarylaw05.HuffEven", spec := "huffEven", unfollowed := true, recurses := true, apart := false }
def HuffEvenSaid : Prop := huffEvenRow.holds Try.pinned (OpenSpec.ofChange huffEvenSpec)

/-- ITS FALSE NEIGHBOUR: 'it returns false'. Refute it at one input. -/
def huffEvenWrong : ChangeSpec := { name := "huffEven", fn := fun _ => fun
  | [d1, d2] => { results := [.lit (.bool false)], args := [d1, d2] }
  | _ => none }
def HuffEvenWrongFalsely : Prop := huffEvenRow.holds Try.pinned (OpenSpec.ofChange huffEvenWrong)

/-- 'ossuarylaw05.HuffSteps': WHATEVER THE INPUT: true; the input reads as it did. -/
def huffStepsSpec : ChangeSpec := { name := "huffSteps", fn := fun _ => fun
  | [d1, d2] => { results := [.lit (.bool true)], args := [d1, d2] }
  | _ => none }
def huffStepsRow : OpenClaim := { program := "ytpkbbbdbcedkfaa", sum := "67bae123f9903b2c83e4a648a9fa1385b553fd8f0eaa1315f0921b956e7c9881", func := "ossuary/ossuarylaw05.HuffSteps", spec := "huffSteps", unfollowed := true, recurses := true, apart := false }
def HuffStepsSaid : Prop := huffStepsRow.holds Try.pinned (OpenSpec.ofChange huffStepsSpec)

/-- ITS FALSE NEIGHBOUR: 'it returns false'. Refute it at one input. -/
def huffStepsWrong : ChangeSpec := { name := "huffSteps", fn := fun _ => fun
  | [d1, d2] => { results := [.lit (.bool false)], args := [d1, d2] }
  | _ => none }
def HuffStepsWrongFalsely : Prop := huffStepsRow.holds Try.pinned (OpenSpec.ofChange huffStepsWrong)

/- THE SECOND FORM. 'bulk': how many values and letters a reading holds, each counted each time it is reached (what is shared counts as often as it is met; a slice's spare places count too). A statement '..UptoSaid' is the law's where the arguments, and the package variables that the reading takes, are together of bulk at most 1048576: NARROWER than '..Said'. Prove '..Said' where nothing that the law and all that it calls make is longer than what came in: it says more and counts as full. Else prove '..UptoSaid'. A law counts once. -/
mutual
def uptoBulk {H : Type} : DataW H → Nat
  | .lit (.string bytes) => bytes.length + 1
  | .lit _ => 1
  | .nil => 1
  | .ptr d => uptoBulk d + 1
  | .slice elems spare => uptoBulkAll elems + uptoBulkAll spare + 1
  | .agg parts => uptoBulkAll parts + 1
  | .iface _ d => uptoBulk d + 1
  | .map entries => uptoBulkEntries entries + 1
  | .held _ => 1
def uptoBulkAll {H : Type} : List (DataW H) → Nat
  | [] => 0
  | d :: r => uptoBulk d + uptoBulkAll r
def uptoBulkEntries {H : Type} : List (Lit × DataW H) → Nat
  | [] => 0
  | x :: r => uptoBulkEntry x + uptoBulkEntries r
def uptoBulkEntry {H : Type} : Lit × DataW H → Nat
  | (.string bytes, d) => bytes.length + uptoBulk d + 1
  | (_, d) => uptoBulk d + 1
 end
def uptoSmall : (H : Type) → List (DataW H) → Bool := fun _ ds => decide (uptoBulkAll ds ≤ 1048576)
def OpenSpec.upto (s : _root_.Go.ChangeSpec) : _root_.Go.OpenSpec := { _root_.Go.OpenSpec.ofChange s with cond := some uptoSmall }

/-- 'ossuarylaw05.HuffFull', WHERE WHAT IT READS IS OF BULK AT MOST 1048576: true; the input reads as it did. -/
def huffFullUptoRow : OpenClaim := { program := "ytpkbbbdbcedkfaa", sum := "67bae123f9903b2c83e4a648a9fa1385b553fd8f0eaa1315f0921b956e7c9881", func := "ossuary/ossuarylaw05.HuffFull", spec := "huffFull", unfollowed := true, recurses := true, apart := false, narrowed := true }
def HuffFullUptoSaid : Prop := huffFullUptoRow.holds Try.pinned (OpenSpec.upto huffFullSpec)

/-- 'ossuarylaw05.HuffLeast', WHERE WHAT IT READS IS OF BULK AT MOST 1048576: true; the input reads as it did. -/
def huffLeastUptoRow : OpenClaim := { program := "ytpkbbbdbcedkfaa", sum := "67bae123f9903b2c83e4a648a9fa1385b553fd8f0eaa1315f0921b956e7c9881", func := "ossuary/ossuarylaw05.HuffLeast", spec := "huffLeast", unfollowed := true, recurses := true, apart := false, narrowed := true }
def HuffLeastUptoSaid : Prop := huffLeastUptoRow.holds Try.pinned (OpenSpec.upto huffLeastSpec)

/-- 'ossuarylaw05.HuffRare', WHERE WHAT IT READS IS OF BULK AT MOST 1048576: true; the input reads as it did. -/
def huffRareUptoRow : OpenClaim := { program := "ytpkbbbdbcedkfaa", sum := "67bae123f9903b2c83e4a648a9fa1385b553fd8f0eaa1315f0921b956e7c9881", func := "ossuary/ossuarylaw05.HuffRare", spec := "huffRare", unfollowed := true, recurses := true, apart := false, narrowed := true }
def HuffRareUptoSaid : Prop := huffRareUptoRow.holds Try.pinned (OpenSpec.upto huffRareSpec)

/-- 'ossuarylaw05.HuffEven', WHERE WHAT IT READS IS OF BULK AT MOST 1048576: true; the input reads as it did. -/
def huffEvenUptoRow : OpenClaim := { program := "ytpkbbbdbcedkfaa", sum := "67bae123f9903b2c83e4a648a9fa1385b553fd8f0eaa1315f0921b956e7c9881", func := "ossuary/ossuarylaw05.HuffEven", spec := "huffEven", unfollowed := true, recurses := true, apart := false, narrowed := true }
def HuffEvenUptoSaid : Prop := huffEvenUptoRow.holds Try.pinned (OpenSpec.upto huffEvenSpec)

/-- 'ossuarylaw05.HuffSteps', WHERE WHAT IT READS IS OF BULK AT MOST 1048576: true; the input reads as it did. -/
def huffStepsUptoRow : OpenClaim := { program := "ytpkbbbdbcedkfaa", sum := "67bae123f9903b2c83e4a648a9fa1385b553fd8f0eaa1315f0921b956e7c9881", func := "ossuary/ossuarylaw05.HuffSteps", spec := "huffSteps", unfollowed := true, recurses := true, apart := false, narrowed := true }
def HuffStepsUptoSaid : Prop := huffStepsUptoRow.holds Try.pinned (OpenSpec.upto huffStepsSpec)

end Rows
end Go.Proofs.Ytpkbbbdbcedkfaa
