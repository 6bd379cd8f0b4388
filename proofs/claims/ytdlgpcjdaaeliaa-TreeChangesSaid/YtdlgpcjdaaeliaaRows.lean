/-
  NARROWER THAN 'FOR EVERY INPUT', by the rows' own cells (each row's printed sentence says how): TreeTells: loops · TreeChanges: loops · TreeKeeps: loops · TreeWalks: loops.
  DERIVED. THE GIVEN ROWS OF THIS SEAT. 4 by the template 'for every input the law returns true; each argument reads behind the call as it read before'; 0 by the template 'total and deterministic' (their statements: YtdlgpcjdaaeliaaTotals.lean).
  GIVEN WITH THE SEED: the statements are not yours to turn. If you find one false, say at which input.
  Laid BY PROGRAM, IN A SANDBOX (cutbox-rows.mjs): the forced cells as the released guide's own fill.sh prints them over the translation b038e00a8c15818e… (all of the seat's roots in one cut). By AI agents, Wed Nov 11 2026. No macro, syntax, notation, axiom, sorry.
-/
import Derived.Test.YtdlgpcjdaaeliaaChecked
import GoSem.Claim
import GoSem.ClaimJoined
import GoSem.ClaimMapViews
import Derived.JoinedTies
import Derived.KernelRfl
namespace Go.Proofs.Ytdlgpcjdaaeliaa
/- THE CELL 'sum', in the pinned program and in every row, IS THE sha256 OF THE DUMP (.gsa) THAT YtdlgpcjdaaeliaaProg.lean LOADS. Nothing in Lean hashes anything: it is a label: what it is worth is what the hold of that sum in a sandbox is worth. -/
noncomputable def Try.pinned : Pinned := { name := "ytdlgpcjdaaeliaa", sum := "b038e00a8c15818e4074e0ed9da6432ad199be92d09a69e4993c0ae1c8e11f0c", checked := Try.checked }
namespace Rows
def none {H : Type} : Left H := { results := [], args := [] }

/-- 'ossuarylaw16.TreeTells': WHATEVER THE INPUT: true; the input reads as it did. -/
def treeTellsSpec : ChangeSpec := { name := "treeTells", fn := fun _ => fun
  | [d1, d2] => { results := [.lit (.bool true)], args := [d1, d2] }
  | _ => none }
def treeTellsRow : OpenClaim := { program := "ytdlgpcjdaaeliaa", sum := "b038e00a8c15818e4074e0ed9da6432ad199be92d09a69e4993c0ae1c8e11f0c", func := "ossuary/ossuarylaw16.TreeTells", spec := "treeTells", inPlace := ["slices.overlaps[ossuary/api.Pair]"], unfollowed := true, recurses := true, loops := true, apart := false }
def TreeTellsSaid : Prop := treeTellsRow.holds Try.pinned (OpenSpec.ofChange treeTellsSpec)

/-- ITS FALSE NEIGHBOUR: 'it returns false'. Refute it at one input. -/
def treeTellsWrong : ChangeSpec := { name := "treeTells", fn := fun _ => fun
  | [d1, d2] => { results := [.lit (.bool false)], args := [d1, d2] }
  | _ => none }
def TreeTellsWrongFalsely : Prop := treeTellsRow.holds Try.pinned (OpenSpec.ofChange treeTellsWrong)

/-- 'ossuarylaw16.TreeChanges': WHATEVER THE INPUT: true; the input reads as it did. -/
def treeChangesSpec : ChangeSpec := { name := "treeChanges", fn := fun _ => fun
  | [d1, d2] => { results := [.lit (.bool true)], args := [d1, d2] }
  | _ => none }
def treeChangesRow : OpenClaim := { program := "ytdlgpcjdaaeliaa", sum := "b038e00a8c15818e4074e0ed9da6432ad199be92d09a69e4993c0ae1c8e11f0c", func := "ossuary/ossuarylaw16.TreeChanges", spec := "treeChanges", inPlace := ["slices.overlaps[ossuary/api.Pair]"], unfollowed := true, recurses := true, loops := true, apart := false }
def TreeChangesSaid : Prop := treeChangesRow.holds Try.pinned (OpenSpec.ofChange treeChangesSpec)

/-- ITS FALSE NEIGHBOUR: 'it returns false'. Refute it at one input. -/
def treeChangesWrong : ChangeSpec := { name := "treeChanges", fn := fun _ => fun
  | [d1, d2] => { results := [.lit (.bool false)], args := [d1, d2] }
  | _ => none }
def TreeChangesWrongFalsely : Prop := treeChangesRow.holds Try.pinned (OpenSpec.ofChange treeChangesWrong)

/-- 'ossuarylaw16.TreeKeeps': WHATEVER THE INPUT: true; the input reads as it did. -/
def treeKeepsSpec : ChangeSpec := { name := "treeKeeps", fn := fun _ => fun
  | [d1, d2, d3] => { results := [.lit (.bool true)], args := [d1, d2, d3] }
  | _ => none }
def treeKeepsRow : OpenClaim := { program := "ytdlgpcjdaaeliaa", sum := "b038e00a8c15818e4074e0ed9da6432ad199be92d09a69e4993c0ae1c8e11f0c", func := "ossuary/ossuarylaw16.TreeKeeps", spec := "treeKeeps", inPlace := ["slices.overlaps[ossuary/api.Pair]"], unfollowed := true, recurses := true, loops := true, apart := false }
def TreeKeepsSaid : Prop := treeKeepsRow.holds Try.pinned (OpenSpec.ofChange treeKeepsSpec)

/-- ITS FALSE NEIGHBOUR: 'it returns false'. Refute it at one input. -/
def treeKeepsWrong : ChangeSpec := { name := "treeKeeps", fn := fun _ => fun
  | [d1, d2, d3] => { results := [.lit (.bool false)], args := [d1, d2, d3] }
  | _ => none }
def TreeKeepsWrongFalsely : Prop := treeKeepsRow.holds Try.pinned (OpenSpec.ofChange treeKeepsWrong)

/-- 'ossuarylaw16.TreeWalks': WHATEVER THE INPUT: true; the input reads as it did. -/
def treeWalksSpec : ChangeSpec := { name := "treeWalks", fn := fun _ => fun
  | [d1, d2] => { results := [.lit (.bool true)], args := [d1, d2] }
  | _ => none }
def treeWalksRow : OpenClaim := { program := "ytdlgpcjdaaeliaa", sum := "b038e00a8c15818e4074e0ed9da6432ad199be92d09a69e4993c0ae1c8e11f0c", func := "ossuary/ossuarylaw16.TreeWalks", spec := "treeWalks", inPlace := ["slices.overlaps[ossuary/api.Pair]"], unfollowed := true, recurses := true, loops := true, apart := false }
def TreeWalksSaid : Prop := treeWalksRow.holds Try.pinned (OpenSpec.ofChange treeWalksSpec)

/-- ITS FALSE NEIGHBOUR: 'it returns false'. Refute it at one input. -/
def treeWalksWrong : ChangeSpec := { name := "treeWalks", fn := fun _ => fun
  | [d1, d2] => { results := [.lit (.bool false)], args := [d1, d2] }
  | _ => none }
def TreeWalksWrongFalsely : Prop := treeWalksRow.holds Try.pinned (OpenSpec.ofChange treeWalksWrong)

/- THE SECOND FORM. 'bulk': how many values and letters a reading holds, each counted each time it is reached (what is shared counts as often as it is met; a slice's spare places count too). A statement '..UptoSaid' is the law's where the arguments, and the package variables that the reading takes, are together of bulk at most 1048576: NARROWER than '..Said'. Prove '..Said' where nothing that the law and all that it calls make is longer than what came in: it says more and counts as full. Else prove '..UptoSaid'. A law counts once. -/
mutual
def uptoBulk {H : Type} : DataW H → Nat
  | .lit (.string bytes) => bytes.length + 1
  | .lit _ => 1
  | .nil => 1
  | .ptr d => uptoBulk d + 1
  | .slice elems spare => uptoBulkAll elems + uptoBulkAll spare + 1
  | .agg parts => uptoBulkAll parts + 1
  | .iface _ d => uptoBulk d + 1
  | .map entries => uptoBulkEntries entries + 1
  | .held _ => 1
def uptoBulkAll {H : Type} : List (DataW H) → Nat
  | [] => 0
  | d :: r => uptoBulk d + uptoBulkAll r
def uptoBulkEntries {H : Type} : List (Lit × DataW H) → Nat
  | [] => 0
  | x :: r => uptoBulkEntry x + uptoBulkEntries r
def uptoBulkEntry {H : Type} : Lit × DataW H → Nat
  | (.string bytes, d) => bytes.length + uptoBulk d + 1
  | (_, d) => uptoBulk d + 1
 end
def uptoSmall : (H : Type) → List (DataW H) → Bool := fun _ ds => decide (uptoBulkAll ds ≤ 1048576)
def OpenSpec.upto (s : _root_.Go.ChangeSpec) : _root_.Go.OpenSpec := { _root_.Go.OpenSpec.ofChange s with cond := some uptoSmall }

/-- 'ossuarylaw16.TreeTells', WHERE WHAT IT READS IS OF BULK AT MOST 1048576: true; the input reads as it did. -/
def treeTellsUptoRow : OpenClaim := { program := "ytdlgpcjdaaeliaa", sum := "b038e00a8c15818e4074e0ed9da6432ad199be92d09a69e4993c0ae1c8e11f0c", func := "ossuary/ossuarylaw16.TreeTells", spec := "treeTells", inPlace := ["slices.overlaps[ossuary/api.Pair]"], unfollowed := true, recurses := true, loops := true, apart := false, narrowed := true }
def TreeTellsUptoSaid : Prop := treeTellsUptoRow.holds Try.pinned (OpenSpec.upto treeTellsSpec)

/-- 'ossuarylaw16.TreeChanges', WHERE WHAT IT READS IS OF BULK AT MOST 1048576: true; the input reads as it did. -/
def treeChangesUptoRow : OpenClaim := { program := "ytdlgpcjdaaeliaa", sum := "b038e00a8c15818e4074e0ed9da6432ad199be92d09a69e4993c0ae1c8e11f0c", func := "ossuary/ossuarylaw16.TreeChanges", spec := "treeChanges", inPlace := ["slices.overlaps[ossuary/api.Pair]"], unfollowed := true, recurses := true, loops := true, apart := false, narrowed := true }
def TreeChangesUptoSaid : Prop := treeChangesUptoRow.holds Try.pinned (OpenSpec.upto treeChangesSpec)

/-- 'ossuarylaw16.TreeKeeps', WHERE WHAT IT READS IS OF BULK AT MOST 1048576: true; the input reads as it did. -/
def treeKeepsUptoRow : OpenClaim := { program := "ytdlgpcjdaaeliaa", sum := "b038e00a8c15818e4074e0ed9da6432ad199be92d09a69e4993c0ae1c8e11f0c", func := "ossuary/ossuarylaw16.TreeKeeps", spec := "treeKeeps", inPlace := ["slices.overlaps[ossuary/api.Pair]"], unfollowed := true, recurses := true, loops := true, apart := false, narrowed := true }
def TreeKeepsUptoSaid : Prop := treeKeepsUptoRow.holds Try.pinned (OpenSpec.upto treeKeepsSpec)

/-- 'ossuarylaw16.TreeWalks', WHERE WHAT IT READS IS OF BULK AT MOST 1048576: true; the input reads as it did. -/
def treeWalksUptoRow : OpenClaim := { program := "ytdlgpcjdaaeliaa", sum := "b038e00a8c15818e4074e0ed9da6432ad199be92d09a69e4993c0ae1c8e11f0c", func := "ossuary/ossuarylaw16.TreeWalks", spec := "treeWalks", inPlace := ["slices.overlaps[ossuary/api.Pair]"], unfollowed := true, recurses := true, loops := true, apart := false, narrowed := true }
def TreeWalksUptoSaid : Prop := treeWalksUptoRow.holds Try.pinned (OpenSpec.upto treeWalksSpec)

end Rows
end Go.Proofs.Ytdlgpcjdaaeliaa
