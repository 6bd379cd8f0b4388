/-
  No cell of these rows narrows 'for every input' (looked for: loops, veiled, ifaces, maps, wideKeys, modest, calm, conditions, laid).
  DERIVED. THE GIVEN ROWS OF THIS SEAT. 11 by the template 'for every input the law returns true; each argument reads behind the call as it read before'; 0 by the template 'total and deterministic' (their statements: YtolappilfjhfaaaTotals.lean).
  GIVEN WITH THE SEED: the statements are not yours to turn. If you find one false, say at which input.
  Laid BY PROGRAM, IN A SANDBOX (cutbox-rows.mjs): the forced cells as the released guide's own fill.sh prints them over the translation 3a6707214711a943… (all of the seat's roots in one cut). By AI agents, Wed Nov 11 2026. No macro, syntax, notation, axiom, sorry.
-/
import Derived.Test.YtolappilfjhfaaaChecked
import GoSem.Claim
import GoSem.ClaimJoined
import GoSem.ClaimMapViews
import Derived.JoinedTies
import Derived.KernelRfl
namespace Go.Proofs.Ytolappilfjhfaaa
/- THE CELL 'sum', in the pinned program and in every row, IS THE sha256 OF THE DUMP (.gsa) THAT YtolappilfjhfaaaProg.lean LOADS. Nothing in Lean hashes anything: it is a label: what it is worth is what the hold of that sum in a sandbox is worth. -/
noncomputable def Try.pinned : Pinned := { name := "ytolappilfjhfaaa", sum := "3a6707214711a94370a174b03a0380604d93402732021086696b7d88a22ed1bc", checked := Try.checked }
namespace Rows
def none {H : Type} : Left H := { results := [], args := [] }

/-- 'ossuarylaw07.PackWrites': WHATEVER THE INPUT: true; the input reads as it did. -/
def packWritesSpec : ChangeSpec := { name := "packWrites", fn := fun _ => fun
  | [d] => { results := [.lit (.bool true)], args := [d] }
  | _ => none }
def packWritesRow : OpenClaim := { program := "ytolappilfjhfaaa", sum := "3a6707214711a94370a174b03a0380604d93402732021086696b7d88a22ed1bc", func := "ossuary/ossuarylaw07.PackWrites", spec := "packWrites", unfollowed := true, recurses := true, apart := false }
def PackWritesSaid : Prop := packWritesRow.holds Try.pinned (OpenSpec.ofChange packWritesSpec)

/-- ITS FALSE NEIGHBOUR: 'it returns false'. Refute it at one input. -/
def packWritesWrong : ChangeSpec := { name := "packWrites", fn := fun _ => fun
  | [d] => { results := [.lit (.bool false)], args := [d] }
  | _ => none }
def PackWritesWrongFalsely : Prop := packWritesRow.holds Try.pinned (OpenSpec.ofChange packWritesWrong)

/-- 'ossuarylaw07.PackReads': WHATEVER THE INPUT: true; the input reads as it did. -/
def packReadsSpec : ChangeSpec := { name := "packReads", fn := fun _ => fun
  | [d1, d2] => { results := [.lit (.bool true)], args := [d1, d2] }
  | _ => none }
def packReadsRow : OpenClaim := { program := "ytolappilfjhfaaa", sum := "3a6707214711a94370a174b03a0380604d93402732021086696b7d88a22ed1bc", func := "ossuary/ossuarylaw07.PackReads", spec := "packReads", unfollowed := true, recurses := true, apart := false }
def PackReadsSaid : Prop := packReadsRow.holds Try.pinned (OpenSpec.ofChange packReadsSpec)

/-- ITS FALSE NEIGHBOUR: 'it returns false'. Refute it at one input. -/
def packReadsWrong : ChangeSpec := { name := "packReads", fn := fun _ => fun
  | [d1, d2] => { results := [.lit (.bool false)], args := [d1, d2] }
  | _ => none }
def PackReadsWrongFalsely : Prop := packReadsRow.holds Try.pinned (OpenSpec.ofChange packReadsWrong)

/-- 'ossuarylaw07.PackBack': WHATEVER THE INPUT: true; the input reads as it did. -/
def packBackSpec : ChangeSpec := { name := "packBack", fn := fun _ => fun
  | [d1, d2] => { results := [.lit (.bool true)], args := [d1, d2] }
  | _ => none }
def packBackRow : OpenClaim := { program := "ytolappilfjhfaaa", sum := "3a6707214711a94370a174b03a0380604d93402732021086696b7d88a22ed1bc", func := "ossuary/ossuarylaw07.PackBack", spec := "packBack", unfollowed := true, recurses := true, apart := false }
def PackBackSaid : Prop := packBackRow.holds Try.pinned (OpenSpec.ofChange packBackSpec)

/-- ITS FALSE NEIGHBOUR: 'it returns false'. Refute it at one input. -/
def packBackWrong : ChangeSpec := { name := "packBack", fn := fun _ => fun
  | [d1, d2] => { results := [.lit (.bool false)], args := [d1, d2] }
  | _ => none }
def PackBackWrongFalsely : Prop := packBackRow.holds Try.pinned (OpenSpec.ofChange packBackWrong)

/-- 'ossuarylaw07.PackTells': WHATEVER THE INPUT: true; the input reads as it did. -/
def packTellsSpec : ChangeSpec := { name := "packTells", fn := fun _ => fun
  | [d1, d2, d3] => { results := [.lit (.bool true)], args := [d1, d2, d3] }
  | _ => none }
def packTellsRow : OpenClaim := { program := "ytolappilfjhfaaa", sum := "3a6707214711a94370a174b03a0380604d93402732021086696b7d88a22ed1bc", func := "ossuary/ossuarylaw07.PackTells", spec := "packTells", unfollowed := true, recurses := true, apart := false }
def PackTellsSaid : Prop := packTellsRow.holds Try.pinned (OpenSpec.ofChange packTellsSpec)

/-- ITS FALSE NEIGHBOUR: 'it returns false'. Refute it at one input. -/
def packTellsWrong : ChangeSpec := { name := "packTells", fn := fun _ => fun
  | [d1, d2, d3] => { results := [.lit (.bool false)], args := [d1, d2, d3] }
  | _ => none }
def PackTellsWrongFalsely : Prop := packTellsRow.holds Try.pinned (OpenSpec.ofChange packTellsWrong)

/-- 'ossuarylaw07.PackCut': WHATEVER THE INPUT: true; the input reads as it did. -/
def packCutSpec : ChangeSpec := { name := "packCut", fn := fun _ => fun
  | [d1, d2, d3] => { results := [.lit (.bool true)], args := [d1, d2, d3] }
  | _ => none }
def packCutRow : OpenClaim := { program := "ytolappilfjhfaaa", sum := "3a6707214711a94370a174b03a0380604d93402732021086696b7d88a22ed1bc", func := "ossuary/ossuarylaw07.PackCut", spec := "packCut", unfollowed := true, recurses := true, apart := false }
def PackCutSaid : Prop := packCutRow.holds Try.pinned (OpenSpec.ofChange packCutSpec)

/-- ITS FALSE NEIGHBOUR: 'it returns false'. Refute it at one input. -/
def packCutWrong : ChangeSpec := { name := "packCut", fn := fun _ => fun
  | [d1, d2, d3] => { results := [.lit (.bool false)], args := [d1, d2, d3] }
  | _ => none }
def PackCutWrongFalsely : Prop := packCutRow.holds Try.pinned (OpenSpec.ofChange packCutWrong)

/-- 'ossuarylaw08.CodecEncodes': WHATEVER THE INPUT: true; the input reads as it did. -/
def codecEncodesSpec : ChangeSpec := { name := "codecEncodes", fn := fun _ => fun
  | [d1, d2] => { results := [.lit (.bool true)], args := [d1, d2] }
  | _ => none }
def codecEncodesRow : OpenClaim := { program := "ytolappilfjhfaaa", sum := "3a6707214711a94370a174b03a0380604d93402732021086696b7d88a22ed1bc", func := "ossuary/ossuarylaw08.CodecEncodes", spec := "codecEncodes", unfollowed := true, recurses := true, apart := false }
def CodecEncodesSaid : Prop := codecEncodesRow.holds Try.pinned (OpenSpec.ofChange codecEncodesSpec)

/-- ITS FALSE NEIGHBOUR: 'it returns false'. Refute it at one input. -/
def codecEncodesWrong : ChangeSpec := { name := "codecEncodes", fn := fun _ => fun
  | [d1, d2] => { results := [.lit (.bool false)], args := [d1, d2] }
  | _ => none }
def CodecEncodesWrongFalsely : Prop := codecEncodesRow.holds Try.pinned (OpenSpec.ofChange codecEncodesWrong)

/-- 'ossuarylaw08.CodecDecodes': WHATEVER THE INPUT: true; the input reads as it did. -/
def codecDecodesSpec : ChangeSpec := { name := "codecDecodes", fn := fun _ => fun
  | [d1, d2] => { results := [.lit (.bool true)], args := [d1, d2] }
  | _ => none }
def codecDecodesRow : OpenClaim := { program := "ytolappilfjhfaaa", sum := "3a6707214711a94370a174b03a0380604d93402732021086696b7d88a22ed1bc", func := "ossuary/ossuarylaw08.CodecDecodes", spec := "codecDecodes", unfollowed := true, recurses := true, apart := false }
def CodecDecodesSaid : Prop := codecDecodesRow.holds Try.pinned (OpenSpec.ofChange codecDecodesSpec)

/-- ITS FALSE NEIGHBOUR: 'it returns false'. Refute it at one input. -/
def codecDecodesWrong : ChangeSpec := { name := "codecDecodes", fn := fun _ => fun
  | [d1, d2] => { results := [.lit (.bool false)], args := [d1, d2] }
  | _ => none }
def CodecDecodesWrongFalsely : Prop := codecDecodesRow.holds Try.pinned (OpenSpec.ofChange codecDecodesWrong)

/-- 'ossuarylaw08.CodecBack': WHATEVER THE INPUT: true; the input reads as it did. -/
def codecBackSpec : ChangeSpec := { name := "codecBack", fn := fun _ => fun
  | [d] => { results := [.lit (.bool true)], args := [d] }
  | _ => none }
def codecBackRow : OpenClaim := { program := "ytolappilfjhfaaa", sum := "3a6707214711a94370a174b03a0380604d93402732021086696b7d88a22ed1bc", func := "ossuary/ossuarylaw08.CodecBack", spec := "codecBack", unfollowed := true, recurses := true, apart := false }
def CodecBackSaid : Prop := codecBackRow.holds Try.pinned (OpenSpec.ofChange codecBackSpec)

/-- ITS FALSE NEIGHBOUR: 'it returns false'. Refute it at one input. -/
def codecBackWrong : ChangeSpec := { name := "codecBack", fn := fun _ => fun
  | [d] => { results := [.lit (.bool false)], args := [d] }
  | _ => none }
def CodecBackWrongFalsely : Prop := codecBackRow.holds Try.pinned (OpenSpec.ofChange codecBackWrong)

/-- 'ossuarylaw08.CodecTotal': WHATEVER THE INPUT: true; the input reads as it did. -/
def codecTotalSpec : ChangeSpec := { name := "codecTotal", fn := fun _ => fun
  | [d1, d2] => { results := [.lit (.bool true)], args := [d1, d2] }
  | _ => none }
def codecTotalRow : OpenClaim := { program := "ytolappilfjhfaaa", sum := "3a6707214711a94370a174b03a0380604d93402732021086696b7d88a22ed1bc", func := "ossuary/ossuarylaw08.CodecTotal", spec := "codecTotal", unfollowed := true, recurses := true, apart := false }
def CodecTotalSaid : Prop := codecTotalRow.holds Try.pinned (OpenSpec.ofChange codecTotalSpec)

/-- ITS FALSE NEIGHBOUR: 'it returns false'. Refute it at one input. -/
def codecTotalWrong : ChangeSpec := { name := "codecTotal", fn := fun _ => fun
  | [d1, d2] => { results := [.lit (.bool false)], args := [d1, d2] }
  | _ => none }
def CodecTotalWrongFalsely : Prop := codecTotalRow.holds Try.pinned (OpenSpec.ofChange codecTotalWrong)

/-- 'ossuarylaw08.CodecUnlike': WHATEVER THE INPUT: true; the input reads as it did. -/
def codecUnlikeSpec : ChangeSpec := { name := "codecUnlike", fn := fun _ => fun
  | [d1, d2] => { results := [.lit (.bool true)], args := [d1, d2] }
  | _ => none }
def codecUnlikeRow : OpenClaim := { program := "ytolappilfjhfaaa", sum := "3a6707214711a94370a174b03a0380604d93402732021086696b7d88a22ed1bc", func := "ossuary/ossuarylaw08.CodecUnlike", spec := "codecUnlike", unfollowed := true, recurses := true, apart := false }
def CodecUnlikeSaid : Prop := codecUnlikeRow.holds Try.pinned (OpenSpec.ofChange codecUnlikeSpec)

/-- ITS FALSE NEIGHBOUR: 'it returns false'. Refute it at one input. -/
def codecUnlikeWrong : ChangeSpec := { name := "codecUnlike", fn := fun _ => fun
  | [d1, d2] => { results := [.lit (.bool false)], args := [d1, d2] }
  | _ => none }
def CodecUnlikeWrongFalsely : Prop := codecUnlikeRow.holds Try.pinned (OpenSpec.ofChange codecUnlikeWrong)

/-- 'ossuarylaw08.CodecSectors': WHATEVER THE INPUT: true; the input reads as it did. -/
def codecSectorsSpec : ChangeSpec := { name := "codecSectors", fn := fun _ => fun
  | [d1, d2] => { results := [.lit (.bool true)], args := [d1, d2] }
  | _ => none }
def codecSectorsRow : OpenClaim := { program := "ytolappilfjhfaaa", sum := "3a6707214711a94370a174b03a0380604d93402732021086696b7d88a22ed1bc", func := "ossuary/ossuarylaw08.CodecSectors", spec := "codecSectors", unfollowed := true, recurses := true, apart := false }
def CodecSectorsSaid : Prop := codecSectorsRow.holds Try.pinned (OpenSpec.ofChange codecSectorsSpec)

/-- ITS FALSE NEIGHBOUR: 'it returns false'. Refute it at one input. -/
def codecSectorsWrong : ChangeSpec := { name := "codecSectors", fn := fun _ => fun
  | [d1, d2] => { results := [.lit (.bool false)], args := [d1, d2] }
  | _ => none }
def CodecSectorsWrongFalsely : Prop := codecSectorsRow.holds Try.pinned (OpenSpec.ofChange codecSectorsWrong)

/- THE SECOND FORM. 'bulk': how many values and letters a reading holds, each counted each time it is reached (what is shared counts as often as it is met; a slice's spare places count too). A statement '..UptoSaid' is the law's where the arguments, and the package variables that the reading takes, are together of bulk at most 1048576: NARROWER than '..Said'. Prove '..Said' where nothing that the law and all that it calls make is longer than what came in: it says more and counts as full. Else prove '..UptoSaid'. A law counts once. -/
mutual
def uptoBulk {H : Type} : DataW H → Nat
  | .lit (.string bytes) => bytes.length + 1
  | .lit _ => 1
  | .nil => 1
  | .ptr d => uptoBulk d + 1
  | .slice elems spare => uptoBulkAll elems + uptoBulkAll spare + 1
  | .agg parts => uptoBulkAll parts + 1
  | .iface _ d => uptoBulk d + 1
  | .map entries => uptoBulkEntries entries + 1
  | .held _ => 1
def uptoBulkAll {H : Type} : List (DataW H) → Nat
  | [] => 0
  | d :: r => uptoBulk d + uptoBulkAll r
def uptoBulkEntries {H : Type} : List (Lit × DataW H) → Nat
  | [] => 0
  | x :: r => uptoBulkEntry x + uptoBulkEntries r
def uptoBulkEntry {H : Type} : Lit × DataW H → Nat
  | (.string bytes, d) => bytes.length + uptoBulk d + 1
  | (_, d) => uptoBulk d + 1
 end
def uptoSmall : (H : Type) → List (DataW H) → Bool := fun _ ds => decide (uptoBulkAll ds ≤ 1048576)
def OpenSpec.upto (s : _root_.Go.ChangeSpec) : _root_.Go.OpenSpec := { _root_.Go.OpenSpec.ofChange s with cond := some uptoSmall }

/-- 'ossuarylaw07.PackWrites', WHERE WHAT IT READS IS OF BULK AT MOST 1048576: true; the input reads as it did. -/
def packWritesUptoRow : OpenClaim := { program := "ytolappilfjhfaaa", sum := "3a6707214711a94370a174b03a0380604d93402732021086696b7d88a22ed1bc", func := "ossuary/ossuarylaw07.PackWrites", spec := "packWrites", unfollowed := true, recurses := true, apart := false, narrowed := true }
def PackWritesUptoSaid : Prop := packWritesUptoRow.holds Try.pinned (OpenSpec.upto packWritesSpec)

/-- 'ossuarylaw07.PackReads', WHERE WHAT IT READS IS OF BULK AT MOST 1048576: true; the input reads as it did. -/
def packReadsUptoRow : OpenClaim := { program := "ytolappilfjhfaaa", sum := "3a6707214711a94370a174b03a0380604d93402732021086696b7d88a22ed1bc", func := "ossuary/ossuarylaw07.PackReads", spec := "packReads", unfollowed := true, recurses := true, apart := false, narrowed := true }
def PackReadsUptoSaid : Prop := packReadsUptoRow.holds Try.pinned (OpenSpec.upto packReadsSpec)

/-- 'ossuarylaw07.PackBack', WHERE WHAT IT READS IS OF BULK AT MOST 1048576: true; the input reads as it did. -/
def packBackUptoRow : OpenClaim := { program := "ytolappilfjhfaaa", sum := "3a6707214711a94370a174b03a0380604d93402732021086696b7d88a22ed1bc", func := "ossuary/ossuarylaw07.PackBack", spec := "packBack", unfollowed := true, recurses := true, apart := false, narrowed := true }
def PackBackUptoSaid : Prop := packBackUptoRow.holds Try.pinned (OpenSpec.upto packBackSpec)

/-- 'ossuarylaw07.PackTells', WHERE WHAT IT READS IS OF BULK AT MOST 1048576: true; the input reads as it did. -/
def packTellsUptoRow : OpenClaim := { program := "ytolappilfjhfaaa", sum := "3a6707214711a94370a174b03a0380604d93402732021086696b7d88a22ed1bc", func := "ossuary/ossuarylaw07.PackTells", spec := "packTells", unfollowed := true, recurses := true, apart := false, narrowed := true }
def PackTellsUptoSaid : Prop := packTellsUptoRow.holds Try.pinned (OpenSpec.upto packTellsSpec)

/-- 'ossuarylaw07.PackCut', WHERE WHAT IT READS IS OF BULK AT MOST 1048576: true; the input reads as it did. -/
def packCutUptoRow : OpenClaim := { program := "ytolappilfjhfaaa", sum := "3a6707214711a94370a174b03a0380604d93402732021086696b7d88a22ed1bc", func := "ossuary/ossuarylaw07.PackCut", spec := "packCut", unfollowed := true, recurses := true, apart := false, narrowed := true }
def PackCutUptoSaid : Prop := packCutUptoRow.holds Try.pinned (OpenSpec.upto packCutSpec)

/-- 'ossuarylaw08.CodecEncodes', WHERE WHAT IT READS IS OF BULK AT MOST 1048576: true; the input reads as it did. -/
def codecEncodesUptoRow : OpenClaim := { program := "ytolappilfjhfaaa", sum := "3a6707214711a94370a174b03a0380604d93402732021086696b7d88a22ed1bc", func := "ossuary/ossuarylaw08.CodecEncodes", spec := "codecEncodes", unfollowed := true, recurses := true, apart := false, narrowed := true }
def CodecEncodesUptoSaid : Prop := codecEncodesUptoRow.holds Try.pinned (OpenSpec.upto codecEncodesSpec)

/-- 'ossuarylaw08.CodecDecodes', WHERE WHAT IT READS IS OF BULK AT MOST 1048576: true; the input reads as it did. -/
def codecDecodesUptoRow : OpenClaim := { program := "ytolappilfjhfaaa", sum := "3a6707214711a94370a174b03a0380604d93402732021086696b7d88a22ed1bc", func := "ossuary/ossuarylaw08.CodecDecodes", spec := "codecDecodes", unfollowed := true, recurses := true, apart := false, narrowed := true }
def CodecDecodesUptoSaid : Prop := codecDecodesUptoRow.holds Try.pinned (OpenSpec.upto codecDecodesSpec)

/-- 'ossuarylaw08.CodecBack', WHERE WHAT IT READS IS OF BULK AT MOST 1048576: true; the input reads as it did. -/
def codecBackUptoRow : OpenClaim := { program := "ytolappilfjhfaaa", sum := "3a6707214711a94370a174b03a0380604d93402732021086696b7d88a22ed1bc", func := "ossuary/ossuarylaw08.CodecBack", spec := "codecBack", unfollowed := true, recurses := true, apart := false, narrowed := true }
def CodecBackUptoSaid : Prop := codecBackUptoRow.holds Try.pinned (OpenSpec.upto codecBackSpec)

/-- 'ossuarylaw08.CodecTotal', WHERE WHAT IT READS IS OF BULK AT MOST 1048576: true; the input reads as it did. -/
def codecTotalUptoRow : OpenClaim := { program := "ytolappilfjhfaaa", sum := "3a6707214711a94370a174b03a0380604d93402732021086696b7d88a22ed1bc", func := "ossuary/ossuarylaw08.CodecTotal", spec := "codecTotal", unfollowed := true, recurses := true, apart := false, narrowed := true }
def CodecTotalUptoSaid : Prop := codecTotalUptoRow.holds Try.pinned (OpenSpec.upto codecTotalSpec)

/-- 'ossuarylaw08.CodecUnlike', WHERE WHAT IT READS IS OF BULK AT MOST 1048576: true; the input reads as it did. -/
def codecUnlikeUptoRow : OpenClaim := { program := "ytolappilfjhfaaa", sum := "3a6707214711a94370a174b03a0380604d93402732021086696b7d88a22ed1bc", func := "ossuary/ossuarylaw08.CodecUnlike", spec := "codecUnlike", unfollowed := true, recurses := true, apart := false, narrowed := true }
def CodecUnlikeUptoSaid : Prop := codecUnlikeUptoRow.holds Try.pinned (OpenSpec.upto codecUnlikeSpec)

/-- 'ossuarylaw08.CodecSectors', WHERE WHAT IT READS IS OF BULK AT MOST 1048576: true; the input reads as it did. -/
def codecSectorsUptoRow : OpenClaim := { program := "ytolappilfjhfaaa", sum := "3a6707214711a94370a174b03a0380604d93402732021086696b7d88a22ed1bc", func := "ossuary/ossuarylaw08.CodecSectors", spec := "codecSectors", unfollowed := true, recurses := true, apart := false, narrowed := true }
def CodecSectorsUptoSaid : Prop := codecSectorsUptoRow.holds Try.pinned (OpenSpec.upto codecSectorsSpec)

end Rows
end Go.Proofs.Ytolappilfjhfaaa
