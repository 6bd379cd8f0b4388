/-
  No cell of these rows narrows 'for every input' (looked for: loops, veiled, ifaces, maps, wideKeys, modest, calm, conditions, laid).
  DERIVED. THE GIVEN ROWS OF THIS SEAT. 11 by the template 'for every input the law returns true; each argument reads behind the call as it read before'; 0 by the template 'total and deterministic' (their statements: YtddbcpmhgjkjpaaTotals.lean).
  GIVEN WITH THE SEED: the statements are not yours to turn. If you find one false, say at which input.
  Laid BY PROGRAM, IN A SANDBOX (cutbox-rows.mjs): the forced cells as the released guide's own fill.sh prints them over the translation 6e06b511d6a1bb81… (all of the seat's roots in one cut). By AI agents, Wed Nov 11 2026. No macro, syntax, notation, axiom, sorry.
-/
import Derived.Test.YtddbcpmhgjkjpaaChecked
import GoSem.Claim
import GoSem.ClaimJoined
import GoSem.ClaimMapViews
import Derived.JoinedTies
import Derived.KernelRfl
namespace Go.Proofs.Ytddbcpmhgjkjpaa
/- THE CELL 'sum', in the pinned program and in every row, IS THE sha256 OF THE DUMP (.gsa) THAT YtddbcpmhgjkjpaaProg.lean LOADS. Nothing in Lean hashes anything: it is a label: what it is worth is what the hold of that sum in a sandbox is worth. -/
noncomputable def Try.pinned : Pinned := { name := "ytddbcpmhgjkjpaa", sum := "6e06b511d6a1bb819a2f9705670a0fefe6798f5ec05e18114025b37a29cbd916", checked := Try.checked }
namespace Rows
def none {H : Type} : Left H := { results := [], args := [] }

/-- 'ossuarylaw14.SlotsTells': WHATEVER THE INPUT: true; the input reads as it did. -/
def slotsTellsSpec : ChangeSpec := { name := "slotsTells", fn := fun _ => fun
  | [d1, d2, d3] => { results := [.lit (.bool true)], args := [d1, d2, d3] }
  | _ => none }
def slotsTellsRow : OpenClaim := { program := "ytddbcpmhgjkjpaa", sum := "6e06b511d6a1bb819a2f9705670a0fefe6798f5ec05e18114025b37a29cbd916", func := "ossuary/ossuarylaw14.SlotsTells", spec := "slotsTells", inPlace := ["slices.overlaps[ossuary/api.Use]"], unfollowed := true, recurses := true, apart := false }
def SlotsTellsSaid : Prop := slotsTellsRow.holds Try.pinned (OpenSpec.ofChange slotsTellsSpec)

/-- ITS FALSE NEIGHBOUR: 'it returns false'. Refute it at one input. -/
def slotsTellsWrong : ChangeSpec := { name := "slotsTells", fn := fun _ => fun
  | [d1, d2, d3] => { results := [.lit (.bool false)], args := [d1, d2, d3] }
  | _ => none }
def SlotsTellsWrongFalsely : Prop := slotsTellsRow.holds Try.pinned (OpenSpec.ofChange slotsTellsWrong)

/-- 'ossuarylaw14.SlotsStay': WHATEVER THE INPUT: true; the input reads as it did. -/
def slotsStaySpec : ChangeSpec := { name := "slotsStay", fn := fun _ => fun
  | [d1, d2] => { results := [.lit (.bool true)], args := [d1, d2] }
  | _ => none }
def slotsStayRow : OpenClaim := { program := "ytddbcpmhgjkjpaa", sum := "6e06b511d6a1bb819a2f9705670a0fefe6798f5ec05e18114025b37a29cbd916", func := "ossuary/ossuarylaw14.SlotsStay", spec := "slotsStay", inPlace := ["slices.overlaps[ossuary/api.Use]"], unfollowed := true, recurses := true, apart := false }
def SlotsStaySaid : Prop := slotsStayRow.holds Try.pinned (OpenSpec.ofChange slotsStaySpec)

/-- ITS FALSE NEIGHBOUR: 'it returns false'. Refute it at one input. -/
def slotsStayWrong : ChangeSpec := { name := "slotsStay", fn := fun _ => fun
  | [d1, d2] => { results := [.lit (.bool false)], args := [d1, d2] }
  | _ => none }
def SlotsStayWrongFalsely : Prop := slotsStayRow.holds Try.pinned (OpenSpec.ofChange slotsStayWrong)

/-- 'ossuarylaw14.SlotsBack': WHATEVER THE INPUT: true; the input reads as it did. -/
def slotsBackSpec : ChangeSpec := { name := "slotsBack", fn := fun _ => fun
  | [d1, d2, d3] => { results := [.lit (.bool true)], args := [d1, d2, d3] }
  | _ => none }
def slotsBackRow : OpenClaim := { program := "ytddbcpmhgjkjpaa", sum := "6e06b511d6a1bb819a2f9705670a0fefe6798f5ec05e18114025b37a29cbd916", func := "ossuary/ossuarylaw14.SlotsBack", spec := "slotsBack", inPlace := ["slices.overlaps[ossuary/api.Use]"], unfollowed := true, recurses := true, apart := false }
def SlotsBackSaid : Prop := slotsBackRow.holds Try.pinned (OpenSpec.ofChange slotsBackSpec)

/-- ITS FALSE NEIGHBOUR: 'it returns false'. Refute it at one input. -/
def slotsBackWrong : ChangeSpec := { name := "slotsBack", fn := fun _ => fun
  | [d1, d2, d3] => { results := [.lit (.bool false)], args := [d1, d2, d3] }
  | _ => none }
def SlotsBackWrongFalsely : Prop := slotsBackRow.holds Try.pinned (OpenSpec.ofChange slotsBackWrong)

/-- 'ossuarylaw14.SlotsCommit': WHATEVER THE INPUT: true; the input reads as it did. -/
def slotsCommitSpec : ChangeSpec := { name := "slotsCommit", fn := fun _ => fun
  | [d] => { results := [.lit (.bool true)], args := [d] }
  | _ => none }
def slotsCommitRow : OpenClaim := { program := "ytddbcpmhgjkjpaa", sum := "6e06b511d6a1bb819a2f9705670a0fefe6798f5ec05e18114025b37a29cbd916", func := "ossuary/ossuarylaw14.SlotsCommit", spec := "slotsCommit", inPlace := ["slices.overlaps[ossuary/api.Use]"], unfollowed := true, recurses := true, apart := false }
def SlotsCommitSaid : Prop := slotsCommitRow.holds Try.pinned (OpenSpec.ofChange slotsCommitSpec)

/-- ITS FALSE NEIGHBOUR: 'it returns false'. Refute it at one input. -/
def slotsCommitWrong : ChangeSpec := { name := "slotsCommit", fn := fun _ => fun
  | [d] => { results := [.lit (.bool false)], args := [d] }
  | _ => none }
def SlotsCommitWrongFalsely : Prop := slotsCommitRow.holds Try.pinned (OpenSpec.ofChange slotsCommitWrong)

/-- 'ossuarylaw14.SlotsFree': WHATEVER THE INPUT: true; the input reads as it did. -/
def slotsFreeSpec : ChangeSpec := { name := "slotsFree", fn := fun _ => fun
  | [d1, d2] => { results := [.lit (.bool true)], args := [d1, d2] }
  | _ => none }
def slotsFreeRow : OpenClaim := { program := "ytddbcpmhgjkjpaa", sum := "6e06b511d6a1bb819a2f9705670a0fefe6798f5ec05e18114025b37a29cbd916", func := "ossuary/ossuarylaw14.SlotsFree", spec := "slotsFree", inPlace := ["slices.overlaps[ossuary/api.Use]"], unfollowed := true, recurses := true, apart := false }
def SlotsFreeSaid : Prop := slotsFreeRow.holds Try.pinned (OpenSpec.ofChange slotsFreeSpec)

/-- ITS FALSE NEIGHBOUR: 'it returns false'. Refute it at one input. -/
def slotsFreeWrong : ChangeSpec := { name := "slotsFree", fn := fun _ => fun
  | [d1, d2] => { results := [.lit (.bool false)], args := [d1, d2] }
  | _ => none }
def SlotsFreeWrongFalsely : Prop := slotsFreeRow.holds Try.pinned (OpenSpec.ofChange slotsFreeWrong)

/-- 'ossuarylaw14.SlotsCounts': WHATEVER THE INPUT: true; the input reads as it did. -/
def slotsCountsSpec : ChangeSpec := { name := "slotsCounts", fn := fun _ => fun
  | [d1, d2, d3] => { results := [.lit (.bool true)], args := [d1, d2, d3] }
  | _ => none }
def slotsCountsRow : OpenClaim := { program := "ytddbcpmhgjkjpaa", sum := "6e06b511d6a1bb819a2f9705670a0fefe6798f5ec05e18114025b37a29cbd916", func := "ossuary/ossuarylaw14.SlotsCounts", spec := "slotsCounts", inPlace := ["slices.overlaps[ossuary/api.Use]"], unfollowed := true, recurses := true, apart := false }
def SlotsCountsSaid : Prop := slotsCountsRow.holds Try.pinned (OpenSpec.ofChange slotsCountsSpec)

/-- ITS FALSE NEIGHBOUR: 'it returns false'. Refute it at one input. -/
def slotsCountsWrong : ChangeSpec := { name := "slotsCounts", fn := fun _ => fun
  | [d1, d2, d3] => { results := [.lit (.bool false)], args := [d1, d2, d3] }
  | _ => none }
def SlotsCountsWrongFalsely : Prop := slotsCountsRow.holds Try.pinned (OpenSpec.ofChange slotsCountsWrong)

/-- 'ossuarylaw17.AllocRoom': WHATEVER THE INPUT: true; the input reads as it did. -/
def allocRoomSpec : ChangeSpec := { name := "allocRoom", fn := fun _ => fun
  | [d1, d2] => { results := [.lit (.bool true)], args := [d1, d2] }
  | _ => none }
def allocRoomRow : OpenClaim := { program := "ytddbcpmhgjkjpaa", sum := "6e06b511d6a1bb819a2f9705670a0fefe6798f5ec05e18114025b37a29cbd916", func := "ossuary/ossuarylaw17.AllocRoom", spec := "allocRoom", inPlace := ["slices.overlaps[ossuary/api.Use]"], unfollowed := true, recurses := true, apart := false }
def AllocRoomSaid : Prop := allocRoomRow.holds Try.pinned (OpenSpec.ofChange allocRoomSpec)

/-- ITS FALSE NEIGHBOUR: 'it returns false'. Refute it at one input. -/
def allocRoomWrong : ChangeSpec := { name := "allocRoom", fn := fun _ => fun
  | [d1, d2] => { results := [.lit (.bool false)], args := [d1, d2] }
  | _ => none }
def AllocRoomWrongFalsely : Prop := allocRoomRow.holds Try.pinned (OpenSpec.ofChange allocRoomWrong)

/-- 'ossuarylaw17.AllocBroken': WHATEVER THE INPUT: true; the input reads as it did. -/
def allocBrokenSpec : ChangeSpec := { name := "allocBroken", fn := fun _ => fun
  | [d] => { results := [.lit (.bool true)], args := [d] }
  | _ => none }
def allocBrokenRow : OpenClaim := { program := "ytddbcpmhgjkjpaa", sum := "6e06b511d6a1bb819a2f9705670a0fefe6798f5ec05e18114025b37a29cbd916", func := "ossuary/ossuarylaw17.AllocBroken", spec := "allocBroken", inPlace := ["slices.overlaps[ossuary/api.Use]"], unfollowed := true, recurses := true, apart := false }
def AllocBrokenSaid : Prop := allocBrokenRow.holds Try.pinned (OpenSpec.ofChange allocBrokenSpec)

/-- ITS FALSE NEIGHBOUR: 'it returns false'. Refute it at one input. -/
def allocBrokenWrong : ChangeSpec := { name := "allocBroken", fn := fun _ => fun
  | [d] => { results := [.lit (.bool false)], args := [d] }
  | _ => none }
def AllocBrokenWrongFalsely : Prop := allocBrokenRow.holds Try.pinned (OpenSpec.ofChange allocBrokenWrong)

/-- 'ossuarylaw17.AllocTwice': WHATEVER THE INPUT: true; the input reads as it did. -/
def allocTwiceSpec : ChangeSpec := { name := "allocTwice", fn := fun _ => fun
  | [d1, d2] => { results := [.lit (.bool true)], args := [d1, d2] }
  | _ => none }
def allocTwiceRow : OpenClaim := { program := "ytddbcpmhgjkjpaa", sum := "6e06b511d6a1bb819a2f9705670a0fefe6798f5ec05e18114025b37a29cbd916", func := "ossuary/ossuarylaw17.AllocTwice", spec := "allocTwice", inPlace := ["slices.overlaps[ossuary/api.Use]"], unfollowed := true, recurses := true, apart := false }
def AllocTwiceSaid : Prop := allocTwiceRow.holds Try.pinned (OpenSpec.ofChange allocTwiceSpec)

/-- ITS FALSE NEIGHBOUR: 'it returns false'. Refute it at one input. -/
def allocTwiceWrong : ChangeSpec := { name := "allocTwice", fn := fun _ => fun
  | [d1, d2] => { results := [.lit (.bool false)], args := [d1, d2] }
  | _ => none }
def AllocTwiceWrongFalsely : Prop := allocTwiceRow.holds Try.pinned (OpenSpec.ofChange allocTwiceWrong)

/-- 'ossuarylaw17.AllocTells': WHATEVER THE INPUT: true; the input reads as it did. -/
def allocTellsSpec : ChangeSpec := { name := "allocTells", fn := fun _ => fun
  | [d1, d2, d3] => { results := [.lit (.bool true)], args := [d1, d2, d3] }
  | _ => none }
def allocTellsRow : OpenClaim := { program := "ytddbcpmhgjkjpaa", sum := "6e06b511d6a1bb819a2f9705670a0fefe6798f5ec05e18114025b37a29cbd916", func := "ossuary/ossuarylaw17.AllocTells", spec := "allocTells", inPlace := ["slices.overlaps[ossuary/api.Use]"], unfollowed := true, recurses := true, apart := false }
def AllocTellsSaid : Prop := allocTellsRow.holds Try.pinned (OpenSpec.ofChange allocTellsSpec)

/-- ITS FALSE NEIGHBOUR: 'it returns false'. Refute it at one input. -/
def allocTellsWrong : ChangeSpec := { name := "allocTells", fn := fun _ => fun
  | [d1, d2, d3] => { results := [.lit (.bool false)], args := [d1, d2, d3] }
  | _ => none }
def AllocTellsWrongFalsely : Prop := allocTellsRow.holds Try.pinned (OpenSpec.ofChange allocTellsWrong)

/-- 'ossuarylaw17.AllocCommit': WHATEVER THE INPUT: true; the input reads as it did. -/
def allocCommitSpec : ChangeSpec := { name := "allocCommit", fn := fun _ => fun
  | [d] => { results := [.lit (.bool true)], args := [d] }
  | _ => none }
def allocCommitRow : OpenClaim := { program := "ytddbcpmhgjkjpaa", sum := "6e06b511d6a1bb819a2f9705670a0fefe6798f5ec05e18114025b37a29cbd916", func := "ossuary/ossuarylaw17.AllocCommit", spec := "allocCommit", inPlace := ["slices.overlaps[ossuary/api.Use]"], unfollowed := true, recurses := true, apart := false }
def AllocCommitSaid : Prop := allocCommitRow.holds Try.pinned (OpenSpec.ofChange allocCommitSpec)

/-- ITS FALSE NEIGHBOUR: 'it returns false'. Refute it at one input. -/
def allocCommitWrong : ChangeSpec := { name := "allocCommit", fn := fun _ => fun
  | [d] => { results := [.lit (.bool false)], args := [d] }
  | _ => none }
def AllocCommitWrongFalsely : Prop := allocCommitRow.holds Try.pinned (OpenSpec.ofChange allocCommitWrong)

/- THE SECOND FORM. 'bulk': how many values and letters a reading holds, each counted each time it is reached (what is shared counts as often as it is met; a slice's spare places count too). A statement '..UptoSaid' is the law's where the arguments, and the package variables that the reading takes, are together of bulk at most 1048576: NARROWER than '..Said'. Prove '..Said' where nothing that the law and all that it calls make is longer than what came in: it says more and counts as full. Else prove '..UptoSaid'. A law counts once. -/
mutual
def uptoBulk {H : Type} : DataW H → Nat
  | .lit (.string bytes) => bytes.length + 1
  | .lit _ => 1
  | .nil => 1
  | .ptr d => uptoBulk d + 1
  | .slice elems spare => uptoBulkAll elems + uptoBulkAll spare + 1
  | .agg parts => uptoBulkAll parts + 1
  | .iface _ d => uptoBulk d + 1
  | .map entries => uptoBulkEntries entries + 1
  | .held _ => 1
def uptoBulkAll {H : Type} : List (DataW H) → Nat
  | [] => 0
  | d :: r => uptoBulk d + uptoBulkAll r
def uptoBulkEntries {H : Type} : List (Lit × DataW H) → Nat
  | [] => 0
  | x :: r => uptoBulkEntry x + uptoBulkEntries r
def uptoBulkEntry {H : Type} : Lit × DataW H → Nat
  | (.string bytes, d) => bytes.length + uptoBulk d + 1
  | (_, d) => uptoBulk d + 1
 end
def uptoSmall : (H : Type) → List (DataW H) → Bool := fun _ ds => decide (uptoBulkAll ds ≤ 1048576)
def OpenSpec.upto (s : _root_.Go.ChangeSpec) : _root_.Go.OpenSpec := { _root_.Go.OpenSpec.ofChange s with cond := some uptoSmall }

/-- 'ossuarylaw14.SlotsTells', WHERE WHAT IT READS IS OF BULK AT MOST 1048576: true; the input reads as it did. -/
def slotsTellsUptoRow : OpenClaim := { program := "ytddbcpmhgjkjpaa", sum := "6e06b511d6a1bb819a2f9705670a0fefe6798f5ec05e18114025b37a29cbd916", func := "ossuary/ossuarylaw14.SlotsTells", spec := "slotsTells", inPlace := ["slices.overlaps[ossuary/api.Use]"], unfollowed := true, recurses := true, apart := false, narrowed := true }
def SlotsTellsUptoSaid : Prop := slotsTellsUptoRow.holds Try.pinned (OpenSpec.upto slotsTellsSpec)

/-- 'ossuarylaw14.SlotsStay', WHERE WHAT IT READS IS OF BULK AT MOST 1048576: true; the input reads as it did. -/
def slotsStayUptoRow : OpenClaim := { program := "ytddbcpmhgjkjpaa", sum := "6e06b511d6a1bb819a2f9705670a0fefe6798f5ec05e18114025b37a29cbd916", func := "ossuary/ossuarylaw14.SlotsStay", spec := "slotsStay", inPlace := ["slices.overlaps[ossuary/api.Use]"], unfollowed := true, recurses := true, apart := false, narrowed := true }
def SlotsStayUptoSaid : Prop := slotsStayUptoRow.holds Try.pinned (OpenSpec.upto slotsStaySpec)

/-- 'ossuarylaw14.SlotsBack', WHERE WHAT IT READS IS OF BULK AT MOST 1048576: true; the input reads as it did. -/
def slotsBackUptoRow : OpenClaim := { program := "ytddbcpmhgjkjpaa", sum := "6e06b511d6a1bb819a2f9705670a0fefe6798f5ec05e18114025b37a29cbd916", func := "ossuary/ossuarylaw14.SlotsBack", spec := "slotsBack", inPlace := ["slices.overlaps[ossuary/api.Use]"], unfollowed := true, recurses := true, apart := false, narrowed := true }
def SlotsBackUptoSaid : Prop := slotsBackUptoRow.holds Try.pinned (OpenSpec.upto slotsBackSpec)

/-- 'ossuarylaw14.SlotsCommit', WHERE WHAT IT READS IS OF BULK AT MOST 1048576: true; the input reads as it did. -/
def slotsCommitUptoRow : OpenClaim := { program := "ytddbcpmhgjkjpaa", sum := "6e06b511d6a1bb819a2f9705670a0fefe6798f5ec05e18114025b37a29cbd916", func := "ossuary/ossuarylaw14.SlotsCommit", spec := "slotsCommit", inPlace := ["slices.overlaps[ossuary/api.Use]"], unfollowed := true, recurses := true, apart := false, narrowed := true }
def SlotsCommitUptoSaid : Prop := slotsCommitUptoRow.holds Try.pinned (OpenSpec.upto slotsCommitSpec)

/-- 'ossuarylaw14.SlotsFree', WHERE WHAT IT READS IS OF BULK AT MOST 1048576: true; the input reads as it did. -/
def slotsFreeUptoRow : OpenClaim := { program := "ytddbcpmhgjkjpaa", sum := "6e06b511d6a1bb819a2f9705670a0fefe6798f5ec05e18114025b37a29cbd916", func := "ossuary/ossuarylaw14.SlotsFree", spec := "slotsFree", inPlace := ["slices.overlaps[ossuary/api.Use]"], unfollowed := true, recurses := true, apart := false, narrowed := true }
def SlotsFreeUptoSaid : Prop := slotsFreeUptoRow.holds Try.pinned (OpenSpec.upto slotsFreeSpec)

/-- 'ossuarylaw14.SlotsCounts', WHERE WHAT IT READS IS OF BULK AT MOST 1048576: true; the input reads as it did. -/
def slotsCountsUptoRow : OpenClaim := { program := "ytddbcpmhgjkjpaa", sum := "6e06b511d6a1bb819a2f9705670a0fefe6798f5ec05e18114025b37a29cbd916", func := "ossuary/ossuarylaw14.SlotsCounts", spec := "slotsCounts", inPlace := ["slices.overlaps[ossuary/api.Use]"], unfollowed := true, recurses := true, apart := false, narrowed := true }
def SlotsCountsUptoSaid : Prop := slotsCountsUptoRow.holds Try.pinned (OpenSpec.upto slotsCountsSpec)

/-- 'ossuarylaw17.AllocRoom', WHERE WHAT IT READS IS OF BULK AT MOST 1048576: true; the input reads as it did. -/
def allocRoomUptoRow : OpenClaim := { program := "ytddbcpmhgjkjpaa", sum := "6e06b511d6a1bb819a2f9705670a0fefe6798f5ec05e18114025b37a29cbd916", func := "ossuary/ossuarylaw17.AllocRoom", spec := "allocRoom", inPlace := ["slices.overlaps[ossuary/api.Use]"], unfollowed := true, recurses := true, apart := false, narrowed := true }
def AllocRoomUptoSaid : Prop := allocRoomUptoRow.holds Try.pinned (OpenSpec.upto allocRoomSpec)

/-- 'ossuarylaw17.AllocBroken', WHERE WHAT IT READS IS OF BULK AT MOST 1048576: true; the input reads as it did. -/
def allocBrokenUptoRow : OpenClaim := { program := "ytddbcpmhgjkjpaa", sum := "6e06b511d6a1bb819a2f9705670a0fefe6798f5ec05e18114025b37a29cbd916", func := "ossuary/ossuarylaw17.AllocBroken", spec := "allocBroken", inPlace := ["slices.overlaps[ossuary/api.Use]"], unfollowed := true, recurses := true, apart := false, narrowed := true }
def AllocBrokenUptoSaid : Prop := allocBrokenUptoRow.holds Try.pinned (OpenSpec.upto allocBrokenSpec)

/-- 'ossuarylaw17.AllocTwice', WHERE WHAT IT READS IS OF BULK AT MOST 1048576: true; the input reads as it did. -/
def allocTwiceUptoRow : OpenClaim := { program := "ytddbcpmhgjkjpaa", sum := "6e06b511d6a1bb819a2f9705670a0fefe6798f5ec05e18114025b37a29cbd916", func := "ossuary/ossuarylaw17.AllocTwice", spec := "allocTwice", inPlace := ["slices.overlaps[ossuary/api.Use]"], unfollowed := true, recurses := true, apart := false, narrowed := true }
def AllocTwiceUptoSaid : Prop := allocTwiceUptoRow.holds Try.pinned (OpenSpec.upto allocTwiceSpec)

/-- 'ossuarylaw17.AllocTells', WHERE WHAT IT READS IS OF BULK AT MOST 1048576: true; the input reads as it did. -/
def allocTellsUptoRow : OpenClaim := { program := "ytddbcpmhgjkjpaa", sum := "6e06b511d6a1bb819a2f9705670a0fefe6798f5ec05e18114025b37a29cbd916", func := "ossuary/ossuarylaw17.AllocTells", spec := "allocTells", inPlace := ["slices.overlaps[ossuary/api.Use]"], unfollowed := true, recurses := true, apart := false, narrowed := true }
def AllocTellsUptoSaid : Prop := allocTellsUptoRow.holds Try.pinned (OpenSpec.upto allocTellsSpec)

/-- 'ossuarylaw17.AllocCommit', WHERE WHAT IT READS IS OF BULK AT MOST 1048576: true; the input reads as it did. -/
def allocCommitUptoRow : OpenClaim := { program := "ytddbcpmhgjkjpaa", sum := "6e06b511d6a1bb819a2f9705670a0fefe6798f5ec05e18114025b37a29cbd916", func := "ossuary/ossuarylaw17.AllocCommit", spec := "allocCommit", inPlace := ["slices.overlaps[ossuary/api.Use]"], unfollowed := true, recurses := true, apart := false, narrowed := true }
def AllocCommitUptoSaid : Prop := allocCommitUptoRow.holds Try.pinned (OpenSpec.upto allocCommitSpec)

end Rows
end Go.Proofs.Ytddbcpmhgjkjpaa
