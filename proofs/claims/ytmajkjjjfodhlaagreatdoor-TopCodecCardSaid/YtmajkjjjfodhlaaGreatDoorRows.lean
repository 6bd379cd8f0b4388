/-
  NARROWER THAN 'FOR EVERY INPUT', by the rows' own cells (each row's printed sentence says how): TopCodec: laid · TopWrites: laid · TopCompacts: laid · TopFlushed: laid · TopSnap: laid.
  DERIVED. THE GIVEN ROWS OF THIS SEAT. 5 by the template 'for every input the law returns true; each argument reads behind the call as it read before'; 0 by the template 'total and deterministic' (their statements: YtmajkjjjfodhlaaGreatDoorTotals.lean).
  GIVEN WITH THE SEED: the statements are not yours to turn. If you find one false, say at which input.
  Laid BY PROGRAM, IN A SANDBOX (cutbox-rows.mjs): the forced cells as the released guide's own fill.sh prints them over the translation e31c8b02775cea33… (all of the seat's roots in one cut). By AI agents, Wed Nov 11 2026. No macro, syntax, notation, axiom, sorry.
-/
import Derived.Test.YtmajkjjjfodhlaaGreatDoorChecked
import GoSem.PinnedTables
import GoSem.Claim
import GoSem.ClaimJoined
import GoSem.ClaimMapViews
import Derived.JoinedTies
import Derived.KernelRfl
namespace Go.Proofs.YtmajkjjjfodhlaaGreatDoor
/- THE CELL 'sum', in the pinned program and in every row, IS THE sha256 OF THE DUMP (.gsa) THAT YtmajkjjjfodhlaaGreatDoorProg.lean LOADS. Nothing in Lean hashes anything: it is a label: what it is worth is what the hold of that sum in a sandbox is worth. -/
noncomputable def Tryz.pinned : Pinned := { name := "ytmajkjjjfodhlaagreatdoor", sum := "e31c8b02775cea338ba5b6721d27e9e9dd970491e8dbb127f5e44544439b38a0", checked := Tryz.checked }
namespace Rows
def none {H : Type} : Left H := { results := [], args := [] }

/- WHAT THE LISTED PACKAGE-LEVEL VARIABLES READ AS WHEN THE CALL BEGINS. Each datum BY PROGRAM (the guide's laid-datum.mjs) off the statement by which the dump's own 'gosem.cut.vars' lays the variable. In a bare row this is a premise. The card (YtmajkjjjfodhlaaGreatDoorCards.lean) ties it to the program's text. -/
def laid_math_bits_deBruijn32tab {H : Type} : DataW H := .agg [.lit (.int .u8 0), .lit (.int .u8 1), .lit (.int .u8 28), .lit (.int .u8 2), .lit (.int .u8 29), .lit (.int .u8 14), .lit (.int .u8 24), .lit (.int .u8 3), .lit (.int .u8 30), .lit (.int .u8 22), .lit (.int .u8 20), .lit (.int .u8 15), .lit (.int .u8 25), .lit (.int .u8 17), .lit (.int .u8 4), .lit (.int .u8 8), .lit (.int .u8 31), .lit (.int .u8 27), .lit (.int .u8 13), .lit (.int .u8 23), .lit (.int .u8 21), .lit (.int .u8 19), .lit (.int .u8 16), .lit (.int .u8 7), .lit (.int .u8 26), .lit (.int .u8 12), .lit (.int .u8 18), .lit (.int .u8 6), .lit (.int .u8 11), .lit (.int .u8 5), .lit (.int .u8 10), .lit (.int .u8 9)]
def laid_math_bits_deBruijn64tab {H : Type} : DataW H := .agg [.lit (.int .u8 0), .lit (.int .u8 1), .lit (.int .u8 56), .lit (.int .u8 2), .lit (.int .u8 57), .lit (.int .u8 49), .lit (.int .u8 28), .lit (.int .u8 3), .lit (.int .u8 61), .lit (.int .u8 58), .lit (.int .u8 42), .lit (.int .u8 50), .lit (.int .u8 38), .lit (.int .u8 29), .lit (.int .u8 17), .lit (.int .u8 4), .lit (.int .u8 62), .lit (.int .u8 47), .lit (.int .u8 59), .lit (.int .u8 36), .lit (.int .u8 45), .lit (.int .u8 43), .lit (.int .u8 51), .lit (.int .u8 22), .lit (.int .u8 53), .lit (.int .u8 39), .lit (.int .u8 33), .lit (.int .u8 30), .lit (.int .u8 24), .lit (.int .u8 18), .lit (.int .u8 12), .lit (.int .u8 5), .lit (.int .u8 63), .lit (.int .u8 55), .lit (.int .u8 48), .lit (.int .u8 27), .lit (.int .u8 60), .lit (.int .u8 41), .lit (.int .u8 37), .lit (.int .u8 16), .lit (.int .u8 46), .lit (.int .u8 35), .lit (.int .u8 44), .lit (.int .u8 21), .lit (.int .u8 52), .lit (.int .u8 32), .lit (.int .u8 23), .lit (.int .u8 11), .lit (.int .u8 54), .lit (.int .u8 26), .lit (.int .u8 40), .lit (.int .u8 15), .lit (.int .u8 34), .lit (.int .u8 20), .lit (.int .u8 31), .lit (.int .u8 10), .lit (.int .u8 25), .lit (.int .u8 14), .lit (.int .u8 19), .lit (.int .u8 9), .lit (.int .u8 13), .lit (.int .u8 8), .lit (.int .u8 7), .lit (.int .u8 6)]
def laid_internal_strconv_uint64pow10 {H : Type} : DataW H := .agg [.lit (.int .u64 1), .lit (.int .u64 10), .lit (.int .u64 100), .lit (.int .u64 1000), .lit (.int .u64 10000), .lit (.int .u64 100000), .lit (.int .u64 1000000), .lit (.int .u64 10000000), .lit (.int .u64 100000000), .lit (.int .u64 1000000000), .lit (.int .u64 10000000000), .lit (.int .u64 100000000000), .lit (.int .u64 1000000000000), .lit (.int .u64 10000000000000), .lit (.int .u64 100000000000000), .lit (.int .u64 1000000000000000), .lit (.int .u64 10000000000000000), .lit (.int .u64 100000000000000000), .lit (.int .u64 1000000000000000000), .lit (.int .u64 10000000000000000000)]
def laid_unicode_utf8_acceptRanges {H : Type} : DataW H := .agg [.agg [.lit (.int .u8 128), .lit (.int .u8 191)], .agg [.lit (.int .u8 160), .lit (.int .u8 191)], .agg [.lit (.int .u8 128), .lit (.int .u8 159)], .agg [.lit (.int .u8 144), .lit (.int .u8 191)], .agg [.lit (.int .u8 128), .lit (.int .u8 143)], .agg [.lit (.int .u8 0), .lit (.int .u8 0)], .agg [.lit (.int .u8 0), .lit (.int .u8 0)], .agg [.lit (.int .u8 0), .lit (.int .u8 0)], .agg [.lit (.int .u8 0), .lit (.int .u8 0)], .agg [.lit (.int .u8 0), .lit (.int .u8 0)], .agg [.lit (.int .u8 0), .lit (.int .u8 0)], .agg [.lit (.int .u8 0), .lit (.int .u8 0)], .agg [.lit (.int .u8 0), .lit (.int .u8 0)], .agg [.lit (.int .u8 0), .lit (.int .u8 0)], .agg [.lit (.int .u8 0), .lit (.int .u8 0)], .agg [.lit (.int .u8 0), .lit (.int .u8 0)]]
/-- One of Go's own tables, pinned by name: the form's constant. -/
def laid_unicode_utf8_first : DataW Unit := Go.Pinned.utf8First

/-- 'ossuarytop.TopCodec': WHATEVER THE INPUT: true; the input reads as it did. -/
def topCodecSpec : ChangeSpec := { name := "topCodec", fn := fun _ => fun
  | [d] => { results := [.lit (.bool true)], args := [d] }
  | _ => none }
def topCodecRow : OpenClaim := { program := "ytmajkjjjfodhlaagreatdoor", sum := "e31c8b02775cea338ba5b6721d27e9e9dd970491e8dbb127f5e44544439b38a0", func := "ossuary/ossuarytop.TopCodec", spec := "topCodec", inPlace := ["internal/bytealg.IndexByteString", "internal/bytealg.IndexString", "internal/abi.NoEscape", "internal/bytealg.MakeNoZero", "math.Float64bits", "math.Float64frombits", "math.archFloor", "math.archTrunc", "slices.overlaps[ossuary/api.Use]", "slices.overlaps[ossuary/api.MVol]", "slices.overlaps[ossuary/api.MBlock]", "slices.overlaps[ossuary/api.Pair]"], unfollowed := true, recurses := true, named := ["unicode/utf8.first", "unicode/utf8.acceptRanges", "internal/bytealg.MaxLen", "internal/strconv.uint64pow10", "math/bits.deBruijn32tab", "math/bits.deBruijn64tab"], plainKeys := false, apart := false, laid := [("math/bits.deBruijn32tab", laid_math_bits_deBruijn32tab), ("math/bits.deBruijn64tab", laid_math_bits_deBruijn64tab), ("internal/strconv.uint64pow10", laid_internal_strconv_uint64pow10), ("unicode/utf8.acceptRanges", laid_unicode_utf8_acceptRanges), ("unicode/utf8.first", laid_unicode_utf8_first)] }
def TopCodecSaid : Prop := topCodecRow.holds Tryz.pinned (OpenSpec.ofChange topCodecSpec)

/-- ITS FALSE NEIGHBOUR: 'it returns false'. Refute it at one input. -/
def topCodecWrong : ChangeSpec := { name := "topCodec", fn := fun _ => fun
  | [d] => { results := [.lit (.bool false)], args := [d] }
  | _ => none }
def TopCodecWrongFalsely : Prop := topCodecRow.holds Tryz.pinned (OpenSpec.ofChange topCodecWrong)

/-- 'ossuarytop.TopWrites': WHATEVER THE INPUT: true; the input reads as it did. -/
def topWritesSpec : ChangeSpec := { name := "topWrites", fn := fun _ => fun
  | [d1, d2] => { results := [.lit (.bool true)], args := [d1, d2] }
  | _ => none }
def topWritesRow : OpenClaim := { program := "ytmajkjjjfodhlaagreatdoor", sum := "e31c8b02775cea338ba5b6721d27e9e9dd970491e8dbb127f5e44544439b38a0", func := "ossuary/ossuarytop.TopWrites", spec := "topWrites", inPlace := ["internal/bytealg.IndexByteString", "internal/bytealg.IndexString", "internal/abi.NoEscape", "internal/bytealg.MakeNoZero", "math.Float64bits", "math.Float64frombits", "math.archFloor", "math.archTrunc", "slices.overlaps[ossuary/api.Use]", "slices.overlaps[ossuary/api.MVol]", "slices.overlaps[ossuary/api.MBlock]", "slices.overlaps[ossuary/api.Pair]"], unfollowed := true, recurses := true, named := ["unicode/utf8.first", "unicode/utf8.acceptRanges", "internal/bytealg.MaxLen", "internal/strconv.uint64pow10", "math/bits.deBruijn32tab", "math/bits.deBruijn64tab"], plainKeys := false, apart := false, laid := [("math/bits.deBruijn32tab", laid_math_bits_deBruijn32tab), ("math/bits.deBruijn64tab", laid_math_bits_deBruijn64tab), ("internal/strconv.uint64pow10", laid_internal_strconv_uint64pow10), ("unicode/utf8.acceptRanges", laid_unicode_utf8_acceptRanges), ("unicode/utf8.first", laid_unicode_utf8_first)] }
def TopWritesSaid : Prop := topWritesRow.holds Tryz.pinned (OpenSpec.ofChange topWritesSpec)

/-- ITS FALSE NEIGHBOUR: 'it returns false'. Refute it at one input. -/
def topWritesWrong : ChangeSpec := { name := "topWrites", fn := fun _ => fun
  | [d1, d2] => { results := [.lit (.bool false)], args := [d1, d2] }
  | _ => none }
def TopWritesWrongFalsely : Prop := topWritesRow.holds Tryz.pinned (OpenSpec.ofChange topWritesWrong)

/-- 'ossuarytop.TopCompacts': WHATEVER THE INPUT: true; the input reads as it did. -/
def topCompactsSpec : ChangeSpec := { name := "topCompacts", fn := fun _ => fun
  | [d1, d2] => { results := [.lit (.bool true)], args := [d1, d2] }
  | _ => none }
def topCompactsRow : OpenClaim := { program := "ytmajkjjjfodhlaagreatdoor", sum := "e31c8b02775cea338ba5b6721d27e9e9dd970491e8dbb127f5e44544439b38a0", func := "ossuary/ossuarytop.TopCompacts", spec := "topCompacts", inPlace := ["internal/bytealg.IndexByteString", "internal/bytealg.IndexString", "internal/abi.NoEscape", "internal/bytealg.MakeNoZero", "math.Float64bits", "math.Float64frombits", "math.archFloor", "math.archTrunc", "slices.overlaps[ossuary/api.Use]", "slices.overlaps[ossuary/api.MVol]", "slices.overlaps[ossuary/api.MBlock]", "slices.overlaps[ossuary/api.Pair]"], unfollowed := true, recurses := true, named := ["unicode/utf8.first", "unicode/utf8.acceptRanges", "internal/bytealg.MaxLen", "internal/strconv.uint64pow10", "math/bits.deBruijn32tab", "math/bits.deBruijn64tab"], plainKeys := false, apart := false, laid := [("math/bits.deBruijn32tab", laid_math_bits_deBruijn32tab), ("math/bits.deBruijn64tab", laid_math_bits_deBruijn64tab), ("internal/strconv.uint64pow10", laid_internal_strconv_uint64pow10), ("unicode/utf8.acceptRanges", laid_unicode_utf8_acceptRanges), ("unicode/utf8.first", laid_unicode_utf8_first)] }
def TopCompactsSaid : Prop := topCompactsRow.holds Tryz.pinned (OpenSpec.ofChange topCompactsSpec)

/-- ITS FALSE NEIGHBOUR: 'it returns false'. Refute it at one input. -/
def topCompactsWrong : ChangeSpec := { name := "topCompacts", fn := fun _ => fun
  | [d1, d2] => { results := [.lit (.bool false)], args := [d1, d2] }
  | _ => none }
def TopCompactsWrongFalsely : Prop := topCompactsRow.holds Tryz.pinned (OpenSpec.ofChange topCompactsWrong)

/-- 'ossuarytop.TopFlushed': WHATEVER THE INPUT: true; the input reads as it did. -/
def topFlushedSpec : ChangeSpec := { name := "topFlushed", fn := fun _ => fun
  | [d1, d2, d3] => { results := [.lit (.bool true)], args := [d1, d2, d3] }
  | _ => none }
def topFlushedRow : OpenClaim := { program := "ytmajkjjjfodhlaagreatdoor", sum := "e31c8b02775cea338ba5b6721d27e9e9dd970491e8dbb127f5e44544439b38a0", func := "ossuary/ossuarytop.TopFlushed", spec := "topFlushed", inPlace := ["internal/bytealg.IndexByteString", "internal/bytealg.IndexString", "internal/abi.NoEscape", "internal/bytealg.MakeNoZero", "math.Float64bits", "math.Float64frombits", "math.archFloor", "math.archTrunc", "slices.overlaps[ossuary/api.Use]", "slices.overlaps[ossuary/api.MVol]", "slices.overlaps[ossuary/api.MBlock]", "slices.overlaps[ossuary/api.Pair]"], unfollowed := true, recurses := true, named := ["unicode/utf8.first", "unicode/utf8.acceptRanges", "internal/bytealg.MaxLen", "internal/strconv.uint64pow10", "math/bits.deBruijn32tab", "math/bits.deBruijn64tab"], plainKeys := false, apart := false, laid := [("math/bits.deBruijn32tab", laid_math_bits_deBruijn32tab), ("math/bits.deBruijn64tab", laid_math_bits_deBruijn64tab), ("internal/strconv.uint64pow10", laid_internal_strconv_uint64pow10), ("unicode/utf8.acceptRanges", laid_unicode_utf8_acceptRanges), ("unicode/utf8.first", laid_unicode_utf8_first)] }
def TopFlushedSaid : Prop := topFlushedRow.holds Tryz.pinned (OpenSpec.ofChange topFlushedSpec)

/-- ITS FALSE NEIGHBOUR: 'it returns false'. Refute it at one input. -/
def topFlushedWrong : ChangeSpec := { name := "topFlushed", fn := fun _ => fun
  | [d1, d2, d3] => { results := [.lit (.bool false)], args := [d1, d2, d3] }
  | _ => none }
def TopFlushedWrongFalsely : Prop := topFlushedRow.holds Tryz.pinned (OpenSpec.ofChange topFlushedWrong)

/-- 'ossuarytop.TopSnap': WHATEVER THE INPUT: true; the input reads as it did. -/
def topSnapSpec : ChangeSpec := { name := "topSnap", fn := fun _ => fun
  | [d1, d2, d3] => { results := [.lit (.bool true)], args := [d1, d2, d3] }
  | _ => none }
def topSnapRow : OpenClaim := { program := "ytmajkjjjfodhlaagreatdoor", sum := "e31c8b02775cea338ba5b6721d27e9e9dd970491e8dbb127f5e44544439b38a0", func := "ossuary/ossuarytop.TopSnap", spec := "topSnap", inPlace := ["internal/bytealg.IndexByteString", "internal/bytealg.IndexString", "internal/abi.NoEscape", "internal/bytealg.MakeNoZero", "math.Float64bits", "math.Float64frombits", "math.archFloor", "math.archTrunc", "slices.overlaps[ossuary/api.Use]", "slices.overlaps[ossuary/api.MVol]", "slices.overlaps[ossuary/api.MBlock]", "slices.overlaps[ossuary/api.Pair]"], unfollowed := true, recurses := true, named := ["unicode/utf8.first", "unicode/utf8.acceptRanges", "internal/bytealg.MaxLen", "internal/strconv.uint64pow10", "math/bits.deBruijn32tab", "math/bits.deBruijn64tab"], plainKeys := false, apart := false, laid := [("math/bits.deBruijn32tab", laid_math_bits_deBruijn32tab), ("math/bits.deBruijn64tab", laid_math_bits_deBruijn64tab), ("internal/strconv.uint64pow10", laid_internal_strconv_uint64pow10), ("unicode/utf8.acceptRanges", laid_unicode_utf8_acceptRanges), ("unicode/utf8.first", laid_unicode_utf8_first)] }
def TopSnapSaid : Prop := topSnapRow.holds Tryz.pinned (OpenSpec.ofChange topSnapSpec)

/-- ITS FALSE NEIGHBOUR: 'it returns false'. Refute it at one input. -/
def topSnapWrong : ChangeSpec := { name := "topSnap", fn := fun _ => fun
  | [d1, d2, d3] => { results := [.lit (.bool false)], args := [d1, d2, d3] }
  | _ => none }
def TopSnapWrongFalsely : Prop := topSnapRow.holds Tryz.pinned (OpenSpec.ofChange topSnapWrong)

/- THE SECOND FORM. 'bulk': how many values and letters a reading holds, each counted each time it is reached (what is shared counts as often as it is met; a slice's spare places count too). A statement '..UptoSaid' is the law's where the arguments, and the package variables that the reading takes, are together of bulk at most 1048576: NARROWER than '..Said'. Prove '..Said' where nothing that the law and all that it calls make is longer than what came in: it says more and counts as full. Else prove '..UptoSaid'. A law counts once. -/
mutual
def uptoBulk {H : Type} : DataW H → Nat
  | .lit (.string bytes) => bytes.length + 1
  | .lit _ => 1
  | .nil => 1
  | .ptr d => uptoBulk d + 1
  | .slice elems spare => uptoBulkAll elems + uptoBulkAll spare + 1
  | .agg parts => uptoBulkAll parts + 1
  | .iface _ d => uptoBulk d + 1
  | .map entries => uptoBulkEntries entries + 1
  | .held _ => 1
def uptoBulkAll {H : Type} : List (DataW H) → Nat
  | [] => 0
  | d :: r => uptoBulk d + uptoBulkAll r
def uptoBulkEntries {H : Type} : List (Lit × DataW H) → Nat
  | [] => 0
  | x :: r => uptoBulkEntry x + uptoBulkEntries r
def uptoBulkEntry {H : Type} : Lit × DataW H → Nat
  | (.string bytes, d) => bytes.length + uptoBulk d + 1
  | (_, d) => uptoBulk d + 1
 end
def uptoSmall : (H : Type) → List (DataW H) → Bool := fun _ ds => decide (uptoBulkAll ds ≤ 1048576)
def OpenSpec.upto (s : _root_.Go.ChangeSpec) : _root_.Go.OpenSpec := { _root_.Go.OpenSpec.ofChange s with cond := some uptoSmall }

/-- 'ossuarytop.TopCodec', WHERE WHAT IT READS IS OF BULK AT MOST 1048576: true; the input reads as it did. -/
def topCodecUptoRow : OpenClaim := { program := "ytmajkjjjfodhlaagreatdoor", sum := "e31c8b02775cea338ba5b6721d27e9e9dd970491e8dbb127f5e44544439b38a0", func := "ossuary/ossuarytop.TopCodec", spec := "topCodec", inPlace := ["internal/bytealg.IndexByteString", "internal/bytealg.IndexString", "internal/abi.NoEscape", "internal/bytealg.MakeNoZero", "math.Float64bits", "math.Float64frombits", "math.archFloor", "math.archTrunc", "slices.overlaps[ossuary/api.Use]", "slices.overlaps[ossuary/api.MVol]", "slices.overlaps[ossuary/api.MBlock]", "slices.overlaps[ossuary/api.Pair]"], unfollowed := true, recurses := true, named := ["unicode/utf8.first", "unicode/utf8.acceptRanges", "internal/bytealg.MaxLen", "internal/strconv.uint64pow10", "math/bits.deBruijn32tab", "math/bits.deBruijn64tab"], plainKeys := false, apart := false, laid := [("math/bits.deBruijn32tab", laid_math_bits_deBruijn32tab), ("math/bits.deBruijn64tab", laid_math_bits_deBruijn64tab), ("internal/strconv.uint64pow10", laid_internal_strconv_uint64pow10), ("unicode/utf8.acceptRanges", laid_unicode_utf8_acceptRanges), ("unicode/utf8.first", laid_unicode_utf8_first)], narrowed := true }
def TopCodecUptoSaid : Prop := topCodecUptoRow.holds Tryz.pinned (OpenSpec.upto topCodecSpec)

/-- 'ossuarytop.TopWrites', WHERE WHAT IT READS IS OF BULK AT MOST 1048576: true; the input reads as it did. -/
def topWritesUptoRow : OpenClaim := { program := "ytmajkjjjfodhlaagreatdoor", sum := "e31c8b02775cea338ba5b6721d27e9e9dd970491e8dbb127f5e44544439b38a0", func := "ossuary/ossuarytop.TopWrites", spec := "topWrites", inPlace := ["internal/bytealg.IndexByteString", "internal/bytealg.IndexString", "internal/abi.NoEscape", "internal/bytealg.MakeNoZero", "math.Float64bits", "math.Float64frombits", "math.archFloor", "math.archTrunc", "slices.overlaps[ossuary/api.Use]", "slices.overlaps[ossuary/api.MVol]", "slices.overlaps[ossuary/api.MBlock]", "slices.overlaps[ossuary/api.Pair]"], unfollowed := true, recurses := true, named := ["unicode/utf8.first", "unicode/utf8.acceptRanges", "internal/bytealg.MaxLen", "internal/strconv.uint64pow10", "math/bits.deBruijn32tab", "math/bits.deBruijn64tab"], plainKeys := false, apart := false, laid := [("math/bits.deBruijn32tab", laid_math_bits_deBruijn32tab), ("math/bits.deBruijn64tab", laid_math_bits_deBruijn64tab), ("internal/strconv.uint64pow10", laid_internal_strconv_uint64pow10), ("unicode/utf8.acceptRanges", laid_unicode_utf8_acceptRanges), ("unicode/utf8.first", laid_unicode_utf8_first)], narrowed := true }
def TopWritesUptoSaid : Prop := topWritesUptoRow.holds Tryz.pinned (OpenSpec.upto topWritesSpec)

/-- 'ossuarytop.TopCompacts', WHERE WHAT IT READS IS OF BULK AT MOST 1048576: true; the input reads as it did. -/
def topCompactsUptoRow : OpenClaim := { program := "ytmajkjjjfodhlaagreatdoor", sum := "e31c8b02775cea338ba5b6721d27e9e9dd970491e8dbb127f5e44544439b38a0", func := "ossuary/ossuarytop.TopCompacts", spec := "topCompacts", inPlace := ["internal/bytealg.IndexByteString", "internal/bytealg.IndexString", "internal/abi.NoEscape", "internal/bytealg.MakeNoZero", "math.Float64bits", "math.Float64frombits", "math.archFloor", "math.archTrunc", "slices.overlaps[ossuary/api.Use]", "slices.overlaps[ossuary/api.MVol]", "slices.overlaps[ossuary/api.MBlock]", "slices.overlaps[ossuary/api.Pair]"], unfollowed := true, recurses := true, named := ["unicode/utf8.first", "unicode/utf8.acceptRanges", "internal/bytealg.MaxLen", "internal/strconv.uint64pow10", "math/bits.deBruijn32tab", "math/bits.deBruijn64tab"], plainKeys := false, apart := false, laid := [("math/bits.deBruijn32tab", laid_math_bits_deBruijn32tab), ("math/bits.deBruijn64tab", laid_math_bits_deBruijn64tab), ("internal/strconv.uint64pow10", laid_internal_strconv_uint64pow10), ("unicode/utf8.acceptRanges", laid_unicode_utf8_acceptRanges), ("unicode/utf8.first", laid_unicode_utf8_first)], narrowed := true }
def TopCompactsUptoSaid : Prop := topCompactsUptoRow.holds Tryz.pinned (OpenSpec.upto topCompactsSpec)

/-- 'ossuarytop.TopFlushed', WHERE WHAT IT READS IS OF BULK AT MOST 1048576: true; the input reads as it did. -/
def topFlushedUptoRow : OpenClaim := { program := "ytmajkjjjfodhlaagreatdoor", sum := "e31c8b02775cea338ba5b6721d27e9e9dd970491e8dbb127f5e44544439b38a0", func := "ossuary/ossuarytop.TopFlushed", spec := "topFlushed", inPlace := ["internal/bytealg.IndexByteString", "internal/bytealg.IndexString", "internal/abi.NoEscape", "internal/bytealg.MakeNoZero", "math.Float64bits", "math.Float64frombits", "math.archFloor", "math.archTrunc", "slices.overlaps[ossuary/api.Use]", "slices.overlaps[ossuary/api.MVol]", "slices.overlaps[ossuary/api.MBlock]", "slices.overlaps[ossuary/api.Pair]"], unfollowed := true, recurses := true, named := ["unicode/utf8.first", "unicode/utf8.acceptRanges", "internal/bytealg.MaxLen", "internal/strconv.uint64pow10", "math/bits.deBruijn32tab", "math/bits.deBruijn64tab"], plainKeys := false, apart := false, laid := [("math/bits.deBruijn32tab", laid_math_bits_deBruijn32tab), ("math/bits.deBruijn64tab", laid_math_bits_deBruijn64tab), ("internal/strconv.uint64pow10", laid_internal_strconv_uint64pow10), ("unicode/utf8.acceptRanges", laid_unicode_utf8_acceptRanges), ("unicode/utf8.first", laid_unicode_utf8_first)], narrowed := true }
def TopFlushedUptoSaid : Prop := topFlushedUptoRow.holds Tryz.pinned (OpenSpec.upto topFlushedSpec)

/-- 'ossuarytop.TopSnap', WHERE WHAT IT READS IS OF BULK AT MOST 1048576: true; the input reads as it did. -/
def topSnapUptoRow : OpenClaim := { program := "ytmajkjjjfodhlaagreatdoor", sum := "e31c8b02775cea338ba5b6721d27e9e9dd970491e8dbb127f5e44544439b38a0", func := "ossuary/ossuarytop.TopSnap", spec := "topSnap", inPlace := ["internal/bytealg.IndexByteString", "internal/bytealg.IndexString", "internal/abi.NoEscape", "internal/bytealg.MakeNoZero", "math.Float64bits", "math.Float64frombits", "math.archFloor", "math.archTrunc", "slices.overlaps[ossuary/api.Use]", "slices.overlaps[ossuary/api.MVol]", "slices.overlaps[ossuary/api.MBlock]", "slices.overlaps[ossuary/api.Pair]"], unfollowed := true, recurses := true, named := ["unicode/utf8.first", "unicode/utf8.acceptRanges", "internal/bytealg.MaxLen", "internal/strconv.uint64pow10", "math/bits.deBruijn32tab", "math/bits.deBruijn64tab"], plainKeys := false, apart := false, laid := [("math/bits.deBruijn32tab", laid_math_bits_deBruijn32tab), ("math/bits.deBruijn64tab", laid_math_bits_deBruijn64tab), ("internal/strconv.uint64pow10", laid_internal_strconv_uint64pow10), ("unicode/utf8.acceptRanges", laid_unicode_utf8_acceptRanges), ("unicode/utf8.first", laid_unicode_utf8_first)], narrowed := true }
def TopSnapUptoSaid : Prop := topSnapUptoRow.holds Tryz.pinned (OpenSpec.upto topSnapSpec)

end Rows
end Go.Proofs.YtmajkjjjfodhlaaGreatDoor
