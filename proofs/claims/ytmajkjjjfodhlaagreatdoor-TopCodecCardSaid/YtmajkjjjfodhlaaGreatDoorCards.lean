/-
  DERIVED. GIVEN WITH THE SEED: THE CARDS: each row of YtmajkjjjfodhlaaGreatDoorRows.lean that lists a variable, with what it lists TIED to the program's text (the seventh form; the later family's looks); each row that meets fmt, with fmt's text TOLD by the authors' own Lean function (tested against real Go, not proved from fmt's source: count such statements apart). THE CARD IS WHAT COUNTS. Prove the row's statement (the work); the ties are given (YtmajkjjjfodhlaaGreatDoorTie.lean); close each card by the builder's one call (the guide's Derived/Test/ToyasCard.lean, 'card_holds'). Laid BY PROGRAM, IN A SANDBOX (cutbox-door.mjs). By AI agents, Wed Nov 11 2026. No macro, syntax, notation, axiom, sorry.
-/
import Derived.Test.YtmajkjjjfodhlaaGreatDoorRows
import GoSem.ClaimSeven
namespace Go.Proofs.YtmajkjjjfodhlaaGreatDoor
namespace Rows

/-- THE TIED CARD OF 'ossuarytop.TopCodec'. -/
def topCodecCard : Claim7 := { stood := { row := topCodecRow, standIns := [], harness := (true, "a837014a6772fd170e71c081760f03f170223f33a300e3794ca45ca95a3f0a1e"), looks := true }, kinds := [], alts := [], laidByText := true, laidKinds := [.data, .data, .data, .data, .pinned], laidTests := true, laidLooks := .later }
def TopCodecCardSaid : Prop := Claim7.holds Tryz.pinned (.plain (OpenSpec.ofChange topCodecSpec)) topCodecCard

/-- THE TIED CARD OF 'ossuarytop.TopWrites'. -/
def topWritesCard : Claim7 := { stood := { row := topWritesRow, standIns := [], harness := (true, "a837014a6772fd170e71c081760f03f170223f33a300e3794ca45ca95a3f0a1e"), looks := true }, kinds := [], alts := [], laidByText := true, laidKinds := [.data, .data, .data, .data, .pinned], laidTests := true, laidLooks := .later }
def TopWritesCardSaid : Prop := Claim7.holds Tryz.pinned (.plain (OpenSpec.ofChange topWritesSpec)) topWritesCard

/-- THE TIED CARD OF 'ossuarytop.TopCompacts'. -/
def topCompactsCard : Claim7 := { stood := { row := topCompactsRow, standIns := [], harness := (true, "a837014a6772fd170e71c081760f03f170223f33a300e3794ca45ca95a3f0a1e"), looks := true }, kinds := [], alts := [], laidByText := true, laidKinds := [.data, .data, .data, .data, .pinned], laidTests := true, laidLooks := .later }
def TopCompactsCardSaid : Prop := Claim7.holds Tryz.pinned (.plain (OpenSpec.ofChange topCompactsSpec)) topCompactsCard

/-- THE TIED CARD OF 'ossuarytop.TopFlushed'. -/
def topFlushedCard : Claim7 := { stood := { row := topFlushedRow, standIns := [], harness := (true, "a837014a6772fd170e71c081760f03f170223f33a300e3794ca45ca95a3f0a1e"), looks := true }, kinds := [], alts := [], laidByText := true, laidKinds := [.data, .data, .data, .data, .pinned], laidTests := true, laidLooks := .later }
def TopFlushedCardSaid : Prop := Claim7.holds Tryz.pinned (.plain (OpenSpec.ofChange topFlushedSpec)) topFlushedCard

/-- THE TIED CARD OF 'ossuarytop.TopSnap'. -/
def topSnapCard : Claim7 := { stood := { row := topSnapRow, standIns := [], harness := (true, "a837014a6772fd170e71c081760f03f170223f33a300e3794ca45ca95a3f0a1e"), looks := true }, kinds := [], alts := [], laidByText := true, laidKinds := [.data, .data, .data, .data, .pinned], laidTests := true, laidLooks := .later }
def TopSnapCardSaid : Prop := Claim7.holds Tryz.pinned (.plain (OpenSpec.ofChange topSnapSpec)) topSnapCard

/-- THE SECOND FORM's CARD OF 'ossuarytop.TopCodec'. -/
def topCodecUptoCard : Claim7 := { stood := { row := topCodecUptoRow, standIns := [], harness := (true, "a837014a6772fd170e71c081760f03f170223f33a300e3794ca45ca95a3f0a1e"), looks := true }, kinds := [], alts := [], laidByText := true, laidKinds := [.data, .data, .data, .data, .pinned], laidTests := true, laidLooks := .later }
def TopCodecUptoCardSaid : Prop := Claim7.holds Tryz.pinned (.plain (OpenSpec.upto topCodecSpec)) topCodecUptoCard

/-- THE SECOND FORM's CARD OF 'ossuarytop.TopWrites'. -/
def topWritesUptoCard : Claim7 := { stood := { row := topWritesUptoRow, standIns := [], harness := (true, "a837014a6772fd170e71c081760f03f170223f33a300e3794ca45ca95a3f0a1e"), looks := true }, kinds := [], alts := [], laidByText := true, laidKinds := [.data, .data, .data, .data, .pinned], laidTests := true, laidLooks := .later }
def TopWritesUptoCardSaid : Prop := Claim7.holds Tryz.pinned (.plain (OpenSpec.upto topWritesSpec)) topWritesUptoCard

/-- THE SECOND FORM's CARD OF 'ossuarytop.TopCompacts'. -/
def topCompactsUptoCard : Claim7 := { stood := { row := topCompactsUptoRow, standIns := [], harness := (true, "a837014a6772fd170e71c081760f03f170223f33a300e3794ca45ca95a3f0a1e"), looks := true }, kinds := [], alts := [], laidByText := true, laidKinds := [.data, .data, .data, .data, .pinned], laidTests := true, laidLooks := .later }
def TopCompactsUptoCardSaid : Prop := Claim7.holds Tryz.pinned (.plain (OpenSpec.upto topCompactsSpec)) topCompactsUptoCard

/-- THE SECOND FORM's CARD OF 'ossuarytop.TopFlushed'. -/
def topFlushedUptoCard : Claim7 := { stood := { row := topFlushedUptoRow, standIns := [], harness := (true, "a837014a6772fd170e71c081760f03f170223f33a300e3794ca45ca95a3f0a1e"), looks := true }, kinds := [], alts := [], laidByText := true, laidKinds := [.data, .data, .data, .data, .pinned], laidTests := true, laidLooks := .later }
def TopFlushedUptoCardSaid : Prop := Claim7.holds Tryz.pinned (.plain (OpenSpec.upto topFlushedSpec)) topFlushedUptoCard

/-- THE SECOND FORM's CARD OF 'ossuarytop.TopSnap'. -/
def topSnapUptoCard : Claim7 := { stood := { row := topSnapUptoRow, standIns := [], harness := (true, "a837014a6772fd170e71c081760f03f170223f33a300e3794ca45ca95a3f0a1e"), looks := true }, kinds := [], alts := [], laidByText := true, laidKinds := [.data, .data, .data, .data, .pinned], laidTests := true, laidLooks := .later }
def TopSnapUptoCardSaid : Prop := Claim7.holds Tryz.pinned (.plain (OpenSpec.upto topSnapSpec)) topSnapUptoCard
end Rows
end Go.Proofs.YtmajkjjjfodhlaaGreatDoor
