/-
  DERIVED. GIVEN WITH THE SEED: THE CARDS: each row of YtoamcpbapedofaaGreatDoorRows.lean that lists a variable, with what it lists TIED to the program's text (the seventh form; the later family's looks); each row that meets fmt, with fmt's text TOLD by the authors' own Lean function (tested against real Go, not proved from fmt's source: count such statements apart). THE CARD IS WHAT COUNTS. Prove the row's statement (the work); the ties are given (YtoamcpbapedofaaGreatDoorTie.lean); close each card by the builder's one call (the guide's Derived/Test/ToyasCard.lean, 'card_holds'). Laid BY PROGRAM, IN A SANDBOX (cutbox-door.mjs). By AI agents, Wed Nov 11 2026. No macro, syntax, notation, axiom, sorry.
-/
import Derived.Test.YtoamcpbapedofaaGreatDoorRows
import GoSem.ClaimSeven
namespace Go.Proofs.YtoamcpbapedofaaGreatDoor
namespace Rows

/-- THE TIED CARD OF 'dustpanlaw22.WorldNone'. -/
def worldNoneCard : Claim7 := { stood := { row := worldNoneRow, standIns := [], harness := (true, "6b85d3ce4403935afea1d9065fbcc27bf277fa42998a5559624c2b1ca9518a39"), looks := true }, kinds := [], alts := [], laidByText := true, laidKinds := [.data], laidTests := true, laidLooks := .later }
def WorldNoneCardSaid : Prop := Claim7.holds Tryz.pinned (.plain (OpenSpec.ofChange worldNoneSpec)) worldNoneCard

/-- THE TIED CARD OF 'dustpanlaw27.TapeEvents'. -/
def tapeEventsCard : Claim7 := { stood := { row := tapeEventsRow, standIns := [], harness := (true, "6b85d3ce4403935afea1d9065fbcc27bf277fa42998a5559624c2b1ca9518a39"), looks := true }, kinds := [], alts := [], laidByText := true, laidKinds := [.data, .data, .data, .data, .data, .sentinel, .sentinel, .data, .widerDeep, .pinned], laidTests := true, laidLooks := .later }
def TapeEventsCardSaid : Prop := Claim7.holds Tryz.pinned (.plain (OpenSpec.ofChange tapeEventsSpec)) tapeEventsCard

/-- THE TIED CARD OF 'dustpanlaw27.TapeWrites'. -/
def tapeWritesCard : Claim7 := { stood := { row := tapeWritesRow, standIns := [], harness := (true, "6b85d3ce4403935afea1d9065fbcc27bf277fa42998a5559624c2b1ca9518a39"), looks := true }, kinds := [], alts := [], laidByText := true, laidKinds := [.data, .data, .data, .data, .data, .sentinel, .sentinel, .data, .widerDeep, .pinned], laidTests := true, laidLooks := .later }
def TapeWritesCardSaid : Prop := Claim7.holds Tryz.pinned (.plain (OpenSpec.ofChange tapeWritesSpec)) tapeWritesCard

/-- THE TIED CARD OF 'dustpanlaw27.TapeReads'. -/
def tapeReadsCard : Claim7 := { stood := { row := tapeReadsRow, standIns := [], harness := (true, "6b85d3ce4403935afea1d9065fbcc27bf277fa42998a5559624c2b1ca9518a39"), looks := true }, kinds := [], alts := [], laidByText := true, laidKinds := [.data, .data, .data, .data, .data, .sentinel, .sentinel, .data, .widerDeep, .pinned], laidTests := true, laidLooks := .later }
def TapeReadsCardSaid : Prop := Claim7.holds Tryz.pinned (.plain (OpenSpec.ofChange tapeReadsSpec)) tapeReadsCard

/-- THE TIED CARD OF 'dustpanlaw27.TapeLong'. -/
def tapeLongCard : Claim7 := { stood := { row := tapeLongRow, standIns := [], harness := (true, "6b85d3ce4403935afea1d9065fbcc27bf277fa42998a5559624c2b1ca9518a39"), looks := true }, kinds := [], alts := [], laidByText := true, laidKinds := [.data, .data, .data, .data, .data, .sentinel, .sentinel, .data, .widerDeep, .pinned], laidTests := true, laidLooks := .later }
def TapeLongCardSaid : Prop := Claim7.holds Tryz.pinned (.plain (OpenSpec.ofChange tapeLongSpec)) tapeLongCard

/-- THE TIED CARD OF 'dustpanlaw27.TapeParts'. -/
def tapePartsCard : Claim7 := { stood := { row := tapePartsRow, standIns := [], harness := (true, "6b85d3ce4403935afea1d9065fbcc27bf277fa42998a5559624c2b1ca9518a39"), looks := true }, kinds := [], alts := [], laidByText := true, laidKinds := [.data, .data, .data, .data, .data, .sentinel, .sentinel, .data, .widerDeep, .pinned], laidTests := true, laidLooks := .later }
def TapePartsCardSaid : Prop := Claim7.holds Tryz.pinned (.plain (OpenSpec.ofChange tapePartsSpec)) tapePartsCard

/-- THE SECOND FORM's CARD OF 'dustpanlaw22.WorldNone'. -/
def worldNoneUptoCard : Claim7 := { stood := { row := worldNoneUptoRow, standIns := [], harness := (true, "6b85d3ce4403935afea1d9065fbcc27bf277fa42998a5559624c2b1ca9518a39"), looks := true }, kinds := [], alts := [], laidByText := true, laidKinds := [.data], laidTests := true, laidLooks := .later }
def WorldNoneUptoCardSaid : Prop := Claim7.holds Tryz.pinned (.plain (OpenSpec.upto worldNoneSpec)) worldNoneUptoCard

/-- THE SECOND FORM's CARD OF 'dustpanlaw27.TapeEvents'. -/
def tapeEventsUptoCard : Claim7 := { stood := { row := tapeEventsUptoRow, standIns := [], harness := (true, "6b85d3ce4403935afea1d9065fbcc27bf277fa42998a5559624c2b1ca9518a39"), looks := true }, kinds := [], alts := [], laidByText := true, laidKinds := [.data, .data, .data, .data, .data, .sentinel, .sentinel, .data, .widerDeep, .pinned], laidTests := true, laidLooks := .later }
def TapeEventsUptoCardSaid : Prop := Claim7.holds Tryz.pinned (.plain (OpenSpec.upto tapeEventsSpec)) tapeEventsUptoCard

/-- THE SECOND FORM's CARD OF 'dustpanlaw27.TapeWrites'. -/
def tapeWritesUptoCard : Claim7 := { stood := { row := tapeWritesUptoRow, standIns := [], harness := (true, "6b85d3ce4403935afea1d9065fbcc27bf277fa42998a5559624c2b1ca9518a39"), looks := true }, kinds := [], alts := [], laidByText := true, laidKinds := [.data, .data, .data, .data, .data, .sentinel, .sentinel, .data, .widerDeep, .pinned], laidTests := true, laidLooks := .later }
def TapeWritesUptoCardSaid : Prop := Claim7.holds Tryz.pinned (.plain (OpenSpec.upto tapeWritesSpec)) tapeWritesUptoCard

/-- THE SECOND FORM's CARD OF 'dustpanlaw27.TapeReads'. -/
def tapeReadsUptoCard : Claim7 := { stood := { row := tapeReadsUptoRow, standIns := [], harness := (true, "6b85d3ce4403935afea1d9065fbcc27bf277fa42998a5559624c2b1ca9518a39"), looks := true }, kinds := [], alts := [], laidByText := true, laidKinds := [.data, .data, .data, .data, .data, .sentinel, .sentinel, .data, .widerDeep, .pinned], laidTests := true, laidLooks := .later }
def TapeReadsUptoCardSaid : Prop := Claim7.holds Tryz.pinned (.plain (OpenSpec.upto tapeReadsSpec)) tapeReadsUptoCard

/-- THE SECOND FORM's CARD OF 'dustpanlaw27.TapeLong'. -/
def tapeLongUptoCard : Claim7 := { stood := { row := tapeLongUptoRow, standIns := [], harness := (true, "6b85d3ce4403935afea1d9065fbcc27bf277fa42998a5559624c2b1ca9518a39"), looks := true }, kinds := [], alts := [], laidByText := true, laidKinds := [.data, .data, .data, .data, .data, .sentinel, .sentinel, .data, .widerDeep, .pinned], laidTests := true, laidLooks := .later }
def TapeLongUptoCardSaid : Prop := Claim7.holds Tryz.pinned (.plain (OpenSpec.upto tapeLongSpec)) tapeLongUptoCard

/-- THE SECOND FORM's CARD OF 'dustpanlaw27.TapeParts'. -/
def tapePartsUptoCard : Claim7 := { stood := { row := tapePartsUptoRow, standIns := [], harness := (true, "6b85d3ce4403935afea1d9065fbcc27bf277fa42998a5559624c2b1ca9518a39"), looks := true }, kinds := [], alts := [], laidByText := true, laidKinds := [.data, .data, .data, .data, .data, .sentinel, .sentinel, .data, .widerDeep, .pinned], laidTests := true, laidLooks := .later }
def TapePartsUptoCardSaid : Prop := Claim7.holds Tryz.pinned (.plain (OpenSpec.upto tapePartsSpec)) tapePartsUptoCard
end Rows
end Go.Proofs.YtoamcpbapedofaaGreatDoor
