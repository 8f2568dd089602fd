/-
  DERIVED. GIVEN WITH THE SEED: THE CARDS: each row of YtanfphjoebobaaaGreatDoorRows.lean that lists a variable, with what it lists TIED to the program's text (the seventh form; the later family's looks); each row that meets fmt, with fmt's text TOLD by the authors' own Lean function (tested against real Go, not proved from fmt's source: count such statements apart). THE CARD IS WHAT COUNTS. Prove the row's statement (the work); the ties are given (YtanfphjoebobaaaGreatDoorTie.lean); close each card by the builder's one call (the guide's Derived/Test/ToyasCard.lean, 'card_holds'). Laid BY PROGRAM, IN A SANDBOX (cutbox-door.mjs). By AI agents, Wed Nov 11 2026. No macro, syntax, notation, axiom, sorry.
-/
import Derived.Test.YtanfphjoebobaaaGreatDoorRows
import GoSem.ClaimSeven
namespace Go.Proofs.YtanfphjoebobaaaGreatDoor
namespace Rows

/-- THE TIED CARD OF 'dustpanlaw21.CollectorRests'. -/
def collectorRestsCard : Claim7 := { stood := { row := collectorRestsRow, standIns := [], harness := (true, "8427463dba4c1cf994d00b36857475f6cda74c3d06e76c0445bf21993c1b3453"), looks := false }, kinds := [], alts := [], laidByText := true, laidKinds := [.data, .data, .data, .data], laidTests := true, laidLooks := .later }
def CollectorRestsCardSaid : Prop := Claim7.holds Tryz.pinned (.plain (OpenSpec.ofChange collectorRestsSpec)) collectorRestsCard

/-- THE TIED CARD OF 'dustpanlaw21.CollectorWaits'. -/
def collectorWaitsCard : Claim7 := { stood := { row := collectorWaitsRow, standIns := [], harness := (true, "8427463dba4c1cf994d00b36857475f6cda74c3d06e76c0445bf21993c1b3453"), looks := false }, kinds := [], alts := [], laidByText := true, laidKinds := [.data, .data, .data, .data], laidTests := true, laidLooks := .later }
def CollectorWaitsCardSaid : Prop := Claim7.holds Tryz.pinned (.plain (OpenSpec.ofChange collectorWaitsSpec)) collectorWaitsCard

/-- THE TIED CARD OF 'dustpanlaw21.CollectorRooms'. -/
def collectorRoomsCard : Claim7 := { stood := { row := collectorRoomsRow, standIns := [], harness := (true, "8427463dba4c1cf994d00b36857475f6cda74c3d06e76c0445bf21993c1b3453"), looks := false }, kinds := [], alts := [], laidByText := true, laidKinds := [.data, .data, .data, .data], laidTests := true, laidLooks := .later }
def CollectorRoomsCardSaid : Prop := Claim7.holds Tryz.pinned (.plain (OpenSpec.ofChange collectorRoomsSpec)) collectorRoomsCard

/-- THE TIED CARD OF 'dustpanlaw21.CollectorColors'. -/
def collectorColorsCard : Claim7 := { stood := { row := collectorColorsRow, standIns := [], harness := (true, "8427463dba4c1cf994d00b36857475f6cda74c3d06e76c0445bf21993c1b3453"), looks := false }, kinds := [], alts := [], laidByText := true, laidKinds := [.data, .data, .data, .data], laidTests := true, laidLooks := .later }
def CollectorColorsCardSaid : Prop := Claim7.holds Tryz.pinned (.plain (OpenSpec.ofChange collectorColorsSpec)) collectorColorsCard

/-- THE TIED CARD OF 'dustpanlaw21.CollectorEvents'. -/
def collectorEventsCard : Claim7 := { stood := { row := collectorEventsRow, standIns := [], harness := (true, "8427463dba4c1cf994d00b36857475f6cda74c3d06e76c0445bf21993c1b3453"), looks := false }, kinds := [], alts := [], laidByText := true, laidKinds := [.data, .data, .data, .data, .data], laidTests := true, laidLooks := .later }
def CollectorEventsCardSaid : Prop := Claim7.holds Tryz.pinned (.plain (OpenSpec.ofChange collectorEventsSpec)) collectorEventsCard

/-- THE TIED CARD OF 'dustpanlaw21.CollectorFrees'. -/
def collectorFreesCard : Claim7 := { stood := { row := collectorFreesRow, standIns := [], harness := (true, "8427463dba4c1cf994d00b36857475f6cda74c3d06e76c0445bf21993c1b3453"), looks := false }, kinds := [], alts := [], laidByText := true, laidKinds := [.data, .data, .data, .data, .data], laidTests := true, laidLooks := .later }
def CollectorFreesCardSaid : Prop := Claim7.holds Tryz.pinned (.plain (OpenSpec.ofChange collectorFreesSpec)) collectorFreesCard

/-- THE SECOND FORM's CARD OF 'dustpanlaw21.CollectorRests'. -/
def collectorRestsUptoCard : Claim7 := { stood := { row := collectorRestsUptoRow, standIns := [], harness := (true, "8427463dba4c1cf994d00b36857475f6cda74c3d06e76c0445bf21993c1b3453"), looks := false }, kinds := [], alts := [], laidByText := true, laidKinds := [.data, .data, .data, .data], laidTests := true, laidLooks := .later }
def CollectorRestsUptoCardSaid : Prop := Claim7.holds Tryz.pinned (.plain (OpenSpec.upto collectorRestsSpec)) collectorRestsUptoCard

/-- THE SECOND FORM's CARD OF 'dustpanlaw21.CollectorWaits'. -/
def collectorWaitsUptoCard : Claim7 := { stood := { row := collectorWaitsUptoRow, standIns := [], harness := (true, "8427463dba4c1cf994d00b36857475f6cda74c3d06e76c0445bf21993c1b3453"), looks := false }, kinds := [], alts := [], laidByText := true, laidKinds := [.data, .data, .data, .data], laidTests := true, laidLooks := .later }
def CollectorWaitsUptoCardSaid : Prop := Claim7.holds Tryz.pinned (.plain (OpenSpec.upto collectorWaitsSpec)) collectorWaitsUptoCard

/-- THE SECOND FORM's CARD OF 'dustpanlaw21.CollectorRooms'. -/
def collectorRoomsUptoCard : Claim7 := { stood := { row := collectorRoomsUptoRow, standIns := [], harness := (true, "8427463dba4c1cf994d00b36857475f6cda74c3d06e76c0445bf21993c1b3453"), looks := false }, kinds := [], alts := [], laidByText := true, laidKinds := [.data, .data, .data, .data], laidTests := true, laidLooks := .later }
def CollectorRoomsUptoCardSaid : Prop := Claim7.holds Tryz.pinned (.plain (OpenSpec.upto collectorRoomsSpec)) collectorRoomsUptoCard

/-- THE SECOND FORM's CARD OF 'dustpanlaw21.CollectorColors'. -/
def collectorColorsUptoCard : Claim7 := { stood := { row := collectorColorsUptoRow, standIns := [], harness := (true, "8427463dba4c1cf994d00b36857475f6cda74c3d06e76c0445bf21993c1b3453"), looks := false }, kinds := [], alts := [], laidByText := true, laidKinds := [.data, .data, .data, .data], laidTests := true, laidLooks := .later }
def CollectorColorsUptoCardSaid : Prop := Claim7.holds Tryz.pinned (.plain (OpenSpec.upto collectorColorsSpec)) collectorColorsUptoCard

/-- THE SECOND FORM's CARD OF 'dustpanlaw21.CollectorEvents'. -/
def collectorEventsUptoCard : Claim7 := { stood := { row := collectorEventsUptoRow, standIns := [], harness := (true, "8427463dba4c1cf994d00b36857475f6cda74c3d06e76c0445bf21993c1b3453"), looks := false }, kinds := [], alts := [], laidByText := true, laidKinds := [.data, .data, .data, .data, .data], laidTests := true, laidLooks := .later }
def CollectorEventsUptoCardSaid : Prop := Claim7.holds Tryz.pinned (.plain (OpenSpec.upto collectorEventsSpec)) collectorEventsUptoCard

/-- THE SECOND FORM's CARD OF 'dustpanlaw21.CollectorFrees'. -/
def collectorFreesUptoCard : Claim7 := { stood := { row := collectorFreesUptoRow, standIns := [], harness := (true, "8427463dba4c1cf994d00b36857475f6cda74c3d06e76c0445bf21993c1b3453"), looks := false }, kinds := [], alts := [], laidByText := true, laidKinds := [.data, .data, .data, .data, .data], laidTests := true, laidLooks := .later }
def CollectorFreesUptoCardSaid : Prop := Claim7.holds Tryz.pinned (.plain (OpenSpec.upto collectorFreesSpec)) collectorFreesUptoCard
end Rows
end Go.Proofs.YtanfphjoebobaaaGreatDoor
