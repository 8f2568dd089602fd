/-
  DERIVED. GIVEN WITH THE SEED: THE CARDS: each row of YtjdnkhljgnjkcaaGreatDoorRows.lean that lists a variable, with what it lists TIED to the program's text (the seventh form; the later family's looks); each row that meets fmt, with fmt's text TOLD by the authors' own Lean function (tested against real Go, not proved from fmt's source: count such statements apart). THE CARD IS WHAT COUNTS. Prove the row's statement (the work); the ties are given (YtjdnkhljgnjkcaaGreatDoorTie.lean); close each card by the builder's one call (the guide's Derived/Test/ToyasCard.lean, 'card_holds'). Laid BY PROGRAM, IN A SANDBOX (cutbox-door.mjs). By AI agents, Wed Nov 11 2026. No macro, syntax, notation, axiom, sorry.
-/
import Derived.Test.YtjdnkhljgnjkcaaGreatDoorRows
import GoSem.ClaimSeven
namespace Go.Proofs.YtjdnkhljgnjkcaaGreatDoor
namespace Rows

/-- THE TIED CARD OF 'dustpanlaw20.MutatorNone'. -/
def mutatorNoneCard : Claim7 := { stood := { row := mutatorNoneRow, standIns := [], harness := (true, "fb3fcc8c58beb693ed8bf2e1f6b2f2d262814fd6b6578ce878e3016e2dd9468b"), looks := false }, kinds := [], alts := [], laidByText := true, laidKinds := [.data, .data, .data], laidTests := true, laidLooks := .later }
def MutatorNoneCardSaid : Prop := Claim7.holds Tryz.pinned (.plain (OpenSpec.ofChange mutatorNoneSpec)) mutatorNoneCard

/-- THE TIED CARD OF 'dustpanlaw20.MutatorStill'. -/
def mutatorStillCard : Claim7 := { stood := { row := mutatorStillRow, standIns := [], harness := (true, "fb3fcc8c58beb693ed8bf2e1f6b2f2d262814fd6b6578ce878e3016e2dd9468b"), looks := false }, kinds := [], alts := [], laidByText := true, laidKinds := [.data, .data, .data, .data], laidTests := true, laidLooks := .later }
def MutatorStillCardSaid : Prop := Claim7.holds Tryz.pinned (.plain (OpenSpec.ofChange mutatorStillSpec)) mutatorStillCard

/-- THE TIED CARD OF 'dustpanlaw20.MutatorLogs'. -/
def mutatorLogsCard : Claim7 := { stood := { row := mutatorLogsRow, standIns := [], harness := (true, "fb3fcc8c58beb693ed8bf2e1f6b2f2d262814fd6b6578ce878e3016e2dd9468b"), looks := false }, kinds := [], alts := [], laidByText := true, laidKinds := [.data, .data, .data], laidTests := true, laidLooks := .later }
def MutatorLogsCardSaid : Prop := Claim7.holds Tryz.pinned (.plain (OpenSpec.ofChange mutatorLogsSpec)) mutatorLogsCard

/-- THE TIED CARD OF 'dustpanlaw20.MutatorAlone'. -/
def mutatorAloneCard : Claim7 := { stood := { row := mutatorAloneRow, standIns := [], harness := (true, "fb3fcc8c58beb693ed8bf2e1f6b2f2d262814fd6b6578ce878e3016e2dd9468b"), looks := false }, kinds := [], alts := [], laidByText := true, laidKinds := [.data, .data, .data, .data], laidTests := true, laidLooks := .later }
def MutatorAloneCardSaid : Prop := Claim7.holds Tryz.pinned (.plain (OpenSpec.ofChange mutatorAloneSpec)) mutatorAloneCard

/-- THE SECOND FORM's CARD OF 'dustpanlaw20.MutatorNone'. -/
def mutatorNoneUptoCard : Claim7 := { stood := { row := mutatorNoneUptoRow, standIns := [], harness := (true, "fb3fcc8c58beb693ed8bf2e1f6b2f2d262814fd6b6578ce878e3016e2dd9468b"), looks := false }, kinds := [], alts := [], laidByText := true, laidKinds := [.data, .data, .data], laidTests := true, laidLooks := .later }
def MutatorNoneUptoCardSaid : Prop := Claim7.holds Tryz.pinned (.plain (OpenSpec.upto mutatorNoneSpec)) mutatorNoneUptoCard

/-- THE SECOND FORM's CARD OF 'dustpanlaw20.MutatorStill'. -/
def mutatorStillUptoCard : Claim7 := { stood := { row := mutatorStillUptoRow, standIns := [], harness := (true, "fb3fcc8c58beb693ed8bf2e1f6b2f2d262814fd6b6578ce878e3016e2dd9468b"), looks := false }, kinds := [], alts := [], laidByText := true, laidKinds := [.data, .data, .data, .data], laidTests := true, laidLooks := .later }
def MutatorStillUptoCardSaid : Prop := Claim7.holds Tryz.pinned (.plain (OpenSpec.upto mutatorStillSpec)) mutatorStillUptoCard

/-- THE SECOND FORM's CARD OF 'dustpanlaw20.MutatorLogs'. -/
def mutatorLogsUptoCard : Claim7 := { stood := { row := mutatorLogsUptoRow, standIns := [], harness := (true, "fb3fcc8c58beb693ed8bf2e1f6b2f2d262814fd6b6578ce878e3016e2dd9468b"), looks := false }, kinds := [], alts := [], laidByText := true, laidKinds := [.data, .data, .data], laidTests := true, laidLooks := .later }
def MutatorLogsUptoCardSaid : Prop := Claim7.holds Tryz.pinned (.plain (OpenSpec.upto mutatorLogsSpec)) mutatorLogsUptoCard

/-- THE SECOND FORM's CARD OF 'dustpanlaw20.MutatorAlone'. -/
def mutatorAloneUptoCard : Claim7 := { stood := { row := mutatorAloneUptoRow, standIns := [], harness := (true, "fb3fcc8c58beb693ed8bf2e1f6b2f2d262814fd6b6578ce878e3016e2dd9468b"), looks := false }, kinds := [], alts := [], laidByText := true, laidKinds := [.data, .data, .data, .data], laidTests := true, laidLooks := .later }
def MutatorAloneUptoCardSaid : Prop := Claim7.holds Tryz.pinned (.plain (OpenSpec.upto mutatorAloneSpec)) mutatorAloneUptoCard
end Rows
end Go.Proofs.YtjdnkhljgnjkcaaGreatDoor
