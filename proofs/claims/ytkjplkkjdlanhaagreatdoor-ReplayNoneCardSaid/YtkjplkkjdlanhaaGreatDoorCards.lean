/-
  DERIVED. GIVEN WITH THE SEED: THE CARDS: each row of YtkjplkkjdlanhaaGreatDoorRows.lean that lists a variable, with what it lists TIED to the program's text (the seventh form; the later family's looks); each row that meets fmt, with fmt's text TOLD by the authors' own Lean function (tested against real Go, not proved from fmt's source: count such statements apart). THE CARD IS WHAT COUNTS. Prove the row's statement (the work); the ties are given (YtkjplkkjdlanhaaGreatDoorTie.lean); close each card by the builder's one call (the guide's Derived/Test/ToyasCard.lean, 'card_holds'). Laid BY PROGRAM, IN A SANDBOX (cutbox-door.mjs). By AI agents, Wed Nov 11 2026. No macro, syntax, notation, axiom, sorry.
-/
import Derived.Test.YtkjplkkjdlanhaaGreatDoorRows
import GoSem.ClaimSeven
namespace Go.Proofs.YtkjplkkjdlanhaaGreatDoor
namespace Rows

/-- THE TIED CARD OF 'dustpanlaw25.ReplayNone'. -/
def replayNoneCard : Claim7 := { stood := { row := replayNoneRow, standIns := [], harness := (true, "adb90a376e7bc432af0d79f1d044f7d3eec6e84f4cfaa67617eee1e7dd2f29ba"), looks := false }, kinds := [], alts := [], laidByText := true, laidKinds := [.data, .data, .data], laidTests := true, laidLooks := .later }
def ReplayNoneCardSaid : Prop := Claim7.holds Tryz.pinned (.plain (OpenSpec.ofChange replayNoneSpec)) replayNoneCard

/-- THE SECOND FORM's CARD OF 'dustpanlaw25.ReplayNone'. -/
def replayNoneUptoCard : Claim7 := { stood := { row := replayNoneUptoRow, standIns := [], harness := (true, "adb90a376e7bc432af0d79f1d044f7d3eec6e84f4cfaa67617eee1e7dd2f29ba"), looks := false }, kinds := [], alts := [], laidByText := true, laidKinds := [.data, .data, .data], laidTests := true, laidLooks := .later }
def ReplayNoneUptoCardSaid : Prop := Claim7.holds Tryz.pinned (.plain (OpenSpec.upto replayNoneSpec)) replayNoneUptoCard
end Rows
end Go.Proofs.YtkjplkkjdlanhaaGreatDoor
