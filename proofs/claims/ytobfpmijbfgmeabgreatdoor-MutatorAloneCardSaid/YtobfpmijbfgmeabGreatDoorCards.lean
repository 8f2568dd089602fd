/-
  DERIVED. GIVEN WITH THE SEED: THE CARDS: each row of YtobfpmijbfgmeabGreatDoorRows.lean that lists a variable, with what it lists TIED to the program's text (the seventh form; the later family's looks); each row that meets fmt, with fmt's text TOLD by the authors' own Lean function (tested against real Go, not proved from fmt's source: count such statements apart). THE CARD IS WHAT COUNTS. Prove the row's statement (the work); the ties are given (YtobfpmijbfgmeabGreatDoorTie.lean); close each card by the builder's one call (the guide's Derived/Test/ToyasCard.lean, 'card_holds'). Laid BY PROGRAM, IN A SANDBOX (cutbox-door.mjs). By AI agents, Wed Nov 11 2026. No macro, syntax, notation, axiom, sorry.
-/
import Derived.Test.YtobfpmijbfgmeabGreatDoorRows
import GoSem.ClaimSeven
namespace Go.Proofs.YtobfpmijbfgmeabGreatDoor
namespace Rows

/-- THE TIED CARD OF 'dustpanlaw20.MutatorAlone'. -/
def mutatorAloneCard : Claim7 := { stood := { row := mutatorAloneRow, standIns := [], harness := (true, "3fa365ea722a6ad60937ee58947eddfb8b24a2214320b83c652d36740fdcdca8"), looks := false }, kinds := [], alts := [], laidByText := true, laidKinds := [.data, .data, .data, .data], laidTests := true, laidLooks := .later }
def MutatorAloneCardSaid : Prop := Claim7.holds Tryz.pinned (.plain (OpenSpec.ofChange mutatorAloneSpec)) mutatorAloneCard

/-- THE SECOND FORM's CARD OF 'dustpanlaw20.MutatorAlone'. -/
def mutatorAloneUptoCard : Claim7 := { stood := { row := mutatorAloneUptoRow, standIns := [], harness := (true, "3fa365ea722a6ad60937ee58947eddfb8b24a2214320b83c652d36740fdcdca8"), looks := false }, kinds := [], alts := [], laidByText := true, laidKinds := [.data, .data, .data, .data], laidTests := true, laidLooks := .later }
def MutatorAloneUptoCardSaid : Prop := Claim7.holds Tryz.pinned (.plain (OpenSpec.upto mutatorAloneSpec)) mutatorAloneUptoCard
end Rows
end Go.Proofs.YtobfpmijbfgmeabGreatDoor
