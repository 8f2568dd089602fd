/-
  DERIVED. GIVEN WITH THE SEED: THE CARDS: each row of YtcopkhhgcgfelaaDoorRows.lean that lists a variable, with what it lists TIED to the program's text (the seventh form; the later family's looks); each row that meets fmt, with fmt's text TOLD by the authors' own Lean function (tested against real Go, not proved from fmt's source: count such statements apart). THE CARD IS WHAT COUNTS. Prove the row's statement (the work); the ties are given (YtcopkhhgcgfelaaDoorTie.lean); close each card by the builder's one call (the guide's Derived/Test/ToyasCard.lean, 'card_holds'). Laid BY PROGRAM, IN A SANDBOX (cutbox-door.mjs). By AI agents, Wed Nov 11 2026. No macro, syntax, notation, axiom, sorry.
-/
import Derived.Test.YtcopkhhgcgfelaaDoorRows
import GoSem.ClaimSeven
namespace Go.Proofs.YtcopkhhgcgfelaaDoor
namespace Rows

/-- THE TIED CARD OF 'dustpanlaw26.StatsLongest'. -/
def statsLongestCard : Claim7 := { stood := { row := statsLongestRow, standIns := [], harness := (true, "646cf35293002ced11569e601452cb0d154a66ee944ff0ed81d34ee6a73c8bd7"), looks := false }, kinds := [], alts := [], laidByText := true, laidKinds := [.data, .data, .data], laidTests := true, laidLooks := .later }
def StatsLongestCardSaid : Prop := Claim7.holds Tryd.pinned (.plain (OpenSpec.ofChange statsLongestSpec)) statsLongestCard

/-- THE TIED CARD OF 'dustpanlaw26.StatsCycles'. -/
def statsCyclesCard : Claim7 := { stood := { row := statsCyclesRow, standIns := [], harness := (true, "646cf35293002ced11569e601452cb0d154a66ee944ff0ed81d34ee6a73c8bd7"), looks := false }, kinds := [], alts := [], laidByText := true, laidKinds := [.data, .data, .data], laidTests := true, laidLooks := .later }
def StatsCyclesCardSaid : Prop := Claim7.holds Tryd.pinned (.plain (OpenSpec.ofChange statsCyclesSpec)) statsCyclesCard

/-- THE TIED CARD OF 'dustpanlaw26.StatsTotals'. -/
def statsTotalsCard : Claim7 := { stood := { row := statsTotalsRow, standIns := [], harness := (true, "646cf35293002ced11569e601452cb0d154a66ee944ff0ed81d34ee6a73c8bd7"), looks := false }, kinds := [], alts := [], laidByText := true, laidKinds := [.data, .data, .data], laidTests := true, laidLooks := .later }
def StatsTotalsCardSaid : Prop := Claim7.holds Tryd.pinned (.plain (OpenSpec.ofChange statsTotalsSpec)) statsTotalsCard

/-- THE TIED CARD OF 'dustpanlaw26.StatsAdds'. -/
def statsAddsCard : Claim7 := { stood := { row := statsAddsRow, standIns := [], harness := (true, "646cf35293002ced11569e601452cb0d154a66ee944ff0ed81d34ee6a73c8bd7"), looks := false }, kinds := [], alts := [], laidByText := true, laidKinds := [.data, .data, .data], laidTests := true, laidLooks := .later }
def StatsAddsCardSaid : Prop := Claim7.holds Tryd.pinned (.plain (OpenSpec.ofChange statsAddsSpec)) statsAddsCard

/-- THE SECOND FORM's CARD OF 'dustpanlaw26.StatsLongest'. -/
def statsLongestUptoCard : Claim7 := { stood := { row := statsLongestUptoRow, standIns := [], harness := (true, "646cf35293002ced11569e601452cb0d154a66ee944ff0ed81d34ee6a73c8bd7"), looks := false }, kinds := [], alts := [], laidByText := true, laidKinds := [.data, .data, .data], laidTests := true, laidLooks := .later }
def StatsLongestUptoCardSaid : Prop := Claim7.holds Tryd.pinned (.plain (OpenSpec.upto statsLongestSpec)) statsLongestUptoCard

/-- THE SECOND FORM's CARD OF 'dustpanlaw26.StatsCycles'. -/
def statsCyclesUptoCard : Claim7 := { stood := { row := statsCyclesUptoRow, standIns := [], harness := (true, "646cf35293002ced11569e601452cb0d154a66ee944ff0ed81d34ee6a73c8bd7"), looks := false }, kinds := [], alts := [], laidByText := true, laidKinds := [.data, .data, .data], laidTests := true, laidLooks := .later }
def StatsCyclesUptoCardSaid : Prop := Claim7.holds Tryd.pinned (.plain (OpenSpec.upto statsCyclesSpec)) statsCyclesUptoCard

/-- THE SECOND FORM's CARD OF 'dustpanlaw26.StatsTotals'. -/
def statsTotalsUptoCard : Claim7 := { stood := { row := statsTotalsUptoRow, standIns := [], harness := (true, "646cf35293002ced11569e601452cb0d154a66ee944ff0ed81d34ee6a73c8bd7"), looks := false }, kinds := [], alts := [], laidByText := true, laidKinds := [.data, .data, .data], laidTests := true, laidLooks := .later }
def StatsTotalsUptoCardSaid : Prop := Claim7.holds Tryd.pinned (.plain (OpenSpec.upto statsTotalsSpec)) statsTotalsUptoCard

/-- THE SECOND FORM's CARD OF 'dustpanlaw26.StatsAdds'. -/
def statsAddsUptoCard : Claim7 := { stood := { row := statsAddsUptoRow, standIns := [], harness := (true, "646cf35293002ced11569e601452cb0d154a66ee944ff0ed81d34ee6a73c8bd7"), looks := false }, kinds := [], alts := [], laidByText := true, laidKinds := [.data, .data, .data], laidTests := true, laidLooks := .later }
def StatsAddsUptoCardSaid : Prop := Claim7.holds Tryd.pinned (.plain (OpenSpec.upto statsAddsSpec)) statsAddsUptoCard
end Rows
end Go.Proofs.YtcopkhhgcgfelaaDoor
