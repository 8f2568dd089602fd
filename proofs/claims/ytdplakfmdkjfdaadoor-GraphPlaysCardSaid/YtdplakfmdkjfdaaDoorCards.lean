/-
  DERIVED. GIVEN WITH THE SEED: THE CARDS: each row of YtdplakfmdkjfdaaDoorRows.lean that lists a variable, with what it lists TIED to the program's text (the seventh form; the later family's looks); each row that meets fmt, with fmt's text TOLD by the authors' own Lean function (tested against real Go, not proved from fmt's source: count such statements apart). THE CARD IS WHAT COUNTS. Prove the row's statement (the work); the ties are given (YtdplakfmdkjfdaaDoorTie.lean); close each card by the builder's one call (the guide's Derived/Test/ToyasCard.lean, 'card_holds'). Laid BY PROGRAM, IN A SANDBOX (cutbox-door.mjs). By AI agents, Wed Nov 11 2026. No macro, syntax, notation, axiom, sorry.
-/
import Derived.Test.YtdplakfmdkjfdaaDoorRows
import GoSem.ClaimSeven
namespace Go.Proofs.YtdplakfmdkjfdaaDoor
namespace Rows

/-- THE TIED CARD OF 'dustpanlaw18.GraphOwn'. -/
def graphOwnCard : Claim7 := { stood := { row := graphOwnRow, standIns := [], harness := (true, "013c17328a0c7afb90223bec95c5508692fd9ff257c8e00fbd84ada1a91a7d5f"), looks := true }, kinds := [], alts := [], laidByText := true, laidKinds := [.data, .data], laidTests := true, laidLooks := .later }
def GraphOwnCardSaid : Prop := Claim7.holds Tryd.pinned (.plain (OpenSpec.ofChange graphOwnSpec)) graphOwnCard

/-- THE TIED CARD OF 'dustpanlaw18.GraphErrors'. -/
def graphErrorsCard : Claim7 := { stood := { row := graphErrorsRow, standIns := [], harness := (true, "013c17328a0c7afb90223bec95c5508692fd9ff257c8e00fbd84ada1a91a7d5f"), looks := true }, kinds := [], alts := [], laidByText := true, laidKinds := [.data, .data], laidTests := true, laidLooks := .later }
def GraphErrorsCardSaid : Prop := Claim7.holds Tryd.pinned (.plain (OpenSpec.ofChange graphErrorsSpec)) graphErrorsCard

/-- THE TIED CARD OF 'dustpanlaw18.GraphReaches'. -/
def graphReachesCard : Claim7 := { stood := { row := graphReachesRow, standIns := [], harness := (true, "013c17328a0c7afb90223bec95c5508692fd9ff257c8e00fbd84ada1a91a7d5f"), looks := true }, kinds := [], alts := [], laidByText := true, laidKinds := [.data, .data], laidTests := true, laidLooks := .later }
def GraphReachesCardSaid : Prop := Claim7.holds Tryd.pinned (.plain (OpenSpec.ofChange graphReachesSpec)) graphReachesCard

/-- THE TIED CARD OF 'dustpanlaw18.GraphCopies'. -/
def graphCopiesCard : Claim7 := { stood := { row := graphCopiesRow, standIns := [], harness := (true, "013c17328a0c7afb90223bec95c5508692fd9ff257c8e00fbd84ada1a91a7d5f"), looks := true }, kinds := [], alts := [], laidByText := true, laidKinds := [.data, .data], laidTests := true, laidLooks := .later }
def GraphCopiesCardSaid : Prop := Claim7.holds Tryd.pinned (.plain (OpenSpec.ofChange graphCopiesSpec)) graphCopiesCard

/-- THE TIED CARD OF 'dustpanlaw18.GraphPlays'. -/
def graphPlaysCard : Claim7 := { stood := { row := graphPlaysRow, standIns := [], harness := (true, "013c17328a0c7afb90223bec95c5508692fd9ff257c8e00fbd84ada1a91a7d5f"), looks := true }, kinds := [], alts := [], laidByText := true, laidKinds := [.data, .data], laidTests := true, laidLooks := .later }
def GraphPlaysCardSaid : Prop := Claim7.holds Tryd.pinned (.plain (OpenSpec.ofChange graphPlaysSpec)) graphPlaysCard

/-- THE TIED CARD OF 'dustpanlaw18.GraphNone'. -/
def graphNoneCard : Claim7 := { stood := { row := graphNoneRow, standIns := [], harness := (true, "013c17328a0c7afb90223bec95c5508692fd9ff257c8e00fbd84ada1a91a7d5f"), looks := true }, kinds := [], alts := [], laidByText := true, laidKinds := [.data, .data], laidTests := true, laidLooks := .later }
def GraphNoneCardSaid : Prop := Claim7.holds Tryd.pinned (.plain (OpenSpec.ofChange graphNoneSpec)) graphNoneCard

/-- THE TIED CARD OF 'dustpanlaw17.OpParses'. -/
def opParsesCard : Claim7 := { stood := { row := opParsesRow, standIns := [], harness := (true, "013c17328a0c7afb90223bec95c5508692fd9ff257c8e00fbd84ada1a91a7d5f"), looks := true }, kinds := [], alts := [], laidByText := true, laidKinds := [.data, .data, .data, .data, .data, .sentinel, .sentinel, .data, .pinned], laidTests := true, laidLooks := .later }
def OpParsesCardSaid : Prop := Claim7.holds Tryd.pinned (.plain (OpenSpec.ofChange opParsesSpec)) opParsesCard

/-- THE TIED CARD OF 'dustpanlaw17.OpRegs'. -/
def opRegsCard : Claim7 := { stood := { row := opRegsRow, standIns := [], harness := (true, "013c17328a0c7afb90223bec95c5508692fd9ff257c8e00fbd84ada1a91a7d5f"), looks := true }, kinds := [], alts := [], laidByText := true, laidKinds := [.data, .data, .data, .data, .data, .sentinel, .sentinel, .data, .pinned], laidTests := true, laidLooks := .later }
def OpRegsCardSaid : Prop := Claim7.holds Tryd.pinned (.plain (OpenSpec.ofChange opRegsSpec)) opRegsCard

/-- THE TIED CARD OF 'dustpanlaw17.OpChecks'. -/
def opChecksCard : Claim7 := { stood := { row := opChecksRow, standIns := [], harness := (true, "013c17328a0c7afb90223bec95c5508692fd9ff257c8e00fbd84ada1a91a7d5f"), looks := true }, kinds := [], alts := [], laidByText := true, laidKinds := [.data, .data, .data, .data, .data, .sentinel, .sentinel, .data, .pinned], laidTests := true, laidLooks := .later }
def OpChecksCardSaid : Prop := Claim7.holds Tryd.pinned (.plain (OpenSpec.ofChange opChecksSpec)) opChecksCard

/-- THE TIED CARD OF 'dustpanlaw17.OpUses'. -/
def opUsesCard : Claim7 := { stood := { row := opUsesRow, standIns := [], harness := (true, "013c17328a0c7afb90223bec95c5508692fd9ff257c8e00fbd84ada1a91a7d5f"), looks := true }, kinds := [], alts := [], laidByText := true, laidKinds := [.data, .data, .data, .data, .data, .sentinel, .sentinel, .data, .pinned], laidTests := true, laidLooks := .later }
def OpUsesCardSaid : Prop := Claim7.holds Tryd.pinned (.plain (OpenSpec.ofChange opUsesSpec)) opUsesCard

/-- THE TIED CARD OF 'dustpanlaw17.OpLines'. -/
def opLinesCard : Claim7 := { stood := { row := opLinesRow, standIns := [], harness := (true, "013c17328a0c7afb90223bec95c5508692fd9ff257c8e00fbd84ada1a91a7d5f"), looks := true }, kinds := [], alts := [], laidByText := true, laidKinds := [.data, .data, .data, .data, .data, .sentinel, .sentinel, .data, .pinned], laidTests := true, laidLooks := .later }
def OpLinesCardSaid : Prop := Claim7.holds Tryd.pinned (.plain (OpenSpec.ofChange opLinesSpec)) opLinesCard

/-- THE SECOND FORM's CARD OF 'dustpanlaw18.GraphOwn'. -/
def graphOwnUptoCard : Claim7 := { stood := { row := graphOwnUptoRow, standIns := [], harness := (true, "013c17328a0c7afb90223bec95c5508692fd9ff257c8e00fbd84ada1a91a7d5f"), looks := true }, kinds := [], alts := [], laidByText := true, laidKinds := [.data, .data], laidTests := true, laidLooks := .later }
def GraphOwnUptoCardSaid : Prop := Claim7.holds Tryd.pinned (.plain (OpenSpec.upto graphOwnSpec)) graphOwnUptoCard

/-- THE SECOND FORM's CARD OF 'dustpanlaw18.GraphErrors'. -/
def graphErrorsUptoCard : Claim7 := { stood := { row := graphErrorsUptoRow, standIns := [], harness := (true, "013c17328a0c7afb90223bec95c5508692fd9ff257c8e00fbd84ada1a91a7d5f"), looks := true }, kinds := [], alts := [], laidByText := true, laidKinds := [.data, .data], laidTests := true, laidLooks := .later }
def GraphErrorsUptoCardSaid : Prop := Claim7.holds Tryd.pinned (.plain (OpenSpec.upto graphErrorsSpec)) graphErrorsUptoCard

/-- THE SECOND FORM's CARD OF 'dustpanlaw18.GraphReaches'. -/
def graphReachesUptoCard : Claim7 := { stood := { row := graphReachesUptoRow, standIns := [], harness := (true, "013c17328a0c7afb90223bec95c5508692fd9ff257c8e00fbd84ada1a91a7d5f"), looks := true }, kinds := [], alts := [], laidByText := true, laidKinds := [.data, .data], laidTests := true, laidLooks := .later }
def GraphReachesUptoCardSaid : Prop := Claim7.holds Tryd.pinned (.plain (OpenSpec.upto graphReachesSpec)) graphReachesUptoCard

/-- THE SECOND FORM's CARD OF 'dustpanlaw18.GraphCopies'. -/
def graphCopiesUptoCard : Claim7 := { stood := { row := graphCopiesUptoRow, standIns := [], harness := (true, "013c17328a0c7afb90223bec95c5508692fd9ff257c8e00fbd84ada1a91a7d5f"), looks := true }, kinds := [], alts := [], laidByText := true, laidKinds := [.data, .data], laidTests := true, laidLooks := .later }
def GraphCopiesUptoCardSaid : Prop := Claim7.holds Tryd.pinned (.plain (OpenSpec.upto graphCopiesSpec)) graphCopiesUptoCard

/-- THE SECOND FORM's CARD OF 'dustpanlaw18.GraphPlays'. -/
def graphPlaysUptoCard : Claim7 := { stood := { row := graphPlaysUptoRow, standIns := [], harness := (true, "013c17328a0c7afb90223bec95c5508692fd9ff257c8e00fbd84ada1a91a7d5f"), looks := true }, kinds := [], alts := [], laidByText := true, laidKinds := [.data, .data], laidTests := true, laidLooks := .later }
def GraphPlaysUptoCardSaid : Prop := Claim7.holds Tryd.pinned (.plain (OpenSpec.upto graphPlaysSpec)) graphPlaysUptoCard

/-- THE SECOND FORM's CARD OF 'dustpanlaw18.GraphNone'. -/
def graphNoneUptoCard : Claim7 := { stood := { row := graphNoneUptoRow, standIns := [], harness := (true, "013c17328a0c7afb90223bec95c5508692fd9ff257c8e00fbd84ada1a91a7d5f"), looks := true }, kinds := [], alts := [], laidByText := true, laidKinds := [.data, .data], laidTests := true, laidLooks := .later }
def GraphNoneUptoCardSaid : Prop := Claim7.holds Tryd.pinned (.plain (OpenSpec.upto graphNoneSpec)) graphNoneUptoCard

/-- THE SECOND FORM's CARD OF 'dustpanlaw17.OpParses'. -/
def opParsesUptoCard : Claim7 := { stood := { row := opParsesUptoRow, standIns := [], harness := (true, "013c17328a0c7afb90223bec95c5508692fd9ff257c8e00fbd84ada1a91a7d5f"), looks := true }, kinds := [], alts := [], laidByText := true, laidKinds := [.data, .data, .data, .data, .data, .sentinel, .sentinel, .data, .pinned], laidTests := true, laidLooks := .later }
def OpParsesUptoCardSaid : Prop := Claim7.holds Tryd.pinned (.plain (OpenSpec.upto opParsesSpec)) opParsesUptoCard

/-- THE SECOND FORM's CARD OF 'dustpanlaw17.OpRegs'. -/
def opRegsUptoCard : Claim7 := { stood := { row := opRegsUptoRow, standIns := [], harness := (true, "013c17328a0c7afb90223bec95c5508692fd9ff257c8e00fbd84ada1a91a7d5f"), looks := true }, kinds := [], alts := [], laidByText := true, laidKinds := [.data, .data, .data, .data, .data, .sentinel, .sentinel, .data, .pinned], laidTests := true, laidLooks := .later }
def OpRegsUptoCardSaid : Prop := Claim7.holds Tryd.pinned (.plain (OpenSpec.upto opRegsSpec)) opRegsUptoCard

/-- THE SECOND FORM's CARD OF 'dustpanlaw17.OpChecks'. -/
def opChecksUptoCard : Claim7 := { stood := { row := opChecksUptoRow, standIns := [], harness := (true, "013c17328a0c7afb90223bec95c5508692fd9ff257c8e00fbd84ada1a91a7d5f"), looks := true }, kinds := [], alts := [], laidByText := true, laidKinds := [.data, .data, .data, .data, .data, .sentinel, .sentinel, .data, .pinned], laidTests := true, laidLooks := .later }
def OpChecksUptoCardSaid : Prop := Claim7.holds Tryd.pinned (.plain (OpenSpec.upto opChecksSpec)) opChecksUptoCard

/-- THE SECOND FORM's CARD OF 'dustpanlaw17.OpUses'. -/
def opUsesUptoCard : Claim7 := { stood := { row := opUsesUptoRow, standIns := [], harness := (true, "013c17328a0c7afb90223bec95c5508692fd9ff257c8e00fbd84ada1a91a7d5f"), looks := true }, kinds := [], alts := [], laidByText := true, laidKinds := [.data, .data, .data, .data, .data, .sentinel, .sentinel, .data, .pinned], laidTests := true, laidLooks := .later }
def OpUsesUptoCardSaid : Prop := Claim7.holds Tryd.pinned (.plain (OpenSpec.upto opUsesSpec)) opUsesUptoCard

/-- THE SECOND FORM's CARD OF 'dustpanlaw17.OpLines'. -/
def opLinesUptoCard : Claim7 := { stood := { row := opLinesUptoRow, standIns := [], harness := (true, "013c17328a0c7afb90223bec95c5508692fd9ff257c8e00fbd84ada1a91a7d5f"), looks := true }, kinds := [], alts := [], laidByText := true, laidKinds := [.data, .data, .data, .data, .data, .sentinel, .sentinel, .data, .pinned], laidTests := true, laidLooks := .later }
def OpLinesUptoCardSaid : Prop := Claim7.holds Tryd.pinned (.plain (OpenSpec.upto opLinesSpec)) opLinesUptoCard
end Rows
end Go.Proofs.YtdplakfmdkjfdaaDoor
