/-
  DERIVED. GIVEN WITH THE SEED: THE CARDS: each row of YtmodipglnngghacGreatDoorRows.lean that lists a variable, with what it lists TIED to the program's text (the seventh form; the later family's looks); each row that meets fmt, with fmt's text TOLD by the authors' own Lean function (tested against real Go, not proved from fmt's source: count such statements apart). THE CARD IS WHAT COUNTS. Prove the row's statement (the work); the ties are given (YtmodipglnngghacGreatDoorTie.lean); close each card by the builder's one call (the guide's Derived/Test/ToyasCard.lean, 'card_holds'). Laid BY PROGRAM, IN A SANDBOX (cutbox-door.mjs). By AI agents, Wed Nov 11 2026. No macro, syntax, notation, axiom, sorry.
-/
import Derived.Test.YtmodipglnngghacGreatDoorRows
import GoSem.ClaimSeven
namespace Go.Proofs.YtmodipglnngghacGreatDoor
namespace Rows

/-- THE TIED CARD OF 'latchworklaw.TextPrints'. -/
def textPrintsCard : Claim7 := { stood := { row := textPrintsRow, standIns := [], harness := (true, "93c23cfcbb9e8bca3342a618ca2e274428aea10cdfb6cd8bf072d0647a75d277"), looks := true }, kinds := [], alts := [], laidByText := true, laidKinds := [.data, .data, .data, .data, .sentinel, .sentinel, .widerDeep, .pinned], laidTests := true, laidLooks := .later }
def TextPrintsCardSaid : Prop := Claim7.holds Tryz.pinned (.plain (OpenSpec.ofChange textPrintsSpec)) textPrintsCard

/-- THE TIED CARD OF 'latchworklaw.TextParses'. -/
def textParsesCard : Claim7 := { stood := { row := textParsesRow, standIns := [], harness := (true, "93c23cfcbb9e8bca3342a618ca2e274428aea10cdfb6cd8bf072d0647a75d277"), looks := true }, kinds := [], alts := [], laidByText := true, laidKinds := [.data, .data, .data, .data, .sentinel, .sentinel, .widerDeep, .pinned], laidTests := true, laidLooks := .later }
def TextParsesCardSaid : Prop := Claim7.holds Tryz.pinned (.plain (OpenSpec.ofChange textParsesSpec)) textParsesCard

/-- THE TIED CARD OF 'latchworklaw.TraceParses'. -/
def traceParsesCard : Claim7 := { stood := { row := traceParsesRow, standIns := [], harness := (true, "93c23cfcbb9e8bca3342a618ca2e274428aea10cdfb6cd8bf072d0647a75d277"), looks := true }, kinds := [], alts := [], laidByText := true, laidKinds := [.data, .data, .data, .data, .sentinel, .sentinel, .pinned], laidTests := true, laidLooks := .later }
def TraceParsesCardSaid : Prop := Claim7.holds Tryz.pinned (.plain (OpenSpec.ofChange traceParsesSpec)) traceParsesCard

/-- THE TIED CARD OF 'latchworklaw.TracePlays'. -/
def tracePlaysCard : Claim7 := { stood := { row := tracePlaysRow, standIns := [], harness := (true, "93c23cfcbb9e8bca3342a618ca2e274428aea10cdfb6cd8bf072d0647a75d277"), looks := true }, kinds := [], alts := [], laidByText := true, laidKinds := [.data, .data, .data, .data, .sentinel, .sentinel, .pinned], laidTests := true, laidLooks := .later }
def TracePlaysCardSaid : Prop := Claim7.holds Tryz.pinned (.plain (OpenSpec.ofChange tracePlaysSpec)) tracePlaysCard

/-- THE TIED CARD OF 'latchworklaw.ExploreFinds'. -/
def exploreFindsCard : Claim7 := { stood := { row := exploreFindsRow, standIns := [], harness := (true, "93c23cfcbb9e8bca3342a618ca2e274428aea10cdfb6cd8bf072d0647a75d277"), looks := true }, kinds := [], alts := [], laidByText := true, laidKinds := [.data, .data, .data, .data, .sentinel, .sentinel, .pinned], laidTests := true, laidLooks := .later }
def ExploreFindsCardSaid : Prop := Claim7.holds Tryz.pinned (.plain (OpenSpec.ofChange exploreFindsSpec)) exploreFindsCard

/-- THE SECOND FORM's CARD OF 'latchworklaw.TextPrints'. -/
def textPrintsUptoCard : Claim7 := { stood := { row := textPrintsUptoRow, standIns := [], harness := (true, "93c23cfcbb9e8bca3342a618ca2e274428aea10cdfb6cd8bf072d0647a75d277"), looks := true }, kinds := [], alts := [], laidByText := true, laidKinds := [.data, .data, .data, .data, .sentinel, .sentinel, .widerDeep, .pinned], laidTests := true, laidLooks := .later }
def TextPrintsUptoCardSaid : Prop := Claim7.holds Tryz.pinned (.plain (OpenSpec.upto textPrintsSpec)) textPrintsUptoCard

/-- THE SECOND FORM's CARD OF 'latchworklaw.TextParses'. -/
def textParsesUptoCard : Claim7 := { stood := { row := textParsesUptoRow, standIns := [], harness := (true, "93c23cfcbb9e8bca3342a618ca2e274428aea10cdfb6cd8bf072d0647a75d277"), looks := true }, kinds := [], alts := [], laidByText := true, laidKinds := [.data, .data, .data, .data, .sentinel, .sentinel, .widerDeep, .pinned], laidTests := true, laidLooks := .later }
def TextParsesUptoCardSaid : Prop := Claim7.holds Tryz.pinned (.plain (OpenSpec.upto textParsesSpec)) textParsesUptoCard

/-- THE SECOND FORM's CARD OF 'latchworklaw.TraceParses'. -/
def traceParsesUptoCard : Claim7 := { stood := { row := traceParsesUptoRow, standIns := [], harness := (true, "93c23cfcbb9e8bca3342a618ca2e274428aea10cdfb6cd8bf072d0647a75d277"), looks := true }, kinds := [], alts := [], laidByText := true, laidKinds := [.data, .data, .data, .data, .sentinel, .sentinel, .pinned], laidTests := true, laidLooks := .later }
def TraceParsesUptoCardSaid : Prop := Claim7.holds Tryz.pinned (.plain (OpenSpec.upto traceParsesSpec)) traceParsesUptoCard

/-- THE SECOND FORM's CARD OF 'latchworklaw.TracePlays'. -/
def tracePlaysUptoCard : Claim7 := { stood := { row := tracePlaysUptoRow, standIns := [], harness := (true, "93c23cfcbb9e8bca3342a618ca2e274428aea10cdfb6cd8bf072d0647a75d277"), looks := true }, kinds := [], alts := [], laidByText := true, laidKinds := [.data, .data, .data, .data, .sentinel, .sentinel, .pinned], laidTests := true, laidLooks := .later }
def TracePlaysUptoCardSaid : Prop := Claim7.holds Tryz.pinned (.plain (OpenSpec.upto tracePlaysSpec)) tracePlaysUptoCard

/-- THE SECOND FORM's CARD OF 'latchworklaw.ExploreFinds'. -/
def exploreFindsUptoCard : Claim7 := { stood := { row := exploreFindsUptoRow, standIns := [], harness := (true, "93c23cfcbb9e8bca3342a618ca2e274428aea10cdfb6cd8bf072d0647a75d277"), looks := true }, kinds := [], alts := [], laidByText := true, laidKinds := [.data, .data, .data, .data, .sentinel, .sentinel, .pinned], laidTests := true, laidLooks := .later }
def ExploreFindsUptoCardSaid : Prop := Claim7.holds Tryz.pinned (.plain (OpenSpec.upto exploreFindsSpec)) exploreFindsUptoCard
end Rows
end Go.Proofs.YtmodipglnngghacGreatDoor
