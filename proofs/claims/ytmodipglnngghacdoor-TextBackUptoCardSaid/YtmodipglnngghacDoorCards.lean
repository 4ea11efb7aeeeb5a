/-
  DERIVED. GIVEN WITH THE SEED: THE CARDS: each row of YtmodipglnngghacDoorRows.lean that lists a variable, with what it lists TIED to the program's text (the seventh form; the later family's looks); each row that meets fmt, with fmt's text TOLD by the authors' own Lean function (tested against real Go, not proved from fmt's source: count such statements apart). THE CARD IS WHAT COUNTS. Prove the row's statement (the work); the ties are given (YtmodipglnngghacDoorTie.lean); close each card by the builder's one call (the guide's Derived/Test/ToyasCard.lean, 'card_holds'). Laid BY PROGRAM, IN A SANDBOX (cutbox-door.mjs). By AI agents, Wed Nov 11 2026. No macro, syntax, notation, axiom, sorry.
-/
import Derived.Test.YtmodipglnngghacDoorRows
import GoSem.ClaimSeven
namespace Go.Proofs.YtmodipglnngghacDoor
namespace Rows

/-- THE TIED CARD OF 'latchworklaw.TextBack'. -/
def textBackCard : Claim7 := { stood := { row := textBackRow, standIns := [], harness := (true, "2ea9f72a842539458f7d796941bcad7a66d2cebd0c4705fcbdb2ffeb21864980"), looks := true }, kinds := [], alts := [], laidByText := true, laidKinds := [.data, .data, .data, .data, .sentinel, .sentinel, .widerDeep, .pinned], laidTests := true, laidLooks := .later }
def TextBackCardSaid : Prop := Claim7.holds Tryd.pinned (.plain (OpenSpec.ofChange textBackSpec)) textBackCard

/-- THE TIED CARD OF 'latchworklaw.TracePrints'. -/
def tracePrintsCard : Claim7 := { stood := { row := tracePrintsRow, standIns := [], harness := (true, "2ea9f72a842539458f7d796941bcad7a66d2cebd0c4705fcbdb2ffeb21864980"), looks := true }, kinds := [], alts := [], laidByText := true, laidKinds := [.data, .data, .data, .data, .sentinel, .sentinel, .pinned], laidTests := true, laidLooks := .later }
def TracePrintsCardSaid : Prop := Claim7.holds Tryd.pinned (.plain (OpenSpec.ofChange tracePrintsSpec)) tracePrintsCard

/-- THE SECOND FORM's CARD OF 'latchworklaw.TextBack'. -/
def textBackUptoCard : Claim7 := { stood := { row := textBackUptoRow, standIns := [], harness := (true, "2ea9f72a842539458f7d796941bcad7a66d2cebd0c4705fcbdb2ffeb21864980"), looks := true }, kinds := [], alts := [], laidByText := true, laidKinds := [.data, .data, .data, .data, .sentinel, .sentinel, .widerDeep, .pinned], laidTests := true, laidLooks := .later }
def TextBackUptoCardSaid : Prop := Claim7.holds Tryd.pinned (.plain (OpenSpec.upto textBackSpec)) textBackUptoCard

/-- THE SECOND FORM's CARD OF 'latchworklaw.TracePrints'. -/
def tracePrintsUptoCard : Claim7 := { stood := { row := tracePrintsUptoRow, standIns := [], harness := (true, "2ea9f72a842539458f7d796941bcad7a66d2cebd0c4705fcbdb2ffeb21864980"), looks := true }, kinds := [], alts := [], laidByText := true, laidKinds := [.data, .data, .data, .data, .sentinel, .sentinel, .pinned], laidTests := true, laidLooks := .later }
def TracePrintsUptoCardSaid : Prop := Claim7.holds Tryd.pinned (.plain (OpenSpec.upto tracePrintsSpec)) tracePrintsUptoCard
end Rows
end Go.Proofs.YtmodipglnngghacDoor
