/-
  DERIVED. GIVEN WITH THE SEED: THE CARDS: each row of YtmodipglnngghadGreatDoorRows.lean that lists a variable, with what it lists TIED to the program's text (the seventh form; the later family's looks); each row that meets fmt, with fmt's text TOLD by the authors' own Lean function (tested against real Go, not proved from fmt's source: count such statements apart). THE CARD IS WHAT COUNTS. Prove the row's statement (the work); the ties are given (YtmodipglnngghadGreatDoorTie.lean); close each card by the builder's one call (the guide's Derived/Test/ToyasCard.lean, 'card_holds'). Laid BY PROGRAM, IN A SANDBOX (cutbox-door.mjs). By AI agents, Wed Nov 11 2026. No macro, syntax, notation, axiom, sorry.
-/
import Derived.Test.YtmodipglnngghadGreatDoorRows
import GoSem.ClaimSeven
namespace Go.Proofs.YtmodipglnngghadGreatDoor
namespace Rows

/-- THE TIED CARD OF 'latchworklaw.RestModels'. -/
def restModelsCard : Claim7 := { stood := { row := restModelsRow, standIns := [], harness := (true, "fefc58e434a856cbdc7e146de0c14d465a677a357d0d3489ed4067945ff32dec"), looks := true }, kinds := [], alts := [], laidByText := true, laidKinds := [.data, .data, .data, .data, .sentinel, .sentinel, .widerDeep, .pinned], laidTests := true, laidLooks := .later }
def RestModelsCardSaid : Prop := Claim7.holds Tryz.pinned (.plain (OpenSpec.ofChange restModelsSpec)) restModelsCard

/-- THE SECOND FORM's CARD OF 'latchworklaw.RestModels'. -/
def restModelsUptoCard : Claim7 := { stood := { row := restModelsUptoRow, standIns := [], harness := (true, "fefc58e434a856cbdc7e146de0c14d465a677a357d0d3489ed4067945ff32dec"), looks := true }, kinds := [], alts := [], laidByText := true, laidKinds := [.data, .data, .data, .data, .sentinel, .sentinel, .widerDeep, .pinned], laidTests := true, laidLooks := .later }
def RestModelsUptoCardSaid : Prop := Claim7.holds Tryz.pinned (.plain (OpenSpec.upto restModelsSpec)) restModelsUptoCard
end Rows
end Go.Proofs.YtmodipglnngghadGreatDoor
