/-
  DERIVED. GIVEN WITH THE SEED: THE CARDS: each row of YtmodipglnngghabGreatDoorRows.lean that lists a variable, with what it lists TIED to the program's text (the seventh form; the later family's looks); each row that meets fmt, with fmt's text TOLD by the authors' own Lean function (tested against real Go, not proved from fmt's source: count such statements apart). THE CARD IS WHAT COUNTS. Prove the row's statement (the work); the ties are given (YtmodipglnngghabGreatDoorTie.lean); close each card by the builder's one call (the guide's Derived/Test/ToyasCard.lean, 'card_holds'). Laid BY PROGRAM, IN A SANDBOX (cutbox-door.mjs). By AI agents, Wed Nov 11 2026. No macro, syntax, notation, axiom, sorry.
-/
import Derived.Test.YtmodipglnngghabGreatDoorRows
import GoSem.ClaimSeven
namespace Go.Proofs.YtmodipglnngghabGreatDoor
namespace Rows

/-- THE TIED CARD OF 'latchworklaw.DecideTexts'. -/
def decideTextsCard : Claim7 := { stood := { row := decideTextsRow, standIns := [], harness := (true, "878f659ba4d6c8b1054874f159582ad1562b2517e53a50de542157efcf8e9d47"), looks := true }, kinds := [], alts := [], laidByText := true, laidKinds := [.data, .data, .data, .data, .sentinel, .sentinel, .widerDeep, .pinned], laidTests := true, laidLooks := .later }
def DecideTextsCardSaid : Prop := Claim7.holds Tryz.pinned (.plain (OpenSpec.ofChange decideTextsSpec)) decideTextsCard

/-- THE SECOND FORM's CARD OF 'latchworklaw.DecideTexts'. -/
def decideTextsUptoCard : Claim7 := { stood := { row := decideTextsUptoRow, standIns := [], harness := (true, "878f659ba4d6c8b1054874f159582ad1562b2517e53a50de542157efcf8e9d47"), looks := true }, kinds := [], alts := [], laidByText := true, laidKinds := [.data, .data, .data, .data, .sentinel, .sentinel, .widerDeep, .pinned], laidTests := true, laidLooks := .later }
def DecideTextsUptoCardSaid : Prop := Claim7.holds Tryz.pinned (.plain (OpenSpec.upto decideTextsSpec)) decideTextsUptoCard
end Rows
end Go.Proofs.YtmodipglnngghabGreatDoor
