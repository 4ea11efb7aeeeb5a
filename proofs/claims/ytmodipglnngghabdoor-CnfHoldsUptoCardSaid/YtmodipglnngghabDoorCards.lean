/-
  DERIVED. GIVEN WITH THE SEED: THE CARDS: each row of YtmodipglnngghabDoorRows.lean that lists a variable, with what it lists TIED to the program's text (the seventh form; the later family's looks); each row that meets fmt, with fmt's text TOLD by the authors' own Lean function (tested against real Go, not proved from fmt's source: count such statements apart). THE CARD IS WHAT COUNTS. Prove the row's statement (the work); the ties are given (YtmodipglnngghabDoorTie.lean); close each card by the builder's one call (the guide's Derived/Test/ToyasCard.lean, 'card_holds'). Laid BY PROGRAM, IN A SANDBOX (cutbox-door.mjs). By AI agents, Wed Nov 11 2026. No macro, syntax, notation, axiom, sorry.
-/
import Derived.Test.YtmodipglnngghabDoorRows
import GoSem.ClaimSeven
namespace Go.Proofs.YtmodipglnngghabDoor
namespace Rows

/-- THE TIED CARD OF 'latchworklaw.CnfHolds'. -/
def cnfHoldsCard : Claim7 := { stood := { row := cnfHoldsRow, standIns := [], harness := (true, "e83a57f3ceaa2b858bc53edb81b7fc161d391e7ae86fe1d4dbd3fd280fc2b138"), looks := false }, kinds := [], alts := [], laidByText := true, laidKinds := [.data, .data, .data], laidTests := true, laidLooks := .later }
def CnfHoldsCardSaid : Prop := Claim7.holds Tryd.pinned (.plain (OpenSpec.ofChange cnfHoldsSpec)) cnfHoldsCard

/-- THE SECOND FORM's CARD OF 'latchworklaw.CnfHolds'. -/
def cnfHoldsUptoCard : Claim7 := { stood := { row := cnfHoldsUptoRow, standIns := [], harness := (true, "e83a57f3ceaa2b858bc53edb81b7fc161d391e7ae86fe1d4dbd3fd280fc2b138"), looks := false }, kinds := [], alts := [], laidByText := true, laidKinds := [.data, .data, .data], laidTests := true, laidLooks := .later }
def CnfHoldsUptoCardSaid : Prop := Claim7.holds Tryd.pinned (.plain (OpenSpec.upto cnfHoldsSpec)) cnfHoldsUptoCard
end Rows
end Go.Proofs.YtmodipglnngghabDoor
