/-
  No cell of these rows narrows 'for every input' (looked for: loops, veiled, ifaces, maps, wideKeys, modest, calm, conditions, laid).
  DERIVED. THE GIVEN ROWS OF THIS SEAT. 3 by the template 'for every input the law returns true; each argument reads behind the call as it read before'; 0 by the template 'total and deterministic' (their statements: YtmodipglnngghadGreatTotals.lean).
  GIVEN WITH THE SEED: the statements are not yours to turn. If you find one false, say at which input.
  Laid BY PROGRAM, IN A SANDBOX (cutbox-rows.mjs): the forced cells as the released guide's own fill.sh prints them over the translation 8e3d8f2abcb1423c… (all of the seat's roots in one cut). By AI agents, Wed Nov 11 2026. No macro, syntax, notation, axiom, sorry.
-/
import Derived.Test.YtmodipglnngghadGreatChecked
import GoSem.Claim
import GoSem.ClaimJoined
import GoSem.ClaimMapViews
import Derived.JoinedTies
import Derived.KernelRfl
namespace Go.Proofs.YtmodipglnngghadGreat
/- THE CELL 'sum', in the pinned program and in every row, IS THE sha256 OF THE DUMP (.gsa) THAT YtmodipglnngghadGreatProg.lean LOADS. Nothing in Lean hashes anything: it is a label: what it is worth is what the hold of that sum in a sandbox is worth. -/
noncomputable def Tryz.pinned : Pinned := { name := "ytmodipglnngghadgreat", sum := "8e3d8f2abcb1423c8c902bb941ab3c99832d1136b02087020e22fe91446a593f", checked := Tryz.checked }
namespace Rows
def none {H : Type} : Left H := { results := [], args := [] }

/-- 'latchworklaw.ProveDifferents': WHATEVER THE INPUT: true; the input reads as it did. -/
def proveDifferentsSpec : ChangeSpec := { name := "proveDifferents", fn := fun _ => fun
  | [d1, d2] => { results := [.lit (.bool true)], args := [d1, d2] }
  | _ => none }
def proveDifferentsRow : OpenClaim := { program := "ytmodipglnngghadgreat", sum := "8e3d8f2abcb1423c8c902bb941ab3c99832d1136b02087020e22fe91446a593f", func := "latchwork/latchworklaw.ProveDifferents", spec := "proveDifferents", unfollowed := true, recurses := true, plainKeys := false, apart := false }
def ProveDifferentsSaid : Prop := proveDifferentsRow.holds Tryz.pinned (OpenSpec.ofChange proveDifferentsSpec)

/-- ITS FALSE NEIGHBOUR: 'it returns false'. Refute it at one input. -/
def proveDifferentsWrong : ChangeSpec := { name := "proveDifferents", fn := fun _ => fun
  | [d1, d2] => { results := [.lit (.bool false)], args := [d1, d2] }
  | _ => none }
def ProveDifferentsWrongFalsely : Prop := proveDifferentsRow.holds Tryz.pinned (OpenSpec.ofChange proveDifferentsWrong)

/-- 'latchworklaw.RestSearches': WHATEVER THE INPUT: true; the input reads as it did. -/
def restSearchesSpec : ChangeSpec := { name := "restSearches", fn := fun _ => fun
  | [d1, d2, d3, d4] => { results := [.lit (.bool true)], args := [d1, d2, d3, d4] }
  | _ => none }
def restSearchesRow : OpenClaim := { program := "ytmodipglnngghadgreat", sum := "8e3d8f2abcb1423c8c902bb941ab3c99832d1136b02087020e22fe91446a593f", func := "latchwork/latchworklaw.RestSearches", spec := "restSearches", unfollowed := true, recurses := true, plainKeys := false, apart := false }
def RestSearchesSaid : Prop := restSearchesRow.holds Tryz.pinned (OpenSpec.ofChange restSearchesSpec)

/-- ITS FALSE NEIGHBOUR: 'it returns false'. Refute it at one input. -/
def restSearchesWrong : ChangeSpec := { name := "restSearches", fn := fun _ => fun
  | [d1, d2, d3, d4] => { results := [.lit (.bool false)], args := [d1, d2, d3, d4] }
  | _ => none }
def RestSearchesWrongFalsely : Prop := restSearchesRow.holds Tryz.pinned (OpenSpec.ofChange restSearchesWrong)

/-- 'latchworklaw.ProveTrue': WHATEVER THE INPUT: true; the input reads as it did. -/
def proveTrueSpec : ChangeSpec := { name := "proveTrue", fn := fun _ => fun
  | [d1, d2, d3, d4] => { results := [.lit (.bool true)], args := [d1, d2, d3, d4] }
  | _ => none }
def proveTrueRow : OpenClaim := { program := "ytmodipglnngghadgreat", sum := "8e3d8f2abcb1423c8c902bb941ab3c99832d1136b02087020e22fe91446a593f", func := "latchwork/latchworklaw.ProveTrue", spec := "proveTrue", unfollowed := true, recurses := true, plainKeys := false, apart := false }
def ProveTrueSaid : Prop := proveTrueRow.holds Tryz.pinned (OpenSpec.ofChange proveTrueSpec)

/-- ITS FALSE NEIGHBOUR: 'it returns false'. Refute it at one input. -/
def proveTrueWrong : ChangeSpec := { name := "proveTrue", fn := fun _ => fun
  | [d1, d2, d3, d4] => { results := [.lit (.bool false)], args := [d1, d2, d3, d4] }
  | _ => none }
def ProveTrueWrongFalsely : Prop := proveTrueRow.holds Tryz.pinned (OpenSpec.ofChange proveTrueWrong)

/- THE SECOND FORM. 'bulk': how many values and letters a reading holds, each counted each time it is reached (what is shared counts as often as it is met; a slice's spare places count too). A statement '..UptoSaid' is the law's where the arguments, and the package variables that the reading takes, are together of bulk at most 1048576: NARROWER than '..Said'. Prove '..Said' where nothing that the law and all that it calls make is longer than what came in: it says more and counts as full. Else prove '..UptoSaid'. A law counts once. -/
mutual
def uptoBulk {H : Type} : DataW H → Nat
  | .lit (.string bytes) => bytes.length + 1
  | .lit _ => 1
  | .nil => 1
  | .ptr d => uptoBulk d + 1
  | .slice elems spare => uptoBulkAll elems + uptoBulkAll spare + 1
  | .agg parts => uptoBulkAll parts + 1
  | .iface _ d => uptoBulk d + 1
  | .map entries => uptoBulkEntries entries + 1
  | .held _ => 1
def uptoBulkAll {H : Type} : List (DataW H) → Nat
  | [] => 0
  | d :: r => uptoBulk d + uptoBulkAll r
def uptoBulkEntries {H : Type} : List (Lit × DataW H) → Nat
  | [] => 0
  | x :: r => uptoBulkEntry x + uptoBulkEntries r
def uptoBulkEntry {H : Type} : Lit × DataW H → Nat
  | (.string bytes, d) => bytes.length + uptoBulk d + 1
  | (_, d) => uptoBulk d + 1
 end
def uptoSmall : (H : Type) → List (DataW H) → Bool := fun _ ds => decide (uptoBulkAll ds ≤ 1048576)
def OpenSpec.upto (s : _root_.Go.ChangeSpec) : _root_.Go.OpenSpec := { _root_.Go.OpenSpec.ofChange s with cond := some uptoSmall }

/-- 'latchworklaw.ProveDifferents', WHERE WHAT IT READS IS OF BULK AT MOST 1048576: true; the input reads as it did. -/
def proveDifferentsUptoRow : OpenClaim := { program := "ytmodipglnngghadgreat", sum := "8e3d8f2abcb1423c8c902bb941ab3c99832d1136b02087020e22fe91446a593f", func := "latchwork/latchworklaw.ProveDifferents", spec := "proveDifferents", unfollowed := true, recurses := true, plainKeys := false, apart := false, narrowed := true }
def ProveDifferentsUptoSaid : Prop := proveDifferentsUptoRow.holds Tryz.pinned (OpenSpec.upto proveDifferentsSpec)

/-- 'latchworklaw.RestSearches', WHERE WHAT IT READS IS OF BULK AT MOST 1048576: true; the input reads as it did. -/
def restSearchesUptoRow : OpenClaim := { program := "ytmodipglnngghadgreat", sum := "8e3d8f2abcb1423c8c902bb941ab3c99832d1136b02087020e22fe91446a593f", func := "latchwork/latchworklaw.RestSearches", spec := "restSearches", unfollowed := true, recurses := true, plainKeys := false, apart := false, narrowed := true }
def RestSearchesUptoSaid : Prop := restSearchesUptoRow.holds Tryz.pinned (OpenSpec.upto restSearchesSpec)

/-- 'latchworklaw.ProveTrue', WHERE WHAT IT READS IS OF BULK AT MOST 1048576: true; the input reads as it did. -/
def proveTrueUptoRow : OpenClaim := { program := "ytmodipglnngghadgreat", sum := "8e3d8f2abcb1423c8c902bb941ab3c99832d1136b02087020e22fe91446a593f", func := "latchwork/latchworklaw.ProveTrue", spec := "proveTrue", unfollowed := true, recurses := true, plainKeys := false, apart := false, narrowed := true }
def ProveTrueUptoSaid : Prop := proveTrueUptoRow.holds Tryz.pinned (OpenSpec.upto proveTrueSpec)

end Rows
end Go.Proofs.YtmodipglnngghadGreat
