/-
  No cell of these rows narrows 'for every input' (looked for: loops, veiled, ifaces, maps, wideKeys, modest, calm, conditions, laid).
  DERIVED. THE GIVEN ROWS OF THIS SEAT. 4 by the template 'for every input the law returns true; each argument reads behind the call as it read before'; 0 by the template 'total and deterministic' (their statements: YtmodipglnngghacGreatTotals.lean).
  GIVEN WITH THE SEED: the statements are not yours to turn. If you find one false, say at which input.
  Laid BY PROGRAM, IN A SANDBOX (cutbox-rows.mjs): the forced cells as the released guide's own fill.sh prints them over the translation 8755ba0c32ac7628… (all of the seat's roots in one cut). By AI agents, Wed Nov 11 2026. No macro, syntax, notation, axiom, sorry.
-/
import Derived.Test.YtmodipglnngghacGreatChecked
import GoSem.Claim
import GoSem.ClaimJoined
import GoSem.ClaimMapViews
import Derived.JoinedTies
import Derived.KernelRfl
namespace Go.Proofs.YtmodipglnngghacGreat
/- THE CELL 'sum', in the pinned program and in every row, IS THE sha256 OF THE DUMP (.gsa) THAT YtmodipglnngghacGreatProg.lean LOADS. Nothing in Lean hashes anything: it is a label: what it is worth is what the hold of that sum in a sandbox is worth. -/
noncomputable def Tryz.pinned : Pinned := { name := "ytmodipglnngghacgreat", sum := "8755ba0c32ac76280e4f20667698113cd17a42da99640d721b32e44ec3c05845", checked := Tryz.checked }
namespace Rows
def none {H : Type} : Left H := { results := [], args := [] }

/-- 'latchworklaw.UnrollFinds': WHATEVER THE INPUT: true; the input reads as it did. -/
def unrollFindsSpec : ChangeSpec := { name := "unrollFinds", fn := fun _ => fun
  | [d1, d2, d3] => { results := [.lit (.bool true)], args := [d1, d2, d3] }
  | _ => none }
def unrollFindsRow : OpenClaim := { program := "ytmodipglnngghacgreat", sum := "8755ba0c32ac76280e4f20667698113cd17a42da99640d721b32e44ec3c05845", func := "latchwork/latchworklaw.UnrollFinds", spec := "unrollFinds", unfollowed := true, recurses := true, plainKeys := false, apart := false }
def UnrollFindsSaid : Prop := unrollFindsRow.holds Tryz.pinned (OpenSpec.ofChange unrollFindsSpec)

/-- ITS FALSE NEIGHBOUR: 'it returns false'. Refute it at one input. -/
def unrollFindsWrong : ChangeSpec := { name := "unrollFinds", fn := fun _ => fun
  | [d1, d2, d3] => { results := [.lit (.bool false)], args := [d1, d2, d3] }
  | _ => none }
def UnrollFindsWrongFalsely : Prop := unrollFindsRow.holds Tryz.pinned (OpenSpec.ofChange unrollFindsWrong)

/-- 'latchworklaw.ProveProves': WHATEVER THE INPUT: true; the input reads as it did. -/
def proveProvesSpec : ChangeSpec := { name := "proveProves", fn := fun _ => fun
  | [d1, d2, d3] => { results := [.lit (.bool true)], args := [d1, d2, d3] }
  | _ => none }
def proveProvesRow : OpenClaim := { program := "ytmodipglnngghacgreat", sum := "8755ba0c32ac76280e4f20667698113cd17a42da99640d721b32e44ec3c05845", func := "latchwork/latchworklaw.ProveProves", spec := "proveProves", unfollowed := true, recurses := true, plainKeys := false, apart := false }
def ProveProvesSaid : Prop := proveProvesRow.holds Tryz.pinned (OpenSpec.ofChange proveProvesSpec)

/-- ITS FALSE NEIGHBOUR: 'it returns false'. Refute it at one input. -/
def proveProvesWrong : ChangeSpec := { name := "proveProves", fn := fun _ => fun
  | [d1, d2, d3] => { results := [.lit (.bool false)], args := [d1, d2, d3] }
  | _ => none }
def ProveProvesWrongFalsely : Prop := proveProvesRow.holds Tryz.pinned (OpenSpec.ofChange proveProvesWrong)

/-- 'latchworklaw.DecideDecides': WHATEVER THE INPUT: true; the input reads as it did. -/
def decideDecidesSpec : ChangeSpec := { name := "decideDecides", fn := fun _ => fun
  | [d1, d2, d3] => { results := [.lit (.bool true)], args := [d1, d2, d3] }
  | _ => none }
def decideDecidesRow : OpenClaim := { program := "ytmodipglnngghacgreat", sum := "8755ba0c32ac76280e4f20667698113cd17a42da99640d721b32e44ec3c05845", func := "latchwork/latchworklaw.DecideDecides", spec := "decideDecides", unfollowed := true, recurses := true, plainKeys := false, apart := false }
def DecideDecidesSaid : Prop := decideDecidesRow.holds Tryz.pinned (OpenSpec.ofChange decideDecidesSpec)

/-- ITS FALSE NEIGHBOUR: 'it returns false'. Refute it at one input. -/
def decideDecidesWrong : ChangeSpec := { name := "decideDecides", fn := fun _ => fun
  | [d1, d2, d3] => { results := [.lit (.bool false)], args := [d1, d2, d3] }
  | _ => none }
def DecideDecidesWrongFalsely : Prop := decideDecidesRow.holds Tryz.pinned (OpenSpec.ofChange decideDecidesWrong)

/-- 'latchworklaw.UnrollClauses': WHATEVER THE INPUT: true; the input reads as it did. -/
def unrollClausesSpec : ChangeSpec := { name := "unrollClauses", fn := fun _ => fun
  | [d1, d2, d3] => { results := [.lit (.bool true)], args := [d1, d2, d3] }
  | _ => none }
def unrollClausesRow : OpenClaim := { program := "ytmodipglnngghacgreat", sum := "8755ba0c32ac76280e4f20667698113cd17a42da99640d721b32e44ec3c05845", func := "latchwork/latchworklaw.UnrollClauses", spec := "unrollClauses", unfollowed := true, recurses := true, plainKeys := false, apart := false }
def UnrollClausesSaid : Prop := unrollClausesRow.holds Tryz.pinned (OpenSpec.ofChange unrollClausesSpec)

/-- ITS FALSE NEIGHBOUR: 'it returns false'. Refute it at one input. -/
def unrollClausesWrong : ChangeSpec := { name := "unrollClauses", fn := fun _ => fun
  | [d1, d2, d3] => { results := [.lit (.bool false)], args := [d1, d2, d3] }
  | _ => none }
def UnrollClausesWrongFalsely : Prop := unrollClausesRow.holds Tryz.pinned (OpenSpec.ofChange unrollClausesWrong)

/- THE SECOND FORM. 'bulk': how many values and letters a reading holds, each counted each time it is reached (what is shared counts as often as it is met; a slice's spare places count too). A statement '..UptoSaid' is the law's where the arguments, and the package variables that the reading takes, are together of bulk at most 1048576: NARROWER than '..Said'. Prove '..Said' where nothing that the law and all that it calls make is longer than what came in: it says more and counts as full. Else prove '..UptoSaid'. A law counts once. -/
mutual
def uptoBulk {H : Type} : DataW H → Nat
  | .lit (.string bytes) => bytes.length + 1
  | .lit _ => 1
  | .nil => 1
  | .ptr d => uptoBulk d + 1
  | .slice elems spare => uptoBulkAll elems + uptoBulkAll spare + 1
  | .agg parts => uptoBulkAll parts + 1
  | .iface _ d => uptoBulk d + 1
  | .map entries => uptoBulkEntries entries + 1
  | .held _ => 1
def uptoBulkAll {H : Type} : List (DataW H) → Nat
  | [] => 0
  | d :: r => uptoBulk d + uptoBulkAll r
def uptoBulkEntries {H : Type} : List (Lit × DataW H) → Nat
  | [] => 0
  | x :: r => uptoBulkEntry x + uptoBulkEntries r
def uptoBulkEntry {H : Type} : Lit × DataW H → Nat
  | (.string bytes, d) => bytes.length + uptoBulk d + 1
  | (_, d) => uptoBulk d + 1
 end
def uptoSmall : (H : Type) → List (DataW H) → Bool := fun _ ds => decide (uptoBulkAll ds ≤ 1048576)
def OpenSpec.upto (s : _root_.Go.ChangeSpec) : _root_.Go.OpenSpec := { _root_.Go.OpenSpec.ofChange s with cond := some uptoSmall }

/-- 'latchworklaw.UnrollFinds', WHERE WHAT IT READS IS OF BULK AT MOST 1048576: true; the input reads as it did. -/
def unrollFindsUptoRow : OpenClaim := { program := "ytmodipglnngghacgreat", sum := "8755ba0c32ac76280e4f20667698113cd17a42da99640d721b32e44ec3c05845", func := "latchwork/latchworklaw.UnrollFinds", spec := "unrollFinds", unfollowed := true, recurses := true, plainKeys := false, apart := false, narrowed := true }
def UnrollFindsUptoSaid : Prop := unrollFindsUptoRow.holds Tryz.pinned (OpenSpec.upto unrollFindsSpec)

/-- 'latchworklaw.ProveProves', WHERE WHAT IT READS IS OF BULK AT MOST 1048576: true; the input reads as it did. -/
def proveProvesUptoRow : OpenClaim := { program := "ytmodipglnngghacgreat", sum := "8755ba0c32ac76280e4f20667698113cd17a42da99640d721b32e44ec3c05845", func := "latchwork/latchworklaw.ProveProves", spec := "proveProves", unfollowed := true, recurses := true, plainKeys := false, apart := false, narrowed := true }
def ProveProvesUptoSaid : Prop := proveProvesUptoRow.holds Tryz.pinned (OpenSpec.upto proveProvesSpec)

/-- 'latchworklaw.DecideDecides', WHERE WHAT IT READS IS OF BULK AT MOST 1048576: true; the input reads as it did. -/
def decideDecidesUptoRow : OpenClaim := { program := "ytmodipglnngghacgreat", sum := "8755ba0c32ac76280e4f20667698113cd17a42da99640d721b32e44ec3c05845", func := "latchwork/latchworklaw.DecideDecides", spec := "decideDecides", unfollowed := true, recurses := true, plainKeys := false, apart := false, narrowed := true }
def DecideDecidesUptoSaid : Prop := decideDecidesUptoRow.holds Tryz.pinned (OpenSpec.upto decideDecidesSpec)

/-- 'latchworklaw.UnrollClauses', WHERE WHAT IT READS IS OF BULK AT MOST 1048576: true; the input reads as it did. -/
def unrollClausesUptoRow : OpenClaim := { program := "ytmodipglnngghacgreat", sum := "8755ba0c32ac76280e4f20667698113cd17a42da99640d721b32e44ec3c05845", func := "latchwork/latchworklaw.UnrollClauses", spec := "unrollClauses", unfollowed := true, recurses := true, plainKeys := false, apart := false, narrowed := true }
def UnrollClausesUptoSaid : Prop := unrollClausesUptoRow.holds Tryz.pinned (OpenSpec.upto unrollClausesSpec)

end Rows
end Go.Proofs.YtmodipglnngghacGreat
