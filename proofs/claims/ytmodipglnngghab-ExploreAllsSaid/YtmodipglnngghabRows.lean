/-
  No cell of these rows narrows 'for every input' (looked for: loops, veiled, ifaces, maps, wideKeys, modest, calm, conditions, laid).
  DERIVED. THE GIVEN ROWS OF THIS SEAT. 10 by the template 'for every input the law returns true; each argument reads behind the call as it read before'; 0 by the template 'total and deterministic' (their statements: YtmodipglnngghabTotals.lean).
  GIVEN WITH THE SEED: the statements are not yours to turn. If you find one false, say at which input.
  Laid BY PROGRAM, IN A SANDBOX (cutbox-rows.mjs): the forced cells as the released guide's own fill.sh prints them over the translation f03b05ec2bf7ece6… (all of the seat's roots in one cut). By AI agents, Wed Nov 11 2026. No macro, syntax, notation, axiom, sorry.
-/
import Derived.Test.YtmodipglnngghabChecked
import GoSem.Claim
import GoSem.ClaimJoined
import GoSem.ClaimMapViews
import Derived.JoinedTies
import Derived.KernelRfl
namespace Go.Proofs.Ytmodipglnngghab
/- THE CELL 'sum', in the pinned program and in every row, IS THE sha256 OF THE DUMP (.gsa) THAT YtmodipglnngghabProg.lean LOADS. Nothing in Lean hashes anything: it is a label: what it is worth is what the hold of that sum in a sandbox is worth. -/
noncomputable def Try.pinned : Pinned := { name := "ytmodipglnngghab", sum := "f03b05ec2bf7ece64e02c74fb3d6b367ae931963bcd847a1a36207bf8642e983", checked := Try.checked }
namespace Rows
def none {H : Type} : Left H := { results := [], args := [] }

/-- 'latchworklaw.EvalBegins': WHATEVER THE INPUT: true; the input reads as it did. -/
def evalBeginsSpec : ChangeSpec := { name := "evalBegins", fn := fun _ => fun
  | [d1, d2] => { results := [.lit (.bool true)], args := [d1, d2] }
  | _ => none }
def evalBeginsRow : OpenClaim := { program := "ytmodipglnngghab", sum := "f03b05ec2bf7ece64e02c74fb3d6b367ae931963bcd847a1a36207bf8642e983", func := "latchwork/latchworklaw.EvalBegins", spec := "evalBegins", unfollowed := true, recurses := true, plainKeys := false, apart := false }
def EvalBeginsSaid : Prop := evalBeginsRow.holds Try.pinned (OpenSpec.ofChange evalBeginsSpec)

/-- ITS FALSE NEIGHBOUR: 'it returns false'. Refute it at one input. -/
def evalBeginsWrong : ChangeSpec := { name := "evalBegins", fn := fun _ => fun
  | [d1, d2] => { results := [.lit (.bool false)], args := [d1, d2] }
  | _ => none }
def EvalBeginsWrongFalsely : Prop := evalBeginsRow.holds Try.pinned (OpenSpec.ofChange evalBeginsWrong)

/-- 'latchworklaw.EvalValues': WHATEVER THE INPUT: true; the input reads as it did. -/
def evalValuesSpec : ChangeSpec := { name := "evalValues", fn := fun _ => fun
  | [d1, d2, d3] => { results := [.lit (.bool true)], args := [d1, d2, d3] }
  | _ => none }
def evalValuesRow : OpenClaim := { program := "ytmodipglnngghab", sum := "f03b05ec2bf7ece64e02c74fb3d6b367ae931963bcd847a1a36207bf8642e983", func := "latchwork/latchworklaw.EvalValues", spec := "evalValues", unfollowed := true, recurses := true, plainKeys := false, apart := false }
def EvalValuesSaid : Prop := evalValuesRow.holds Try.pinned (OpenSpec.ofChange evalValuesSpec)

/-- ITS FALSE NEIGHBOUR: 'it returns false'. Refute it at one input. -/
def evalValuesWrong : ChangeSpec := { name := "evalValues", fn := fun _ => fun
  | [d1, d2, d3] => { results := [.lit (.bool false)], args := [d1, d2, d3] }
  | _ => none }
def EvalValuesWrongFalsely : Prop := evalValuesRow.holds Try.pinned (OpenSpec.ofChange evalValuesWrong)

/-- 'latchworklaw.ExploreAlls': WHATEVER THE INPUT: true; the input reads as it did. -/
def exploreAllsSpec : ChangeSpec := { name := "exploreAlls", fn := fun _ => fun
  | [d1, d2] => { results := [.lit (.bool true)], args := [d1, d2] }
  | _ => none }
def exploreAllsRow : OpenClaim := { program := "ytmodipglnngghab", sum := "f03b05ec2bf7ece64e02c74fb3d6b367ae931963bcd847a1a36207bf8642e983", func := "latchwork/latchworklaw.ExploreAlls", spec := "exploreAlls", unfollowed := true, recurses := true, plainKeys := false, apart := false }
def ExploreAllsSaid : Prop := exploreAllsRow.holds Try.pinned (OpenSpec.ofChange exploreAllsSpec)

/-- ITS FALSE NEIGHBOUR: 'it returns false'. Refute it at one input. -/
def exploreAllsWrong : ChangeSpec := { name := "exploreAlls", fn := fun _ => fun
  | [d1, d2] => { results := [.lit (.bool false)], args := [d1, d2] }
  | _ => none }
def ExploreAllsWrongFalsely : Prop := exploreAllsRow.holds Try.pinned (OpenSpec.ofChange exploreAllsWrong)

/-- 'latchworklaw.ProofFollows': WHATEVER THE INPUT: true; the input reads as it did. -/
def proofFollowsSpec : ChangeSpec := { name := "proofFollows", fn := fun _ => fun
  | [d1, d2] => { results := [.lit (.bool true)], args := [d1, d2] }
  | _ => none }
def proofFollowsRow : OpenClaim := { program := "ytmodipglnngghab", sum := "f03b05ec2bf7ece64e02c74fb3d6b367ae931963bcd847a1a36207bf8642e983", func := "latchwork/latchworklaw.ProofFollows", spec := "proofFollows", unfollowed := true, recurses := true, plainKeys := false, apart := false }
def ProofFollowsSaid : Prop := proofFollowsRow.holds Try.pinned (OpenSpec.ofChange proofFollowsSpec)

/-- ITS FALSE NEIGHBOUR: 'it returns false'. Refute it at one input. -/
def proofFollowsWrong : ChangeSpec := { name := "proofFollows", fn := fun _ => fun
  | [d1, d2] => { results := [.lit (.bool false)], args := [d1, d2] }
  | _ => none }
def ProofFollowsWrongFalsely : Prop := proofFollowsRow.holds Try.pinned (OpenSpec.ofChange proofFollowsWrong)

/-- 'latchworklaw.ProofChecks': WHATEVER THE INPUT: true; the input reads as it did. -/
def proofChecksSpec : ChangeSpec := { name := "proofChecks", fn := fun _ => fun
  | [d1, d2] => { results := [.lit (.bool true)], args := [d1, d2] }
  | _ => none }
def proofChecksRow : OpenClaim := { program := "ytmodipglnngghab", sum := "f03b05ec2bf7ece64e02c74fb3d6b367ae931963bcd847a1a36207bf8642e983", func := "latchwork/latchworklaw.ProofChecks", spec := "proofChecks", unfollowed := true, recurses := true, plainKeys := false, apart := false }
def ProofChecksSaid : Prop := proofChecksRow.holds Try.pinned (OpenSpec.ofChange proofChecksSpec)

/-- ITS FALSE NEIGHBOUR: 'it returns false'. Refute it at one input. -/
def proofChecksWrong : ChangeSpec := { name := "proofChecks", fn := fun _ => fun
  | [d1, d2] => { results := [.lit (.bool false)], args := [d1, d2] }
  | _ => none }
def ProofChecksWrongFalsely : Prop := proofChecksRow.holds Try.pinned (OpenSpec.ofChange proofChecksWrong)

/-- 'latchworklaw.BlastChecks': WHATEVER THE INPUT: true; the input reads as it did. -/
def blastChecksSpec : ChangeSpec := { name := "blastChecks", fn := fun _ => fun
  | [d] => { results := [.lit (.bool true)], args := [d] }
  | _ => none }
def blastChecksRow : OpenClaim := { program := "ytmodipglnngghab", sum := "f03b05ec2bf7ece64e02c74fb3d6b367ae931963bcd847a1a36207bf8642e983", func := "latchwork/latchworklaw.BlastChecks", spec := "blastChecks", unfollowed := true, recurses := true, plainKeys := false, apart := false }
def BlastChecksSaid : Prop := blastChecksRow.holds Try.pinned (OpenSpec.ofChange blastChecksSpec)

/-- ITS FALSE NEIGHBOUR: 'it returns false'. Refute it at one input. -/
def blastChecksWrong : ChangeSpec := { name := "blastChecks", fn := fun _ => fun
  | [d] => { results := [.lit (.bool false)], args := [d] }
  | _ => none }
def BlastChecksWrongFalsely : Prop := blastChecksRow.holds Try.pinned (OpenSpec.ofChange blastChecksWrong)

/-- 'latchworklaw.BlastTells': WHATEVER THE INPUT: true; the input reads as it did. -/
def blastTellsSpec : ChangeSpec := { name := "blastTells", fn := fun _ => fun
  | [d1, d2, d3] => { results := [.lit (.bool true)], args := [d1, d2, d3] }
  | _ => none }
def blastTellsRow : OpenClaim := { program := "ytmodipglnngghab", sum := "f03b05ec2bf7ece64e02c74fb3d6b367ae931963bcd847a1a36207bf8642e983", func := "latchwork/latchworklaw.BlastTells", spec := "blastTells", unfollowed := true, recurses := true, plainKeys := false, apart := false }
def BlastTellsSaid : Prop := blastTellsRow.holds Try.pinned (OpenSpec.ofChange blastTellsSpec)

/-- ITS FALSE NEIGHBOUR: 'it returns false'. Refute it at one input. -/
def blastTellsWrong : ChangeSpec := { name := "blastTells", fn := fun _ => fun
  | [d1, d2, d3] => { results := [.lit (.bool false)], args := [d1, d2, d3] }
  | _ => none }
def BlastTellsWrongFalsely : Prop := blastTellsRow.holds Try.pinned (OpenSpec.ofChange blastTellsWrong)

/-- 'latchworklaw.ProofSound': WHATEVER THE INPUT: true; the input reads as it did. -/
def proofSoundSpec : ChangeSpec := { name := "proofSound", fn := fun _ => fun
  | [d1, d2, d3] => { results := [.lit (.bool true)], args := [d1, d2, d3] }
  | _ => none }
def proofSoundRow : OpenClaim := { program := "ytmodipglnngghab", sum := "f03b05ec2bf7ece64e02c74fb3d6b367ae931963bcd847a1a36207bf8642e983", func := "latchwork/latchworklaw.ProofSound", spec := "proofSound", unfollowed := true, recurses := true, plainKeys := false, apart := false }
def ProofSoundSaid : Prop := proofSoundRow.holds Try.pinned (OpenSpec.ofChange proofSoundSpec)

/-- ITS FALSE NEIGHBOUR: 'it returns false'. Refute it at one input. -/
def proofSoundWrong : ChangeSpec := { name := "proofSound", fn := fun _ => fun
  | [d1, d2, d3] => { results := [.lit (.bool false)], args := [d1, d2, d3] }
  | _ => none }
def ProofSoundWrongFalsely : Prop := proofSoundRow.holds Try.pinned (OpenSpec.ofChange proofSoundWrong)

/-- 'latchworklaw.SearchSolves': WHATEVER THE INPUT: true; the input reads as it did. -/
def searchSolvesSpec : ChangeSpec := { name := "searchSolves", fn := fun _ => fun
  | [d1, d2] => { results := [.lit (.bool true)], args := [d1, d2] }
  | _ => none }
def searchSolvesRow : OpenClaim := { program := "ytmodipglnngghab", sum := "f03b05ec2bf7ece64e02c74fb3d6b367ae931963bcd847a1a36207bf8642e983", func := "latchwork/latchworklaw.SearchSolves", spec := "searchSolves", unfollowed := true, recurses := true, plainKeys := false, apart := false }
def SearchSolvesSaid : Prop := searchSolvesRow.holds Try.pinned (OpenSpec.ofChange searchSolvesSpec)

/-- ITS FALSE NEIGHBOUR: 'it returns false'. Refute it at one input. -/
def searchSolvesWrong : ChangeSpec := { name := "searchSolves", fn := fun _ => fun
  | [d1, d2] => { results := [.lit (.bool false)], args := [d1, d2] }
  | _ => none }
def SearchSolvesWrongFalsely : Prop := searchSolvesRow.holds Try.pinned (OpenSpec.ofChange searchSolvesWrong)

/-- 'latchworklaw.SearchTrue': WHATEVER THE INPUT: true; the input reads as it did. -/
def searchTrueSpec : ChangeSpec := { name := "searchTrue", fn := fun _ => fun
  | [d] => { results := [.lit (.bool true)], args := [d] }
  | _ => none }
def searchTrueRow : OpenClaim := { program := "ytmodipglnngghab", sum := "f03b05ec2bf7ece64e02c74fb3d6b367ae931963bcd847a1a36207bf8642e983", func := "latchwork/latchworklaw.SearchTrue", spec := "searchTrue", unfollowed := true, recurses := true, plainKeys := false, apart := false }
def SearchTrueSaid : Prop := searchTrueRow.holds Try.pinned (OpenSpec.ofChange searchTrueSpec)

/-- ITS FALSE NEIGHBOUR: 'it returns false'. Refute it at one input. -/
def searchTrueWrong : ChangeSpec := { name := "searchTrue", fn := fun _ => fun
  | [d] => { results := [.lit (.bool false)], args := [d] }
  | _ => none }
def SearchTrueWrongFalsely : Prop := searchTrueRow.holds Try.pinned (OpenSpec.ofChange searchTrueWrong)

/- THE SECOND FORM. 'bulk': how many values and letters a reading holds, each counted each time it is reached (what is shared counts as often as it is met; a slice's spare places count too). A statement '..UptoSaid' is the law's where the arguments, and the package variables that the reading takes, are together of bulk at most 1048576: NARROWER than '..Said'. Prove '..Said' where nothing that the law and all that it calls make is longer than what came in: it says more and counts as full. Else prove '..UptoSaid'. A law counts once. -/
mutual
def uptoBulk {H : Type} : DataW H → Nat
  | .lit (.string bytes) => bytes.length + 1
  | .lit _ => 1
  | .nil => 1
  | .ptr d => uptoBulk d + 1
  | .slice elems spare => uptoBulkAll elems + uptoBulkAll spare + 1
  | .agg parts => uptoBulkAll parts + 1
  | .iface _ d => uptoBulk d + 1
  | .map entries => uptoBulkEntries entries + 1
  | .held _ => 1
def uptoBulkAll {H : Type} : List (DataW H) → Nat
  | [] => 0
  | d :: r => uptoBulk d + uptoBulkAll r
def uptoBulkEntries {H : Type} : List (Lit × DataW H) → Nat
  | [] => 0
  | x :: r => uptoBulkEntry x + uptoBulkEntries r
def uptoBulkEntry {H : Type} : Lit × DataW H → Nat
  | (.string bytes, d) => bytes.length + uptoBulk d + 1
  | (_, d) => uptoBulk d + 1
 end
def uptoSmall : (H : Type) → List (DataW H) → Bool := fun _ ds => decide (uptoBulkAll ds ≤ 1048576)
def OpenSpec.upto (s : _root_.Go.ChangeSpec) : _root_.Go.OpenSpec := { _root_.Go.OpenSpec.ofChange s with cond := some uptoSmall }

/-- 'latchworklaw.EvalBegins', WHERE WHAT IT READS IS OF BULK AT MOST 1048576: true; the input reads as it did. -/
def evalBeginsUptoRow : OpenClaim := { program := "ytmodipglnngghab", sum := "f03b05ec2bf7ece64e02c74fb3d6b367ae931963bcd847a1a36207bf8642e983", func := "latchwork/latchworklaw.EvalBegins", spec := "evalBegins", unfollowed := true, recurses := true, plainKeys := false, apart := false, narrowed := true }
def EvalBeginsUptoSaid : Prop := evalBeginsUptoRow.holds Try.pinned (OpenSpec.upto evalBeginsSpec)

/-- 'latchworklaw.EvalValues', WHERE WHAT IT READS IS OF BULK AT MOST 1048576: true; the input reads as it did. -/
def evalValuesUptoRow : OpenClaim := { program := "ytmodipglnngghab", sum := "f03b05ec2bf7ece64e02c74fb3d6b367ae931963bcd847a1a36207bf8642e983", func := "latchwork/latchworklaw.EvalValues", spec := "evalValues", unfollowed := true, recurses := true, plainKeys := false, apart := false, narrowed := true }
def EvalValuesUptoSaid : Prop := evalValuesUptoRow.holds Try.pinned (OpenSpec.upto evalValuesSpec)

/-- 'latchworklaw.ExploreAlls', WHERE WHAT IT READS IS OF BULK AT MOST 1048576: true; the input reads as it did. -/
def exploreAllsUptoRow : OpenClaim := { program := "ytmodipglnngghab", sum := "f03b05ec2bf7ece64e02c74fb3d6b367ae931963bcd847a1a36207bf8642e983", func := "latchwork/latchworklaw.ExploreAlls", spec := "exploreAlls", unfollowed := true, recurses := true, plainKeys := false, apart := false, narrowed := true }
def ExploreAllsUptoSaid : Prop := exploreAllsUptoRow.holds Try.pinned (OpenSpec.upto exploreAllsSpec)

/-- 'latchworklaw.ProofFollows', WHERE WHAT IT READS IS OF BULK AT MOST 1048576: true; the input reads as it did. -/
def proofFollowsUptoRow : OpenClaim := { program := "ytmodipglnngghab", sum := "f03b05ec2bf7ece64e02c74fb3d6b367ae931963bcd847a1a36207bf8642e983", func := "latchwork/latchworklaw.ProofFollows", spec := "proofFollows", unfollowed := true, recurses := true, plainKeys := false, apart := false, narrowed := true }
def ProofFollowsUptoSaid : Prop := proofFollowsUptoRow.holds Try.pinned (OpenSpec.upto proofFollowsSpec)

/-- 'latchworklaw.ProofChecks', WHERE WHAT IT READS IS OF BULK AT MOST 1048576: true; the input reads as it did. -/
def proofChecksUptoRow : OpenClaim := { program := "ytmodipglnngghab", sum := "f03b05ec2bf7ece64e02c74fb3d6b367ae931963bcd847a1a36207bf8642e983", func := "latchwork/latchworklaw.ProofChecks", spec := "proofChecks", unfollowed := true, recurses := true, plainKeys := false, apart := false, narrowed := true }
def ProofChecksUptoSaid : Prop := proofChecksUptoRow.holds Try.pinned (OpenSpec.upto proofChecksSpec)

/-- 'latchworklaw.BlastChecks', WHERE WHAT IT READS IS OF BULK AT MOST 1048576: true; the input reads as it did. -/
def blastChecksUptoRow : OpenClaim := { program := "ytmodipglnngghab", sum := "f03b05ec2bf7ece64e02c74fb3d6b367ae931963bcd847a1a36207bf8642e983", func := "latchwork/latchworklaw.BlastChecks", spec := "blastChecks", unfollowed := true, recurses := true, plainKeys := false, apart := false, narrowed := true }
def BlastChecksUptoSaid : Prop := blastChecksUptoRow.holds Try.pinned (OpenSpec.upto blastChecksSpec)

/-- 'latchworklaw.BlastTells', WHERE WHAT IT READS IS OF BULK AT MOST 1048576: true; the input reads as it did. -/
def blastTellsUptoRow : OpenClaim := { program := "ytmodipglnngghab", sum := "f03b05ec2bf7ece64e02c74fb3d6b367ae931963bcd847a1a36207bf8642e983", func := "latchwork/latchworklaw.BlastTells", spec := "blastTells", unfollowed := true, recurses := true, plainKeys := false, apart := false, narrowed := true }
def BlastTellsUptoSaid : Prop := blastTellsUptoRow.holds Try.pinned (OpenSpec.upto blastTellsSpec)

/-- 'latchworklaw.ProofSound', WHERE WHAT IT READS IS OF BULK AT MOST 1048576: true; the input reads as it did. -/
def proofSoundUptoRow : OpenClaim := { program := "ytmodipglnngghab", sum := "f03b05ec2bf7ece64e02c74fb3d6b367ae931963bcd847a1a36207bf8642e983", func := "latchwork/latchworklaw.ProofSound", spec := "proofSound", unfollowed := true, recurses := true, plainKeys := false, apart := false, narrowed := true }
def ProofSoundUptoSaid : Prop := proofSoundUptoRow.holds Try.pinned (OpenSpec.upto proofSoundSpec)

/-- 'latchworklaw.SearchSolves', WHERE WHAT IT READS IS OF BULK AT MOST 1048576: true; the input reads as it did. -/
def searchSolvesUptoRow : OpenClaim := { program := "ytmodipglnngghab", sum := "f03b05ec2bf7ece64e02c74fb3d6b367ae931963bcd847a1a36207bf8642e983", func := "latchwork/latchworklaw.SearchSolves", spec := "searchSolves", unfollowed := true, recurses := true, plainKeys := false, apart := false, narrowed := true }
def SearchSolvesUptoSaid : Prop := searchSolvesUptoRow.holds Try.pinned (OpenSpec.upto searchSolvesSpec)

/-- 'latchworklaw.SearchTrue', WHERE WHAT IT READS IS OF BULK AT MOST 1048576: true; the input reads as it did. -/
def searchTrueUptoRow : OpenClaim := { program := "ytmodipglnngghab", sum := "f03b05ec2bf7ece64e02c74fb3d6b367ae931963bcd847a1a36207bf8642e983", func := "latchwork/latchworklaw.SearchTrue", spec := "searchTrue", unfollowed := true, recurses := true, plainKeys := false, apart := false, narrowed := true }
def SearchTrueUptoSaid : Prop := searchTrueUptoRow.holds Try.pinned (OpenSpec.upto searchTrueSpec)

end Rows
end Go.Proofs.Ytmodipglnngghab
