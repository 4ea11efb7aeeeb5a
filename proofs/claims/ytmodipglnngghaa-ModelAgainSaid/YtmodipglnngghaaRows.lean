/-
  No cell of these rows narrows 'for every input' (looked for: loops, veiled, ifaces, maps, wideKeys, modest, calm, conditions, laid).
  DERIVED. THE GIVEN ROWS OF THIS SEAT. 11 by the template 'for every input the law returns true; each argument reads behind the call as it read before'; 0 by the template 'total and deterministic' (their statements: YtmodipglnngghaaTotals.lean).
  GIVEN WITH THE SEED: the statements are not yours to turn. If you find one false, say at which input.
  Laid BY PROGRAM, IN A SANDBOX (cutbox-rows.mjs): the forced cells as the released guide's own fill.sh prints them over the translation 21ea1defd4329eb0… (all of the seat's roots in one cut). By AI agents, Wed Nov 11 2026. No macro, syntax, notation, axiom, sorry.
-/
import Derived.Test.YtmodipglnngghaaChecked
import GoSem.Claim
import GoSem.ClaimJoined
import GoSem.ClaimMapViews
import Derived.JoinedTies
import Derived.KernelRfl
namespace Go.Proofs.Ytmodipglnngghaa
/- THE CELL 'sum', in the pinned program and in every row, IS THE sha256 OF THE DUMP (.gsa) THAT YtmodipglnngghaaProg.lean LOADS. Nothing in Lean hashes anything: it is a label: what it is worth is what the hold of that sum in a sandbox is worth. -/
noncomputable def Try.pinned : Pinned := { name := "ytmodipglnngghaa", sum := "21ea1defd4329eb06c57ffe7e076b6c84b78bd73ea4188d5b5734403167c0276", checked := Try.checked }
namespace Rows
def none {H : Type} : Left H := { results := [], args := [] }

/-- 'latchworklaw.GatesAnds': WHATEVER THE INPUT: true; the input reads as it did. -/
def gatesAndsSpec : ChangeSpec := { name := "gatesAnds", fn := fun _ => fun
  | [d1, d2, d3] => { results := [.lit (.bool true)], args := [d1, d2, d3] }
  | _ => none }
def gatesAndsRow : OpenClaim := { program := "ytmodipglnngghaa", sum := "21ea1defd4329eb06c57ffe7e076b6c84b78bd73ea4188d5b5734403167c0276", func := "latchwork/latchworklaw.GatesAnds", spec := "gatesAnds", unfollowed := true, recurses := true, plainKeys := false, apart := false }
def GatesAndsSaid : Prop := gatesAndsRow.holds Try.pinned (OpenSpec.ofChange gatesAndsSpec)

/-- ITS FALSE NEIGHBOUR: 'it returns false'. Refute it at one input. -/
def gatesAndsWrong : ChangeSpec := { name := "gatesAnds", fn := fun _ => fun
  | [d1, d2, d3] => { results := [.lit (.bool false)], args := [d1, d2, d3] }
  | _ => none }
def GatesAndsWrongFalsely : Prop := gatesAndsRow.holds Try.pinned (OpenSpec.ofChange gatesAndsWrong)

/-- 'latchworklaw.GatesEvals': WHATEVER THE INPUT: true; the input reads as it did. -/
def gatesEvalsSpec : ChangeSpec := { name := "gatesEvals", fn := fun _ => fun
  | [d1, d2, d3] => { results := [.lit (.bool true)], args := [d1, d2, d3] }
  | _ => none }
def gatesEvalsRow : OpenClaim := { program := "ytmodipglnngghaa", sum := "21ea1defd4329eb06c57ffe7e076b6c84b78bd73ea4188d5b5734403167c0276", func := "latchwork/latchworklaw.GatesEvals", spec := "gatesEvals", unfollowed := true, recurses := true, plainKeys := false, apart := false }
def GatesEvalsSaid : Prop := gatesEvalsRow.holds Try.pinned (OpenSpec.ofChange gatesEvalsSpec)

/-- ITS FALSE NEIGHBOUR: 'it returns false'. Refute it at one input. -/
def gatesEvalsWrong : ChangeSpec := { name := "gatesEvals", fn := fun _ => fun
  | [d1, d2, d3] => { results := [.lit (.bool false)], args := [d1, d2, d3] }
  | _ => none }
def GatesEvalsWrongFalsely : Prop := gatesEvalsRow.holds Try.pinned (OpenSpec.ofChange gatesEvalsWrong)

/-- 'latchworklaw.GatesKeep': WHATEVER THE INPUT: true; the input reads as it did. -/
def gatesKeepSpec : ChangeSpec := { name := "gatesKeep", fn := fun _ => fun
  | [d1, d2, d3, d4] => { results := [.lit (.bool true)], args := [d1, d2, d3, d4] }
  | _ => none }
def gatesKeepRow : OpenClaim := { program := "ytmodipglnngghaa", sum := "21ea1defd4329eb06c57ffe7e076b6c84b78bd73ea4188d5b5734403167c0276", func := "latchwork/latchworklaw.GatesKeep", spec := "gatesKeep", unfollowed := true, recurses := true, plainKeys := false, apart := false }
def GatesKeepSaid : Prop := gatesKeepRow.holds Try.pinned (OpenSpec.ofChange gatesKeepSpec)

/-- ITS FALSE NEIGHBOUR: 'it returns false'. Refute it at one input. -/
def gatesKeepWrong : ChangeSpec := { name := "gatesKeep", fn := fun _ => fun
  | [d1, d2, d3, d4] => { results := [.lit (.bool false)], args := [d1, d2, d3, d4] }
  | _ => none }
def GatesKeepWrongFalsely : Prop := gatesKeepRow.holds Try.pinned (OpenSpec.ofChange gatesKeepWrong)

/-- 'latchworklaw.CnfOfs': WHATEVER THE INPUT: true; the input reads as it did. -/
def cnfOfsSpec : ChangeSpec := { name := "cnfOfs", fn := fun _ => fun
  | [d1, d2] => { results := [.lit (.bool true)], args := [d1, d2] }
  | _ => none }
def cnfOfsRow : OpenClaim := { program := "ytmodipglnngghaa", sum := "21ea1defd4329eb06c57ffe7e076b6c84b78bd73ea4188d5b5734403167c0276", func := "latchwork/latchworklaw.CnfOfs", spec := "cnfOfs", unfollowed := true, recurses := true, plainKeys := false, apart := false }
def CnfOfsSaid : Prop := cnfOfsRow.holds Try.pinned (OpenSpec.ofChange cnfOfsSpec)

/-- ITS FALSE NEIGHBOUR: 'it returns false'. Refute it at one input. -/
def cnfOfsWrong : ChangeSpec := { name := "cnfOfs", fn := fun _ => fun
  | [d1, d2] => { results := [.lit (.bool false)], args := [d1, d2] }
  | _ => none }
def CnfOfsWrongFalsely : Prop := cnfOfsRow.holds Try.pinned (OpenSpec.ofChange cnfOfsWrong)

/-- 'latchworklaw.WordFits': WHATEVER THE INPUT: true; the input reads as it did. -/
def wordFitsSpec : ChangeSpec := { name := "wordFits", fn := fun _ => fun
  | [d1, d2, d3, d4] => { results := [.lit (.bool true)], args := [d1, d2, d3, d4] }
  | _ => none }
def wordFitsRow : OpenClaim := { program := "ytmodipglnngghaa", sum := "21ea1defd4329eb06c57ffe7e076b6c84b78bd73ea4188d5b5734403167c0276", func := "latchwork/latchworklaw.WordFits", spec := "wordFits", plainKeys := false, apart := false }
def WordFitsSaid : Prop := wordFitsRow.holds Try.pinned (OpenSpec.ofChange wordFitsSpec)

/-- ITS FALSE NEIGHBOUR: 'it returns false'. Refute it at one input. -/
def wordFitsWrong : ChangeSpec := { name := "wordFits", fn := fun _ => fun
  | [d1, d2, d3, d4] => { results := [.lit (.bool false)], args := [d1, d2, d3, d4] }
  | _ => none }
def WordFitsWrongFalsely : Prop := wordFitsRow.holds Try.pinned (OpenSpec.ofChange wordFitsWrong)

/-- 'latchworklaw.WordApplies': WHATEVER THE INPUT: true; the input reads as it did. -/
def wordAppliesSpec : ChangeSpec := { name := "wordApplies", fn := fun _ => fun
  | [d1, d2, d3, d4, d5] => { results := [.lit (.bool true)], args := [d1, d2, d3, d4, d5] }
  | _ => none }
def wordAppliesRow : OpenClaim := { program := "ytmodipglnngghaa", sum := "21ea1defd4329eb06c57ffe7e076b6c84b78bd73ea4188d5b5734403167c0276", func := "latchwork/latchworklaw.WordApplies", spec := "wordApplies", plainKeys := false, apart := false }
def WordAppliesSaid : Prop := wordAppliesRow.holds Try.pinned (OpenSpec.ofChange wordAppliesSpec)

/-- ITS FALSE NEIGHBOUR: 'it returns false'. Refute it at one input. -/
def wordAppliesWrong : ChangeSpec := { name := "wordApplies", fn := fun _ => fun
  | [d1, d2, d3, d4, d5] => { results := [.lit (.bool false)], args := [d1, d2, d3, d4, d5] }
  | _ => none }
def WordAppliesWrongFalsely : Prop := wordAppliesRow.holds Try.pinned (OpenSpec.ofChange wordAppliesWrong)

/-- 'latchworklaw.WordTurns': WHATEVER THE INPUT: true; the input reads as it did. -/
def wordTurnsSpec : ChangeSpec := { name := "wordTurns", fn := fun _ => fun
  | [d1, d2, d3] => { results := [.lit (.bool true)], args := [d1, d2, d3] }
  | _ => none }
def wordTurnsRow : OpenClaim := { program := "ytmodipglnngghaa", sum := "21ea1defd4329eb06c57ffe7e076b6c84b78bd73ea4188d5b5734403167c0276", func := "latchwork/latchworklaw.WordTurns", spec := "wordTurns", plainKeys := false, apart := false }
def WordTurnsSaid : Prop := wordTurnsRow.holds Try.pinned (OpenSpec.ofChange wordTurnsSpec)

/-- ITS FALSE NEIGHBOUR: 'it returns false'. Refute it at one input. -/
def wordTurnsWrong : ChangeSpec := { name := "wordTurns", fn := fun _ => fun
  | [d1, d2, d3] => { results := [.lit (.bool false)], args := [d1, d2, d3] }
  | _ => none }
def WordTurnsWrongFalsely : Prop := wordTurnsRow.holds Try.pinned (OpenSpec.ofChange wordTurnsWrong)

/-- 'latchworklaw.CnfTells': WHATEVER THE INPUT: true; the input reads as it did. -/
def cnfTellsSpec : ChangeSpec := { name := "cnfTells", fn := fun _ => fun
  | [d1, d2, d3, d4] => { results := [.lit (.bool true)], args := [d1, d2, d3, d4] }
  | _ => none }
def cnfTellsRow : OpenClaim := { program := "ytmodipglnngghaa", sum := "21ea1defd4329eb06c57ffe7e076b6c84b78bd73ea4188d5b5734403167c0276", func := "latchwork/latchworklaw.CnfTells", spec := "cnfTells", unfollowed := true, recurses := true, plainKeys := false, apart := false }
def CnfTellsSaid : Prop := cnfTellsRow.holds Try.pinned (OpenSpec.ofChange cnfTellsSpec)

/-- ITS FALSE NEIGHBOUR: 'it returns false'. Refute it at one input. -/
def cnfTellsWrong : ChangeSpec := { name := "cnfTells", fn := fun _ => fun
  | [d1, d2, d3, d4] => { results := [.lit (.bool false)], args := [d1, d2, d3, d4] }
  | _ => none }
def CnfTellsWrongFalsely : Prop := cnfTellsRow.holds Try.pinned (OpenSpec.ofChange cnfTellsWrong)

/-- 'latchworklaw.ModelChecks': WHATEVER THE INPUT: true; the input reads as it did. -/
def modelChecksSpec : ChangeSpec := { name := "modelChecks", fn := fun _ => fun
  | [d] => { results := [.lit (.bool true)], args := [d] }
  | _ => none }
def modelChecksRow : OpenClaim := { program := "ytmodipglnngghaa", sum := "21ea1defd4329eb06c57ffe7e076b6c84b78bd73ea4188d5b5734403167c0276", func := "latchwork/latchworklaw.ModelChecks", spec := "modelChecks", unfollowed := true, recurses := true, plainKeys := false, apart := false }
def ModelChecksSaid : Prop := modelChecksRow.holds Try.pinned (OpenSpec.ofChange modelChecksSpec)

/-- ITS FALSE NEIGHBOUR: 'it returns false'. Refute it at one input. -/
def modelChecksWrong : ChangeSpec := { name := "modelChecks", fn := fun _ => fun
  | [d] => { results := [.lit (.bool false)], args := [d] }
  | _ => none }
def ModelChecksWrongFalsely : Prop := modelChecksRow.holds Try.pinned (OpenSpec.ofChange modelChecksWrong)

/-- 'latchworklaw.ModelCones': WHATEVER THE INPUT: true; the input reads as it did. -/
def modelConesSpec : ChangeSpec := { name := "modelCones", fn := fun _ => fun
  | [d1, d2] => { results := [.lit (.bool true)], args := [d1, d2] }
  | _ => none }
def modelConesRow : OpenClaim := { program := "ytmodipglnngghaa", sum := "21ea1defd4329eb06c57ffe7e076b6c84b78bd73ea4188d5b5734403167c0276", func := "latchwork/latchworklaw.ModelCones", spec := "modelCones", unfollowed := true, recurses := true, plainKeys := false, apart := false }
def ModelConesSaid : Prop := modelConesRow.holds Try.pinned (OpenSpec.ofChange modelConesSpec)

/-- ITS FALSE NEIGHBOUR: 'it returns false'. Refute it at one input. -/
def modelConesWrong : ChangeSpec := { name := "modelCones", fn := fun _ => fun
  | [d1, d2] => { results := [.lit (.bool false)], args := [d1, d2] }
  | _ => none }
def ModelConesWrongFalsely : Prop := modelConesRow.holds Try.pinned (OpenSpec.ofChange modelConesWrong)

/-- 'latchworklaw.ModelAgain': WHATEVER THE INPUT: true; the input reads as it did. -/
def modelAgainSpec : ChangeSpec := { name := "modelAgain", fn := fun _ => fun
  | [d1, d2] => { results := [.lit (.bool true)], args := [d1, d2] }
  | _ => none }
def modelAgainRow : OpenClaim := { program := "ytmodipglnngghaa", sum := "21ea1defd4329eb06c57ffe7e076b6c84b78bd73ea4188d5b5734403167c0276", func := "latchwork/latchworklaw.ModelAgain", spec := "modelAgain", unfollowed := true, recurses := true, plainKeys := false, apart := false }
def ModelAgainSaid : Prop := modelAgainRow.holds Try.pinned (OpenSpec.ofChange modelAgainSpec)

/-- ITS FALSE NEIGHBOUR: 'it returns false'. Refute it at one input. -/
def modelAgainWrong : ChangeSpec := { name := "modelAgain", fn := fun _ => fun
  | [d1, d2] => { results := [.lit (.bool false)], args := [d1, d2] }
  | _ => none }
def ModelAgainWrongFalsely : Prop := modelAgainRow.holds Try.pinned (OpenSpec.ofChange modelAgainWrong)

/- THE SECOND FORM. 'bulk': how many values and letters a reading holds, each counted each time it is reached (what is shared counts as often as it is met; a slice's spare places count too). A statement '..UptoSaid' is the law's where the arguments, and the package variables that the reading takes, are together of bulk at most 1048576: NARROWER than '..Said'. Prove '..Said' where nothing that the law and all that it calls make is longer than what came in: it says more and counts as full. Else prove '..UptoSaid'. A law counts once. -/
mutual
def uptoBulk {H : Type} : DataW H → Nat
  | .lit (.string bytes) => bytes.length + 1
  | .lit _ => 1
  | .nil => 1
  | .ptr d => uptoBulk d + 1
  | .slice elems spare => uptoBulkAll elems + uptoBulkAll spare + 1
  | .agg parts => uptoBulkAll parts + 1
  | .iface _ d => uptoBulk d + 1
  | .map entries => uptoBulkEntries entries + 1
  | .held _ => 1
def uptoBulkAll {H : Type} : List (DataW H) → Nat
  | [] => 0
  | d :: r => uptoBulk d + uptoBulkAll r
def uptoBulkEntries {H : Type} : List (Lit × DataW H) → Nat
  | [] => 0
  | x :: r => uptoBulkEntry x + uptoBulkEntries r
def uptoBulkEntry {H : Type} : Lit × DataW H → Nat
  | (.string bytes, d) => bytes.length + uptoBulk d + 1
  | (_, d) => uptoBulk d + 1
 end
def uptoSmall : (H : Type) → List (DataW H) → Bool := fun _ ds => decide (uptoBulkAll ds ≤ 1048576)
def OpenSpec.upto (s : _root_.Go.ChangeSpec) : _root_.Go.OpenSpec := { _root_.Go.OpenSpec.ofChange s with cond := some uptoSmall }

/-- 'latchworklaw.GatesAnds', WHERE WHAT IT READS IS OF BULK AT MOST 1048576: true; the input reads as it did. -/
def gatesAndsUptoRow : OpenClaim := { program := "ytmodipglnngghaa", sum := "21ea1defd4329eb06c57ffe7e076b6c84b78bd73ea4188d5b5734403167c0276", func := "latchwork/latchworklaw.GatesAnds", spec := "gatesAnds", unfollowed := true, recurses := true, plainKeys := false, apart := false, narrowed := true }
def GatesAndsUptoSaid : Prop := gatesAndsUptoRow.holds Try.pinned (OpenSpec.upto gatesAndsSpec)

/-- 'latchworklaw.GatesEvals', WHERE WHAT IT READS IS OF BULK AT MOST 1048576: true; the input reads as it did. -/
def gatesEvalsUptoRow : OpenClaim := { program := "ytmodipglnngghaa", sum := "21ea1defd4329eb06c57ffe7e076b6c84b78bd73ea4188d5b5734403167c0276", func := "latchwork/latchworklaw.GatesEvals", spec := "gatesEvals", unfollowed := true, recurses := true, plainKeys := false, apart := false, narrowed := true }
def GatesEvalsUptoSaid : Prop := gatesEvalsUptoRow.holds Try.pinned (OpenSpec.upto gatesEvalsSpec)

/-- 'latchworklaw.GatesKeep', WHERE WHAT IT READS IS OF BULK AT MOST 1048576: true; the input reads as it did. -/
def gatesKeepUptoRow : OpenClaim := { program := "ytmodipglnngghaa", sum := "21ea1defd4329eb06c57ffe7e076b6c84b78bd73ea4188d5b5734403167c0276", func := "latchwork/latchworklaw.GatesKeep", spec := "gatesKeep", unfollowed := true, recurses := true, plainKeys := false, apart := false, narrowed := true }
def GatesKeepUptoSaid : Prop := gatesKeepUptoRow.holds Try.pinned (OpenSpec.upto gatesKeepSpec)

/-- 'latchworklaw.CnfOfs', WHERE WHAT IT READS IS OF BULK AT MOST 1048576: true; the input reads as it did. -/
def cnfOfsUptoRow : OpenClaim := { program := "ytmodipglnngghaa", sum := "21ea1defd4329eb06c57ffe7e076b6c84b78bd73ea4188d5b5734403167c0276", func := "latchwork/latchworklaw.CnfOfs", spec := "cnfOfs", unfollowed := true, recurses := true, plainKeys := false, apart := false, narrowed := true }
def CnfOfsUptoSaid : Prop := cnfOfsUptoRow.holds Try.pinned (OpenSpec.upto cnfOfsSpec)

/-- 'latchworklaw.WordFits', WHERE WHAT IT READS IS OF BULK AT MOST 1048576: true; the input reads as it did. -/
def wordFitsUptoRow : OpenClaim := { program := "ytmodipglnngghaa", sum := "21ea1defd4329eb06c57ffe7e076b6c84b78bd73ea4188d5b5734403167c0276", func := "latchwork/latchworklaw.WordFits", spec := "wordFits", plainKeys := false, apart := false, narrowed := true }
def WordFitsUptoSaid : Prop := wordFitsUptoRow.holds Try.pinned (OpenSpec.upto wordFitsSpec)

/-- 'latchworklaw.WordApplies', WHERE WHAT IT READS IS OF BULK AT MOST 1048576: true; the input reads as it did. -/
def wordAppliesUptoRow : OpenClaim := { program := "ytmodipglnngghaa", sum := "21ea1defd4329eb06c57ffe7e076b6c84b78bd73ea4188d5b5734403167c0276", func := "latchwork/latchworklaw.WordApplies", spec := "wordApplies", plainKeys := false, apart := false, narrowed := true }
def WordAppliesUptoSaid : Prop := wordAppliesUptoRow.holds Try.pinned (OpenSpec.upto wordAppliesSpec)

/-- 'latchworklaw.WordTurns', WHERE WHAT IT READS IS OF BULK AT MOST 1048576: true; the input reads as it did. -/
def wordTurnsUptoRow : OpenClaim := { program := "ytmodipglnngghaa", sum := "21ea1defd4329eb06c57ffe7e076b6c84b78bd73ea4188d5b5734403167c0276", func := "latchwork/latchworklaw.WordTurns", spec := "wordTurns", plainKeys := false, apart := false, narrowed := true }
def WordTurnsUptoSaid : Prop := wordTurnsUptoRow.holds Try.pinned (OpenSpec.upto wordTurnsSpec)

/-- 'latchworklaw.CnfTells', WHERE WHAT IT READS IS OF BULK AT MOST 1048576: true; the input reads as it did. -/
def cnfTellsUptoRow : OpenClaim := { program := "ytmodipglnngghaa", sum := "21ea1defd4329eb06c57ffe7e076b6c84b78bd73ea4188d5b5734403167c0276", func := "latchwork/latchworklaw.CnfTells", spec := "cnfTells", unfollowed := true, recurses := true, plainKeys := false, apart := false, narrowed := true }
def CnfTellsUptoSaid : Prop := cnfTellsUptoRow.holds Try.pinned (OpenSpec.upto cnfTellsSpec)

/-- 'latchworklaw.ModelChecks', WHERE WHAT IT READS IS OF BULK AT MOST 1048576: true; the input reads as it did. -/
def modelChecksUptoRow : OpenClaim := { program := "ytmodipglnngghaa", sum := "21ea1defd4329eb06c57ffe7e076b6c84b78bd73ea4188d5b5734403167c0276", func := "latchwork/latchworklaw.ModelChecks", spec := "modelChecks", unfollowed := true, recurses := true, plainKeys := false, apart := false, narrowed := true }
def ModelChecksUptoSaid : Prop := modelChecksUptoRow.holds Try.pinned (OpenSpec.upto modelChecksSpec)

/-- 'latchworklaw.ModelCones', WHERE WHAT IT READS IS OF BULK AT MOST 1048576: true; the input reads as it did. -/
def modelConesUptoRow : OpenClaim := { program := "ytmodipglnngghaa", sum := "21ea1defd4329eb06c57ffe7e076b6c84b78bd73ea4188d5b5734403167c0276", func := "latchwork/latchworklaw.ModelCones", spec := "modelCones", unfollowed := true, recurses := true, plainKeys := false, apart := false, narrowed := true }
def ModelConesUptoSaid : Prop := modelConesUptoRow.holds Try.pinned (OpenSpec.upto modelConesSpec)

/-- 'latchworklaw.ModelAgain', WHERE WHAT IT READS IS OF BULK AT MOST 1048576: true; the input reads as it did. -/
def modelAgainUptoRow : OpenClaim := { program := "ytmodipglnngghaa", sum := "21ea1defd4329eb06c57ffe7e076b6c84b78bd73ea4188d5b5734403167c0276", func := "latchwork/latchworklaw.ModelAgain", spec := "modelAgain", unfollowed := true, recurses := true, plainKeys := false, apart := false, narrowed := true }
def ModelAgainUptoSaid : Prop := modelAgainUptoRow.holds Try.pinned (OpenSpec.upto modelAgainSpec)

end Rows
end Go.Proofs.Ytmodipglnngghaa
