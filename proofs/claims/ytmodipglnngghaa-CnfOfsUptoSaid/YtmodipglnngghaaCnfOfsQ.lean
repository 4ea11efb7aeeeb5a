/-
  CnfOfs: the given statement holds: the call answers true, and what it was handed reads as it did.
-/
import Derived.Test.YtmodipglnngghaaCnfOfsP
import Derived.Test.YtmodipglnngghaaRows
import Derived.JoinedCond
import Derived.Deep.CondSized
import Derived.WalkKit
import Derived.ProofKit
import Derived.OpenShut
import Derived.ShutString
import Derived.ChangeOld
import Derived.Below
set_option linter.unusedVariables false
set_option linter.unusedSimpArgs false
set_option linter.unnecessarySimpa false

/-! CnfOfs: the given statement holds: the call answers true, and what it was handed reads as it did. -/
section
namespace Go.Proofs.Ytmodipglnngghaa.cnfOfsDone
open Go Go.Lw Go.ChangeShapes Go.WideShapes Go.RowKit
set_option maxRecDepth 100000

/-- The machine's number of a function, and the program's. -/
def links : List (Nat × Nat) := [(2, 15), (3, 16), (6, 19), (10, 22), (15, 6), (16, 26), (17, 27), (18, 28), (19, 29), (32, 38), (46, 49), (47, 50), (50, 53), (51, 54), (53, 56), (54, 57), (55, 58), (56, 59), (57, 60), (58, 61), (59, 62), (60, 63), (70, 73), (85, 89), (86, 88), (88, 90), (90, 93), (91, 94), (92, 95), (93, 96), (94, 97), (95, 98), (98, 101), (99, 104), (100, 103), (111, 116), (112, 117), (113, 118), (116, 102), (117, 121)]

theorem linked : (links.all fun x => linkF Try.prog (fiOf links) pg x.1 x.2) = true := by decide +kernel

theorem link : LinkOk Try.prog (fiOf links) pg := link_nolib linked (by decide +kernel)

theorem own : ownKnob Try.prog.godebug = none := by kernel_rfl
theorem laidOut : laidOutB Try.prog = true := by kernel_rfl


theorem lifted (os : Os) (started : os.Started) (H : Type) (enc : TypeId × Value → H) (F : Stop.Interp) :
    ReturnsInHanded {} Try.checked os 6 .any ((Rows.OpenSpec.upto Rows.cnfOfsSpec).pre6 enc Try.prog Try.f6 Rows.cnfOfsUptoRow.domain false) (((Rows.OpenSpec.upto Rows.cnfOfsSpec).at F).post enc Try.prog Try.f6 false true false false) := by
  refine returnsInHanded_of_cond_sized (C := Try.checked) (s := (Rows.OpenSpec.upto Rows.cnfOfsSpec)) (k := Rows.uptoSmall) rfl own started (by kernel_rfl) Try.func6
    (OpenSpec.witness (enc := enc) (C := Try.checked) (s := (Rows.OpenSpec.upto Rows.cnfOfsSpec)) (k := Rows.uptoSmall) rfl false ⟨#[], #[.agg #[.int .i64 0, .slice none 0 0], .slice none 0 0], []⟩ 8 (by kernel_rfl) (by kernel_rfl) (by kernel_rfl)
      (x := ([.agg [.lit (.int .i64 0), .nil], .nil], [], [])) (by kernel_rfl) rfl (by kernel_rfl)) ?_
  intro W base args ds gs before hval hW hcnd hkk hwt _
  have hW' := hW
  obtain ⟨p, q, hA, hV, rfl, hfz, hnd⟩ := hW
  have hA0 : DataW.TrodAll enc Try.prog W 0 (fun _ => true) true Try.f6.params.toList args.toList ds p := hA
  obtain ⟨rfl, rfl⟩ := trodVars_none hV
  have hw : (DataW.weightsEach Try.prog Try.f6.params.toList ds).all (· ≤ reachBytes) = true := by
    have h : (DataW.weightsEach Try.prog (Try.f6.params.toList ++ []) (ds ++ [])).all (· ≤ reachBytes) = true := hwt
    rwa [List.append_nil, List.append_nil] at h
  have hval2 : ∀ (j : Nat) t v, Try.f6.params.toList[j]? = some t → args.toList[j]? = some v → Value.okWide Try.prog W .any base t v := fun j t v h1 h2 => hval j t v (by rw [← Array.getElem?_toList]; exact h1) (by rw [← Array.getElem?_toList]; exact h2)
  have hrun := row_ok_bulk (enc := enc) (P := Try.prog) (fi := fiOf links) (pg := pg) (f := 15) (F := 6) (n := 20) (by decide +kernel) link rfl (L := insCnfOfs) (by rw [Try.params6]; with_unfolding_all rfl) cnfOfs_true hA0 hval2 hw (bulk_small hkk)
  have hA1 := hA0
  rw [Try.params6] at hA1
  obtain ⟨v0, vs0, d0, ds0, p0, q0, hargs, rfl, rfl, h0, r0⟩ := trodAll_cons hA1
  obtain ⟨v1, vs1, d1, ds1, p1, q1, rfl, rfl, rfl, h1, r1⟩ := trodAll_cons r0
  obtain ⟨rfl, rfl, rfl⟩ := trodAll_nil r1
  obtain rfl : args = #[v0, v1] := by cases args; simp_all
  refine hrun.mono fun e W' ⟨he, bel⟩ => ?_
  subst he
  exact ⟨_, rfl, _, _, _, [], _, [], hW', trodAll_mk1 (shut_bool Try.underlying4 _), trodAll_below laidOut bel (by kernel_rfl) hA0, rfl, bel.frame _, fun h => by cases h⟩

theorem over : Rows.cnfOfsUptoRow.holds Try.pinned (Rows.OpenSpec.upto Rows.cnfOfsSpec) :=
  OpenClaim.holds_of_cond 6 Try.f6 rfl rfl rfl rfl rfl rfl rfl ⟨rfl, rfl, rfl, rfl, rfl⟩ rfl rfl rfl rfl rfl (by kernel_rfl) Try.func6 (by kernel_rfl)
    (of_decide_eq_true (by kernel_rfl)) (by unfold Func.isWrapper; first | (rw [if_pos (by decide +kernel)]; kernel_rfl) | (rw [if_neg (by decide +kernel)]; exact ⟨rfl, rfl⟩))
    (fun os started H enc _ F => lifted os started H enc F)

theorem proved : Rows.CnfOfsUptoSaid := over
#print axioms proved
end Go.Proofs.Ytmodipglnngghaa.cnfOfsDone
end
