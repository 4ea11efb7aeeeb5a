/-
  EvalValues: the given statement holds: the call answers true, and what it was handed reads as it did.
-/
import Derived.Test.YtmodipglnngghabEvalValuesO
import Derived.Test.YtmodipglnngghabRows
import Derived.WalkKit
import Derived.ProofKit
import Derived.OpenShut
import Derived.ShutString
import Derived.ChangeOld
import Derived.Below
set_option linter.unusedVariables false
set_option linter.unusedSimpArgs false
set_option linter.unnecessarySimpa false

/-! EvalValues: the given statement holds: the call answers true, and what it was handed reads as it did. -/
section
namespace Go.Proofs.Ytmodipglnngghab.evalValuesDone
open Go Go.Lw Go.ChangeShapes Go.WideShapes Go.RowKit
set_option maxRecDepth 100000

/-- The machine's number of a function, and the program's. -/
def links : List (Nat × Nat) := [(22, 146), (23, 110), (26, 109), (27, 50), (28, 75), (36, 14), (38, 62), (39, 54), (40, 18), (46, 70), (50, 68), (61, 190), (62, 143), (63, 145), (64, 191), (65, 107), (66, 112), (67, 114), (68, 115), (69, 116), (72, 66), (73, 47), (74, 67), (75, 69), (76, 102), (77, 103), (78, 104), (79, 105), (80, 106), (81, 148), (86, 127), (96, 153), (97, 96), (101, 64), (102, 76), (103, 144), (104, 113), (105, 147), (106, 149), (107, 91), (108, 150), (109, 152), (111, 126), (114, 192), (115, 193), (118, 151), (119, 130), (123, 13), (124, 15), (126, 17), (127, 4), (128, 19), (129, 20), (130, 21), (131, 22), (132, 23), (133, 24), (134, 25), (135, 63), (136, 65), (137, 55), (138, 71), (139, 72), (140, 73), (141, 74), (142, 108), (143, 111)]

theorem linked : (links.all fun x => linkF Try.prog (fiOf links) pg x.1 x.2) = true := by decide +kernel

theorem link : LinkOk Try.prog (fiOf links) pg := by
  refine link_of linked ?_
  intro f F L hm hp
  have h : ∀ x ∈ links, isLib pg x.1 = true → x = (119, 130) := by decide +kernel
  rcases h (f, F) hm (by simp [isLib, hp]) with hx
  · cases hx
    have e : L = libGrow 1 8 := by
      have e2 : pg 119 = some (.lib (libGrow 1 8)) := rfl
      rw [e2] at hp; cases hp; rfl
    subst e
    exact fun vs gh r gh' h _ => grow_link (by decide +kernel) vs gh r gh' h

theorem own : ownKnob Try.prog.godebug = none := by kernel_rfl
theorem laidOut : laidOutB Try.prog = true := by kernel_rfl


theorem lifted (os : Os) (started : os.Started) (H : Type) (enc : TypeId × Value → H) :
    ReturnsInHanded {} Try.checked os 4 .any (Rows.evalValuesSpec.pre6 enc Try.prog Try.f4 Rows.evalValuesRow.domain false) (Rows.evalValuesSpec.post enc Try.prog Try.f4 false true false false) := by
  refine returnsInHanded_of_change_sized (C := Try.checked) own started (by kernel_rfl) Try.func4
    (ChangeSpec.witness6 (enc := enc) (C := Try.checked) false ⟨#[], #[.agg #[.slice none 0 0, .slice none 0 0, .slice none 0 0, .slice none 0 0, .slice none 0 0], .slice none 0 0, .slice none 0 0], []⟩ 8 (by kernel_rfl) (by kernel_rfl) (by kernel_rfl) (by kernel_rfl)) ?_
  intro W base args ds gs before hval hW hcnd hwt _
  have hW' := hW
  obtain ⟨p, q, hA, hV, rfl, hfz, hnd⟩ := hW
  have hA0 : DataW.TrodAll enc Try.prog W 0 (fun _ => true) true Try.f4.params.toList args.toList ds p := hA
  obtain ⟨rfl, rfl⟩ := trodVars_none hV
  have hw : (DataW.weightsEach Try.prog Try.f4.params.toList ds).all (· ≤ reachBytes) = true := by
    have h : (DataW.weightsEach Try.prog (Try.f4.params.toList ++ []) (ds ++ [])).all (· ≤ reachBytes) = true := hwt
    rwa [List.append_nil, List.append_nil] at h
  have hval2 : ∀ (j : Nat) t v, Try.f4.params.toList[j]? = some t → args.toList[j]? = some v → Value.okWide Try.prog W .any base t v := fun j t v h1 h2 => hval j t v (by rw [← Array.getElem?_toList]; exact h1) (by rw [← Array.getElem?_toList]; exact h2)
  have hrun := row_ok (enc := enc) (P := Try.prog) (fi := fiOf links) (pg := pg) (f := 127) (F := 4) (n := 20) (by decide +kernel) link rfl (L := insEvalValues) (by rw [Try.params4]; with_unfolding_all rfl) evalValues_true hA0 hval2 hw
  have hA1 := hA0
  rw [Try.params4] at hA1
  obtain ⟨v0, vs0, d0, ds0, p0, q0, hargs, rfl, rfl, h0, r0⟩ := trodAll_cons hA1
  obtain ⟨v1, vs1, d1, ds1, p1, q1, rfl, rfl, rfl, h1, r1⟩ := trodAll_cons r0
  obtain ⟨v2, vs2, d2, ds2, p2, q2, rfl, rfl, rfl, h2, r2⟩ := trodAll_cons r1
  obtain ⟨rfl, rfl, rfl⟩ := trodAll_nil r2
  obtain rfl : args = #[v0, v1, v2] := by cases args; simp_all
  refine hrun.mono fun e W' ⟨he, bel⟩ => ?_
  subst he
  exact ⟨_, rfl, _, _, _, [], _, [], hW', trodAll_mk1 (shut_bool Try.underlying4 _), trodAll_below laidOut bel (by kernel_rfl) hA0, rfl, bel.frame _, fun h => by cases h⟩

theorem over : Rows.evalValuesRow.holds Try.pinned (OpenSpec.ofChange Rows.evalValuesSpec) :=
  OpenClaim.holds_of_wide 4 Try.f4 rfl rfl rfl rfl rfl rfl rfl ⟨rfl, rfl, rfl, rfl, rfl⟩ rfl rfl rfl rfl rfl (by kernel_rfl) Try.func4 (by kernel_rfl)
    (of_decide_eq_true (by kernel_rfl)) (by unfold Func.isWrapper; first | (rw [if_pos (by decide +kernel)]; kernel_rfl) | (rw [if_neg (by decide +kernel)]; exact ⟨rfl, rfl⟩))
    (fun os started H enc _ => lifted os started H enc)

theorem proved : Rows.EvalValuesSaid := over
#print axioms proved
end Go.Proofs.Ytmodipglnngghab.evalValuesDone
end
