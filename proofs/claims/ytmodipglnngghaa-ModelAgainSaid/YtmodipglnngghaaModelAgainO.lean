/-
  ModelAgain: the given statement holds: the call answers true, and what it was handed reads as it did.
-/
import Derived.Test.YtmodipglnngghaaModelAgainN
import Derived.Test.YtmodipglnngghaaRows
import Derived.WalkKit
import Derived.ProofKit
import Derived.OpenShut
import Derived.ShutString
import Derived.ChangeOld
import Derived.Below
set_option linter.unusedVariables false
set_option linter.unusedSimpArgs false
set_option linter.unnecessarySimpa false

/-! ModelAgain: the given statement holds: the call answers true, and what it was handed reads as it did. -/
section
namespace Go.Proofs.Ytmodipglnngghaa.modelAgainDone
open Go Go.Lw Go.ChangeShapes Go.WideShapes Go.RowKit
set_option maxRecDepth 100000

/-- The machine's number of a function, and the program's. -/
def links : List (Nat × Nat) := [(22, 31), (35, 40), (37, 42), (38, 43), (42, 46), (44, 13), (45, 48), (46, 49), (61, 64), (62, 65), (63, 66), (64, 67), (65, 68), (71, 74), (75, 78), (76, 79), (77, 80), (78, 81), (79, 82), (80, 83), (81, 84), (82, 85), (86, 88), (101, 105), (103, 107), (104, 108), (105, 109), (106, 110), (107, 111), (108, 112), (109, 114), (110, 115), (111, 116), (118, 113), (119, 122), (120, 84), (121, 86)]

theorem linked : (links.all fun x => linkF Try.prog (fiOf links) pg x.1 x.2) = true := by decide +kernel

theorem link : LinkOk Try.prog (fiOf links) pg := by
  refine link_of linked ?_
  intro f F L hm hp
  have h : ∀ x ∈ links, isLib pg x.1 = true → x = (110, 115) ∨ x = (119, 122) ∨ x = (121, 86) := by decide +kernel
  rcases h (f, F) hm (by simp [isLib, hp]) with hx | hx | hx
  · cases hx
    have e : L = libGrow 2 16 := by
      have e2 : pg 110 = some (.lib (libGrow 2 16)) := rfl
      rw [e2] at hp; cases hp; rfl
    subst e
    exact fun vs gh r gh' h _ => grow_link (by decide +kernel) vs gh r gh' h
  · cases hx
    have e : L = libGrow 1 8 := by
      have e2 : pg 119 = some (.lib (libGrow 1 8)) := rfl
      rw [e2] at hp; cases hp; rfl
    subst e
    exact fun vs gh r gh' h _ => grow_link (by decide +kernel) vs gh r gh' h
  · cases hx
    have e : L = libCloneK 8 := by
      have e2 : pg 121 = some (.lib (libCloneK 8)) := rfl
      rw [e2] at hp; cases hp; rfl
    subst e
    exact fun vs gh r gh' h _ => cloneK_link (by decide +kernel) (by decide +kernel) vs gh r gh' h

theorem own : ownKnob Try.prog.godebug = none := by kernel_rfl
theorem laidOut : laidOutB Try.prog = true := by kernel_rfl


theorem lifted (os : Os) (started : os.Started) (H : Type) (enc : TypeId × Value → H) :
    ReturnsInHanded {} Try.checked os 13 .any (Rows.modelAgainSpec.pre6 enc Try.prog Try.f13 Rows.modelAgainRow.domain false) (Rows.modelAgainSpec.post enc Try.prog Try.f13 false true false false) := by
  refine returnsInHanded_of_change_sized (C := Try.checked) own started (by kernel_rfl) Try.func13
    (ChangeSpec.witness6 (enc := enc) (C := Try.checked) false ⟨#[], #[.agg #[.slice none 0 0, .slice none 0 0, .slice none 0 0, .slice none 0 0, .slice none 0 0], .slice none 0 0], []⟩ 8 (by kernel_rfl) (by kernel_rfl) (by kernel_rfl) (by kernel_rfl)) ?_
  intro W base args ds gs before hval hW hcnd hwt _
  have hW' := hW
  obtain ⟨p, q, hA, hV, rfl, hfz, hnd⟩ := hW
  have hA0 : DataW.TrodAll enc Try.prog W 0 (fun _ => true) true Try.f13.params.toList args.toList ds p := hA
  obtain ⟨rfl, rfl⟩ := trodVars_none hV
  have hw : (DataW.weightsEach Try.prog Try.f13.params.toList ds).all (· ≤ reachBytes) = true := by
    have h : (DataW.weightsEach Try.prog (Try.f13.params.toList ++ []) (ds ++ [])).all (· ≤ reachBytes) = true := hwt
    rwa [List.append_nil, List.append_nil] at h
  have hval2 : ∀ (j : Nat) t v, Try.f13.params.toList[j]? = some t → args.toList[j]? = some v → Value.okWide Try.prog W .any base t v := fun j t v h1 h2 => hval j t v (by rw [← Array.getElem?_toList]; exact h1) (by rw [← Array.getElem?_toList]; exact h2)
  have hrun := row_ok (enc := enc) (P := Try.prog) (fi := fiOf links) (pg := pg) (f := 44) (F := 13) (n := 20) (by decide +kernel) link rfl (L := insModelAgain) (by rw [Try.params13]; with_unfolding_all rfl) modelAgain_true hA0 hval2 hw
  have hA1 := hA0
  rw [Try.params13] at hA1
  obtain ⟨v0, vs0, d0, ds0, p0, q0, hargs, rfl, rfl, h0, r0⟩ := trodAll_cons hA1
  obtain ⟨v1, vs1, d1, ds1, p1, q1, rfl, rfl, rfl, h1, r1⟩ := trodAll_cons r0
  obtain ⟨rfl, rfl, rfl⟩ := trodAll_nil r1
  obtain rfl : args = #[v0, v1] := by cases args; simp_all
  refine hrun.mono fun e W' ⟨he, bel⟩ => ?_
  subst he
  exact ⟨_, rfl, _, _, _, [], _, [], hW', trodAll_mk1 (shut_bool Try.underlying4 _), trodAll_below laidOut bel (by kernel_rfl) hA0, rfl, bel.frame _, fun h => by cases h⟩

theorem over : Rows.modelAgainRow.holds Try.pinned (OpenSpec.ofChange Rows.modelAgainSpec) :=
  OpenClaim.holds_of_wide 13 Try.f13 rfl rfl rfl rfl rfl rfl rfl ⟨rfl, rfl, rfl, rfl, rfl⟩ rfl rfl rfl rfl rfl (by kernel_rfl) Try.func13 (by kernel_rfl)
    (of_decide_eq_true (by kernel_rfl)) (by unfold Func.isWrapper; first | (rw [if_pos (by decide +kernel)]; kernel_rfl) | (rw [if_neg (by decide +kernel)]; exact ⟨rfl, rfl⟩))
    (fun os started H enc _ => lifted os started H enc)

theorem proved : Rows.ModelAgainSaid := over
#print axioms proved
end Go.Proofs.Ytmodipglnngghaa.modelAgainDone
end
