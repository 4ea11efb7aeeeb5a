/-
  BlastChecks: the given statement holds: the call answers true, and what it was handed reads as it did.
-/
import Derived.Test.YtmodipglnngghabBlastChecksP
import Derived.Test.YtmodipglnngghabRows
import Derived.JoinedCond
import Derived.Deep.CondSized
import Derived.WalkKit
import Derived.ProofKit
import Derived.OpenShut
import Derived.ShutString
import Derived.ChangeOld
import Derived.Below
set_option linter.unusedVariables false
set_option linter.unusedSimpArgs false
set_option linter.unnecessarySimpa false

/-! BlastChecks: the given statement holds: the call answers true, and what it was handed reads as it did. -/
section
namespace Go.Proofs.Ytmodipglnngghab.blastChecksDone
open Go Go.Lw Go.ChangeShapes Go.WideShapes Go.RowKit
set_option maxRecDepth 100000

/-- The machine's number of a function, and the program's. -/
def links : List (Nat × Nat) := [(2, 92), (3, 93), (6, 86), (10, 94), (22, 146), (38, 62), (47, 90), (48, 132), (49, 163), (50, 68), (51, 131), (61, 190), (62, 143), (63, 145), (64, 191), (65, 107), (66, 112), (75, 69), (76, 102), (77, 103), (78, 104), (79, 105), (80, 106), (81, 148), (83, 88), (85, 128), (86, 127), (87, 158), (88, 129), (96, 153), (101, 64), (103, 144), (104, 113), (105, 147), (106, 149), (107, 91), (108, 150), (109, 152), (111, 126), (114, 192), (115, 193), (118, 151), (119, 130), (121, 88), (139, 72), (143, 111), (208, 126), (210, 8), (211, 42), (212, 43), (213, 44), (214, 45), (215, 89), (217, 95), (218, 133), (219, 159), (220, 161), (221, 160), (222, 162), (223, 164), (224, 165), (225, 166), (226, 167), (227, 168), (228, 170), (229, 169), (230, 171), (231, 172), (232, 173), (233, 174), (234, 175), (235, 176), (236, 205), (237, 206), (238, 207), (343, 87), (344, 91)]

theorem linked : (links.all fun x => linkF Try.prog (fiOf links) pg x.1 x.2) = true := by decide +kernel

theorem link : LinkOk Try.prog (fiOf links) pg := by
  refine link_of linked ?_
  intro f F L hm hp
  have h : ∀ x ∈ links, isLib pg x.1 = true → x = (83, 88) ∨ x = (87, 158) ∨ x = (119, 130) ∨ x = (121, 88) := by decide +kernel
  rcases h (f, F) hm (by simp [isLib, hp]) with hx | hx | hx | hx
  · cases hx
    have e : L = libClone 1 8 := by
      have e2 : pg 83 = some (.lib (libClone 1 8)) := rfl
      rw [e2] at hp; cases hp; rfl
    subst e
    exact fun vs gh r gh' h _ => clone_link (by decide +kernel) (by decide +kernel) vs gh r gh' h
  · cases hx
    have e : L = libClone 2 16 := by
      have e2 : pg 87 = some (.lib (libClone 2 16)) := rfl
      rw [e2] at hp; cases hp; rfl
    subst e
    exact fun vs gh r gh' h _ => clone_link (by decide +kernel) (by decide +kernel) vs gh r gh' h
  · cases hx
    have e : L = libGrow 1 8 := by
      have e2 : pg 119 = some (.lib (libGrow 1 8)) := rfl
      rw [e2] at hp; cases hp; rfl
    subst e
    exact fun vs gh r gh' h _ => grow_link (by decide +kernel) vs gh r gh' h
  · cases hx
    have e : L = libCloneK 8 := by
      have e2 : pg 121 = some (.lib (libCloneK 8)) := rfl
      rw [e2] at hp; cases hp; rfl
    subst e
    exact fun vs gh r gh' h _ => cloneK_link (by decide +kernel) (by decide +kernel) vs gh r gh' h

theorem own : ownKnob Try.prog.godebug = none := by kernel_rfl
theorem laidOut : laidOutB Try.prog = true := by kernel_rfl


theorem lifted (os : Os) (started : os.Started) (H : Type) (enc : TypeId × Value → H) (F : Stop.Interp) :
    ReturnsInHanded {} Try.checked os 8 .any ((Rows.OpenSpec.upto Rows.blastChecksSpec).pre6 enc Try.prog Try.f8 Rows.blastChecksUptoRow.domain false) (((Rows.OpenSpec.upto Rows.blastChecksSpec).at F).post enc Try.prog Try.f8 false true false false) := by
  refine returnsInHanded_of_cond_sized (C := Try.checked) (s := (Rows.OpenSpec.upto Rows.blastChecksSpec)) (k := Rows.uptoSmall) rfl own started (by kernel_rfl) Try.func8
    (OpenSpec.witness (enc := enc) (C := Try.checked) (s := (Rows.OpenSpec.upto Rows.blastChecksSpec)) (k := Rows.uptoSmall) rfl false ⟨#[], #[.agg #[.int .i64 0, .slice none 0 0, .int .i64 0, .int .i64 0, .slice none 0 0, .slice none 0 0, .slice none 0 0, .slice none 0 0]], []⟩ 8 (by kernel_rfl) (by kernel_rfl) (by kernel_rfl)
      (x := ([.agg [.agg [.lit (.int .i64 0), .nil], .lit (.int .i64 0), .lit (.int .i64 0), .nil, .nil, .nil, .nil]], [], [])) (by kernel_rfl) rfl (by kernel_rfl)) ?_
  intro W base args ds gs before hval hW hcnd hkk hwt _
  have hW' := hW
  obtain ⟨p, q, hA, hV, rfl, hfz, hnd⟩ := hW
  have hA0 : DataW.TrodAll enc Try.prog W 0 (fun _ => true) true Try.f8.params.toList args.toList ds p := hA
  obtain ⟨rfl, rfl⟩ := trodVars_none hV
  have hw : (DataW.weightsEach Try.prog Try.f8.params.toList ds).all (· ≤ reachBytes) = true := by
    have h : (DataW.weightsEach Try.prog (Try.f8.params.toList ++ []) (ds ++ [])).all (· ≤ reachBytes) = true := hwt
    rwa [List.append_nil, List.append_nil] at h
  have hval2 : ∀ (j : Nat) t v, Try.f8.params.toList[j]? = some t → args.toList[j]? = some v → Value.okWide Try.prog W .any base t v := fun j t v h1 h2 => hval j t v (by rw [← Array.getElem?_toList]; exact h1) (by rw [← Array.getElem?_toList]; exact h2)
  have hrun := row_ok_bulk (enc := enc) (P := Try.prog) (fi := fiOf links) (pg := pg) (f := 210) (F := 8) (n := 20) (by decide +kernel) link rfl (L := insBlastChecks) (by rw [Try.params8]; with_unfolding_all rfl) blastChecks_true hA0 hval2 hw (bulk_small hkk)
  have hA1 := hA0
  rw [Try.params8] at hA1
  obtain ⟨v0, vs0, d0, ds0, p0, q0, hargs, rfl, rfl, h0, r0⟩ := trodAll_cons hA1
  obtain ⟨rfl, rfl, rfl⟩ := trodAll_nil r0
  obtain rfl : args = #[v0] := by cases args; simp_all
  refine hrun.mono fun e W' ⟨he, bel⟩ => ?_
  subst he
  exact ⟨_, rfl, _, _, _, [], _, [], hW', trodAll_mk1 (shut_bool Try.underlying4 _), trodAll_below laidOut bel (by kernel_rfl) hA0, rfl, bel.frame _, fun h => by cases h⟩

theorem over : Rows.blastChecksUptoRow.holds Try.pinned (Rows.OpenSpec.upto Rows.blastChecksSpec) :=
  OpenClaim.holds_of_cond 8 Try.f8 rfl rfl rfl rfl rfl rfl rfl ⟨rfl, rfl, rfl, rfl, rfl⟩ rfl rfl rfl rfl rfl (by kernel_rfl) Try.func8 (by kernel_rfl)
    (of_decide_eq_true (by kernel_rfl)) (by unfold Func.isWrapper; first | (rw [if_pos (by decide +kernel)]; kernel_rfl) | (rw [if_neg (by decide +kernel)]; exact ⟨rfl, rfl⟩))
    (fun os started H enc _ F => lifted os started H enc F)

theorem proved : Rows.BlastChecksUptoSaid := over
#print axioms proved
end Go.Proofs.Ytmodipglnngghab.blastChecksDone
end
