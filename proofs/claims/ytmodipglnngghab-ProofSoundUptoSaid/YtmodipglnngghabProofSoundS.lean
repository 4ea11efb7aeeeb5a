/-
  ProofSound: the given statement holds: the call answers true, and what it was handed reads as it did.
-/
import Derived.Test.YtmodipglnngghabProofSoundR
import Derived.Test.YtmodipglnngghabRows
import Derived.KernelRfl
import Derived.JoinedCond
import Derived.Deep.CondSized
import Derived.WalkKit
import Derived.ProofKit
import Derived.OpenShut
import Derived.ShutString
import Derived.ChangeOld
import Derived.Below
set_option linter.unusedVariables false
set_option linter.unusedSimpArgs false
set_option linter.unnecessarySimpa false

/-! ProofSound: the given statement holds: the call answers true, and what it was handed reads as it did. -/
section
namespace Go.Proofs.Ytmodipglnngghab.proofSoundDone
open Go Go.Lw Go.ChangeShapes Go.WideShapes Go.RowKit
set_option maxRecDepth 100000

def laysSort_ren : Go.Shelf.Ren := ⟨fun | 189 => 124 | 125 => 157 | 257 => 156 | 128 => 203 | 129 => 204 | 294 => 194 | 295 => 195 | 296 => 196 | 297 => 197 | 298 => 198 | 299 => 199 | 216 => 200 | 300 => 201 | 301 => 202 | 328 => 213 | 329 => 214 | 330 => 215 | 331 => 216 | 332 => 217 | 215 => 218 | 343 => 221 | n => n, fun | 28 => 24 | 3 => 3 | 46 => 188 | 0 => 0 | 51 => 222 | 53 => 224 | 4 => 4 | 183 => 216 | 182 => 215 | 131 => 116 | 5 => 5 | 9 => 9 | 218 => 228 | 222 => 232 | 228 => 235 | 229 => 138 | n => n, fun | n => n⟩
theorem laysSort : Go.Proofs.Lays.n189 Try.prog laysSort_ren := {
  mixed := by kernel_rfl
  f125 := Try.func157.trans (congrArg some (by kernel_rfl))
  f128 := Try.func203.trans (congrArg some (by kernel_rfl))
  f129 := Try.func204.trans (congrArg some (by kernel_rfl))
  f189 := Try.func124.trans (congrArg some (by kernel_rfl))
  f215 := Try.func218.trans (congrArg some (by kernel_rfl))
  f216 := Try.func200.trans (congrArg some (by kernel_rfl))
  f257 := Try.func156.trans (congrArg some (by kernel_rfl))
  f294 := Try.func194.trans (congrArg some (by kernel_rfl))
  f295 := Try.func195.trans (congrArg some (by kernel_rfl))
  f296 := Try.func196.trans (congrArg some (by kernel_rfl))
  f297 := Try.func197.trans (congrArg some (by kernel_rfl))
  f298 := Try.func198.trans (congrArg some (by kernel_rfl))
  f299 := Try.func199.trans (congrArg some (by kernel_rfl))
  f300 := Try.func201.trans (congrArg some (by kernel_rfl))
  f301 := Try.func202.trans (congrArg some (by kernel_rfl))
  f328 := Try.func213.trans (congrArg some (by kernel_rfl))
  f329 := Try.func214.trans (congrArg some (by kernel_rfl))
  f330 := Try.func215.trans (congrArg some (by kernel_rfl))
  f331 := Try.func216.trans (congrArg some (by kernel_rfl))
  f332 := Try.func217.trans (congrArg some (by kernel_rfl))
  f343 := Try.func221.trans (congrArg some (by kernel_rfl))
  t0 := Try.underlying0
  a0 := Try.isAgg0
  z0 := Try.sizeOf0
  v0 := Try.zeroValue0
  t3 := Try.underlying3
  a3 := Try.isAgg3
  z3 := Try.sizeOf3
  v3 := Try.zeroValue3
  t4 := Try.underlying4
  a4 := Try.isAgg4
  z4 := Try.sizeOf4
  v4 := Try.zeroValue4
  t5 := Try.underlying5
  a5 := Try.isAgg5
  z5 := Try.sizeOf5
  v5 := Try.zeroValue5
  t9 := Try.underlying9
  a9 := Try.isAgg9
  z9 := Try.sizeOf9
  v9 := Try.zeroValue9
  t28 := Try.underlying24
  a28 := Try.isAgg24
  z28 := Try.sizeOf24
  v28 := Try.zeroValue24
  t46 := Try.underlying188
  a46 := Try.isAgg188
  z46 := Try.sizeOf188
  v46 := Try.zeroValue188
  t51 := Try.underlying222
  a51 := Try.isAgg222
  z51 := Try.sizeOf222
  v51 := Try.zeroValue222
  t53 := Try.underlying224
  a53 := Try.isAgg224
  z53 := Try.sizeOf224
  v53 := Try.zeroValue224
  t131 := Try.underlying116
  a131 := Try.isAgg116
  z131 := Try.sizeOf116
  v131 := Try.zeroValue116
  t182 := Try.underlying215
  a182 := Try.isAgg215
  z182 := Try.sizeOf215
  v182 := Try.zeroValue215
  t183 := Try.underlying216
  a183 := Try.isAgg216
  z183 := Try.sizeOf216
  v183 := Try.zeroValue216
  t218 := Try.underlying228
  a218 := Try.isAgg228
  z218 := Try.sizeOf228
  v218 := Try.zeroValue228
  t222 := Try.underlying232
  a222 := Try.isAgg232
  z222 := Try.sizeOf232
  v222 := Try.zeroValue232
  t228 := Try.underlying235
  a228 := Try.isAgg235
  z228 := Try.sizeOf235
  v228 := Try.zeroValue235
  t229 := Try.underlying138
  a229 := Try.isAgg138
  z229 := Try.sizeOf138
  v229 := Try.zeroValue138 }
def laysCompact_ren : Go.Shelf.Ren := ⟨fun | 20 => 125 | n => n, fun | 22 => 24 | 3 => 3 | 4 => 4 | 0 => 0 | n => n, fun | n => n⟩
theorem laysCompact : Go.Proofs.Lays2.n20 Try.prog laysCompact_ren := {
  mixed := by kernel_rfl
  f20 := Try.func125.trans (congrArg some (by kernel_rfl))
  t0 := Try.underlying0
  a0 := Try.isAgg0
  z0 := Try.sizeOf0
  v0 := Try.zeroValue0
  t3 := Try.underlying3
  a3 := Try.isAgg3
  z3 := Try.sizeOf3
  v3 := Try.zeroValue3
  t4 := Try.underlying4
  a4 := Try.isAgg4
  z4 := Try.sizeOf4
  v4 := Try.zeroValue4
  t22 := Try.underlying24
  a22 := Try.isAgg24
  z22 := Try.sizeOf24
  v22 := Try.zeroValue24
  i3 := by kernel_rfl }

/-- The machine's number of a function, and the program's. -/
def links : List (Nat × Nat) := [(6, 86), (16, 97), (18, 56), (32, 57), (47, 90), (53, 134), (54, 135), (55, 136), (59, 79), (70, 98), (85, 128), (86, 127), (88, 129), (90, 177), (91, 178), (94, 120), (98, 137), (99, 140), (100, 139), (111, 126), (113, 155), (116, 138), (117, 179), (121, 88), (145, 34), (147, 38), (149, 39), (152, 10), (153, 80), (154, 81), (155, 82), (156, 84), (157, 85), (158, 121), (159, 122), (160, 123), (161, 124), (162, 125)]

theorem linked : (links.all fun x => linkF Try.prog (fiOf links) pg x.1 x.2) = true := by decide +kernel

theorem link : LinkOk Try.prog (fiOf links) pg := by
  refine link_of linked ?_
  intro f F L hm hp
  have h : ∀ x ∈ links, isLib pg x.1 = true → x = (121, 88) ∨ x = (160, 123) ∨ x = (161, 124) ∨ x = (162, 125) := by decide +kernel
  rcases h (f, F) hm (by simp [isLib, hp]) with hx | hx | hx | hx
  · cases hx
    have e : L = libCloneK 8 := by
      have e2 : pg 121 = some (.lib (libCloneK 8)) := rfl
      rw [e2] at hp; cases hp; rfl
    subst e
    exact fun vs gh r gh' h _ => cloneK_link (by decide +kernel) (by decide +kernel) vs gh r gh' h
  · cases hx
    have e : L = libGrow 1 24 := by
      have e2 : pg 160 = some (.lib (libGrow 1 24)) := rfl
      rw [e2] at hp; cases hp; rfl
    subst e
    exact fun vs gh r gh' h _ => grow_link (by decide +kernel) vs gh r gh' h
  · cases hx
    have e : L = libSortK := by
      have e2 : pg 161 = some (.lib (libSortK)) := rfl
      rw [e2] at hp; cases hp; rfl
    subst e
    exact fun vs gh r gh' h _ => sortK_link (ρ := laysSort_ren) laysSort vs gh r gh' h
  · cases hx
    have e : L = libCompactK := by
      have e2 : pg 162 = some (.lib (libCompactK)) := rfl
      rw [e2] at hp; cases hp; rfl
    subst e
    exact fun vs gh r gh' h _ => compactK_link (ρ := laysCompact_ren) laysCompact vs gh r gh' h

theorem own : ownKnob Try.prog.godebug = none := by kernel_rfl
theorem laidOut : laidOutB Try.prog = true := by kernel_rfl


theorem lifted (os : Os) (started : os.Started) (H : Type) (enc : TypeId × Value → H) (F : Stop.Interp) :
    ReturnsInHanded {} Try.checked os 10 .any ((Rows.OpenSpec.upto Rows.proofSoundSpec).pre6 enc Try.prog Try.f10 Rows.proofSoundUptoRow.domain false) (((Rows.OpenSpec.upto Rows.proofSoundSpec).at F).post enc Try.prog Try.f10 false true false false) := by
  refine returnsInHanded_of_cond_sized (C := Try.checked) (s := (Rows.OpenSpec.upto Rows.proofSoundSpec)) (k := Rows.uptoSmall) rfl own started (by kernel_rfl) Try.func10
    (OpenSpec.witness (enc := enc) (C := Try.checked) (s := (Rows.OpenSpec.upto Rows.proofSoundSpec)) (k := Rows.uptoSmall) rfl false ⟨#[], #[.agg #[.int .i64 0, .slice none 0 0], .slice none 0 0, .slice none 0 0], []⟩ 8 (by kernel_rfl) (by kernel_rfl) (by kernel_rfl)
      (x := ([.agg [.lit (.int .i64 0), .nil], .nil, .nil], [], [])) (by kernel_rfl) rfl (by kernel_rfl)) ?_
  intro W base args ds gs before hval hW hcnd hkk hwt _
  have hW' := hW
  obtain ⟨p, q, hA, hV, rfl, hfz, hnd⟩ := hW
  have hA0 : DataW.TrodAll enc Try.prog W 0 (fun _ => true) true Try.f10.params.toList args.toList ds p := hA
  obtain ⟨rfl, rfl⟩ := trodVars_none hV
  have hw : (DataW.weightsEach Try.prog Try.f10.params.toList ds).all (· ≤ reachBytes) = true := by
    have h : (DataW.weightsEach Try.prog (Try.f10.params.toList ++ []) (ds ++ [])).all (· ≤ reachBytes) = true := hwt
    rwa [List.append_nil, List.append_nil] at h
  have hval2 : ∀ (j : Nat) t v, Try.f10.params.toList[j]? = some t → args.toList[j]? = some v → Value.okWide Try.prog W .any base t v := fun j t v h1 h2 => hval j t v (by rw [← Array.getElem?_toList]; exact h1) (by rw [← Array.getElem?_toList]; exact h2)
  have hrun := row_ok_bulk (enc := enc) (P := Try.prog) (fi := fiOf links) (pg := pg) (f := 152) (F := 10) (n := 20) (by decide +kernel) link rfl (L := insProofSound) (by rw [Try.params10]; with_unfolding_all rfl) proofSound_true hA0 hval2 hw (bulk_small hkk)
  have hA1 := hA0
  rw [Try.params10] at hA1
  obtain ⟨v0, vs0, d0, ds0, p0, q0, hargs, rfl, rfl, h0, r0⟩ := trodAll_cons hA1
  obtain ⟨v1, vs1, d1, ds1, p1, q1, rfl, rfl, rfl, h1, r1⟩ := trodAll_cons r0
  obtain ⟨v2, vs2, d2, ds2, p2, q2, rfl, rfl, rfl, h2, r2⟩ := trodAll_cons r1
  obtain ⟨rfl, rfl, rfl⟩ := trodAll_nil r2
  obtain rfl : args = #[v0, v1, v2] := by cases args; simp_all
  refine hrun.mono fun e W' ⟨he, bel⟩ => ?_
  subst he
  exact ⟨_, rfl, _, _, _, [], _, [], hW', trodAll_mk1 (shut_bool Try.underlying4 _), trodAll_below laidOut bel (by kernel_rfl) hA0, rfl, bel.frame _, fun h => by cases h⟩

theorem over : Rows.proofSoundUptoRow.holds Try.pinned (Rows.OpenSpec.upto Rows.proofSoundSpec) :=
  OpenClaim.holds_of_cond 10 Try.f10 rfl rfl rfl rfl rfl rfl rfl ⟨rfl, rfl, rfl, rfl, rfl⟩ rfl rfl rfl rfl rfl (by kernel_rfl) Try.func10 (by kernel_rfl)
    (of_decide_eq_true (by kernel_rfl)) (by unfold Func.isWrapper; first | (rw [if_pos (by decide +kernel)]; kernel_rfl) | (rw [if_neg (by decide +kernel)]; exact ⟨rfl, rfl⟩))
    (fun os started H enc _ F => lifted os started H enc F)

theorem proved : Rows.ProofSoundUptoSaid := over
#print axioms proved
end Go.Proofs.Ytmodipglnngghab.proofSoundDone
end
