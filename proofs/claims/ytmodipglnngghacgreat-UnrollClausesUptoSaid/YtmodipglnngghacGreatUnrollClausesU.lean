/-
  UnrollClauses: the given statement holds: the call answers true, and what it was handed reads as it did.
-/
import Derived.Test.YtmodipglnngghacGreatUnrollClausesT
import Derived.Test.YtmodipglnngghacGreatRows
import Derived.KernelRfl
import Derived.JoinedCond
import Derived.Deep.CondSized
import Derived.WalkKit
import Derived.ProofKit
import Derived.OpenShut
import Derived.ShutString
import Derived.ChangeOld
import Derived.Below
set_option linter.unusedVariables false
set_option linter.unusedSimpArgs false
set_option linter.unnecessarySimpa false

/-! UnrollClauses: the given statement holds: the call answers true, and what it was handed reads as it did. -/
section
namespace Go.Proofs.YtmodipglnngghacGreat.unrollClausesDone
open Go Go.Lw Go.ChangeShapes Go.WideShapes Go.RowKit
set_option maxRecDepth 100000

def laysSort_ren : Go.Shelf.Ren := ⟨fun | 189 => 155 | 125 => 173 | 257 => 172 | 128 => 189 | 129 => 190 | 294 => 180 | 295 => 181 | 296 => 182 | 297 => 183 | 298 => 184 | 299 => 185 | 216 => 186 | 300 => 187 | 301 => 188 | 328 => 193 | 329 => 194 | 330 => 195 | 331 => 196 | 332 => 197 | 215 => 198 | 343 => 207 | n => n, fun | 28 => 24 | 3 => 3 | 46 => 209 | 0 => 0 | 51 => 220 | 53 => 222 | 4 => 4 | 183 => 214 | 182 => 213 | 131 => 127 | 5 => 5 | 9 => 9 | 218 => 224 | 222 => 228 | 228 => 235 | 229 => 115 | n => n, fun | n => n⟩
theorem laysSort : Go.Proofs.Lays.n189 Tryz.prog laysSort_ren := {
 mixed := by kernel_rfl
 f125 := Tryz.func173.trans (congrArg some (by kernel_rfl))
 f128 := Tryz.func189.trans (congrArg some (by kernel_rfl))
 f129 := Tryz.func190.trans (congrArg some (by kernel_rfl))
 f189 := Tryz.func155.trans (congrArg some (by kernel_rfl))
 f215 := Tryz.func198.trans (congrArg some (by kernel_rfl))
 f216 := Tryz.func186.trans (congrArg some (by kernel_rfl))
 f257 := Tryz.func172.trans (congrArg some (by kernel_rfl))
 f294 := Tryz.func180.trans (congrArg some (by kernel_rfl))
 f295 := Tryz.func181.trans (congrArg some (by kernel_rfl))
 f296 := Tryz.func182.trans (congrArg some (by kernel_rfl))
 f297 := Tryz.func183.trans (congrArg some (by kernel_rfl))
 f298 := Tryz.func184.trans (congrArg some (by kernel_rfl))
 f299 := Tryz.func185.trans (congrArg some (by kernel_rfl))
 f300 := Tryz.func187.trans (congrArg some (by kernel_rfl))
 f301 := Tryz.func188.trans (congrArg some (by kernel_rfl))
 f328 := Tryz.func193.trans (congrArg some (by kernel_rfl))
 f329 := Tryz.func194.trans (congrArg some (by kernel_rfl))
 f330 := Tryz.func195.trans (congrArg some (by kernel_rfl))
 f331 := Tryz.func196.trans (congrArg some (by kernel_rfl))
 f332 := Tryz.func197.trans (congrArg some (by kernel_rfl))
 f343 := Tryz.func207.trans (congrArg some (by kernel_rfl))
 t0 := Tryz.underlying0
 a0 := Tryz.isAgg0
 z0 := Tryz.sizeOf0
 v0 := Tryz.zeroValue0
 t3 := Tryz.underlying3
 a3 := Tryz.isAgg3
 z3 := Tryz.sizeOf3
 v3 := Tryz.zeroValue3
 t4 := Tryz.underlying4
 a4 := Tryz.isAgg4
 z4 := Tryz.sizeOf4
 v4 := Tryz.zeroValue4
 t5 := Tryz.underlying5
 a5 := Tryz.isAgg5
 z5 := Tryz.sizeOf5
 v5 := Tryz.zeroValue5
 t9 := Tryz.underlying9
 a9 := Tryz.isAgg9
 z9 := Tryz.sizeOf9
 v9 := Tryz.zeroValue9
 t28 := Tryz.underlying24
 a28 := Tryz.isAgg24
 z28 := Tryz.sizeOf24
 v28 := Tryz.zeroValue24
 t46 := Tryz.underlying209
 a46 := Tryz.isAgg209
 z46 := Tryz.sizeOf209
 v46 := Tryz.zeroValue209
 t51 := Tryz.underlying220
 a51 := Tryz.isAgg220
 z51 := Tryz.sizeOf220
 v51 := Tryz.zeroValue220
 t53 := Tryz.underlying222
 a53 := Tryz.isAgg222
 z53 := Tryz.sizeOf222
 v53 := Tryz.zeroValue222
 t131 := Tryz.underlying127
 a131 := Tryz.isAgg127
 z131 := Tryz.sizeOf127
 v131 := Tryz.zeroValue127
 t182 := Tryz.underlying213
 a182 := Tryz.isAgg213
 z182 := Tryz.sizeOf213
 v182 := Tryz.zeroValue213
 t183 := Tryz.underlying214
 a183 := Tryz.isAgg214
 z183 := Tryz.sizeOf214
 v183 := Tryz.zeroValue214
 t218 := Tryz.underlying224
 a218 := Tryz.isAgg224
 z218 := Tryz.sizeOf224
 v218 := Tryz.zeroValue224
 t222 := Tryz.underlying228
 a222 := Tryz.isAgg228
 z222 := Tryz.sizeOf228
 v222 := Tryz.zeroValue228
 t228 := Tryz.underlying235
 a228 := Tryz.isAgg235
 z228 := Tryz.sizeOf235
 v228 := Tryz.zeroValue235
 t229 := Tryz.underlying115
 a229 := Tryz.isAgg115
 z229 := Tryz.sizeOf115
 v229 := Tryz.zeroValue115 }
def laysCompact_ren : Go.Shelf.Ren := ⟨fun | 20 => 156 | n => n, fun | 22 => 24 | 3 => 3 | 4 => 4 | 0 => 0 | n => n, fun | n => n⟩
theorem laysCompact : Go.Proofs.Lays2.n20 Tryz.prog laysCompact_ren := {
 mixed := by kernel_rfl
 f20 := Tryz.func156.trans (congrArg some (by kernel_rfl))
 t0 := Tryz.underlying0
 a0 := Tryz.isAgg0
 z0 := Tryz.sizeOf0
 v0 := Tryz.zeroValue0
 t3 := Tryz.underlying3
 a3 := Tryz.isAgg3
 z3 := Tryz.sizeOf3
 v3 := Tryz.zeroValue3
 t4 := Tryz.underlying4
 a4 := Tryz.isAgg4
 z4 := Tryz.sizeOf4
 v4 := Tryz.zeroValue4
 t22 := Tryz.underlying24
 a22 := Tryz.isAgg24
 z22 := Tryz.sizeOf24
 v22 := Tryz.zeroValue24
 i3 := by kernel_rfl }

/-- The machine's number of a function, and the program's. -/
def links : List (Nat × Nat) := [(2, 92), (3, 93), (6, 138), (10, 94), (19, 26), (22, 100), (38, 27), (45, 59), (46, 35), (47, 142), (48, 66), (49, 115), (50, 32), (51, 145), (53, 86), (54, 90), (55, 85), (56, 56), (57, 58), (58, 24), (59, 143), (60, 60), (61, 146), (62, 96), (63, 99), (64, 147), (65, 98), (66, 130), (75, 34), (76, 61), (77, 62), (78, 63), (79, 64), (80, 65), (81, 103), (83, 140), (85, 168), (86, 106), (87, 110), (88, 151), (90, 144), (91, 88), (92, 57), (93, 53), (94, 169), (95, 36), (96, 154), (101, 68), (103, 97), (104, 101), (105, 102), (106, 104), (107, 105), (108, 107), (109, 109), (111, 149), (112, 95), (113, 179), (114, 170), (115, 171), (118, 108), (119, 148), (121, 140), (139, 69), (143, 129), (161, 155), (162, 156), (164, 71), (169, 131), (170, 132), (171, 157), (172, 106), (173, 159), (174, 160), (175, 161), (176, 162), (177, 163), (178, 164), (179, 165), (180, 166), (181, 173), (182, 189), (183, 190), (184, 158), (187, 175), (188, 176), (189, 178), (190, 177), (191, 191), (192, 192), (193, 194), (194, 195), (195, 199), (196, 200), (197, 201), (198, 202), (199, 203), (200, 204), (201, 205), (202, 206), (203, 208), (204, 209), (205, 210), (206, 211), (208, 149), (209, 174), (212, 84), (213, 52), (215, 141), (217, 28), (218, 67), (219, 111), (220, 113), (221, 112), (222, 114), (223, 116), (224, 117), (225, 118), (226, 119), (227, 120), (228, 122), (229, 121), (230, 123), (231, 124), (232, 125), (233, 126), (234, 127), (235, 128), (236, 150), (237, 152), (238, 153), (265, 49), (266, 29), (276, 51), (279, 70), (280, 72), (291, 87), (292, 89), (293, 91), (328, 6), (329, 22), (330, 23), (331, 25), (332, 9), (336, 48), (337, 50), (338, 54), (339, 55), (340, 7), (343, 139), (344, 105)]

theorem linked : (links.all fun x => linkF Tryz.prog (fiOf links) pg x.1 x.2) = true := by decide +kernel

theorem link : LinkOk Tryz.prog (fiOf links) pg := by
 refine j11a linked ?_
 intro f F L hm hp
 have h : ∀ x ∈ links, isLib pg x.1 = true → x = (83, 140) ∨ x = (87, 110) ∨ x = (119, 148) ∨ x = (121, 140) ∨ x = (161, 155) ∨ x = (162, 156) := by decide +kernel
 rcases h (f, F) hm (by simp [isLib, hp]) with hx | hx | hx | hx | hx | hx
 ·cases hx
  have e : L = libClone 1 8 := by
   have e2 : pg 83 = some (.lib (libClone 1 8)) := rfl
   rw [e2] at hp; cases hp; rfl
  subst e
  exact fun vs gh r gh' h _ => jxf (by decide +kernel) (by decide +kernel) vs gh r gh' h
 ·cases hx
  have e : L = libClone 2 16 := by
   have e2 : pg 87 = some (.lib (libClone 2 16)) := rfl
   rw [e2] at hp; cases hp; rfl
  subst e
  exact fun vs gh r gh' h _ => jxf (by decide +kernel) (by decide +kernel) vs gh r gh' h
 ·cases hx
  have e : L = libGrow 1 8 := by
   have e2 : pg 119 = some (.lib (libGrow 1 8)) := rfl
   rw [e2] at hp; cases hp; rfl
  subst e
  exact fun vs gh r gh' h _ => j147 (by decide +kernel) vs gh r gh' h
 ·cases hx
  have e : L = libCloneK 8 := by
   have e2 : pg 121 = some (.lib (libCloneK 8)) := rfl
   rw [e2] at hp; cases hp; rfl
  subst e
  exact fun vs gh r gh' h _ => j140 (by decide +kernel) (by decide +kernel) vs gh r gh' h
 ·cases hx
  have e : L = libSortK := by
   have e2 : pg 161 = some (.lib (libSortK)) := rfl
   rw [e2] at hp; cases hp; rfl
  subst e
  exact fun vs gh r gh' h _ => j143 (ρ := laysSort_ren) laysSort vs gh r gh' h
 ·cases hx
  have e : L = libCompactK := by
   have e2 : pg 162 = some (.lib (libCompactK)) := rfl
   rw [e2] at hp; cases hp; rfl
  subst e
  exact fun vs gh r gh' h _ => j145 (ρ := laysCompact_ren) laysCompact vs gh r gh' h

theorem own : ownKnob Tryz.prog.godebug = none := by kernel_rfl
theorem laidOut : laidOutB Tryz.prog = true := by kernel_rfl


theorem lifted (os : Os) (started : os.Started) (H : Type) (enc : TypeId × Value → H) (F : Stop.Interp) :
  ReturnsInHanded {} Tryz.checked os 6 .any ((Rows.OpenSpec.upto Rows.unrollClausesSpec).pre6 enc Tryz.prog Tryz.f6 Rows.unrollClausesUptoRow.domain false) (((Rows.OpenSpec.upto Rows.unrollClausesSpec).at F).post enc Tryz.prog Tryz.f6 false true false false) := by
 refine returnsInHanded_of_cond_sized (C := Tryz.checked) (s := (Rows.OpenSpec.upto Rows.unrollClausesSpec)) (k := Rows.uptoSmall) rfl own started (by kernel_rfl) Tryz.func6
  (OpenSpec.witness (enc := enc) (C := Tryz.checked) (s := (Rows.OpenSpec.upto Rows.unrollClausesSpec)) (k := Rows.uptoSmall) rfl false ⟨#[], #[.agg #[.int .i64 0, .slice none 0 0, .int .i64 0, .int .i64 0, .slice none 0 0, .slice none 0 0, .slice none 0 0, .slice none 0 0], .int .i64 0, .bool false], []⟩ 8 (by kernel_rfl) (by kernel_rfl) (by kernel_rfl)
   (x := ([.agg [.agg [.lit (.int .i64 0), .nil], .lit (.int .i64 0), .lit (.int .i64 0), .nil, .nil, .nil, .nil], .lit (.int .i64 0), .lit (.bool false)], [], [])) (by kernel_rfl) rfl (by kernel_rfl)) ?_
 intro W base args ds gs before hval hW hcnd hkk hwt _
 have hW' := hW
 obtain ⟨p, q, hA, hV, rfl, hfz, hnd⟩ := hW
 have hA0 : DataW.TrodAll enc Tryz.prog W 0 (fun _ => true) true Tryz.f6.params.toList args.toList ds p := hA
 obtain ⟨rfl, rfl⟩ := trodVars_none hV
 have hw : (DataW.weightsEach Tryz.prog Tryz.f6.params.toList ds).all (· ≤ reachBytes) = true := by
  have h : (DataW.weightsEach Tryz.prog (Tryz.f6.params.toList ++ []) (ds ++ [])).all (· ≤ reachBytes) = true := hwt
  rwa [List.append_nil, List.append_nil] at h
 have hval2 : ∀ (j : Nat) t v, Tryz.f6.params.toList[j]? = some t → args.toList[j]? = some v → Value.okWide Tryz.prog W .any base t v := fun j t v h1 h2 => hval j t v (by rw [← Array.getElem?_toList]; exact h1) (by rw [← Array.getElem?_toList]; exact h2)
 have hrun := j11b (enc := enc) (P := Tryz.prog) (fi := fiOf links) (pg := pg) (f := 328) (F := 6) (n := 20) (by decide +kernel) link rfl (L := insUnrollClauses) (by rw [Tryz.params6]; with_unfolding_all rfl) j13v hA0 hval2 hw (j149 hkk)
 have hA1 := hA0
 rw [Tryz.params6] at hA1
 obtain ⟨v0, vs0, d0, ds0, p0, q0, hargs, rfl, rfl, h0, r0⟩ := trodAll_cons hA1
 obtain ⟨v1, vs1, d1, ds1, p1, q1, rfl, rfl, rfl, h1, r1⟩ := trodAll_cons r0
 obtain ⟨v2, vs2, d2, ds2, p2, q2, rfl, rfl, rfl, h2, r2⟩ := trodAll_cons r1
 obtain ⟨rfl, rfl, rfl⟩ := trodAll_nil r2
 obtain rfl : args = #[v0, v1, v2] := by cases args; simp_all
 refine hrun.mono fun e W' ⟨he, bel⟩ => ?_
 subst he
 exact ⟨_, rfl, _, _, _, [], _, [], hW', trodAll_mk1 (shut_bool Tryz.underlying4 _), jvp laidOut bel (by kernel_rfl) hA0, rfl, bel.frame _, fun h => by cases h⟩

theorem over : Rows.unrollClausesUptoRow.holds Tryz.pinned (Rows.OpenSpec.upto Rows.unrollClausesSpec) :=
 OpenClaim.holds_of_cond 6 Tryz.f6 rfl rfl rfl rfl rfl rfl rfl ⟨rfl, rfl, rfl, rfl, rfl⟩ rfl rfl rfl rfl rfl (by kernel_rfl) Tryz.func6 (by kernel_rfl)
  (of_decide_eq_true (by kernel_rfl)) (by unfold Func.isWrapper; first | (rw [if_pos (by decide +kernel)]; kernel_rfl) | (rw [if_neg (by decide +kernel)]; exact ⟨rfl, rfl⟩))
  (fun os started H enc _ F => lifted os started H enc F)

theorem proved : Rows.UnrollClausesUptoSaid := over
#print axioms proved
end Go.Proofs.YtmodipglnngghacGreat.unrollClausesDone
end
