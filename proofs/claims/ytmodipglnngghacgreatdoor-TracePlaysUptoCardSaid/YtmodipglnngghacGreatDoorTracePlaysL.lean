/-
  The texts that the proof stands on, part 12.
-/
import Derived.Test.YtmodipglnngghacGreatDoorTracePlaysK
import Derived.KernelRfl
set_option linter.unusedVariables false
set_option linter.unusedSimpArgs false
set_option linter.unnecessarySimpa false

/-! What the code of function law_TracePlays comes to, piece by piece. Written by program (dprint.py). -/
section
set_option maxRecDepth 10000
set_option maxHeartbeats 4000000
namespace Go.Lw
open Go
noncomputable section
variable {pg : Prg} {gh : List GObj} {e : IExit} {s : St}
def qfu : Tr := (.node 32 (.tup 2) (tI 17 (tI 9 (tO 5 (.node 1 (.agg [.any, .any]) (.node 0 (.agg [.any, .any, .any, .any, .any]) .nil .nil) (uB 4)) (tB 7 (uI 6) (uI 8))) (.node 13 (.agg [.any, .any, .any, .any, .any]) (tB 11 (uO 10) (.node 12 (.tup 2) .nil .nil)) (.node 15 (.tup 2) (.node 14 (.agg [.any, .any]) .nil .nil) (uO 16)))) (.node 25 (.agg [.any, .any]) (.node 21 (.tup 2) (.node 19 (.agg [.any, .any, .any, .any, .any]) (.node 18 (.tup 2) .nil .nil) (.node 20 (.agg [.any, .any]) .nil .nil)) (tI 23 (uB 22) (.node 24 (.agg [.any, .any, .any, .any, .any]) .nil .nil))) (.node 29 (.tup 2) (tI 27 (uI 26) (uB 28)) (.node 31 (.agg [.any, .any]) (.node 30 (.agg [.any, .any, .any, .any, .any]) .nil .nil) .nil)))) (tB 48 (tI 40 (tB 36 (tB 34 (uO 33) (uB 35)) (.node 38 (.agg [.any, .any]) (.node 37 (.agg [.any, .any, .any, .any, .any]) .nil .nil) (uI 39))) (tI 44 (tB 42 (uB 41) (uB 43)) (tB 46 (uI 45) (uB 47)))) (tB 56 (tB 52 (tO 50 (uO 49) (uB 51)) (tI 54 (uB 53) (uI 55))) (tB 60 (tB 58 (uB 57) (uB 59)) (tB 62 (uB 61) .nil)))))
def q9q (pg : Prg) (v5 : PV) (x6 : Int) (b7 : Bool) (x8 x9 : Int) (v10 : PV) (b11 : Bool) (vc0_0 vc0_1 : PV) (vc0_2 vc0_3 : PV) (vc0_4 vc1_0 vc1_1 : PV) (gh : List GObj) : DR :=
  callR gh true (callL pg 242 [] gh) fun r1 gh2 => unB r1 fun b3 =>
  br 36 b3 (onK (degr1 (degr1 vc0_0)) (onK (degr1 (degr1 vc0_1)) (onK (degr1 (degr1 vc0_2)) (onK (degr1 (degr1 vc0_3)) (onK (degr1 (degr1 vc0_4)) (onK (degr1 (degr1 vc1_0)) (onK (degr1 (degr1 vc1_1)) (
  callR gh2 true (callL pg 248 [(.agg [(degr1 (degr1 vc0_0)), (degr1 (degr1 vc0_1)), (degr1 (degr1 vc0_2)), (degr1 (degr1 vc0_3)), (degr1 (degr1 vc0_4))]), (.agg [(degr1 (degr1 vc1_0)), (degr1 (degr1 vc1_1))])] gh2) fun r4 gh5 => unI .i64 r4 fun n6 =>
  br 43 (n6 == x9) (
  br 48 (x6 == x9) (isC (degr v5) (isC (degr v10) (arK (degr (degr v5)) (arK (degr (degr v10)) (
  callR gh5 true (callL pg 95 [(degr (degr v5)), (degr (degr v10))] gh5) fun r7 gh8 => unB r7 fun b9 =>
  br 53 b9 (
  br 58 (x8 == x9) (some (.ret, ⟨[(4, (B (b7 == b11)))], [], gh8⟩)) (some (.ret, ⟨[(4, B false)], [], gh8⟩))) (some (.ret, ⟨[(4, B false)], [], gh8⟩))))))) (some (.ret, ⟨[(4, B false)], [], gh5⟩))) (some (.ret, ⟨[(4, B false)], [], gh5⟩)))))))))) (some (.ret, ⟨[(4, B false)], [], gh2⟩))
theorem q9q_ {v5 : PV} {x6 : Int} {b7 : Bool} {x8 x9 : Int} {v10 : PV} {b11 : Bool} {vc0_0 vc0_1 : PV} {vc0_2 vc0_3 : PV} {vc0_4 vc1_0 vc1_1 : PV} (h : q9q pg v5 x6 b7 x8 x9 v10 b11 vc0_0 vc0_1 vc0_2 vc0_3 vc0_4 vc1_0 vc1_1 gh = some (e, s)) : runL pg q1i ⟨[(2, .ptr false 0 0), (3, .ptr false 1 0), (5, v5), (6, I x6), (7, B b7), (8, I x8), (9, I x9), (10, v10), (11, B b11)], [[vc0_0, vc0_1, vc0_2, vc0_3, vc0_4], [vc1_0, vc1_1]], gh⟩ = some (e, s) :=
 ji2 qfu (Eq.trans (by kernel_rfl) h)
def q9r (pg : Prg) (v0_0 v0_1 : PV) (v0_2 v0_3 : PV) (v0_4 v1_0 v1_1 : PV) (gh : List GObj) : DR := onK (degr1 v0_0) (onK (degr1 v0_1) (onK (degr1 v0_2) (onK (degr1 v0_3) (onK (degr1 v0_4) (onK (degr1 v1_0) (onK (degr1 v1_1) (onK (degr1 (degr1 (degr1 v0_0))) (onK (degr1 (degr1 (degr1 v0_1))) (onK (degr1 (degr1 (degr1 v0_2))) (onK (degr1 (degr1 (degr1 v0_3))) (onK (degr1 (degr1 (degr1 v0_4))) (onK (degr1 (degr1 (degr1 v1_0))) (onK (degr1 (degr1 (degr1 v1_1))) (
  callR gh true (callL pg 375 [(.agg [(degr1 (degr1 (degr1 v0_0))), (degr1 (degr1 (degr1 v0_1))), (degr1 (degr1 (degr1 v0_2))), (degr1 (degr1 (degr1 v0_3))), (degr1 (degr1 (degr1 v0_4)))]), (.agg [(degr1 (degr1 (degr1 v1_0))), (degr1 (degr1 (degr1 v1_1)))])] gh) fun r1 gh2 => unT 2 r1 fun r3 r4 => isC (degr1 (degr1 r3)) (unI .i64 (degr1 (degr1 r4)) fun n5 => stK 2 (degr1 (degr1 r3)) (onK (degr1 (degr1 (degr1 v0_0))) (onK (degr1 (degr1 (degr1 v0_1))) (onK (degr1 (degr1 (degr1 v0_2))) (onK (degr1 (degr1 (degr1 v0_3))) (onK (degr1 (degr1 (degr1 v0_4))) (onK (degr1 (degr1 (degr1 v1_0))) (onK (degr1 (degr1 (degr1 v1_1))) (
  callR gh2 true (callL pg 245 [(.agg [(degr1 (degr1 (degr1 v0_0))), (degr1 (degr1 (degr1 v0_1))), (degr1 (degr1 (degr1 v0_2))), (degr1 (degr1 (degr1 v0_3))), (degr1 (degr1 (degr1 v0_4)))]), (.agg [(degr1 (degr1 (degr1 v1_0))), (degr1 (degr1 (degr1 v1_1)))])] gh2) fun r6 gh7 => unT 2 r6 fun r8 r9 => unB (degr1 (degr1 r8)) fun b10 => unI .i64 (degr1 (degr1 r9)) fun n11 => stK 2 (degr1 (degr1 r3)) (onK (degr1 (degr1 (degr1 v0_0))) (onK (degr1 (degr1 (degr1 v0_1))) (onK (degr1 (degr1 (degr1 v0_2))) (onK (degr1 (degr1 (degr1 v0_3))) (onK (degr1 (degr1 (degr1 v0_4))) (onK (degr1 (degr1 (degr1 v1_0))) (onK (degr1 (degr1 (degr1 v1_1))) (
  callR gh7 true (callL pg 376 [(.agg [(degr1 (degr1 (degr1 v0_0))), (degr1 (degr1 (degr1 v0_1))), (degr1 (degr1 (degr1 v0_2))), (degr1 (degr1 (degr1 v0_3))), (degr1 (degr1 (degr1 v0_4)))]), (.agg [(degr1 (degr1 (degr1 v1_0))), (degr1 (degr1 (degr1 v1_1)))])] gh7) fun r12 gh13 => unI .i64 r12 fun n14 => stK 2 (degr1 (degr1 r3)) (stK 2 (degr1 (degr1 r3)) (
  br 28 (n14 == 0) (onK (degr1 (degr1 (degr1 v0_0))) (onK (degr1 (degr1 (degr1 v0_1))) (onK (degr1 (degr1 (degr1 v0_2))) (onK (degr1 (degr1 (degr1 v0_3))) (onK (degr1 (degr1 (degr1 v0_4))) (onK (degr1 (degr1 (degr1 v1_0))) (onK (degr1 (degr1 (degr1 v1_1))) (
  callR gh13 true (callL pg 377 [(.agg [(degr1 (degr1 (degr1 v0_0))), (degr1 (degr1 (degr1 v0_1))), (degr1 (degr1 (degr1 v0_2))), (degr1 (degr1 (degr1 v0_3))), (degr1 (degr1 (degr1 v0_4)))]), (.agg [(degr1 (degr1 (degr1 v1_0))), (degr1 (degr1 (degr1 v1_1)))])] gh13) fun r15 gh16 => unT 2 r15 fun r17 r18 => isC (degr1 (degr1 r17)) (unB (degr1 (degr1 r18)) fun b19 => stK 2 (degr1 (degr1 r3)) (stK 2 (degr1 (degr1 r17)) (stK 2 (degr1 (degr1 r3)) (stK 2 (degr1 (degr1 r17)) (
  kR (runL pg q1i ⟨[(2, .ptr false 0 0), (3, .ptr false 1 0), (5, (degr1 (degr1 r3))), (6, I n5), (7, B b10), (8, I n11), (9, I n14), (10, (degr1 (degr1 r17))), (11, B b19)], [[(degr1 v0_0), (degr1 v0_1), (degr1 v0_2), (degr1 v0_3), (degr1 v0_4)], [(degr1 v1_0), (degr1 v1_1)]], gh16⟩) (fun e s => some (e, s))))))))))))))) (stK 2 (degr1 (degr1 r3)) (
  kR (runL pg q1i ⟨[(2, .ptr false 0 0), (3, .ptr false 1 0), (5, (degr1 (degr1 r3))), (6, I n5), (7, B b10), (8, I n11), (9, I n14), (10, .sl true 1 []), (11, B false)], [[(degr1 v0_0), (degr1 v0_1), (degr1 v0_2), (degr1 v0_3), (degr1 v0_4)], [(degr1 v1_0), (degr1 v1_1)]], gh13⟩) (fun e s => some (e, s)))))))))))))))))))))))))))))))))))))
theorem q9r_ {v0_0 v0_1 : PV} {v0_2 v0_3 : PV} {v0_4 v1_0 v1_1 : PV} (h : q9r pg v0_0 v0_1 v0_2 v0_3 v0_4 v1_0 v1_1 gh = some (e, s)) : runL pg qa7 ⟨[(0, .agg [v0_0, v0_1, v0_2, v0_3, v0_4]), (1, .agg [v1_0, v1_1])], [], gh⟩ = some (e, s) :=
 ji2 qfu (Eq.trans (by kernel_rfl) h)
end
end Go.Lw
end
