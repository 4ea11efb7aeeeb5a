/-
  The texts that the proof stands on, part 11.
-/
import Derived.Test.YtmodipglnngghacGreatDoorTextParsesJ
import Derived.KernelRfl
set_option linter.unusedVariables false
set_option linter.unusedSimpArgs false
set_option linter.unnecessarySimpa false

/-! What the code of function ref_Cut comes to, piece by piece. Written by program (dprint.py). -/
section
set_option maxRecDepth 10000
set_option maxHeartbeats 4000000
namespace Go.Lw
open Go
noncomputable section
variable {pg:Prg} {gh:List GObj} {e:IExit} {s:St}
def q4k:Tr:=(tB 18 (tI 10 (tI 6 (tO 4 (.node 1 (.ce (.int .u8)) (.node 0 (.ce (.str)) .nil .nil) .nil) (uO 5)) (tI 8 (uI 7) (.node 9 (.ce (.str)) .nil .nil))) (.node 14 (.ce (.str)) (tI 12 (uB 11) (uI 13)) (.node 16 (.ce (.int .u8)) (uI 15) (.node 17 (.ce (.int .u8)) .nil .nil)))) (tI 26 (tI 22 (.node 20 (.ce (.str)) (uO 19) (uI 21)) (tO 24 (.node 23 (.ce (.str)) .nil .nil) (uO 25))) (tI 30 (tO 28 (uI 27) (.node 29 (.ce (.str)) .nil .nil)) (tO 32 (.node 31 (.ce (.str)) .nil .nil) (uO 33)))))
def qcd (pg:Prg) (s0:ByteArray) (x1:Int) (v5:PV) (x6 x7:Int) (gh:List GObj):DR:=stK 0 v5 (some (.normal,⟨[(0,.str s0),(1,.int .u8 x1),(5,v5),(6,I x6),(7,(I (IntKind.i64.wrap (x7+1))))],[],gh⟩))
theorem qcd_ {s0:ByteArray} {x1:Int} {v5:PV} {x6 x7:Int} (h:qcd pg s0 x1 v5 x6 x7 gh=some (e,s)):runL pg q3a ⟨[(0,.str s0),(1,.int .u8 x1),(5,v5),(6,I x6),(7,I x7)],[],gh⟩=some (e,s):=
 jfl q4k (Eq.trans (by kernel_rfl) h)
def q4l (pg:Prg) (s0:ByteArray) (x1:Int) (v5:PV) (x6 x7:Int) (gh:List GObj):DR:=stK 0 v5 (
  br 11 (decide (x7<((ByteArray.size s0:Nat):Int))) (
  isX (.str s0) x7 fun n2=>stK 0 v5 (
  br 18 (n2==x1) (
  ssX (.str s0) (some x6) (some x7) fun s3=>
  apX 1 16 v5 (.sl false 1 [.str s3]) fun l4=>
  kR (runL pg q3a ⟨[(0,.str s0),(1,.int .u8 x1),(5,.sl true 1 l4),(6,(I (IntKind.i64.wrap (x7+1)))),(7,I x7)],[],gh⟩) (fun e s=>po [0,1,5,6,7] 0 e s (fun e s=>some (e,s)))) (stK 0 v5 (
  kR (runL pg q3a ⟨[(0,.str s0),(1,.int .u8 x1),(5,v5),(6,I x6),(7,I x7)],[],gh⟩) (fun e s=>po [0,1,5,6,7] 0 e s (fun e s=>some (e,s))))))) (some ((.exit 0),⟨[(0,.str s0),(1,.int .u8 x1),(5,v5),(6,I x6),(7,I x7),(11,(B (decide (x7<((ByteArray.size s0:Nat):Int)))))],[],gh⟩)))
theorem q4l_ {s0:ByteArray} {x1:Int} {v5:PV} {x6 x7:Int} (h:q4l pg s0 x1 v5 x6 x7 gh=some (e,s)):runL pg qaz ⟨[(0,.str s0),(1,.int .u8 x1),(5,v5),(6,I x6),(7,I x7)],[],gh⟩=some (e,s):=
 jfl q4k (Eq.trans (by kernel_rfl) h)
def qce (pg:Prg) (s0:ByteArray) (v5:PV) (x6:Int) (gh:List GObj):DR:=
  ssX (.str s0) (some x6) none fun s1=>
  apX 1 16 v5 (.sl false 1 [.str s1]) fun l2=>some (.ret,⟨[(4,.sl true 1 l2)],[],gh⟩)
theorem qce_ {s0:ByteArray} {v5:PV} {x6:Int} (h:qce pg s0 v5 x6 gh=some (e,s)):runL pg q4d ⟨[(0,.str s0),(5,v5),(6,I x6)],[],gh⟩=some (e,s):=
 jfl q4k (Eq.trans (by kernel_rfl) h)
def qcf (pg:Prg) (s0:ByteArray) (x1:Int) (gh:List GObj):DR:=
  kR (runL pg q7c ⟨[(0,.str s0),(1,.int .u8 x1),(5,.sl true 1 []),(6,I 0),(7,I 0)],[],gh⟩) (fun e s=>nx e s (fun e s=>some (e,s)) fun s=>kR (runL pg q4d s) (fun e s=>some (e,s)))
theorem qcf_ {s0:ByteArray} {x1:Int} (h:qcf pg s0 x1 gh=some (e,s)):runL pg qb0 ⟨[(0,.str s0),(1,.int .u8 x1)],[],gh⟩=some (e,s):=
 jfl q4k (Eq.trans (by kernel_rfl) h)
end
end Go.Lw
end

/-! What the code of function ref_Undigit comes to, piece by piece. Written by program (dprint.py). -/
section
set_option maxRecDepth 10000
set_option maxHeartbeats 4000000
namespace Go.Lw
open Go
noncomputable section
variable {pg:Prg} {gh:List GObj} {e:IExit} {s:St}
def q7s:Tr:=(tI 24 (tB 12 (tB 6 (tI 3 (tI 2 (.node 0 (.ce (.str)) .nil .nil) .nil) (.node 5 (.ce (.str)) (uI 4) .nil)) (tI 9 (.node 8 (.ce (.str)) (uB 7) .nil) (tB 11 (uB 10) .nil))) (.node 18 (.ce (.int .u8)) (tB 15 (tI 14 (.node 13 (.ce (.str)) .nil .nil) .nil) (.node 17 (.ce (.str)) (uB 16) .nil)) (tB 21 (tB 20 (uB 19) .nil) (.node 23 (.ce (.str)) (uI 22) .nil)))) (tB 36 (.node 30 (.ce (.int .u8)) (tI 27 (tI 26 (uB 25) .nil) (tI 29 (.node 28 (.ce (.str)) .nil .nil) .nil)) (.node 33 (.ce (.str)) (tB 32 (uB 31) .nil) (.node 35 (.ce (.int .u8)) (uI 34) .nil))) (.node 42 (.ce (.int .u8)) (tI 39 (tI 38 (uB 37) .nil) (tI 41 (.node 40 (.ce (.str)) .nil .nil) .nil)) (tI 45 (tI 44 (uI 43) .nil) (uI 46)))))
def q3j (pg:Prg) (s0:ByteArray) (x3 x4:Int) (gh:List GObj):DR:=
  br 25 (decide (x4<((ByteArray.size s0:Nat):Int))) (
  isX (.str s0) x4 fun n2=>
  br 32 (decide (n2<48)) (some (.ret,⟨[(2,(I (-1)))],[],gh⟩)) (
  isX (.str s0) x4 fun n3=>
  br 37 (decide (57<n3)) (some (.ret,⟨[(2,(I (-1)))],[],gh⟩)) (
  isX (.str s0) x4 fun n4=>some (.normal,⟨[(0,.str s0),(3,(I (IntKind.i64.wrap ((IntKind.i64.wrap ((IntKind.i64.wrap (10*x3))+(IntKind.i64.wrap n4)))-48)))),(4,(I (IntKind.i64.wrap (x4+1))))],[],gh⟩)))) (some ((.exit 0),⟨[(0,.str s0),(3,I x3),(4,I x4),(25,(B (decide (x4<((ByteArray.size s0:Nat):Int)))))],[],gh⟩))
theorem q3j_ {s0:ByteArray} {x3 x4:Int} (h:q3j pg s0 x3 x4 gh=some (e,s)):runL pg qb1 ⟨[(0,.str s0),(3,I x3),(4,I x4)],[],gh⟩=some (e,s):=
 jfl q7s (Eq.trans (by kernel_rfl) h)
def qem (pg:Prg) (x3:Int) (gh:List GObj):DR:=some (.ret,⟨[(2,I x3)],[],gh⟩)
theorem qem_ {x3:Int} (h:qem pg x3 gh=some (e,s)):runL pg q23 ⟨[(3,I x3)],[],gh⟩=some (e,s):=
 jfl q7s (Eq.trans (by kernel_rfl) h)
def q1c (pg:Prg) (s0:ByteArray) (gh:List GObj):DR:=
  br 7 (ByteArray.toList s0==ByteArray.toList ByteArray.empty) (some (.ret,⟨[(2,(I (-1)))],[],gh⟩)) (
  br 12 (decide (9<((ByteArray.size s0:Nat):Int))) (some (.ret,⟨[(2,(I (-1)))],[],gh⟩)) (
  br 16 (decide (1<((ByteArray.size s0:Nat):Int))) (
  isX (.str s0) 0 fun n3=>
  br 21 (n3==48) (some (.ret,⟨[(2,(I (-1)))],[],gh⟩)) (
  kR (runL pg q4e ⟨[(0,.str s0),(3,I 0),(4,I 0)],[],gh⟩) (fun e s=>nx e s (fun e s=>some (e,s)) fun s=>kR (runL pg q23 s) (fun e s=>some (e,s))))) (
  kR (runL pg q4e ⟨[(0,.str s0),(3,I 0),(4,I 0)],[],gh⟩) (fun e s=>nx e s (fun e s=>some (e,s)) fun s=>kR (runL pg q23 s) (fun e s=>some (e,s))))))
theorem q1c_ {s0:ByteArray} (h:q1c pg s0 gh=some (e,s)):runL pg qb2 ⟨[(0,.str s0)],[],gh⟩=some (e,s):=
 jfl q7s (Eq.trans (by kernel_rfl) h)
end
end Go.Lw
end

/-! What the code of function word_Fit comes to, piece by piece. Written by program (dprint.py). -/
section
set_option maxRecDepth 10000
set_option maxHeartbeats 4000000
namespace Go.Lw
open Go
noncomputable section
variable {pg:Prg} {gh:List GObj} {e:IExit} {s:St}
def q7t:Tr:=(tI 29 (.node 16 (.tup 2) (tB 10 (.node 3 (.agg [.int .i64,.int .i64,.int .i64]) (tI 1 (uI 0) (uI 2)) (tI 9 (uI 8) .nil)) (.node 13 (.tup 2) (tI 12 (uI 11) .nil) (tI 15 (uO 14) .nil))) (tB 23 (tB 20 (tB 18 (uI 17) (uB 19)) (tB 22 (uI 21) .nil)) (tB 26 (tI 25 (.node 24 (.agg [.int .i64,.int .i64,.int .i64]) .nil .nil) .nil) (tI 28 (uI 27) .nil)))) (tB 42 (tB 36 (tB 33 (tI 31 (uI 30) (uB 32)) (tB 35 (uI 34) .nil)) (tI 39 (tB 38 (uB 37) .nil) (tI 41 (uI 40) .nil))) (tI 49 (tB 46 (tI 44 (uB 43) (uB 45)) (tI 48 (uB 47) .nil)) (.node 52 (.agg [.int .i64,.int .i64,.int .i64]) (tI 51 (uI 50) .nil) (tB 54 (uB 53) .nil)))))
def q1d (pg:Prg) (x0 x1:Int) (x2 x9:Int) (x24_0 x24_1:Int) (x24_2 x25:Int) (xc0_0 xc0_1 xc0_2:Int) (gh:List GObj):DR:=
  br 26 (decide (x25<3)) (ixX (.agg [I x24_0,I x24_1,I x24_2]) 1 3 false x25 fun v1=>unI .i64 v1 fun n2=>
  callR gh true (callL pg 63 [I x0] gh) fun r3 gh4=>unI .i64 r3 fun n5=>
  br 33 (decide (x25<n5)) (
  callR gh4 true (callL pg 62 [I n2] gh4) fun r6 gh7=>unB r6 fun b8=>
  br 38 (!b8) (some (.ret,⟨[(8,I 3)],[],gh7⟩)) (
  callR gh7 true (callL pg 63 [I x0] gh7) fun r9 gh10=>unI .i64 r9 fun n11=>
  br 43 (decide (n11≤x25)) (
  br 47 (n2 !=0) (some (.ret,⟨[(8,I 3)],[],gh10⟩)) (some (.normal,⟨[(0,I x0),(1,I x1),(2,I x2),(7,.ptr false 0 0),(9,I x9),(24,.agg [I x24_0,I x24_1,I x24_2]),(25,(I (IntKind.i64.wrap (x25+1))))],[[I xc0_0,I xc0_1,I xc0_2]],gh10⟩))) (some (.normal,⟨[(0,I x0),(1,I x1),(2,I x2),(7,.ptr false 0 0),(9,I x9),(24,.agg [I x24_0,I x24_1,I x24_2]),(25,(I (IntKind.i64.wrap (x25+1))))],[[I xc0_0,I xc0_1,I xc0_2]],gh10⟩)))) (
  callR gh4 true (callL pg 63 [I x0] gh4) fun r12 gh13=>unI .i64 r12 fun n14=>
  br 43 (decide (n14≤x25)) (
  br 47 (n2 !=0) (some (.ret,⟨[(8,I 3)],[],gh13⟩)) (some (.normal,⟨[(0,I x0),(1,I x1),(2,I x2),(7,.ptr false 0 0),(9,I x9),(24,.agg [I x24_0,I x24_1,I x24_2]),(25,(I (IntKind.i64.wrap (x25+1))))],[[I xc0_0,I xc0_1,I xc0_2]],gh13⟩))) (some (.normal,⟨[(0,I x0),(1,I x1),(2,I x2),(7,.ptr false 0 0),(9,I x9),(24,.agg [I x24_0,I x24_1,I x24_2]),(25,(I (IntKind.i64.wrap (x25+1))))],[[I xc0_0,I xc0_1,I xc0_2]],gh13⟩)))) (some ((.exit 0),⟨[(0,I x0),(1,I x1),(2,I x2),(7,.ptr false 0 0),(9,I x9),(24,.agg [I x24_0,I x24_1,I x24_2]),(25,I x25),(26,(B (decide (x25<3))))],[[I xc0_0,I xc0_1,I xc0_2]],gh⟩))
theorem q1d_ {x0 x1:Int} {x2 x9:Int} {x24_0 x24_1:Int} {x24_2 x25:Int} {xc0_0 xc0_1 xc0_2:Int} (h:q1d pg x0 x1 x2 x9 x24_0 x24_1 x24_2 x25 xc0_0 xc0_1 xc0_2 gh=some (e,s)):runL pg qba ⟨[(0,I x0),(1,I x1),(2,I x2),(7,.ptr false 0 0),(9,I x9),(24,.agg [I x24_0,I x24_1,I x24_2]),(25,I x25)],[[I xc0_0,I xc0_1,I xc0_2]],gh⟩=some (e,s):=
 jfl q7t (Eq.trans (by kernel_rfl) h)
def q4m (pg:Prg) (x1 x2:Int) (x9 xc0_0:Int) (xc0_1 xc0_2:Int) (gh:List GObj):DR:=
  callR gh true (callL pg 64 [I x9,I x1,I x2,.agg [I xc0_0,I xc0_1,I xc0_2]] gh) fun r1 gh2=>unB r1 fun b3=>
  br 54 (!b3) (some (.ret,⟨[(8,I 1)],[],gh2⟩)) (some (.ret,⟨[(8,I 0)],[],gh2⟩))
theorem q4m_ {x1 x2:Int} {x9 xc0_0:Int} {xc0_1 xc0_2:Int} (h:q4m pg x1 x2 x9 xc0_0 xc0_1 xc0_2 gh=some (e,s)):runL pg q7l ⟨[(1,I x1),(2,I x2),(7,.ptr false 0 0),(9,I x9)],[[I xc0_0,I xc0_1,I xc0_2]],gh⟩=some (e,s):=
 jfl q7t (Eq.trans (by kernel_rfl) h)
def q27 (pg:Prg) (x0 x1:Int) (x2 x3_0:Int) (x3_1 x3_2:Int) (gh:List GObj):DR:=
  callR gh false (callL pg 61 [] gh) fun r1 gh2=>isC r1 (
  lkX gh2 0 (degr r1) (I x0) fun r3=>unI .i64 (degr1 (degr1 (Option.getD r3 (I 0)))) fun n4=>
  br 20 (!(Option.isSome r3)) (some (.ret,⟨[(8,I 7)],[],gh2⟩)) (
  callR gh2 true (callL pg 62 [I x1] gh2) fun r5 gh6=>unB r5 fun b7=>
  br 23 (!b7) (some (.ret,⟨[(8,I 3)],[],gh6⟩)) (
  kR (runL pg q7k ⟨[(0,I x0),(1,I x1),(2,I x2),(7,.ptr false 0 0),(9,I n4),(24,.agg [I x3_0,I x3_1,I x3_2]),(25,I 0)],[[I x3_0,I x3_1,I x3_2]],gh6⟩) (fun e s=>nx e s (fun e s=>some (e,s)) fun s=>kR (runL pg q7l s) (fun e s=>some (e,s))))))
theorem q27_ {x0 x1:Int} {x2 x3_0:Int} {x3_1 x3_2:Int} (h:q27 pg x0 x1 x2 x3_0 x3_1 x3_2 gh=some (e,s)):runL pg qbb ⟨[(0,I x0),(1,I x1),(2,I x2),(3,.agg [I x3_0,I x3_1,I x3_2])],[],gh⟩=some (e,s):=
 jfl q7t (Eq.trans (by kernel_rfl) h)
end
end Go.Lw
end

/-! What the code of function word_Takes comes to, piece by piece. Written by program (dprint.py). -/
section
set_option maxRecDepth 10000
set_option maxHeartbeats 4000000
namespace Go.Lw
open Go
noncomputable section
variable {pg:Prg} {gh:List GObj} {e:IExit} {s:St}
def q7u:Tr:=(tB 7 (tI 4 (tI 2 (uI 0) (uO 3)) (tB 6 (uI 5) .nil)) (tB 11 (tB 9 (uB 8) (uB 10)) (tB 13 (uB 12) .nil)))
def qcg (pg:Prg) (x5:Int) (b8:Bool) (gh:List GObj):DR:=
  br 8 b8 (some (.ret,⟨[(2,I 1)],[],gh⟩)) (
  br 12 (x5==4) (some (.ret,⟨[(2,I 3)],[],gh⟩)) (some (.normal,⟨[(12,(B (x5==4)))],[],gh⟩)))
theorem qcg_ {x5:Int} {b8:Bool} (h:qcg pg x5 b8 gh=some (e,s)):runL pg q3g ⟨[(5,I x5),(8,B b8)],[],gh⟩=some (e,s):=
 jfl q7u (Eq.trans (by kernel_rfl) h)
def qen (pg:Prg) (b12:Bool) (gh:List GObj):DR:=some (.ret,⟨[(2,I 2)],[],gh⟩)
theorem qen_ {b12:Bool} (h:qen pg b12 gh=some (e,s)):runL pg q3h ⟨[(12,B b12)],[],gh⟩=some (e,s):=
 jfl q7u (Eq.trans (by kernel_rfl) h)
def q28 (pg:Prg) (x0:Int) (gh:List GObj):DR:=
  callR gh false (callL pg 61 [] gh) fun r1 gh2=>isC r1 (
  lkX gh2 0 (degr r1) (I x0) fun r3=>unI .i64 (Option.getD r3 (I 0)) fun n4=>
  br 6 (n4==0) (some (.ret,⟨[(2,I 0)],[],gh2⟩)) (
  br 8 (n4==1) (
  kR (runL pg q3g ⟨[(5,I n4),(8,(B (n4==1)))],[],gh2⟩) (fun e s=>bk 0 e s (fun e s=>nx e s (fun e s=>some (e,s)) fun s=>kR (runL pg q3h s) (fun e s=>some (e,s))))) (
  br 8 (n4==6) (
  kR (runL pg q3g ⟨[(5,I n4),(8,(B (n4==6)))],[],gh2⟩) (fun e s=>bk 0 e s (fun e s=>nx e s (fun e s=>some (e,s)) fun s=>kR (runL pg q3h s) (fun e s=>some (e,s))))) (
  kR (runL pg q3g ⟨[(5,I n4),(8,(B (n4==7)))],[],gh2⟩) (fun e s=>bk 0 e s (fun e s=>nx e s (fun e s=>some (e,s)) fun s=>kR (runL pg q3h s) (fun e s=>some (e,s))))))))
theorem q28_ {x0:Int} (h:q28 pg x0 gh=some (e,s)):runL pg qbe ⟨[(0,I x0)],[],gh⟩=some (e,s):=
 jfl q7u (Eq.trans (by kernel_rfl) h)
end
end Go.Lw
end

/-! What the code of function word_IsWidth comes to, piece by piece. Written by program (dprint.py). -/
section
set_option maxRecDepth 10000
set_option maxHeartbeats 4000000
namespace Go.Lw
open Go
noncomputable section
variable {pg:Prg} {gh:List GObj} {e:IExit} {s:St}
def qeo:Tr:=(tB 5 (tI 3 (tB 2 (uI 0) .nil) (uB 4)) (tB 7 (uI 6) (uB 8)))
def q7v (pg:Prg) (x0:Int) (gh:List GObj):DR:=
  br 5 (decide (1≤x0)) (some (.ret,⟨[(2,(B (decide (x0≤8))))],[],gh⟩)) (some (.ret,⟨[(2,B false)],[],gh⟩))
theorem q7v_ {x0:Int} (h:q7v pg x0 gh=some (e,s)):runL pg qbd ⟨[(0,I x0)],[],gh⟩=some (e,s):=
 jfl qeo (Eq.trans (by kernel_rfl) h)
end
end Go.Lw
end

/-! What the code of function word_fits comes to, piece by piece. Written by program (dprint.py). -/
section
set_option maxRecDepth 10000
set_option maxHeartbeats 4000000
namespace Go.Lw
open Go
noncomputable section
variable {pg:Prg} {gh:List GObj} {e:IExit} {s:St}
def qep:Tr:=(tB 44 (tB 22 (tI 12 (tB 8 (tI 2 (tI 1 (uI 0) .nil) (.node 3 (.agg [.int .i64,.int .i64,.int .i64]) .nil .nil)) (tB 10 (uI 9) (uB 11))) (tB 17 (tI 15 (tB 14 (uB 13) .nil) (uB 16)) (tI 20 (uI 19) (uB 21)))) (tB 33 (tB 28 (tI 26 (tI 25 (uB 23) .nil) (uB 27)) (tI 31 (uI 30) (uB 32))) (tB 40 (tI 37 (tB 35 (uB 34) .nil) (uI 39)) (tI 42 (uB 41) (uB 43))))) (tI 67 (tB 55 (tB 50 (tI 48 (tB 46 (uB 45) .nil) (uB 49)) (tI 53 (uI 52) (uB 54))) (tB 61 (tI 59 (tI 58 (uB 56) .nil) (uB 60)) (tB 63 (uB 62) (uI 65)))) (tI 76 (tB 72 (tB 70 (tI 69 (uI 68) .nil) (uB 71)) (tB 74 (uI 73) (uB 75))) (tB 82 (tI 80 (tI 79 (uI 78) .nil) (uB 81)) (tI 85 (uI 83) (uB 86))))))
def qp (pg:Prg) (x0 x1:Int) (x2 x3_0:Int) (x3_1 x3_2:Int) (gh:List GObj):DR:=
  br 11 (x2 !=0) (
  br 14 (x0 !=6) (some (.ret,⟨[(8,B false)],[],gh⟩)) (
  br 16 (x0==1) (some (.ret,⟨[(8,(B (x3_0==x1)))],[],gh⟩)) (
  br 22 (x0==2) (
  br 28 (x3_0==x1) (some (.ret,⟨[(8,(B (x3_1==x1)))],[],gh⟩)) (some (.ret,⟨[(8,B false)],[],gh⟩))) (
  br 34 (x0==3) (
  br 41 (x3_0==x3_1) (some (.ret,⟨[(8,(B (x1==1)))],[],gh⟩)) (some (.ret,⟨[(8,B false)],[],gh⟩))) (
  br 45 (x0==4) (
  br 50 (x3_0==1) (
  br 56 (x3_1==x1) (some (.ret,⟨[(8,(B (x3_2==x1)))],[],gh⟩)) (some (.ret,⟨[(8,B false)],[],gh⟩))) (some (.ret,⟨[(8,B false)],[],gh⟩))) (
  br 62 (x0==5) (some (.ret,⟨[(8,(B ((IntKind.i64.wrap (x3_0+x3_1))==x1)))],[],gh⟩)) (
  br 71 (x0==6) (
  br 75 (decide (0≤x2)) (some (.ret,⟨[(8,(B (decide (x2≤(IntKind.i64.wrap (x3_0-x1))))))],[],gh⟩)) (some (.ret,⟨[(8,B false)],[],gh⟩))) (some (.ret,⟨[(8,(B (decide (x3_0≤x1))))],[],gh⟩))))))))) (
  br 16 (x0==1) (some (.ret,⟨[(8,(B (x3_0==x1)))],[],gh⟩)) (
  br 22 (x0==2) (
  br 28 (x3_0==x1) (some (.ret,⟨[(8,(B (x3_1==x1)))],[],gh⟩)) (some (.ret,⟨[(8,B false)],[],gh⟩))) (
  br 34 (x0==3) (
  br 41 (x3_0==x3_1) (some (.ret,⟨[(8,(B (x1==1)))],[],gh⟩)) (some (.ret,⟨[(8,B false)],[],gh⟩))) (
  br 45 (x0==4) (
  br 50 (x3_0==1) (
  br 56 (x3_1==x1) (some (.ret,⟨[(8,(B (x3_2==x1)))],[],gh⟩)) (some (.ret,⟨[(8,B false)],[],gh⟩))) (some (.ret,⟨[(8,B false)],[],gh⟩))) (
  br 62 (x0==5) (some (.ret,⟨[(8,(B ((IntKind.i64.wrap (x3_0+x3_1))==x1)))],[],gh⟩)) (
  br 71 (x0==6) (
  br 75 (decide (0≤x2)) (some (.ret,⟨[(8,(B (decide (x2≤(IntKind.i64.wrap (x3_0-x1))))))],[],gh⟩)) (some (.ret,⟨[(8,B false)],[],gh⟩))) (some (.ret,⟨[(8,(B (decide (x3_0≤x1))))],[],gh⟩))))))))
theorem qp_ {x0 x1:Int} {x2 x3_0:Int} {x3_1 x3_2:Int} (h:qp pg x0 x1 x2 x3_0 x3_1 x3_2 gh=some (e,s)):runL pg qbf ⟨[(0,I x0),(1,I x1),(2,I x2),(3,.agg [I x3_0,I x3_1,I x3_2])],[],gh⟩=some (e,s):=
 jfl qep (Eq.trans (by kernel_rfl) h)
end
end Go.Lw
end

/-! What the code of function word_shapes comes to, piece by piece. Written by program (dprint.py). -/
section
set_option maxRecDepth 10000
set_option maxHeartbeats 4000000
namespace Go.Lw
open Go
noncomputable section
variable {pg:Prg} {gh:List GObj} {e:IExit} {s:St}
def qeq:Tr:=(tO 1 (uO 0) (uO 2))
def qch (pg:Prg) (gh:List GObj):DR:=
  muX (gh++[.map []]) 0 (.mp (List.length gh)) (I 4) (I 1) fun gh1=>
  muX gh1 0 (.mp (List.length gh)) (I 5) (I 1) fun gh2=>
  muX gh2 0 (.mp (List.length gh)) (I 6) (I 2) fun gh3=>
  muX gh3 0 (.mp (List.length gh)) (I 7) (I 2) fun gh4=>
  muX gh4 0 (.mp (List.length gh)) (I 8) (I 2) fun gh5=>
  muX gh5 0 (.mp (List.length gh)) (I 9) (I 2) fun gh6=>
  muX gh6 0 (.mp (List.length gh)) (I 10) (I 2) fun gh7=>
  muX gh7 0 (.mp (List.length gh)) (I 11) (I 2) fun gh8=>
  muX gh8 0 (.mp (List.length gh)) (I 12) (I 2) fun gh9=>
  muX gh9 0 (.mp (List.length gh)) (I 13) (I 2) fun gh10=>
  muX gh10 0 (.mp (List.length gh)) (I 14) (I 2) fun gh11=>
  muX gh11 0 (.mp (List.length gh)) (I 15) (I 2) fun gh12=>
  muX gh12 0 (.mp (List.length gh)) (I 16) (I 3) fun gh13=>
  muX gh13 0 (.mp (List.length gh)) (I 17) (I 3) fun gh14=>
  muX gh14 0 (.mp (List.length gh)) (I 18) (I 3) fun gh15=>
  muX gh15 0 (.mp (List.length gh)) (I 19) (I 4) fun gh16=>
  muX gh16 0 (.mp (List.length gh)) (I 20) (I 5) fun gh17=>
  muX gh17 0 (.mp (List.length gh)) (I 21) (I 6) fun gh18=>
  muX gh18 0 (.mp (List.length gh)) (I 22) (I 7) fun gh19=>
  muX gh19 0 (.mp (List.length gh)) (I 23) (I 7) fun gh20=>some (.ret,⟨[(0,(.mp (List.length gh)))],[],gh20⟩)
theorem qch_ (h:qch pg gh=some (e,s)):runL pg qbc ⟨[],[],gh⟩=some (e,s):=
 jfl qeq (Eq.trans (by kernel_rfl) h)
end
end Go.Lw
end

/-! What the code of function ref_FitOf comes to, piece by piece. Written by program (dprint.py). -/
section
set_option maxRecDepth 10000
set_option maxHeartbeats 4000000
namespace Go.Lw
open Go
noncomputable section
variable {pg:Prg} {gh:List GObj} {e:IExit} {s:St}
def q4n:Tr:=(tB 70 (tI 35 (tI 19 (tB 11 (.node 3 (.agg [.int .i64,.int .i64,.int .i64]) (tI 1 (uI 0) (uI 2)) (tI 9 (uI 8) (uI 10))) (tB 15 (tI 13 (uI 12) (uI 14)) (tB 17 (uI 16) (uB 18)))) (tI 27 (tI 23 (tI 21 (uB 20) (uI 22)) (tB 25 (uI 24) (uB 26))) (tB 32 (tB 30 (uI 29) (uB 31)) (tI 34 (uB 33) .nil)))) (tI 52 (tI 44 (tI 40 (tB 37 (uB 36) (uI 38)) (tB 42 (uB 41) (uB 43))) (tI 49 (tB 47 (uI 46) (uB 48)) (tB 51 (uB 50) .nil))) (tB 61 (tI 57 (tB 54 (uB 53) (uI 56)) (tB 59 (uB 58) (uI 60))) (tB 66 (tI 64 (uI 63) (uB 65)) (tI 69 (uI 68) .nil))))) (tI 108 (tB 89 (tB 80 (tB 74 (tB 72 (uB 71) (uI 73)) (tI 78 (uI 76) (uB 79))) (tB 84 (tB 82 (uI 81) (uB 83)) (tB 86 (uI 85) (uI 88)))) (tI 99 (tB 94 (tI 92 (uB 90) (uI 93)) (tB 96 (uB 95) (uI 98))) (tI 103 (tB 101 (uB 100) (uB 102)) (tI 106 (uB 104) .nil)))) (tI 123 (tB 116 (tB 112 (tI 110 (uI 109) (uB 111)) (tB 114 (uI 113) (uI 115))) (tB 120 (tI 118 (uB 117) (uB 119)) (tI 122 (uB 121) .nil))) (tI 132 (tB 128 (tI 126 (uI 124) (uB 127)) (tB 130 (uB 129) (uB 131))) (tB 136 (tB 134 (uB 133) (uI 135)) (tB 138 (uB 137) .nil))))))
def q1e (pg:Prg) (x0 x1:Int) (x2 x9:Int) (x10 xc0_0:Int) (xc0_1 xc0_2:Int) (gh:List GObj):DR:=
  br 20 (decide (x10<3)) (
  br 26 (decide (x10<x9)) (gd (decide (0≤x10∧x10<((3:Nat):Int))) (
  ob (grab false 1 (0+Int.toNat x10*1) [I xc0_0,I xc0_1,I xc0_2]) fun v1=>unI .i64 (degr v1) fun n2=>
  callR gh true (callL pg 50 [I n2,I 1,I 8] gh) fun r3 gh4=>unB r3 fun b5=>
  br 33 (!b5) (some (.ret,⟨[(8,I 3)],[],gh4⟩)) (
  br 37 (decide (x9≤x10)) (gd (decide (0≤x10∧x10<((3:Nat):Int))) (
  ob (grab false 1 (0+Int.toNat x10*1) [I xc0_0,I xc0_1,I xc0_2]) fun v6=>unI .i64 (degr v6) fun n7=>
  br 43 (n7 !=0) (some (.ret,⟨[(8,I 3)],[],gh4⟩)) (some (.normal,⟨[(0,I x0),(1,I x1),(2,I x2),(7,.ptr false 0 0),(9,I x9),(10,(I (IntKind.i64.wrap (x10+1))))],[[I xc0_0,I xc0_1,I xc0_2]],gh4⟩)))) (some (.normal,⟨[(0,I x0),(1,I x1),(2,I x2),(7,.ptr false 0 0),(9,I x9),(10,(I (IntKind.i64.wrap (x10+1))))],[[I xc0_0,I xc0_1,I xc0_2]],gh4⟩))))) (
  br 37 (decide (x9≤x10)) (gd (decide (0≤x10∧x10<((3:Nat):Int))) (
  ob (grab false 1 (0+Int.toNat x10*1) [I xc0_0,I xc0_1,I xc0_2]) fun v8=>unI .i64 (degr v8) fun n9=>
  br 43 (n9 !=0) (some (.ret,⟨[(8,I 3)],[],gh⟩)) (some (.normal,⟨[(0,I x0),(1,I x1),(2,I x2),(7,.ptr false 0 0),(9,I x9),(10,(I (IntKind.i64.wrap (x10+1))))],[[I xc0_0,I xc0_1,I xc0_2]],gh⟩)))) (some (.normal,⟨[(0,I x0),(1,I x1),(2,I x2),(7,.ptr false 0 0),(9,I x9),(10,(I (IntKind.i64.wrap (x10+1))))],[[I xc0_0,I xc0_1,I xc0_2]],gh⟩)))) (some ((.exit 0),⟨[(0,I x0),(1,I x1),(2,I x2),(7,.ptr false 0 0),(9,I x9),(10,I x10),(20,(B (decide (x10<3))))],[[I xc0_0,I xc0_1,I xc0_2]],gh⟩))
theorem q1e_ {x0 x1:Int} {x2 x9:Int} {x10 xc0_0:Int} {xc0_1 xc0_2:Int} (h:q1e pg x0 x1 x2 x9 x10 xc0_0 xc0_1 xc0_2 gh=some (e,s)):runL pg qa1 ⟨[(0,I x0),(1,I x1),(2,I x2),(7,.ptr false 0 0),(9,I x9),(10,I x10)],[[I xc0_0,I xc0_1,I xc0_2]],gh⟩=some (e,s):=
 jfl q4n (Eq.trans (by kernel_rfl) h)
def q4o (pg:Prg) (x0 x2:Int) (b11:Bool) (gh:List GObj):DR:=
  br 131 (!b11) (some (.ret,⟨[(8,I 1)],[],gh⟩)) (
  br 134 (x0 !=21) (
  br 138 (x2 !=0) (some (.ret,⟨[(8,I 1)],[],gh⟩)) (some (.ret,⟨[(8,I 0)],[],gh⟩))) (some (.ret,⟨[(8,I 0)],[],gh⟩)))
theorem q4o_ {x0 x2:Int} {b11:Bool} (h:q4o pg x0 x2 b11 gh=some (e,s)):runL pg qf ⟨[(0,I x0),(2,I x2),(11,B b11)],[],gh⟩=some (e,s):=
 jfl q4n (Eq.trans (by kernel_rfl) h)
def qk (pg:Prg) (x0 x1:Int) (x2 xc0_0:Int) (xc0_1 xc0_2:Int) (gh:List GObj):DR:=
  br 51 (x0==4) (
  kR (runL pg qf ⟨[(0,I x0),(2,I x2),(11,(B (xc0_0==x1)))],[],gh⟩) (fun e s=>some (e,s))) (
  br 48 (x0==5) (
  kR (runL pg qf ⟨[(0,I x0),(2,I x2),(11,(B (xc0_0==x1)))],[],gh⟩) (fun e s=>some (e,s))) (
  callR gh true (callL pg 50 [I x0,I 6,I 15] gh) fun r1 gh2=>unB r1 fun b3=>
  br 59 b3 (
  br 66 (xc0_0==x1) (
  kR (runL pg qf ⟨[(0,I x0),(2,I x2),(11,(B (xc0_1==x1)))],[],gh2⟩) (fun e s=>some (e,s))) (
  kR (runL pg qf ⟨[(0,I x0),(2,I x2),(11,B false)],[],gh2⟩) (fun e s=>some (e,s)))) (
  callR gh2 true (callL pg 50 [I x0,I 16,I 18] gh2) fun r4 gh5=>unB r4 fun b6=>
  br 72 b6 (
  br 80 (xc0_0==xc0_1) (
  kR (runL pg qf ⟨[(0,I x0),(2,I x2),(11,(B (x1==1)))],[],gh5⟩) (fun e s=>some (e,s))) (
  kR (runL pg qf ⟨[(0,I x0),(2,I x2),(11,B false)],[],gh5⟩) (fun e s=>some (e,s)))) (
  br 84 (x0==19) (
  br 90 (xc0_0==1) (
  br 96 (xc0_1==x1) (
  kR (runL pg qf ⟨[(0,I x0),(2,I x2),(11,(B (xc0_2==x1)))],[],gh5⟩) (fun e s=>some (e,s))) (
  kR (runL pg qf ⟨[(0,I x0),(2,I x2),(11,B false)],[],gh5⟩) (fun e s=>some (e,s)))) (
  kR (runL pg qf ⟨[(0,I x0),(2,I x2),(11,B false)],[],gh5⟩) (fun e s=>some (e,s)))) (
  br 102 (x0==20) (
  kR (runL pg qf ⟨[(0,I x0),(2,I x2),(11,(B ((IntKind.i64.wrap (xc0_0+xc0_1))==x1)))],[],gh5⟩) (fun e s=>some (e,s))) (
  br 112 (x0==21) (
  br 117 (decide (0≤x2)) (
  br 121 (decide (x2≤8)) (
  kR (runL pg qf ⟨[(0,I x0),(2,I x2),(11,(B (decide ((IntKind.i64.wrap (x2+x1))≤xc0_0))))],[],gh5⟩) (fun e s=>some (e,s))) (
  kR (runL pg qf ⟨[(0,I x0),(2,I x2),(11,B false)],[],gh5⟩) (fun e s=>some (e,s)))) (
  kR (runL pg qf ⟨[(0,I x0),(2,I x2),(11,B false)],[],gh5⟩) (fun e s=>some (e,s)))) (
  kR (runL pg qf ⟨[(0,I x0),(2,I x2),(11,(B (decide (xc0_0≤x1))))],[],gh5⟩) (fun e s=>some (e,s)))))))))
theorem qk_ {x0 x1:Int} {x2 xc0_0:Int} {xc0_1 xc0_2:Int} (h:qk pg x0 x1 x2 xc0_0 xc0_1 xc0_2 gh=some (e,s)):runL pg q43 ⟨[(0,I x0),(1,I x1),(2,I x2),(7,.ptr false 0 0)],[[I xc0_0,I xc0_1,I xc0_2]],gh⟩=some (e,s):=
 jfl q4n (Eq.trans (by kernel_rfl) h)
def q3k (pg:Prg) (x0 x1:Int) (x2 x3_0:Int) (x3_1 x3_2:Int) (gh:List GObj):DR:=
  callR gh true (callL pg 26 [I x0] gh) fun r1 gh2=>unI .i64 r1 fun n3=>
  br 15 (n3==0) (some (.ret,⟨[(8,I 7)],[],gh2⟩)) (
  callR gh2 true (callL pg 50 [I x1,I 1,I 8] gh2) fun r4 gh5=>unB r4 fun b6=>
  br 18 (!b6) (some (.ret,⟨[(8,I 3)],[],gh5⟩)) (
  kR (runL pg q6j ⟨[(0,I x0),(1,I x1),(2,I x2),(7,.ptr false 0 0),(9,I n3),(10,I 0)],[[I x3_0,I x3_1,I x3_2]],gh5⟩) (fun e s=>nx e s (fun e s=>some (e,s)) fun s=>kR (runL pg q43 s) (fun e s=>some (e,s)))))
theorem q3k_ {x0 x1:Int} {x2 x3_0:Int} {x3_1 x3_2:Int} (h:q3k pg x0 x1 x2 x3_0 x3_1 x3_2 gh=some (e,s)):runL pg qa2 ⟨[(0,I x0),(1,I x1),(2,I x2),(3,.agg [I x3_0,I x3_1,I x3_2])],[],gh⟩=some (e,s):=
 jfl q4n (Eq.trans (by kernel_rfl) h)
end
end Go.Lw
end

/-! What the code of function ref_Takes comes to, piece by piece. Written by program (dprint.py). -/
section
set_option maxRecDepth 10000
set_option maxHeartbeats 4000000
namespace Go.Lw
open Go
noncomputable section
variable {pg:Prg} {gh:List GObj} {e:IExit} {s:St}
def q7w:Tr:=(tB 7 (tB 4 (tI 2 (uI 0) (uI 3)) (tB 6 (uB 5) .nil)) (tB 11 (tB 9 (uB 8) (uB 10)) (tB 13 (uI 12) .nil)))
def qci (pg:Prg) (x0 x3:Int) (b4:Bool) (gh:List GObj):DR:=
  br 4 b4 (some (.ret,⟨[(2,I 1)],[],gh⟩)) (
  br 10 (x3==19) (some (.ret,⟨[(2,I 3)],[],gh⟩)) (some (.normal,⟨[(0,I x0),(10,(B (x3==19)))],[],gh⟩)))
theorem qci_ {x0 x3:Int} {b4:Bool} (h:qci pg x0 x3 b4 gh=some (e,s)):runL pg q1l ⟨[(0,I x0),(3,I x3),(4,B b4)],[],gh⟩=some (e,s):=
 jfl q7w (Eq.trans (by kernel_rfl) h)
def q7x (pg:Prg) (x0:Int) (b10:Bool) (gh:List GObj):DR:=
  callR gh true (callL pg 50 [I x0,I 6,I 20] gh) fun r1 gh2=>unB r1 fun b3=>
  br 13 b3 (some (.ret,⟨[(2,I 2)],[],gh2⟩)) (some (.ret,⟨[(2,I 0)],[],gh2⟩))
theorem q7x_ {x0:Int} {b10:Bool} (h:q7x pg x0 b10 gh=some (e,s)):runL pg q1m ⟨[(0,I x0),(10,B b10)],[],gh⟩=some (e,s):=
 jfl q7w (Eq.trans (by kernel_rfl) h)
def q3l (pg:Prg) (x0:Int) (gh:List GObj):DR:=
  br 4 (x0==4) (
  kR (runL pg q1l ⟨[(0,I x0),(3,I x0),(4,(B (x0==4)))],[],gh⟩) (fun e s=>bk 0 e s (fun e s=>nx e s (fun e s=>some (e,s)) fun s=>kR (runL pg q1m s) (fun e s=>some (e,s))))) (
  br 4 (x0==5) (
  kR (runL pg q1l ⟨[(0,I x0),(3,I x0),(4,(B (x0==5)))],[],gh⟩) (fun e s=>bk 0 e s (fun e s=>nx e s (fun e s=>some (e,s)) fun s=>kR (runL pg q1m s) (fun e s=>some (e,s))))) (
  br 4 (x0==21) (
  kR (runL pg q1l ⟨[(0,I x0),(3,I x0),(4,(B (x0==21)))],[],gh⟩) (fun e s=>bk 0 e s (fun e s=>nx e s (fun e s=>some (e,s)) fun s=>kR (runL pg q1m s) (fun e s=>some (e,s))))) (
  br 4 (x0==22) (
  kR (runL pg q1l ⟨[(0,I x0),(3,I x0),(4,(B (x0==22)))],[],gh⟩) (fun e s=>bk 0 e s (fun e s=>nx e s (fun e s=>some (e,s)) fun s=>kR (runL pg q1m s) (fun e s=>some (e,s))))) (
  kR (runL pg q1l ⟨[(0,I x0),(3,I x0),(4,(B (x0==23)))],[],gh⟩) (fun e s=>bk 0 e s (fun e s=>nx e s (fun e s=>some (e,s)) fun s=>kR (runL pg q1m s) (fun e s=>some (e,s))))))))
theorem q3l_ {x0:Int} (h:q3l pg x0 gh=some (e,s)):runL pg qa3 ⟨[(0,I x0)],[],gh⟩=some (e,s):=
 jfl q7w (Eq.trans (by kernel_rfl) h)
end
end Go.Lw
end

/-! What the code of function ref_between comes to, piece by piece. Written by program (dprint.py). -/
section
set_option maxRecDepth 10000
set_option maxHeartbeats 4000000
namespace Go.Lw
open Go
noncomputable section
variable {pg:Prg} {gh:List GObj} {e:IExit} {s:St}
def qer:Tr:=(tB 9 (tB 6 (tI 1 (uI 0) (uI 2)) (tI 8 (uI 7) .nil)) (tI 12 (tI 11 (uB 10) .nil) (tB 14 (uB 13) .nil)))
def q7y (pg:Prg) (x0 x1 x2:Int) (gh:List GObj):DR:=
  br 10 (decide (x1≤x0)) (some (.ret,⟨[(6,(B (decide (x0≤x2))))],[],gh⟩)) (some (.ret,⟨[(6,B false)],[],gh⟩))
theorem q7y_ {x0 x1 x2:Int} (h:q7y pg x0 x1 x2 gh=some (e,s)):runL pg qaj ⟨[(0,I x0),(1,I x1),(2,I x2)],[],gh⟩=some (e,s):=
 jfl qer (Eq.trans (by kernel_rfl) h)
end
end Go.Lw
end

/-! What the code of function word_IsWord comes to, piece by piece. Written by program (dprint.py). -/
section
set_option maxRecDepth 10000
set_option maxHeartbeats 4000000
namespace Go.Lw
open Go
noncomputable section
variable {pg:Prg} {gh:List GObj} {e:IExit} {s:St}
def qes:Tr:=(tB 7 (tB 4 (tI 1 (uI 0) .nil) (tB 6 (uI 5) .nil)) (tI 10 (tI 9 (uI 8) .nil) (tB 12 (uB 11) .nil)))
def q7z (pg:Prg) (x0 x1:Int) (gh:List GObj):DR:=
  br 7 (decide (0≤x0)) (gd (decide ((0:Int)≤x1)) (some (.ret,⟨[(4,(B (decide (x0<(iShl .i64 1 x1)))))],[],gh⟩))) (some (.ret,⟨[(4,B false)],[],gh⟩))
theorem q7z_ {x0 x1:Int} (h:q7z pg x0 x1 gh=some (e,s)):runL pg qbg ⟨[(0,I x0),(1,I x1)],[],gh⟩=some (e,s):=
 jfl qes (Eq.trans (by kernel_rfl) h)
end
end Go.Lw
end

/-! What the code of function ref_Two comes to, piece by piece. Written by program (dprint.py). -/
section
set_option maxRecDepth 10000
set_option maxHeartbeats 4000000
namespace Go.Lw
open Go
noncomputable section
variable {pg:Prg} {gh:List GObj} {e:IExit} {s:St}
def q80:Tr:=(tB 7 (tI 4 (tI 2 (uI 0) (uI 3)) (tI 6 (uI 5) .nil)) (tI 10 (tI 9 (uI 8) .nil) (tI 12 (uI 11) .nil)))
def q81 (pg:Prg) (x0 x3 x4:Int) (gh:List GObj):DR:=
  br 7 (decide (x4<x0)) (some (.normal,⟨[(0,I x0),(3,(I (IntKind.i64.wrap (2*x3)))),(4,(I (IntKind.i64.wrap (x4+1))))],[],gh⟩)) (some ((.exit 0),⟨[(0,I x0),(3,I x3),(4,I x4),(7,(B (decide (x4<x0))))],[],gh⟩))
theorem q81_ {x0 x3 x4:Int} (h:q81 pg x0 x3 x4 gh=some (e,s)):runL pg qa4 ⟨[(0,I x0),(3,I x3),(4,I x4)],[],gh⟩=some (e,s):=
 jfl q80 (Eq.trans (by kernel_rfl) h)
def qet (pg:Prg) (x3:Int) (gh:List GObj):DR:=some (.ret,⟨[(2,I x3)],[],gh⟩)
theorem qet_ {x3:Int} (h:qet pg x3 gh=some (e,s)):runL pg q6k ⟨[(3,I x3)],[],gh⟩=some (e,s):=
 jfl q80 (Eq.trans (by kernel_rfl) h)
def qcj (pg:Prg) (x0:Int) (gh:List GObj):DR:=
  kR (runL pg q44 ⟨[(0,I x0),(3,I 1),(4,I 0)],[],gh⟩) (fun e s=>nx e s (fun e s=>some (e,s)) fun s=>kR (runL pg q6k s) (fun e s=>some (e,s)))
theorem qcj_ {x0:Int} (h:qcj pg x0 gh=some (e,s)):runL pg qa5 ⟨[(0,I x0)],[],gh⟩=some (e,s):=
 jfl q80 (Eq.trans (by kernel_rfl) h)
end
end Go.Lw
end

/-! What the code of function slices_ContainsFunc_Lint_int comes to, piece by piece. Written by program (dprint.py). -/
section
set_option maxRecDepth 10000
set_option maxHeartbeats 4000000
namespace Go.Lw
open Go
noncomputable section
variable {pg:Prg} {gh:List GObj} {e:IExit} {s:St}
def qeu:Tr:=(tO 5 (tO 1 (uO 0) (uB 4)) (tI 7 (uO 6) (uB 8)))
def qck (pg:Prg) (v0 v1:PV) (gh:List GObj):DR:=stK 0 v0 (stK 0 v1 (isC (degr v0) (isC (degr v1) (arK (degr (degr v0)) (arK (degr (degr v1)) (
  callR gh true (callL pg 111 [(degr (degr v0)),(degr (degr v1))] gh) fun r1 gh2=>unI .i64 r1 fun n3=>some (.ret,⟨[(4,(B (decide (0≤n3))))],[],gh2⟩)))))))
theorem qck_ {v0 v1:PV} (h:qck pg v0 v1 gh=some (e,s)):runL pg q94 ⟨[(0,v0),(1,v1)],[],gh⟩=some (e,s):=
 jfl qeu (Eq.trans (by kernel_rfl) h)
end
end Go.Lw
end

/-! What the code of function slices_IndexFunc_Lint_int comes to, piece by piece. Written by program (dprint.py). -/
section
set_option maxRecDepth 10000
set_option maxHeartbeats 4000000
namespace Go.Lw
open Go
noncomputable section
variable {pg:Prg} {gh:List GObj} {e:IExit} {s:St}
def q82:Tr:=(tI 10 (tO 6 (tI 4 (tO 1 (uO 0) .nil) (uI 5)) (tI 8 (uI 7) (uB 9))) (tI 15 (tO 12 (uO 11) (uI 13)) (tI 17 (uB 16) (uI 18))))
def q4p (pg:Prg) (v0 v1:PV) (x7 x8:Int) (gh:List GObj):DR:=
  br 9 (decide (x8<x7)) (stK 0 v0 (stK 0 v1 (isC (degr v1) (isC (degr v0) (
  idX 1 none (degr (degr v0)) x8 fun p1=>
  ldX [] gh false 1 (degr p1) fun v2=>unI .i64 v2 fun n3=>
  fnX (degr (degr v1)) fun f6 cs7=>allK cs7 (callR gh true (callL pg f6 ([I n3]++cs7) gh) fun r4 gh5=>unB r4 fun b8=>stK 0 v0 (stK 0 v1 (
  br 16 b8 (some (.ret,⟨[(4,I x8)],[],gh5⟩)) (stK 0 v0 (stK 0 v1 (stK 0 v0 (stK 0 v1 (some (.normal,⟨[(0,v0),(1,v1),(7,I x7),(8,(I (IntKind.i64.wrap (x8+1))))],[],gh5⟩)))))))))))))) (some ((.exit 0),⟨[(0,v0),(1,v1),(7,I x7),(8,I x8),(9,(B (decide (x8<x7))))],[],gh⟩))
theorem q4p_ {v0 v1:PV} {x7 x8:Int} (h:q4p pg v0 v1 x7 x8 gh=some (e,s)):runL pg q98 ⟨[(0,v0),(1,v1),(7,I x7),(8,I x8)],[],gh⟩=some (e,s):=
 jfl q82 (Eq.trans (by kernel_rfl) h)
def qev (pg:Prg) (gh:List GObj):DR:=some (.ret,⟨[(4,(I (-1)))],[],gh⟩)
theorem qev_ (h:qev pg gh=some (e,s)):runL pg q5t ⟨[],[],gh⟩=some (e,s):=
 jfl q82 (Eq.trans (by kernel_rfl) h)
def q83 (pg:Prg) (v0 v1:PV) (gh:List GObj):DR:=stK 0 v0 (stK 0 v1 (isC (degr v0) (lenS (degr (degr v0)) fun n1=>stK 0 v0 (stK 0 v1 (
  kR (runL pg q5s ⟨[(0,v0),(1,v1),(7,(I (n1:Int))),(8,I 0)],[],gh⟩) (fun e s=>nx e s (fun e s=>some (e,s)) fun s=>kR (runL pg q5t s) (fun e s=>some (e,s))))))))
theorem q83_ {v0 v1:PV} (h:q83 pg v0 v1 gh=some (e,s)):runL pg q99 ⟨[(0,v0),(1,v1)],[],gh⟩=some (e,s):=
 jfl q82 (Eq.trans (by kernel_rfl) h)
end
end Go.Lw
end

/-! What the code of function model_Args comes to, piece by piece. Written by program (dprint.py). -/
section
set_option maxRecDepth 10000
set_option maxHeartbeats 4000000
namespace Go.Lw
open Go
noncomputable section
variable {pg:Prg} {gh:List GObj} {e:IExit} {s:St}
def qew:Tr:=(tI 8 (tI 4 (tO 2 (.node 0 (.agg [.int .i64,.int .i64,.int .i64,.int .i64,.int .i64,.int .i64]) .nil .nil) .nil) (uI 6)) (tI 12 (tI 11 (uO 9) .nil) (uO 13)))
def q3m (pg:Prg) (x0_0 x0_1:Int) (x0_2 x0_3:Int) (x0_4 x0_5:Int) (gh:List GObj):DR:=
  callR gh true (callL pg 63 [I x0_0] gh) fun r1 gh2=>unI .i64 r1 fun n3=>
  slX 1 (.sl false 1 [I x0_2,I x0_3,I x0_4]) none (some n3) fun v4=>isC v4 (stK 0 v4 (some (.ret,⟨[(2,v4)],[],gh2⟩)))
theorem q3m_ {x0_0 x0_1:Int} {x0_2 x0_3:Int} {x0_4 x0_5:Int} (h:q3m pg x0_0 x0_1 x0_2 x0_3 x0_4 x0_5 gh=some (e,s)):runL pg q9p ⟨[(0,.agg [I x0_0,I x0_1,I x0_2,I x0_3,I x0_4,I x0_5])],[],gh⟩=some (e,s):=
 jfl qew (Eq.trans (by kernel_rfl) h)
end
end Go.Lw
end

/-! What the code of function model_leaf comes to, piece by piece. Written by program (dprint.py). -/
section
set_option maxRecDepth 10000
set_option maxHeartbeats 4000000
namespace Go.Lw
open Go
noncomputable section
variable {pg:Prg} {gh:List GObj} {e:IExit} {s:St}
def qex:Tr:=(tB 5 (tI 3 (tB 2 (uI 0) .nil) (uB 4)) (tB 7 (uI 6) (uB 8)))
def q84 (pg:Prg) (x0:Int) (gh:List GObj):DR:=
  br 5 (decide (1≤x0)) (some (.ret,⟨[(2,(B (decide (x0≤3))))],[],gh⟩)) (some (.ret,⟨[(2,B false)],[],gh⟩))
theorem q84_ {x0:Int} (h:q84 pg x0 gh=some (e,s)):runL pg q9s ⟨[(0,I x0)],[],gh⟩=some (e,s):=
 jfl qex (Eq.trans (by kernel_rfl) h)
end
end Go.Lw
end

/-! What the code of function model_Widths comes to, piece by piece. Written by program (dprint.py). -/
section
set_option maxRecDepth 10000
set_option maxHeartbeats 4000000
namespace Go.Lw
open Go
noncomputable section
variable {pg:Prg} {gh:List GObj} {e:IExit} {s:St}
def q85:Tr:=(tB 12 (.node 8 (.agg [.int .i64,.int .i64,.int .i64,.int .i64,.int .i64,.int .i64]) (tI 6 (.node 1 (.agg [.int .i64,.int .i64,.int .i64,.int .i64,.int .i64,.int .i64]) (uO 0) .nil) (uI 7)) (tI 10 (uO 9) (uI 11))) (tI 18 (tI 16 (tI 15 (uI 13) .nil) (uO 17)) (tI 23 (uI 21) (.node 24 (.agg [.int .i64,.int .i64,.int .i64]) .nil .nil))))
def q29 (pg:Prg) (v0 v9:PV) (x10 x11:Int) (xc0_0 xc0_1:Int) (xc0_2 xc0_3:Int) (xc0_4 xc0_5:Int) (xc1_0 xc1_1:Int) (xc1_2 xc2_0:Int) (xc2_1 xc2_2:Int) (gh:List GObj):DR:=
  br 12 (decide (x11<x10)) (
  idX 1 none (degr v9) x11 fun p1=>
  ldX [[I xc0_0,I xc0_1,I xc0_2,I xc0_3,I xc0_4,I xc0_5],[I xc1_0,I xc1_1,I xc1_2],[I xc2_0,I xc2_1,I xc2_2]] gh false 1 (degr p1) fun v2=>unI .i64 v2 fun n3=>stK 3 v0 (stK 3 v9 (isC (degr v0) (
  idX 6 none (degr (degr v0)) n3 fun p4=>faX (degr p4) 1 fun p5=>
  ldX [[I xc0_0,I xc0_1,I xc0_2,I xc0_3,I xc0_4,I xc0_5],[I xc1_0,I xc1_1,I xc1_2],[I xc2_0,I xc2_1,I xc2_2]] gh false 1 (degr p5) fun v6=>unI .i64 v6 fun n7=>gd (decide (0≤x11∧x11<((3:Nat):Int))) (gb (stOk 1 (0+Int.toNat x11*1) [I n7] [I xc2_0,I xc2_1,I xc2_2]) (stK 3 v0 (stK 3 v9 (stK 3 v0 (stK 3 v9 (stK 3 v0 (stK 3 v9 (some (.normal,⟨[(0,v0),(4,.ptr false 1 0),(5,.ptr false 2 0),(9,v9),(10,I x10),(11,(I (IntKind.i64.wrap (x11+1))))],[[I xc0_0,I xc0_1,I xc0_2,I xc0_3,I xc0_4,I xc0_5],[I xc1_0,I xc1_1,I xc1_2],(spliceAt [I xc2_0,I xc2_1,I xc2_2] (0+Int.toNat x11*1) [I n7])],gh⟩))))))))))))) (some ((.exit 0),⟨[(0,v0),(4,.ptr false 1 0),(5,.ptr false 2 0),(9,v9),(10,I x10),(11,I x11),(12,(B (decide (x11<x10))))],[[I xc0_0,I xc0_1,I xc0_2,I xc0_3,I xc0_4,I xc0_5],[I xc1_0,I xc1_1,I xc1_2],[I xc2_0,I xc2_1,I xc2_2]],gh⟩))
theorem q29_ {v0 v9:PV} {x10 x11:Int} {xc0_0 xc0_1:Int} {xc0_2 xc0_3:Int} {xc0_4 xc0_5:Int} {xc1_0 xc1_1:Int} {xc1_2 xc2_0:Int} {xc2_1 xc2_2:Int} (h:q29 pg v0 v9 x10 x11 xc0_0 xc0_1 xc0_2 xc0_3 xc0_4 xc0_5 xc1_0 xc1_1 xc1_2 xc2_0 xc2_1 xc2_2 gh=some (e,s)):runL pg q9t ⟨[(0,v0),(4,.ptr false 1 0),(5,.ptr false 2 0),(9,v9),(10,I x10),(11,I x11)],[[I xc0_0,I xc0_1,I xc0_2,I xc0_3,I xc0_4,I xc0_5],[I xc1_0,I xc1_1,I xc1_2],[I xc2_0,I xc2_1,I xc2_2]],gh⟩=some (e,s):=
 jfl q85 (Eq.trans (by kernel_rfl) h)
def qey (pg:Prg) (xc0_0 xc0_1:Int) (xc0_2 xc0_3:Int) (xc0_4 xc0_5:Int) (xc1_0 xc1_1:Int) (xc1_2 xc2_0:Int) (xc2_1 xc2_2:Int) (gh:List GObj):DR:=some (.ret,⟨[(4,.ptr false 1 0)],[[I xc0_0,I xc0_1,I xc0_2,I xc0_3,I xc0_4,I xc0_5],[I xc2_0,I xc2_1,I xc2_2]],gh⟩)
theorem qey_ {xc0_0 xc0_1:Int} {xc0_2 xc0_3:Int} {xc0_4 xc0_5:Int} {xc1_0 xc1_1:Int} {xc1_2 xc2_0:Int} {xc2_1 xc2_2:Int} (h:qey pg xc0_0 xc0_1 xc0_2 xc0_3 xc0_4 xc0_5 xc1_0 xc1_1 xc1_2 xc2_0 xc2_1 xc2_2 gh=some (e,s)):runL pg q6b ⟨[(4,.ptr false 1 0),(5,.ptr false 2 0)],[[I xc0_0,I xc0_1,I xc0_2,I xc0_3,I xc0_4,I xc0_5],[I xc1_0,I xc1_1,I xc1_2],[I xc2_0,I xc2_1,I xc2_2]],gh⟩=some (e,s):=
 jfl q85 (Eq.trans (by kernel_rfl) h)
def qcl (pg:Prg) (v0:PV) (x1_0 x1_1:Int) (x1_2 x1_3:Int) (x1_4 x1_5:Int) (gh:List GObj):DR:=stK 2 v0 (
  callR gh true (callL pg 81 [.agg [I x1_0,I x1_1,I x1_2,I x1_3,I x1_4,I x1_5]] gh) fun r1 gh2=>isC r1 (lenS (degr r1) fun n3=>stK 3 v0 (stK 3 r1 (
  kR (runL pg q42 ⟨[(0,v0),(4,.ptr false 1 0),(5,.ptr false 2 0),(9,r1),(10,(I (n3:Int))),(11,I 0)],[[I x1_0,I x1_1,I x1_2,I x1_3,I x1_4,I x1_5],[I 0,I 0,I 0],[I 0,I 0,I 0]],gh2⟩) (fun e s=>nx e s (fun e s=>some (e,s)) fun s=>kR (runL pg q6b s) (fun e s=>some (e,s)))))))
theorem qcl_ {v0:PV} {x1_0 x1_1:Int} {x1_2 x1_3:Int} {x1_4 x1_5:Int} (h:qcl pg v0 x1_0 x1_1 x1_2 x1_3 x1_4 x1_5 gh=some (e,s)):runL pg q9u ⟨[(0,v0),(1,.agg [I x1_0,I x1_1,I x1_2,I x1_3,I x1_4,I x1_5])],[],gh⟩=some (e,s):=
 jfl q85 (Eq.trans (by kernel_rfl) h)
end
end Go.Lw
end

/-! What the code of function model_node comes to, piece by piece. Written by program (dprint.py). -/
section
set_option maxRecDepth 10000
set_option maxHeartbeats 4000000
namespace Go.Lw
open Go
noncomputable section
variable {pg:Prg} {gh:List GObj} {e:IExit} {s:St}
def q2a:Tr:=(tI 58 (tB 30 (tB 15 (tO 8 (tI 4 (tI 1 (uO 0) .nil) (tI 7 (uI 6) .nil)) (tI 13 (.node 11 (.agg [.int .i64,.int .i64,.int .i64,.int .i64,.int .i64,.int .i64]) (uI 9) .nil) (uB 14))) (tB 23 (tB 19 (tB 18 (uI 17) .nil) (tB 22 (uI 21) .nil)) (tB 27 (tB 26 (uI 25) .nil) (uI 29)))) (tI 45 (tB 38 (tI 35 (tI 33 (uB 31) .nil) (tB 37 (uB 36) .nil)) (tB 42 (tI 41 (uB 39) .nil) (uB 43))) (tB 51 (tI 49 (tB 47 (uB 46) .nil) (uB 50)) (tB 55 (tB 54 (uI 53) .nil) (uB 56))))) (tB 85 (tI 73 (tO 67 (tI 62 (tB 60 (uB 59) .nil) (tI 66 (uI 64) .nil)) (tB 70 (tI 69 (uI 68) .nil) (uI 71))) (tI 80 (tI 77 (tI 76 (uI 74) .nil) (tB 79 (uB 78) .nil)) (tI 83 (tB 82 (uB 81) .nil) (uI 84)))) (tB 97 (tI 92 (tB 88 (tB 87 (uB 86) .nil) (tI 91 (uI 89) .nil)) (tI 95 (tB 94 (uB 93) .nil) (uB 96))) (tI 105 (tI 101 (tI 99 (uB 98) .nil) (uI 103)) (.node 108 (.agg [.int .i64,.int .i64,.int .i64]) (.node 107 (.agg [.int .i64,.int .i64,.int .i64,.int .i64,.int .i64,.int .i64]) (uO 106) .nil) (uI 109))))))
def qez (pg:Prg) (b39:Bool) (gh:List GObj):DR:=
  br 39 b39 (some (.ret,⟨[(4,I 1)],[],gh⟩)) (some (.normal,⟨[(39,B b39)],[],gh⟩))
theorem qez_ {b39:Bool} (h:qez pg b39 gh=some (e,s)):runL pg qc ⟨[(39,B b39)],[],gh⟩=some (e,s):=
 jfl q2a (Eq.trans (by kernel_rfl) h)
def qf0 (pg:Prg) (b39:Bool) (gh:List GObj):DR:=some (.ret,⟨[(4,I 0)],[],gh⟩)
theorem qf0_ {b39:Bool} (h:qf0 pg b39 gh=some (e,s)):runL pg qe ⟨[(39,B b39)],[],gh⟩=some (e,s):=
 jfl q2a (Eq.trans (by kernel_rfl) h)
def q1f (pg:Prg) (v0:PV) (x1:Int) (v67:PV) (x68 x69:Int) (xc0_0 xc0_1:Int) (xc0_2 xc0_3:Int) (xc0_4 xc0_5:Int) (gh:List GObj):DR:=
  br 70 (decide (x69<x68)) (
  idX 1 none (degr v67) x69 fun p1=>
  ldX [[I xc0_0,I xc0_1,I xc0_2,I xc0_3,I xc0_4,I xc0_5]] gh false 1 (degr p1) fun v2=>unI .i64 v2 fun n3=>stK 1 v0 (stK 1 v67 (
  callR gh true (callL pg 63 [I xc0_0] gh) fun r4 gh5=>unI .i64 r4 fun n6=>
  br 79 (decide (x69<n6)) (
  br 82 (decide (n3<0)) (stK 1 v0 (stK 1 v67 (some (.ret,⟨[(4,I 4)],[],gh5⟩)))) (
  br 88 (decide (x1≤n3)) (stK 1 v0 (stK 1 v67 (some (.ret,⟨[(4,I 4)],[],gh5⟩)))) (
  callR gh5 true (callL pg 63 [I xc0_0] gh5) fun r7 gh8=>unI .i64 r7 fun n9=>
  br 94 (decide (n9≤x69)) (stK 1 v0 (stK 1 v67 (
  br 98 (n3 !=0) (some (.ret,⟨[(4,I 4)],[],gh8⟩)) (stK 1 v0 (stK 1 v67 (stK 1 v0 (stK 1 v67 (some (.normal,⟨[(0,v0),(1,I x1),(5,.ptr false 0 0),(67,v67),(68,I x68),(69,(I (IntKind.i64.wrap (x69+1))))],[[I xc0_0,I xc0_1,I xc0_2,I xc0_3,I xc0_4,I xc0_5]],gh8⟩))))))))) (stK 1 v0 (stK 1 v67 (stK 1 v0 (stK 1 v67 (stK 1 v0 (stK 1 v67 (some (.normal,⟨[(0,v0),(1,I x1),(5,.ptr false 0 0),(67,v67),(68,I x68),(69,(I (IntKind.i64.wrap (x69+1))))],[[I xc0_0,I xc0_1,I xc0_2,I xc0_3,I xc0_4,I xc0_5]],gh8⟩))))))))))) (
  callR gh5 true (callL pg 63 [I xc0_0] gh5) fun r10 gh11=>unI .i64 r10 fun n12=>
  br 94 (decide (n12≤x69)) (stK 1 v0 (stK 1 v67 (
  br 98 (n3 !=0) (some (.ret,⟨[(4,I 4)],[],gh11⟩)) (stK 1 v0 (stK 1 v67 (stK 1 v0 (stK 1 v67 (some (.normal,⟨[(0,v0),(1,I x1),(5,.ptr false 0 0),(67,v67),(68,I x68),(69,(I (IntKind.i64.wrap (x69+1))))],[[I xc0_0,I xc0_1,I xc0_2,I xc0_3,I xc0_4,I xc0_5]],gh11⟩))))))))) (stK 1 v0 (stK 1 v67 (stK 1 v0 (stK 1 v67 (stK 1 v0 (stK 1 v67 (some (.normal,⟨[(0,v0),(1,I x1),(5,.ptr false 0 0),(67,v67),(68,I x68),(69,(I (IntKind.i64.wrap (x69+1))))],[[I xc0_0,I xc0_1,I xc0_2,I xc0_3,I xc0_4,I xc0_5]],gh11⟩)))))))))))) (some ((.exit 1),⟨[(0,v0),(1,I x1),(5,.ptr false 0 0),(67,v67),(68,I x68),(69,I x69),(70,(B (decide (x69<x68))))],[[I xc0_0,I xc0_1,I xc0_2,I xc0_3,I xc0_4,I xc0_5]],gh⟩))
theorem q1f_ {v0:PV} {x1:Int} {v67:PV} {x68 x69:Int} {xc0_0 xc0_1:Int} {xc0_2 xc0_3:Int} {xc0_4 xc0_5:Int} (h:q1f pg v0 x1 v67 x68 x69 xc0_0 xc0_1 xc0_2 xc0_3 xc0_4 xc0_5 gh=some (e,s)):runL pg q9e ⟨[(0,v0),(1,I x1),(5,.ptr false 0 0),(67,v67),(68,I x68),(69,I x69)],[[I xc0_0,I xc0_1,I xc0_2,I xc0_3,I xc0_4,I xc0_5]],gh⟩=some (e,s):=
 jfl q2a (Eq.trans (by kernel_rfl) h)
def qcm (pg:Prg) (v0:PV) (xc0_0 xc0_1:Int) (xc0_2 xc0_3:Int) (xc0_4 xc0_5:Int) (gh:List GObj):DR:=isC (degr v0) (arK (degr (degr v0)) (
  callR gh true (callL pg 104 [(degr (degr v0)),.agg [I xc0_0,I xc0_1,I xc0_2,I xc0_3,I xc0_4,I xc0_5]] gh) fun r1 gh2=>unA 3 r1 fun c3 c4 c5=>unI .i64 c3 fun n6=>unI .i64 c4 fun n7=>unI .i64 c5 fun n8=>
  callR gh2 true (callL pg 22 [I xc0_0,I xc0_1,I xc0_5,.agg [I n6,I n7,I n8]] gh2) fun r9 gh10=>unI .i64 r9 fun n11=>some (.ret,⟨[(4,I n11)],[],gh10⟩)))
theorem qcm_ {v0:PV} {xc0_0 xc0_1:Int} {xc0_2 xc0_3:Int} {xc0_4 xc0_5:Int} (h:qcm pg v0 xc0_0 xc0_1 xc0_2 xc0_3 xc0_4 xc0_5 gh=some (e,s)):runL pg q5x ⟨[(0,v0),(5,.ptr false 0 0)],[[I xc0_0,I xc0_1,I xc0_2,I xc0_3,I xc0_4,I xc0_5]],gh⟩=some (e,s):=
 jfl q2a (Eq.trans (by kernel_rfl) h)
def q86 (pg:Prg) (v0:PV) (x1:Int) (b26:Bool) (xc0_0 xc0_1:Int) (xc0_2 xc0_3:Int) (xc0_4 xc0_5:Int) (gh:List GObj):DR:=lenS (.sl false 1 [I xc0_2,I xc0_3,I xc0_4]) fun n1=>stK 1 v0 (
  kR (runL pg q5w ⟨[(0,v0),(1,I x1),(5,.ptr false 0 0),(67,.sl true 1 [I xc0_2,I xc0_3,I xc0_4]),(68,(I (n1:Int))),(69,I 0)],[[I xc0_0,I xc0_1,I xc0_2,I xc0_3,I xc0_4,I xc0_5]],gh⟩) (fun e s=>nx e s (fun e s=>some (e,s)) fun s=>kR (runL pg q5x s) (fun e s=>some (e,s))))
theorem q86_ {v0:PV} {x1:Int} {b26:Bool} {xc0_0 xc0_1:Int} {xc0_2 xc0_3:Int} {xc0_4 xc0_5:Int} (h:q86 pg v0 x1 b26 xc0_0 xc0_1 xc0_2 xc0_3 xc0_4 xc0_5 gh=some (e,s)):runL pg qa ⟨[(0,v0),(1,I x1),(5,.ptr false 0 0),(26,B b26)],[[I xc0_0,I xc0_1,I xc0_2,I xc0_3,I xc0_4,I xc0_5]],gh⟩=some (e,s):=
 jfl q2a (Eq.trans (by kernel_rfl) h)
def qi (pg:Prg) (v0:PV) (x1:Int) (gh:List GObj):DR:=stK 0 v0 (isC (degr v0) (
  idX 6 none (degr (degr v0)) x1 fun p1=>
  ldX [] gh true 6 (degr p1) fun v2=>unA 6 v2 fun c3 c4 c5 c6 c7 c8=>unI .i64 c3 fun n9=>unI .i64 c4 fun n10=>unI .i64 c5 fun n11=>unI .i64 c6 fun n12=>unI .i64 c7 fun n13=>unI .i64 c8 fun n14=>stK 1 v0 (
  br 15 (decide (n9<1)) (stK 1 v0 (some (.ret,⟨[(4,I 7)],[],gh⟩))) (stK 1 v0 (
  br 19 (decide (24≤n9)) (some (.ret,⟨[(4,I 7)],[],gh⟩)) (
  callR gh true (callL pg 62 [I n10] gh) fun r15 gh16=>unB r15 fun b17=>stK 1 v0 (
  br 23 (!b17) (some (.ret,⟨[(4,I 3)],[],gh16⟩)) (
  callR gh16 true (callL pg 103 [I n9] gh16) fun r18 gh19=>unB r18 fun b20=>stK 1 v0 (
  br 26 b20 (
  br 31 (n9==1) (
  callR gh19 true (callL pg 65 [I n14,I n10] gh19) fun r21 gh22=>unB r21 fun b23=>
  br 27 (!b23) (some (.ret,⟨[(4,I 3)],[],gh22⟩)) (
  br 43 (n9 !=1) (
  br 39 (n14 !=0) (
  kR (runL pg qc ⟨[(39,(B (n14 !=0)))],[],gh22⟩) (fun e s=>bk 0 e s (fun e s=>nx e s (fun e s=>nx e s (fun e s=>some (e,s)) fun s=>kR (runL pg qa s) (fun e s=>some (e,s))) fun s=>kR (runL pg qe s) (fun e s=>nx e s (fun e s=>some (e,s)) fun s=>kR (runL pg qa s) (fun e s=>some (e,s)))))) (
  br 51 (n11 !=0) (
  kR (runL pg qc ⟨[(39,B true)],[],gh22⟩) (fun e s=>bk 0 e s (fun e s=>nx e s (fun e s=>nx e s (fun e s=>some (e,s)) fun s=>kR (runL pg qa s) (fun e s=>some (e,s))) fun s=>kR (runL pg qe s) (fun e s=>nx e s (fun e s=>some (e,s)) fun s=>kR (runL pg qa s) (fun e s=>some (e,s)))))) (
  br 56 (n12 !=0) (
  kR (runL pg qc ⟨[(39,B true)],[],gh22⟩) (fun e s=>bk 0 e s (fun e s=>nx e s (fun e s=>nx e s (fun e s=>some (e,s)) fun s=>kR (runL pg qa s) (fun e s=>some (e,s))) fun s=>kR (runL pg qe s) (fun e s=>nx e s (fun e s=>some (e,s)) fun s=>kR (runL pg qa s) (fun e s=>some (e,s)))))) (
  kR (runL pg qc ⟨[(39,(B (n13 !=0)))],[],gh22⟩) (fun e s=>bk 0 e s (fun e s=>nx e s (fun e s=>nx e s (fun e s=>some (e,s)) fun s=>kR (runL pg qa s) (fun e s=>some (e,s))) fun s=>kR (runL pg qe s) (fun e s=>nx e s (fun e s=>some (e,s)) fun s=>kR (runL pg qa s) (fun e s=>some (e,s))))))))) (
  br 51 (n11 !=0) (
  kR (runL pg qc ⟨[(39,B true)],[],gh22⟩) (fun e s=>bk 0 e s (fun e s=>nx e s (fun e s=>nx e s (fun e s=>some (e,s)) fun s=>kR (runL pg qa s) (fun e s=>some (e,s))) fun s=>kR (runL pg qe s) (fun e s=>nx e s (fun e s=>some (e,s)) fun s=>kR (runL pg qa s) (fun e s=>some (e,s)))))) (
  br 56 (n12 !=0) (
  kR (runL pg qc ⟨[(39,B true)],[],gh22⟩) (fun e s=>bk 0 e s (fun e s=>nx e s (fun e s=>nx e s (fun e s=>some (e,s)) fun s=>kR (runL pg qa s) (fun e s=>some (e,s))) fun s=>kR (runL pg qe s) (fun e s=>nx e s (fun e s=>some (e,s)) fun s=>kR (runL pg qa s) (fun e s=>some (e,s)))))) (
  kR (runL pg qc ⟨[(39,(B (n13 !=0)))],[],gh22⟩) (fun e s=>bk 0 e s (fun e s=>nx e s (fun e s=>nx e s (fun e s=>some (e,s)) fun s=>kR (runL pg qa s) (fun e s=>some (e,s))) fun s=>kR (runL pg qe s) (fun e s=>nx e s (fun e s=>some (e,s)) fun s=>kR (runL pg qa s) (fun e s=>some (e,s)))))))))) (
  br 43 (n9 !=1) (
  br 39 (n14 !=0) (
  kR (runL pg qc ⟨[(39,(B (n14 !=0)))],[],gh19⟩) (fun e s=>bk 0 e s (fun e s=>nx e s (fun e s=>nx e s (fun e s=>some (e,s)) fun s=>kR (runL pg qa s) (fun e s=>some (e,s))) fun s=>kR (runL pg qe s) (fun e s=>nx e s (fun e s=>some (e,s)) fun s=>kR (runL pg qa s) (fun e s=>some (e,s)))))) (
  br 51 (n11 !=0) (
  kR (runL pg qc ⟨[(39,B true)],[],gh19⟩) (fun e s=>bk 0 e s (fun e s=>nx e s (fun e s=>nx e s (fun e s=>some (e,s)) fun s=>kR (runL pg qa s) (fun e s=>some (e,s))) fun s=>kR (runL pg qe s) (fun e s=>nx e s (fun e s=>some (e,s)) fun s=>kR (runL pg qa s) (fun e s=>some (e,s)))))) (
  br 56 (n12 !=0) (
  kR (runL pg qc ⟨[(39,B true)],[],gh19⟩) (fun e s=>bk 0 e s (fun e s=>nx e s (fun e s=>nx e s (fun e s=>some (e,s)) fun s=>kR (runL pg qa s) (fun e s=>some (e,s))) fun s=>kR (runL pg qe s) (fun e s=>nx e s (fun e s=>some (e,s)) fun s=>kR (runL pg qa s) (fun e s=>some (e,s)))))) (
  kR (runL pg qc ⟨[(39,(B (n13 !=0)))],[],gh19⟩) (fun e s=>bk 0 e s (fun e s=>nx e s (fun e s=>nx e s (fun e s=>some (e,s)) fun s=>kR (runL pg qa s) (fun e s=>some (e,s))) fun s=>kR (runL pg qe s) (fun e s=>nx e s (fun e s=>some (e,s)) fun s=>kR (runL pg qa s) (fun e s=>some (e,s))))))))) (
  br 51 (n11 !=0) (
  kR (runL pg qc ⟨[(39,B true)],[],gh19⟩) (fun e s=>bk 0 e s (fun e s=>nx e s (fun e s=>nx e s (fun e s=>some (e,s)) fun s=>kR (runL pg qa s) (fun e s=>some (e,s))) fun s=>kR (runL pg qe s) (fun e s=>nx e s (fun e s=>some (e,s)) fun s=>kR (runL pg qa s) (fun e s=>some (e,s)))))) (
  br 56 (n12 !=0) (
  kR (runL pg qc ⟨[(39,B true)],[],gh19⟩) (fun e s=>bk 0 e s (fun e s=>nx e s (fun e s=>nx e s (fun e s=>some (e,s)) fun s=>kR (runL pg qa s) (fun e s=>some (e,s))) fun s=>kR (runL pg qe s) (fun e s=>nx e s (fun e s=>some (e,s)) fun s=>kR (runL pg qa s) (fun e s=>some (e,s)))))) (
  kR (runL pg qc ⟨[(39,(B (n13 !=0)))],[],gh19⟩) (fun e s=>bk 0 e s (fun e s=>nx e s (fun e s=>nx e s (fun e s=>some (e,s)) fun s=>kR (runL pg qa s) (fun e s=>some (e,s))) fun s=>kR (runL pg qe s) (fun e s=>nx e s (fun e s=>some (e,s)) fun s=>kR (runL pg qa s) (fun e s=>some (e,s)))))))))) (
  kR (runL pg qa ⟨[(0,v0),(1,I x1),(5,.ptr false 0 0),(26,B b20)],[[I n9,I n10,I n11,I n12,I n13,I n14]],gh19⟩) (fun e s=>some (e,s))))))))))))
theorem qi_ {v0:PV} {x1:Int} (h:qi pg v0 x1 gh=some (e,s)):runL pg q9f ⟨[(0,v0),(1,I x1)],[],gh⟩=some (e,s):=
 jfl q2a (Eq.trans (by kernel_rfl) h)
end
end Go.Lw
end

/-! What the code of function ref_WidthsOf comes to, piece by piece. Written by program (dprint.py). -/
section
set_option maxRecDepth 10000
set_option maxHeartbeats 4000000
namespace Go.Lw
open Go
noncomputable section
variable {pg:Prg} {gh:List GObj} {e:IExit} {s:St}
def q4q:Tr:=(tI 19 (tI 10 (tI 6 (.node 1 (.agg [.int .i64,.int .i64,.int .i64,.int .i64,.int .i64,.int .i64]) (uO 0) .nil) (tI 9 (uI 8) .nil)) (tI 14 (tO 12 (uB 11) .nil) (uI 17))) (tB 29 (tI 23 (tO 21 (uB 20) .nil) (tI 28 (uI 26) .nil)) (tI 35 (tI 32 (uO 30) .nil) (.node 37 (.agg [.int .i64,.int .i64,.int .i64]) .nil .nil))))
def qf1 (pg:Prg) (xc0_0 xc0_1:Int) (xc0_2 xc0_3:Int) (xc0_4 xc0_5:Int) (xc1_0 xc1_1:Int) (xc1_2 xc2_0:Int) (xc2_1 xc2_2:Int) (gh:List GObj):DR:=some (.ret,⟨[(4,.ptr false 1 0)],[[I xc0_0,I xc0_1,I xc0_2,I xc0_3,I xc0_4,I xc0_5],[I xc2_0,I xc2_1,I xc2_2]],gh⟩)
theorem qf1_ {xc0_0 xc0_1:Int} {xc0_2 xc0_3:Int} {xc0_4 xc0_5:Int} {xc1_0 xc1_1:Int} {xc1_2 xc2_0:Int} {xc2_1 xc2_2:Int} (h:qf1 pg xc0_0 xc0_1 xc0_2 xc0_3 xc0_4 xc0_5 xc1_0 xc1_1 xc1_2 xc2_0 xc2_1 xc2_2 gh=some (e,s)):runL pg q2z ⟨[(4,.ptr false 1 0),(5,.ptr false 2 0)],[[I xc0_0,I xc0_1,I xc0_2,I xc0_3,I xc0_4,I xc0_5],[I xc1_0,I xc1_1,I xc1_2],[I xc2_0,I xc2_1,I xc2_2]],gh⟩=some (e,s):=
 jfl q4q (Eq.trans (by kernel_rfl) h)
def q87 (pg:Prg) (v0:PV) (x6 xc0_0:Int) (xc0_1 xc0_2:Int) (xc0_3 xc0_4:Int) (xc0_5 xc1_0:Int) (xc1_1 xc1_2:Int) (xc2_0 xc2_1 xc2_2:Int) (gh:List GObj):DR:=stK 3 v0 (
  br 29 (decide (2<x6)) (isC (degr v0) (
  idX 6 none (degr (degr v0)) xc0_4 fun p1=>faX (degr p1) 1 fun p2=>
  ldX [[I xc0_0,I xc0_1,I xc0_2,I xc0_3,I xc0_4,I xc0_5],[I xc1_0,I xc1_1,I xc1_2],[I xc2_0,I xc2_1,I xc2_2]] gh false 1 (degr p2) fun v3=>unI .i64 v3 fun n4=>
  kR (runL pg q2z ⟨[(4,.ptr false 1 0),(5,.ptr false 2 0)],[[I xc0_0,I xc0_1,I xc0_2,I xc0_3,I xc0_4,I xc0_5],[I xc1_0,I xc1_1,I xc1_2],[I xc2_0,I xc2_1,I n4]],gh⟩) (fun e s=>some (e,s)))) (
  kR (runL pg q2z ⟨[(4,.ptr false 1 0),(5,.ptr false 2 0)],[[I xc0_0,I xc0_1,I xc0_2,I xc0_3,I xc0_4,I xc0_5],[I xc1_0,I xc1_1,I xc1_2],[I xc2_0,I xc2_1,I xc2_2]],gh⟩) (fun e s=>some (e,s))))
theorem q87_ {v0:PV} {x6 xc0_0:Int} {xc0_1 xc0_2:Int} {xc0_3 xc0_4:Int} {xc0_5 xc1_0:Int} {xc1_1 xc1_2:Int} {xc2_0 xc2_1 xc2_2:Int} (h:q87 pg v0 x6 xc0_0 xc0_1 xc0_2 xc0_3 xc0_4 xc0_5 xc1_0 xc1_1 xc1_2 xc2_0 xc2_1 xc2_2 gh=some (e,s)):runL pg q30 ⟨[(0,v0),(3,.ptr false 0 0),(4,.ptr false 1 0),(5,.ptr false 2 0),(6,I x6)],[[I xc0_0,I xc0_1,I xc0_2,I xc0_3,I xc0_4,I xc0_5],[I xc1_0,I xc1_1,I xc1_2],[I xc2_0,I xc2_1,I xc2_2]],gh⟩=some (e,s):=
 jfl q4q (Eq.trans (by kernel_rfl) h)
def q88 (pg:Prg) (v0:PV) (x6 xc0_0:Int) (xc0_1 xc0_2:Int) (xc0_3 xc0_4:Int) (xc0_5 xc1_0:Int) (xc1_1 xc1_2:Int) (xc2_0 xc2_1 xc2_2:Int) (gh:List GObj):DR:=stK 3 v0 (
  br 20 (decide (1<x6)) (isC (degr v0) (
  idX 6 none (degr (degr v0)) xc0_3 fun p1=>faX (degr p1) 1 fun p2=>
  ldX [[I xc0_0,I xc0_1,I xc0_2,I xc0_3,I xc0_4,I xc0_5],[I xc1_0,I xc1_1,I xc1_2],[I xc2_0,I xc2_1,I xc2_2]] gh false 1 (degr p2) fun v3=>unI .i64 v3 fun n4=>stK 3 v0 (stK 3 v0 (
  kR (runL pg q30 ⟨[(0,v0),(3,.ptr false 0 0),(4,.ptr false 1 0),(5,.ptr false 2 0),(6,I x6)],[[I xc0_0,I xc0_1,I xc0_2,I xc0_3,I xc0_4,I xc0_5],[I xc1_0,I xc1_1,I xc1_2],[I xc2_0,I n4,I xc2_2]],gh⟩) (fun e s=>some (e,s)))))) (stK 3 v0 (
  kR (runL pg q30 ⟨[(0,v0),(3,.ptr false 0 0),(4,.ptr false 1 0),(5,.ptr false 2 0),(6,I x6)],[[I xc0_0,I xc0_1,I xc0_2,I xc0_3,I xc0_4,I xc0_5],[I xc1_0,I xc1_1,I xc1_2],[I xc2_0,I xc2_1,I xc2_2]],gh⟩) (fun e s=>some (e,s)))))
theorem q88_ {v0:PV} {x6 xc0_0:Int} {xc0_1 xc0_2:Int} {xc0_3 xc0_4:Int} {xc0_5 xc1_0:Int} {xc1_1 xc1_2:Int} {xc2_0 xc2_1 xc2_2:Int} (h:q88 pg v0 x6 xc0_0 xc0_1 xc0_2 xc0_3 xc0_4 xc0_5 xc1_0 xc1_1 xc1_2 xc2_0 xc2_1 xc2_2 gh=some (e,s)):runL pg q31 ⟨[(0,v0),(3,.ptr false 0 0),(4,.ptr false 1 0),(5,.ptr false 2 0),(6,I x6)],[[I xc0_0,I xc0_1,I xc0_2,I xc0_3,I xc0_4,I xc0_5],[I xc1_0,I xc1_1,I xc1_2],[I xc2_0,I xc2_1,I xc2_2]],gh⟩=some (e,s):=
 jfl q4q (Eq.trans (by kernel_rfl) h)
def q89 (pg:Prg) (v0:PV) (x1_0 x1_1:Int) (x1_2 x1_3:Int) (x1_4 x1_5:Int) (gh:List GObj):DR:=stK 2 v0 (
  callR gh true (callL pg 26 [I x1_0] gh) fun r1 gh2=>unI .i64 r1 fun n3=>stK 3 v0 (stK 3 v0 (
  br 11 (decide (0<n3)) (isC (degr v0) (
  idX 6 none (degr (degr v0)) x1_2 fun p4=>faX (degr p4) 1 fun p5=>
  ldX [[I x1_0,I x1_1,I x1_2,I x1_3,I x1_4,I x1_5],[I 0,I 0,I 0],[I 0,I 0,I 0]] gh2 false 1 (degr p5) fun v6=>unI .i64 v6 fun n7=>stK 3 v0 (stK 3 v0 (
  kR (runL pg q31 ⟨[(0,v0),(3,.ptr false 0 0),(4,.ptr false 1 0),(5,.ptr false 2 0),(6,I n3)],[[I x1_0,I x1_1,I x1_2,I x1_3,I x1_4,I x1_5],[I 0,I 0,I 0],[I n7,I 0,I 0]],gh2⟩) (fun e s=>some (e,s)))))) (stK 3 v0 (
  kR (runL pg q31 ⟨[(0,v0),(3,.ptr false 0 0),(4,.ptr false 1 0),(5,.ptr false 2 0),(6,I n3)],[[I x1_0,I x1_1,I x1_2,I x1_3,I x1_4,I x1_5],[I 0,I 0,I 0],[I 0,I 0,I 0]],gh2⟩) (fun e s=>some (e,s)))))))
theorem q89_ {v0:PV} {x1_0 x1_1:Int} {x1_2 x1_3:Int} {x1_4 x1_5:Int} (h:q89 pg v0 x1_0 x1_1 x1_2 x1_3 x1_4 x1_5 gh=some (e,s)):runL pg qaq ⟨[(0,v0),(1,.agg [I x1_0,I x1_1,I x1_2,I x1_3,I x1_4,I x1_5])],[],gh⟩=some (e,s):=
 jfl q4q (Eq.trans (by kernel_rfl) h)
end
end Go.Lw
end

/-! What the code of function ref_CheckNode comes to, piece by piece. Written by program (dprint.py). -/
section
set_option maxRecDepth 10000
set_option maxHeartbeats 4000000
namespace Go.Lw
open Go
noncomputable section
variable {pg:Prg} {gh:List GObj} {e:IExit} {s:St}
def q8a:Tr:=(tI 61 (tI 32 (tB 16 (tO 8 (tI 4 (tI 1 (uO 0) .nil) (tI 7 (uO 6) .nil)) (tB 12 (.node 11 (.agg [.int .i64,.int .i64,.int .i64,.int .i64,.int .i64,.int .i64]) (uI 9) .nil) (tB 15 (uI 14) .nil))) (tI 24 (tB 20 (tI 19 (uB 17) .nil) (tB 22 (uB 21) .nil)) (tI 28 (tB 26 (uB 25) .nil) (tI 31 (uI 30) .nil)))) (tB 47 (tB 39 (tB 35 (tB 34 (uB 33) .nil) (tI 38 (uB 36) .nil)) (tB 43 (tI 42 (uB 40) .nil) (tI 46 (uB 44) .nil))) (tB 54 (tI 51 (tB 49 (uB 48) .nil) (tB 53 (uB 52) .nil)) (tB 58 (tB 57 (uI 56) .nil) (uB 59))))) (tI 91 (tB 77 (tB 68 (tB 64 (tB 63 (uB 62) .nil) (tI 67 (uB 65) .nil)) (tI 74 (tI 72 (uI 70) .nil) (tI 76 (uO 75) .nil))) (tB 84 (tI 80 (tI 79 (uI 78) .nil) (tI 83 (uI 82) .nil)) (tI 87 (tO 86 (uB 85) .nil) (tI 90 (uI 89) .nil)))) (tI 105 (tI 98 (tB 94 (tB 93 (uB 92) .nil) (tI 96 (uB 95) .nil)) (tB 101 (tB 100 (uI 99) .nil) (tI 103 (uO 102) .nil))) (tI 114 (tB 108 (tB 107 (uB 106) .nil) (tI 112 (uI 110) .nil)) (.node 117 (.agg [.int .i64,.int .i64,.int .i64]) (.node 116 (.agg [.int .i64,.int .i64,.int .i64,.int .i64,.int .i64,.int .i64]) (uO 115) .nil) (uI 118))))))
def q1p (pg:Prg) (v0:PV) (x1:Int) (v6:PV) (x7 xc0_0:Int) (xc0_1 xc0_2:Int) (xc0_3 xc0_4 xc0_5:Int) (gh:List GObj):DR:=stK 1 v0 (stK 1 v6 (
  br 77 (decide (x7<3)) (
  callR gh true (callL pg 26 [I xc0_0] gh) fun r1 gh2=>unI .i64 r1 fun n3=>
  br 85 (decide (x7<n3)) (isC (degr v6) (
  idX 1 none (degr (degr v6)) x7 fun p4=>
  ldX [[I xc0_0,I xc0_1,I xc0_2,I xc0_3,I xc0_4,I xc0_5]] gh2 false 1 (degr p4) fun v5=>unI .i64 v5 fun n6=>
  callR gh2 true (callL pg 50 [I n6,I 0,(I (IntKind.i64.wrap (x1-1)))] gh2) fun r7 gh8=>unB r7 fun b9=>
  br 95 (!b9) (stK 1 v0 (stK 1 v6 (some (.ret,⟨[(4,I 4)],[],gh8⟩)))) (
  callR gh8 true (callL pg 26 [I xc0_0] gh8) fun r10 gh11=>unI .i64 r10 fun n12=>
  br 101 (decide (n12≤x7)) (isC (degr v6) (
  idX 1 none (degr (degr v6)) x7 fun p13=>
  ldX [[I xc0_0,I xc0_1,I xc0_2,I xc0_3,I xc0_4,I xc0_5]] gh11 false 1 (degr p13) fun v14=>unI .i64 v14 fun n15=>stK 1 v0 (stK 1 v6 (
  br 108 (n15 !=0) (some (.ret,⟨[(4,I 4)],[],gh11⟩)) (stK 1 v0 (stK 1 v6 (stK 1 v0 (stK 1 v6 (some (.normal,⟨[(0,v0),(1,I x1),(5,.ptr false 0 0),(6,v6),(7,(I (IntKind.i64.wrap (x7+1))))],[[I xc0_0,I xc0_1,I xc0_2,I xc0_3,I xc0_4,I xc0_5]],gh11⟩)))))))))) (stK 1 v0 (stK 1 v6 (stK 1 v0 (stK 1 v6 (stK 1 v0 (stK 1 v6 (some (.normal,⟨[(0,v0),(1,I x1),(5,.ptr false 0 0),(6,v6),(7,(I (IntKind.i64.wrap (x7+1))))],[[I xc0_0,I xc0_1,I xc0_2,I xc0_3,I xc0_4,I xc0_5]],gh11⟩))))))))))) (
  callR gh2 true (callL pg 26 [I xc0_0] gh2) fun r16 gh17=>unI .i64 r16 fun n18=>
  br 101 (decide (n18≤x7)) (isC (degr v6) (
  idX 1 none (degr (degr v6)) x7 fun p19=>
  ldX [[I xc0_0,I xc0_1,I xc0_2,I xc0_3,I xc0_4,I xc0_5]] gh17 false 1 (degr p19) fun v20=>unI .i64 v20 fun n21=>stK 1 v0 (stK 1 v6 (
  br 108 (n21 !=0) (some (.ret,⟨[(4,I 4)],[],gh17⟩)) (stK 1 v0 (stK 1 v6 (stK 1 v0 (stK 1 v6 (some (.normal,⟨[(0,v0),(1,I x1),(5,.ptr false 0 0),(6,v6),(7,(I (IntKind.i64.wrap (x7+1))))],[[I xc0_0,I xc0_1,I xc0_2,I xc0_3,I xc0_4,I xc0_5]],gh17⟩)))))))))) (stK 1 v0 (stK 1 v6 (stK 1 v0 (stK 1 v6 (stK 1 v0 (stK 1 v6 (some (.normal,⟨[(0,v0),(1,I x1),(5,.ptr false 0 0),(6,v6),(7,(I (IntKind.i64.wrap (x7+1))))],[[I xc0_0,I xc0_1,I xc0_2,I xc0_3,I xc0_4,I xc0_5]],gh17⟩)))))))))) (some ((.exit 1),⟨[(0,v0),(1,I x1),(5,.ptr false 0 0),(6,v6),(7,I x7),(77,(B (decide (x7<3))))],[[I xc0_0,I xc0_1,I xc0_2,I xc0_3,I xc0_4,I xc0_5]],gh⟩))))
theorem q1p_ {v0:PV} {x1:Int} {v6:PV} {x7 xc0_0:Int} {xc0_1 xc0_2:Int} {xc0_3 xc0_4 xc0_5:Int} (h:q1p pg v0 x1 v6 x7 xc0_0 xc0_1 xc0_2 xc0_3 xc0_4 xc0_5 gh=some (e,s)):runL pg qak ⟨[(0,v0),(1,I x1),(5,.ptr false 0 0),(6,v6),(7,I x7)],[[I xc0_0,I xc0_1,I xc0_2,I xc0_3,I xc0_4,I xc0_5]],gh⟩=some (e,s):=
 jfl q8a (Eq.trans (by kernel_rfl) h)
def qcn (pg:Prg) (v0:PV) (xc0_0 xc0_1:Int) (xc0_2 xc0_3:Int) (xc0_4 xc0_5:Int) (gh:List GObj):DR:=isC (degr v0) (arK (degr (degr v0)) (
  callR gh true (callL pg 102 [(degr (degr v0)),.agg [I xc0_0,I xc0_1,I xc0_2,I xc0_3,I xc0_4,I xc0_5]] gh) fun r1 gh2=>unA 3 r1 fun c3 c4 c5=>unI .i64 c3 fun n6=>unI .i64 c4 fun n7=>unI .i64 c5 fun n8=>
  callR gh2 true (callL pg 23 [I xc0_0,I xc0_1,I xc0_5,.agg [I n6,I n7,I n8]] gh2) fun r9 gh10=>unI .i64 r9 fun n11=>some (.ret,⟨[(4,I n11)],[],gh10⟩)))
theorem qcn_ {v0:PV} {xc0_0 xc0_1:Int} {xc0_2 xc0_3:Int} {xc0_4 xc0_5:Int} (h:qcn pg v0 xc0_0 xc0_1 xc0_2 xc0_3 xc0_4 xc0_5 gh=some (e,s)):runL pg qy ⟨[(0,v0),(5,.ptr false 0 0)],[[I xc0_0,I xc0_1,I xc0_2,I xc0_3,I xc0_4,I xc0_5]],gh⟩=some (e,s):=
 jfl q8a (Eq.trans (by kernel_rfl) h)
def qj (pg:Prg) (v0:PV) (x1:Int) (gh:List GObj):DR:=stK 0 v0 (isC (degr v0) (
  idX 6 none (degr (degr v0)) x1 fun p1=>
  ldX [] gh true 6 (degr p1) fun v2=>unA 6 v2 fun c3 c4 c5 c6 c7 c8=>unI .i64 c3 fun n9=>unI .i64 c4 fun n10=>unI .i64 c5 fun n11=>unI .i64 c6 fun n12=>unI .i64 c7 fun n13=>unI .i64 c8 fun n14=>stK 1 v0 (
  callR gh true (callL pg 50 [I n9,I 1,I 23] gh) fun r15 gh16=>unB r15 fun b17=>stK 1 v0 (
  br 12 (!b17) (some (.ret,⟨[(4,I 7)],[],gh16⟩)) (
  callR gh16 true (callL pg 50 [I n10,I 1,I 8] gh16) fun r18 gh19=>unB r18 fun b20=>stK 1 v0 (
  br 17 (!b20) (some (.ret,⟨[(4,I 3)],[],gh19⟩)) (
  br 26 (n9==1) (
  callR gh19 true (callL pg 27 [I n10] gh19) fun r21 gh22=>unI .i64 r21 fun n23=>
  callR gh22 true (callL pg 50 [I n14,I 0,(I (IntKind.i64.wrap (n23-1)))] gh22) fun r24 gh25=>unB r24 fun b26=>stK 1 v0 (
  br 22 (!b26) (some (.ret,⟨[(4,I 3)],[],gh25⟩)) (
  br 40 (decide (n9≤3)) (
  br 44 (decide (1<n9)) (
  br 49 (n14 !=0) (stK 1 v0 (some (.ret,⟨[(4,I 1)],[],gh25⟩))) (
  br 54 (n11 !=0) (stK 1 v0 (some (.ret,⟨[(4,I 1)],[],gh25⟩))) (
  br 59 (n12 !=0) (stK 1 v0 (some (.ret,⟨[(4,I 1)],[],gh25⟩))) (stK 1 v0 (
  br 36 (n13 !=0) (some (.ret,⟨[(4,I 1)],[],gh25⟩)) (stK 1 v0 (
  br 65 (decide (n9≤3)) (some (.ret,⟨[(4,I 0)],[],gh25⟩)) (stK 1 v0 (stK 1 v0 (
  kR (runL pg q17 ⟨[(0,v0),(1,I x1),(5,.ptr false 0 0),(6,.sl true 1 [I n11,I n12,I n13]),(7,I 0)],[[I n9,I n10,I n11,I n12,I n13,I n14]],gh25⟩) (fun e s=>nx e s (fun e s=>some (e,s)) fun s=>kR (runL pg qy s) (fun e s=>some (e,s))))))))))))) (
  br 54 (n11 !=0) (stK 1 v0 (some (.ret,⟨[(4,I 1)],[],gh25⟩))) (
  br 59 (n12 !=0) (stK 1 v0 (some (.ret,⟨[(4,I 1)],[],gh25⟩))) (stK 1 v0 (
  br 36 (n13 !=0) (some (.ret,⟨[(4,I 1)],[],gh25⟩)) (stK 1 v0 (
  br 65 (decide (n9≤3)) (some (.ret,⟨[(4,I 0)],[],gh25⟩)) (stK 1 v0 (stK 1 v0 (
  kR (runL pg q17 ⟨[(0,v0),(1,I x1),(5,.ptr false 0 0),(6,.sl true 1 [I n11,I n12,I n13]),(7,I 0)],[[I n9,I n10,I n11,I n12,I n13,I n14]],gh25⟩) (fun e s=>nx e s (fun e s=>some (e,s)) fun s=>kR (runL pg qy s) (fun e s=>some (e,s))))))))))))) (stK 1 v0 (stK 1 v0 (
  br 65 (decide (n9≤3)) (some (.ret,⟨[(4,I 0)],[],gh25⟩)) (stK 1 v0 (stK 1 v0 (
  kR (runL pg q17 ⟨[(0,v0),(1,I x1),(5,.ptr false 0 0),(6,.sl true 1 [I n11,I n12,I n13]),(7,I 0)],[[I n9,I n10,I n11,I n12,I n13,I n14]],gh25⟩) (fun e s=>nx e s (fun e s=>some (e,s)) fun s=>kR (runL pg qy s) (fun e s=>some (e,s)))))))))))) (stK 1 v0 (
  br 40 (decide (n9≤3)) (
  br 44 (decide (1<n9)) (
  br 49 (n14 !=0) (stK 1 v0 (some (.ret,⟨[(4,I 1)],[],gh19⟩))) (
  br 54 (n11 !=0) (stK 1 v0 (some (.ret,⟨[(4,I 1)],[],gh19⟩))) (
  br 59 (n12 !=0) (stK 1 v0 (some (.ret,⟨[(4,I 1)],[],gh19⟩))) (stK 1 v0 (
  br 36 (n13 !=0) (some (.ret,⟨[(4,I 1)],[],gh19⟩)) (stK 1 v0 (
  br 65 (decide (n9≤3)) (some (.ret,⟨[(4,I 0)],[],gh19⟩)) (stK 1 v0 (stK 1 v0 (
  kR (runL pg q17 ⟨[(0,v0),(1,I x1),(5,.ptr false 0 0),(6,.sl true 1 [I n11,I n12,I n13]),(7,I 0)],[[I n9,I n10,I n11,I n12,I n13,I n14]],gh19⟩) (fun e s=>nx e s (fun e s=>some (e,s)) fun s=>kR (runL pg qy s) (fun e s=>some (e,s))))))))))))) (
  br 54 (n11 !=0) (stK 1 v0 (some (.ret,⟨[(4,I 1)],[],gh19⟩))) (
  br 59 (n12 !=0) (stK 1 v0 (some (.ret,⟨[(4,I 1)],[],gh19⟩))) (stK 1 v0 (
  br 36 (n13 !=0) (some (.ret,⟨[(4,I 1)],[],gh19⟩)) (stK 1 v0 (
  br 65 (decide (n9≤3)) (some (.ret,⟨[(4,I 0)],[],gh19⟩)) (stK 1 v0 (stK 1 v0 (
  kR (runL pg q17 ⟨[(0,v0),(1,I x1),(5,.ptr false 0 0),(6,.sl true 1 [I n11,I n12,I n13]),(7,I 0)],[[I n9,I n10,I n11,I n12,I n13,I n14]],gh19⟩) (fun e s=>nx e s (fun e s=>some (e,s)) fun s=>kR (runL pg qy s) (fun e s=>some (e,s))))))))))))) (stK 1 v0 (stK 1 v0 (
  br 65 (decide (n9≤3)) (some (.ret,⟨[(4,I 0)],[],gh19⟩)) (stK 1 v0 (stK 1 v0 (
  kR (runL pg q17 ⟨[(0,v0),(1,I x1),(5,.ptr false 0 0),(6,.sl true 1 [I n11,I n12,I n13]),(7,I 0)],[[I n9,I n10,I n11,I n12,I n13,I n14]],gh19⟩) (fun e s=>nx e s (fun e s=>some (e,s)) fun s=>kR (runL pg qy s) (fun e s=>some (e,s))))))))))))))))))
theorem qj_ {v0:PV} {x1:Int} (h:qj pg v0 x1 gh=some (e,s)):runL pg qal ⟨[(0,v0),(1,I x1)],[],gh⟩=some (e,s):=
 jfl q8a (Eq.trans (by kernel_rfl) h)
end
end Go.Lw
end

/-! What the code of function model_Of comes to, piece by piece. Written by program (dprint.py). -/
section
set_option maxRecDepth 10000
set_option maxHeartbeats 4000000
namespace Go.Lw
open Go
noncomputable section
variable {pg:Prg} {gh:List GObj} {e:IExit} {s:St}
def q4r:Tr:=(.node 15 (.agg [.int .i64,.int .i64,.int .i64,.int .i64,.int .i64,.int .i64]) (tO 9 (tO 4 (tI 1 (.node 0 (.agg [.any,.any,.any,.any,.any]) .nil .nil) .nil) (tI 6 (uO 5) .nil)) (tB 12 (tI 11 (uI 10) .nil) (uI 13))) (tI 21 (tB 19 (tI 18 (uI 17) .nil) (uO 20)) (tI 24 (tO 23 (uO 22) .nil) (uO 25))))
def qco (pg:Prg) (x1:Int) (v5 v9:PV) (x10 x11:Int) (gh:List GObj):DR:=stK 0 v5 (stK 0 v9 (some (.normal,⟨[(1,I x1),(5,v5),(9,v9),(10,I x10),(11,(I (IntKind.i64.wrap (x11+1))))],[],gh⟩)))
theorem qco_ {x1:Int} {v5 v9:PV} {x10 x11:Int} (h:qco pg x1 v5 v9 x10 x11 gh=some (e,s)):runL pg q2k ⟨[(1,I x1),(5,v5),(9,v9),(10,I x10),(11,I x11)],[],gh⟩=some (e,s):=
 jfl q4r (Eq.trans (by kernel_rfl) h)
def q4s (pg:Prg) (x1:Int) (v5 v9:PV) (x10 x11:Int) (gh:List GObj):DR:=
  br 12 (decide (x11<x10)) (
  idX 6 none (degr v9) x11 fun p1=>
  ldX [] gh true 6 (degr p1) fun v2=>unA 6 v2 fun c3 c4 c5 c6 c7 c8=>unI .i64 c3 fun n9=>unI .i64 c4 fun n10=>unI .i64 c5 fun n11=>unI .i64 c6 fun n12=>unI .i64 c7 fun n13=>unI .i64 c8 fun n14=>stK 1 v5 (stK 1 v9 (stK 0 v5 (stK 0 v9 (
  br 19 (n9==x1) (
  apX 1 8 v5 (.sl false 1 [I x11]) fun l15=>stK 0 v9 (stK 0 v9 (
  kR (runL pg q2k ⟨[(1,I x1),(5,.sl true 1 l15),(9,v9),(10,I x10),(11,I x11)],[],gh⟩) (fun e s=>po [1,5,9,10,11] 0 e s (fun e s=>some (e,s)))))) (stK 0 v5 (stK 0 v9 (
  kR (runL pg q2k ⟨[(1,I x1),(5,v5),(9,v9),(10,I x10),(11,I x11)],[],gh⟩) (fun e s=>po [1,5,9,10,11] 0 e s (fun e s=>some (e,s))))))))))) (some ((.exit 0),⟨[(1,I x1),(5,v5),(9,v9),(10,I x10),(11,I x11),(12,(B (decide (x11<x10))))],[],gh⟩))
theorem q4s_ {x1:Int} {v5 v9:PV} {x10 x11:Int} (h:q4s pg x1 v5 v9 x10 x11 gh=some (e,s)):runL pg q9q ⟨[(1,I x1),(5,v5),(9,v9),(10,I x10),(11,I x11)],[],gh⟩=some (e,s):=
 jfl q4r (Eq.trans (by kernel_rfl) h)
def qcp (pg:Prg) (v5:PV) (gh:List GObj):DR:=isC (degr v5) (stK 0 (degr v5) (some (.ret,⟨[(4,(degr v5))],[],gh⟩)))
theorem qcp_ {v5:PV} (h:qcp pg v5 gh=some (e,s)):runL pg q69 ⟨[(5,v5)],[],gh⟩=some (e,s):=
 jfl q4r (Eq.trans (by kernel_rfl) h)
def qcq (pg:Prg) (v0_0 v0_1:PV) (v0_2 v0_3 v0_4:PV) (x1:Int) (gh:List GObj):DR:=onK (degr1 v0_0) (onK (degr1 v0_1) (onK (degr1 v0_2) (onK (degr1 v0_3) (onK (degr1 v0_4) (isC (degr (degr1 v0_0)) (lenS (degr (degr (degr1 v0_0))) fun n1=>stK 0 (degr (degr1 v0_0)) (
  kR (runL pg q68 ⟨[(1,I x1),(5,.sl true 1 []),(9,(degr (degr1 v0_0))),(10,(I (n1:Int))),(11,I 0)],[],gh⟩) (fun e s=>nx e s (fun e s=>some (e,s)) fun s=>kR (runL pg q69 s) (fun e s=>some (e,s))))))))))
theorem qcq_ {v0_0 v0_1:PV} {v0_2 v0_3 v0_4:PV} {x1:Int} (h:qcq pg v0_0 v0_1 v0_2 v0_3 v0_4 x1 gh=some (e,s)):runL pg q9r ⟨[(0,.agg [v0_0,v0_1,v0_2,v0_3,v0_4]),(1,I x1)],[],gh⟩=some (e,s):=
 jfl q4r (Eq.trans (by kernel_rfl) h)
end
end Go.Lw
end

/-! What the code of function model_Bits comes to, piece by piece. Written by program (dprint.py). -/
section
set_option maxRecDepth 10000
set_option maxHeartbeats 4000000
namespace Go.Lw
open Go
noncomputable section
variable {pg:Prg} {gh:List GObj} {e:IExit} {s:St}
def qf2:Tr:=(tO 6 (tI 3 (tI 2 (.node 0 (.agg [.any,.any,.any,.any,.any]) .nil .nil) .nil) (.node 5 (.agg [.any,.any,.any,.any,.any]) (.node 4 (.agg [.any,.any,.any,.any,.any]) .nil .nil) .nil)) (.node 9 (.agg [.any,.any,.any,.any,.any]) (.node 8 (.agg [.any,.any,.any,.any,.any]) (uI 7) .nil) (tI 11 (uO 10) .nil)))
def qcr (pg:Prg) (v0_0 v0_1:PV) (v0_2 v0_3 v0_4:PV) (gh:List GObj):DR:=onK (degr1 v0_0) (onK (degr1 v0_1) (onK (degr1 v0_2) (onK (degr1 v0_3) (onK (degr1 v0_4) (onK (degr1 (degr1 (degr1 v0_0))) (onK (degr1 (degr1 (degr1 v0_1))) (onK (degr1 (degr1 (degr1 v0_2))) (onK (degr1 (degr1 (degr1 v0_3))) (onK (degr1 (degr1 (degr1 v0_4))) (
  callR gh true (callL pg 101 [(.agg [(degr1 (degr1 (degr1 v0_0))),(degr1 (degr1 (degr1 v0_1))),(degr1 (degr1 (degr1 v0_2))),(degr1 (degr1 (degr1 v0_3))),(degr1 (degr1 (degr1 v0_4)))]),I 2] gh) fun r1 gh2=>isC r1 (onK (degr1 (degr1 (degr1 v0_0))) (onK (degr1 (degr1 (degr1 v0_1))) (onK (degr1 (degr1 (degr1 v0_2))) (onK (degr1 (degr1 (degr1 v0_3))) (onK (degr1 (degr1 (degr1 v0_4))) (arK (degr r1) (
  callR gh2 true (callL pg 105 [(.agg [(degr1 (degr1 (degr1 v0_0))),(degr1 (degr1 (degr1 v0_1))),(degr1 (degr1 (degr1 v0_2))),(degr1 (degr1 (degr1 v0_3))),(degr1 (degr1 (degr1 v0_4)))]),(degr r1)] gh2) fun r3 gh4=>unI .i64 r3 fun n5=>onK (degr1 (degr1 (degr1 v0_0))) (onK (degr1 (degr1 (degr1 v0_1))) (onK (degr1 (degr1 (degr1 v0_2))) (onK (degr1 (degr1 (degr1 v0_3))) (onK (degr1 (degr1 (degr1 v0_4))) (
  callR gh4 true (callL pg 101 [(.agg [(degr1 (degr1 (degr1 v0_0))),(degr1 (degr1 (degr1 v0_1))),(degr1 (degr1 (degr1 v0_2))),(degr1 (degr1 (degr1 v0_3))),(degr1 (degr1 (degr1 v0_4)))]),I 3] gh4) fun r6 gh7=>isC r6 (onK (degr1 (degr1 (degr1 v0_0))) (onK (degr1 (degr1 (degr1 v0_1))) (onK (degr1 (degr1 (degr1 v0_2))) (onK (degr1 (degr1 (degr1 v0_3))) (onK (degr1 (degr1 (degr1 v0_4))) (arK (degr r6) (
  callR gh7 true (callL pg 105 [(.agg [(degr1 (degr1 (degr1 v0_0))),(degr1 (degr1 (degr1 v0_1))),(degr1 (degr1 (degr1 v0_2))),(degr1 (degr1 (degr1 v0_3))),(degr1 (degr1 (degr1 v0_4)))]),(degr r6)] gh7) fun r8 gh9=>unI .i64 r8 fun n10=>some (.ret,⟨[(2,I n5),(3,I n10)],[],gh9⟩))))))))))))))))))))))))))))))
theorem qcr_ {v0_0 v0_1:PV} {v0_2 v0_3 v0_4:PV} (h:qcr pg v0_0 v0_1 v0_2 v0_3 v0_4 gh=some (e,s)):runL pg q9g ⟨[(0,.agg [v0_0,v0_1,v0_2,v0_3,v0_4])],[],gh⟩=some (e,s):=
 jfl qf2 (Eq.trans (by kernel_rfl) h)
end
end Go.Lw
end

/-! What the code of function model_bits comes to, piece by piece. Written by program (dprint.py). -/
section
set_option maxRecDepth 10000
set_option maxHeartbeats 4000000
namespace Go.Lw
open Go
noncomputable section
variable {pg:Prg} {gh:List GObj} {e:IExit} {s:St}
def q8b:Tr:=(tB 11 (tI 7 (tI 4 (tO 1 (.node 0 (.agg [.any,.any,.any,.any,.any]) .nil .nil) .nil) (uI 5)) (tI 9 (uO 8) (uI 10))) (tI 20 (tO 16 (tI 14 (uI 13) .nil) (uI 17)) (tI 22 (uI 21) (uI 23))))
def q8c (pg:Prg) (x5:Int) (v8:PV) (x9 x10:Int) (vc0_0 vc0_1:PV) (vc0_2 vc0_3 vc0_4:PV) (gh:List GObj):DR:=
  br 11 (decide (x10<x9)) (
  idX 1 none (degr v8) x10 fun p1=>
  ldX [[vc0_0,vc0_1,vc0_2,vc0_3,vc0_4]] gh false 1 (degr p1) fun v2=>unI .i64 v2 fun n3=>stK 1 v8 (isC (degr vc0_0) (
  idX 6 none (degr (degr vc0_0)) n3 fun p4=>faX (degr p4) 1 fun p5=>
  ldX [[vc0_0,vc0_1,vc0_2,vc0_3,vc0_4]] gh false 1 (degr p5) fun v6=>unI .i64 v6 fun n7=>stK 1 v8 (stK 1 v8 (stK 1 v8 (some (.normal,⟨[(2,.ptr false 0 0),(5,(I (IntKind.i64.wrap (x5+n7)))),(8,v8),(9,I x9),(10,(I (IntKind.i64.wrap (x10+1))))],[[vc0_0,vc0_1,vc0_2,vc0_3,vc0_4]],gh⟩))))))) (some ((.exit 0),⟨[(2,.ptr false 0 0),(5,I x5),(8,v8),(9,I x9),(10,I x10),(11,(B (decide (x10<x9))))],[[vc0_0,vc0_1,vc0_2,vc0_3,vc0_4]],gh⟩))
theorem q8c_ {x5:Int} {v8:PV} {x9 x10:Int} {vc0_0 vc0_1:PV} {vc0_2 vc0_3 vc0_4:PV} (h:q8c pg x5 v8 x9 x10 vc0_0 vc0_1 vc0_2 vc0_3 vc0_4 gh=some (e,s)):runL pg q9v ⟨[(2,.ptr false 0 0),(5,I x5),(8,v8),(9,I x9),(10,I x10)],[[vc0_0,vc0_1,vc0_2,vc0_3,vc0_4]],gh⟩=some (e,s):=
 jfl q8b (Eq.trans (by kernel_rfl) h)
def qf3 (pg:Prg) (x5:Int) (gh:List GObj):DR:=some (.ret,⟨[(4,I x5)],[],gh⟩)
theorem qf3_ {x5:Int} (h:qf3 pg x5 gh=some (e,s)):runL pg q6e ⟨[(5,I x5)],[],gh⟩=some (e,s):=
 jfl q8b (Eq.trans (by kernel_rfl) h)
def qcs (pg:Prg) (v0_0 v0_1:PV) (v0_2 v0_3:PV) (v0_4 v1:PV) (gh:List GObj):DR:=onK (degr1 v0_0) (onK (degr1 v0_1) (onK (degr1 v0_2) (onK (degr1 v0_3) (onK (degr1 v0_4) (stK 1 v1 (isC (degr v1) (lenS (degr (degr v1)) fun n1=>stK 1 (degr v1) (
  kR (runL pg q6d ⟨[(2,.ptr false 0 0),(5,I 0),(8,(degr v1)),(9,(I (n1:Int))),(10,I 0)],[[(degr1 v0_0),(degr1 v0_1),(degr1 v0_2),(degr1 v0_3),(degr1 v0_4)]],gh⟩) (fun e s=>nx e s (fun e s=>some (e,s)) fun s=>kR (runL pg q6e s) (fun e s=>some (e,s)))))))))))
theorem qcs_ {v0_0 v0_1:PV} {v0_2 v0_3:PV} {v0_4 v1:PV} (h:qcs pg v0_0 v0_1 v0_2 v0_3 v0_4 v1 gh=some (e,s)):runL pg q9w ⟨[(0,.agg [v0_0,v0_1,v0_2,v0_3,v0_4]),(1,v1)],[],gh⟩=some (e,s):=
 jfl q8b (Eq.trans (by kernel_rfl) h)
end
end Go.Lw
end

/-! What the code of function model_checker_lean comes to, piece by piece. Written by program (dprint.py). -/
section
set_option maxRecDepth 10000
set_option maxHeartbeats 4000000
namespace Go.Lw
open Go
noncomputable section
variable {pg:Prg} {gh:List GObj} {e:IExit} {s:St}
def q3n:Tr:=(tI 28 (tI 18 (tO 11 (tI 6 (tB 4 (uG 0) .nil) (uG 7)) (tB 14 (tI 13 (uI 12) .nil) (.node 16 (.agg [.int .i64,.int .i64,.int .i64,.int .i64,.int .i64,.int .i64]) .nil .nil))) (tB 24 (tI 22 (tB 20 (uB 19) .nil) (uB 23)) (tO 26 (.node 25 (.agg [.int .i64,.int .i64,.int .i64,.int .i64,.int .i64,.int .i64]) .nil .nil) (uI 27)))) (tB 41 (tG 34 (tB 32 (tI 31 (uB 29) .nil) (uB 33)) (tI 38 (uO 37) (uB 40))) (tB 48 (tG 44 (tG 43 (uI 42) .nil) (uO 47)) (tO 50 (uO 49) (uI 53)))))
def q4t (pg:Prg) (g0 o0:Nat) (b4:Bool) (v11:PV) (x12 x13:Int) (v26:PV) (x27 x28:Int) (gh:List GObj):DR:=
  br 29 (decide (x28<x27)) (
  idX 1 none (degr v26) x28 fun p1=>
  ldX [] gh false 1 (degr p1) fun v2=>unI .i64 v2 fun n3=>stK 0 v11 (stK 0 v26 (
  br 33 b4 (stK 0 v11 (stK 0 v26 (stK 0 v11 (stK 0 v26 (stK 0 v11 (stK 0 v26 (some (.normal,⟨[(0,.ptr true g0 o0),(4,B true),(11,v11),(12,I x12),(13,I x13),(26,v26),(27,I x27),(28,(I (IntKind.i64.wrap (x28+1))))],[],gh⟩)))))))) (
  ob (ghCells gh g0) fun cs4=>
  ob (grab false 1 (o0+5) cs4) fun v5=>isC (degr v5) (
  idX 1 none (degr (degr v5)) n3 fun p6=>
  ldX [] gh false 1 (degr p6) fun v7=>unB v7 fun b8=>stK 0 v11 (stK 0 v26 (stK 0 v11 (stK 0 v26 (stK 0 v11 (stK 0 v26 (some (.normal,⟨[(0,.ptr true g0 o0),(4,B b8),(11,v11),(12,I x12),(13,I x13),(26,v26),(27,I x27),(28,(I (IntKind.i64.wrap (x28+1))))],[],gh⟩)))))))))))) (some ((.exit 2),⟨[(0,.ptr true g0 o0),(4,B b4),(11,v11),(12,I x12),(13,I x13),(26,v26),(27,I x27),(28,I x28),(29,(B (decide (x28<x27))))],[],gh⟩))
theorem q4t_ {g0 o0:Nat} {b4:Bool} {v11:PV} {x12 x13:Int} {v26:PV} {x27 x28:Int} (h:q4t pg g0 o0 b4 v11 x12 x13 v26 x27 x28 gh=some (e,s)):runL pg q9h ⟨[(0,.ptr true g0 o0),(4,B b4),(11,v11),(12,I x12),(13,I x13),(26,v26),(27,I x27),(28,I x28)],[],gh⟩=some (e,s):=
 jfl q3n (Eq.trans (by kernel_rfl) h)
def qct (pg:Prg) (g0 o0:Nat) (b4:Bool) (v11:PV) (x12 x13:Int) (gh:List GObj):DR:=
  ob (ghCells gh g0) fun cs1=>ob (cs1[(o0+5)]?) fun v2=>
  apX 1 1 v2 (.sl false 1 [B b4]) fun l3=>
  ob (ghCells (List.set gh g0 (.cells (spliceAt cs1 (o0+5) [degr1 v2]))) g0) fun cs4=>gb (stOk 1 (o0+5) [.sl true 1 l3] cs4) (stK 0 v11 (some (.normal,⟨[(0,.ptr true g0 o0),(11,v11),(12,I x12),(13,I x13)],[],(List.set (List.set gh g0 (.cells (spliceAt cs1 (o0+5) [degr1 v2]))) g0 (.cells (spliceAt cs4 (o0+5) [.sl true 1 l3])))⟩)))
theorem qct_ {g0 o0:Nat} {b4:Bool} {v11:PV} {x12 x13:Int} (h:qct pg g0 o0 b4 v11 x12 x13 gh=some (e,s)):runL pg q2j ⟨[(0,.ptr true g0 o0),(4,B b4),(11,v11),(12,I x12),(13,I x13)],[],gh⟩=some (e,s):=
 jfl q3n (Eq.trans (by kernel_rfl) h)
def qcu (pg:Prg) (g0 o0:Nat) (v11:PV) (x12 x13:Int) (gh:List GObj):DR:=stK 0 v11 (some (.normal,⟨[(0,.ptr true g0 o0),(11,v11),(12,I x12),(13,(I (IntKind.i64.wrap (x13+1))))],[],gh⟩))
theorem qcu_ {g0 o0:Nat} {v11:PV} {x12 x13:Int} (h:qcu pg g0 o0 v11 x12 x13 gh=some (e,s)):runL pg q1j ⟨[(0,.ptr true g0 o0),(11,v11),(12,I x12),(13,I x13)],[],gh⟩=some (e,s):=
 jfl q3n (Eq.trans (by kernel_rfl) h)
def q4u (pg:Prg) (g0 o0:Nat) (v11:PV) (x12 x13:Int) (gh:List GObj):DR:=
  br 14 (decide (x13<x12)) (
  idX 6 none (degr v11) x13 fun p1=>
  ldX [] gh true 6 (degr p1) fun v2=>unA 6 v2 fun c3 c4 c5 c6 c7 c8=>unI .i64 c3 fun n9=>unI .i64 c4 fun n10=>unI .i64 c5 fun n11=>unI .i64 c6 fun n12=>unI .i64 c7 fun n13=>unI .i64 c8 fun n14=>stK 1 v11 (
  br 20 (n9==2) (stK 1 v11 (
  callR gh true (callL pg 81 [.agg [I n9,I n10,I n11,I n12,I n13,I n14]] gh) fun r15 gh16=>isC r15 (lenS (degr r15) fun n17=>stK 0 v11 (stK 0 r15 (
  kR (runL pg q2i ⟨[(0,.ptr true g0 o0),(4,B true),(11,v11),(12,I x12),(13,I x13),(26,r15),(27,(I (n17:Int))),(28,I 0)],[],gh16⟩) (fun e s=>nx e s (fun e s=>bk 1 e s (fun e s=>nx e s (fun e s=>po [0,11,12,13] 0 e s (fun e s=>some (e,s))) fun s=>kR (runL pg q1j s) (fun e s=>po [0,11,12,13] 0 e s (fun e s=>some (e,s))))) fun s=>kR (runL pg q2j s) (fun e s=>bk 1 e s (fun e s=>nx e s (fun e s=>po [0,11,12,13] 0 e s (fun e s=>some (e,s))) fun s=>kR (runL pg q1j s) (fun e s=>po [0,11,12,13] 0 e s (fun e s=>some (e,s))))))))))) (stK 1 v11 (
  callR gh true (callL pg 81 [.agg [I n9,I n10,I n11,I n12,I n13,I n14]] gh) fun r18 gh19=>isC r18 (lenS (degr r18) fun n20=>stK 0 v11 (stK 0 r18 (
  kR (runL pg q2i ⟨[(0,.ptr true g0 o0),(4,(B (n9==3))),(11,v11),(12,I x12),(13,I x13),(26,r18),(27,(I (n20:Int))),(28,I 0)],[],gh19⟩) (fun e s=>nx e s (fun e s=>bk 1 e s (fun e s=>nx e s (fun e s=>po [0,11,12,13] 0 e s (fun e s=>some (e,s))) fun s=>kR (runL pg q1j s) (fun e s=>po [0,11,12,13] 0 e s (fun e s=>some (e,s))))) fun s=>kR (runL pg q2j s) (fun e s=>bk 1 e s (fun e s=>nx e s (fun e s=>po [0,11,12,13] 0 e s (fun e s=>some (e,s))) fun s=>kR (runL pg q1j s) (fun e s=>po [0,11,12,13] 0 e s (fun e s=>some (e,s))))))))))))) (some ((.exit 0),⟨[(0,.ptr true g0 o0),(11,v11),(12,I x12),(13,I x13),(14,(B (decide (x13<x12))))],[],gh⟩))
theorem q4u_ {g0 o0:Nat} {v11:PV} {x12 x13:Int} (h:q4u pg g0 o0 v11 x12 x13 gh=some (e,s)):runL pg q9i ⟨[(0,.ptr true g0 o0),(11,v11),(12,I x12),(13,I x13)],[],gh⟩=some (e,s):=
 jfl q3n (Eq.trans (by kernel_rfl) h)
def qcv (pg:Prg) (g0 o0:Nat) (gh:List GObj):DR:=
  ob (ghCells gh g0) fun cs1=>
  ob (grab false 1 ((o0+0)+0) cs1) fun v2=>isC (degr v2) (lenS (degr (degr v2)) fun n3=>stK 0 (degr v2) (
  kR (runL pg q60 ⟨[(0,.ptr true g0 o0),(11,(degr v2)),(12,(I (n3:Int))),(13,I 0)],[],gh⟩) (fun e s=>some (e,s))))
theorem qcv_ {g0 o0:Nat} (h:qcv pg g0 o0 gh=some (e,s)):runL pg q9j ⟨[(0,.ptr true g0 o0)],[],gh⟩=some (e,s):=
 jfl q3n (Eq.trans (by kernel_rfl) h)
end
end Go.Lw
end

/-! What the code of function model_checker_is comes to, piece by piece. Written by program (dprint.py). -/
section
set_option maxRecDepth 10000
set_option maxHeartbeats 4000000
namespace Go.Lw
open Go
noncomputable section
variable {pg:Prg} {gh:List GObj} {e:IExit} {s:St}
def qf4:Tr:=(tI 8 (tI 5 (tI 1 (uG 0) (uB 4)) (tB 7 (uB 6) .nil)) (tI 14 (tO 13 (uG 9) .nil) (tB 16 (uB 15) .nil)))
def q8d (pg:Prg) (g0 o0:Nat) (x1:Int) (gh:List GObj):DR:=
  br 7 (decide (0≤x1)) (
  ob (ghCells gh g0) fun cs1=>
  ob (grab false 1 ((o0+0)+0) cs1) fun v2=>isC (degr v2) (lenS (degr (degr v2)) fun n3=>some (.ret,⟨[(4,(B (decide (x1<(n3:Int)))))],[],gh⟩))) (some (.ret,⟨[(4,B false)],[],gh⟩))
theorem q8d_ {g0 o0:Nat} {x1:Int} (h:q8d pg g0 o0 x1 gh=some (e,s)):runL pg qa0 ⟨[(0,.ptr true g0 o0),(1,I x1)],[],gh⟩=some (e,s):=
 jfl qf4 (Eq.trans (by kernel_rfl) h)
end
end Go.Lw
end

/-! What the code of function model_checker_pair comes to, piece by piece. Written by program (dprint.py). -/
section
set_option maxRecDepth 10000
set_option maxHeartbeats 4000000
namespace Go.Lw
open Go
noncomputable section
variable {pg:Prg} {gh:List GObj} {e:IExit} {s:St}
def qf5:Tr:=(tB 31 (tG 14 (tG 8 (tB 2 (.node 1 (.agg [.int .i64,.int .i64]) (uG 0) .nil) (tB 7 (uI 6) .nil)) (tB 12 (tB 11 (uI 10) .nil) (uB 13))) (tB 20 (tB 18 (tB 17 (uI 16) .nil) (uB 19)) (tI 27 (tO 25 (uG 21) .nil) (uI 30)))) (tI 53 (tI 40 (tG 34 (tB 33 (uB 32) .nil) (uO 38)) (tO 48 (tG 44 (uI 43) .nil) (uI 50))) (tG 58 (tB 56 (tB 55 (uB 54) .nil) (uB 57)) (tB 65 (tI 63 (uO 61) .nil) (uB 66)))))
def q1g (pg:Prg) (g0 o0:Nat) (x1_0 x1_1:Int) (b2:Bool) (gh:List GObj):DR:=
  callR gh true (callL pg 118 [.ptr true g0 o0,I x1_0] gh) fun r1 gh2=>unB r1 fun b3=>
  br 13 (!b3) (some (.ret,⟨[(6,I 5)],[],gh2⟩)) (
  callR gh2 true (callL pg 118 [.ptr true g0 o0,I x1_1] gh2) fun r4 gh5=>unB r4 fun b6=>
  br 20 (!b6) (some (.ret,⟨[(6,I 5)],[],gh5⟩)) (
  ob (ghCells gh5 g0) fun cs7=>
  ob (grab false 1 ((o0+0)+0) cs7) fun v8=>isC (degr v8) (
  idX 6 none (degr (degr v8)) x1_0 fun p9=>faX (degr p9) 0 fun p10=>
  ldX [[I x1_0,I x1_1]] gh5 false 1 (degr p10) fun v11=>unI .i64 v11 fun n12=>
  br 7 (n12 !=3) (some (.ret,⟨[(6,I 5)],[],gh5⟩)) (
  ob (ghCells gh5 g0) fun cs13=>
  ob (grab false 1 ((o0+0)+0) cs13) fun v14=>isC (degr v14) (
  idX 6 none (degr (degr v14)) x1_0 fun p15=>faX (degr p15) 1 fun p16=>
  ldX [[I x1_0,I x1_1]] gh5 false 1 (degr p16) fun v17=>unI .i64 v17 fun n18=>
  ob (ghCells gh5 g0) fun cs19=>
  ob (grab false 1 ((o0+0)+0) cs19) fun v20=>isC (degr v20) (
  idX 6 none (degr (degr v20)) x1_1 fun p21=>faX (degr p21) 1 fun p22=>
  ldX [[I x1_0,I x1_1]] gh5 false 1 (degr p22) fun v23=>unI .i64 v23 fun n24=>
  br 33 (n18 !=n24) (some (.ret,⟨[(6,I 1)],[],gh5⟩)) (
  br 57 b2 (
  ob (ghCells gh5 g0) fun cs25=>
  ob (grab false 1 (o0+5) cs25) fun v26=>isC (degr v26) (
  idX 1 none (degr (degr v26)) x1_1 fun p27=>
  ldX [[I x1_0,I x1_1]] gh5 false 1 (degr p27) fun v28=>unB v28 fun b29=>
  br 55 b29 (some (.ret,⟨[(6,I 4)],[],gh5⟩)) (some (.ret,⟨[(6,I 0)],[],gh5⟩)))) (some (.ret,⟨[(6,I 0)],[],gh5⟩)))))))))
theorem q1g_ {g0 o0:Nat} {x1_0 x1_1:Int} {b2:Bool} (h:q1g pg g0 o0 x1_0 x1_1 b2 gh=some (e,s)):runL pg q9x ⟨[(0,.ptr true g0 o0),(1,.agg [I x1_0,I x1_1]),(2,B b2)],[],gh⟩=some (e,s):=
 jfl qf5 (Eq.trans (by kernel_rfl) h)
end
end Go.Lw
end

/-! What the code of function model_checker_pairs comes to, piece by piece. Written by program (dprint.py). -/
section
set_option maxRecDepth 10000
set_option maxHeartbeats 4000000
namespace Go.Lw
open Go
noncomputable section
variable {pg:Prg} {gh:List GObj} {e:IExit} {s:St}
def qq:Tr:=(tB 42 (tB 26 (tG 13 (tO 4 (tI 2 (uG 0) (uI 3)) (tO 9 (uI 7) (uO 10))) (tO 23 (tG 18 (uO 17) (uO 22)) (tI 25 (uI 24) .nil))) (.node 35 (.agg [.int .i64,.int .i64]) (tI 31 (tO 29 (uI 27) (uO 30)) (tB 33 (uI 32) .nil)) (tB 39 (.node 37 (.agg [.int .i64,.int .i64]) (uG 36) (uI 38)) (tI 41 (uI 40) .nil)))) (tO 63 (tO 55 (tG 46 (tI 44 (uI 43) (uI 45)) (tG 51 (uO 50) .nil)) (tB 59 (tI 57 (uO 56) (uI 58)) (tO 62 (uO 61) .nil))) (tI 72 (.node 68 (.agg [.int .i64,.int .i64]) (tI 65 (uI 64) (uB 66)) (tI 71 (uO 69) .nil)) (tI 76 (tI 74 (uO 73) (uO 75)) (tI 78 (uB 77) .nil)))))
def q4v (pg:Prg) (g0 o0:Nat) (x3:Int) (v23:PV) (x24 x25:Int) (v30:PV) (x31 x32:Int) (gh:List GObj):DR:=
  br 33 (decide (x32<x31)) (
  idX 2 none (degr v30) x32 fun p1=>
  ldX [] gh true 2 (degr p1) fun v2=>unA 2 v2 fun c3 c4=>unI .i64 c3 fun n5=>unI .i64 c4 fun n6=>stK 1 v23 (stK 1 v30 (
  callR gh true (callL pg 106 [.ptr true g0 o0,.agg [I n5,I n6],(B (x3==0))] gh) fun r7 gh8=>unI .i64 r7 fun n9=>stK 0 v23 (stK 0 v30 (stK 0 v23 (stK 0 v30 (
  br 42 (n9 !=0) (some (.ret,⟨[(2,I n9)],[],gh8⟩)) (stK 0 v23 (stK 0 v30 (stK 0 v23 (stK 0 v30 (some (.normal,⟨[(0,.ptr true g0 o0),(3,I x3),(23,v23),(24,I x24),(25,I x25),(30,v30),(31,I x31),(32,(I (IntKind.i64.wrap (x32+1))))],[],gh8⟩))))))))))))) (some ((.exit 2),⟨[(0,.ptr true g0 o0),(3,I x3),(23,v23),(24,I x24),(25,I x25),(30,v30),(31,I x31),(32,I x32),(33,(B (decide (x32<x31))))],[],gh⟩))
theorem q4v_ {g0 o0:Nat} {x3:Int} {v23:PV} {x24 x25:Int} {v30:PV} {x31 x32:Int} (h:q4v pg g0 o0 x3 v23 x24 x25 v30 x31 x32 gh=some (e,s)):runL pg q9k ⟨[(0,.ptr true g0 o0),(3,I x3),(23,v23),(24,I x24),(25,I x25),(30,v30),(31,I x31),(32,I x32)],[],gh⟩=some (e,s):=
 jfl qq (Eq.trans (by kernel_rfl) h)
def qcw (pg:Prg) (g0 o0:Nat) (v23:PV) (x24 x25:Int) (gh:List GObj):DR:=stK 0 v23 (some (.normal,⟨[(0,.ptr true g0 o0),(23,v23),(24,I x24),(25,(I (IntKind.i64.wrap (x25+1))))],[],gh⟩))
theorem qcw_ {g0 o0:Nat} {v23:PV} {x24 x25:Int} (h:qcw pg g0 o0 v23 x24 x25 gh=some (e,s)):runL pg q3y ⟨[(0,.ptr true g0 o0),(23,v23),(24,I x24),(25,I x25)],[],gh⟩=some (e,s):=
 jfl qq (Eq.trans (by kernel_rfl) h)
def q2b (pg:Prg) (g0 o0:Nat) (v23:PV) (x24 x25:Int) (gh:List GObj):DR:=
  br 26 (decide (x25<x24)) (
  idX 1 none (degr v23) x25 fun p1=>
  ldX [] gh false 1 (degr p1) fun v2=>isC v2 (stK 0 v2 (stK 0 v23 (isC (degr v2) (lenS (degr (degr v2)) fun n3=>stK 0 v23 (stK 0 (degr v2) (
  kR (runL pg q62 ⟨[(0,.ptr true g0 o0),(3,I x25),(23,v23),(24,I x24),(25,I x25),(30,(degr v2)),(31,(I (n3:Int))),(32,I 0)],[],gh⟩) (fun e s=>bk 1 e s (fun e s=>nx e s (fun e s=>po [0,23,24,25] 0 e s (fun e s=>some (e,s))) fun s=>kR (runL pg q3y s) (fun e s=>po [0,23,24,25] 0 e s (fun e s=>some (e,s)))))))))))) (some ((.exit 0),⟨[(0,.ptr true g0 o0),(23,v23),(24,I x24),(25,I x25),(26,(B (decide (x25<x24))))],[],gh⟩))
theorem q2b_ {g0 o0:Nat} {v23:PV} {x24 x25:Int} (h:q2b pg g0 o0 v23 x24 x25 gh=some (e,s)):runL pg q9l ⟨[(0,.ptr true g0 o0),(23,v23),(24,I x24),(25,I x25)],[],gh⟩=some (e,s):=
 jfl qq (Eq.trans (by kernel_rfl) h)
def q8e (pg:Prg) (v9 v10 v56:PV) (x57 x58:Int) (v63:PV) (x64 x65:Int) (gh:List GObj):DR:=
  br 66 (decide (x65<x64)) (
  idX 2 none (degr v63) x65 fun p1=>
  ldX [] gh true 2 (degr p1) fun v2=>unA 2 v2 fun c3 c4=>unI .i64 c3 fun n5=>unI .i64 c4 fun n6=>stK 1 v9 (stK 1 v10 (stK 1 v56 (stK 1 v63 (isC (degr v10) (
  muX gh 0 (degr (degr v10)) (I n5) (B true) fun gh7=>stK 0 v9 (stK 0 v10 (stK 0 v56 (stK 0 v63 (stK 0 v9 (stK 0 v10 (stK 0 v56 (stK 0 v63 (stK 0 v9 (stK 0 v10 (stK 0 v56 (stK 0 v63 (some (.normal,⟨[(9,v9),(10,v10),(56,v56),(57,I x57),(58,I x58),(63,v63),(64,I x64),(65,(I (IntKind.i64.wrap (x65+1))))],[],gh7⟩))))))))))))))))))) (some ((.exit 6),⟨[(9,v9),(10,v10),(56,v56),(57,I x57),(58,I x58),(63,v63),(64,I x64),(65,I x65),(66,(B (decide (x65<x64))))],[],gh⟩))
theorem q8e_ {v9 v10 v56:PV} {x57 x58:Int} {v63:PV} {x64 x65:Int} (h:q8e pg v9 v10 v56 x57 x58 v63 x64 x65 gh=some (e,s)):runL pg q9m ⟨[(9,v9),(10,v10),(56,v56),(57,I x57),(58,I x58),(63,v63),(64,I x64),(65,I x65)],[],gh⟩=some (e,s):=
 jfl qq (Eq.trans (by kernel_rfl) h)
def qcx (pg:Prg) (v9 v10 v56:PV) (x57 x58:Int) (gh:List GObj):DR:=isC (degr v10) (
  lenM gh (degr (degr v10)) fun n1=>isC (degr v9) (lenS (degr (degr v9)) fun n2=>stK 0 v56 (
  br 77 (decide ((n1:Int)<(n2:Int))) (some (.ret,⟨[(2,I 6)],[],gh⟩)) (some (.normal,⟨[(56,v56),(57,I x57),(58,I x58),(77,(B (decide ((n1:Int)<(n2:Int)))))],[],gh⟩)))))
theorem qcx_ {v9 v10 v56:PV} {x57 x58:Int} (h:qcx pg v9 v10 v56 x57 x58 gh=some (e,s)):runL pg q65 ⟨[(9,v9),(10,v10),(56,v56),(57,I x57),(58,I x58)],[],gh⟩=some (e,s):=
 jfl qq (Eq.trans (by kernel_rfl) h)
def qcy (pg:Prg) (v56:PV) (x57 x58:Int) (b77:Bool) (gh:List GObj):DR:=stK 0 v56 (some (.normal,⟨[(56,v56),(57,I x57),(58,(I (IntKind.i64.wrap (x58+1))))],[],gh⟩))
theorem qcy_ {v56:PV} {x57 x58:Int} {b77:Bool} (h:qcy pg v56 x57 x58 b77 gh=some (e,s)):runL pg q3z ⟨[(56,v56),(57,I x57),(58,I x58),(77,B b77)],[],gh⟩=some (e,s):=
 jfl qq (Eq.trans (by kernel_rfl) h)
def q4w (pg:Prg) (v56:PV) (x57 x58:Int) (gh:List GObj):DR:=
  br 59 (decide (x58<x57)) (
  idX 1 none (degr v56) x58 fun p1=>
  ldX [] gh false 1 (degr p1) fun v2=>isC v2 (stK 0 v2 (stK 0 v56 (stK 0 v2 (stK 0 v56 (isC (degr v2) (lenS (degr (degr v2)) fun n3=>stK 0 v2 (stK 0 v56 (stK 0 (degr v2) (
  kR (runL pg q64 ⟨[(9,v2),(10,(.mp (List.length gh))),(56,v56),(57,I x57),(58,I x58),(63,(degr v2)),(64,(I (n3:Int))),(65,I 0)],[],(gh++[.map []])⟩) (fun e s=>nx e s (fun e s=>bk 5 e s (fun e s=>nx e s (fun e s=>po [56,57,58] 0 e s (fun e s=>some (e,s))) fun s=>kR (runL pg q3z s) (fun e s=>po [56,57,58] 0 e s (fun e s=>some (e,s))))) fun s=>kR (runL pg q65 s) (fun e s=>bk 5 e s (fun e s=>nx e s (fun e s=>po [56,57,58] 0 e s (fun e s=>some (e,s))) fun s=>kR (runL pg q3z s) (fun e s=>po [56,57,58] 0 e s (fun e s=>some (e,s)))))))))))))))) (some ((.exit 4),⟨[(56,v56),(57,I x57),(58,I x58),(59,(B (decide (x58<x57))))],[],gh⟩))
theorem q4w_ {v56:PV} {x57 x58:Int} (h:q4w pg v56 x57 x58 gh=some (e,s)):runL pg q66 ⟨[(56,v56),(57,I x57),(58,I x58)],[],gh⟩=some (e,s):=
 jfl qq (Eq.trans (by kernel_rfl) h)
def qf6 (pg:Prg) (gh:List GObj):DR:=some (.ret,⟨[(2,I 0)],[],gh⟩)
theorem qf6_ (h:qf6 pg gh=some (e,s)):runL pg q40 ⟨[],[],gh⟩=some (e,s):=
 jfl qq (Eq.trans (by kernel_rfl) h)
def q8f (pg:Prg) (g0 o0:Nat) (gh:List GObj):DR:=
  ob (ghCells gh g0) fun cs1=>
  ob (grab false 1 ((o0+0)+1) cs1) fun v2=>isC (degr v2) (
  ob (ghCells gh g0) fun cs3=>
  ob (grab false 1 ((o0+0)+2) cs3) fun v4=>isC (degr v4) (arK (degr (degr v2)) (lnK 1 (degr (degr v2)) (arK (degr (degr v4)) (lnK 1 (degr (degr v4)) (lenS (.sl false 1 [(degr (degr v2)),(degr (degr v4))]) fun n5=>
  kR (runL pg q67 ⟨[(56,(.sl true 1 [(degr (degr v2)),(degr (degr v4))])),(57,(I (n5:Int))),(58,I 0)],[],gh⟩) (fun e s=>nx e s (fun e s=>some (e,s)) fun s=>kR (runL pg q40 s) (fun e s=>some (e,s)))))))))
theorem q8f_ {g0 o0:Nat} (h:q8f pg g0 o0 gh=some (e,s)):runL pg q41 ⟨[(0,.ptr true g0 o0)],[],gh⟩=some (e,s):=
 jfl qq (Eq.trans (by kernel_rfl) h)
def q4x (pg:Prg) (g0 o0:Nat) (gh:List GObj):DR:=
  ob (ghCells gh g0) fun cs1=>
  ob (grab false 1 ((o0+0)+1) cs1) fun v2=>isC (degr v2) (
  ob (ghCells gh g0) fun cs3=>
  ob (grab false 1 ((o0+0)+2) cs3) fun v4=>isC (degr v4) (arK (degr (degr v2)) (lnK 1 (degr (degr v2)) (arK (degr (degr v4)) (lnK 1 (degr (degr v4)) (lenS (.sl false 1 [(degr (degr v2)),(degr (degr v4))]) fun n5=>
  kR (runL pg q63 ⟨[(0,.ptr true g0 o0),(23,(.sl true 1 [(degr (degr v2)),(degr (degr v4))])),(24,(I (n5:Int))),(25,I 0)],[],gh⟩) (fun e s=>nx e s (fun e s=>some (e,s)) fun s=>kR (runL pg q41 s) (fun e s=>some (e,s)))))))))
theorem q4x_ {g0 o0:Nat} (h:q4x pg g0 o0 gh=some (e,s)):runL pg q9n ⟨[(0,.ptr true g0 o0)],[],gh⟩=some (e,s):=
 jfl qq (Eq.trans (by kernel_rfl) h)
end
end Go.Lw
end

/-! What the code of function model_checker_marks comes to, piece by piece. Written by program (dprint.py). -/
section
set_option maxRecDepth 10000
set_option maxHeartbeats 4000000
namespace Go.Lw
open Go
noncomputable section
variable {pg:Prg} {gh:List GObj} {e:IExit} {s:St}
def qf7:Tr:=(tG 17 (tI 9 (tO 3 (tG 1 (uG 0) (uI 2)) (tO 8 (uG 4) .nil)) (tO 14 (.node 13 (.agg [.any,.any,.any,.any,.any]) (uG 10) .nil) (tB 16 (uI 15) .nil))) (tO 29 (tO 26 (tG 22 (uO 21) .nil) (tO 28 (uO 27) .nil)) (tO 32 (tB 31 (uO 30) .nil) (tB 34 (uO 33) .nil))))
def q3o (pg:Prg) (g0 o0:Nat) (gh:List GObj):DR:=
  ob (ghCells (gh++[.cells [.ptr true g0 o0]]) (List.length gh)) fun cs1=>
  ob (grab false 1 0 cs1) fun v2=>unG (degr v2) fun g3 o4=>
  ob (ghCells (gh++[.cells [.ptr true g0 o0]]) g3) fun cs5=>
  ob (grab false 1 ((o4+0)+2) cs5) fun v6=>isC (degr v6) (lenS (degr (degr v6)) fun n7=>
  ob (ghCells (gh++[.cells [.ptr true g0 o0]]) (List.length gh)) fun cs8=>
  ob (grab false 1 0 cs8) fun v9=>unG (degr v9) fun g10 o11=>
  ob (ghCells (gh++[.cells [.ptr true g0 o0]]) g10) fun cs12=>
  ob (grab true 5 (o11+0) cs12) fun v13=>unA 5 (degr v13) fun c14 c15 c16 c17 c18=>onK (degr1 c14) (onK (degr1 c15) (onK (degr1 c16) (onK (degr1 c17) (onK (degr1 c18) (
  callR (gh++[.cells [.ptr true g0 o0]]) true (callL pg 101 [(.agg [(degr1 c14),(degr1 c15),(degr1 c16),(degr1 c17),(degr1 c18)]),I 3] (gh++[.cells [.ptr true g0 o0]])) fun r19 gh20=>isC r19 (lenS (degr r19) fun n21=>
  br 16 (decide ((n7:Int)<(n21:Int))) (some (.ret,⟨[(2,I 5)],[],gh20⟩)) (
  ob (ghCells gh20 (List.length gh)) fun cs22=>
  ob (grab false 1 0 cs22) fun v23=>unG (degr v23) fun g24 o25=>
  ob (ghCells gh20 g24) fun cs26=>
  ob (grab false 1 ((o25+0)+3) cs26) fun v27=>isC (degr v27) (
  ob (ghCells gh20 (List.length gh)) fun cs28=>
  ob (grab false 1 0 cs28) fun v29=>unG (degr v29) fun g30 o31=>
  ob (ghCells gh20 g30) fun cs32=>
  ob (grab false 1 ((o31+0)+4) cs32) fun v33=>isC (degr v33) (arK (degr (degr v27)) (lnK 1 (degr (degr v27)) (arK (degr (degr v33)) (lnK 1 (degr (degr v33)) (
  callR gh20 true (callL pg 107 [(.sl false 1 [(degr (degr v27)),(degr (degr v33))])] gh20) fun r34 gh35=>isC r34 (stK 0 r34 (isC (degr r34) (arK (degr (degr r34)) (
  callR gh35 true (callL pg 86 [(degr (degr r34)),(.fn 108 [(.ptr true (List.length gh) 0)])] gh35) fun r36 gh37=>unB r36 fun b38=>stK 0 r34 (
  br 31 b38 (some (.ret,⟨[(2,I 5)],[],gh37⟩)) (isC (degr r34) (arK (degr (degr r34)) (
  callR gh37 true (callL pg 86 [(degr (degr r34)),(.fn 109 [(.ptr true (List.length gh) 0)])] gh37) fun r39 gh40=>unB r39 fun b41=>
  br 34 b41 (some (.ret,⟨[(2,I 1)],[],gh40⟩)) (some (.ret,⟨[(2,I 0)],[],gh40⟩))))))))))))))))))))))))
theorem q3o_ {g0 o0:Nat} (h:q3o pg g0 o0 gh=some (e,s)):runL pg q9o ⟨[(0,.ptr true g0 o0)],[],gh⟩=some (e,s):=
 jfl qf7 (Eq.trans (by kernel_rfl) h)
end
end Go.Lw
end

/-! What the code of function model_checker_marks_1 comes to, piece by piece. Written by program (dprint.py). -/
section
set_option maxRecDepth 10000
set_option maxHeartbeats 4000000
namespace Go.Lw
open Go
noncomputable section
variable {pg:Prg} {gh:List GObj} {e:IExit} {s:St}
def qf8:Tr:=(tG 4 (tG 1 (uI 0) (uB 3)) (tB 6 (uI 5) (uB 7)))
def qcz (pg:Prg) (x0:Int) (g1 o1:Nat) (gh:List GObj):DR:=
  ob (ghCells gh g1) fun cs1=>
  ob (grab false 1 o1 cs1) fun v2=>unG (degr v2) fun g3 o4=>
  callR gh true (callL pg 118 [.ptr true g3 o4,I x0] gh) fun r5 gh6=>unB r5 fun b7=>some (.ret,⟨[(3,(B (!b7)))],[],gh6⟩)
theorem qcz_ {x0:Int} {g1 o1:Nat} (h:qcz pg x0 g1 o1 gh=some (e,s)):runL pg q9y ⟨[(0,I x0),(1,.ptr true g1 o1)],[],gh⟩=some (e,s):=
 jfl qf8 (Eq.trans (by kernel_rfl) h)
end
end Go.Lw
end

/-! What the code of function model_checker_marks_2 comes to, piece by piece. Written by program (dprint.py). -/
section
set_option maxRecDepth 10000
set_option maxHeartbeats 4000000
namespace Go.Lw
open Go
noncomputable section
variable {pg:Prg} {gh:List GObj} {e:IExit} {s:St}
def qf9:Tr:=(tO 8 (tB 3 (tG 1 (uI 0) .nil) (uG 4)) (tI 12 (uI 9) (uB 13)))
def qd0 (pg:Prg) (x0:Int) (g1 o1:Nat) (gh:List GObj):DR:=
  ob (ghCells gh g1) fun cs1=>
  ob (grab false 1 o1 cs1) fun v2=>unG (degr v2) fun g3 o4=>
  ob (ghCells gh g3) fun cs5=>
  ob (grab false 1 ((o4+0)+0) cs5) fun v6=>isC (degr v6) (
  idX 6 none (degr (degr v6)) x0 fun p7=>faX (degr p7) 1 fun p8=>
  ldX [] gh false 1 (degr p8) fun v9=>unI .i64 v9 fun n10=>some (.ret,⟨[(3,(B (n10 !=1)))],[],gh⟩))
theorem qd0_ {x0:Int} {g1 o1:Nat} (h:qd0 pg x0 g1 o1 gh=some (e,s)):runL pg q9z ⟨[(0,I x0),(1,.ptr true g1 o1)],[],gh⟩=some (e,s):=
 jfl qf9 (Eq.trans (by kernel_rfl) h)
end
end Go.Lw
end

/-! What the code of function model_Check comes to, piece by piece. Written by program (dprint.py). -/
section
set_option maxRecDepth 10000
set_option maxHeartbeats 4000000
namespace Go.Lw
open Go
noncomputable section
variable {pg:Prg} {gh:List GObj} {e:IExit} {s:St}
def q8g:Tr:=(tI 33 (tI 16 (tG 7 (tI 4 (tI 2 (.node 0 (.agg [.any,.any,.any,.any,.any]) .nil .nil) (uI 3)) (tI 6 (uI 5) .nil)) (tB 12 (tO 10 (uI 8) (uI 11)) (tO 15 (uB 13) .nil))) (tB 24 (tO 21 (tB 18 (uB 17) (uB 19)) (tB 23 (uI 22) .nil)) (tB 29 (tI 27 (uO 26) (uI 28)) (tO 32 (uI 30) .nil)))) (tI 47 (.node 40 (.agg [.any,.any,.any,.any,.any]) (tI 37 (tI 35 (uI 34) (uB 36)) (.node 39 (.tup 2) (uI 38) .nil)) (tI 44 (tI 42 (.node 41 (.tup 2) .nil .nil) (uI 43)) (tB 46 (uB 45) .nil))) (tG 55 (.node 51 (.agg [.any,.any,.any,.any,.any,.any]) (tB 49 (uB 48) (.node 50 (.agg [.any,.any,.any,.any,.any]) .nil .nil)) (tG 53 (uG 52) .nil)) (tI 59 (tI 57 (uI 56) (uB 58)) (tI 61 (uG 60) .nil)))))
def q4y (pg:Prg) (x27 x28:Int) (vc0_0 vc0_1:PV) (vc0_2 vc0_3 vc0_4:PV) (gh:List GObj):DR:=
  br 29 (decide (x28<x27)) (isC (degr vc0_0) (arK (degr (degr vc0_0)) (
  callR gh true (callL pg 76 [(degr (degr vc0_0)),I x28] gh) fun r1 gh2=>unI .i64 r1 fun n3=>
  br 36 (n3 !=0) (some (.ret,⟨[(2,I n3)],[],gh2⟩)) (some (.normal,⟨[(1,.ptr false 0 0),(27,I x27),(28,(I (IntKind.i64.wrap (x28+1))))],[[vc0_0,vc0_1,vc0_2,vc0_3,vc0_4]],gh2⟩))))) (some ((.exit 0),⟨[(1,.ptr false 0 0),(27,I x27),(28,I x28),(29,(B (decide (x28<x27))))],[[vc0_0,vc0_1,vc0_2,vc0_3,vc0_4]],gh⟩))
theorem q4y_ {x27 x28:Int} {vc0_0 vc0_1:PV} {vc0_2 vc0_3 vc0_4:PV} (h:q4y pg x27 x28 vc0_0 vc0_1 vc0_2 vc0_3 vc0_4 gh=some (e,s)):runL pg q9c ⟨[(1,.ptr false 0 0),(27,I x27),(28,I x28)],[[vc0_0,vc0_1,vc0_2,vc0_3,vc0_4]],gh⟩=some (e,s):=
 jfl q8g (Eq.trans (by kernel_rfl) h)
def q3p (pg:Prg) (vc0_0 vc0_1:PV) (vc0_2 vc0_3 vc0_4:PV) (gh:List GObj):DR:=onK (degr1 (degr1 vc0_0)) (onK (degr1 (degr1 vc0_1)) (onK (degr1 (degr1 vc0_2)) (onK (degr1 (degr1 vc0_3)) (onK (degr1 (degr1 vc0_4)) (
  callR gh true (callL pg 77 [(.agg [(degr1 (degr1 vc0_0)),(degr1 (degr1 vc0_1)),(degr1 (degr1 vc0_2)),(degr1 (degr1 vc0_3)),(degr1 (degr1 vc0_4))])] gh) fun r1 gh2=>unT 2 r1 fun r3 r4=>unI .i64 (degr1 (degr1 r3)) fun n5=>unI .i64 (degr1 (degr1 r4)) fun n6=>
  br 46 (decide (6<n5)) (some (.ret,⟨[(2,I 2)],[],gh2⟩)) (
  br 49 (decide (10<n6)) (some (.ret,⟨[(2,I 2)],[],gh2⟩)) (onK (degr1 vc0_0) (onK (degr1 vc0_1) (onK (degr1 vc0_2) (onK (degr1 vc0_3) (onK (degr1 vc0_4) (onK (degr1 vc0_0) (onK (degr1 vc0_1) (onK (degr1 vc0_2) (onK (degr1 vc0_3) (onK (degr1 vc0_4) (
  callR (gh2++[.cells [(degr1 vc0_0),(degr1 vc0_1),(degr1 vc0_2),(degr1 vc0_3),(degr1 vc0_4),.sl true 1 []]]) false (callL pg 78 [(.ptr true (List.length gh2) 0)] (gh2++[.cells [(degr1 vc0_0),(degr1 vc0_1),(degr1 vc0_2),(degr1 vc0_3),(degr1 vc0_4),.sl true 1 []]])) fun r7 gh8=>
  callR gh8 true (callL pg 79 [(.ptr true (List.length gh2) 0)] gh8) fun r9 gh10=>unI .i64 r9 fun n11=>
  br 58 (n11 !=0) (some (.ret,⟨[(2,I n11)],[],gh10⟩)) (
  callR gh10 true (callL pg 80 [(.ptr true (List.length gh2) 0)] gh10) fun r12 gh13=>unI .i64 r12 fun n14=>some (.ret,⟨[(2,I n14)],[],gh13⟩)))))))))))))))))))
theorem q3p_ {vc0_0 vc0_1:PV} {vc0_2 vc0_3 vc0_4:PV} (h:q3p pg vc0_0 vc0_1 vc0_2 vc0_3 vc0_4 gh=some (e,s)):runL pg q1v ⟨[(1,.ptr false 0 0)],[[vc0_0,vc0_1,vc0_2,vc0_3,vc0_4]],gh⟩=some (e,s):=
 jfl q8g (Eq.trans (by kernel_rfl) h)
def q1h (pg:Prg) (v0_0 v0_1:PV) (v0_2 v0_3 v0_4:PV) (gh:List GObj):DR:=onK (degr1 v0_0) (onK (degr1 v0_1) (onK (degr1 v0_2) (onK (degr1 v0_3) (onK (degr1 v0_4) (isC (degr (degr1 v0_0)) (lenS (degr (degr (degr1 v0_0))) fun n1=>
  br 13 (decide (80<(n1:Int))) (some (.ret,⟨[(2,I 2)],[],gh⟩)) (isC (degr (degr1 v0_3)) (lenS (degr (degr (degr1 v0_3))) fun n2=>
  br 19 (decide (8<(n2:Int))) (some (.ret,⟨[(2,I 2)],[],gh⟩)) (isC (degr (degr1 v0_4)) (lenS (degr (degr (degr1 v0_4))) fun n3=>
  br 24 (decide (8<(n3:Int))) (some (.ret,⟨[(2,I 2)],[],gh⟩)) (isC (degr (degr1 v0_0)) (lenS (degr (degr (degr1 v0_0))) fun n4=>
  kR (runL pg q5v ⟨[(1,.ptr false 0 0),(27,(I (n4:Int))),(28,I 0)],[[(degr1 v0_0),(degr1 v0_1),(degr1 v0_2),(degr1 v0_3),(degr1 v0_4)]],gh⟩) (fun e s=>nx e s (fun e s=>some (e,s)) fun s=>kR (runL pg q1v s) (fun e s=>some (e,s)))))))))))))))
theorem q1h_ {v0_0 v0_1:PV} {v0_2 v0_3 v0_4:PV} (h:q1h pg v0_0 v0_1 v0_2 v0_3 v0_4 gh=some (e,s)):runL pg q9d ⟨[(0,.agg [v0_0,v0_1,v0_2,v0_3,v0_4])],[],gh⟩=some (e,s):=
 jfl q8g (Eq.trans (by kernel_rfl) h)
end
end Go.Lw
end

/-! What the code of function slices_Concat_Lint_int comes to, piece by piece. Written by program (dprint.py). -/
section
set_option maxRecDepth 10000
set_option maxHeartbeats 4000000
namespace Go.Lw
open Go
noncomputable section
variable {pg:Prg} {gh:List GObj} {e:IExit} {s:St}
def q3q:Tr:=(tI 19 (tI 10 (tO 5 (tO 2 (uO 0) (uI 3)) (tO 8 (uO 6) (uO 9))) (tI 15 (tB 12 (uI 11) (uO 14)) (tI 17 (uO 16) (uI 18)))) (tB 28 (tO 24 (tI 22 (uB 20) (uI 23)) (tI 26 (uO 25) (uI 27))) (tO 33 (tO 31 (uO 30) (uO 32)) (tO 35 (uI 34) .nil))))
def q4z (pg:Prg) (v0:PV) (x3:Int) (v9:PV) (x10 x11:Int) (gh:List GObj):DR:=
  br 12 (decide (x11<x10)) (
  idX 1 none (degr v9) x11 fun p1=>
  ldX [] gh false 1 (degr p1) fun v2=>isC v2 (stK 0 v0 (stK 0 v2 (stK 0 v9 (isC (degr v2) (lenS (degr (degr v2)) fun n3=>stK 0 v0 (stK 0 v9 (stK 0 v0 (stK 0 v9 (
  br 20 (decide ((IntKind.i64.wrap (x3+(n3:Int)))<0)) (none) (stK 0 v0 (stK 0 v9 (stK 0 v0 (stK 0 v9 (some (.normal,⟨[(0,v0),(3,(I (IntKind.i64.wrap (x3+(n3:Int))))),(9,v9),(10,I x10),(11,(I (IntKind.i64.wrap (x11+1))))],[],gh⟩)))))))))))))))) (some ((.exit 0),⟨[(0,v0),(3,I x3),(9,v9),(10,I x10),(11,I x11),(12,(B (decide (x11<x10))))],[],gh⟩))
theorem q4z_ {v0:PV} {x3:Int} {v9:PV} {x10 x11:Int} (h:q4z pg v0 x3 v9 x10 x11 gh=some (e,s)):runL pg q95 ⟨[(0,v0),(3,I x3),(9,v9),(10,I x10),(11,I x11)],[],gh⟩=some (e,s):=
 jfl q3q (Eq.trans (by kernel_rfl) h)
def q50 (pg:Prg) (v6 v25:PV) (x26 x27:Int) (gh:List GObj):DR:=
  br 28 (decide (x27<x26)) (
  idX 1 none (degr v25) x27 fun p1=>
  ldX [] gh false 1 (degr p1) fun v2=>isC v2 (stK 0 v6 (stK 0 v2 (stK 0 v25 (isC (degr v2) (
  apX 1 8 v6 (degr (degr v2)) fun l3=>stK 0 v25 (stK 0 v25 (stK 0 v25 (some (.normal,⟨[(6,.sl true 1 l3),(25,v25),(26,I x26),(27,(I (IntKind.i64.wrap (x27+1))))],[],gh⟩)))))))))) (some ((.exit 2),⟨[(6,v6),(25,v25),(26,I x26),(27,I x27),(28,(B (decide (x27<x26))))],[],gh⟩))
theorem q50_ {v6 v25:PV} {x26 x27:Int} (h:q50 pg v6 v25 x26 x27 gh=some (e,s)):runL pg q96 ⟨[(6,v6),(25,v25),(26,I x26),(27,I x27)],[],gh⟩=some (e,s):=
 jfl q3q (Eq.trans (by kernel_rfl) h)
def qd1 (pg:Prg) (v6:PV) (gh:List GObj):DR:=isC (degr v6) (stK 0 (degr v6) (some (.ret,⟨[(2,(degr v6))],[],gh⟩)))
theorem qd1_ {v6:PV} (h:qd1 pg v6 gh=some (e,s)):runL pg q5p ⟨[(6,v6)],[],gh⟩=some (e,s):=
 jfl q3q (Eq.trans (by kernel_rfl) h)
def qd2 (pg:Prg) (v0:PV) (x3:Int) (gh:List GObj):DR:=
  callR gh true (callL pg 119 [.nils,I x3] gh) fun r1 gh2=>isC r1 (stK 0 v0 (stK 0 r1 (isC (degr v0) (lenS (degr (degr v0)) fun n3=>stK 0 r1 (stK 0 (degr v0) (
  kR (runL pg q5o ⟨[(6,r1),(25,(degr v0)),(26,(I (n3:Int))),(27,I 0)],[],gh2⟩) (fun e s=>nx e s (fun e s=>some (e,s)) fun s=>kR (runL pg q5p s) (fun e s=>some (e,s)))))))))
theorem qd2_ {v0:PV} {x3:Int} (h:qd2 pg v0 x3 gh=some (e,s)):runL pg q5q ⟨[(0,v0),(3,I x3)],[],gh⟩=some (e,s):=
 jfl q3q (Eq.trans (by kernel_rfl) h)
def qd3 (pg:Prg) (v0:PV) (gh:List GObj):DR:=stK 0 v0 (isC (degr v0) (lenS (degr (degr v0)) fun n1=>stK 0 v0 (stK 0 (degr v0) (
  kR (runL pg q5n ⟨[(0,v0),(3,I 0),(9,(degr v0)),(10,(I (n1:Int))),(11,I 0)],[],gh⟩) (fun e s=>nx e s (fun e s=>some (e,s)) fun s=>kR (runL pg q5q s) (fun e s=>some (e,s)))))))
theorem qd3_ {v0:PV} (h:qd3 pg v0 gh=some (e,s)):runL pg q97 ⟨[(0,v0)],[],gh⟩=some (e,s):=
 jfl q3q (Eq.trans (by kernel_rfl) h)
end
end Go.Lw
end

/-! What the code of function ref_kindWord comes to, piece by piece. Written by program (dprint.py). -/
section
set_option maxRecDepth 10000
set_option maxHeartbeats 4000000
namespace Go.Lw
open Go
noncomputable section
variable {pg:Prg} {gh:List GObj} {e:IExit} {s:St}
def qfb:Tr:=(tO 5 (tO 3 (.node 2 (.ce (.str)) (uI 0) .nil) (uO 4)) (tI 7 (uI 6) (.node 9 (.ce (.str)) .nil .nil)))
def qd4 (pg:Prg) (x0:Int) (gh:List GObj):DR:=
  idX 1 none (.sl false 1 [(.str (⟨#[99,111,110,115,116]⟩:ByteArray)),(.str (⟨#[105,110,112,117,116]⟩:ByteArray)),(.str (⟨#[115,116,97,116,101]⟩:ByteArray)),(.str (⟨#[110,111,116]⟩:ByteArray)),(.str (⟨#[110,101,103]⟩:ByteArray)),(.str (⟨#[97,110,100]⟩:ByteArray)),(.str (⟨#[111,114]⟩:ByteArray)),(.str (⟨#[120,111,114]⟩:ByteArray)),(.str (⟨#[97,100,100]⟩:ByteArray)),(.str (⟨#[115,117,98]⟩:ByteArray)),(.str (⟨#[109,117,108]⟩:ByteArray)),(.str (⟨#[100,105,118]⟩:ByteArray)),(.str (⟨#[114,101,109]⟩:ByteArray)),(.str (⟨#[115,104,108]⟩:ByteArray)),(.str (⟨#[115,104,114]⟩:ByteArray)),(.str (⟨#[101,113]⟩:ByteArray)),(.str (⟨#[108,101,115,115]⟩:ByteArray)),(.str (⟨#[115,105,103,110,101,100]⟩:ByteArray)),(.str (⟨#[105,102]⟩:ByteArray)),(.str (⟨#[106,111,105,110]⟩:ByteArray)),(.str (⟨#[99,117,116]⟩:ByteArray)),(.str (⟨#[119,105,100,101]⟩:ByteArray)),(.str (⟨#[115,112,114,101,97,100]⟩:ByteArray))]) (IntKind.i64.wrap (x0-1)) fun p1=>
  ldX [] gh false 1 (degr p1) fun v2=>unS v2 fun s3=>some (.ret,⟨[(2,.str s3)],[],gh⟩)
theorem qd4_ {x0:Int} (h:qd4 pg x0 gh=some (e,s)):runL pg qay ⟨[(0,I x0)],[],gh⟩=some (e,s):=
 jfl qfb (Eq.trans (by kernel_rfl) h)
end
end Go.Lw
end

/-! What the code of function slices_Index_Lstring_string comes to, piece by piece. Written by program (dprint.py). -/
section
set_option maxRecDepth 10000
set_option maxHeartbeats 4000000
namespace Go.Lw
open Go
noncomputable section
variable {pg:Prg} {gh:List GObj} {e:IExit} {s:St}
def q8k:Tr:=(tI 10 (tO 6 (tI 4 (.node 1 (.ce (.str)) (uO 0) .nil) (uI 5)) (tI 8 (uI 7) (uB 9))) (.node 15 (.ce (.str)) (tO 12 (.node 11 (.ce (.str)) .nil .nil) (uI 13)) (tI 17 (uB 16) (uI 18))))
def q53 (pg:Prg) (v0:PV) (s1:ByteArray) (x7 x8:Int) (gh:List GObj):DR:=
  br 9 (decide (x8<x7)) (stK 0 v0 (isC (degr v0) (
  idX 1 none (degr (degr v0)) x8 fun p1=>
  ldX [] gh false 1 (degr p1) fun v2=>unS v2 fun s3=>stK 0 v0 (
  br 16 (ByteArray.toList s1==ByteArray.toList s3) (some (.ret,⟨[(4,I x8)],[],gh⟩)) (stK 0 v0 (stK 0 v0 (some (.normal,⟨[(0,v0),(1,.str s1),(7,I x7),(8,(I (IntKind.i64.wrap (x8+1))))],[],gh⟩)))))))) (some ((.exit 0),⟨[(0,v0),(1,.str s1),(7,I x7),(8,I x8),(9,(B (decide (x8<x7))))],[],gh⟩))
theorem q53_ {v0:PV} {s1:ByteArray} {x7 x8:Int} (h:q53 pg v0 s1 x7 x8 gh=some (e,s)):runL pg q9a ⟨[(0,v0),(1,.str s1),(7,I x7),(8,I x8)],[],gh⟩=some (e,s):=
 jfl q8k (Eq.trans (by kernel_rfl) h)
def qfd (pg:Prg) (gh:List GObj):DR:=some (.ret,⟨[(4,(I (-1)))],[],gh⟩)
theorem qfd_ (h:qfd pg gh=some (e,s)):runL pg q3x ⟨[],[],gh⟩=some (e,s):=
 jfl q8k (Eq.trans (by kernel_rfl) h)
def q8l (pg:Prg) (v0:PV) (s1:ByteArray) (gh:List GObj):DR:=stK 0 v0 (isC (degr v0) (lenS (degr (degr v0)) fun n1=>stK 0 v0 (
  kR (runL pg q5u ⟨[(0,v0),(1,.str s1),(7,(I (n1:Int))),(8,I 0)],[],gh⟩) (fun e s=>nx e s (fun e s=>some (e,s)) fun s=>kR (runL pg q3x s) (fun e s=>some (e,s))))))
theorem q8l_ {v0:PV} {s1:ByteArray} (h:q8l pg v0 s1 gh=some (e,s)):runL pg q9b ⟨[(0,v0),(1,.str s1)],[],gh⟩=some (e,s):=
 jfl q8k (Eq.trans (by kernel_rfl) h)
end
end Go.Lw
end

/-! What the code of function ref_ParseModel comes to, piece by piece. Written by program (dprint.py). -/
section
set_option maxRecDepth 10000
set_option maxHeartbeats 4000000
namespace Go.Lw
open Go
noncomputable section
variable {pg:Prg} {gh:List GObj} {e:IExit} {s:St}
def qd:Tr:=(tB 128 (.node 64 (.ce (.str)) (tO 32 (tI 18 (tI 10 (tO 5 (tI 3 (.node 0 (.ce (.str)) .nil .nil) (uI 4)) (tI 8 (uI 7) (uO 9))) (tI 14 (tO 12 (uI 11) (uB 13)) (tI 16 (uI 15) .nil))) (tI 25 (.node 22 (.agg [.any,.any,.any,.any,.any]) (tI 20 (.node 19 (.ce (.str)) .nil .nil) (uB 21)) (tO 24 (.node 23 (.ce (.str)) .nil .nil) .nil)) (tB 29 (tI 27 (uO 26) (uI 28)) (tI 31 (uI 30) .nil)))) (tO 48 (tI 41 (tI 37 (.node 35 (.ce (.str)) (uI 33) (uO 36)) (tB 39 (uB 38) (uO 40))) (tI 45 (tB 43 (uB 42) (uI 44)) (.node 47 (.ce (.str)) (uI 46) .nil))) (tB 56 (tI 53 (tB 51 (.node 50 (.ce (.str)) .nil .nil) (uI 52)) (tI 55 (uO 54) .nil)) (tB 60 (tI 58 (uI 57) (uI 59)) (tO 62 (uB 61) .nil))))) (.node 98 (.ce (.str)) (.node 82 (.ce (.str)) (tB 73 (tO 68 (tB 66 (uB 65) (uB 67)) (tB 71 (.node 70 (.ce (.str)) .nil .nil) (uB 72))) (tB 78 (.node 76 (.ce (.str)) (uO 74) (uB 77)) (tO 80 (uB 79) .nil))) (tI 90 (tO 86 (tB 84 (uB 83) (uO 85)) (.node 89 (.ce (.str)) (uI 87) .nil)) (tB 94 (tO 92 (uO 91) (uB 93)) (tI 96 (uO 95) .nil)))) (tB 114 (tB 107 (tO 102 (tB 100 (uI 99) (uB 101)) (tB 105 (.node 104 (.ce (.str)) .nil .nil) (uB 106))) (tB 111 (tB 109 (uB 108) (uB 110)) (tI 113 (uB 112) .nil))) (tB 121 (tI 118 (tB 116 (uI 115) (uI 117)) (tI 120 (uI 119) .nil)) (tB 125 (tI 123 (uB 122) (uB 124)) (tI 127 (uI 126) .nil)))))) (tO 195 (tI 159 (tB 145 (tB 138 (tI 133 (tO 130 (uB 129) (.node 132 (.ce (.str)) .nil .nil)) (tI 136 (uO 135) (uB 137))) (tB 142 (tI 140 (uB 139) (uB 141)) (tB 144 (uB 143) .nil))) (tI 152 (tB 149 (tI 147 (uO 146) (uI 148)) (tB 151 (uB 150) .nil)) (.node 156 (.agg [.any,.any,.any,.any,.any]) (tB 154 (uI 153) (uB 155)) (tI 158 (uI 157) .nil)))) (tB 177 (tI 168 (tI 163 (tB 161 (uI 160) (uB 162)) (tI 166 (uO 164) (.node 167 (.agg [.int .i64,.int .i64,.int .i64,.int .i64,.int .i64,.int .i64]) .nil .nil))) (tI 173 (tB 170 (uI 169) (uO 171)) (tI 176 (uI 175) .nil))) (tI 187 (tI 183 (tI 180 (uO 178) (uI 182)) (tO 185 (uB 184) .nil)) (tI 192 (tB 190 (uI 189) (uB 191)) (tB 194 (uB 193) .nil))))) (tB 236 (.node 217 (.agg [.int .i64,.int .i64]) (tB 207 (tO 202 (tI 197 (uI 196) (uI 199)) (tO 204 (.node 203 (.agg [.int .i64,.int .i64,.int .i64,.int .i64,.int .i64,.int .i64]) .nil .nil) (uO 205))) (tI 213 (tO 210 (uB 208) (uO 211)) (tI 216 (uO 214) .nil))) (tI 227 (tB 222 (tO 219 (uO 218) (uB 221)) (tO 225 (uO 224) .nil)) (tO 232 (tI 230 (uO 228) (.node 231 (.agg [.int .i64,.int .i64]) .nil .nil)) (tB 235 (uO 233) .nil)))) (tI 257 (tO 248 (tO 242 (tO 239 (uO 238) (uI 241)) (tB 245 (uO 243) (uB 246))) (tO 253 (tI 251 (uO 249) (uO 252)) (tO 256 (uO 255) .nil))) (.node 265 (.agg [.any,.any,.any,.any,.any]) (.node 262 (.agg [.any,.any,.any,.any,.any]) (.node 260 (.ce (.str)) (uI 258) (uB 261)) (tI 264 (uO 263) .nil)) (.node 269 (.agg [.any,.any,.any,.any,.any]) (tI 267 (uI 266) (uB 268)) (.node 271 (.agg [.any,.any,.any,.any,.any]) (uI 270) .nil)))))))
def qd7 (pg:Prg) (v5:PV) (x7 x8:Int) (v9:PV) (x10 x11:Int) (vc0_0 vc0_1:PV) (vc0_2 vc0_3:PV) (vc0_4 vc1_0:PV) (vc1_1 vc1_2:PV) (vc1_3 vc1_4:PV) (gh:List GObj):DR:=stK 2 v5 (stK 2 v9 (some (.normal,⟨[(2,.ptr false 0 0),(5,v5),(6,.ptr false 1 0),(7,I x7),(8,I x8),(9,v9),(10,I x10),(11,(I (IntKind.i64.wrap (x11+1))))],[[vc0_0,vc0_1,vc0_2,vc0_3,vc0_4],[vc1_0,vc1_1,vc1_2,vc1_3,vc1_4]],gh⟩)))
theorem qd7_ {v5:PV} {x7 x8:Int} {v9:PV} {x10 x11:Int} {vc0_0 vc0_1:PV} {vc0_2 vc0_3:PV} {vc0_4 vc1_0:PV} {vc1_1 vc1_2:PV} {vc1_3 vc1_4:PV} (h:qd7 pg v5 x7 x8 v9 x10 x11 vc0_0 vc0_1 vc0_2 vc0_3 vc0_4 vc1_0 vc1_1 vc1_2 vc1_3 vc1_4 gh=some (e,s)):runL pg q32 ⟨[(2,.ptr false 0 0),(5,v5),(6,.ptr false 1 0),(7,I x7),(8,I x8),(9,v9),(10,I x10),(11,I x11)],[[vc0_0,vc0_1,vc0_2,vc0_3,vc0_4],[vc1_0,vc1_1,vc1_2,vc1_3,vc1_4]],gh⟩=some (e,s):=
 jfl qd (Eq.trans (by kernel_rfl) h)
def q3u (pg:Prg) (v5:PV) (x7 x8:Int) (v9:PV) (x10 x11:Int) (vc0_0 vc0_1:PV) (vc0_2 vc0_3:PV) (vc0_4 vc1_0:PV) (vc1_1 vc1_2:PV) (vc1_3 vc1_4:PV) (gh:List GObj):DR:=
  br 39 (decide (x11≤23)) (isC (degr v9) (lenS (degr (degr v9)) fun n1=>stK 2 v5 (stK 2 v9 (
  br 43 (decide (1<(n1:Int))) (
  callR gh true (callL pg 379 [I x11] gh) fun r2 gh3=>unS r2 fun s4=>isC (degr v9) (
  idX 1 none (degr (degr v9)) 1 fun p5=>
  ldX [[vc0_0,vc0_1,vc0_2,vc0_3,vc0_4],[vc1_0,vc1_1,vc1_2,vc1_3,vc1_4]] gh3 false 1 (degr p5) fun v6=>unS v6 fun s7=>stK 2 v5 (stK 2 v9 (
  br 51 (ByteArray.toList s4==ByteArray.toList s7) (stK 2 v5 (stK 2 v9 (stK 2 v5 (stK 2 v9 (
  kR (runL pg q32 ⟨[(2,.ptr false 0 0),(5,v5),(6,.ptr false 1 0),(7,I x7),(8,I x8),(9,v9),(10,I x11),(11,I x11)],[[vc0_0,vc0_1,vc0_2,vc0_3,vc0_4],[vc1_0,vc1_1,vc1_2,vc1_3,vc1_4]],gh3⟩) (fun e s=>po [2,5,6,7,8,9,10,11] 2 e s (fun e s=>some (e,s)))))))) (stK 2 v5 (stK 2 v9 (
  kR (runL pg q32 ⟨[(2,.ptr false 0 0),(5,v5),(6,.ptr false 1 0),(7,I x7),(8,I x8),(9,v9),(10,I x10),(11,I x11)],[[vc0_0,vc0_1,vc0_2,vc0_3,vc0_4],[vc1_0,vc1_1,vc1_2,vc1_3,vc1_4]],gh3⟩) (fun e s=>po [2,5,6,7,8,9,10,11] 2 e s (fun e s=>some (e,s)))))))))) (some ((.exit 2),⟨[(2,.ptr false 0 0),(5,v5),(6,.ptr false 1 0),(7,I x7),(8,I x8),(9,v9),(10,I x10),(11,I x11),(43,(B (decide (1<(n1:Int)))))],[[vc0_0,vc0_1,vc0_2,vc0_3,vc0_4],[vc1_0,vc1_1,vc1_2,vc1_3,vc1_4]],gh⟩)))))) (stK 2 v5 (stK 2 v9 (some ((.exit 2),⟨[(2,.ptr false 0 0),(5,v5),(6,.ptr false 1 0),(7,I x7),(8,I x8),(9,v9),(10,I x10),(11,I x11),(43,B false)],[[vc0_0,vc0_1,vc0_2,vc0_3,vc0_4],[vc1_0,vc1_1,vc1_2,vc1_3,vc1_4]],gh⟩))))
theorem q3u_ {v5:PV} {x7 x8:Int} {v9:PV} {x10 x11:Int} {vc0_0 vc0_1:PV} {vc0_2 vc0_3:PV} {vc0_4 vc1_0:PV} {vc1_1 vc1_2:PV} {vc1_3 vc1_4:PV} (h:q3u pg v5 x7 x8 v9 x10 x11 vc0_0 vc0_1 vc0_2 vc0_3 vc0_4 vc1_0 vc1_1 vc1_2 vc1_3 vc1_4 gh=some (e,s)):runL pg qav ⟨[(2,.ptr false 0 0),(5,v5),(6,.ptr false 1 0),(7,I x7),(8,I x8),(9,v9),(10,I x10),(11,I x11)],[[vc0_0,vc0_1,vc0_2,vc0_3,vc0_4],[vc1_0,vc1_1,vc1_2,vc1_3,vc1_4]],gh⟩=some (e,s):=
 jfl qd (Eq.trans (by kernel_rfl) h)
def q8r (pg:Prg) (v5:PV) (x7 x8:Int) (v9:PV) (x10:Int) (v12:PV) (b13:Bool) (x14:Int) (vc0_0 vc0_1:PV) (vc0_2 vc0_3:PV) (vc0_4 vc1_0:PV) (vc1_1 vc1_2:PV) (vc1_3 vc1_4:PV) (gh:List GObj):DR:=stK 2 v5 (stK 2 v9 (stK 2 v12 (some (.normal,⟨[(2,.ptr false 0 0),(5,v5),(6,.ptr false 1 0),(7,I x7),(8,I x8),(9,v9),(10,I x10),(12,v12),(13,B b13),(14,(I (IntKind.i64.wrap (x14+1))))],[[vc0_0,vc0_1,vc0_2,vc0_3,vc0_4],[vc1_0,vc1_1,vc1_2,vc1_3,vc1_4]],gh⟩))))
theorem q8r_ {v5:PV} {x7 x8:Int} {v9:PV} {x10:Int} {v12:PV} {b13:Bool} {x14:Int} {vc0_0 vc0_1:PV} {vc0_2 vc0_3:PV} {vc0_4 vc1_0:PV} {vc1_1 vc1_2:PV} {vc1_3 vc1_4:PV} (h:q8r pg v5 x7 x8 v9 x10 v12 b13 x14 vc0_0 vc0_1 vc0_2 vc0_3 vc0_4 vc1_0 vc1_1 vc1_2 vc1_3 vc1_4 gh=some (e,s)):runL pg qg ⟨[(2,.ptr false 0 0),(5,v5),(6,.ptr false 1 0),(7,I x7),(8,I x8),(9,v9),(10,I x10),(12,v12),(13,B b13),(14,I x14)],[[vc0_0,vc0_1,vc0_2,vc0_3,vc0_4],[vc1_0,vc1_1,vc1_2,vc1_3,vc1_4]],gh⟩=some (e,s):=
 jfl qd (Eq.trans (by kernel_rfl) h)
def q2c (pg:Prg) (v5:PV) (x7 x8:Int) (v9:PV) (x10:Int) (v12:PV) (b13:Bool) (x14:Int) (vc0_0 vc0_1:PV) (vc0_2 vc0_3:PV) (vc0_4 vc1_0:PV) (vc1_1 vc1_2:PV) (vc1_3 vc1_4:PV) (gh:List GObj):DR:=isC (degr v9) (lenS (degr (degr v9)) fun n1=>stK 2 v5 (stK 2 v9 (stK 2 v12 (
  br 56 (decide (x14<(n1:Int))) (
  br 61 (decide (1<x14)) (stK 2 v5 (stK 2 v9 (stK 2 v12 (isC (degr v9) (
  idX 1 none (degr (degr v9)) x14 fun p2=>
  ldX [[vc0_0,vc0_1,vc0_2,vc0_3,vc0_4],[vc1_0,vc1_1,vc1_2,vc1_3,vc1_4]] gh false 1 (degr p2) fun v3=>unS v3 fun s4=>
  callR gh true (callL pg 381 [.str s4] gh) fun r5 gh6=>unI .i64 r5 fun n7=>
  apX 1 8 v12 (.sl false 1 [I n7]) fun l8=>stK 2 v5 (stK 2 v9 (
  br 94 b13 (isC (degr v9) (
  idX 1 none (degr (degr v9)) x14 fun p9=>
  ldX [[vc0_0,vc0_1,vc0_2,vc0_3,vc0_4],[vc1_0,vc1_1,vc1_2,vc1_3,vc1_4]] gh6 false 1 (degr p9) fun v10=>unS v10 fun s11=>
  callR gh6 true (callL pg 381 [.str s11] gh6) fun r12 gh13=>unI .i64 r12 fun n14=>stK 2 v5 (stK 2 v9 (stK 2 v5 (stK 2 v9 (
  kR (runL pg qg ⟨[(2,.ptr false 0 0),(5,v5),(6,.ptr false 1 0),(7,I x7),(8,I x8),(9,v9),(10,I x10),(12,.sl true 1 l8),(13,(B (decide (0≤n14)))),(14,I x14)],[[vc0_0,vc0_1,vc0_2,vc0_3,vc0_4],[vc1_0,vc1_1,vc1_2,vc1_3,vc1_4]],gh13⟩) (fun e s=>po [2,5,6,7,8,9,10,12,13,14] 2 e s (fun e s=>some (e,s))))))))) (stK 2 v5 (stK 2 v9 (stK 2 v5 (stK 2 v9 (
  kR (runL pg qg ⟨[(2,.ptr false 0 0),(5,v5),(6,.ptr false 1 0),(7,I x7),(8,I x8),(9,v9),(10,I x10),(12,.sl true 1 l8),(13,B false),(14,I x14)],[[vc0_0,vc0_1,vc0_2,vc0_3,vc0_4],[vc1_0,vc1_1,vc1_2,vc1_3,vc1_4]],gh6⟩) (fun e s=>po [2,5,6,7,8,9,10,12,13,14] 2 e s (fun e s=>some (e,s))))))))))))))) (isC (degr v9) (
  idX 1 none (degr (degr v9)) 0 fun p15=>
  ldX [[vc0_0,vc0_1,vc0_2,vc0_3,vc0_4],[vc1_0,vc1_1,vc1_2,vc1_3,vc1_4]] gh false 1 (degr p15) fun v16=>unS v16 fun s17=>
  br 67 (ByteArray.toList s17==ByteArray.toList (⟨#[105,110,105,116]⟩:ByteArray)) (stK 2 v5 (stK 2 v9 (stK 2 v12 (isC (degr v9) (
  idX 1 none (degr (degr v9)) x14 fun p18=>
  ldX [[vc0_0,vc0_1,vc0_2,vc0_3,vc0_4],[vc1_0,vc1_1,vc1_2,vc1_3,vc1_4]] gh false 1 (degr p18) fun v19=>unS v19 fun s20=>
  callR gh true (callL pg 381 [.str s20] gh) fun r21 gh22=>unI .i64 r21 fun n23=>
  apX 1 8 v12 (.sl false 1 [I n23]) fun l24=>stK 2 v5 (stK 2 v9 (
  br 94 b13 (isC (degr v9) (
  idX 1 none (degr (degr v9)) x14 fun p25=>
  ldX [[vc0_0,vc0_1,vc0_2,vc0_3,vc0_4],[vc1_0,vc1_1,vc1_2,vc1_3,vc1_4]] gh22 false 1 (degr p25) fun v26=>unS v26 fun s27=>
  callR gh22 true (callL pg 381 [.str s27] gh22) fun r28 gh29=>unI .i64 r28 fun n30=>stK 2 v5 (stK 2 v9 (stK 2 v5 (stK 2 v9 (
  kR (runL pg qg ⟨[(2,.ptr false 0 0),(5,v5),(6,.ptr false 1 0),(7,I x7),(8,I x8),(9,v9),(10,I x10),(12,.sl true 1 l24),(13,(B (decide (0≤n30)))),(14,I x14)],[[vc0_0,vc0_1,vc0_2,vc0_3,vc0_4],[vc1_0,vc1_1,vc1_2,vc1_3,vc1_4]],gh29⟩) (fun e s=>po [2,5,6,7,8,9,10,12,13,14] 2 e s (fun e s=>some (e,s))))))))) (stK 2 v5 (stK 2 v9 (stK 2 v5 (stK 2 v9 (
  kR (runL pg qg ⟨[(2,.ptr false 0 0),(5,v5),(6,.ptr false 1 0),(7,I x7),(8,I x8),(9,v9),(10,I x10),(12,.sl true 1 l24),(13,B false),(14,I x14)],[[vc0_0,vc0_1,vc0_2,vc0_3,vc0_4],[vc1_0,vc1_1,vc1_2,vc1_3,vc1_4]],gh22⟩) (fun e s=>po [2,5,6,7,8,9,10,12,13,14] 2 e s (fun e s=>some (e,s))))))))))))))) (isC (degr v9) (
  idX 1 none (degr (degr v9)) 0 fun p31=>
  ldX [[vc0_0,vc0_1,vc0_2,vc0_3,vc0_4],[vc1_0,vc1_1,vc1_2,vc1_3,vc1_4]] gh false 1 (degr p31) fun v32=>unS v32 fun s33=>
  br 73 (ByteArray.toList s33==ByteArray.toList (⟨#[110,101,120,116]⟩:ByteArray)) (stK 2 v5 (stK 2 v9 (stK 2 v12 (isC (degr v9) (
  idX 1 none (degr (degr v9)) x14 fun p34=>
  ldX [[vc0_0,vc0_1,vc0_2,vc0_3,vc0_4],[vc1_0,vc1_1,vc1_2,vc1_3,vc1_4]] gh false 1 (degr p34) fun v35=>unS v35 fun s36=>
  callR gh true (callL pg 381 [.str s36] gh) fun r37 gh38=>unI .i64 r37 fun n39=>
  apX 1 8 v12 (.sl false 1 [I n39]) fun l40=>stK 2 v5 (stK 2 v9 (
  br 94 b13 (isC (degr v9) (
  idX 1 none (degr (degr v9)) x14 fun p41=>
  ldX [[vc0_0,vc0_1,vc0_2,vc0_3,vc0_4],[vc1_0,vc1_1,vc1_2,vc1_3,vc1_4]] gh38 false 1 (degr p41) fun v42=>unS v42 fun s43=>
  callR gh38 true (callL pg 381 [.str s43] gh38) fun r44 gh45=>unI .i64 r44 fun n46=>stK 2 v5 (stK 2 v9 (stK 2 v5 (stK 2 v9 (
  kR (runL pg qg ⟨[(2,.ptr false 0 0),(5,v5),(6,.ptr false 1 0),(7,I x7),(8,I x8),(9,v9),(10,I x10),(12,.sl true 1 l40),(13,(B (decide (0≤n46)))),(14,I x14)],[[vc0_0,vc0_1,vc0_2,vc0_3,vc0_4],[vc1_0,vc1_1,vc1_2,vc1_3,vc1_4]],gh45⟩) (fun e s=>po [2,5,6,7,8,9,10,12,13,14] 2 e s (fun e s=>some (e,s))))))))) (stK 2 v5 (stK 2 v9 (stK 2 v5 (stK 2 v9 (
  kR (runL pg qg ⟨[(2,.ptr false 0 0),(5,v5),(6,.ptr false 1 0),(7,I x7),(8,I x8),(9,v9),(10,I x10),(12,.sl true 1 l40),(13,B false),(14,I x14)],[[vc0_0,vc0_1,vc0_2,vc0_3,vc0_4],[vc1_0,vc1_1,vc1_2,vc1_3,vc1_4]],gh38⟩) (fun e s=>po [2,5,6,7,8,9,10,12,13,14] 2 e s (fun e s=>some (e,s))))))))))))))) (isC (degr v9) (
  idX 1 none (degr (degr v9)) 0 fun p47=>
  ldX [[vc0_0,vc0_1,vc0_2,vc0_3,vc0_4],[vc1_0,vc1_1,vc1_2,vc1_3,vc1_4]] gh false 1 (degr p47) fun v48=>unS v48 fun s49=>
  br 79 (ByteArray.toList s49==ByteArray.toList (⟨#[98,97,100]⟩:ByteArray)) (stK 2 v5 (stK 2 v9 (stK 2 v12 (isC (degr v9) (
  idX 1 none (degr (degr v9)) x14 fun p50=>
  ldX [[vc0_0,vc0_1,vc0_2,vc0_3,vc0_4],[vc1_0,vc1_1,vc1_2,vc1_3,vc1_4]] gh false 1 (degr p50) fun v51=>unS v51 fun s52=>
  callR gh true (callL pg 381 [.str s52] gh) fun r53 gh54=>unI .i64 r53 fun n55=>
  apX 1 8 v12 (.sl false 1 [I n55]) fun l56=>stK 2 v5 (stK 2 v9 (
  br 94 b13 (isC (degr v9) (
  idX 1 none (degr (degr v9)) x14 fun p57=>
  ldX [[vc0_0,vc0_1,vc0_2,vc0_3,vc0_4],[vc1_0,vc1_1,vc1_2,vc1_3,vc1_4]] gh54 false 1 (degr p57) fun v58=>unS v58 fun s59=>
  callR gh54 true (callL pg 381 [.str s59] gh54) fun r60 gh61=>unI .i64 r60 fun n62=>stK 2 v5 (stK 2 v9 (stK 2 v5 (stK 2 v9 (
  kR (runL pg qg ⟨[(2,.ptr false 0 0),(5,v5),(6,.ptr false 1 0),(7,I x7),(8,I x8),(9,v9),(10,I x10),(12,.sl true 1 l56),(13,(B (decide (0≤n62)))),(14,I x14)],[[vc0_0,vc0_1,vc0_2,vc0_3,vc0_4],[vc1_0,vc1_1,vc1_2,vc1_3,vc1_4]],gh61⟩) (fun e s=>po [2,5,6,7,8,9,10,12,13,14] 2 e s (fun e s=>some (e,s))))))))) (stK 2 v5 (stK 2 v9 (stK 2 v5 (stK 2 v9 (
  kR (runL pg qg ⟨[(2,.ptr false 0 0),(5,v5),(6,.ptr false 1 0),(7,I x7),(8,I x8),(9,v9),(10,I x10),(12,.sl true 1 l56),(13,B false),(14,I x14)],[[vc0_0,vc0_1,vc0_2,vc0_3,vc0_4],[vc1_0,vc1_1,vc1_2,vc1_3,vc1_4]],gh54⟩) (fun e s=>po [2,5,6,7,8,9,10,12,13,14] 2 e s (fun e s=>some (e,s))))))))))))))) (isC (degr v9) (
  idX 1 none (degr (degr v9)) 0 fun p63=>
  ldX [[vc0_0,vc0_1,vc0_2,vc0_3,vc0_4],[vc1_0,vc1_1,vc1_2,vc1_3,vc1_4]] gh false 1 (degr p63) fun v64=>unS v64 fun s65=>stK 2 v5 (stK 2 v9 (stK 2 v12 (
  br 84 (ByteArray.toList s65==ByteArray.toList (⟨#[104,111,108,100]⟩:ByteArray)) (isC (degr v9) (
  idX 1 none (degr (degr v9)) x14 fun p66=>
  ldX [[vc0_0,vc0_1,vc0_2,vc0_3,vc0_4],[vc1_0,vc1_1,vc1_2,vc1_3,vc1_4]] gh false 1 (degr p66) fun v67=>unS v67 fun s68=>
  callR gh true (callL pg 381 [.str s68] gh) fun r69 gh70=>unI .i64 r69 fun n71=>
  apX 1 8 v12 (.sl false 1 [I n71]) fun l72=>stK 2 v5 (stK 2 v9 (
  br 94 b13 (isC (degr v9) (
  idX 1 none (degr (degr v9)) x14 fun p73=>
  ldX [[vc0_0,vc0_1,vc0_2,vc0_3,vc0_4],[vc1_0,vc1_1,vc1_2,vc1_3,vc1_4]] gh70 false 1 (degr p73) fun v74=>unS v74 fun s75=>
  callR gh70 true (callL pg 381 [.str s75] gh70) fun r76 gh77=>unI .i64 r76 fun n78=>stK 2 v5 (stK 2 v9 (stK 2 v5 (stK 2 v9 (
  kR (runL pg qg ⟨[(2,.ptr false 0 0),(5,v5),(6,.ptr false 1 0),(7,I x7),(8,I x8),(9,v9),(10,I x10),(12,.sl true 1 l72),(13,(B (decide (0≤n78)))),(14,I x14)],[[vc0_0,vc0_1,vc0_2,vc0_3,vc0_4],[vc1_0,vc1_1,vc1_2,vc1_3,vc1_4]],gh77⟩) (fun e s=>po [2,5,6,7,8,9,10,12,13,14] 2 e s (fun e s=>some (e,s))))))))) (stK 2 v5 (stK 2 v9 (stK 2 v5 (stK 2 v9 (
  kR (runL pg qg ⟨[(2,.ptr false 0 0),(5,v5),(6,.ptr false 1 0),(7,I x7),(8,I x8),(9,v9),(10,I x10),(12,.sl true 1 l72),(13,B false),(14,I x14)],[[vc0_0,vc0_1,vc0_2,vc0_3,vc0_4],[vc1_0,vc1_1,vc1_2,vc1_3,vc1_4]],gh70⟩) (fun e s=>po [2,5,6,7,8,9,10,12,13,14] 2 e s (fun e s=>some (e,s)))))))))))) (stK 2 v5 (stK 2 v9 (stK 2 v12 (
  kR (runL pg qg ⟨[(2,.ptr false 0 0),(5,v5),(6,.ptr false 1 0),(7,I x7),(8,I x8),(9,v9),(10,I x10),(12,v12),(13,B b13),(14,I x14)],[[vc0_0,vc0_1,vc0_2,vc0_3,vc0_4],[vc1_0,vc1_1,vc1_2,vc1_3,vc1_4]],gh⟩) (fun e s=>po [2,5,6,7,8,9,10,12,13,14] 2 e s (fun e s=>some (e,s))))))))))))))))))) (some ((.exit 4),⟨[(2,.ptr false 0 0),(5,v5),(6,.ptr false 1 0),(7,I x7),(8,I x8),(9,v9),(10,I x10),(12,v12),(13,B b13),(14,I x14),(56,(B (decide (x14<(n1:Int)))))],[[vc0_0,vc0_1,vc0_2,vc0_3,vc0_4],[vc1_0,vc1_1,vc1_2,vc1_3,vc1_4]],gh⟩))))))
theorem q2c_ {v5:PV} {x7 x8:Int} {v9:PV} {x10:Int} {v12:PV} {b13:Bool} {x14:Int} {vc0_0 vc0_1:PV} {vc0_2 vc0_3:PV} {vc0_4 vc1_0:PV} {vc1_1 vc1_2:PV} {vc1_3 vc1_4:PV} (h:q2c pg v5 x7 x8 v9 x10 v12 b13 x14 vc0_0 vc0_1 vc0_2 vc0_3 vc0_4 vc1_0 vc1_1 vc1_2 vc1_3 vc1_4 gh=some (e,s)):runL pg qaw ⟨[(2,.ptr false 0 0),(5,v5),(6,.ptr false 1 0),(7,I x7),(8,I x8),(9,v9),(10,I x10),(12,v12),(13,B b13),(14,I x14)],[[vc0_0,vc0_1,vc0_2,vc0_3,vc0_4],[vc1_0,vc1_1,vc1_2,vc1_3,vc1_4]],gh⟩=some (e,s):=
 jfl qd (Eq.trans (by kernel_rfl) h)
def q56 (pg:Prg) (v5:PV) (x7 x8:Int) (v9:PV) (x10:Int) (v12:PV) (b13:Bool) (x15 x16:Int) (vc0_0 vc0_1:PV) (vc0_2 vc0_3:PV) (vc0_4 vc1_0:PV) (vc1_1 vc1_2:PV) (vc1_3 vc1_4:PV) (gh:List GObj):DR:=
  br 129 b13 (isC (degr v9) (
  idX 1 none (degr (degr v9)) 0 fun p1=>
  ldX [[vc0_0,vc0_1,vc0_2,vc0_3,vc0_4],[vc1_0,vc1_1,vc1_2,vc1_3,vc1_4]] gh false 1 (degr p1) fun v2=>unS v2 fun s3=>
  callR gh true (callL pg 381 [.str s3] gh) fun r4 gh5=>unI .i64 r4 fun n6=>isC (degr vc1_0) (lenS (degr (degr vc1_0)) fun n7=>
  br 139 (n6==(n7:Int)) (stK 2 v5 (stK 2 v12 (some (.normal,⟨[(2,.ptr false 0 0),(5,v5),(6,.ptr false 1 0),(7,I x7),(8,I x8),(10,I x10),(12,v12),(13,(B (decide (0<x10)))),(15,I x15),(16,I x16)],[[vc0_0,vc0_1,vc0_2,vc0_3,vc0_4],[vc1_0,vc1_1,vc1_2,vc1_3,vc1_4]],gh5⟩)))) (stK 2 v5 (stK 2 v12 (some (.normal,⟨[(2,.ptr false 0 0),(5,v5),(6,.ptr false 1 0),(7,I x7),(8,I x8),(10,I x10),(12,v12),(13,B false),(15,I x15),(16,I x16)],[[vc0_0,vc0_1,vc0_2,vc0_3,vc0_4],[vc1_0,vc1_1,vc1_2,vc1_3,vc1_4]],gh5⟩))))))) (stK 2 v5 (stK 2 v12 (some (.normal,⟨[(2,.ptr false 0 0),(5,v5),(6,.ptr false 1 0),(7,I x7),(8,I x8),(10,I x10),(12,v12),(13,B false),(15,I x15),(16,I x16)],[[vc0_0,vc0_1,vc0_2,vc0_3,vc0_4],[vc1_0,vc1_1,vc1_2,vc1_3,vc1_4]],gh⟩))))
theorem q56_ {v5:PV} {x7 x8:Int} {v9:PV} {x10:Int} {v12:PV} {b13:Bool} {x15 x16:Int} {vc0_0 vc0_1:PV} {vc0_2 vc0_3:PV} {vc0_4 vc1_0:PV} {vc1_1 vc1_2:PV} {vc1_3 vc1_4:PV} (h:q56 pg v5 x7 x8 v9 x10 v12 b13 x15 x16 vc0_0 vc0_1 vc0_2 vc0_3 vc0_4 vc1_0 vc1_1 vc1_2 vc1_3 vc1_4 gh=some (e,s)):runL pg q1y ⟨[(2,.ptr false 0 0),(5,v5),(6,.ptr false 1 0),(7,I x7),(8,I x8),(9,v9),(10,I x10),(12,v12),(13,B b13),(15,I x15),(16,I x16)],[[vc0_0,vc0_1,vc0_2,vc0_3,vc0_4],[vc1_0,vc1_1,vc1_2,vc1_3,vc1_4]],gh⟩=some (e,s):=
 jfl qd (Eq.trans (by kernel_rfl) h)
def qd8 (pg:Prg) (v5:PV) (x7 x8:Int) (vc0_0 vc0_1:PV) (vc0_2 vc0_3:PV) (vc0_4 vc1_0:PV) (vc1_1 vc1_2:PV) (vc1_3 vc1_4:PV) (xc2_0 xc2_1:Int) (xc2_2 xc2_3:Int) (xc2_4 xc2_5:Int) (gh:List GObj):DR:=
  apX 6 48 vc1_0 (.sl false 6 [.agg [I xc2_0,I xc2_1,I xc2_2,I xc2_3,I xc2_4,I xc2_5]]) fun l1=>stK 2 v5 (some (.normal,⟨[(2,.ptr false 0 0),(5,v5),(6,.ptr false 1 0),(7,I x7),(8,I x8)],[[vc0_0,vc0_1,vc0_2,vc0_3,vc0_4],[.sl true 6 l1,vc1_1,vc1_2,vc1_3,vc1_4]],gh⟩))
theorem qd8_ {v5:PV} {x7 x8:Int} {vc0_0 vc0_1:PV} {vc0_2 vc0_3:PV} {vc0_4 vc1_0:PV} {vc1_1 vc1_2:PV} {vc1_3 vc1_4:PV} {xc2_0 xc2_1:Int} {xc2_2 xc2_3:Int} {xc2_4 xc2_5:Int} (h:qd8 pg v5 x7 x8 vc0_0 vc0_1 vc0_2 vc0_3 vc0_4 vc1_0 vc1_1 vc1_2 vc1_3 vc1_4 xc2_0 xc2_1 xc2_2 xc2_3 xc2_4 xc2_5 gh=some (e,s)):runL pg q1z ⟨[(2,.ptr false 0 0),(5,v5),(6,.ptr false 1 0),(7,I x7),(8,I x8),(17,.ptr false 2 0)],[[vc0_0,vc0_1,vc0_2,vc0_3,vc0_4],[vc1_0,vc1_1,vc1_2,vc1_3,vc1_4],[I xc2_0,I xc2_1,I xc2_2,I xc2_3,I xc2_4,I xc2_5]],gh⟩=some (e,s):=
 jfl qd (Eq.trans (by kernel_rfl) h)
def q57 (pg:Prg) (v5:PV) (x7 x8 x10:Int) (v12:PV) (x16:Int) (vc0_0 vc0_1:PV) (vc0_2 vc0_3:PV) (vc0_4 vc1_0:PV) (vc1_1 vc1_2:PV) (vc1_3 vc1_4:PV) (xc2_0 xc2_1:Int) (xc2_2 xc2_3:Int) (xc2_4 xc2_5:Int) (gh:List GObj):DR:=
  br 191 (x10==1) (stK 3 v5 (stK 3 v12 (isC (degr v12) (
  idX 1 none (degr (degr v12)) (IntKind.i64.wrap (x16-1)) fun p1=>
  ldX [[vc0_0,vc0_1,vc0_2,vc0_3,vc0_4],[vc1_0,vc1_1,vc1_2,vc1_3,vc1_4],[I xc2_0,I xc2_1,I xc2_2,I xc2_3,I xc2_4,I xc2_5]] gh false 1 (degr p1) fun v2=>unI .i64 v2 fun n3=>stK 3 v5 (stK 3 v5 (
  kR (runL pg q1z ⟨[(2,.ptr false 0 0),(5,v5),(6,.ptr false 1 0),(7,I x7),(8,I x8),(17,.ptr false 2 0)],[[vc0_0,vc0_1,vc0_2,vc0_3,vc0_4],[vc1_0,vc1_1,vc1_2,vc1_3,vc1_4],[I xc2_0,I xc2_1,I xc2_2,I xc2_3,I xc2_4,I n3]],gh⟩) (fun e s=>some (e,s)))))))) (stK 3 v5 (stK 3 v12 (
  br 194 (x10==21) (isC (degr v12) (
  idX 1 none (degr (degr v12)) (IntKind.i64.wrap (x16-1)) fun p4=>
  ldX [[vc0_0,vc0_1,vc0_2,vc0_3,vc0_4],[vc1_0,vc1_1,vc1_2,vc1_3,vc1_4],[I xc2_0,I xc2_1,I xc2_2,I xc2_3,I xc2_4,I xc2_5]] gh false 1 (degr p4) fun v6=>unI .i64 v6 fun n7=>stK 3 v5 (stK 3 v5 (
  kR (runL pg q1z ⟨[(2,.ptr false 0 0),(5,v5),(6,.ptr false 1 0),(7,I x7),(8,I x8),(17,.ptr false 2 0)],[[vc0_0,vc0_1,vc0_2,vc0_3,vc0_4],[vc1_0,vc1_1,vc1_2,vc1_3,vc1_4],[I xc2_0,I xc2_1,I xc2_2,I xc2_3,I xc2_4,I n7]],gh⟩) (fun e s=>some (e,s)))))) (stK 3 v5 (
  kR (runL pg q1z ⟨[(2,.ptr false 0 0),(5,v5),(6,.ptr false 1 0),(7,I x7),(8,I x8),(17,.ptr false 2 0)],[[vc0_0,vc0_1,vc0_2,vc0_3,vc0_4],[vc1_0,vc1_1,vc1_2,vc1_3,vc1_4],[I xc2_0,I xc2_1,I xc2_2,I xc2_3,I xc2_4,I xc2_5]],gh⟩) (fun e s=>some (e,s)))))))
theorem q57_ {v5:PV} {x7 x8 x10:Int} {v12:PV} {x16:Int} {vc0_0 vc0_1:PV} {vc0_2 vc0_3:PV} {vc0_4 vc1_0:PV} {vc1_1 vc1_2:PV} {vc1_3 vc1_4:PV} {xc2_0 xc2_1:Int} {xc2_2 xc2_3:Int} {xc2_4 xc2_5:Int} (h:q57 pg v5 x7 x8 x10 v12 x16 vc0_0 vc0_1 vc0_2 vc0_3 vc0_4 vc1_0 vc1_1 vc1_2 vc1_3 vc1_4 xc2_0 xc2_1 xc2_2 xc2_3 xc2_4 xc2_5 gh=some (e,s)):runL pg q35 ⟨[(2,.ptr false 0 0),(5,v5),(6,.ptr false 1 0),(7,I x7),(8,I x8),(10,I x10),(12,v12),(16,I x16),(17,.ptr false 2 0)],[[vc0_0,vc0_1,vc0_2,vc0_3,vc0_4],[vc1_0,vc1_1,vc1_2,vc1_3,vc1_4],[I xc2_0,I xc2_1,I xc2_2,I xc2_3,I xc2_4,I xc2_5]],gh⟩=some (e,s):=
 jfl qd (Eq.trans (by kernel_rfl) h)
def q8s (pg:Prg) (v5:PV) (x7 x8 x10:Int) (v12:PV) (x16:Int) (vc0_0 vc0_1:PV) (vc0_2 vc0_3:PV) (vc0_4 vc1_0:PV) (vc1_1 vc1_2:PV) (vc1_3 vc1_4:PV) (xc2_0 xc2_1:Int) (xc2_2 xc2_3:Int) (xc2_4 xc2_5:Int) (gh:List GObj):DR:=
  callR gh true (callL pg 26 [I x10] gh) fun r1 gh2=>unI .i64 r1 fun n3=>stK 3 v5 (stK 3 v12 (
  br 184 (decide (2<n3)) (isC (degr v12) (
  idX 1 none (degr (degr v12)) 3 fun p4=>
  ldX [[vc0_0,vc0_1,vc0_2,vc0_3,vc0_4],[vc1_0,vc1_1,vc1_2,vc1_3,vc1_4],[I xc2_0,I xc2_1,I xc2_2,I xc2_3,I xc2_4,I xc2_5]] gh2 false 1 (degr p4) fun v6=>unI .i64 v6 fun n7=>stK 3 v5 (stK 3 v12 (stK 3 v5 (stK 3 v12 (
  kR (runL pg q35 ⟨[(2,.ptr false 0 0),(5,v5),(6,.ptr false 1 0),(7,I x7),(8,I x8),(10,I x10),(12,v12),(16,I x16),(17,.ptr false 2 0)],[[vc0_0,vc0_1,vc0_2,vc0_3,vc0_4],[vc1_0,vc1_1,vc1_2,vc1_3,vc1_4],[I xc2_0,I xc2_1,I xc2_2,I xc2_3,I n7,I xc2_5]],gh2⟩) (fun e s=>some (e,s)))))))) (stK 3 v5 (stK 3 v12 (
  kR (runL pg q35 ⟨[(2,.ptr false 0 0),(5,v5),(6,.ptr false 1 0),(7,I x7),(8,I x8),(10,I x10),(12,v12),(16,I x16),(17,.ptr false 2 0)],[[vc0_0,vc0_1,vc0_2,vc0_3,vc0_4],[vc1_0,vc1_1,vc1_2,vc1_3,vc1_4],[I xc2_0,I xc2_1,I xc2_2,I xc2_3,I xc2_4,I xc2_5]],gh2⟩) (fun e s=>some (e,s)))))))
theorem q8s_ {v5:PV} {x7 x8 x10:Int} {v12:PV} {x16:Int} {vc0_0 vc0_1:PV} {vc0_2 vc0_3:PV} {vc0_4 vc1_0:PV} {vc1_1 vc1_2:PV} {vc1_3 vc1_4:PV} {xc2_0 xc2_1:Int} {xc2_2 xc2_3:Int} {xc2_4 xc2_5:Int} (h:q8s pg v5 x7 x8 x10 v12 x16 vc0_0 vc0_1 vc0_2 vc0_3 vc0_4 vc1_0 vc1_1 vc1_2 vc1_3 vc1_4 xc2_0 xc2_1 xc2_2 xc2_3 xc2_4 xc2_5 gh=some (e,s)):runL pg q36 ⟨[(2,.ptr false 0 0),(5,v5),(6,.ptr false 1 0),(7,I x7),(8,I x8),(10,I x10),(12,v12),(16,I x16),(17,.ptr false 2 0)],[[vc0_0,vc0_1,vc0_2,vc0_3,vc0_4],[vc1_0,vc1_1,vc1_2,vc1_3,vc1_4],[I xc2_0,I xc2_1,I xc2_2,I xc2_3,I xc2_4,I xc2_5]],gh⟩=some (e,s):=
 jfl qd (Eq.trans (by kernel_rfl) h)
def q8t (pg:Prg) (v5:PV) (x7 x8 x10:Int) (v12:PV) (x16:Int) (vc0_0 vc0_1:PV) (vc0_2 vc0_3:PV) (vc0_4 vc1_0:PV) (vc1_1 vc1_2:PV) (vc1_3 vc1_4:PV) (xc2_0 xc2_1:Int) (xc2_2 xc2_3:Int) (xc2_4 xc2_5:Int) (gh:List GObj):DR:=
  callR gh true (callL pg 26 [I x10] gh) fun r1 gh2=>unI .i64 r1 fun n3=>stK 3 v5 (stK 3 v12 (
  br 177 (decide (1<n3)) (isC (degr v12) (
  idX 1 none (degr (degr v12)) 2 fun p4=>
  ldX [[vc0_0,vc0_1,vc0_2,vc0_3,vc0_4],[vc1_0,vc1_1,vc1_2,vc1_3,vc1_4],[I xc2_0,I xc2_1,I xc2_2,I xc2_3,I xc2_4,I xc2_5]] gh2 false 1 (degr p4) fun v6=>unI .i64 v6 fun n7=>stK 3 v5 (stK 3 v12 (stK 3 v5 (stK 3 v12 (
  kR (runL pg q36 ⟨[(2,.ptr false 0 0),(5,v5),(6,.ptr false 1 0),(7,I x7),(8,I x8),(10,I x10),(12,v12),(16,I x16),(17,.ptr false 2 0)],[[vc0_0,vc0_1,vc0_2,vc0_3,vc0_4],[vc1_0,vc1_1,vc1_2,vc1_3,vc1_4],[I xc2_0,I xc2_1,I xc2_2,I n7,I xc2_4,I xc2_5]],gh2⟩) (fun e s=>some (e,s)))))))) (stK 3 v5 (stK 3 v12 (
  kR (runL pg q36 ⟨[(2,.ptr false 0 0),(5,v5),(6,.ptr false 1 0),(7,I x7),(8,I x8),(10,I x10),(12,v12),(16,I x16),(17,.ptr false 2 0)],[[vc0_0,vc0_1,vc0_2,vc0_3,vc0_4],[vc1_0,vc1_1,vc1_2,vc1_3,vc1_4],[I xc2_0,I xc2_1,I xc2_2,I xc2_3,I xc2_4,I xc2_5]],gh2⟩) (fun e s=>some (e,s)))))))
theorem q8t_ {v5:PV} {x7 x8 x10:Int} {v12:PV} {x16:Int} {vc0_0 vc0_1:PV} {vc0_2 vc0_3:PV} {vc0_4 vc1_0:PV} {vc1_1 vc1_2:PV} {vc1_3 vc1_4:PV} {xc2_0 xc2_1:Int} {xc2_2 xc2_3:Int} {xc2_4 xc2_5:Int} (h:q8t pg v5 x7 x8 x10 v12 x16 vc0_0 vc0_1 vc0_2 vc0_3 vc0_4 vc1_0 vc1_1 vc1_2 vc1_3 vc1_4 xc2_0 xc2_1 xc2_2 xc2_3 xc2_4 xc2_5 gh=some (e,s)):runL pg q37 ⟨[(2,.ptr false 0 0),(5,v5),(6,.ptr false 1 0),(7,I x7),(8,I x8),(10,I x10),(12,v12),(16,I x16),(17,.ptr false 2 0)],[[vc0_0,vc0_1,vc0_2,vc0_3,vc0_4],[vc1_0,vc1_1,vc1_2,vc1_3,vc1_4],[I xc2_0,I xc2_1,I xc2_2,I xc2_3,I xc2_4,I xc2_5]],gh⟩=some (e,s):=
 jfl qd (Eq.trans (by kernel_rfl) h)
def qr (pg:Prg) (v5:PV) (x7 x8 x10:Int) (v12:PV) (b13:Bool) (x15 x16:Int) (vc0_0 vc0_1:PV) (vc0_2 vc0_3:PV) (vc0_4 vc1_0:PV) (vc1_1 vc1_2:PV) (vc1_3 vc1_4:PV) (gh:List GObj):DR:=
  br 145 (!b13) (stK 2 v5 (stK 2 v12 (some (.ret,⟨[(2,.ptr false 0 0),(3,(I (IntKind.i64.wrap (x8+1)))),(4,I 1)],[[.sl true 6 [],.sl true 2 [],.sl true 2 [],.sl true 1 [],.sl true 1 []]],gh⟩)))) (isC (degr v12) (lenS (degr (degr v12)) fun n1=>
  br 151 ((n1:Int) !=x16) (stK 2 v5 (stK 2 v12 (some (.ret,⟨[(2,.ptr false 0 0),(3,(I (IntKind.i64.wrap (x8+1)))),(4,I 1)],[[.sl true 6 [],.sl true 2 [],.sl true 2 [],.sl true 1 [],.sl true 1 []]],gh⟩)))) (stK 2 v5 (stK 2 v12 (
  br 155 (decide (x15<x7)) (some (.ret,⟨[(2,.ptr false 0 0),(3,(I (IntKind.i64.wrap (x8+1)))),(4,I 1)],[[.sl true 6 [],.sl true 2 [],.sl true 2 [],.sl true 1 [],.sl true 1 []]],gh⟩)) (stK 2 v5 (stK 2 v12 (stK 2 v5 (stK 2 v12 (stK 2 v5 (stK 2 v12 (
  br 161 (x15==0) (isC (degr v12) (
  idX 1 none (degr (degr v12)) 0 fun p2=>
  ldX [[vc0_0,vc0_1,vc0_2,vc0_3,vc0_4],[vc1_0,vc1_1,vc1_2,vc1_3,vc1_4]] gh false 1 (degr p2) fun v3=>unI .i64 v3 fun n4=>stK 3 v5 (stK 3 v12 (
  callR gh true (callL pg 26 [I x10] gh) fun r5 gh6=>unI .i64 r5 fun n7=>stK 3 v5 (stK 3 v12 (
  br 170 (decide (0<n7)) (isC (degr v12) (
  idX 1 none (degr (degr v12)) 1 fun p8=>
  ldX [[vc0_0,vc0_1,vc0_2,vc0_3,vc0_4],[vc1_0,vc1_1,vc1_2,vc1_3,vc1_4],[I x10,I n4,I 0,I 0,I 0,I 0]] gh6 false 1 (degr p8) fun v9=>unI .i64 v9 fun n10=>stK 3 v5 (stK 3 v12 (stK 3 v5 (stK 3 v12 (
  kR (runL pg q37 ⟨[(2,.ptr false 0 0),(5,v5),(6,.ptr false 1 0),(7,I x15),(8,I x8),(10,I x10),(12,v12),(16,I x16),(17,.ptr false 2 0)],[[vc0_0,vc0_1,vc0_2,vc0_3,vc0_4],[vc1_0,vc1_1,vc1_2,vc1_3,vc1_4],[I x10,I n4,I n10,I 0,I 0,I 0]],gh6⟩) (fun e s=>po [2,5,6,7,8] 2 e s (fun e s=>bk 7 e s (fun e s=>some (e,s)))))))))) (stK 3 v5 (stK 3 v12 (
  kR (runL pg q37 ⟨[(2,.ptr false 0 0),(5,v5),(6,.ptr false 1 0),(7,I x15),(8,I x8),(10,I x10),(12,v12),(16,I x16),(17,.ptr false 2 0)],[[vc0_0,vc0_1,vc0_2,vc0_3,vc0_4],[vc1_0,vc1_1,vc1_2,vc1_3,vc1_4],[I x10,I n4,I 0,I 0,I 0,I 0]],gh6⟩) (fun e s=>po [2,5,6,7,8] 2 e s (fun e s=>bk 7 e s (fun e s=>some (e,s))))))))))))) (stK 2 v5 (stK 2 v12 (
  br 207 (x15==1) (isC (degr v12) (
  idX 1 none (degr (degr v12)) 0 fun p11=>
  ldX [[vc0_0,vc0_1,vc0_2,vc0_3,vc0_4],[vc1_0,(degr1 vc1_1),vc1_2,vc1_3,vc1_4]] gh false 1 (degr p11) fun v13=>unI .i64 v13 fun n14=>isC (degr v12) (
  idX 1 none (degr (degr v12)) 1 fun p15=>
  ldX [[vc0_0,vc0_1,vc0_2,vc0_3,vc0_4],[vc1_0,(degr1 vc1_1),vc1_2,vc1_3,vc1_4]] gh false 1 (degr p15) fun v16=>unI .i64 v16 fun n17=>
  apX 2 16 vc1_1 (.sl false 2 [.agg [I n14,I n17]]) fun l18=>stK 2 v5 (stK 2 v5 (stK 2 v5 (some (.normal,⟨[(2,.ptr false 0 0),(5,v5),(6,.ptr false 1 0),(7,I x15),(8,I x8)],[[vc0_0,vc0_1,vc0_2,vc0_3,vc0_4],[vc1_0,.sl true 2 l18,vc1_2,vc1_3,vc1_4]],gh⟩))))))) (stK 2 v5 (stK 2 v12 (
  br 221 (x15==2) (isC (degr v12) (
  idX 1 none (degr (degr v12)) 0 fun p19=>
  ldX [[vc0_0,vc0_1,vc0_2,vc0_3,vc0_4],[vc1_0,vc1_1,(degr1 vc1_2),vc1_3,vc1_4]] gh false 1 (degr p19) fun v20=>unI .i64 v20 fun n21=>isC (degr v12) (
  idX 1 none (degr (degr v12)) 1 fun p22=>
  ldX [[vc0_0,vc0_1,vc0_2,vc0_3,vc0_4],[vc1_0,vc1_1,(degr1 vc1_2),vc1_3,vc1_4]] gh false 1 (degr p22) fun v23=>unI .i64 v23 fun n24=>
  apX 2 16 vc1_2 (.sl false 2 [.agg [I n21,I n24]]) fun l25=>stK 2 v5 (stK 2 v5 (stK 2 v5 (stK 2 v5 (some (.normal,⟨[(2,.ptr false 0 0),(5,v5),(6,.ptr false 1 0),(7,I x15),(8,I x8)],[[vc0_0,vc0_1,vc0_2,vc0_3,vc0_4],[vc1_0,vc1_1,.sl true 2 l25,vc1_3,vc1_4]],gh⟩)))))))) (stK 2 v5 (stK 2 v12 (
  br 235 (x15==3) (isC (degr v12) (
  idX 1 none (degr (degr v12)) 0 fun p26=>
  ldX [[vc0_0,vc0_1,vc0_2,vc0_3,vc0_4],[vc1_0,vc1_1,vc1_2,(degr1 vc1_3),vc1_4]] gh false 1 (degr p26) fun v27=>unI .i64 v27 fun n28=>
  apX 1 8 vc1_3 (.sl false 1 [I n28]) fun l29=>stK 2 v5 (stK 2 v5 (stK 2 v5 (stK 2 v5 (stK 2 v5 (some (.normal,⟨[(2,.ptr false 0 0),(5,v5),(6,.ptr false 1 0),(7,I x15),(8,I x8)],[[vc0_0,vc0_1,vc0_2,vc0_3,vc0_4],[vc1_0,vc1_1,vc1_2,.sl true 1 l29,vc1_4]],gh⟩)))))))) (stK 2 v5 (stK 2 v12 (
  br 245 (x15==4) (isC (degr v12) (
  idX 1 none (degr (degr v12)) 0 fun p30=>
  ldX [[vc0_0,vc0_1,vc0_2,vc0_3,vc0_4],[vc1_0,vc1_1,vc1_2,vc1_3,(degr1 vc1_4)]] gh false 1 (degr p30) fun v31=>unI .i64 v31 fun n32=>
  apX 1 8 vc1_4 (.sl false 1 [I n32]) fun l33=>stK 2 v5 (stK 2 v5 (stK 2 v5 (stK 2 v5 (stK 2 v5 (stK 2 v5 (some (.normal,⟨[(2,.ptr false 0 0),(5,v5),(6,.ptr false 1 0),(7,I x15),(8,I x8)],[[vc0_0,vc0_1,vc0_2,vc0_3,vc0_4],[vc1_0,vc1_1,vc1_2,vc1_3,.sl true 1 l33]],gh⟩))))))))) (stK 2 v5 (stK 2 v5 (stK 2 v5 (stK 2 v5 (stK 2 v5 (some (.normal,⟨[(2,.ptr false 0 0),(5,v5),(6,.ptr false 1 0),(7,I x15),(8,I x8)],[[vc0_0,vc0_1,vc0_2,vc0_3,vc0_4],[vc1_0,vc1_1,vc1_2,vc1_3,vc1_4]],gh⟩)))))))))))))))))))))))))))))))
theorem qr_ {v5:PV} {x7 x8 x10:Int} {v12:PV} {b13:Bool} {x15 x16:Int} {vc0_0 vc0_1:PV} {vc0_2 vc0_3:PV} {vc0_4 vc1_0:PV} {vc1_1 vc1_2:PV} {vc1_3 vc1_4:PV} (h:qr pg v5 x7 x8 x10 v12 b13 x15 x16 vc0_0 vc0_1 vc0_2 vc0_3 vc0_4 vc1_0 vc1_1 vc1_2 vc1_3 vc1_4 gh=some (e,s)):runL pg q1n ⟨[(2,.ptr false 0 0),(5,v5),(6,.ptr false 1 0),(7,I x7),(8,I x8),(10,I x10),(12,v12),(13,B b13),(15,I x15),(16,I x16)],[[vc0_0,vc0_1,vc0_2,vc0_3,vc0_4],[vc1_0,vc1_1,vc1_2,vc1_3,vc1_4]],gh⟩=some (e,s):=
 jfl qd (Eq.trans (by kernel_rfl) h)
def q3v (pg:Prg) (v5:PV) (x7 x8:Int) (v9:PV) (x10:Int) (v12:PV) (b13:Bool) (x15 x16:Int) (vc0_0 vc0_1:PV) (vc0_2 vc0_3:PV) (vc0_4 vc1_0:PV) (vc1_1 vc1_2:PV) (vc1_3 vc1_4:PV) (gh:List GObj):DR:=stK 2 v5 (stK 2 v9 (stK 2 v12 (
  br 116 (x15==0) (
  callR gh true (callL pg 26 [I x10] gh) fun r1 gh2=>unI .i64 r1 fun n3=>stK 2 v5 (stK 2 v9 (stK 2 v12 (
  br 122 (x10==1) (stK 2 v5 (stK 2 v9 (stK 2 v12 (stK 2 v5 (stK 2 v9 (stK 2 v12 (stK 2 v5 (stK 2 v9 (stK 2 v12 (
  kR (runL pg q1y ⟨[(2,.ptr false 0 0),(5,v5),(6,.ptr false 1 0),(7,I x7),(8,I x8),(9,v9),(10,I x10),(12,v12),(13,B b13),(15,I x15),(16,(I (IntKind.i64.wrap ((IntKind.i64.wrap (1+n3))+1))))],[[vc0_0,vc0_1,vc0_2,vc0_3,vc0_4],[vc1_0,vc1_1,vc1_2,vc1_3,vc1_4]],gh2⟩) (fun e s=>po [2,5,6,7,8,10,12,13,15,16] 2 e s (fun e s=>nx e s (fun e s=>some (e,s)) fun s=>kR (runL pg q1n s) (fun e s=>some (e,s)))))))))))))) (stK 2 v5 (stK 2 v9 (stK 2 v12 (
  br 125 (x10==21) (stK 2 v5 (stK 2 v9 (stK 2 v12 (stK 2 v5 (stK 2 v9 (stK 2 v12 (
  kR (runL pg q1y ⟨[(2,.ptr false 0 0),(5,v5),(6,.ptr false 1 0),(7,I x7),(8,I x8),(9,v9),(10,I x10),(12,v12),(13,B b13),(15,I x15),(16,(I (IntKind.i64.wrap ((IntKind.i64.wrap (1+n3))+1))))],[[vc0_0,vc0_1,vc0_2,vc0_3,vc0_4],[vc1_0,vc1_1,vc1_2,vc1_3,vc1_4]],gh2⟩) (fun e s=>po [2,5,6,7,8,10,12,13,15,16] 2 e s (fun e s=>nx e s (fun e s=>some (e,s)) fun s=>kR (runL pg q1n s) (fun e s=>some (e,s))))))))))) (stK 2 v5 (stK 2 v9 (stK 2 v12 (
  kR (runL pg q1y ⟨[(2,.ptr false 0 0),(5,v5),(6,.ptr false 1 0),(7,I x7),(8,I x8),(9,v9),(10,I x10),(12,v12),(13,B b13),(15,I x15),(16,(I (IntKind.i64.wrap (1+n3))))],[[vc0_0,vc0_1,vc0_2,vc0_3,vc0_4],[vc1_0,vc1_1,vc1_2,vc1_3,vc1_4]],gh2⟩) (fun e s=>po [2,5,6,7,8,10,12,13,15,16] 2 e s (fun e s=>nx e s (fun e s=>some (e,s)) fun s=>kR (runL pg q1n s) (fun e s=>some (e,s)))))))))))))))) (stK 2 v5 (stK 2 v12 (
  kR (runL pg q1n ⟨[(2,.ptr false 0 0),(5,v5),(6,.ptr false 1 0),(7,I x7),(8,I x8),(10,I x10),(12,v12),(13,B b13),(15,I x15),(16,I x16)],[[vc0_0,vc0_1,vc0_2,vc0_3,vc0_4],[vc1_0,vc1_1,vc1_2,vc1_3,vc1_4]],gh⟩) (fun e s=>some (e,s))))))))
theorem q3v_ {v5:PV} {x7 x8:Int} {v9:PV} {x10:Int} {v12:PV} {b13:Bool} {x15 x16:Int} {vc0_0 vc0_1:PV} {vc0_2 vc0_3:PV} {vc0_4 vc1_0:PV} {vc1_1 vc1_2:PV} {vc1_3 vc1_4:PV} (h:q3v pg v5 x7 x8 v9 x10 v12 b13 x15 x16 vc0_0 vc0_1 vc0_2 vc0_3 vc0_4 vc1_0 vc1_1 vc1_2 vc1_3 vc1_4 gh=some (e,s)):runL pg q38 ⟨[(2,.ptr false 0 0),(5,v5),(6,.ptr false 1 0),(7,I x7),(8,I x8),(9,v9),(10,I x10),(12,v12),(13,B b13),(15,I x15),(16,I x16)],[[vc0_0,vc0_1,vc0_2,vc0_3,vc0_4],[vc1_0,vc1_1,vc1_2,vc1_3,vc1_4]],gh⟩=some (e,s):=
 jfl qd (Eq.trans (by kernel_rfl) h)
def q8u (pg:Prg) (v5:PV) (x7 x8:Int) (v9:PV) (x10:Int) (v12:PV) (b13:Bool) (x15:Int) (vc0_0 vc0_1:PV) (vc0_2 vc0_3:PV) (vc0_4 vc1_0:PV) (vc1_1 vc1_2:PV) (vc1_3 vc1_4:PV) (gh:List GObj):DR:=stK 2 v5 (stK 2 v9 (stK 2 v12 (
  br 114 (decide (2<x15)) (stK 2 v5 (stK 2 v9 (stK 2 v12 (stK 2 v5 (stK 2 v9 (stK 2 v12 (
  kR (runL pg q38 ⟨[(2,.ptr false 0 0),(5,v5),(6,.ptr false 1 0),(7,I x7),(8,I x8),(9,v9),(10,I x10),(12,v12),(13,B b13),(15,I x15),(16,I 1)],[[vc0_0,vc0_1,vc0_2,vc0_3,vc0_4],[vc1_0,vc1_1,vc1_2,vc1_3,vc1_4]],gh⟩) (fun e s=>some (e,s))))))))) (stK 2 v5 (stK 2 v9 (stK 2 v12 (
  kR (runL pg q38 ⟨[(2,.ptr false 0 0),(5,v5),(6,.ptr false 1 0),(7,I x7),(8,I x8),(9,v9),(10,I x10),(12,v12),(13,B b13),(15,I x15),(16,I 2)],[[vc0_0,vc0_1,vc0_2,vc0_3,vc0_4],[vc1_0,vc1_1,vc1_2,vc1_3,vc1_4]],gh⟩) (fun e s=>some (e,s)))))))))
theorem q8u_ {v5:PV} {x7 x8:Int} {v9:PV} {x10:Int} {v12:PV} {b13:Bool} {x15:Int} {vc0_0 vc0_1:PV} {vc0_2 vc0_3:PV} {vc0_4 vc1_0:PV} {vc1_1 vc1_2:PV} {vc1_3 vc1_4:PV} (h:q8u pg v5 x7 x8 v9 x10 v12 b13 x15 vc0_0 vc0_1 vc0_2 vc0_3 vc0_4 vc1_0 vc1_1 vc1_2 vc1_3 vc1_4 gh=some (e,s)):runL pg q1a ⟨[(2,.ptr false 0 0),(5,v5),(6,.ptr false 1 0),(7,I x7),(8,I x8),(9,v9),(10,I x10),(12,v12),(13,B b13),(15,I x15)],[[vc0_0,vc0_1,vc0_2,vc0_3,vc0_4],[vc1_0,vc1_1,vc1_2,vc1_3,vc1_4]],gh⟩=some (e,s):=
 jfl qd (Eq.trans (by kernel_rfl) h)
def qd9 (pg:Prg) (v5:PV) (x7 x8:Int) (v9:PV) (x10:Int) (v12:PV) (b13:Bool) (vc0_0 vc0_1:PV) (vc0_2 vc0_3:PV) (vc0_4 vc1_0:PV) (vc1_1 vc1_2:PV) (vc1_3 vc1_4:PV) (gh:List GObj):DR:=isC (degr v9) (
  idX 1 none (degr (degr v9)) 0 fun p1=>
  ldX [[vc0_0,vc0_1,vc0_2,vc0_3,vc0_4],[vc1_0,vc1_1,vc1_2,vc1_3,vc1_4]] gh false 1 (degr p1) fun v2=>unS v2 fun s3=>stK 2 v5 (stK 2 v9 (stK 2 v12 (stK 2 v5 (stK 2 v9 (stK 2 v12 (
  br 105 (ByteArray.toList s3==ByteArray.toList (⟨#[105,110,105,116]⟩:ByteArray)) (stK 2 v5 (stK 2 v9 (stK 2 v12 (stK 2 v5 (stK 2 v9 (stK 2 v12 (
  kR (runL pg q1a ⟨[(2,.ptr false 0 0),(5,v5),(6,.ptr false 1 0),(7,I x7),(8,I x8),(9,v9),(10,I x10),(12,v12),(13,B b13),(15,I 1)],[[vc0_0,vc0_1,vc0_2,vc0_3,vc0_4],[vc1_0,vc1_1,vc1_2,vc1_3,vc1_4]],gh⟩) (fun e s=>some (e,s))))))))) (stK 2 v5 (stK 2 v9 (stK 2 v12 (
  br 107 (ByteArray.toList s3==ByteArray.toList (⟨#[110,101,120,116]⟩:ByteArray)) (stK 2 v5 (stK 2 v9 (stK 2 v12 (stK 2 v5 (stK 2 v9 (stK 2 v12 (stK 2 v5 (stK 2 v9 (stK 2 v12 (
  kR (runL pg q1a ⟨[(2,.ptr false 0 0),(5,v5),(6,.ptr false 1 0),(7,I x7),(8,I x8),(9,v9),(10,I x10),(12,v12),(13,B b13),(15,I 2)],[[vc0_0,vc0_1,vc0_2,vc0_3,vc0_4],[vc1_0,vc1_1,vc1_2,vc1_3,vc1_4]],gh⟩) (fun e s=>some (e,s)))))))))))) (stK 2 v5 (stK 2 v9 (stK 2 v12 (
  br 109 (ByteArray.toList s3==ByteArray.toList (⟨#[98,97,100]⟩:ByteArray)) (stK 2 v5 (stK 2 v9 (stK 2 v12 (stK 2 v5 (stK 2 v9 (stK 2 v12 (stK 2 v5 (stK 2 v9 (stK 2 v12 (stK 2 v5 (stK 2 v9 (stK 2 v12 (
  kR (runL pg q1a ⟨[(2,.ptr false 0 0),(5,v5),(6,.ptr false 1 0),(7,I x7),(8,I x8),(9,v9),(10,I x10),(12,v12),(13,B b13),(15,I 3)],[[vc0_0,vc0_1,vc0_2,vc0_3,vc0_4],[vc1_0,vc1_1,vc1_2,vc1_3,vc1_4]],gh⟩) (fun e s=>some (e,s))))))))))))))) (stK 2 v5 (stK 2 v9 (stK 2 v12 (
  br 111 (ByteArray.toList s3==ByteArray.toList (⟨#[104,111,108,100]⟩:ByteArray)) (stK 2 v5 (stK 2 v9 (stK 2 v12 (stK 2 v5 (stK 2 v9 (stK 2 v12 (stK 2 v5 (stK 2 v9 (stK 2 v12 (stK 2 v5 (stK 2 v9 (stK 2 v12 (stK 2 v5 (stK 2 v9 (stK 2 v12 (
  kR (runL pg q1a ⟨[(2,.ptr false 0 0),(5,v5),(6,.ptr false 1 0),(7,I x7),(8,I x8),(9,v9),(10,I x10),(12,v12),(13,B b13),(15,I 4)],[[vc0_0,vc0_1,vc0_2,vc0_3,vc0_4],[vc1_0,vc1_1,vc1_2,vc1_3,vc1_4]],gh⟩) (fun e s=>some (e,s)))))))))))))))))) (stK 2 v5 (stK 2 v9 (stK 2 v12 (stK 2 v5 (stK 2 v9 (stK 2 v12 (stK 2 v5 (stK 2 v9 (stK 2 v12 (stK 2 v5 (stK 2 v9 (stK 2 v12 (
  kR (runL pg q1a ⟨[(2,.ptr false 0 0),(5,v5),(6,.ptr false 1 0),(7,I x7),(8,I x8),(9,v9),(10,I x10),(12,v12),(13,B b13),(15,I 0)],[[vc0_0,vc0_1,vc0_2,vc0_3,vc0_4],[vc1_0,vc1_1,vc1_2,vc1_3,vc1_4]],gh⟩) (fun e s=>some (e,s))))))))))))))))))))))))))))))))))
theorem qd9_ {v5:PV} {x7 x8:Int} {v9:PV} {x10:Int} {v12:PV} {b13:Bool} {vc0_0 vc0_1:PV} {vc0_2 vc0_3:PV} {vc0_4 vc1_0:PV} {vc1_1 vc1_2:PV} {vc1_3 vc1_4:PV} (h:qd9 pg v5 x7 x8 v9 x10 v12 b13 vc0_0 vc0_1 vc0_2 vc0_3 vc0_4 vc1_0 vc1_1 vc1_2 vc1_3 vc1_4 gh=some (e,s)):runL pg q4a ⟨[(2,.ptr false 0 0),(5,v5),(6,.ptr false 1 0),(7,I x7),(8,I x8),(9,v9),(10,I x10),(12,v12),(13,B b13)],[[vc0_0,vc0_1,vc0_2,vc0_3,vc0_4],[vc1_0,vc1_1,vc1_2,vc1_3,vc1_4]],gh⟩=some (e,s):=
 jfl qd (Eq.trans (by kernel_rfl) h)
def qda (pg:Prg) (v5:PV) (x7 x8:Int) (v9:PV) (x10:Int) (vc0_0 vc0_1:PV) (vc0_2 vc0_3:PV) (vc0_4 vc1_0:PV) (vc1_1 vc1_2:PV) (vc1_3 vc1_4:PV) (gh:List GObj):DR:=stK 2 v5 (stK 2 v9 (
  kR (runL pg q34 ⟨[(2,.ptr false 0 0),(5,v5),(6,.ptr false 1 0),(7,I x7),(8,I x8),(9,v9),(10,I x10),(12,.sl true 1 []),(13,B true),(14,I 1)],[[vc0_0,vc0_1,vc0_2,vc0_3,vc0_4],[vc1_0,vc1_1,vc1_2,vc1_3,vc1_4]],gh⟩) (fun e s=>nx e s (fun e s=>some (e,s)) fun s=>kR (runL pg q4a s) (fun e s=>some (e,s)))))
theorem qda_ {v5:PV} {x7 x8:Int} {v9:PV} {x10:Int} {vc0_0 vc0_1:PV} {vc0_2 vc0_3:PV} {vc0_4 vc1_0:PV} {vc1_1 vc1_2:PV} {vc1_3 vc1_4:PV} (h:qda pg v5 x7 x8 v9 x10 vc0_0 vc0_1 vc0_2 vc0_3 vc0_4 vc1_0 vc1_1 vc1_2 vc1_3 vc1_4 gh=some (e,s)):runL pg q4b ⟨[(2,.ptr false 0 0),(5,v5),(6,.ptr false 1 0),(7,I x7),(8,I x8),(9,v9),(10,I x10)],[[vc0_0,vc0_1,vc0_2,vc0_3,vc0_4],[vc1_0,vc1_1,vc1_2,vc1_3,vc1_4]],gh⟩=some (e,s):=
 jfl qd (Eq.trans (by kernel_rfl) h)
def qdb (pg:Prg) (v5:PV) (x7 x8:Int) (vc0_0 vc0_1:PV) (vc0_2 vc0_3:PV) (vc0_4 vc1_0:PV) (vc1_1 vc1_2:PV) (vc1_3 vc1_4:PV) (gh:List GObj):DR:=stK 2 v5 (some (.normal,⟨[(2,.ptr false 0 0),(5,v5),(6,.ptr false 1 0),(7,I x7),(8,(I (IntKind.i64.wrap (x8+1))))],[[vc0_0,vc0_1,vc0_2,vc0_3,vc0_4],[vc1_0,vc1_1,vc1_2,vc1_3,vc1_4]],gh⟩))
theorem qdb_ {v5:PV} {x7 x8:Int} {vc0_0 vc0_1:PV} {vc0_2 vc0_3:PV} {vc0_4 vc1_0:PV} {vc1_1 vc1_2:PV} {vc1_3 vc1_4:PV} (h:qdb pg v5 x7 x8 vc0_0 vc0_1 vc0_2 vc0_3 vc0_4 vc1_0 vc1_1 vc1_2 vc1_3 vc1_4 gh=some (e,s)):runL pg q39 ⟨[(2,.ptr false 0 0),(5,v5),(6,.ptr false 1 0),(7,I x7),(8,I x8)],[[vc0_0,vc0_1,vc0_2,vc0_3,vc0_4],[vc1_0,vc1_1,vc1_2,vc1_3,vc1_4]],gh⟩=some (e,s):=
 jfl qd (Eq.trans (by kernel_rfl) h)
def q58 (pg:Prg) (v5:PV) (x7 x8:Int) (vc0_0 vc0_1:PV) (vc0_2 vc0_3:PV) (vc0_4 vc1_0:PV) (vc1_1 vc1_2:PV) (vc1_3 vc1_4:PV) (gh:List GObj):DR:=isC (degr v5) (lenS (degr (degr v5)) fun n1=>stK 2 v5 (
  br 29 (decide (x8<(IntKind.i64.wrap ((n1:Int)-1)))) (isC (degr v5) (
  idX 1 none (degr (degr v5)) x8 fun p2=>
  ldX [[vc0_0,vc0_1,vc0_2,vc0_3,vc0_4],[vc1_0,vc1_1,vc1_2,vc1_3,vc1_4]] gh false 1 (degr p2) fun v3=>unS v3 fun s4=>
  callR gh true (callL pg 380 [.str s4,.int .u8 32] gh) fun r5 gh6=>isC r5 (stK 2 v5 (stK 2 r5 (stK 2 v5 (stK 2 r5 (
  kR (runL pg q33 ⟨[(2,.ptr false 0 0),(5,v5),(6,.ptr false 1 0),(7,I x7),(8,I x8),(9,r5),(10,I 0),(11,I 1)],[[vc0_0,vc0_1,vc0_2,vc0_3,vc0_4],[vc1_0,vc1_1,vc1_2,vc1_3,vc1_4]],gh6⟩) (fun e s=>nx e s (fun e s=>bk 1 e s (fun e s=>nx e s (fun e s=>po [2,5,6,7,8] 2 e s (fun e s=>some (e,s))) fun s=>kR (runL pg q39 s) (fun e s=>po [2,5,6,7,8] 2 e s (fun e s=>some (e,s))))) fun s=>kR (runL pg q4b s) (fun e s=>bk 1 e s (fun e s=>nx e s (fun e s=>po [2,5,6,7,8] 2 e s (fun e s=>some (e,s))) fun s=>kR (runL pg q39 s) (fun e s=>po [2,5,6,7,8] 2 e s (fun e s=>some (e,s))))))))))))) (some ((.exit 0),⟨[(2,.ptr false 0 0),(5,v5),(6,.ptr false 1 0),(7,I x7),(8,I x8),(29,(B (decide (x8<(IntKind.i64.wrap ((n1:Int)-1))))))],[[vc0_0,vc0_1,vc0_2,vc0_3,vc0_4],[vc1_0,vc1_1,vc1_2,vc1_3,vc1_4]],gh⟩))))
theorem q58_ {v5:PV} {x7 x8:Int} {vc0_0 vc0_1:PV} {vc0_2 vc0_3:PV} {vc0_4 vc1_0:PV} {vc1_1 vc1_2:PV} {vc1_3 vc1_4:PV} (h:q58 pg v5 x7 x8 vc0_0 vc0_1 vc0_2 vc0_3 vc0_4 vc1_0 vc1_1 vc1_2 vc1_3 vc1_4 gh=some (e,s)):runL pg q7a ⟨[(2,.ptr false 0 0),(5,v5),(6,.ptr false 1 0),(7,I x7),(8,I x8)],[[vc0_0,vc0_1,vc0_2,vc0_3,vc0_4],[vc1_0,vc1_1,vc1_2,vc1_3,vc1_4]],gh⟩=some (e,s):=
 jfl qd (Eq.trans (by kernel_rfl) h)
def q59 (pg:Prg) (v5 vc0_0:PV) (vc0_1 vc0_2:PV) (vc0_3 vc0_4:PV) (vc1_0 vc1_1:PV) (vc1_2 vc1_3 vc1_4:PV) (gh:List GObj):DR:=isC (degr v5) (isC (degr v5) (lenS (degr (degr v5)) fun n1=>
  idX 1 none (degr (degr v5)) (IntKind.i64.wrap ((n1:Int)-1)) fun p2=>
  ldX [[vc0_0,vc0_1,vc0_2,vc0_3,vc0_4],[vc1_0,vc1_1,vc1_2,vc1_3,vc1_4]] gh false 1 (degr p2) fun v3=>unS v3 fun s4=>stK 2 v5 (
  br 261 (!(ByteArray.toList s4==ByteArray.toList ByteArray.empty)) (isC (degr v5) (lenS (degr (degr v5)) fun n5=>some (.ret,⟨[(2,.ptr false 0 0),(3,(I (n5:Int))),(4,I 1)],[[.sl true 6 [],.sl true 2 [],.sl true 2 [],.sl true 1 [],.sl true 1 []]],gh⟩))) (onK (degr1 (degr1 vc1_0)) (onK (degr1 (degr1 vc1_1)) (onK (degr1 (degr1 vc1_2)) (onK (degr1 (degr1 vc1_3)) (onK (degr1 (degr1 vc1_4)) (
  callR gh true (callL pg 36 [(.agg [(degr1 (degr1 vc1_0)),(degr1 (degr1 vc1_1)),(degr1 (degr1 vc1_2)),(degr1 (degr1 vc1_3)),(degr1 (degr1 vc1_4))])] gh) fun r6 gh7=>unI .i64 r6 fun n8=>
  br 268 (n8 !=0) (some (.ret,⟨[(2,.ptr false 0 0),(3,I 0),(4,I n8)],[[.sl true 6 [],.sl true 2 [],.sl true 2 [],.sl true 1 [],.sl true 1 []]],gh7⟩)) (onK (degr1 vc1_0) (onK (degr1 vc1_1) (onK (degr1 vc1_2) (onK (degr1 vc1_3) (onK (degr1 vc1_4) (some (.ret,⟨[(2,.ptr false 0 0),(3,I 0),(4,I 0)],[[(degr1 vc1_0),(degr1 vc1_1),(degr1 vc1_2),(degr1 vc1_3),(degr1 vc1_4)]],gh7⟩))))))))))))))))
theorem q59_ {v5 vc0_0:PV} {vc0_1 vc0_2:PV} {vc0_3 vc0_4:PV} {vc1_0 vc1_1:PV} {vc1_2 vc1_3 vc1_4:PV} (h:q59 pg v5 vc0_0 vc0_1 vc0_2 vc0_3 vc0_4 vc1_0 vc1_1 vc1_2 vc1_3 vc1_4 gh=some (e,s)):runL pg q22 ⟨[(2,.ptr false 0 0),(5,v5),(6,.ptr false 1 0)],[[vc0_0,vc0_1,vc0_2,vc0_3,vc0_4],[vc1_0,vc1_1,vc1_2,vc1_3,vc1_4]],gh⟩=some (e,s):=
 jfl qd (Eq.trans (by kernel_rfl) h)
def q2d (pg:Prg) (s0:ByteArray) (gh:List GObj):DR:=
  br 21 (decide (10000<((ByteArray.size s0:Nat):Int))) (some (.ret,⟨[(2,.ptr false 0 0),(3,I 0),(4,I 2)],[[.sl true 6 [],.sl true 2 [],.sl true 2 [],.sl true 1 [],.sl true 1 []]],gh⟩)) (
  callR gh true (callL pg 380 [.str s0,.int .u8 10] gh) fun r2 gh3=>isC r2 (stK 1 r2 (stK 2 r2 (
  kR (runL pg q4c ⟨[(2,.ptr false 0 0),(5,r2),(6,.ptr false 1 0),(7,I 0),(8,I 0)],[[.sl true 6 [],.sl true 2 [],.sl true 2 [],.sl true 1 [],.sl true 1 []],[.sl true 6 [],.sl true 2 [],.sl true 2 [],.sl true 1 [],.sl true 1 []]],gh3⟩) (fun e s=>nx e s (fun e s=>some (e,s)) fun s=>kR (runL pg q22 s) (fun e s=>some (e,s)))))))
theorem q2d_ {s0:ByteArray} (h:q2d pg s0 gh=some (e,s)):runL pg qax ⟨[(0,.str s0)],[],gh⟩=some (e,s):=
 jfl qd (Eq.trans (by kernel_rfl) h)
end
end Go.Lw
end

/-! What the code of function ref_Nodes comes to, piece by piece. Written by program (dprint.py). -/
section
set_option maxRecDepth 10000
set_option maxHeartbeats 4000000
namespace Go.Lw
open Go
noncomputable section
variable {pg:Prg} {gh:List GObj} {e:IExit} {s:St}
def q5a:Tr:=(tI 13 (tI 7 (tO 4 (tI 1 (.node 0 (.agg [.any,.any,.any,.any,.any]) .nil .nil) .nil) (tI 6 (uO 5) .nil)) (tB 11 (tI 10 (uO 9) .nil) (uI 12))) (tO 22 (tI 19 (tI 16 (uO 15) .nil) (tB 21 (uI 20) .nil)) (tO 25 (tO 24 (uI 23) .nil) (uO 26))))
def qdc (pg:Prg) (x1:Int) (v5:PV) (x6:Int) (vc0_0 vc0_1:PV) (vc0_2 vc0_3 vc0_4:PV) (gh:List GObj):DR:=stK 1 v5 (some (.normal,⟨[(1,I x1),(2,.ptr false 0 0),(5,v5),(6,(I (IntKind.i64.wrap (x6+1))))],[[vc0_0,vc0_1,vc0_2,vc0_3,vc0_4]],gh⟩))
theorem qdc_ {x1:Int} {v5:PV} {x6:Int} {vc0_0 vc0_1:PV} {vc0_2 vc0_3 vc0_4:PV} (h:qdc pg x1 v5 x6 vc0_0 vc0_1 vc0_2 vc0_3 vc0_4 gh=some (e,s)):runL pg q2w ⟨[(1,I x1),(2,.ptr false 0 0),(5,v5),(6,I x6)],[[vc0_0,vc0_1,vc0_2,vc0_3,vc0_4]],gh⟩=some (e,s):=
 jfl q5a (Eq.trans (by kernel_rfl) h)
def q5b (pg:Prg) (x1:Int) (v5:PV) (x6:Int) (vc0_0 vc0_1:PV) (vc0_2 vc0_3 vc0_4:PV) (gh:List GObj):DR:=isC (degr vc0_0) (lenS (degr (degr vc0_0)) fun n1=>stK 1 v5 (
  br 11 (decide (x6<(n1:Int))) (isC (degr vc0_0) (
  idX 6 none (degr (degr vc0_0)) x6 fun p2=>faX (degr p2) 0 fun p3=>
  ldX [[vc0_0,vc0_1,vc0_2,vc0_3,vc0_4]] gh false 1 (degr p3) fun v4=>unI .i64 v4 fun n5=>stK 1 v5 (
  br 21 (n5==x1) (
  apX 1 8 v5 (.sl false 1 [I x6]) fun l6=>
  kR (runL pg q2w ⟨[(1,I x1),(2,.ptr false 0 0),(5,.sl true 1 l6),(6,I x6)],[[vc0_0,vc0_1,vc0_2,vc0_3,vc0_4]],gh⟩) (fun e s=>po [1,2,5,6] 1 e s (fun e s=>some (e,s)))) (stK 1 v5 (
  kR (runL pg q2w ⟨[(1,I x1),(2,.ptr false 0 0),(5,v5),(6,I x6)],[[vc0_0,vc0_1,vc0_2,vc0_3,vc0_4]],gh⟩) (fun e s=>po [1,2,5,6] 1 e s (fun e s=>some (e,s)))))))) (some ((.exit 0),⟨[(1,I x1),(2,.ptr false 0 0),(5,v5),(6,I x6),(11,(B (decide (x6<(n1:Int)))))],[[vc0_0,vc0_1,vc0_2,vc0_3,vc0_4]],gh⟩))))
theorem q5b_ {x1:Int} {v5:PV} {x6:Int} {vc0_0 vc0_1:PV} {vc0_2 vc0_3 vc0_4:PV} (h:q5b pg x1 v5 x6 vc0_0 vc0_1 vc0_2 vc0_3 vc0_4 gh=some (e,s)):runL pg qaf ⟨[(1,I x1),(2,.ptr false 0 0),(5,v5),(6,I x6)],[[vc0_0,vc0_1,vc0_2,vc0_3,vc0_4]],gh⟩=some (e,s):=
 jfl q5a (Eq.trans (by kernel_rfl) h)
def qdd (pg:Prg) (v5:PV) (gh:List GObj):DR:=isC (degr v5) (stK 0 (degr v5) (some (.ret,⟨[(4,(degr v5))],[],gh⟩)))
theorem qdd_ {v5:PV} (h:qdd pg v5 gh=some (e,s)):runL pg q6t ⟨[(5,v5)],[],gh⟩=some (e,s):=
 jfl q5a (Eq.trans (by kernel_rfl) h)
def qde (pg:Prg) (v0_0 v0_1:PV) (v0_2 v0_3 v0_4:PV) (x1:Int) (gh:List GObj):DR:=onK (degr1 v0_0) (onK (degr1 v0_1) (onK (degr1 v0_2) (onK (degr1 v0_3) (onK (degr1 v0_4) (
  kR (runL pg q6s ⟨[(1,I x1),(2,.ptr false 0 0),(5,.sl true 1 []),(6,I 0)],[[(degr1 v0_0),(degr1 v0_1),(degr1 v0_2),(degr1 v0_3),(degr1 v0_4)]],gh⟩) (fun e s=>nx e s (fun e s=>some (e,s)) fun s=>kR (runL pg q6t s) (fun e s=>some (e,s))))))))
theorem qde_ {v0_0 v0_1:PV} {v0_2 v0_3 v0_4:PV} {x1:Int} (h:qde pg v0_0 v0_1 v0_2 v0_3 v0_4 x1 gh=some (e,s)):runL pg qag ⟨[(0,.agg [v0_0,v0_1,v0_2,v0_3,v0_4]),(1,I x1)],[],gh⟩=some (e,s):=
 jfl q5a (Eq.trans (by kernel_rfl) h)
end
end Go.Lw
end

/-! What the code of function ref_Bits comes to, piece by piece. Written by program (dprint.py). -/
section
set_option maxRecDepth 10000
set_option maxHeartbeats 4000000
namespace Go.Lw
open Go
noncomputable section
variable {pg:Prg} {gh:List GObj} {e:IExit} {s:St}
def q5c:Tr:=(tO 15 (tI 7 (tI 4 (tI 1 (.node 0 (.agg [.any,.any,.any,.any,.any]) .nil .nil) .nil) (tI 6 (uI 5) .nil)) (tB 11 (tI 10 (uO 9) .nil) (tI 13 (uI 12) .nil))) (tO 24 (tI 20 (tI 19 (uI 16) .nil) (tI 22 (uB 21) .nil)) (tI 29 (tI 28 (uI 25) .nil) (uI 30))))
def qdf (pg:Prg) (x1 x5 x6:Int) (vc0_0 vc0_1:PV) (vc0_2 vc0_3 vc0_4:PV) (gh:List GObj):DR:=some (.normal,⟨[(1,I x1),(2,.ptr false 0 0),(5,I x5),(6,(I (IntKind.i64.wrap (x6+1))))],[[vc0_0,vc0_1,vc0_2,vc0_3,vc0_4]],gh⟩)
theorem qdf_ {x1 x5 x6:Int} {vc0_0 vc0_1:PV} {vc0_2 vc0_3 vc0_4:PV} (h:qdf pg x1 x5 x6 vc0_0 vc0_1 vc0_2 vc0_3 vc0_4 gh=some (e,s)):runL pg q2y ⟨[(1,I x1),(2,.ptr false 0 0),(5,I x5),(6,I x6)],[[vc0_0,vc0_1,vc0_2,vc0_3,vc0_4]],gh⟩=some (e,s):=
 jfl q5c (Eq.trans (by kernel_rfl) h)
def q5d (pg:Prg) (x1 x5 x6:Int) (vc0_0 vc0_1:PV) (vc0_2 vc0_3 vc0_4:PV) (gh:List GObj):DR:=isC (degr vc0_0) (lenS (degr (degr vc0_0)) fun n1=>
  br 11 (decide (x6<(n1:Int))) (isC (degr vc0_0) (
  idX 6 none (degr (degr vc0_0)) x6 fun p2=>faX (degr p2) 0 fun p3=>
  ldX [[vc0_0,vc0_1,vc0_2,vc0_3,vc0_4]] gh false 1 (degr p3) fun v4=>unI .i64 v4 fun n5=>
  br 21 (n5==x1) (isC (degr vc0_0) (
  idX 6 none (degr (degr vc0_0)) x6 fun p6=>faX (degr p6) 1 fun p7=>
  ldX [[vc0_0,vc0_1,vc0_2,vc0_3,vc0_4]] gh false 1 (degr p7) fun v8=>unI .i64 v8 fun n9=>
  kR (runL pg q2y ⟨[(1,I x1),(2,.ptr false 0 0),(5,(I (IntKind.i64.wrap (x5+n9)))),(6,I x6)],[[vc0_0,vc0_1,vc0_2,vc0_3,vc0_4]],gh⟩) (fun e s=>po [1,2,5,6] 1 e s (fun e s=>some (e,s))))) (
  kR (runL pg q2y ⟨[(1,I x1),(2,.ptr false 0 0),(5,I x5),(6,I x6)],[[vc0_0,vc0_1,vc0_2,vc0_3,vc0_4]],gh⟩) (fun e s=>po [1,2,5,6] 1 e s (fun e s=>some (e,s)))))) (some ((.exit 0),⟨[(1,I x1),(2,.ptr false 0 0),(5,I x5),(6,I x6),(11,(B (decide (x6<(n1:Int)))))],[[vc0_0,vc0_1,vc0_2,vc0_3,vc0_4]],gh⟩)))
theorem q5d_ {x1 x5 x6:Int} {vc0_0 vc0_1:PV} {vc0_2 vc0_3 vc0_4:PV} (h:q5d pg x1 x5 x6 vc0_0 vc0_1 vc0_2 vc0_3 vc0_4 gh=some (e,s)):runL pg qam ⟨[(1,I x1),(2,.ptr false 0 0),(5,I x5),(6,I x6)],[[vc0_0,vc0_1,vc0_2,vc0_3,vc0_4]],gh⟩=some (e,s):=
 jfl q5c (Eq.trans (by kernel_rfl) h)
def qff (pg:Prg) (x5:Int) (gh:List GObj):DR:=some (.ret,⟨[(4,I x5)],[],gh⟩)
theorem qff_ {x5:Int} (h:qff pg x5 gh=some (e,s)):runL pg q70 ⟨[(5,I x5)],[],gh⟩=some (e,s):=
 jfl q5c (Eq.trans (by kernel_rfl) h)
def qdg (pg:Prg) (v0_0 v0_1:PV) (v0_2 v0_3 v0_4:PV) (x1:Int) (gh:List GObj):DR:=onK (degr1 v0_0) (onK (degr1 v0_1) (onK (degr1 v0_2) (onK (degr1 v0_3) (onK (degr1 v0_4) (
  kR (runL pg q6z ⟨[(1,I x1),(2,.ptr false 0 0),(5,I 0),(6,I 0)],[[(degr1 v0_0),(degr1 v0_1),(degr1 v0_2),(degr1 v0_3),(degr1 v0_4)]],gh⟩) (fun e s=>nx e s (fun e s=>some (e,s)) fun s=>kR (runL pg q70 s) (fun e s=>some (e,s))))))))
theorem qdg_ {v0_0 v0_1:PV} {v0_2 v0_3 v0_4:PV} {x1:Int} (h:qdg pg v0_0 v0_1 v0_2 v0_3 v0_4 x1 gh=some (e,s)):runL pg qan ⟨[(0,.agg [v0_0,v0_1,v0_2,v0_3,v0_4]),(1,I x1)],[],gh⟩=some (e,s):=
 jfl q5c (Eq.trans (by kernel_rfl) h)
end
end Go.Lw
end

/-! What the code of function ref_hangs comes to, piece by piece. Written by program (dprint.py). -/
section
set_option maxRecDepth 10000
set_option maxHeartbeats 4000000
namespace Go.Lw
open Go
noncomputable section
variable {pg:Prg} {gh:List GObj} {e:IExit} {s:St}
def q1r:Tr:=(tI 35 (.node 18 (.agg [.int .i64,.int .i64,.int .i64,.int .i64,.int .i64,.int .i64]) (tO 9 (tI 4 (tO 2 (.node 0 (.agg [.any,.any,.any,.any,.any]) .nil .nil) (uO 3)) (tI 7 (uB 6) .nil)) (tI 13 (tB 11 (uI 10) (uI 12)) (tI 16 (uO 15) .nil))) (tI 28 (tI 24 (tB 21 (uI 20) (uB 22)) (tB 26 (uB 25) .nil)) (tB 31 (tB 30 (uI 29) .nil) (tO 33 (uB 32) .nil)))) (tI 53 (tB 44 (tI 41 (tB 38 (uB 37) (uI 40)) (tB 43 (uB 42) .nil)) (tB 49 (tI 47 (uO 45) .nil) (tI 52 (uB 50) .nil))) (tB 62 (tO 57 (tB 55 (uB 54) (uB 56)) (tB 61 (uI 59) .nil)) (tO 65 (tB 64 (uO 63) .nil) (tO 67 (uO 66) .nil)))))
def qdh (pg:Prg) (v3:PV) (x4:Int) (b6:Bool) (vc0_0 vc0_1:PV) (vc0_2 vc0_3 vc0_4:PV) (gh:List GObj):DR:=
  apX 1 1 v3 (.sl false 1 [B b6]) fun l1=>some (.normal,⟨[(1,.ptr false 0 0),(3,.sl true 1 l1),(4,I x4)],[[vc0_0,vc0_1,vc0_2,vc0_3,vc0_4]],gh⟩)
theorem qdh_ {v3:PV} {x4:Int} {b6:Bool} {vc0_0 vc0_1:PV} {vc0_2 vc0_3 vc0_4:PV} (h:qdh pg v3 x4 b6 vc0_0 vc0_1 vc0_2 vc0_3 vc0_4 gh=some (e,s)):runL pg q1w ⟨[(1,.ptr false 0 0),(3,v3),(4,I x4),(6,B b6)],[[vc0_0,vc0_1,vc0_2,vc0_3,vc0_4]],gh⟩=some (e,s):=
 jfl q1r (Eq.trans (by kernel_rfl) h)
def q5e (pg:Prg) (v3:PV) (x4:Int) (b6:Bool) (vc0_0 vc0_1:PV) (vc0_2 vc0_3 vc0_4:PV) (xc1_0 xc1_1:Int) (xc1_2 xc1_3:Int) (xc1_4 xc1_5:Int) (gh:List GObj):DR:=
  callR gh true (callL pg 26 [I xc1_0] gh) fun r1 gh2=>unI .i64 r1 fun n3=>stK 2 v3 (
  br 54 (decide (2<n3)) (
  br 56 b6 (stK 1 v3 (stK 1 v3 (
  kR (runL pg q1w ⟨[(1,.ptr false 0 0),(3,v3),(4,I x4),(6,B true)],[[vc0_0,vc0_1,vc0_2,vc0_3,vc0_4]],gh2⟩) (fun e s=>some (e,s))))) (isC (degr v3) (
  idX 1 none (degr (degr v3)) xc1_4 fun p4=>
  ldX [[vc0_0,vc0_1,vc0_2,vc0_3,vc0_4],[I xc1_0,I xc1_1,I xc1_2,I xc1_3,I xc1_4,I xc1_5]] gh2 false 1 (degr p4) fun v5=>unB v5 fun b7=>stK 1 v3 (stK 1 v3 (
  kR (runL pg q1w ⟨[(1,.ptr false 0 0),(3,v3),(4,I x4),(6,B b7)],[[vc0_0,vc0_1,vc0_2,vc0_3,vc0_4]],gh2⟩) (fun e s=>some (e,s))))))) (stK 1 v3 (
  kR (runL pg q1w ⟨[(1,.ptr false 0 0),(3,v3),(4,I x4),(6,B b6)],[[vc0_0,vc0_1,vc0_2,vc0_3,vc0_4]],gh2⟩) (fun e s=>some (e,s)))))
theorem q5e_ {v3:PV} {x4:Int} {b6:Bool} {vc0_0 vc0_1:PV} {vc0_2 vc0_3 vc0_4:PV} {xc1_0 xc1_1:Int} {xc1_2 xc1_3:Int} {xc1_4 xc1_5:Int} (h:q5e pg v3 x4 b6 vc0_0 vc0_1 vc0_2 vc0_3 vc0_4 xc1_0 xc1_1 xc1_2 xc1_3 xc1_4 xc1_5 gh=some (e,s)):runL pg q1x ⟨[(1,.ptr false 0 0),(3,v3),(4,I x4),(5,.ptr false 1 0),(6,B b6)],[[vc0_0,vc0_1,vc0_2,vc0_3,vc0_4],[I xc1_0,I xc1_1,I xc1_2,I xc1_3,I xc1_4,I xc1_5]],gh⟩=some (e,s):=
 jfl q1r (Eq.trans (by kernel_rfl) h)
def q5f (pg:Prg) (v3:PV) (x4:Int) (b6:Bool) (vc0_0 vc0_1:PV) (vc0_2 vc0_3 vc0_4:PV) (xc1_0 xc1_1:Int) (xc1_2 xc1_3:Int) (xc1_4 xc1_5:Int) (gh:List GObj):DR:=
  callR gh true (callL pg 26 [I xc1_0] gh) fun r1 gh2=>unI .i64 r1 fun n3=>stK 2 v3 (
  br 42 (decide (1<n3)) (
  br 44 b6 (stK 2 v3 (stK 2 v3 (
  kR (runL pg q1x ⟨[(1,.ptr false 0 0),(3,v3),(4,I x4),(5,.ptr false 1 0),(6,B true)],[[vc0_0,vc0_1,vc0_2,vc0_3,vc0_4],[I xc1_0,I xc1_1,I xc1_2,I xc1_3,I xc1_4,I xc1_5]],gh2⟩) (fun e s=>some (e,s))))) (isC (degr v3) (
  idX 1 none (degr (degr v3)) xc1_3 fun p4=>
  ldX [[vc0_0,vc0_1,vc0_2,vc0_3,vc0_4],[I xc1_0,I xc1_1,I xc1_2,I xc1_3,I xc1_4,I xc1_5]] gh2 false 1 (degr p4) fun v5=>unB v5 fun b7=>stK 2 v3 (stK 2 v3 (
  kR (runL pg q1x ⟨[(1,.ptr false 0 0),(3,v3),(4,I x4),(5,.ptr false 1 0),(6,B b7)],[[vc0_0,vc0_1,vc0_2,vc0_3,vc0_4],[I xc1_0,I xc1_1,I xc1_2,I xc1_3,I xc1_4,I xc1_5]],gh2⟩) (fun e s=>some (e,s))))))) (stK 2 v3 (
  kR (runL pg q1x ⟨[(1,.ptr false 0 0),(3,v3),(4,I x4),(5,.ptr false 1 0),(6,B b6)],[[vc0_0,vc0_1,vc0_2,vc0_3,vc0_4],[I xc1_0,I xc1_1,I xc1_2,I xc1_3,I xc1_4,I xc1_5]],gh2⟩) (fun e s=>some (e,s)))))
theorem q5f_ {v3:PV} {x4:Int} {b6:Bool} {vc0_0 vc0_1:PV} {vc0_2 vc0_3 vc0_4:PV} {xc1_0 xc1_1:Int} {xc1_2 xc1_3:Int} {xc1_4 xc1_5:Int} (h:q5f pg v3 x4 b6 vc0_0 vc0_1 vc0_2 vc0_3 vc0_4 xc1_0 xc1_1 xc1_2 xc1_3 xc1_4 xc1_5 gh=some (e,s)):runL pg q18 ⟨[(1,.ptr false 0 0),(3,v3),(4,I x4),(5,.ptr false 1 0),(6,B b6)],[[vc0_0,vc0_1,vc0_2,vc0_3,vc0_4],[I xc1_0,I xc1_1,I xc1_2,I xc1_3,I xc1_4,I xc1_5]],gh⟩=some (e,s):=
 jfl q1r (Eq.trans (by kernel_rfl) h)
def qdi (pg:Prg) (v3:PV) (x4:Int) (vc0_0 vc0_1:PV) (vc0_2 vc0_3 vc0_4:PV) (gh:List GObj):DR:=stK 1 v3 (some (.normal,⟨[(1,.ptr false 0 0),(3,v3),(4,(I (IntKind.i64.wrap (x4+1))))],[[vc0_0,vc0_1,vc0_2,vc0_3,vc0_4]],gh⟩))
theorem qdi_ {v3:PV} {x4:Int} {vc0_0 vc0_1:PV} {vc0_2 vc0_3 vc0_4:PV} (h:qdi pg v3 x4 vc0_0 vc0_1 vc0_2 vc0_3 vc0_4 gh=some (e,s)):runL pg q19 ⟨[(1,.ptr false 0 0),(3,v3),(4,I x4)],[[vc0_0,vc0_1,vc0_2,vc0_3,vc0_4]],gh⟩=some (e,s):=
 jfl q1r (Eq.trans (by kernel_rfl) h)
def q1s (pg:Prg) (v3:PV) (x4:Int) (vc0_0 vc0_1:PV) (vc0_2 vc0_3 vc0_4:PV) (gh:List GObj):DR:=isC (degr vc0_0) (lenS (degr (degr vc0_0)) fun n1=>stK 1 v3 (
  br 11 (decide (x4<(n1:Int))) (isC (degr vc0_0) (
  idX 6 none (degr (degr vc0_0)) x4 fun p2=>
  ldX [[vc0_0,vc0_1,vc0_2,vc0_3,vc0_4]] gh true 6 (degr p2) fun v4=>unA 6 v4 fun c5 c6 c7 c8 c9 c10=>unI .i64 c5 fun n11=>unI .i64 c6 fun n12=>unI .i64 c7 fun n13=>unI .i64 c8 fun n14=>unI .i64 c9 fun n15=>unI .i64 c10 fun n16=>stK 2 v3 (
  br 22 (n11==2) (stK 2 v3 (
  callR gh true (callL pg 26 [I n11] gh) fun r17 gh18=>unI .i64 r17 fun n19=>stK 2 v3 (
  br 30 (decide (0<n19)) (stK 2 v3 (stK 2 v3 (
  kR (runL pg q18 ⟨[(1,.ptr false 0 0),(3,v3),(4,I x4),(5,.ptr false 1 0),(6,B true)],[[vc0_0,vc0_1,vc0_2,vc0_3,vc0_4],[I n11,I n12,I n13,I n14,I n15,I n16]],gh18⟩) (fun e s=>bk 1 e s (fun e s=>nx e s (fun e s=>po [1,3,4] 1 e s (fun e s=>some (e,s))) fun s=>kR (runL pg q19 s) (fun e s=>po [1,3,4] 1 e s (fun e s=>some (e,s)))))))) (stK 2 v3 (
  kR (runL pg q18 ⟨[(1,.ptr false 0 0),(3,v3),(4,I x4),(5,.ptr false 1 0),(6,B true)],[[vc0_0,vc0_1,vc0_2,vc0_3,vc0_4],[I n11,I n12,I n13,I n14,I n15,I n16]],gh18⟩) (fun e s=>bk 1 e s (fun e s=>nx e s (fun e s=>po [1,3,4] 1 e s (fun e s=>some (e,s))) fun s=>kR (runL pg q19 s) (fun e s=>po [1,3,4] 1 e s (fun e s=>some (e,s)))))))))) (stK 2 v3 (
  callR gh true (callL pg 26 [I n11] gh) fun r20 gh21=>unI .i64 r20 fun n22=>stK 2 v3 (
  br 30 (decide (0<n22)) (
  br 32 (n11==3) (stK 2 v3 (stK 2 v3 (
  kR (runL pg q18 ⟨[(1,.ptr false 0 0),(3,v3),(4,I x4),(5,.ptr false 1 0),(6,B true)],[[vc0_0,vc0_1,vc0_2,vc0_3,vc0_4],[I n11,I n12,I n13,I n14,I n15,I n16]],gh21⟩) (fun e s=>bk 1 e s (fun e s=>nx e s (fun e s=>po [1,3,4] 1 e s (fun e s=>some (e,s))) fun s=>kR (runL pg q19 s) (fun e s=>po [1,3,4] 1 e s (fun e s=>some (e,s)))))))) (isC (degr v3) (
  idX 1 none (degr (degr v3)) n13 fun p23=>
  ldX [[vc0_0,vc0_1,vc0_2,vc0_3,vc0_4],[I n11,I n12,I n13,I n14,I n15,I n16]] gh21 false 1 (degr p23) fun v24=>unB v24 fun b25=>stK 2 v3 (stK 2 v3 (
  kR (runL pg q18 ⟨[(1,.ptr false 0 0),(3,v3),(4,I x4),(5,.ptr false 1 0),(6,B b25)],[[vc0_0,vc0_1,vc0_2,vc0_3,vc0_4],[I n11,I n12,I n13,I n14,I n15,I n16]],gh21⟩) (fun e s=>bk 1 e s (fun e s=>nx e s (fun e s=>po [1,3,4] 1 e s (fun e s=>some (e,s))) fun s=>kR (runL pg q19 s) (fun e s=>po [1,3,4] 1 e s (fun e s=>some (e,s)))))))))) (stK 2 v3 (
  kR (runL pg q18 ⟨[(1,.ptr false 0 0),(3,v3),(4,I x4),(5,.ptr false 1 0),(6,(B (n11==3)))],[[vc0_0,vc0_1,vc0_2,vc0_3,vc0_4],[I n11,I n12,I n13,I n14,I n15,I n16]],gh21⟩) (fun e s=>bk 1 e s (fun e s=>nx e s (fun e s=>po [1,3,4] 1 e s (fun e s=>some (e,s))) fun s=>kR (runL pg q19 s) (fun e s=>po [1,3,4] 1 e s (fun e s=>some (e,s))))))))))))) (some ((.exit 0),⟨[(1,.ptr false 0 0),(3,v3),(4,I x4),(11,(B (decide (x4<(n1:Int)))))],[[vc0_0,vc0_1,vc0_2,vc0_3,vc0_4]],gh⟩))))
theorem q1s_ {v3:PV} {x4:Int} {vc0_0 vc0_1:PV} {vc0_2 vc0_3 vc0_4:PV} (h:q1s pg v3 x4 vc0_0 vc0_1 vc0_2 vc0_3 vc0_4 gh=some (e,s)):runL pg qao ⟨[(1,.ptr false 0 0),(3,v3),(4,I x4)],[[vc0_0,vc0_1,vc0_2,vc0_3,vc0_4]],gh⟩=some (e,s):=
 jfl q1r (Eq.trans (by kernel_rfl) h)
def qdj (pg:Prg) (v3:PV) (gh:List GObj):DR:=isC (degr v3) (stK 0 (degr v3) (some (.ret,⟨[(2,(degr v3))],[],gh⟩)))
theorem qdj_ {v3:PV} (h:qdj pg v3 gh=some (e,s)):runL pg q73 ⟨[(3,v3)],[],gh⟩=some (e,s):=
 jfl q1r (Eq.trans (by kernel_rfl) h)
def qdk (pg:Prg) (v0_0 v0_1:PV) (v0_2 v0_3 v0_4:PV) (gh:List GObj):DR:=onK (degr1 v0_0) (onK (degr1 v0_1) (onK (degr1 v0_2) (onK (degr1 v0_3) (onK (degr1 v0_4) (
  kR (runL pg q72 ⟨[(1,.ptr false 0 0),(3,.sl true 1 []),(4,I 0)],[[(degr1 v0_0),(degr1 v0_1),(degr1 v0_2),(degr1 v0_3),(degr1 v0_4)]],gh⟩) (fun e s=>nx e s (fun e s=>some (e,s)) fun s=>kR (runL pg q73 s) (fun e s=>some (e,s))))))))
theorem qdk_ {v0_0 v0_1:PV} {v0_2 v0_3 v0_4:PV} (h:qdk pg v0_0 v0_1 v0_2 v0_3 v0_4 gh=some (e,s)):runL pg qap ⟨[(0,.agg [v0_0,v0_1,v0_2,v0_3,v0_4])],[],gh⟩=some (e,s):=
 jfl q1r (Eq.trans (by kernel_rfl) h)
end
end Go.Lw
end

/-! What the code of function ref_CheckModel comes to, piece by piece. Written by program (dprint.py). -/
section
set_option maxRecDepth 10000
set_option maxHeartbeats 4000000
namespace Go.Lw
open Go
noncomputable section
variable {pg:Prg} {gh:List GObj} {e:IExit} {s:St}
def qb:Tr:=(tO 97 (tI 48 (tI 24 (tI 12 (tI 6 (tI 3 (tI 2 (.node 0 (.agg [.any,.any,.any,.any,.any]) .nil .nil) .nil) (tO 5 (uI 4) .nil)) (tI 10 (tI 8 (uO 7) .nil) (uO 11))) (tO 18 (tI 15 (tO 14 (uI 13) .nil) (uI 16)) (tB 21 (tB 20 (uI 19) .nil) (uO 23)))) (tB 37 (tB 31 (tB 27 (tB 26 (uB 25) .nil) (tI 30 (uO 29) .nil)) (tO 35 (tI 33 (uB 32) .nil) (uI 36))) (tI 43 (tO 41 (tI 39 (uI 38) .nil) (uI 42)) (tI 46 (tB 45 (uI 44) .nil) (.node 47 (.agg [.any,.any,.any,.any,.any]) .nil .nil))))) (tI 71 (tI 59 (tB 54 (.node 51 (.agg [.any,.any,.any,.any,.any]) (tB 50 (uB 49) .nil) (tB 53 (uI 52) .nil)) (tI 57 (tO 56 (.node 55 (.agg [.any,.any,.any,.any,.any]) .nil .nil) .nil) (uB 58))) (tO 66 (tI 63 (tO 62 (uI 60) .nil) (uB 64)) (tI 69 (tO 68 (uI 67) .nil) (uB 70)))) (tB 84 (tI 78 (tI 74 (tO 73 (uI 72) .nil) (.node 76 (.agg [.int .i64,.int .i64]) .nil .nil)) (tI 82 (tI 81 (uO 80) .nil) (uB 83))) (tI 91 (tO 89 (tI 87 (uB 85) .nil) (uI 90)) (tB 94 (tB 93 (uB 92) .nil) (uB 95)))))) (tO 155 (tI 131 (tB 119 (tI 108 (tB 103 (tI 102 (uI 99) .nil) (tO 106 (uB 104) .nil)) (tI 115 (tO 113 (uI 111) .nil) (uI 118))) (tI 125 (tB 122 (tB 121 (uI 120) .nil) (uO 123)) (tI 129 (tB 128 (uB 127) .nil) (uB 130)))) (tI 143 (tO 138 (tI 135 (tO 134 (uI 132) .nil) (uB 136)) (tI 141 (tO 140 (uI 139) .nil) (uB 142))) (tI 148 (tI 146 (tI 145 (uI 144) .nil) (uB 147)) (tI 151 (tO 150 (uI 149) .nil) (uI 154))))) (tO 181 (tO 170 (.node 164 (.agg [.any,.any,.any,.any,.any]) (tB 160 (tI 159 (uI 156) .nil) (tI 163 (uO 162) .nil)) (tB 167 (tI 166 (uO 165) .nil) (uO 168))) (tO 176 (tO 174 (tO 173 (uO 171) .nil) (uI 175)) (tI 179 (tB 178 (uI 177) .nil) (uI 180)))) (tI 193 (tI 188 (tO 186 (tI 184 (uI 182) .nil) (uI 187)) (tI 191 (tB 190 (uB 189) .nil) (uO 192))) (tO 199 (tI 196 (tI 195 (uB 194) .nil) (uO 198)) (tI 205 (tI 202 (uI 200) .nil) (uB 206)))))))
def q5g (pg:Prg) (x3:Int) (vc0_0 vc0_1:PV) (vc0_2 vc0_3 vc0_4:PV) (gh:List GObj):DR:=isC (degr vc0_0) (lenS (degr (degr vc0_0)) fun n1=>
  br 37 (decide (x3<(n1:Int))) (isC (degr vc0_0) (arK (degr (degr vc0_0)) (
  callR gh true (callL pg 72 [(degr (degr vc0_0)),I x3] gh) fun r2 gh3=>unI .i64 r2 fun n4=>
  br 45 (n4 !=0) (some (.ret,⟨[(2,I n4)],[],gh3⟩)) (some (.normal,⟨[(1,.ptr false 0 0),(3,(I (IntKind.i64.wrap (x3+1))))],[[vc0_0,vc0_1,vc0_2,vc0_3,vc0_4]],gh3⟩))))) (some ((.exit 0),⟨[(1,.ptr false 0 0),(3,I x3),(37,(B (decide (x3<(n1:Int)))))],[[vc0_0,vc0_1,vc0_2,vc0_3,vc0_4]],gh⟩)))
theorem q5g_ {x3:Int} {vc0_0 vc0_1:PV} {vc0_2 vc0_3 vc0_4:PV} (h:q5g pg x3 vc0_0 vc0_1 vc0_2 vc0_3 vc0_4 gh=some (e,s)):runL pg qa6 ⟨[(1,.ptr false 0 0),(3,I x3)],[[vc0_0,vc0_1,vc0_2,vc0_3,vc0_4]],gh⟩=some (e,s):=
 jfl qb (Eq.trans (by kernel_rfl) h)
def q16 (pg:Prg) (v5:PV) (x6:Int) (v7:PV) (x8:Int) (vc0_0 vc0_1:PV) (vc0_2 vc0_3 vc0_4:PV) (gh:List GObj):DR:=isC (degr v7) (lenS (degr (degr v7)) fun n1=>stK 1 v5 (stK 1 v7 (
  br 70 (decide (x8<(n1:Int))) (isC (degr v7) (
  idX 2 none (degr (degr v7)) x8 fun p2=>
  ldX [[vc0_0,vc0_1,vc0_2,vc0_3,vc0_4]] gh true 2 (degr p2) fun v3=>unA 2 v3 fun c4 c5=>unI .i64 c4 fun n6=>unI .i64 c5 fun n7=>stK 2 v5 (stK 2 v7 (isC (degr vc0_0) (lenS (degr (degr vc0_0)) fun n8=>
  callR gh true (callL pg 50 [I n6,I 0,(I (IntKind.i64.wrap ((n8:Int)-1)))] gh) fun r9 gh10=>unB r9 fun b11=>
  br 85 (!b11) (stK 2 v5 (stK 2 v7 (some (.ret,⟨[(2,I 5)],[],gh10⟩)))) (isC (degr vc0_0) (lenS (degr (degr vc0_0)) fun n12=>
  callR gh10 true (callL pg 50 [I n7,I 0,(I (IntKind.i64.wrap ((n12:Int)-1)))] gh10) fun r13 gh14=>unB r13 fun b15=>
  br 95 (!b15) (stK 2 v5 (stK 2 v7 (some (.ret,⟨[(2,I 5)],[],gh14⟩)))) (isC (degr vc0_0) (
  idX 6 none (degr (degr vc0_0)) n6 fun p16=>faX (degr p16) 0 fun p17=>
  ldX [[vc0_0,vc0_1,vc0_2,vc0_3,vc0_4],[I n6,I n7]] gh14 false 1 (degr p17) fun v18=>unI .i64 v18 fun n19=>stK 2 v5 (stK 2 v7 (
  br 104 (n19 !=3) (some (.ret,⟨[(2,I 5)],[],gh14⟩)) (isC (degr vc0_0) (
  idX 6 none (degr (degr vc0_0)) n6 fun p20=>faX (degr p20) 1 fun p21=>
  ldX [[vc0_0,vc0_1,vc0_2,vc0_3,vc0_4],[I n6,I n7]] gh14 false 1 (degr p21) fun v22=>unI .i64 v22 fun n23=>isC (degr vc0_0) (
  idX 6 none (degr (degr vc0_0)) n7 fun p24=>faX (degr p24) 1 fun p25=>
  ldX [[vc0_0,vc0_1,vc0_2,vc0_3,vc0_4],[I n6,I n7]] gh14 false 1 (degr p25) fun v26=>unI .i64 v26 fun n27=>stK 2 v5 (stK 2 v7 (
  br 119 (n23 !=n27) (some (.ret,⟨[(2,I 1)],[],gh14⟩)) (
  br 122 (x6==0) (isC (degr v5) (
  idX 1 none (degr (degr v5)) n7 fun p28=>
  ldX [[vc0_0,vc0_1,vc0_2,vc0_3,vc0_4],[I n6,I n7]] gh14 false 1 (degr p28) fun v29=>unB v29 fun b30=>stK 1 v5 (stK 1 v7 (
  br 128 b30 (some (.ret,⟨[(2,I 4)],[],gh14⟩)) (stK 1 v5 (stK 1 v7 (stK 1 v5 (stK 1 v7 (some (.normal,⟨[(1,.ptr false 0 0),(5,v5),(6,I x6),(7,v7),(8,(I (IntKind.i64.wrap (x8+1))))],[[vc0_0,vc0_1,vc0_2,vc0_3,vc0_4]],gh14⟩)))))))))) (stK 1 v5 (stK 1 v7 (stK 1 v5 (stK 1 v7 (stK 1 v5 (stK 1 v7 (some (.normal,⟨[(1,.ptr false 0 0),(5,v5),(6,I x6),(7,v7),(8,(I (IntKind.i64.wrap (x8+1))))],[[vc0_0,vc0_1,vc0_2,vc0_3,vc0_4]],gh14⟩))))))))))))))))))))))))) (some ((.exit 4),⟨[(1,.ptr false 0 0),(5,v5),(6,I x6),(7,v7),(8,I x8),(70,(B (decide (x8<(n1:Int)))))],[[vc0_0,vc0_1,vc0_2,vc0_3,vc0_4]],gh⟩)))))
theorem q16_ {v5:PV} {x6:Int} {v7:PV} {x8:Int} {vc0_0 vc0_1:PV} {vc0_2 vc0_3 vc0_4:PV} (h:q16 pg v5 x6 v7 x8 vc0_0 vc0_1 vc0_2 vc0_3 vc0_4 gh=some (e,s)):runL pg qa7 ⟨[(1,.ptr false 0 0),(5,v5),(6,I x6),(7,v7),(8,I x8)],[[vc0_0,vc0_1,vc0_2,vc0_3,vc0_4]],gh⟩=some (e,s):=
 jfl qb (Eq.trans (by kernel_rfl) h)
def qdl (pg:Prg) (v5:PV) (x6:Int) (v7 vc0_0:PV) (vc0_1 vc0_2:PV) (vc0_3 vc0_4:PV) (gh:List GObj):DR:=stK 1 v5 (stK 1 v7 (
  kR (runL pg q2n ⟨[(1,.ptr false 0 0),(5,v5),(6,I x6),(7,v7),(8,I 0)],[[vc0_0,vc0_1,vc0_2,vc0_3,vc0_4]],gh⟩) (fun e s=>some (e,s))))
theorem qdl_ {v5:PV} {x6:Int} {v7 vc0_0:PV} {vc0_1 vc0_2:PV} {vc0_3 vc0_4:PV} (h:qdl pg v5 x6 v7 vc0_0 vc0_1 vc0_2 vc0_3 vc0_4 gh=some (e,s)):runL pg q2o ⟨[(1,.ptr false 0 0),(5,v5),(6,I x6),(7,v7)],[[vc0_0,vc0_1,vc0_2,vc0_3,vc0_4]],gh⟩=some (e,s):=
 jfl qb (Eq.trans (by kernel_rfl) h)
def qdm (pg:Prg) (v5:PV) (x6:Int) (vc0_0 vc0_1:PV) (vc0_2 vc0_3 vc0_4:PV) (gh:List GObj):DR:=stK 1 v5 (some (.normal,⟨[(1,.ptr false 0 0),(5,v5),(6,(I (IntKind.i64.wrap (x6+1))))],[[vc0_0,vc0_1,vc0_2,vc0_3,vc0_4]],gh⟩))
theorem qdm_ {v5:PV} {x6:Int} {vc0_0 vc0_1:PV} {vc0_2 vc0_3 vc0_4:PV} (h:qdm pg v5 x6 vc0_0 vc0_1 vc0_2 vc0_3 vc0_4 gh=some (e,s)):runL pg q2p ⟨[(1,.ptr false 0 0),(5,v5),(6,I x6)],[[vc0_0,vc0_1,vc0_2,vc0_3,vc0_4]],gh⟩=some (e,s):=
 jfl qb (Eq.trans (by kernel_rfl) h)
def q2e (pg:Prg) (v5:PV) (x6:Int) (vc0_0 vc0_1:PV) (vc0_2 vc0_3 vc0_4:PV) (gh:List GObj):DR:=stK 1 v5 (
  br 58 (decide (x6<2)) (isC (degr vc0_1) (stK 1 v5 (stK 1 (degr vc0_1) (stK 1 v5 (stK 1 (degr vc0_1) (
  br 64 (x6==1) (isC (degr vc0_2) (stK 1 v5 (stK 1 (degr vc0_2) (stK 1 v5 (stK 1 (degr vc0_2) (
  kR (runL pg q2o ⟨[(1,.ptr false 0 0),(5,v5),(6,I x6),(7,(degr vc0_2))],[[vc0_0,vc0_1,vc0_2,vc0_3,vc0_4]],gh⟩) (fun e s=>bk 3 e s (fun e s=>nx e s (fun e s=>po [1,5,6] 1 e s (fun e s=>some (e,s))) fun s=>kR (runL pg q2p s) (fun e s=>po [1,5,6] 1 e s (fun e s=>some (e,s))))))))))) (stK 1 v5 (stK 1 (degr vc0_1) (
  kR (runL pg q2o ⟨[(1,.ptr false 0 0),(5,v5),(6,I x6),(7,(degr vc0_1))],[[vc0_0,vc0_1,vc0_2,vc0_3,vc0_4]],gh⟩) (fun e s=>bk 3 e s (fun e s=>nx e s (fun e s=>po [1,5,6] 1 e s (fun e s=>some (e,s))) fun s=>kR (runL pg q2p s) (fun e s=>po [1,5,6] 1 e s (fun e s=>some (e,s)))))))))))))) (some ((.exit 2),⟨[(1,.ptr false 0 0),(5,v5),(6,I x6),(58,(B (decide (x6<2))))],[[vc0_0,vc0_1,vc0_2,vc0_3,vc0_4]],gh⟩)))
theorem q2e_ {v5:PV} {x6:Int} {vc0_0 vc0_1:PV} {vc0_2 vc0_3 vc0_4:PV} (h:q2e pg v5 x6 vc0_0 vc0_1 vc0_2 vc0_3 vc0_4 gh=some (e,s)):runL pg qa8 ⟨[(1,.ptr false 0 0),(5,v5),(6,I x6)],[[vc0_0,vc0_1,vc0_2,vc0_3,vc0_4]],gh⟩=some (e,s):=
 jfl qb (Eq.trans (by kernel_rfl) h)
def q5h (pg:Prg) (x10:Int) (v11:PV) (x12 x13:Int) (vc0_0 vc0_1:PV) (vc0_2 vc0_3 vc0_4:PV) (gh:List GObj):DR:=stK 1 v11 (
  br 147 (decide (x13<x12)) (isC (degr v11) (
  idX 2 none (degr (degr v11)) x12 fun p1=>faX (degr p1) 0 fun p2=>
  ldX [[vc0_0,vc0_1,vc0_2,vc0_3,vc0_4]] gh false 1 (degr p2) fun v3=>unI .i64 v3 fun n4=>isC (degr v11) (
  idX 2 none (degr (degr v11)) x13 fun p5=>faX (degr p5) 0 fun p6=>
  ldX [[vc0_0,vc0_1,vc0_2,vc0_3,vc0_4]] gh false 1 (degr p6) fun v7=>unI .i64 v7 fun n8=>stK 1 v11 (
  br 160 (n4==n8) (some (.ret,⟨[(2,I 6)],[],gh⟩)) (stK 1 v11 (stK 1 v11 (some (.normal,⟨[(1,.ptr false 0 0),(10,I x10),(11,v11),(12,I x12),(13,(I (IntKind.i64.wrap (x13+1))))],[[vc0_0,vc0_1,vc0_2,vc0_3,vc0_4]],gh⟩)))))))) (some ((.exit 10),⟨[(1,.ptr false 0 0),(10,I x10),(11,v11),(12,I x12),(13,I x13),(147,(B (decide (x13<x12))))],[[vc0_0,vc0_1,vc0_2,vc0_3,vc0_4]],gh⟩)))
theorem q5h_ {x10:Int} {v11:PV} {x12 x13:Int} {vc0_0 vc0_1:PV} {vc0_2 vc0_3 vc0_4:PV} (h:q5h pg x10 v11 x12 x13 vc0_0 vc0_1 vc0_2 vc0_3 vc0_4 gh=some (e,s)):runL pg qa9 ⟨[(1,.ptr false 0 0),(10,I x10),(11,v11),(12,I x12),(13,I x13)],[[vc0_0,vc0_1,vc0_2,vc0_3,vc0_4]],gh⟩=some (e,s):=
 jfl qb (Eq.trans (by kernel_rfl) h)
def qdn (pg:Prg) (x10:Int) (v11:PV) (x12:Int) (vc0_0 vc0_1:PV) (vc0_2 vc0_3 vc0_4:PV) (gh:List GObj):DR:=stK 1 v11 (some (.normal,⟨[(1,.ptr false 0 0),(10,I x10),(11,v11),(12,(I (IntKind.i64.wrap (x12+1))))],[[vc0_0,vc0_1,vc0_2,vc0_3,vc0_4]],gh⟩))
theorem qdn_ {x10:Int} {v11:PV} {x12:Int} {vc0_0 vc0_1:PV} {vc0_2 vc0_3 vc0_4:PV} (h:qdn pg x10 v11 x12 vc0_0 vc0_1 vc0_2 vc0_3 vc0_4 gh=some (e,s)):runL pg q45 ⟨[(1,.ptr false 0 0),(10,I x10),(11,v11),(12,I x12)],[[vc0_0,vc0_1,vc0_2,vc0_3,vc0_4]],gh⟩=some (e,s):=
 jfl qb (Eq.trans (by kernel_rfl) h)
def q5i (pg:Prg) (x10:Int) (v11:PV) (x12:Int) (vc0_0 vc0_1:PV) (vc0_2 vc0_3 vc0_4:PV) (gh:List GObj):DR:=isC (degr v11) (lenS (degr (degr v11)) fun n1=>stK 1 v11 (
  br 142 (decide (x12<(n1:Int))) (stK 1 v11 (
  kR (runL pg q6o ⟨[(1,.ptr false 0 0),(10,I x10),(11,v11),(12,I x12),(13,I 0)],[[vc0_0,vc0_1,vc0_2,vc0_3,vc0_4]],gh⟩) (fun e s=>bk 9 e s (fun e s=>nx e s (fun e s=>po [1,10,11,12] 1 e s (fun e s=>some (e,s))) fun s=>kR (runL pg q45 s) (fun e s=>po [1,10,11,12] 1 e s (fun e s=>some (e,s))))))) (some ((.exit 8),⟨[(1,.ptr false 0 0),(10,I x10),(11,v11),(12,I x12),(142,(B (decide (x12<(n1:Int)))))],[[vc0_0,vc0_1,vc0_2,vc0_3,vc0_4]],gh⟩))))
theorem q5i_ {x10:Int} {v11:PV} {x12:Int} {vc0_0 vc0_1:PV} {vc0_2 vc0_3 vc0_4:PV} (h:q5i pg x10 v11 x12 vc0_0 vc0_1 vc0_2 vc0_3 vc0_4 gh=some (e,s)):runL pg qaa ⟨[(1,.ptr false 0 0),(10,I x10),(11,v11),(12,I x12)],[[vc0_0,vc0_1,vc0_2,vc0_3,vc0_4]],gh⟩=some (e,s):=
 jfl qb (Eq.trans (by kernel_rfl) h)
def qdo (pg:Prg) (x10:Int) (v11 vc0_0:PV) (vc0_1 vc0_2:PV) (vc0_3 vc0_4:PV) (gh:List GObj):DR:=stK 1 v11 (
  kR (runL pg q46 ⟨[(1,.ptr false 0 0),(10,I x10),(11,v11),(12,I 0)],[[vc0_0,vc0_1,vc0_2,vc0_3,vc0_4]],gh⟩) (fun e s=>some (e,s)))
theorem qdo_ {x10:Int} {v11 vc0_0:PV} {vc0_1 vc0_2:PV} {vc0_3 vc0_4:PV} (h:qdo pg x10 v11 vc0_0 vc0_1 vc0_2 vc0_3 vc0_4 gh=some (e,s)):runL pg q2q ⟨[(1,.ptr false 0 0),(10,I x10),(11,v11)],[[vc0_0,vc0_1,vc0_2,vc0_3,vc0_4]],gh⟩=some (e,s):=
 jfl qb (Eq.trans (by kernel_rfl) h)
def qdp (pg:Prg) (x10:Int) (vc0_0 vc0_1:PV) (vc0_2 vc0_3 vc0_4:PV) (gh:List GObj):DR:=some (.normal,⟨[(1,.ptr false 0 0),(10,(I (IntKind.i64.wrap (x10+1))))],[[vc0_0,vc0_1,vc0_2,vc0_3,vc0_4]],gh⟩)
theorem qdp_ {x10:Int} {vc0_0 vc0_1:PV} {vc0_2 vc0_3 vc0_4:PV} (h:qdp pg x10 vc0_0 vc0_1 vc0_2 vc0_3 vc0_4 gh=some (e,s)):runL pg q2r ⟨[(1,.ptr false 0 0),(10,I x10)],[[vc0_0,vc0_1,vc0_2,vc0_3,vc0_4]],gh⟩=some (e,s):=
 jfl qb (Eq.trans (by kernel_rfl) h)
def q2f (pg:Prg) (x10:Int) (vc0_0 vc0_1:PV) (vc0_2 vc0_3 vc0_4:PV) (gh:List GObj):DR:=
  br 130 (decide (x10<2)) (isC (degr vc0_1) (stK 1 (degr vc0_1) (stK 1 (degr vc0_1) (
  br 136 (x10==1) (isC (degr vc0_2) (stK 1 (degr vc0_2) (stK 1 (degr vc0_2) (
  kR (runL pg q2q ⟨[(1,.ptr false 0 0),(10,I x10),(11,(degr vc0_2))],[[vc0_0,vc0_1,vc0_2,vc0_3,vc0_4]],gh⟩) (fun e s=>bk 7 e s (fun e s=>nx e s (fun e s=>po [1,10] 1 e s (fun e s=>some (e,s))) fun s=>kR (runL pg q2r s) (fun e s=>po [1,10] 1 e s (fun e s=>some (e,s))))))))) (stK 1 (degr vc0_1) (
  kR (runL pg q2q ⟨[(1,.ptr false 0 0),(10,I x10),(11,(degr vc0_1))],[[vc0_0,vc0_1,vc0_2,vc0_3,vc0_4]],gh⟩) (fun e s=>bk 7 e s (fun e s=>nx e s (fun e s=>po [1,10] 1 e s (fun e s=>some (e,s))) fun s=>kR (runL pg q2r s) (fun e s=>po [1,10] 1 e s (fun e s=>some (e,s))))))))))) (some ((.exit 6),⟨[(1,.ptr false 0 0),(10,I x10),(130,(B (decide (x10<2))))],[[vc0_0,vc0_1,vc0_2,vc0_3,vc0_4]],gh⟩))
theorem q2f_ {x10:Int} {vc0_0 vc0_1:PV} {vc0_2 vc0_3 vc0_4:PV} (h:q2f pg x10 vc0_0 vc0_1 vc0_2 vc0_3 vc0_4 gh=some (e,s)):runL pg qab ⟨[(1,.ptr false 0 0),(10,I x10)],[[vc0_0,vc0_1,vc0_2,vc0_3,vc0_4]],gh⟩=some (e,s):=
 jfl qb (Eq.trans (by kernel_rfl) h)
def q5j (pg:Prg) (v14:PV) (x15:Int) (vc0_0 vc0_1:PV) (vc0_2 vc0_3 vc0_4:PV) (gh:List GObj):DR:=isC (degr v14) (lenS (degr (degr v14)) fun n1=>stK 1 v14 (
  br 178 (decide (x15<(n1:Int))) (isC (degr v14) (
  idX 1 none (degr (degr v14)) x15 fun p2=>
  ldX [[vc0_0,vc0_1,vc0_2,vc0_3,vc0_4]] gh false 1 (degr p2) fun v3=>unI .i64 v3 fun n4=>isC (degr vc0_0) (lenS (degr (degr vc0_0)) fun n5=>
  callR gh true (callL pg 50 [I n4,I 0,(I (IntKind.i64.wrap ((n5:Int)-1)))] gh) fun r6 gh7=>unB r6 fun b8=>stK 1 v14 (
  br 190 (!b8) (some (.ret,⟨[(2,I 5)],[],gh7⟩)) (stK 1 v14 (stK 1 v14 (some (.normal,⟨[(1,.ptr false 0 0),(14,v14),(15,(I (IntKind.i64.wrap (x15+1))))],[[vc0_0,vc0_1,vc0_2,vc0_3,vc0_4]],gh7⟩)))))))) (some ((.exit 12),⟨[(1,.ptr false 0 0),(14,v14),(15,I x15),(178,(B (decide (x15<(n1:Int)))))],[[vc0_0,vc0_1,vc0_2,vc0_3,vc0_4]],gh⟩))))
theorem q5j_ {v14:PV} {x15:Int} {vc0_0 vc0_1:PV} {vc0_2 vc0_3 vc0_4:PV} (h:q5j pg v14 x15 vc0_0 vc0_1 vc0_2 vc0_3 vc0_4 gh=some (e,s)):runL pg qac ⟨[(1,.ptr false 0 0),(14,v14),(15,I x15)],[[vc0_0,vc0_1,vc0_2,vc0_3,vc0_4]],gh⟩=some (e,s):=
 jfl qb (Eq.trans (by kernel_rfl) h)
def q5k (pg:Prg) (v14:PV) (x16:Int) (vc0_0 vc0_1:PV) (vc0_2 vc0_3 vc0_4:PV) (gh:List GObj):DR:=isC (degr v14) (lenS (degr (degr v14)) fun n1=>stK 1 v14 (
  br 194 (decide (x16<(n1:Int))) (isC (degr vc0_0) (isC (degr v14) (
  idX 1 none (degr (degr v14)) x16 fun p2=>
  ldX [[vc0_0,vc0_1,vc0_2,vc0_3,vc0_4]] gh false 1 (degr p2) fun v3=>unI .i64 v3 fun n4=>
  idX 6 none (degr (degr vc0_0)) n4 fun p5=>faX (degr p5) 1 fun p6=>
  ldX [[vc0_0,vc0_1,vc0_2,vc0_3,vc0_4]] gh false 1 (degr p6) fun v7=>unI .i64 v7 fun n8=>stK 1 v14 (
  br 206 (n8 !=1) (some (.ret,⟨[(2,I 1)],[],gh⟩)) (stK 1 v14 (stK 1 v14 (some (.normal,⟨[(1,.ptr false 0 0),(14,v14),(16,(I (IntKind.i64.wrap (x16+1))))],[[vc0_0,vc0_1,vc0_2,vc0_3,vc0_4]],gh⟩)))))))) (some ((.exit 14),⟨[(1,.ptr false 0 0),(14,v14),(16,I x16),(194,(B (decide (x16<(n1:Int)))))],[[vc0_0,vc0_1,vc0_2,vc0_3,vc0_4]],gh⟩))))
theorem q5k_ {v14:PV} {x16:Int} {vc0_0 vc0_1:PV} {vc0_2 vc0_3 vc0_4:PV} (h:q5k pg v14 x16 vc0_0 vc0_1 vc0_2 vc0_3 vc0_4 gh=some (e,s)):runL pg qad ⟨[(1,.ptr false 0 0),(14,v14),(16,I x16)],[[vc0_0,vc0_1,vc0_2,vc0_3,vc0_4]],gh⟩=some (e,s):=
 jfl qb (Eq.trans (by kernel_rfl) h)
def qfg (pg:Prg) (gh:List GObj):DR:=some (.ret,⟨[(2,I 0)],[],gh⟩)
theorem qfg_ (h:qfg pg gh=some (e,s)):runL pg q6r ⟨[],[],gh⟩=some (e,s):=
 jfl qb (Eq.trans (by kernel_rfl) h)
def q8v (pg:Prg) (v14 vc0_0:PV) (vc0_1 vc0_2:PV) (vc0_3 vc0_4:PV) (gh:List GObj):DR:=stK 1 v14 (
  kR (runL pg q2s ⟨[(1,.ptr false 0 0),(14,v14),(16,I 0)],[[vc0_0,vc0_1,vc0_2,vc0_3,vc0_4]],gh⟩) (fun e s=>nx e s (fun e s=>some (e,s)) fun s=>kR (runL pg q6r s) (fun e s=>some (e,s))))
theorem q8v_ {v14 vc0_0:PV} {vc0_1 vc0_2:PV} {vc0_3 vc0_4:PV} (h:q8v pg v14 vc0_0 vc0_1 vc0_2 vc0_3 vc0_4 gh=some (e,s)):runL pg q2t ⟨[(1,.ptr false 0 0),(14,v14)],[[vc0_0,vc0_1,vc0_2,vc0_3,vc0_4]],gh⟩=some (e,s):=
 jfl qb (Eq.trans (by kernel_rfl) h)
def q3w (pg:Prg) (vc0_0 vc0_1:PV) (vc0_2 vc0_3 vc0_4:PV) (gh:List GObj):DR:=isC (degr vc0_2) (lenS (degr (degr vc0_2)) fun n1=>onK (degr1 (degr1 vc0_0)) (onK (degr1 (degr1 vc0_1)) (onK (degr1 (degr1 vc0_2)) (onK (degr1 (degr1 vc0_3)) (onK (degr1 (degr1 vc0_4)) (
  callR gh true (callL pg 39 [(.agg [(degr1 (degr1 vc0_0)),(degr1 (degr1 vc0_1)),(degr1 (degr1 vc0_2)),(degr1 (degr1 vc0_3)),(degr1 (degr1 vc0_4))]),I 3] gh) fun r2 gh3=>isC r2 (lenS (degr r2) fun n4=>
  br 167 ((n1:Int) !=(n4:Int)) (some (.ret,⟨[(2,I 5)],[],gh3⟩)) (isC (degr vc0_3) (
  apX 1 8 (.sl true 1 []) (degr (degr vc0_3)) fun l5=>isC (degr vc0_4) (
  apX 1 8 (.sl true 1 l5) (degr (degr vc0_4)) fun l6=>
  kR (runL pg q6q ⟨[(1,.ptr false 0 0),(14,.sl true 1 l6),(15,I 0)],[[vc0_0,vc0_1,vc0_2,vc0_3,vc0_4]],gh3⟩) (fun e s=>nx e s (fun e s=>some (e,s)) fun s=>kR (runL pg q2t s) (fun e s=>some (e,s)))))))))))))
theorem q3w_ {vc0_0 vc0_1:PV} {vc0_2 vc0_3 vc0_4:PV} (h:q3w pg vc0_0 vc0_1 vc0_2 vc0_3 vc0_4 gh=some (e,s)):runL pg q47 ⟨[(1,.ptr false 0 0)],[[vc0_0,vc0_1,vc0_2,vc0_3,vc0_4]],gh⟩=some (e,s):=
 jfl qb (Eq.trans (by kernel_rfl) h)
def q8w (pg:Prg) (vc0_0 vc0_1:PV) (vc0_2 vc0_3 vc0_4:PV) (gh:List GObj):DR:=
  kR (runL pg q6p ⟨[(1,.ptr false 0 0),(10,I 0)],[[vc0_0,vc0_1,vc0_2,vc0_3,vc0_4]],gh⟩) (fun e s=>nx e s (fun e s=>some (e,s)) fun s=>kR (runL pg q47 s) (fun e s=>some (e,s)))
theorem q8w_ {vc0_0 vc0_1:PV} {vc0_2 vc0_3 vc0_4:PV} (h:q8w pg vc0_0 vc0_1 vc0_2 vc0_3 vc0_4 gh=some (e,s)):runL pg q2u ⟨[(1,.ptr false 0 0)],[[vc0_0,vc0_1,vc0_2,vc0_3,vc0_4]],gh⟩=some (e,s):=
 jfl qb (Eq.trans (by kernel_rfl) h)
def q1t (pg:Prg) (vc0_0 vc0_1:PV) (vc0_2 vc0_3 vc0_4:PV) (gh:List GObj):DR:=onK (degr1 (degr1 vc0_0)) (onK (degr1 (degr1 vc0_1)) (onK (degr1 (degr1 vc0_2)) (onK (degr1 (degr1 vc0_3)) (onK (degr1 (degr1 vc0_4)) (
  callR gh true (callL pg 73 [(.agg [(degr1 (degr1 vc0_0)),(degr1 (degr1 vc0_1)),(degr1 (degr1 vc0_2)),(degr1 (degr1 vc0_3)),(degr1 (degr1 vc0_4))]),I 2] gh) fun r1 gh2=>unI .i64 r1 fun n3=>
  br 50 (decide (6<n3)) (some (.ret,⟨[(2,I 2)],[],gh2⟩)) (onK (degr1 (degr1 vc0_0)) (onK (degr1 (degr1 vc0_1)) (onK (degr1 (degr1 vc0_2)) (onK (degr1 (degr1 vc0_3)) (onK (degr1 (degr1 vc0_4)) (
  callR gh2 true (callL pg 73 [(.agg [(degr1 (degr1 vc0_0)),(degr1 (degr1 vc0_1)),(degr1 (degr1 vc0_2)),(degr1 (degr1 vc0_3)),(degr1 (degr1 vc0_4))]),I 3] gh2) fun r4 gh5=>unI .i64 r4 fun n6=>
  br 54 (decide (10<n6)) (some (.ret,⟨[(2,I 2)],[],gh5⟩)) (onK (degr1 (degr1 vc0_0)) (onK (degr1 (degr1 vc0_1)) (onK (degr1 (degr1 vc0_2)) (onK (degr1 (degr1 vc0_3)) (onK (degr1 (degr1 vc0_4)) (
  callR gh5 true (callL pg 74 [(.agg [(degr1 (degr1 vc0_0)),(degr1 (degr1 vc0_1)),(degr1 (degr1 vc0_2)),(degr1 (degr1 vc0_3)),(degr1 (degr1 vc0_4))])] gh5) fun r7 gh8=>isC r7 (stK 1 r7 (stK 1 r7 (
  kR (runL pg q6n ⟨[(1,.ptr false 0 0),(5,r7),(6,I 0)],[[vc0_0,vc0_1,vc0_2,vc0_3,vc0_4]],gh8⟩) (fun e s=>nx e s (fun e s=>some (e,s)) fun s=>kR (runL pg q2u s) (fun e s=>some (e,s)))))))))))))))))))))))
theorem q1t_ {vc0_0 vc0_1:PV} {vc0_2 vc0_3 vc0_4:PV} (h:q1t pg vc0_0 vc0_1 vc0_2 vc0_3 vc0_4 gh=some (e,s)):runL pg q2v ⟨[(1,.ptr false 0 0)],[[vc0_0,vc0_1,vc0_2,vc0_3,vc0_4]],gh⟩=some (e,s):=
 jfl qb (Eq.trans (by kernel_rfl) h)
def q1u (pg:Prg) (v0_0 v0_1:PV) (v0_2 v0_3 v0_4:PV) (gh:List GObj):DR:=onK (degr1 v0_0) (onK (degr1 v0_1) (onK (degr1 v0_2) (onK (degr1 v0_3) (onK (degr1 v0_4) (isC (degr (degr1 v0_0)) (lenS (degr (degr (degr1 v0_0))) fun n1=>
  br 21 (decide (80<(n1:Int))) (some (.ret,⟨[(2,I 2)],[],gh⟩)) (isC (degr (degr1 v0_3)) (lenS (degr (degr (degr1 v0_3))) fun n2=>
  br 27 (decide (8<(n2:Int))) (some (.ret,⟨[(2,I 2)],[],gh⟩)) (isC (degr (degr1 v0_4)) (lenS (degr (degr (degr1 v0_4))) fun n3=>
  br 32 (decide (8<(n3:Int))) (some (.ret,⟨[(2,I 2)],[],gh⟩)) (
  kR (runL pg q6m ⟨[(1,.ptr false 0 0),(3,I 0)],[[(degr1 v0_0),(degr1 v0_1),(degr1 v0_2),(degr1 v0_3),(degr1 v0_4)]],gh⟩) (fun e s=>nx e s (fun e s=>some (e,s)) fun s=>kR (runL pg q2v s) (fun e s=>some (e,s))))))))))))))
theorem q1u_ {v0_0 v0_1:PV} {v0_2 v0_3 v0_4:PV} (h:q1u pg v0_0 v0_1 v0_2 v0_3 v0_4 gh=some (e,s)):runL pg qae ⟨[(0,.agg [v0_0,v0_1,v0_2,v0_3,v0_4])],[],gh⟩=some (e,s):=
 jfl qb (Eq.trans (by kernel_rfl) h)
end
end Go.Lw
end

/-! What the code of function ref_SameInts comes to, piece by piece. Written by program (dprint.py). -/
section
set_option maxRecDepth 10000
set_option maxHeartbeats 4000000
namespace Go.Lw
open Go
noncomputable section
variable {pg:Prg} {gh:List GObj} {e:IExit} {s:St}
def q8x:Tr:=(tI 13 (tI 7 (tB 4 (tO 1 (uO 0) .nil) (tO 6 (uI 5) .nil)) (tB 10 (tI 9 (uO 8) .nil) (tO 12 (uI 11) .nil))) (tI 20 (tI 16 (tI 15 (uB 14) .nil) (tI 18 (uO 17) .nil)) (tI 24 (tI 22 (uO 21) .nil) (uB 25))))
def q8y (pg:Prg) (v0 v1:PV) (x5:Int) (gh:List GObj):DR:=isC (degr v0) (lenS (degr (degr v0)) fun n1=>stK 0 v0 (stK 0 v1 (
  br 14 (decide (x5<(n1:Int))) (isC (degr v0) (
  idX 1 none (degr (degr v0)) x5 fun p2=>
  ldX [] gh false 1 (degr p2) fun v3=>unI .i64 v3 fun n4=>isC (degr v1) (
  idX 1 none (degr (degr v1)) x5 fun p5=>
  ldX [] gh false 1 (degr p5) fun v6=>unI .i64 v6 fun n7=>stK 0 v0 (stK 0 v1 (
  br 25 (n4 !=n7) (some (.ret,⟨[(4,B false)],[],gh⟩)) (stK 0 v0 (stK 0 v1 (stK 0 v0 (stK 0 v1 (some (.normal,⟨[(0,v0),(1,v1),(5,(I (IntKind.i64.wrap (x5+1))))],[],gh⟩))))))))))) (some ((.exit 0),⟨[(0,v0),(1,v1),(5,I x5),(14,(B (decide (x5<(n1:Int)))))],[],gh⟩)))))
theorem q8y_ {v0 v1:PV} {x5:Int} (h:q8y pg v0 v1 x5 gh=some (e,s)):runL pg qah ⟨[(0,v0),(1,v1),(5,I x5)],[],gh⟩=some (e,s):=
 jfl q8x (Eq.trans (by kernel_rfl) h)
def qfh (pg:Prg) (gh:List GObj):DR:=some (.ret,⟨[(4,B true)],[],gh⟩)
theorem qfh_ (h:qfh pg gh=some (e,s)):runL pg q6w ⟨[],[],gh⟩=some (e,s):=
 jfl q8x (Eq.trans (by kernel_rfl) h)
def qdq (pg:Prg) (v0 v1:PV) (gh:List GObj):DR:=stK 0 v0 (stK 0 v1 (isC (degr v0) (lenS (degr (degr v0)) fun n1=>isC (degr v1) (lenS (degr (degr v1)) fun n2=>stK 0 v0 (stK 0 v1 (
  br 10 ((n1:Int) !=(n2:Int)) (some (.ret,⟨[(4,B false)],[],gh⟩)) (stK 0 v0 (stK 0 v1 (
  kR (runL pg q6v ⟨[(0,v0),(1,v1),(5,I 0)],[],gh⟩) (fun e s=>nx e s (fun e s=>some (e,s)) fun s=>kR (runL pg q6w s) (fun e s=>some (e,s))))))))))))
theorem qdq_ {v0 v1:PV} (h:qdq pg v0 v1 gh=some (e,s)):runL pg qai ⟨[(0,v0),(1,v1)],[],gh⟩=some (e,s):=
 jfl q8x (Eq.trans (by kernel_rfl) h)
end
end Go.Lw
end

/-! What the code of function ref_SameModel comes to, piece by piece. Written by program (dprint.py). -/
section
set_option maxRecDepth 10000
set_option maxHeartbeats 4000000
namespace Go.Lw
open Go
noncomputable section
variable {pg:Prg} {gh:List GObj} {e:IExit} {s:St}
def q8z:Tr:=(tO 33 (tO 17 (tI 8 (tB 4 (.node 1 (.agg [.any,.any,.any,.any,.any]) (.node 0 (.agg [.any,.any,.any,.any,.any]) .nil .nil) .nil) (tO 7 (uI 5) .nil)) (tB 12 (tI 11 (uO 10) .nil) (tO 15 (uB 13) .nil))) (tO 25 (tB 20 (tB 19 (uB 18) .nil) (tO 23 (uB 21) .nil)) (tB 28 (tB 27 (uB 26) .nil) (tO 31 (uB 29) .nil)))) (tI 48 (tO 41 (tB 36 (tB 35 (uB 34) .nil) (tO 39 (uB 37) .nil)) (tB 44 (tB 43 (uB 42) .nil) (tO 47 (uI 45) .nil))) (.node 56 (.agg [.int .i64,.int .i64,.int .i64,.int .i64,.int .i64,.int .i64]) (tI 51 (tI 50 (uB 49) .nil) (tI 54 (uO 53) .nil)) (.node 61 (.agg [.int .i64,.int .i64,.int .i64,.int .i64,.int .i64,.int .i64]) (tI 59 (uO 58) .nil) (uB 62)))))
def q90 (pg:Prg) (x5:Int) (vc0_0 vc0_1:PV) (vc0_2 vc0_3:PV) (vc0_4 vc1_0:PV) (vc1_1 vc1_2:PV) (vc1_3 vc1_4:PV) (gh:List GObj):DR:=isC (degr vc0_0) (lenS (degr (degr vc0_0)) fun n1=>
  br 49 (decide (x5<(n1:Int))) (isC (degr vc0_0) (
  idX 6 none (degr (degr vc0_0)) x5 fun p2=>
  ldX [[vc0_0,vc0_1,vc0_2,vc0_3,vc0_4],[vc1_0,vc1_1,vc1_2,vc1_3,vc1_4]] gh true 6 (degr p2) fun v3=>unA 6 v3 fun c4 c5 c6 c7 c8 c9=>unI .i64 c4 fun n10=>unI .i64 c5 fun n11=>unI .i64 c6 fun n12=>unI .i64 c7 fun n13=>unI .i64 c8 fun n14=>unI .i64 c9 fun n15=>isC (degr vc1_0) (
  idX 6 none (degr (degr vc1_0)) x5 fun p16=>
  ldX [[vc0_0,vc0_1,vc0_2,vc0_3,vc0_4],[vc1_0,vc1_1,vc1_2,vc1_3,vc1_4]] gh true 6 (degr p16) fun v17=>unA 6 v17 fun c18 c19 c20 c21 c22 c23=>unI .i64 c18 fun n24=>unI .i64 c19 fun n25=>unI .i64 c20 fun n26=>unI .i64 c21 fun n27=>unI .i64 c22 fun n28=>unI .i64 c23 fun n29=>ob (flatEq [false,false,false,false,false,false] [I n10,I n11,I n12,I n13,I n14,I n15] [I n24,I n25,I n26,I n27,I n28,I n29]) fun b30=>
  br 62 (!b30) (some (.ret,⟨[(4,B false)],[],gh⟩)) (some (.normal,⟨[(2,.ptr false 0 0),(3,.ptr false 1 0),(5,(I (IntKind.i64.wrap (x5+1))))],[[vc0_0,vc0_1,vc0_2,vc0_3,vc0_4],[vc1_0,vc1_1,vc1_2,vc1_3,vc1_4]],gh⟩))))) (some ((.exit 0),⟨[(2,.ptr false 0 0),(3,.ptr false 1 0),(5,I x5),(49,(B (decide (x5<(n1:Int)))))],[[vc0_0,vc0_1,vc0_2,vc0_3,vc0_4],[vc1_0,vc1_1,vc1_2,vc1_3,vc1_4]],gh⟩)))
theorem q90_ {x5:Int} {vc0_0 vc0_1:PV} {vc0_2 vc0_3:PV} {vc0_4 vc1_0:PV} {vc1_1 vc1_2:PV} {vc1_3 vc1_4:PV} (h:q90 pg x5 vc0_0 vc0_1 vc0_2 vc0_3 vc0_4 vc1_0 vc1_1 vc1_2 vc1_3 vc1_4 gh=some (e,s)):runL pg qar ⟨[(2,.ptr false 0 0),(3,.ptr false 1 0),(5,I x5)],[[vc0_0,vc0_1,vc0_2,vc0_3,vc0_4],[vc1_0,vc1_1,vc1_2,vc1_3,vc1_4]],gh⟩=some (e,s):=
 jfl q8z (Eq.trans (by kernel_rfl) h)
def qfi (pg:Prg) (gh:List GObj):DR:=some (.ret,⟨[(4,B true)],[],gh⟩)
theorem qfi_ (h:qfi pg gh=some (e,s)):runL pg q48 ⟨[],[],gh⟩=some (e,s):=
 jfl q8z (Eq.trans (by kernel_rfl) h)
def qdr (pg:Prg) (v0_0 v0_1:PV) (v0_2 v0_3:PV) (v0_4 v1_0:PV) (v1_1 v1_2:PV) (v1_3 v1_4:PV) (gh:List GObj):DR:=onK (degr1 v0_0) (onK (degr1 v0_1) (onK (degr1 v0_2) (onK (degr1 v0_3) (onK (degr1 v0_4) (onK (degr1 v1_0) (onK (degr1 v1_1) (onK (degr1 v1_2) (onK (degr1 v1_3) (onK (degr1 v1_4) (isC (degr (degr1 v0_0)) (lenS (degr (degr (degr1 v0_0))) fun n1=>isC (degr (degr1 v1_0)) (lenS (degr (degr (degr1 v1_0))) fun n2=>
  br 13 ((n1:Int) !=(n2:Int)) (some (.ret,⟨[(4,B false)],[],gh⟩)) (isC (degr (degr1 v0_1)) (isC (degr (degr1 v1_1)) (arK (degr (degr (degr1 v0_1))) (arK (degr (degr (degr1 v1_1))) (
  callR gh true (callL pg 354 [(degr (degr (degr1 v0_1))),(degr (degr (degr1 v1_1)))] gh) fun r3 gh4=>unB r3 fun b5=>
  br 21 (!b5) (some (.ret,⟨[(4,B false)],[],gh4⟩)) (isC (degr (degr1 v0_2)) (isC (degr (degr1 v1_2)) (arK (degr (degr (degr1 v0_2))) (arK (degr (degr (degr1 v1_2))) (
  callR gh4 true (callL pg 354 [(degr (degr (degr1 v0_2))),(degr (degr (degr1 v1_2)))] gh4) fun r6 gh7=>unB r6 fun b8=>
  br 29 (!b8) (some (.ret,⟨[(4,B false)],[],gh7⟩)) (isC (degr (degr1 v0_3)) (isC (degr (degr1 v1_3)) (arK (degr (degr (degr1 v0_3))) (arK (degr (degr (degr1 v1_3))) (
  callR gh7 true (callL pg 46 [(degr (degr (degr1 v0_3))),(degr (degr (degr1 v1_3)))] gh7) fun r9 gh10=>unB r9 fun b11=>
  br 37 (!b11) (some (.ret,⟨[(4,B false)],[],gh10⟩)) (isC (degr (degr1 v0_4)) (isC (degr (degr1 v1_4)) (arK (degr (degr (degr1 v0_4))) (arK (degr (degr (degr1 v1_4))) (
  callR gh10 true (callL pg 46 [(degr (degr (degr1 v0_4))),(degr (degr (degr1 v1_4)))] gh10) fun r12 gh13=>unB r12 fun b14=>
  br 44 (!b14) (some (.ret,⟨[(4,B false)],[],gh13⟩)) (
  kR (runL pg q76 ⟨[(2,.ptr false 0 0),(3,.ptr false 1 0),(5,I 0)],[[(degr1 v0_0),(degr1 v0_1),(degr1 v0_2),(degr1 v0_3),(degr1 v0_4)],[(degr1 v1_0),(degr1 v1_1),(degr1 v1_2),(degr1 v1_3),(degr1 v1_4)]],gh13⟩) (fun e s=>nx e s (fun e s=>some (e,s)) fun s=>kR (runL pg q48 s) (fun e s=>some (e,s))))))))))))))))))))))))))))))))))))
theorem qdr_ {v0_0 v0_1:PV} {v0_2 v0_3:PV} {v0_4 v1_0:PV} {v1_1 v1_2:PV} {v1_3 v1_4:PV} (h:qdr pg v0_0 v0_1 v0_2 v0_3 v0_4 v1_0 v1_1 v1_2 v1_3 v1_4 gh=some (e,s)):runL pg qas ⟨[(0,.agg [v0_0,v0_1,v0_2,v0_3,v0_4]),(1,.agg [v1_0,v1_1,v1_2,v1_3,v1_4])],[],gh⟩=some (e,s):=
 jfl q8z (Eq.trans (by kernel_rfl) h)
end
end Go.Lw
end

/-! What the code of function ref_samePairs comes to, piece by piece. Written by program (dprint.py). -/
section
set_option maxRecDepth 10000
set_option maxHeartbeats 4000000
namespace Go.Lw
open Go
noncomputable section
variable {pg:Prg} {gh:List GObj} {e:IExit} {s:St}
def q91:Tr:=(tI 13 (tI 7 (tB 4 (tO 1 (uO 0) .nil) (tO 6 (uI 5) .nil)) (tB 10 (tI 9 (uO 8) .nil) (tO 12 (uI 11) .nil))) (.node 20 (.agg [.int .i64,.int .i64]) (tI 16 (tI 15 (uB 14) .nil) (tI 18 (uO 17) .nil)) (.node 24 (.agg [.int .i64,.int .i64]) (tI 22 (uO 21) .nil) (uB 25))))
def q92 (pg:Prg) (v0 v1:PV) (x5:Int) (gh:List GObj):DR:=isC (degr v0) (lenS (degr (degr v0)) fun n1=>stK 0 v0 (stK 0 v1 (
  br 14 (decide (x5<(n1:Int))) (isC (degr v0) (
  idX 2 none (degr (degr v0)) x5 fun p2=>
  ldX [] gh true 2 (degr p2) fun v3=>unA 2 v3 fun c4 c5=>unI .i64 c4 fun n6=>unI .i64 c5 fun n7=>isC (degr v1) (
  idX 2 none (degr (degr v1)) x5 fun p8=>
  ldX [] gh true 2 (degr p8) fun v9=>unA 2 v9 fun c10 c11=>unI .i64 c10 fun n12=>unI .i64 c11 fun n13=>ob (flatEq [false,false] [I n6,I n7] [I n12,I n13]) fun b14=>stK 0 v0 (stK 0 v1 (
  br 25 (!b14) (some (.ret,⟨[(4,B false)],[],gh⟩)) (stK 0 v0 (stK 0 v1 (stK 0 v0 (stK 0 v1 (some (.normal,⟨[(0,v0),(1,v1),(5,(I (IntKind.i64.wrap (x5+1))))],[],gh⟩))))))))))) (some ((.exit 0),⟨[(0,v0),(1,v1),(5,I x5),(14,(B (decide (x5<(n1:Int)))))],[],gh⟩)))))
theorem q92_ {v0 v1:PV} {x5:Int} (h:q92 pg v0 v1 x5 gh=some (e,s)):runL pg qat ⟨[(0,v0),(1,v1),(5,I x5)],[],gh⟩=some (e,s):=
 jfl q91 (Eq.trans (by kernel_rfl) h)
def qfj (pg:Prg) (gh:List GObj):DR:=some (.ret,⟨[(4,B true)],[],gh⟩)
theorem qfj_ (h:qfj pg gh=some (e,s)):runL pg q49 ⟨[],[],gh⟩=some (e,s):=
 jfl q91 (Eq.trans (by kernel_rfl) h)
def qds (pg:Prg) (v0 v1:PV) (gh:List GObj):DR:=stK 0 v0 (stK 0 v1 (isC (degr v0) (lenS (degr (degr v0)) fun n1=>isC (degr v1) (lenS (degr (degr v1)) fun n2=>stK 0 v0 (stK 0 v1 (
  br 10 ((n1:Int) !=(n2:Int)) (some (.ret,⟨[(4,B false)],[],gh⟩)) (stK 0 v0 (stK 0 v1 (
  kR (runL pg q78 ⟨[(0,v0),(1,v1),(5,I 0)],[],gh⟩) (fun e s=>nx e s (fun e s=>some (e,s)) fun s=>kR (runL pg q49 s) (fun e s=>some (e,s))))))))))))
theorem qds_ {v0 v1:PV} (h:qds pg v0 v1 gh=some (e,s)):runL pg qau ⟨[(0,v0),(1,v1)],[],gh⟩=some (e,s):=
 jfl q91 (Eq.trans (by kernel_rfl) h)
end
end Go.Lw
end

/-! What the code of function law_TextParses comes to, piece by piece. Written by program (dprint.py). -/
section
set_option maxRecDepth 10000
set_option maxHeartbeats 4000000
namespace Go.Lw
open Go
noncomputable section
variable {pg:Prg} {gh:List GObj} {e:IExit} {s:St}
def qfk:Tr:=(tI 20 (.node 11 (.tup 3) (tI 7 (tI 4 (tB 2 (.node 0 (.ce (.str)) .nil .nil) .nil) (uI 5)) (.node 9 (.tup 3) (uI 8) (.node 10 (.ce (.str)) .nil .nil))) (.node 16 (.ce (.str)) (tI 14 (tI 13 (.node 12 (.agg [.any,.any,.any,.any,.any]) .nil .nil) .nil) (.node 15 (.tup 3) .nil .nil)) (.node 18 (.agg [.any,.any,.any,.any,.any]) (.node 17 (.tup 3) .nil .nil) (uI 19)))) (tI 29 (tB 25 (tI 23 (tB 22 (uB 21) .nil) (uI 24)) (tB 27 (uB 26) (uI 28))) (.node 33 (.agg [.any,.any,.any,.any,.any]) (tB 31 (uB 30) (uB 32)) (tB 35 (.node 34 (.agg [.any,.any,.any,.any,.any]) .nil .nil) (uB 36)))))
def qdt (pg:Prg) (s0:ByteArray) (gh:List GObj):DR:=
  callR gh true (callL pg 348 [.str s0] gh) fun r1 gh2=>unT 3 r1 fun r3 r4 r5=>unA 5 (degr1 (degr1 r3)) fun c6 c7 c8 c9 c10=>unI .i64 (degr1 (degr1 r4)) fun n11=>unI .i64 (degr1 (degr1 r5)) fun n12=>onK c6 (onK c7 (onK c8 (onK c9 (onK c10 (
  callR gh2 true (callL pg 370 [.str s0] gh2) fun r13 gh14=>unT 3 r13 fun r15 r16 r17=>unA 5 (degr1 (degr1 r15)) fun c18 c19 c20 c21 c22=>unI .i64 (degr1 (degr1 r16)) fun n23=>unI .i64 (degr1 (degr1 r17)) fun n24=>onK c18 (onK c19 (onK c20 (onK c21 (onK c22 (
  callR gh14 true (callL pg 346 [] gh14) fun r25 gh26=>unB r25 fun b27=>
  br 22 b27 (
  br 27 (n12==n24) (
  br 32 (n11==n23) (onK (degr1 (degr1 c6)) (onK (degr1 (degr1 c7)) (onK (degr1 (degr1 c8)) (onK (degr1 (degr1 c9)) (onK (degr1 (degr1 c10)) (onK (degr1 (degr1 c18)) (onK (degr1 (degr1 c19)) (onK (degr1 (degr1 c20)) (onK (degr1 (degr1 c21)) (onK (degr1 (degr1 c22)) (
  callR gh26 true (callL pg 349 [(.agg [(degr1 (degr1 c6)),(degr1 (degr1 c7)),(degr1 (degr1 c8)),(degr1 (degr1 c9)),(degr1 (degr1 c10))]),(.agg [(degr1 (degr1 c18)),(degr1 (degr1 c19)),(degr1 (degr1 c20)),(degr1 (degr1 c21)),(degr1 (degr1 c22))])] gh26) fun r28 gh29=>unB r28 fun b30=>some (.ret,⟨[(2,B b30)],[],gh29⟩)))))))))))) (some (.ret,⟨[(2,B false)],[],gh26⟩))) (some (.ret,⟨[(2,B false)],[],gh26⟩))) (some (.ret,⟨[(2,B false)],[],gh26⟩))))))))))))
theorem qdt_ {s0:ByteArray} (h:qdt pg s0 gh=some (e,s)):runL pg q93 ⟨[(0,.str s0)],[],gh⟩=some (e,s):=
 jfl qfk (Eq.trans (by kernel_rfl) h)
end
end Go.Lw
end
