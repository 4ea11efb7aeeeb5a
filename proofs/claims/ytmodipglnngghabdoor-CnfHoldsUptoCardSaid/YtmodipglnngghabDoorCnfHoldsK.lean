/-
  The texts that the proof stands on, part 11.
-/
import Derived.Test.YtmodipglnngghabDoorCnfHoldsJ
import Derived.KernelRfl
set_option linter.unusedVariables false
set_option linter.unusedSimpArgs false
set_option linter.unnecessarySimpa false

/-! What the code of function gates_Nodes comes to, piece by piece. Written by program (dprint.py). -/
section
set_option maxRecDepth 10000
set_option maxHeartbeats 4000000
namespace Go.Lw
open Go
noncomputable section
variable {pg:Prg} {gh:List GObj} {e:IExit} {s:St}
def q69:Tr:=(tI 5 (tI 2 (.node 0 (.agg [.int .i64,.any]) .nil .nil) (uI 4)) (tI 8 (uO 7) (uI 9)))
def q5m (pg:Prg) (x0_0:Int) (v0_1:PV) (gh:List GObj):DR:=onK (degr1 v0_1) (isC (degr (degr1 v0_1)) (lenS (degr (degr (degr1 v0_1))) fun n1=>some (.ret,⟨[(2,(I (IntKind.i64.wrap ((IntKind.i64.wrap (1+x0_0))+(n1:Int)))))],[],gh⟩)))
theorem q5m_ {x0_0:Int} {v0_1:PV} (h:q5m pg x0_0 v0_1 gh=some (e,s)):runL pg q4e ⟨[(0,.agg [I x0_0,v0_1])],[],gh⟩=some (e,s):=
 j6y q69 (Eq.trans (by kernel_rfl) h)
end
end Go.Lw
end

/-! What the code of function slices_ContainsFunc_Lint_int comes to, piece by piece. Written by program (dprint.py). -/
section
set_option maxRecDepth 10000
set_option maxHeartbeats 4000000
namespace Go.Lw
open Go
noncomputable section
variable {pg:Prg} {gh:List GObj} {e:IExit} {s:St}
def q6a:Tr:=(tO 5 (tO 1 (uO 0) (uB 4)) (tI 7 (uO 6) (uB 8)))
def q5n (pg:Prg) (v0 v1:PV) (gh:List GObj):DR:=stK 0 v0 (stK 0 v1 (isC (degr v0) (isC (degr v1) (arK (degr (degr v0)) (arK (degr (degr v1)) (
  callR gh true (callL pg 111 [(degr (degr v0)),(degr (degr v1))] gh) fun r1 gh2=>unI .i64 r1 fun n3=>some (.ret,⟨[(4,(B (decide (0≤n3))))],[],gh2⟩)))))))
theorem q5n_ {v0 v1:PV} (h:q5n pg v0 v1 gh=some (e,s)):runL pg q4g ⟨[(0,v0),(1,v1)],[],gh⟩=some (e,s):=
 j6y q6a (Eq.trans (by kernel_rfl) h)
end
end Go.Lw
end

/-! What the code of function slices_IndexFunc_Lint_int comes to, piece by piece. Written by program (dprint.py). -/
section
set_option maxRecDepth 10000
set_option maxHeartbeats 4000000
namespace Go.Lw
open Go
noncomputable section
variable {pg:Prg} {gh:List GObj} {e:IExit} {s:St}
def q36:Tr:=(tI 10 (tO 6 (tI 4 (tO 1 (uO 0) .nil) (uI 5)) (tI 8 (uI 7) (uB 9))) (tI 15 (tO 12 (uO 11) (uI 13)) (tI 17 (uB 16) (uI 18))))
def q1k (pg:Prg) (v0 v1:PV) (x7 x8:Int) (gh:List GObj):DR:=
  br 9 (decide (x8<x7)) (stK 0 v0 (stK 0 v1 (isC (degr v1) (isC (degr v0) (
  idX 1 none (degr (degr v0)) x8 fun p1=>
  ldX [] gh false 1 (degr p1) fun v2=>unI .i64 v2 fun n3=>
  fnX (degr (degr v1)) fun f6 cs7=>allK cs7 (callR gh true (callL pg f6 ([I n3]++cs7) gh) fun r4 gh5=>unB r4 fun b8=>stK 0 v0 (stK 0 v1 (
  br 16 b8 (some (.ret,⟨[(4,I x8)],[],gh5⟩)) (stK 0 v0 (stK 0 v1 (stK 0 v0 (stK 0 v1 (some (.normal,⟨[(0,v0),(1,v1),(7,I x7),(8,(I (IntKind.i64.wrap (x8+1))))],[],gh5⟩)))))))))))))) (some ((.exit 0),⟨[(0,v0),(1,v1),(7,I x7),(8,I x8),(9,(B (decide (x8<x7))))],[],gh⟩))
theorem q1k_ {v0 v1:PV} {x7 x8:Int} (h:q1k pg v0 v1 x7 x8 gh=some (e,s)):runL pg q4i ⟨[(0,v0),(1,v1),(7,I x7),(8,I x8)],[],gh⟩=some (e,s):=
 j6y q36 (Eq.trans (by kernel_rfl) h)
def q6b (pg:Prg) (gh:List GObj):DR:=some (.ret,⟨[(4,(I (-1)))],[],gh⟩)
theorem q6b_ (h:q6b pg gh=some (e,s)):runL pg q2p ⟨[],[],gh⟩=some (e,s):=
 j6y q36 (Eq.trans (by kernel_rfl) h)
def q37 (pg:Prg) (v0 v1:PV) (gh:List GObj):DR:=stK 0 v0 (stK 0 v1 (isC (degr v0) (lenS (degr (degr v0)) fun n1=>stK 0 v0 (stK 0 v1 (
  kR (runL pg q2o ⟨[(0,v0),(1,v1),(7,(I (n1:Int))),(8,I 0)],[],gh⟩) (fun e s=>nx e s (fun e s=>some (e,s)) fun s=>kR (runL pg q2p s) (fun e s=>some (e,s))))))))
theorem q37_ {v0 v1:PV} (h:q37 pg v0 v1 gh=some (e,s)):runL pg q4j ⟨[(0,v0),(1,v1)],[],gh⟩=some (e,s):=
 j6y q36 (Eq.trans (by kernel_rfl) h)
end
end Go.Lw
end

/-! What the code of function gates_Check comes to, piece by piece. Written by program (dprint.py). -/
section
set_option maxRecDepth 10000
set_option maxHeartbeats 4000000
namespace Go.Lw
open Go
noncomputable section
variable {pg:Prg} {gh:List GObj} {e:IExit} {s:St}
def q38:Tr:=(tB 35 (tB 17 (tB 9 (tI 4 (tI 2 (.node 0 (.agg [.int .i64,.any]) .nil .nil) (uO 3)) (tB 8 (uI 7) .nil)) (tB 13 (tB 12 (uI 11) .nil) (tI 16 (uO 15) .nil))) (.node 26 (.agg [.int .i64,.int .i64]) (tI 22 (tO 20 (uO 18) (uI 21)) (tI 24 (uB 23) .nil)) (tB 31 (tI 30 (uI 28) .nil) (tI 34 (uB 32) .nil)))) (tI 51 (tI 44 (tI 40 (tB 37 (uB 36) (uI 39)) (tI 43 (uI 42) .nil)) (tB 47 (tB 46 (uI 45) .nil) (tI 50 (uB 48) .nil))) (tI 59 (tB 56 (tI 54 (uI 53) (uB 55)) (.node 58 (.agg [.int .i64,.int .i64]) (uO 57) .nil)) (tO 63 (tI 61 (uO 60) .nil) (tB 65 (uI 64) .nil)))))
def qe (pg:Prg) (v3 v20:PV) (x21 x22 xc0_0:Int) (vc0_1:PV) (gh:List GObj):DR:=
  br 23 (decide (x22<x21)) (
  idX 2 none (degr v20) x22 fun p1=>
  ldX [[I xc0_0,vc0_1]] gh true 2 (degr p1) fun v2=>unA 2 v2 fun c3 c4=>unI .i64 c3 fun n5=>unI .i64 c4 fun n6=>stK 2 v3 (stK 2 v20 (
  br 32 (decide (n6≤n5)) (stK 2 v3 (stK 2 v20 (some (.ret,⟨[(2,I 4)],[],gh⟩)))) (
  br 37 (decide (n5<2)) (stK 2 v3 (stK 2 v20 (some (.ret,⟨[(2,I 4)],[],gh⟩)))) (gd (decide ((2:Int)≠0)) (
  br 48 (decide ((IntKind.i64.wrap ((IntKind.i64.wrap (1+xc0_0))+x22))≤(IntKind.i64.wrap (Int.tdiv n6 2)))) (stK 2 v3 (stK 2 v20 (some (.ret,⟨[(2,I 4)],[],gh⟩)))) (gd (decide ((2:Int)≠0)) (gd (decide ((2:Int)≠0)) (stK 2 v3 (stK 2 v20 (
  br 56 ((IntKind.i64.wrap (Int.tdiv n5 2))==(IntKind.i64.wrap (Int.tdiv n6 2))) (some (.ret,⟨[(2,I 4)],[],gh⟩)) (isC (degr v3) (
  muX gh 2 (degr (degr v3)) (.agg [I n5,I n6]) (B true) fun gh7=>stK 1 v3 (stK 1 v20 (stK 1 v3 (stK 1 v20 (stK 1 v3 (stK 1 v20 (some (.normal,⟨[(1,.ptr false 0 0),(3,v3),(20,v20),(21,I x21),(22,(I (IntKind.i64.wrap (x22+1))))],[[I xc0_0,vc0_1]],gh7⟩)))))))))))))))))))) (some ((.exit 0),⟨[(1,.ptr false 0 0),(3,v3),(20,v20),(21,I x21),(22,I x22),(23,(B (decide (x22<x21))))],[[I xc0_0,vc0_1]],gh⟩))
theorem qe_ {v3 v20:PV} {x21 x22 xc0_0:Int} {vc0_1:PV} (h:qe pg v3 v20 x21 x22 xc0_0 vc0_1 gh=some (e,s)):runL pg q4a ⟨[(1,.ptr false 0 0),(3,v3),(20,v20),(21,I x21),(22,I x22)],[[I xc0_0,vc0_1]],gh⟩=some (e,s):=
 j6y q38 (Eq.trans (by kernel_rfl) h)
def q39 (pg:Prg) (v3:PV) (xc0_0:Int) (vc0_1:PV) (gh:List GObj):DR:=isC (degr v3) (
  lenM gh (degr (degr v3)) fun n1=>isC (degr vc0_1) (lenS (degr (degr vc0_1)) fun n2=>
  br 65 (decide ((n1:Int)<(n2:Int))) (some (.ret,⟨[(2,I 6)],[],gh⟩)) (some (.ret,⟨[(2,I 0)],[],gh⟩))))
theorem q39_ {v3:PV} {xc0_0:Int} {vc0_1:PV} (h:q39 pg v3 xc0_0 vc0_1 gh=some (e,s)):runL pg q2g ⟨[(1,.ptr false 0 0),(3,v3)],[[I xc0_0,vc0_1]],gh⟩=some (e,s):=
 j6y q38 (Eq.trans (by kernel_rfl) h)
def ql (pg:Prg) (x0_0:Int) (v0_1:PV) (gh:List GObj):DR:=onK (degr1 v0_1) (
  br 9 (decide (x0_0<0)) (some (.ret,⟨[(2,I 3)],[],gh⟩)) (
  br 13 (decide (1000<x0_0)) (some (.ret,⟨[(2,I 3)],[],gh⟩)) (isC (degr (degr1 v0_1)) (lenS (degr (degr (degr1 v0_1))) fun n1=>
  br 17 (decide (1000000<(n1:Int))) (some (.ret,⟨[(2,I 2)],[],gh⟩)) (isC (degr (degr1 v0_1)) (lenS (degr (degr (degr1 v0_1))) fun n2=>stK 1 (degr (degr1 v0_1)) (
  kR (runL pg q1d ⟨[(1,.ptr false 0 0),(3,(.mp (List.length gh))),(20,(degr (degr1 v0_1))),(21,(I (n2:Int))),(22,I 0)],[[I x0_0,(degr1 v0_1)]],(gh++[.map []])⟩) (fun e s=>nx e s (fun e s=>some (e,s)) fun s=>kR (runL pg q2g s) (fun e s=>some (e,s))))))))))
theorem ql_ {x0_0:Int} {v0_1:PV} (h:ql pg x0_0 v0_1 gh=some (e,s)):runL pg q4b ⟨[(0,.agg [I x0_0,v0_1])],[],gh⟩=some (e,s):=
 j6y q38 (Eq.trans (by kernel_rfl) h)
end
end Go.Lw
end

/-! What the code of function gates_Is comes to, piece by piece. Written by program (dprint.py). -/
section
set_option maxRecDepth 10000
set_option maxHeartbeats 4000000
namespace Go.Lw
open Go
noncomputable section
variable {pg:Prg} {gh:List GObj} {e:IExit} {s:St}
def q6c:Tr:=(tO 5 (tG 2 (tO 1 (.node 0 (.agg [.int .i64,.any]) .nil .nil) .nil) (uB 4)) (tB 7 (uO 6) (uB 8)))
def q5o (pg:Prg) (x0_0:Int) (v0_1 v1:PV) (gh:List GObj):DR:=onK (degr1 v0_1) (stK 0 v1 (isC (degr v1) (arK (degr (degr v1)) (
  callR (gh++[.cells [I x0_0,(degr1 v0_1)]]) true (callL pg 86 [(degr (degr v1)),(.fn 85 [(.ptr true (List.length gh) 0)])] (gh++[.cells [I x0_0,(degr1 v0_1)]])) fun r1 gh2=>unB r1 fun b3=>some (.ret,⟨[(4,(B (!b3)))],[],gh2⟩)))))
theorem q5o_ {x0_0:Int} {v0_1 v1:PV} (h:q5o pg x0_0 v0_1 v1 gh=some (e,s)):runL pg q4c ⟨[(0,.agg [I x0_0,v0_1]),(1,v1)],[],gh⟩=some (e,s):=
 j6y q6c (Eq.trans (by kernel_rfl) h)
end
end Go.Lw
end

/-! What the code of function gates_Is_1 comes to, piece by piece. Written by program (dprint.py). -/
section
set_option maxRecDepth 10000
set_option maxHeartbeats 4000000
namespace Go.Lw
open Go
noncomputable section
variable {pg:Prg} {gh:List GObj} {e:IExit} {s:St}
def q6d:Tr:=(tI 7 (tI 4 (tG 1 (uI 0) (uB 3)) (tB 6 (uB 5) .nil)) (tI 10 (tI 9 (.node 8 (.agg [.int .i64,.any]) .nil .nil) .nil) (tB 12 (uB 11) .nil)))
def q3a (pg:Prg) (x0:Int) (g1 o1:Nat) (gh:List GObj):DR:=
  br 6 (decide (x0<0)) (some (.ret,⟨[(3,B true)],[],gh⟩)) (
  ob (ghCells gh g1) fun cs1=>
  ob (grab true 2 o1 cs1) fun v2=>unA 2 (degr v2) fun c3 c4=>unI .i64 c3 fun n5=>onK (degr1 c4) (
  callR gh true (callL pg 88 [(.agg [I n5,(degr1 c4)])] gh) fun r6 gh7=>unI .i64 r6 fun n8=>some (.ret,⟨[(3,(B (decide ((IntKind.i64.wrap (2*n8))≤x0))))],[],gh7⟩)))
theorem q3a_ {x0:Int} {g1 o1:Nat} (h:q3a pg x0 g1 o1 gh=some (e,s)):runL pg q4d ⟨[(0,I x0),(1,.ptr true g1 o1)],[],gh⟩=some (e,s):=
 j6y q6d (Eq.trans (by kernel_rfl) h)
end
end Go.Lw
end

/-! What the code of function cnf_Number comes to, piece by piece. Written by program (dprint.py). -/
section
set_option maxRecDepth 10000
set_option maxHeartbeats 4000000
namespace Go.Lw
open Go
noncomputable section
variable {pg:Prg} {gh:List GObj} {e:IExit} {s:St}
def q6e:Tr:=(tI 9 (tI 5 (tI 1 (uI 0) (uI 4)) (tB 7 (uI 6) (uI 8))) (tI 13 (tI 11 (uI 10) (uI 12)) (tI 15 (uI 14) (uI 16))))
def q3b (pg:Prg) (x0 x1:Int) (gh:List GObj):DR:=gd (decide ((2:Int)≠0)) (
  br 7 ((Int.tmod x0 2)==1) (gd (decide ((2:Int)≠0)) (some (.ret,⟨[(4,(I (IntKind.i64.wrap (0-(IntKind.i64.wrap ((IntKind.i64.wrap (Int.tdiv x0 2))+x1))))))],[],gh⟩))) (gd (decide ((2:Int)≠0)) (some (.ret,⟨[(4,(I (IntKind.i64.wrap ((IntKind.i64.wrap (Int.tdiv x0 2))+x1))))],[],gh⟩))))
theorem q3b_ {x0 x1:Int} (h:q3b pg x0 x1 gh=some (e,s)):runL pg q40 ⟨[(0,I x0),(1,I x1)],[],gh⟩=some (e,s):=
 j6y q6e (Eq.trans (by kernel_rfl) h)
end
end Go.Lw
end

/-! What the code of function cnf_Maker_Add comes to, piece by piece. Written by program (dprint.py). -/
section
set_option maxRecDepth 10000
set_option maxHeartbeats 4000000
namespace Go.Lw
open Go
noncomputable section
variable {pg:Prg} {gh:List GObj} {e:IExit} {s:St}
def q6f:Tr:=(tO 9 (tG 4 (tO 1 (uG 0) .nil) (uG 5)) (tO 11 (uO 10) (uO 12)))
def q5p (pg:Prg) (g0 o0:Nat) (v1:PV) (gh:List GObj):DR:=
  ob (ghCells gh g0) fun cs1=>ob (cs1[((o0+0)+1)]?) fun v2=>isC (degr v1) (arK (degr (degr v1)) (lnK 1 (degr (degr v1)) (
  apX 1 24 v2 (.sl false 1 [(degr (degr v1))]) fun l3=>
  ob (ghCells (List.set gh g0 (.cells (spliceAt cs1 ((o0+0)+1) [degr1 v2]))) g0) fun cs4=>gb (stOk 1 ((o0+0)+1) [.sl true 1 l3] cs4) (some (.normal,⟨[],[],(List.set (List.set gh g0 (.cells (spliceAt cs1 ((o0+0)+1) [degr1 v2]))) g0 (.cells (spliceAt cs4 ((o0+0)+1) [.sl true 1 l3])))⟩)))))
theorem q5p_ {g0 o0:Nat} {v1:PV} (h:q5p pg g0 o0 v1 gh=some (e,s)):runL pg q41 ⟨[(0,.ptr true g0 o0),(1,v1)],[],gh⟩=some (e,s):=
 j6y q6f (Eq.trans (by kernel_rfl) h)
end
end Go.Lw
end

/-! What the code of function cnf_Maker_Ands comes to, piece by piece. Written by program (dprint.py). -/
section
set_option maxRecDepth 10000
set_option maxHeartbeats 4000000
namespace Go.Lw
open Go
noncomputable section
variable {pg:Prg} {gh:List GObj} {e:IExit} {s:St}
def q5q:Tr:=(tI 29 (tB 15 (tI 9 (tI 2 (.node 1 (.agg [.int .i64,.any]) (uG 0) .nil) (tI 8 (uI 6) .nil)) (tI 13 (tO 12 (uI 10) .nil) (uI 14))) (tI 23 (tI 20 (.node 18 (.agg [.int .i64,.int .i64]) (uI 16) .nil) (tI 22 (uI 21) .nil)) (tI 27 (tI 25 (uI 24) .nil) (uI 28)))) (tI 42 (tI 36 (tI 33 (tI 32 (uI 31) .nil) (tI 35 (uG 34) .nil)) (tG 40 (tO 38 (uI 37) .nil) (uI 41))) (tI 49 (tG 46 (tO 44 (uI 43) .nil) (tI 48 (uI 47) .nil)) (tO 52 (tI 51 (uI 50) .nil) (uI 54)))))
def q1l (pg:Prg) (g0 o0:Nat) (x2:Int) (v12:PV) (x13 x14 xc0_0:Int) (vc0_1:PV) (gh:List GObj):DR:=
  br 15 (decide (x14<x13)) (
  idX 2 none (degr v12) x14 fun p1=>
  ldX [[I xc0_0,vc0_1]] gh true 2 (degr p1) fun v2=>unA 2 v2 fun c3 c4=>unI .i64 c3 fun n5=>unI .i64 c4 fun n6=>stK 2 v12 (stK 2 v12 (
  callR gh true (callL pg 90 [I n5,I x2] gh) fun r7 gh8=>unI .i64 r7 fun n9=>
  callR gh8 true (callL pg 90 [I n6,I x2] gh8) fun r10 gh11=>unI .i64 r10 fun n12=>stK 1 v12 (
  callR gh11 false (callL pg 91 [.ptr true g0 o0,(.sl false 1 [(I (IntKind.i64.wrap (0-(IntKind.i64.wrap ((IntKind.i64.wrap ((IntKind.i64.wrap (1+xc0_0))+x14))+x2))))),I n9])] gh11) fun r13 gh14=>stK 1 v12 (
  callR gh14 false (callL pg 91 [.ptr true g0 o0,(.sl false 1 [(I (IntKind.i64.wrap (0-(IntKind.i64.wrap ((IntKind.i64.wrap ((IntKind.i64.wrap (1+xc0_0))+x14))+x2))))),I n12])] gh14) fun r15 gh16=>stK 1 v12 (
  callR gh16 false (callL pg 91 [.ptr true g0 o0,(.sl false 1 [(I (IntKind.i64.wrap ((IntKind.i64.wrap ((IntKind.i64.wrap (1+xc0_0))+x14))+x2))),(I (IntKind.i64.wrap (0-n9))),(I (IntKind.i64.wrap (0-n12)))])] gh16) fun r17 gh18=>stK 1 v12 (stK 1 v12 (stK 1 v12 (some (.normal,⟨[(0,.ptr true g0 o0),(2,I x2),(4,.ptr false 0 0),(12,v12),(13,I x13),(14,(I (IntKind.i64.wrap (x14+1))))],[[I xc0_0,vc0_1]],gh18⟩)))))))))) (some ((.exit 0),⟨[(0,.ptr true g0 o0),(2,I x2),(4,.ptr false 0 0),(12,v12),(13,I x13),(14,I x14),(15,(B (decide (x14<x13))))],[[I xc0_0,vc0_1]],gh⟩))
theorem q1l_ {g0 o0:Nat} {x2:Int} {v12:PV} {x13 x14 xc0_0:Int} {vc0_1:PV} (h:q1l pg g0 o0 x2 v12 x13 x14 xc0_0 vc0_1 gh=some (e,s)):runL pg q3u ⟨[(0,.ptr true g0 o0),(2,I x2),(4,.ptr false 0 0),(12,v12),(13,I x13),(14,I x14)],[[I xc0_0,vc0_1]],gh⟩=some (e,s):=
 j6y q5q (Eq.trans (by kernel_rfl) h)
def q5r (pg:Prg) (g0 o0:Nat) (x1_0:Int) (v1_1:PV) (x2:Int) (gh:List GObj):DR:=onK (degr1 v1_1) (isC (degr (degr1 v1_1)) (lenS (degr (degr (degr1 v1_1))) fun n1=>stK 1 (degr (degr1 v1_1)) (
  kR (runL pg q23 ⟨[(0,.ptr true g0 o0),(2,I x2),(4,.ptr false 0 0),(12,(degr (degr1 v1_1))),(13,(I (n1:Int))),(14,I 0)],[[I x1_0,(degr1 v1_1)]],gh⟩) (fun e s=>some (e,s)))))
theorem q5r_ {g0 o0:Nat} {x1_0:Int} {v1_1:PV} {x2:Int} (h:q5r pg g0 o0 x1_0 v1_1 x2 gh=some (e,s)):runL pg q3v ⟨[(0,.ptr true g0 o0),(1,.agg [I x1_0,v1_1]),(2,I x2)],[],gh⟩=some (e,s):=
 j6y q5q (Eq.trans (by kernel_rfl) h)
end
end Go.Lw
end

/-! What the code of function cnf_Maker_Must comes to, piece by piece. Written by program (dprint.py). -/
section
set_option maxRecDepth 10000
set_option maxHeartbeats 4000000
namespace Go.Lw
open Go
noncomputable section
variable {pg:Prg} {gh:List GObj} {e:IExit} {s:St}
def q6g:Tr:=(tI 10 (tI 6 (tI 1 (uG 0) (uI 2)) (tI 8 (uG 7) (uI 9))) (tB 15 (tB 13 (uO 11) (uB 14)) (tG 17 (uB 16) .nil)))
def q1m (pg:Prg) (g0 o0:Nat) (x1 x2:Int) (gh:List GObj):DR:=
  br 13 (x1==1) (some (.normal,⟨[],[],gh⟩)) (
  br 15 (x1==0) (
  callR gh false (callL pg 91 [.ptr true g0 o0,.sl false 1 []] gh) fun r1 gh2=>some (.normal,⟨[],[],gh2⟩)) (
  callR gh true (callL pg 90 [I x1,I x2] gh) fun r3 gh4=>unI .i64 r3 fun n5=>
  callR gh4 false (callL pg 91 [.ptr true g0 o0,.sl false 1 [I n5]] gh4) fun r6 gh7=>some (.normal,⟨[],[],gh7⟩)))
theorem q1m_ {g0 o0:Nat} {x1 x2:Int} (h:q1m pg g0 o0 x1 x2 gh=some (e,s)):runL pg q25 ⟨[(0,.ptr true g0 o0),(1,I x1),(2,I x2)],[],gh⟩=some (e,s):=
 j6y q6g (Eq.trans (by kernel_rfl) h)
end
end Go.Lw
end

/-! What the code of function cnf_one comes to, piece by piece. Written by program (dprint.py). -/
section
set_option maxRecDepth 10000
set_option maxHeartbeats 4000000
namespace Go.Lw
open Go
noncomputable section
variable {pg:Prg} {gh:List GObj} {e:IExit} {s:St}
def q6h:Tr:=(tI 6 (tG 2 (tO 1 (uI 0) .nil) (tO 5 (uI 4) .nil)) (tO 9 (tO 8 (uB 7) .nil) (uB 10)))
def q1n (pg:Prg) (x0:Int) (v1:PV) (gh:List GObj):DR:=stK 0 v1 (isC (degr v1) (lenS (degr (degr v1)) fun n1=>stK 0 v1 (
  br 7 (decide (200<(n1:Int))) (some (.ret,⟨[(4,I 2)],[],(gh++[.cells [I x0]])⟩)) (isC (degr v1) (arK (degr (degr v1)) (
  callR (gh++[.cells [I x0]]) true (callL pg 86 [(degr (degr v1)),(.fn 113 [(.ptr true (List.length gh) 0)])] (gh++[.cells [I x0]])) fun r2 gh3=>unB r2 fun b4=>
  br 10 b4 (some (.ret,⟨[(4,I 5)],[],gh3⟩)) (some (.ret,⟨[(4,I 0)],[],gh3⟩))))))))
theorem q1n_ {x0:Int} {v1:PV} (h:q1n pg x0 v1 gh=some (e,s)):runL pg q42 ⟨[(0,I x0),(1,v1)],[],gh⟩=some (e,s):=
 j6y q6h (Eq.trans (by kernel_rfl) h)
end
end Go.Lw
end

/-! What the code of function cnf_one_1 comes to, piece by piece. Written by program (dprint.py). -/
section
set_option maxRecDepth 10000
set_option maxHeartbeats 4000000
namespace Go.Lw
open Go
noncomputable section
variable {pg:Prg} {gh:List GObj} {e:IExit} {s:St}
def q6i:Tr:=(tB 9 (tB 5 (tB 3 (tG 1 (uI 0) .nil) (uI 4)) (tI 7 (uB 6) (uI 8))) (tI 13 (tB 11 (uB 10) (uI 12)) (tB 15 (uI 14) (uB 16))))
def q1o (pg:Prg) (x0:Int) (g1 o1:Nat) (gh:List GObj):DR:=
  br 6 (x0==0) (some (.ret,⟨[(3,B true)],[],gh⟩)) (
  ob (ghCells gh g1) fun cs1=>
  ob (grab false 1 o1 cs1) fun v2=>unI .i64 (degr v2) fun n3=>
  br 11 (decide (n3<x0)) (some (.ret,⟨[(3,B true)],[],gh⟩)) (
  ob (ghCells gh g1) fun cs4=>
  ob (grab false 1 o1 cs4) fun v5=>unI .i64 (degr v5) fun n6=>some (.ret,⟨[(3,(B (decide (x0<(IntKind.i64.wrap (0-n6))))))],[],gh⟩)))
theorem q1o_ {x0:Int} {g1 o1:Nat} (h:q1o pg x0 g1 o1 gh=some (e,s)):runL pg q45 ⟨[(0,I x0),(1,.ptr true g1 o1)],[],gh⟩=some (e,s):=
 j6y q6i (Eq.trans (by kernel_rfl) h)
end
end Go.Lw
end

/-! What the code of function cnf_Check comes to, piece by piece. Written by program (dprint.py). -/
section
set_option maxRecDepth 10000
set_option maxHeartbeats 4000000
namespace Go.Lw
open Go
noncomputable section
variable {pg:Prg} {gh:List GObj} {e:IExit} {s:St}
def q3c:Tr:=(tB 17 (tB 9 (tI 5 (tI 2 (.node 0 (.agg [.int .i64,.any]) .nil .nil) (uO 4)) (tB 8 (uI 7) .nil)) (tB 13 (tB 12 (uI 11) .nil) (tI 16 (uO 15) .nil))) (tO 27 (tB 22 (tI 20 (uO 19) (uI 21)) (tI 26 (uO 24) .nil)) (tB 30 (tI 29 (uI 28) .nil) (tI 32 (uI 31) .nil))))
def q1p (pg:Prg) (v19:PV) (x20 x21 xc0_0:Int) (vc0_1:PV) (gh:List GObj):DR:=
  br 22 (decide (x21<x20)) (
  idX 1 none (degr v19) x21 fun p1=>
  ldX [[I xc0_0,vc0_1]] gh false 1 (degr p1) fun v2=>isC v2 (stK 1 v2 (stK 1 v19 (isC (degr v2) (arK (degr (degr v2)) (
  callR gh true (callL pg 94 [I xc0_0,(degr (degr v2))] gh) fun r3 gh4=>unI .i64 r3 fun n5=>stK 1 v19 (stK 1 v19 (
  br 30 (n5 !=0) (some (.ret,⟨[(2,I n5)],[],gh4⟩)) (stK 1 v19 (stK 1 v19 (some (.normal,⟨[(1,.ptr false 0 0),(19,v19),(20,I x20),(21,(I (IntKind.i64.wrap (x21+1))))],[[I xc0_0,vc0_1]],gh4⟩)))))))))))) (some ((.exit 0),⟨[(1,.ptr false 0 0),(19,v19),(20,I x20),(21,I x21),(22,(B (decide (x21<x20))))],[[I xc0_0,vc0_1]],gh⟩))
theorem q1p_ {v19:PV} {x20 x21 xc0_0:Int} {vc0_1:PV} (h:q1p pg v19 x20 x21 xc0_0 vc0_1 gh=some (e,s)):runL pg q3x ⟨[(1,.ptr false 0 0),(19,v19),(20,I x20),(21,I x21)],[[I xc0_0,vc0_1]],gh⟩=some (e,s):=
 j6y q3c (Eq.trans (by kernel_rfl) h)
def q6j (pg:Prg) (gh:List GObj):DR:=some (.ret,⟨[(2,I 0)],[],gh⟩)
theorem q6j_ (h:q6j pg gh=some (e,s)):runL pg q28 ⟨[],[],gh⟩=some (e,s):=
 j6y q3c (Eq.trans (by kernel_rfl) h)
def qn (pg:Prg) (x0_0:Int) (v0_1:PV) (gh:List GObj):DR:=onK (degr1 v0_1) (
  br 9 (decide (x0_0<0)) (some (.ret,⟨[(2,I 3)],[],gh⟩)) (
  br 13 (decide (200000<x0_0)) (some (.ret,⟨[(2,I 3)],[],gh⟩)) (isC (degr (degr1 v0_1)) (lenS (degr (degr (degr1 v0_1))) fun n1=>
  br 17 (decide (800000<(n1:Int))) (some (.ret,⟨[(2,I 2)],[],gh⟩)) (isC (degr (degr1 v0_1)) (lenS (degr (degr (degr1 v0_1))) fun n2=>stK 1 (degr (degr1 v0_1)) (
  kR (runL pg q27 ⟨[(1,.ptr false 0 0),(19,(degr (degr1 v0_1))),(20,(I (n2:Int))),(21,I 0)],[[I x0_0,(degr1 v0_1)]],gh⟩) (fun e s=>nx e s (fun e s=>some (e,s)) fun s=>kR (runL pg q28 s) (fun e s=>some (e,s))))))))))
theorem qn_ {x0_0:Int} {v0_1:PV} (h:qn pg x0_0 v0_1 gh=some (e,s)):runL pg q3y ⟨[(0,.agg [I x0_0,v0_1])],[],gh⟩=some (e,s):=
 j6y q3c (Eq.trans (by kernel_rfl) h)
end
end Go.Lw
end

/-! What the code of function cnf_Done comes to, piece by piece. Written by program (dprint.py). -/
section
set_option maxRecDepth 10000
set_option maxHeartbeats 4000000
namespace Go.Lw
open Go
noncomputable section
variable {pg:Prg} {gh:List GObj} {e:IExit} {s:St}
def q6k:Tr:=(tI 7 (tI 4 (tI 3 (.node 0 (.agg [.int .i64,.any]) .nil .nil) .nil) (tI 6 (.node 5 (.agg [.int .i64,.any]) .nil .nil) .nil)) (tI 10 (.node 9 (.agg [.int .i64,.any]) (uB 8) .nil) (.node 11 (.agg [.int .i64,.any]) .nil .nil)))
def q3d (pg:Prg) (x0_0:Int) (v0_1:PV) (gh:List GObj):DR:=onK (degr1 v0_1) (onK (degr1 (degr1 (degr1 v0_1))) (
  callR gh true (callL pg 59 [(.agg [I x0_0,(degr1 (degr1 (degr1 v0_1)))])] gh) fun r1 gh2=>unI .i64 r1 fun n3=>
  br 8 (n3 !=0) (some (.ret,⟨[(2,.ptr false 1 0),(3,I n3)],[[I x0_0,(degr1 v0_1)],[I 0,.sl true 1 []]],gh2⟩)) (onK (degr1 (degr1 v0_1)) (some (.ret,⟨[(2,.ptr false 1 0),(3,I 0)],[[I x0_0,(degr1 v0_1)],[I x0_0,(degr1 (degr1 v0_1))]],gh2⟩)))))
theorem q3d_ {x0_0:Int} {v0_1:PV} (h:q3d pg x0_0 v0_1 gh=some (e,s)):runL pg q3w ⟨[(0,.agg [I x0_0,v0_1])],[],gh⟩=some (e,s):=
 j6y q6k (Eq.trans (by kernel_rfl) h)
end
end Go.Lw
end

/-! What the code of function cnf_Of comes to, piece by piece. Written by program (dprint.py). -/
section
set_option maxRecDepth 10000
set_option maxHeartbeats 4000000
namespace Go.Lw
open Go
noncomputable section
variable {pg:Prg} {gh:List GObj} {e:IExit} {s:St}
def q3e:Tr:=(tI 25 (tB 13 (tG 7 (tI 5 (tO 1 (.node 0 (.agg [.int .i64,.any]) .nil .nil) .nil) (uI 6)) (tI 11 (.node 10 (.agg [.int .i64,.any]) (uI 9) .nil) (uI 12))) (tB 18 (.node 16 (.agg [.int .i64,.any]) (tI 15 (.node 14 (.agg [.int .i64,.any]) .nil .nil) .nil) (uO 17)) (tI 22 (.node 20 (.agg [.int .i64,.any]) (uB 19) .nil) (uO 24)))) (tB 36 (tG 30 (.node 28 (.agg [.int .i64,.any]) (.node 27 (.agg [.int .i64,.any]) (uI 26) .nil) (uG 29)) (tI 34 (tO 33 (.node 31 (.agg [.int .i64,.any]) .nil .nil) .nil) (uI 35))) (tG 43 (tI 40 (tG 39 (uI 38) .nil) (uI 42)) (.node 48 (.agg [.int .i64,.any]) (.node 47 (.tup 2) (.node 46 (.agg [.int .i64,.any]) .nil .nil) .nil) (uI 49)))))
def q3f (pg:Prg) (g7 o7:Nat) (v33:PV) (x34 x35 xc0_0:Int) (vc0_1:PV) (xc1_0:Int) (vc1_1:PV) (gh:List GObj):DR:=
  br 36 (decide (x35<x34)) (
  idX 1 none (degr v33) x35 fun p1=>
  ldX [[I xc0_0,vc0_1],[I xc1_0,vc1_1]] gh false 1 (degr p1) fun v2=>unI .i64 v2 fun n3=>stK 2 v33 (
  callR gh false (callL pg 54 [.ptr true g7 o7,I n3,I 0] gh) fun r4 gh5=>stK 2 v33 (stK 2 v33 (stK 2 v33 (some (.normal,⟨[(4,.ptr false 1 0),(7,.ptr true g7 o7),(33,v33),(34,I x34),(35,(I (IntKind.i64.wrap (x35+1))))],[[I xc0_0,vc0_1],[I xc1_0,vc1_1]],gh5⟩)))))) (some ((.exit 0),⟨[(4,.ptr false 1 0),(7,.ptr true g7 o7),(33,v33),(34,I x34),(35,I x35),(36,(B (decide (x35<x34))))],[[I xc0_0,vc0_1],[I xc1_0,vc1_1]],gh⟩))
theorem q3f_ {g7 o7:Nat} {v33:PV} {x34 x35 xc0_0:Int} {vc0_1:PV} {xc1_0:Int} {vc1_1:PV} (h:q3f pg g7 o7 v33 x34 x35 xc0_0 vc0_1 xc1_0 vc1_1 gh=some (e,s)):runL pg q3r ⟨[(4,.ptr false 1 0),(7,.ptr true g7 o7),(33,v33),(34,I x34),(35,I x35)],[[I xc0_0,vc0_1],[I xc1_0,vc1_1]],gh⟩=some (e,s):=
 j6y q3e (Eq.trans (by kernel_rfl) h)
def q5s (pg:Prg) (g7 o7:Nat) (xc0_0:Int) (vc0_1:PV) (xc1_0:Int) (vc1_1:PV) (gh:List GObj):DR:=
  ob (ghCells gh g7) fun cs1=>
  ob (grab true 2 (o7+0) cs1) fun v2=>unA 2 (degr v2) fun c3 c4=>unI .i64 c3 fun n5=>onK (degr1 c4) (
  callR gh true (callL pg 55 [(.agg [I n5,(degr1 c4)])] gh) fun r6 gh7=>unT 2 r6 fun r8 r9=>unA 2 (degr1 r8) fun c10 c11=>unI .i64 c10 fun n12=>unI .i64 (degr1 r9) fun n13=>onK c11 (some (.ret,⟨[(4,.ptr false 1 0),(5,I n13)],[[I xc0_0,vc0_1],[I n12,c11]],gh7⟩)))
theorem q5s_ {g7 o7:Nat} {xc0_0:Int} {vc0_1:PV} {xc1_0:Int} {vc1_1:PV} (h:q5s pg g7 o7 xc0_0 vc0_1 xc1_0 vc1_1 gh=some (e,s)):runL pg q22 ⟨[(4,.ptr false 1 0),(7,.ptr true g7 o7)],[[I xc0_0,vc0_1],[I xc1_0,vc1_1]],gh⟩=some (e,s):=
 j6y q3e (Eq.trans (by kernel_rfl) h)
def q1q (pg:Prg) (x0_0:Int) (v0_1 v1:PV) (gh:List GObj):DR:=onK (degr1 v0_1) (stK 2 v1 (onK (degr1 (degr1 (degr1 v0_1))) (
  callR gh true (callL pg 6 [(.agg [I x0_0,(degr1 (degr1 (degr1 v0_1)))])] gh) fun r1 gh2=>unI .i64 r1 fun n3=>stK 2 v1 (stK 2 v1 (
  br 13 (n3 !=0) (some (.ret,⟨[(4,.ptr false 1 0),(5,I n3)],[[I x0_0,(degr1 v0_1)],[I 0,.sl true 1 []]],gh2⟩)) (isC (degr v1) (onK (degr1 (degr1 (degr1 v0_1))) (arK (degr (degr v1)) (
  callR gh2 true (callL pg 47 [(.agg [I x0_0,(degr1 (degr1 (degr1 v0_1)))]),(degr (degr v1))] gh2) fun r4 gh5=>unB r4 fun b6=>stK 2 v1 (
  br 19 (!b6) (some (.ret,⟨[(4,.ptr false 1 0),(5,I 5)],[[I x0_0,(degr1 v0_1)],[I 0,.sl true 1 []]],gh5⟩)) (isC (degr (degr1 v0_1)) (lenS (degr (degr (degr1 v0_1))) fun n7=>stK 2 v1 (onK (degr1 (degr1 (degr1 v0_1))) (
  callR (gh5++[.cells [(I (IntKind.i64.wrap (x0_0+(n7:Int)))),.sl true 1 []]]) false (callL pg 53 [(.ptr true (List.length gh5) 0),(.agg [I x0_0,(degr1 (degr1 (degr1 v0_1)))]),I 0] (gh5++[.cells [(I (IntKind.i64.wrap (x0_0+(n7:Int)))),.sl true 1 []]])) fun r8 gh9=>stK 2 v1 (isC (degr v1) (lenS (degr (degr v1)) fun n10=>stK 2 (degr v1) (
  kR (runL pg q21 ⟨[(4,.ptr false 1 0),(7,(.ptr true (List.length gh5) 0)),(33,(degr v1)),(34,(I (n10:Int))),(35,I 0)],[[I x0_0,(degr1 v0_1)],[I 0,.sl true 1 []]],gh9⟩) (fun e s=>nx e s (fun e s=>some (e,s)) fun s=>kR (runL pg q22 s) (fun e s=>some (e,s))))))))))))))))))))
theorem q1q_ {x0_0:Int} {v0_1 v1:PV} (h:q1q pg x0_0 v0_1 v1 gh=some (e,s)):runL pg q3s ⟨[(0,.agg [I x0_0,v0_1]),(1,v1)],[],gh⟩=some (e,s):=
 j6y q3e (Eq.trans (by kernel_rfl) h)
end
end Go.Lw
end

/-! What the code of function ref_between comes to, piece by piece. Written by program (dprint.py). -/
section
set_option maxRecDepth 10000
set_option maxHeartbeats 4000000
namespace Go.Lw
open Go
noncomputable section
variable {pg:Prg} {gh:List GObj} {e:IExit} {s:St}
def q6l:Tr:=(tB 9 (tB 6 (tI 1 (uI 0) (uI 2)) (tI 8 (uI 7) .nil)) (tI 12 (tI 11 (uB 10) .nil) (tB 14 (uB 13) .nil)))
def q3g (pg:Prg) (x0 x1 x2:Int) (gh:List GObj):DR:=
  br 10 (decide (x1≤x0)) (some (.ret,⟨[(6,(B (decide (x0≤x2))))],[],gh⟩)) (some (.ret,⟨[(6,B false)],[],gh⟩))
theorem q3g_ {x0 x1 x2:Int} (h:q3g pg x0 x1 x2 gh=some (e,s)):runL pg q4m ⟨[(0,I x0),(1,I x1),(2,I x2)],[],gh⟩=some (e,s):=
 j6y q6l (Eq.trans (by kernel_rfl) h)
end
end Go.Lw
end

/-! What the code of function ref_CheckClause comes to, piece by piece. Written by program (dprint.py). -/
section
set_option maxRecDepth 10000
set_option maxHeartbeats 4000000
namespace Go.Lw
open Go
noncomputable section
variable {pg:Prg} {gh:List GObj} {e:IExit} {s:St}
def q3h:Tr:=(tB 19 (tO 10 (tO 6 (tI 4 (tO 1 (uI 0) .nil) (uI 5)) (tB 8 (uI 7) (uI 9))) (tI 14 (tB 12 (uI 11) (uI 13)) (tI 16 (uO 15) (uI 18)))) (tB 28 (tI 24 (tO 21 (uB 20) (uI 22)) (tB 26 (uI 25) (uB 27))) (tI 33 (tI 30 (uO 29) (uI 32)) (tB 35 (uI 34) (uB 36)))))
def qo (pg:Prg) (x0:Int) (v1:PV) (x5:Int) (gh:List GObj):DR:=isC (degr v1) (lenS (degr (degr v1)) fun n1=>stK 0 v1 (
  br 12 (decide (x5<(n1:Int))) (isC (degr v1) (
  idX 1 none (degr (degr v1)) x5 fun p2=>
  ldX [] gh false 1 (degr p2) fun v3=>unI .i64 v3 fun n4=>
  br 20 (n4==0) (stK 0 v1 (some (.ret,⟨[(4,I 5)],[],gh⟩))) (isC (degr v1) (
  idX 1 none (degr (degr v1)) x5 fun p5=>
  ldX [] gh false 1 (degr p5) fun v6=>unI .i64 v6 fun n7=>
  br 28 (decide (x0<n7)) (stK 0 v1 (some (.ret,⟨[(4,I 5)],[],gh⟩))) (isC (degr v1) (
  idX 1 none (degr (degr v1)) x5 fun p8=>
  ldX [] gh false 1 (degr p8) fun v9=>unI .i64 v9 fun n10=>stK 0 v1 (
  br 36 (decide (n10<(IntKind.i64.wrap (0-x0)))) (some (.ret,⟨[(4,I 5)],[],gh⟩)) (stK 0 v1 (stK 0 v1 (some (.normal,⟨[(0,I x0),(1,v1),(5,(I (IntKind.i64.wrap (x5+1))))],[],gh⟩))))))))))) (some ((.exit 0),⟨[(0,I x0),(1,v1),(5,I x5),(12,(B (decide (x5<(n1:Int)))))],[],gh⟩))))
theorem qo_ {x0:Int} {v1:PV} {x5:Int} (h:qo pg x0 v1 x5 gh=some (e,s)):runL pg q4p ⟨[(0,I x0),(1,v1),(5,I x5)],[],gh⟩=some (e,s):=
 j6y q3h (Eq.trans (by kernel_rfl) h)
def q6m (pg:Prg) (gh:List GObj):DR:=some (.ret,⟨[(4,I 0)],[],gh⟩)
theorem q6m_ (h:q6m pg gh=some (e,s)):runL pg q2v ⟨[],[],gh⟩=some (e,s):=
 j6y q3h (Eq.trans (by kernel_rfl) h)
def q1r (pg:Prg) (x0:Int) (v1:PV) (gh:List GObj):DR:=stK 0 v1 (isC (degr v1) (lenS (degr (degr v1)) fun n1=>stK 0 v1 (
  br 8 (decide (200<(n1:Int))) (some (.ret,⟨[(4,I 2)],[],gh⟩)) (stK 0 v1 (
  kR (runL pg q2u ⟨[(0,I x0),(1,v1),(5,I 0)],[],gh⟩) (fun e s=>nx e s (fun e s=>some (e,s)) fun s=>kR (runL pg q2v s) (fun e s=>some (e,s))))))))
theorem q1r_ {x0:Int} {v1:PV} (h:q1r pg x0 v1 gh=some (e,s)):runL pg q4q ⟨[(0,I x0),(1,v1)],[],gh⟩=some (e,s):=
 j6y q3h (Eq.trans (by kernel_rfl) h)
end
end Go.Lw
end

/-! What the code of function ref_CheckClauses comes to, piece by piece. Written by program (dprint.py). -/
section
set_option maxRecDepth 10000
set_option maxHeartbeats 4000000
namespace Go.Lw
open Go
noncomputable section
variable {pg:Prg} {gh:List GObj} {e:IExit} {s:St}
def q3i:Tr:=(tI 16 (tB 8 (tI 4 (tI 2 (.node 0 (.agg [.int .i64,.any]) .nil .nil) (uI 3)) (tB 7 (uI 6) .nil)) (tB 12 (tI 11 (uO 10) .nil) (tO 15 (uI 13) .nil))) (tI 24 (tI 19 (tI 18 (uB 17) .nil) (tO 23 (uI 21) .nil)) (tI 28 (tI 27 (uO 26) .nil) (tI 30 (uB 29) .nil))))
def q1s (pg:Prg) (x3 xc0_0:Int) (vc0_1:PV) (gh:List GObj):DR:=isC (degr vc0_1) (lenS (degr (degr vc0_1)) fun n1=>
  br 17 (decide (x3<(n1:Int))) (isC (degr vc0_1) (
  idX 1 none (degr (degr vc0_1)) x3 fun p2=>
  ldX [[I xc0_0,vc0_1]] gh false 1 (degr p2) fun v3=>isC v3 (arK (degr v3) (
  callR gh true (callL pg 112 [I xc0_0,(degr v3)] gh) fun r4 gh5=>unI .i64 r4 fun n6=>
  br 29 (n6 !=0) (some (.ret,⟨[(2,I n6)],[],gh5⟩)) (some (.normal,⟨[(1,.ptr false 0 0),(3,(I (IntKind.i64.wrap (x3+1))))],[[I xc0_0,vc0_1]],gh5⟩)))))) (some ((.exit 0),⟨[(1,.ptr false 0 0),(3,I x3),(17,(B (decide (x3<(n1:Int)))))],[[I xc0_0,vc0_1]],gh⟩)))
theorem q1s_ {x3 xc0_0:Int} {vc0_1:PV} (h:q1s pg x3 xc0_0 vc0_1 gh=some (e,s)):runL pg q4n ⟨[(1,.ptr false 0 0),(3,I x3)],[[I xc0_0,vc0_1]],gh⟩=some (e,s):=
 j6y q3i (Eq.trans (by kernel_rfl) h)
def q6n (pg:Prg) (gh:List GObj):DR:=some (.ret,⟨[(2,I 0)],[],gh⟩)
theorem q6n_ (h:q6n pg gh=some (e,s)):runL pg q2t ⟨[],[],gh⟩=some (e,s):=
 j6y q3i (Eq.trans (by kernel_rfl) h)
def q1a (pg:Prg) (x0_0:Int) (v0_1:PV) (gh:List GObj):DR:=onK (degr1 v0_1) (
  callR gh true (callL pg 50 [I x0_0,I 0,I 200000] gh) fun r1 gh2=>unB r1 fun b3=>
  br 8 (!b3) (some (.ret,⟨[(2,I 3)],[],gh2⟩)) (isC (degr (degr1 v0_1)) (lenS (degr (degr (degr1 v0_1))) fun n4=>
  br 12 (decide (800000<(n4:Int))) (some (.ret,⟨[(2,I 2)],[],gh2⟩)) (
  kR (runL pg q2s ⟨[(1,.ptr false 0 0),(3,I 0)],[[I x0_0,(degr1 v0_1)]],gh2⟩) (fun e s=>nx e s (fun e s=>some (e,s)) fun s=>kR (runL pg q2t s) (fun e s=>some (e,s)))))))
theorem q1a_ {x0_0:Int} {v0_1:PV} (h:q1a pg x0_0 v0_1 gh=some (e,s)):runL pg q4o ⟨[(0,.agg [I x0_0,v0_1])],[],gh⟩=some (e,s):=
 j6y q3i (Eq.trans (by kernel_rfl) h)
end
end Go.Lw
end

/-! What the code of function cnf_abs comes to, piece by piece. Written by program (dprint.py). -/
section
set_option maxRecDepth 10000
set_option maxHeartbeats 4000000
namespace Go.Lw
open Go
noncomputable section
variable {pg:Prg} {gh:List GObj} {e:IExit} {s:St}
def q6o:Tr:=(tI 4 (tI 2 (uI 0) (uI 3)) (tI 6 (uI 5) .nil))
def q5t (pg:Prg) (x0:Int) (gh:List GObj):DR:=some (.ret,⟨[(2,(I (if (IntKind.i64.wrap (0-x0))>x0 then (IntKind.i64.wrap (0-x0)) else x0)))],[],gh⟩)
theorem q5t_ {x0:Int} (h:q5t pg x0 gh=some (e,s)):runL pg q46 ⟨[(0,I x0)],[],gh⟩=some (e,s):=
 j6y q6o (Eq.trans (by kernel_rfl) h)
end
end Go.Lw
end

/-! What the code of function cnf_Hold comes to, piece by piece. Written by program (dprint.py). -/
section
set_option maxRecDepth 10000
set_option maxHeartbeats 4000000
namespace Go.Lw
open Go
noncomputable section
variable {pg:Prg} {gh:List GObj} {e:IExit} {s:St}
def q6p:Tr:=(tO 6 (tG 3 (tO 1 (.node 0 (.agg [.int .i64,.any]) .nil .nil) .nil) (tG 5 (uB 4) .nil)) (tB 10 (tO 9 (uO 8) .nil) (uB 11)))
def q5u (pg:Prg) (x0_0:Int) (v0_1 v1:PV) (gh:List GObj):DR:=onK (degr1 v0_1) (arK (degr v1) (isC (degr v1) (
  ob (ghCells ((gh++[.cells [(degr v1)]])++[.cells [.nilf]]) (List.length (gh++[.cells [(degr v1)]]))) fun cs1=>gb (stOk 1 0 [(.fn 98 [(.ptr true (List.length gh) 0)])] cs1) (isC (degr (degr1 v0_1)) (arK (degr (degr (degr1 v0_1))) (
  callR (List.set ((gh++[.cells [(degr v1)]])++[.cells [.nilf]]) (List.length (gh++[.cells [(degr v1)]])) (.cells (spliceAt cs1 0 [(.fn 98 [(.ptr true (List.length gh) 0)])]))) true (callL pg 100 [(degr (degr (degr1 v0_1))),(.fn 99 [(.ptr true (List.length (gh++[.cells [(degr v1)]])) 0)])] (List.set ((gh++[.cells [(degr v1)]])++[.cells [.nilf]]) (List.length (gh++[.cells [(degr v1)]])) (.cells (spliceAt cs1 0 [(.fn 98 [(.ptr true (List.length gh) 0)])])))) fun r2 gh3=>unB r2 fun b4=>some (.ret,⟨[(4,(B (!b4)))],[],gh3⟩)))))))
theorem q5u_ {x0_0:Int} {v0_1 v1:PV} (h:q5u pg x0_0 v0_1 v1 gh=some (e,s)):runL pg q3z ⟨[(0,.agg [I x0_0,v0_1]),(1,v1)],[],gh⟩=some (e,s):=
 j6y q6p (Eq.trans (by kernel_rfl) h)
end
end Go.Lw
end

/-! What the code of function cnf_Hold_1 comes to, piece by piece. Written by program (dprint.py). -/
section
set_option maxRecDepth 10000
set_option maxHeartbeats 4000000
namespace Go.Lw
open Go
noncomputable section
variable {pg:Prg} {gh:List GObj} {e:IExit} {s:St}
def q6q:Tr:=(tI 6 (tB 3 (tG 1 (uI 0) .nil) (tI 5 (uO 4) .nil)) (tI 10 (tB 9 (uI 7) .nil) (tB 12 (uB 11) .nil)))
def q5v (pg:Prg) (x0:Int) (g1 o1:Nat) (gh:List GObj):DR:=
  ob (ghCells gh g1) fun cs1=>
  ob (grab false 1 o1 cs1) fun v2=>isC (degr v2) (
  callR gh true (callL pg 116 [I x0] gh) fun r3 gh4=>unI .i64 r3 fun n5=>
  idX 1 none (degr (degr v2)) (IntKind.i64.wrap (n5-1)) fun p6=>
  ldX [] gh4 false 1 (degr p6) fun v7=>unB v7 fun b8=>some (.ret,⟨[(3,(B (b8==(decide (0<x0)))))],[],gh4⟩))
theorem q5v_ {x0:Int} {g1 o1:Nat} (h:q5v pg x0 g1 o1 gh=some (e,s)):runL pg q43 ⟨[(0,I x0),(1,.ptr true g1 o1)],[],gh⟩=some (e,s):=
 j6y q6q (Eq.trans (by kernel_rfl) h)
end
end Go.Lw
end

/-! What the code of function cnf_Hold_2 comes to, piece by piece. Written by program (dprint.py). -/
section
set_option maxRecDepth 10000
set_option maxHeartbeats 4000000
namespace Go.Lw
open Go
noncomputable section
variable {pg:Prg} {gh:List GObj} {e:IExit} {s:St}
def q6r:Tr:=(tO 4 (tG 1 (uO 0) (uB 3)) (tB 6 (uO 5) (uB 7)))
def q5w (pg:Prg) (v0:PV) (g1 o1:Nat) (gh:List GObj):DR:=stK 0 v0 (isC (degr v0) (
  ob (ghCells gh g1) fun cs1=>
  ob (grab false 1 o1 cs1) fun v2=>isC (degr v2) (arK (degr (degr v0)) (arK (degr (degr v2)) (
  callR gh true (callL pg 86 [(degr (degr v0)),(degr (degr v2))] gh) fun r3 gh4=>unB r3 fun b5=>some (.ret,⟨[(3,(B (!b5)))],[],gh4⟩))))))
theorem q5w_ {v0:PV} {g1 o1:Nat} (h:q5w pg v0 g1 o1 gh=some (e,s)):runL pg q44 ⟨[(0,v0),(1,.ptr true g1 o1)],[],gh⟩=some (e,s):=
 j6y q6r (Eq.trans (by kernel_rfl) h)
end
end Go.Lw
end

/-! What the code of function cnf_Holds comes to, piece by piece. Written by program (dprint.py). -/
section
set_option maxRecDepth 10000
set_option maxHeartbeats 4000000
namespace Go.Lw
open Go
noncomputable section
variable {pg:Prg} {gh:List GObj} {e:IExit} {s:St}
def q6s:Tr:=(tB 10 (tI 6 (tB 4 (tO 1 (.node 0 (.agg [.int .i64,.any]) .nil .nil) .nil) (uI 5)) (tI 8 (.node 7 (.agg [.int .i64,.any]) .nil .nil) (uI 9))) (tB 16 (tI 13 (tO 12 (uI 11) .nil) (uI 15)) (tO 18 (.node 17 (.agg [.int .i64,.any]) .nil .nil) (uB 19))))
def q1t (pg:Prg) (x0_0:Int) (v0_1 v1:PV) (gh:List GObj):DR:=onK (degr1 v0_1) (stK 1 v1 (onK (degr1 (degr1 (degr1 v0_1))) (
  callR gh true (callL pg 59 [(.agg [I x0_0,(degr1 (degr1 (degr1 v0_1)))])] gh) fun r1 gh2=>unI .i64 r1 fun n3=>stK 1 v1 (stK 1 v1 (
  br 10 (n3 !=0) (some (.ret,⟨[(4,B false),(5,I n3)],[],gh2⟩)) (isC (degr v1) (lenS (degr (degr v1)) fun n4=>stK 1 v1 (
  br 16 ((n4:Int) !=x0_0) (some (.ret,⟨[(4,B false),(5,I 1)],[],gh2⟩)) (isC (degr v1) (onK (degr1 (degr1 (degr1 v0_1))) (arK (degr (degr v1)) (
  callR gh2 true (callL pg 70 [(.agg [I x0_0,(degr1 (degr1 (degr1 v0_1)))]),(degr (degr v1))] gh2) fun r5 gh6=>unB r5 fun b7=>some (.ret,⟨[(4,B b7),(5,I 0)],[],gh6⟩)))))))))))))
theorem q1t_ {x0_0:Int} {v0_1 v1:PV} (h:q1t pg x0_0 v0_1 v1 gh=some (e,s)):runL pg q3t ⟨[(0,.agg [I x0_0,v0_1]),(1,v1)],[],gh⟩=some (e,s):=
 j6y q6s (Eq.trans (by kernel_rfl) h)
end
end Go.Lw
end

/-! What the code of function law_cnfBegun comes to, piece by piece. Written by program (dprint.py). -/
section
set_option maxRecDepth 10000
set_option maxHeartbeats 4000000
namespace Go.Lw
open Go
noncomputable section
variable {pg:Prg} {gh:List GObj} {e:IExit} {s:St}
def q6t:Tr:=(tB 21 (.node 11 (.agg [.int .i64,.any]) (.node 6 (.agg [.int .i64,.int .i64]) (tB 3 (tI 2 (uB 0) .nil) (.node 5 (.tup 2) (uI 4) .nil)) (tO 9 (.node 8 (.agg [.int .i64,.any]) (uO 7) .nil) (.node 10 (.tup 2) .nil .nil))) (.node 16 (.tup 2) (.node 14 (.agg [.int .i64,.any]) (.node 13 (.tup 2) (uI 12) .nil) (uO 15)) (tI 19 (tI 18 (uB 17) .nil) (uB 20)))) (tB 33 (tB 27 (tB 24 (tB 23 (uI 22) .nil) (tB 26 (uB 25) .nil)) (tB 31 (tI 30 (uB 28) .nil) (uB 32))) (tB 39 (tB 37 (tI 36 (uO 35) .nil) (uB 38)) (tB 42 (tI 41 (.node 40 (.agg [.int .i64,.any]) .nil .nil) .nil) (uB 43)))))
def q5x (pg:Prg) (gh:List GObj):DR:=
  callR gh true (callL pg 16 [(.agg [I 2,.sl false 2 [.agg [I 2,I 4]]]),.sl false 1 [I 6]] gh) fun r1 gh2=>unT 2 r1 fun r3 r4=>unA 2 (degr1 (degr1 r3)) fun c5 c6=>unI .i64 c5 fun n7=>unI .i64 (degr1 (degr1 r4)) fun n8=>onK c6 (onK (degr1 (degr1 c6)) (
  callR gh2 true (callL pg 32 [(.agg [I n7,(degr1 (degr1 c6))]),.sl false 1 [B true,B true,B true]] gh2) fun r9 gh10=>unT 2 r9 fun r11 r12=>unB (degr1 (degr1 r11)) fun b13=>unI .i64 (degr1 (degr1 r12)) fun n14=>
  br 21 (n8==0) (
  br 25 (n14==0) (
  br 28 b13 (
  br 33 (n7==3) (isC (degr c6) (lenS (degr (degr c6)) fun n15=>
  br 39 ((n15:Int)==4) (onK (degr1 (degr1 c6)) (
  callR gh10 true (callL pg 59 [(.agg [I n7,(degr1 (degr1 c6))])] gh10) fun r16 gh17=>unI .i64 r16 fun n18=>some (.ret,⟨[(0,(B (n18==0)))],[],gh17⟩))) (some (.ret,⟨[(0,B false)],[],gh10⟩)))) (some (.ret,⟨[(0,B false)],[],gh10⟩))) (some (.ret,⟨[(0,B false)],[],gh10⟩))) (some (.ret,⟨[(0,B false)],[],gh10⟩))) (some (.ret,⟨[(0,B false)],[],gh10⟩))))
theorem q5x_ (h:q5x pg gh=some (e,s)):runL pg q4f ⟨[],[],gh⟩=some (e,s):=
 j6y q6t (Eq.trans (by kernel_rfl) h)
end
end Go.Lw
end

/-! What the code of function slices_IndexFunc_LLint_Lint comes to, piece by piece. Written by program (dprint.py). -/
section
set_option maxRecDepth 10000
set_option maxHeartbeats 4000000
namespace Go.Lw
open Go
noncomputable section
variable {pg:Prg} {gh:List GObj} {e:IExit} {s:St}
def q3j:Tr:=(tI 10 (tO 6 (tI 4 (tO 1 (uO 0) .nil) (uI 5)) (tI 8 (uI 7) (uB 9))) (tO 15 (tO 12 (uO 11) (uI 13)) (tI 17 (uB 16) (uI 18))))
def q1u (pg:Prg) (v0 v1:PV) (x7 x8:Int) (gh:List GObj):DR:=
  br 9 (decide (x8<x7)) (stK 0 v0 (stK 0 v1 (isC (degr v1) (isC (degr v0) (
  idX 1 none (degr (degr v0)) x8 fun p1=>
  ldX [] gh false 1 (degr p1) fun v2=>isC v2 (
  fnX (degr (degr v1)) fun f5 cs6=>arK (degr v2) (allK cs6 (callR gh true (callL pg f5 ([(degr v2)]++cs6) gh) fun r3 gh4=>unB r3 fun b7=>stK 0 v0 (stK 0 v1 (
  br 16 b7 (some (.ret,⟨[(4,I x8)],[],gh4⟩)) (stK 0 v0 (stK 0 v1 (stK 0 v0 (stK 0 v1 (some (.normal,⟨[(0,v0),(1,v1),(7,I x7),(8,(I (IntKind.i64.wrap (x8+1))))],[],gh4⟩)))))))))))))))) (some ((.exit 0),⟨[(0,v0),(1,v1),(7,I x7),(8,I x8),(9,(B (decide (x8<x7))))],[],gh⟩))
theorem q1u_ {v0 v1:PV} {x7 x8:Int} (h:q1u pg v0 v1 x7 x8 gh=some (e,s)):runL pg q4k ⟨[(0,v0),(1,v1),(7,I x7),(8,I x8)],[],gh⟩=some (e,s):=
 j6y q3j (Eq.trans (by kernel_rfl) h)
def q6u (pg:Prg) (gh:List GObj):DR:=some (.ret,⟨[(4,(I (-1)))],[],gh⟩)
theorem q6u_ (h:q6u pg gh=some (e,s)):runL pg q2r ⟨[],[],gh⟩=some (e,s):=
 j6y q3j (Eq.trans (by kernel_rfl) h)
def q3k (pg:Prg) (v0 v1:PV) (gh:List GObj):DR:=stK 0 v0 (stK 0 v1 (isC (degr v0) (lenS (degr (degr v0)) fun n1=>stK 0 v0 (stK 0 v1 (
  kR (runL pg q2q ⟨[(0,v0),(1,v1),(7,(I (n1:Int))),(8,I 0)],[],gh⟩) (fun e s=>nx e s (fun e s=>some (e,s)) fun s=>kR (runL pg q2r s) (fun e s=>some (e,s))))))))
theorem q3k_ {v0 v1:PV} (h:q3k pg v0 v1 gh=some (e,s)):runL pg q4l ⟨[(0,v0),(1,v1)],[],gh⟩=some (e,s):=
 j6y q3j (Eq.trans (by kernel_rfl) h)
end
end Go.Lw
end

/-! What the code of function slices_ContainsFunc_LLint_Lint comes to, piece by piece. Written by program (dprint.py). -/
section
set_option maxRecDepth 10000
set_option maxHeartbeats 4000000
namespace Go.Lw
open Go
noncomputable section
variable {pg:Prg} {gh:List GObj} {e:IExit} {s:St}
def q6v:Tr:=(tO 5 (tO 1 (uO 0) (uB 4)) (tI 7 (uO 6) (uB 8)))
def q5y (pg:Prg) (v0 v1:PV) (gh:List GObj):DR:=stK 0 v0 (stK 0 v1 (isC (degr v0) (isC (degr v1) (arK (degr (degr v0)) (arK (degr (degr v1)) (
  callR gh true (callL pg 117 [(degr (degr v0)),(degr (degr v1))] gh) fun r1 gh2=>unI .i64 r1 fun n3=>some (.ret,⟨[(4,(B (decide (0≤n3))))],[],gh2⟩)))))))
theorem q5y_ {v0 v1:PV} (h:q5y pg v0 v1 gh=some (e,s)):runL pg q4h ⟨[(0,v0),(1,v1)],[],gh⟩=some (e,s):=
 j6y q6v (Eq.trans (by kernel_rfl) h)
end
end Go.Lw
end

/-! What the code of function cnf_Print comes to, piece by piece. Written by program (dprint.py). -/
section
set_option maxRecDepth 10000
set_option maxHeartbeats 4000000
namespace Go.Lw
open Go
noncomputable section
variable {pg:Prg} {gh:List GObj} {e:IExit} {s:St}
def qp:Tr:=(.node 25 (.ce (.str)) (tB 13 (tO 7 (tI 3 (.node 2 (.ce (.str)) (.node 0 (.agg [.int .i64,.any]) .nil .nil) .nil) (tG 5 (uI 4) .nil)) (tI 11 (.node 10 (.agg [.int .i64,.any]) (uI 9) .nil) (uI 12))) (.node 19 (.ce (.str)) (.node 17 (.ce (.str)) (tI 16 (uI 14) .nil) (.node 18 (.ce (.str)) .nil .nil)) (.node 23 (.ce (.str)) (tI 22 (uO 21) .nil) (.node 24 (.ce (.str)) .nil .nil)))) (tB 37 (tB 31 (tI 29 (tO 28 (.node 26 (.tup 2) .nil .nil) .nil) (uI 30)) (tI 35 (tO 34 (uO 33) .nil) (uI 36))) (.node 43 (.tup 2) (.node 41 (.ce (.str)) (tI 40 (uI 39) .nil) (.node 42 (.ce (.str)) .nil .nil)) (tI 46 (.node 45 (.tup 2) (uI 44) .nil) (.node 47 (.ce (.str)) .nil .nil)))))
def q3l (pg:Prg) (g5 o5:Nat) (v28:PV) (x29 x30:Int) (v34:PV) (x35 x36:Int) (gh:List GObj):DR:=
  br 37 (decide (x36<x35)) (
  idX 1 none (degr v34) x36 fun p1=>
  ldX [] gh false 1 (degr p1) fun v2=>unI .i64 v2 fun n3=>stK 0 v28 (stK 0 v34 (
  callR gh true (callL pg 260 [I n3] gh) fun r4 gh5=>unS r4 fun s6=>ob (binPV .add (.str s6) (.str (⟨#[32]⟩:ByteArray))) fun v7=>unS v7 fun s8=>
  callR gh5 false (callL pg 357 [.ptr true g5 o5,.str s8] gh5) fun r9 gh10=>unT 2 r9 fun r11 r12=>stK 0 v28 (stK 0 v34 (stK 0 v28 (stK 0 v34 (stK 0 v28 (stK 0 v34 (some (.normal,⟨[(5,.ptr true g5 o5),(28,v28),(29,I x29),(30,I x30),(34,v34),(35,I x35),(36,(I (IntKind.i64.wrap (x36+1))))],[],gh10⟩)))))))))) (some ((.exit 2),⟨[(5,.ptr true g5 o5),(28,v28),(29,I x29),(30,I x30),(34,v34),(35,I x35),(36,I x36),(37,(B (decide (x36<x35))))],[],gh⟩))
theorem q3l_ {g5 o5:Nat} {v28:PV} {x29 x30:Int} {v34:PV} {x35 x36:Int} (h:q3l pg g5 o5 v28 x29 x30 v34 x35 x36 gh=some (e,s)):runL pg q47 ⟨[(5,.ptr true g5 o5),(28,v28),(29,I x29),(30,I x30),(34,v34),(35,I x35),(36,I x36)],[],gh⟩=some (e,s):=
 j6y qp (Eq.trans (by kernel_rfl) h)
def q5z (pg:Prg) (g5 o5:Nat) (v28:PV) (x29 x30:Int) (gh:List GObj):DR:=
  callR gh false (callL pg 357 [.ptr true g5 o5,(.str (⟨#[48,10]⟩:ByteArray))] gh) fun r1 gh2=>unT 2 r1 fun r3 r4=>stK 0 v28 (some (.normal,⟨[(5,.ptr true g5 o5),(28,v28),(29,I x29),(30,I x30)],[],gh2⟩))
theorem q5z_ {g5 o5:Nat} {v28:PV} {x29 x30:Int} (h:q5z pg g5 o5 v28 x29 x30 gh=some (e,s)):runL pg q1b ⟨[(5,.ptr true g5 o5),(28,v28),(29,I x29),(30,I x30)],[],gh⟩=some (e,s):=
 j6y qp (Eq.trans (by kernel_rfl) h)
def q60 (pg:Prg) (g5 o5:Nat) (v28:PV) (x29 x30:Int) (gh:List GObj):DR:=stK 0 v28 (some (.normal,⟨[(5,.ptr true g5 o5),(28,v28),(29,I x29),(30,(I (IntKind.i64.wrap (x30+1))))],[],gh⟩))
theorem q60_ {g5 o5:Nat} {v28:PV} {x29 x30:Int} (h:q60 pg g5 o5 v28 x29 x30 gh=some (e,s)):runL pg qu ⟨[(5,.ptr true g5 o5),(28,v28),(29,I x29),(30,I x30)],[],gh⟩=some (e,s):=
 j6y qp (Eq.trans (by kernel_rfl) h)
def q3m (pg:Prg) (g5 o5:Nat) (v28:PV) (x29 x30:Int) (gh:List GObj):DR:=
  br 31 (decide (x30<x29)) (
  idX 1 none (degr v28) x30 fun p1=>
  ldX [] gh false 1 (degr p1) fun v2=>isC v2 (stK 0 v2 (stK 0 v28 (isC (degr v2) (lenS (degr (degr v2)) fun n3=>stK 0 v28 (stK 0 (degr v2) (
  kR (runL pg q2e ⟨[(5,.ptr true g5 o5),(28,v28),(29,I x29),(30,I x30),(34,(degr v2)),(35,(I (n3:Int))),(36,I 0)],[],gh⟩) (fun e s=>nx e s (fun e s=>bk 1 e s (fun e s=>nx e s (fun e s=>po [5,28,29,30] 0 e s (fun e s=>some (e,s))) fun s=>kR (runL pg qu s) (fun e s=>po [5,28,29,30] 0 e s (fun e s=>some (e,s))))) fun s=>kR (runL pg q1b s) (fun e s=>bk 1 e s (fun e s=>nx e s (fun e s=>po [5,28,29,30] 0 e s (fun e s=>some (e,s))) fun s=>kR (runL pg qu s) (fun e s=>po [5,28,29,30] 0 e s (fun e s=>some (e,s))))))))))))) (some ((.exit 0),⟨[(5,.ptr true g5 o5),(28,v28),(29,I x29),(30,I x30),(31,(B (decide (x30<x29))))],[],gh⟩))
theorem q3m_ {g5 o5:Nat} {v28:PV} {x29 x30:Int} (h:q3m pg g5 o5 v28 x29 x30 gh=some (e,s)):runL pg q48 ⟨[(5,.ptr true g5 o5),(28,v28),(29,I x29),(30,I x30)],[],gh⟩=some (e,s):=
 j6y qp (Eq.trans (by kernel_rfl) h)
def q61 (pg:Prg) (g5 o5:Nat) (gh:List GObj):DR:=
  callR gh false (callL pg 359 [.ptr true g5 o5] gh) fun r1 gh2=>unS r1 fun s3=>some (.ret,⟨[(2,.str s3),(3,I 0)],[],gh2⟩)
theorem q61_ {g5 o5:Nat} (h:q61 pg g5 o5 gh=some (e,s)):runL pg q1c ⟨[(5,.ptr true g5 o5)],[],gh⟩=some (e,s):=
 j6y qp (Eq.trans (by kernel_rfl) h)
def q3n (pg:Prg) (x0_0:Int) (v0_1:PV) (gh:List GObj):DR:=onK (degr1 v0_1) (onK (degr1 (degr1 (degr1 v0_1))) (
  callR gh true (callL pg 59 [(.agg [I x0_0,(degr1 (degr1 (degr1 v0_1)))])] gh) fun r1 gh2=>unI .i64 r1 fun n3=>
  br 13 (n3 !=0) (some (.ret,⟨[(2,.str ByteArray.empty),(3,I n3)],[],gh2⟩)) (
  callR (gh2++[.bld .empty]) true (callL pg 260 [I x0_0] (gh2++[.bld .empty])) fun r4 gh5=>unS r4 fun s6=>ob (binPV .add (.str (⟨#[112,32,99,110,102,32]⟩:ByteArray)) (.str s6)) fun v7=>unS v7 fun s8=>ob (binPV .add (.str s8) (.str (⟨#[32]⟩:ByteArray))) fun v9=>unS v9 fun s10=>isC (degr (degr1 v0_1)) (lenS (degr (degr (degr1 v0_1))) fun n11=>
  callR gh5 true (callL pg 260 [(I (n11:Int))] gh5) fun r12 gh13=>unS r12 fun s14=>ob (binPV .add (.str s10) (.str s14)) fun v15=>unS v15 fun s16=>ob (binPV .add (.str s16) (.str (⟨#[10]⟩:ByteArray))) fun v17=>unS v17 fun s18=>
  callR gh13 false (callL pg 357 [(.ptr true (List.length gh2) 0),.str s18] gh13) fun r19 gh20=>unT 2 r19 fun r21 r22=>isC (degr (degr1 v0_1)) (lenS (degr (degr (degr1 v0_1))) fun n23=>stK 0 (degr (degr1 v0_1)) (
  kR (runL pg q2f ⟨[(5,(.ptr true (List.length gh2) 0)),(28,(degr (degr1 v0_1))),(29,(I (n23:Int))),(30,I 0)],[],gh20⟩) (fun e s=>nx e s (fun e s=>some (e,s)) fun s=>kR (runL pg q1c s) (fun e s=>some (e,s)))))))))
theorem q3n_ {x0_0:Int} {v0_1:PV} (h:q3n pg x0_0 v0_1 gh=some (e,s)):runL pg q49 ⟨[(0,.agg [I x0_0,v0_1])],[],gh⟩=some (e,s):=
 j6y qp (Eq.trans (by kernel_rfl) h)
end
end Go.Lw
end

/-! What the code of function ref_PrintClauses comes to, piece by piece. Written by program (dprint.py). -/
section
set_option maxRecDepth 10000
set_option maxHeartbeats 4000000
namespace Go.Lw
open Go
noncomputable section
variable {pg:Prg} {gh:List GObj} {e:IExit} {s:St}
def qq:Tr:=(tI 24 (tI 13 (tI 7 (.node 3 (.ce (.str)) (.node 2 (.ce (.str)) (.node 0 (.agg [.int .i64,.any]) .nil .nil) .nil) (tI 5 (uI 4) .nil)) (.node 10 (.ce (.str)) (.node 9 (.ce (.str)) (.node 8 (.ce (.str)) .nil .nil) .nil) (uO 12))) (tO 19 (.node 16 (.ce (.str)) (.node 15 (.ce (.str)) (.node 14 (.ce (.str)) .nil .nil) .nil) (uI 17)) (tI 22 (tB 21 (uI 20) .nil) (uI 23)))) (tI 37 (tB 31 (tO 29 (tI 27 (uO 26) .nil) (uI 30)) (.node 34 (.ce (.str)) (tI 33 (uI 32) .nil) (uO 36))) (.node 44 (.ce (.str)) (tI 42 (tI 40 (uO 39) .nil) (.node 43 (.ce (.str)) .nil .nil)) (.node 47 (.ce (.str)) (.node 46 (.ce (.str)) (.node 45 (.ce (.str)) .nil .nil) .nil) (.node 48 (.ce (.str)) .nil .nil)))))
def q3o (pg:Prg) (s3:ByteArray) (x4 x5 xc0_0:Int) (vc0_1:PV) (gh:List GObj):DR:=isC (degr vc0_1) (
  idX 1 none (degr (degr vc0_1)) x4 fun p1=>
  ldX [[I xc0_0,vc0_1]] gh false 1 (degr p1) fun v2=>isC v2 (lenS (degr v2) fun n3=>
  br 31 (decide (x5<(n3:Int))) (isC (degr vc0_1) (
  idX 1 none (degr (degr vc0_1)) x4 fun p4=>
  ldX [[I xc0_0,vc0_1]] gh false 1 (degr p4) fun v5=>isC v5 (
  idX 1 none (degr v5) x5 fun p6=>
  ldX [[I xc0_0,vc0_1]] gh false 1 (degr p6) fun v7=>unI .i64 v7 fun n8=>
  callR gh true (callL pg 363 [I n8] gh) fun r9 gh10=>unS r9 fun s11=>ob (binPV .add (.str s11) (.str (⟨#[32]⟩:ByteArray))) fun v12=>unS v12 fun s13=>ob (binPV .add (.str s3) (.str s13)) fun v14=>unS v14 fun s15=>some (.normal,⟨[(1,.ptr false 0 0),(3,.str s15),(4,I x4),(5,(I (IntKind.i64.wrap (x5+1))))],[[I xc0_0,vc0_1]],gh10⟩)))) (some ((.exit 2),⟨[(1,.ptr false 0 0),(3,.str s3),(4,I x4),(5,I x5),(31,(B (decide (x5<(n3:Int)))))],[[I xc0_0,vc0_1]],gh⟩))))
theorem q3o_ {s3:ByteArray} {x4 x5 xc0_0:Int} {vc0_1:PV} (h:q3o pg s3 x4 x5 xc0_0 vc0_1 gh=some (e,s)):runL pg q4u ⟨[(1,.ptr false 0 0),(3,.str s3),(4,I x4),(5,I x5)],[[I xc0_0,vc0_1]],gh⟩=some (e,s):=
 j6y qq (Eq.trans (by kernel_rfl) h)
def q62 (pg:Prg) (s3:ByteArray) (x4 xc0_0:Int) (vc0_1:PV) (gh:List GObj):DR:=ob (binPV .add (.str s3) (.str (⟨#[48,10]⟩:ByteArray))) fun v1=>unS v1 fun s2=>some (.normal,⟨[(1,.ptr false 0 0),(3,.str s2),(4,I x4)],[[I xc0_0,vc0_1]],gh⟩)
theorem q62_ {s3:ByteArray} {x4 xc0_0:Int} {vc0_1:PV} (h:q62 pg s3 x4 xc0_0 vc0_1 gh=some (e,s)):runL pg q1f ⟨[(1,.ptr false 0 0),(3,.str s3),(4,I x4)],[[I xc0_0,vc0_1]],gh⟩=some (e,s):=
 j6y qq (Eq.trans (by kernel_rfl) h)
def q63 (pg:Prg) (s3:ByteArray) (x4 xc0_0:Int) (vc0_1:PV) (gh:List GObj):DR:=some (.normal,⟨[(1,.ptr false 0 0),(3,.str s3),(4,(I (IntKind.i64.wrap (x4+1))))],[[I xc0_0,vc0_1]],gh⟩)
theorem q63_ {s3:ByteArray} {x4 xc0_0:Int} {vc0_1:PV} (h:q63 pg s3 x4 xc0_0 vc0_1 gh=some (e,s)):runL pg q19 ⟨[(1,.ptr false 0 0),(3,.str s3),(4,I x4)],[[I xc0_0,vc0_1]],gh⟩=some (e,s):=
 j6y qq (Eq.trans (by kernel_rfl) h)
def q3p (pg:Prg) (s3:ByteArray) (x4 xc0_0:Int) (vc0_1:PV) (gh:List GObj):DR:=isC (degr vc0_1) (lenS (degr (degr vc0_1)) fun n1=>
  br 21 (decide (x4<(n1:Int))) (
  kR (runL pg q2z ⟨[(1,.ptr false 0 0),(3,.str s3),(4,I x4),(5,I 0)],[[I xc0_0,vc0_1]],gh⟩) (fun e s=>nx e s (fun e s=>bk 1 e s (fun e s=>nx e s (fun e s=>po [1,3,4] 1 e s (fun e s=>some (e,s))) fun s=>kR (runL pg q19 s) (fun e s=>po [1,3,4] 1 e s (fun e s=>some (e,s))))) fun s=>kR (runL pg q1f s) (fun e s=>bk 1 e s (fun e s=>nx e s (fun e s=>po [1,3,4] 1 e s (fun e s=>some (e,s))) fun s=>kR (runL pg q19 s) (fun e s=>po [1,3,4] 1 e s (fun e s=>some (e,s))))))) (some ((.exit 0),⟨[(1,.ptr false 0 0),(3,.str s3),(4,I x4),(21,(B (decide (x4<(n1:Int)))))],[[I xc0_0,vc0_1]],gh⟩)))
theorem q3p_ {s3:ByteArray} {x4 xc0_0:Int} {vc0_1:PV} (h:q3p pg s3 x4 xc0_0 vc0_1 gh=some (e,s)):runL pg q4v ⟨[(1,.ptr false 0 0),(3,.str s3),(4,I x4)],[[I xc0_0,vc0_1]],gh⟩=some (e,s):=
 j6y qq (Eq.trans (by kernel_rfl) h)
def q6w (pg:Prg) (s3:ByteArray) (gh:List GObj):DR:=some (.ret,⟨[(2,.str s3)],[],gh⟩)
theorem q6w_ {s3:ByteArray} (h:q6w pg s3 gh=some (e,s)):runL pg q1g ⟨[(3,.str s3)],[],gh⟩=some (e,s):=
 j6y qq (Eq.trans (by kernel_rfl) h)
def q64 (pg:Prg) (x0_0:Int) (v0_1:PV) (gh:List GObj):DR:=onK (degr1 v0_1) (
  callR gh true (callL pg 363 [I x0_0] gh) fun r1 gh2=>unS r1 fun s3=>ob (binPV .add (.str (⟨#[112,32,99,110,102,32]⟩:ByteArray)) (.str s3)) fun v4=>unS v4 fun s5=>ob (binPV .add (.str s5) (.str (⟨#[32]⟩:ByteArray))) fun v6=>unS v6 fun s7=>isC (degr (degr1 v0_1)) (lenS (degr (degr (degr1 v0_1))) fun n8=>
  callR gh2 true (callL pg 363 [(I (n8:Int))] gh2) fun r9 gh10=>unS r9 fun s11=>ob (binPV .add (.str s7) (.str s11)) fun v12=>unS v12 fun s13=>ob (binPV .add (.str s13) (.str (⟨#[10]⟩:ByteArray))) fun v14=>unS v14 fun s15=>
  kR (runL pg q30 ⟨[(1,.ptr false 0 0),(3,.str s15),(4,I 0)],[[I x0_0,(degr1 v0_1)]],gh10⟩) (fun e s=>nx e s (fun e s=>some (e,s)) fun s=>kR (runL pg q1g s) (fun e s=>some (e,s)))))
theorem q64_ {x0_0:Int} {v0_1:PV} (h:q64 pg x0_0 v0_1 gh=some (e,s)):runL pg q4w ⟨[(0,.agg [I x0_0,v0_1])],[],gh⟩=some (e,s):=
 j6y qq (Eq.trans (by kernel_rfl) h)
end
end Go.Lw
end

/-! What the code of function ref_HoldsOf comes to, piece by piece. Written by program (dprint.py). -/
section
set_option maxRecDepth 10000
set_option maxHeartbeats 4000000
namespace Go.Lw
open Go
noncomputable section
variable {pg:Prg} {gh:List GObj} {e:IExit} {s:St}
def qm:Tr:=(tO 30 (tI 14 (tI 7 (tB 4 (tO 1 (.node 0 (.agg [.int .i64,.any]) .nil .nil) .nil) (tB 6 (uI 5) .nil)) (tO 11 (tI 9 (uI 8) .nil) (tB 13 (uI 12) .nil))) (tI 22 (tO 18 (tI 16 (uI 15) .nil) (tO 21 (uI 19) .nil)) (tI 25 (tI 24 (uB 23) .nil) (tI 28 (uO 27) .nil)))) (tB 44 (tB 37 (tI 34 (tI 33 (uI 31) .nil) (tB 36 (uB 35) .nil)) (tI 40 (tI 39 (uO 38) .nil) (tB 43 (uB 42) .nil))) (tB 51 (tI 47 (tO 46 (uB 45) .nil) (tI 49 (uI 48) .nil)) (tB 54 (tB 53 (uB 52) .nil) (uB 55)))))
def q65 (pg:Prg) (v1:PV) (x5:Int) (b6:Bool) (x7 xc0_0:Int) (vc0_1:PV) (gh:List GObj):DR:=stK 1 v1 (some (.normal,⟨[(1,v1),(2,.ptr false 0 0),(5,I x5),(6,B b6),(7,(I (IntKind.i64.wrap (x7+1))))],[[I xc0_0,vc0_1]],gh⟩))
theorem q65_ {v1:PV} {x5:Int} {b6:Bool} {x7 xc0_0:Int} {vc0_1:PV} (h:q65 pg v1 x5 b6 x7 xc0_0 vc0_1 gh=some (e,s)):runL pg qd ⟨[(1,v1),(2,.ptr false 0 0),(5,I x5),(6,B b6),(7,I x7)],[[I xc0_0,vc0_1]],gh⟩=some (e,s):=
 j6y qm (Eq.trans (by kernel_rfl) h)
def q1v (pg:Prg) (v1:PV) (x5:Int) (b6:Bool) (x7 xc0_0:Int) (vc0_1:PV) (gh:List GObj):DR:=isC (degr vc0_1) (
  idX 1 none (degr (degr vc0_1)) x5 fun p1=>
  ldX [[I xc0_0,vc0_1]] gh false 1 (degr p1) fun v2=>isC v2 (lenS (degr v2) fun n3=>stK 1 v1 (
  br 23 (decide (x7<(n3:Int))) (isC (degr vc0_1) (
  idX 1 none (degr (degr vc0_1)) x5 fun p4=>
  ldX [[I xc0_0,vc0_1]] gh false 1 (degr p4) fun v5=>isC v5 (
  idX 1 none (degr v5) x7 fun p6=>
  ldX [[I xc0_0,vc0_1]] gh false 1 (degr p6) fun v7=>unI .i64 v7 fun n8=>stK 1 v1 (stK 1 v1 (
  br 35 (decide (0<n8)) (
  br 37 b6 (stK 1 v1 (stK 1 v1 (
  kR (runL pg qd ⟨[(1,v1),(2,.ptr false 0 0),(5,I x5),(6,B true),(7,I x7)],[[I xc0_0,vc0_1]],gh⟩) (fun e s=>po [1,2,5,6,7] 1 e s (fun e s=>some (e,s)))))) (isC (degr v1) (
  idX 1 none (degr (degr v1)) (IntKind.i64.wrap (n8-1)) fun p9=>
  ldX [[I xc0_0,vc0_1]] gh false 1 (degr p9) fun v10=>unB v10 fun b11=>stK 1 v1 (stK 1 v1 (
  kR (runL pg qd ⟨[(1,v1),(2,.ptr false 0 0),(5,I x5),(6,B b11),(7,I x7)],[[I xc0_0,vc0_1]],gh⟩) (fun e s=>po [1,2,5,6,7] 1 e s (fun e s=>some (e,s)))))))) (
  br 45 b6 (stK 1 v1 (stK 1 v1 (
  kR (runL pg qd ⟨[(1,v1),(2,.ptr false 0 0),(5,I x5),(6,B true),(7,I x7)],[[I xc0_0,vc0_1]],gh⟩) (fun e s=>po [1,2,5,6,7] 1 e s (fun e s=>some (e,s)))))) (isC (degr v1) (
  idX 1 none (degr (degr v1)) (IntKind.i64.wrap ((IntKind.i64.wrap (0-n8))-1)) fun p12=>
  ldX [[I xc0_0,vc0_1]] gh false 1 (degr p12) fun v13=>unB v13 fun b14=>stK 1 v1 (stK 1 v1 (
  kR (runL pg qd ⟨[(1,v1),(2,.ptr false 0 0),(5,I x5),(6,(B (!b14))),(7,I x7)],[[I xc0_0,vc0_1]],gh⟩) (fun e s=>po [1,2,5,6,7] 1 e s (fun e s=>some (e,s))))))))))))) (some ((.exit 2),⟨[(1,v1),(2,.ptr false 0 0),(5,I x5),(6,B b6),(7,I x7),(23,(B (decide (x7<(n3:Int)))))],[[I xc0_0,vc0_1]],gh⟩)))))
theorem q1v_ {v1:PV} {x5:Int} {b6:Bool} {x7 xc0_0:Int} {vc0_1:PV} (h:q1v pg v1 x5 b6 x7 xc0_0 vc0_1 gh=some (e,s)):runL pg q4r ⟨[(1,v1),(2,.ptr false 0 0),(5,I x5),(6,B b6),(7,I x7)],[[I xc0_0,vc0_1]],gh⟩=some (e,s):=
 j6y qm (Eq.trans (by kernel_rfl) h)
def q3q (pg:Prg) (v1:PV) (x5:Int) (b6:Bool) (xc0_0:Int) (vc0_1:PV) (gh:List GObj):DR:=stK 1 v1 (
  br 55 (!b6) (some (.ret,⟨[(4,B false)],[],gh⟩)) (some (.normal,⟨[(1,v1),(2,.ptr false 0 0),(5,I x5),(55,(B (!b6)))],[[I xc0_0,vc0_1]],gh⟩)))
theorem q3q_ {v1:PV} {x5:Int} {b6:Bool} {xc0_0:Int} {vc0_1:PV} (h:q3q pg v1 x5 b6 xc0_0 vc0_1 gh=some (e,s)):runL pg q17 ⟨[(1,v1),(2,.ptr false 0 0),(5,I x5),(6,B b6)],[[I xc0_0,vc0_1]],gh⟩=some (e,s):=
 j6y qm (Eq.trans (by kernel_rfl) h)
def q66 (pg:Prg) (v1:PV) (x5:Int) (b55:Bool) (xc0_0:Int) (vc0_1:PV) (gh:List GObj):DR:=stK 1 v1 (some (.normal,⟨[(1,v1),(2,.ptr false 0 0),(5,(I (IntKind.i64.wrap (x5+1))))],[[I xc0_0,vc0_1]],gh⟩))
theorem q66_ {v1:PV} {x5:Int} {b55:Bool} {xc0_0:Int} {vc0_1:PV} (h:q66 pg v1 x5 b55 xc0_0 vc0_1 gh=some (e,s)):runL pg q18 ⟨[(1,v1),(2,.ptr false 0 0),(5,I x5),(55,B b55)],[[I xc0_0,vc0_1]],gh⟩=some (e,s):=
 j6y qm (Eq.trans (by kernel_rfl) h)
def q1w (pg:Prg) (v1:PV) (x5 xc0_0:Int) (vc0_1:PV) (gh:List GObj):DR:=isC (degr vc0_1) (lenS (degr (degr vc0_1)) fun n1=>stK 1 v1 (
  br 13 (decide (x5<(n1:Int))) (stK 1 v1 (stK 1 v1 (
  kR (runL pg q2w ⟨[(1,v1),(2,.ptr false 0 0),(5,I x5),(6,B false),(7,I 0)],[[I xc0_0,vc0_1]],gh⟩) (fun e s=>nx e s (fun e s=>bk 1 e s (fun e s=>nx e s (fun e s=>po [1,2,5] 1 e s (fun e s=>some (e,s))) fun s=>kR (runL pg q18 s) (fun e s=>po [1,2,5] 1 e s (fun e s=>some (e,s))))) fun s=>kR (runL pg q17 s) (fun e s=>bk 1 e s (fun e s=>nx e s (fun e s=>po [1,2,5] 1 e s (fun e s=>some (e,s))) fun s=>kR (runL pg q18 s) (fun e s=>po [1,2,5] 1 e s (fun e s=>some (e,s))))))))) (some ((.exit 0),⟨[(1,v1),(2,.ptr false 0 0),(5,I x5),(13,(B (decide (x5<(n1:Int)))))],[[I xc0_0,vc0_1]],gh⟩))))
theorem q1w_ {v1:PV} {x5 xc0_0:Int} {vc0_1:PV} (h:q1w pg v1 x5 xc0_0 vc0_1 gh=some (e,s)):runL pg q4s ⟨[(1,v1),(2,.ptr false 0 0),(5,I x5)],[[I xc0_0,vc0_1]],gh⟩=some (e,s):=
 j6y qm (Eq.trans (by kernel_rfl) h)
def q6x (pg:Prg) (gh:List GObj):DR:=some (.ret,⟨[(4,B true)],[],gh⟩)
theorem q6x_ (h:q6x pg gh=some (e,s)):runL pg q1e ⟨[],[],gh⟩=some (e,s):=
 j6y qm (Eq.trans (by kernel_rfl) h)
def q67 (pg:Prg) (x0_0:Int) (v0_1 v1:PV) (gh:List GObj):DR:=onK (degr1 v0_1) (stK 1 v1 (stK 1 v1 (
  kR (runL pg q2x ⟨[(1,v1),(2,.ptr false 0 0),(5,I 0)],[[I x0_0,(degr1 v0_1)]],gh⟩) (fun e s=>nx e s (fun e s=>some (e,s)) fun s=>kR (runL pg q1e s) (fun e s=>some (e,s))))))
theorem q67_ {x0_0:Int} {v0_1 v1:PV} (h:q67 pg x0_0 v0_1 v1 gh=some (e,s)):runL pg q4t ⟨[(0,.agg [I x0_0,v0_1]),(1,v1)],[],gh⟩=some (e,s):=
 j6y qm (Eq.trans (by kernel_rfl) h)
end
end Go.Lw
end

/-! What the code of function law_CnfHolds comes to, piece by piece. Written by program (dprint.py). -/
section
set_option maxRecDepth 10000
set_option maxHeartbeats 4000000
namespace Go.Lw
open Go
noncomputable section
variable {pg:Prg} {gh:List GObj} {e:IExit} {s:St}
def q1x:Tr:=(tI 37 (.node 19 (.tup 2) (tI 10 (tI 6 (tB 4 (tO 1 (.node 0 (.agg [.int .i64,.any]) .nil .nil) .nil) (uB 5)) (tI 8 (.node 7 (.ce (.str)) .nil .nil) (uI 9))) (tO 15 (.node 13 (.tup 2) (tB 12 (.node 11 (.ce (.str)) .nil .nil) .nil) (.node 14 (.agg [.int .i64,.any]) .nil .nil)) (tB 17 (.node 16 (.tup 2) .nil .nil) (uI 18)))) (tB 28 (.node 24 (.agg [.int .i64,.any]) (.node 22 (.ce (.str)) (.node 21 (.tup 2) (.node 20 (.agg [.int .i64,.any]) .nil .nil) .nil) (uI 23)) (tI 26 (uI 25) (uI 27))) (tB 32 (.node 30 (.ce (.str)) (.node 29 (.agg [.int .i64,.any]) .nil .nil) (uI 31)) (tO 34 (uB 33) (uI 35))))) (tB 55 (tB 46 (.node 42 (.agg [.int .i64,.any]) (tI 40 (tB 39 (uB 38) .nil) (uB 41)) (tB 44 (uO 43) (uB 45))) (tB 51 (tI 49 (tI 48 (.node 47 (.agg [.int .i64,.any]) .nil .nil) .nil) (uB 50)) (tI 53 (uB 52) (uI 54)))) (tI 64 (tB 60 (tB 58 (tB 57 (uB 56) .nil) (uB 59)) (tB 62 (uB 61) (uI 63))) (.node 68 (.ce (.str)) (tB 66 (uB 65) (uB 67)) (tB 70 (.node 69 (.ce (.str)) .nil .nil) (uB 71))))))
def q68 (pg:Prg) (b5:Bool) (x6:Int) (s7:ByteArray) (x8 x9 x10:Int) (s11:ByteArray) (b12:Bool) (xc0_0:Int) (vc0_1:PV) (gh:List GObj):DR:=
  callR gh true (callL pg 18 [] gh) fun r1 gh2=>unB r1 fun b3=>
  br 46 b3 (onK (degr1 (degr1 vc0_1)) (
  callR gh2 true (callL pg 59 [(.agg [I xc0_0,(degr1 (degr1 vc0_1))])] gh2) fun r4 gh5=>unI .i64 r4 fun n6=>
  br 52 (n6==x9) (
  br 57 (x6==x10) (
  br 62 (b5==b12) (
  br 67 (x8==x9) (some (.ret,⟨[(4,(B (ByteArray.toList s7==ByteArray.toList s11)))],[],gh5⟩)) (some (.ret,⟨[(4,B false)],[],gh5⟩))) (some (.ret,⟨[(4,B false)],[],gh5⟩))) (some (.ret,⟨[(4,B false)],[],gh5⟩))) (some (.ret,⟨[(4,B false)],[],gh5⟩)))) (some (.ret,⟨[(4,B false)],[],gh2⟩))
theorem q68_ {b5:Bool} {x6:Int} {s7:ByteArray} {x8 x9 x10:Int} {s11:ByteArray} {b12:Bool} {xc0_0:Int} {vc0_1:PV} (h:q68 pg b5 x6 s7 x8 x9 x10 s11 b12 xc0_0 vc0_1 gh=some (e,s)):runL pg qx ⟨[(2,.ptr false 0 0),(5,B b5),(6,I x6),(7,.str s7),(8,I x8),(9,I x9),(10,I x10),(11,.str s11),(12,B b12)],[[I xc0_0,vc0_1]],gh⟩=some (e,s):=
 j6y q1x (Eq.trans (by kernel_rfl) h)
def q1y (pg:Prg) (v1:PV) (b5:Bool) (x6:Int) (s7:ByteArray) (x8 x9 x10:Int) (s11:ByteArray) (b12:Bool) (xc0_0:Int) (vc0_1:PV) (gh:List GObj):DR:=stK 1 v1 (
  br 41 (x10==0) (isC (degr v1) (onK (degr1 (degr1 vc0_1)) (arK (degr (degr v1)) (
  callR gh true (callL pg 168 [(.agg [I xc0_0,(degr1 (degr1 vc0_1))]),(degr (degr v1))] gh) fun r1 gh2=>unB r1 fun b3=>
  kR (runL pg qx ⟨[(2,.ptr false 0 0),(5,B b5),(6,I x6),(7,.str s7),(8,I x8),(9,I x9),(10,I x10),(11,.str s11),(12,B b3)],[[I xc0_0,vc0_1]],gh2⟩) (fun e s=>some (e,s)))))) (
  kR (runL pg qx ⟨[(2,.ptr false 0 0),(5,B b5),(6,I x6),(7,.str s7),(8,I x8),(9,I x9),(10,I x10),(11,.str s11),(12,B b12)],[[I xc0_0,vc0_1]],gh⟩) (fun e s=>some (e,s))))
theorem q1y_ {v1:PV} {b5:Bool} {x6:Int} {s7:ByteArray} {x8 x9 x10:Int} {s11:ByteArray} {b12:Bool} {xc0_0:Int} {vc0_1:PV} (h:q1y pg v1 b5 x6 s7 x8 x9 x10 s11 b12 xc0_0 vc0_1 gh=some (e,s)):runL pg qc ⟨[(1,v1),(2,.ptr false 0 0),(5,B b5),(6,I x6),(7,.str s7),(8,I x8),(9,I x9),(10,I x10),(11,.str s11),(12,B b12)],[[I xc0_0,vc0_1]],gh⟩=some (e,s):=
 j6y q1x (Eq.trans (by kernel_rfl) h)
def q1z (pg:Prg) (v1:PV) (b5:Bool) (x6:Int) (s7:ByteArray) (x8 x9 x10:Int) (s11:ByteArray) (b12:Bool) (xc0_0:Int) (vc0_1:PV) (gh:List GObj):DR:=
  br 33 (x10==0) (isC (degr v1) (lenS (degr (degr v1)) fun n1=>stK 1 v1 (
  br 39 ((n1:Int) !=xc0_0) (stK 1 v1 (stK 1 v1 (
  kR (runL pg qc ⟨[(1,v1),(2,.ptr false 0 0),(5,B b5),(6,I x6),(7,.str s7),(8,I x8),(9,I x9),(10,I 1),(11,.str s11),(12,B b12)],[[I xc0_0,vc0_1]],gh⟩) (fun e s=>some (e,s))))) (stK 1 v1 (
  kR (runL pg qc ⟨[(1,v1),(2,.ptr false 0 0),(5,B b5),(6,I x6),(7,.str s7),(8,I x8),(9,I x9),(10,I x10),(11,.str s11),(12,B b12)],[[I xc0_0,vc0_1]],gh⟩) (fun e s=>some (e,s))))))) (stK 1 v1 (stK 1 v1 (
  kR (runL pg qc ⟨[(1,v1),(2,.ptr false 0 0),(5,B b5),(6,I x6),(7,.str s7),(8,I x8),(9,I x9),(10,I x10),(11,.str s11),(12,B b12)],[[I xc0_0,vc0_1]],gh⟩) (fun e s=>some (e,s)))))
theorem q1z_ {v1:PV} {b5:Bool} {x6:Int} {s7:ByteArray} {x8 x9 x10:Int} {s11:ByteArray} {b12:Bool} {xc0_0:Int} {vc0_1:PV} (h:q1z pg v1 b5 x6 s7 x8 x9 x10 s11 b12 xc0_0 vc0_1 gh=some (e,s)):runL pg qj ⟨[(1,v1),(2,.ptr false 0 0),(5,B b5),(6,I x6),(7,.str s7),(8,I x8),(9,I x9),(10,I x10),(11,.str s11),(12,B b12)],[[I xc0_0,vc0_1]],gh⟩=some (e,s):=
 j6y q1x (Eq.trans (by kernel_rfl) h)
def q20 (pg:Prg) (x0_0:Int) (v0_1 v1:PV) (gh:List GObj):DR:=onK (degr1 v0_1) (stK 1 v1 (isC (degr v1) (onK (degr1 (degr1 (degr1 v0_1))) (arK (degr (degr v1)) (
  callR gh true (callL pg 32 [(.agg [I x0_0,(degr1 (degr1 (degr1 v0_1)))]),(degr (degr v1))] gh) fun r1 gh2=>unT 2 r1 fun r3 r4=>unB (degr1 (degr1 r3)) fun b5=>unI .i64 (degr1 (degr1 r4)) fun n6=>stK 1 v1 (onK (degr1 (degr1 (degr1 v0_1))) (
  callR gh2 true (callL pg 384 [(.agg [I x0_0,(degr1 (degr1 (degr1 v0_1)))])] gh2) fun r7 gh8=>unT 2 r7 fun r9 r10=>unS (degr1 (degr1 r9)) fun s11=>unI .i64 (degr1 (degr1 r10)) fun n12=>stK 1 v1 (onK (degr1 (degr1 (degr1 v0_1))) (
  callR gh8 true (callL pg 93 [(.agg [I x0_0,(degr1 (degr1 (degr1 v0_1)))])] gh8) fun r13 gh14=>unI .i64 r13 fun n15=>stK 1 v1 (stK 1 v1 (stK 1 v1 (
  br 28 (n15==0) (onK (degr1 (degr1 (degr1 v0_1))) (
  callR gh14 true (callL pg 385 [(.agg [I x0_0,(degr1 (degr1 (degr1 v0_1)))])] gh14) fun r16 gh17=>unS r16 fun s18=>stK 1 v1 (stK 1 v1 (
  kR (runL pg qj ⟨[(1,v1),(2,.ptr false 0 0),(5,B b5),(6,I n6),(7,.str s11),(8,I n12),(9,I n15),(10,I n15),(11,.str s18),(12,B false)],[[I x0_0,(degr1 v0_1)]],gh17⟩) (fun e s=>some (e,s)))))) (stK 1 v1 (
  kR (runL pg qj ⟨[(1,v1),(2,.ptr false 0 0),(5,B b5),(6,I n6),(7,.str s11),(8,I n12),(9,I n15),(10,I n15),(11,.str ByteArray.empty),(12,B false)],[[I x0_0,(degr1 v0_1)]],gh14⟩) (fun e s=>some (e,s))))))))))))))))
theorem q20_ {x0_0:Int} {v0_1 v1:PV} (h:q20 pg x0_0 v0_1 v1 gh=some (e,s)):runL pg q2k ⟨[(0,.agg [I x0_0,v0_1]),(1,v1)],[],gh⟩=some (e,s):=
 j6y q1x (Eq.trans (by kernel_rfl) h)
end
end Go.Lw
end
