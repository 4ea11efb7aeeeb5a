/-
  The texts that the proof stands on, part 11.
-/
import Derived.Test.YtmodipglnngghadGreatProveDifferentsJ
import Derived.KernelRfl
set_option linter.unusedVariables false
set_option linter.unusedSimpArgs false
set_option linter.unnecessarySimpa false

/-! What the code of function gates_Nodes comes to, piece by piece. Written by program (dprint.py). -/
section
set_option maxRecDepth 10000
set_option maxHeartbeats 4000000
namespace Go.Lw
open Go
noncomputable section
variable {pg:Prg} {gh:List GObj} {e:IExit} {s:St}
def qpq:Tr:=(tI 5 (tI 2 (.node 0 (.agg [.int .i64,.any]) .nil .nil) (uI 4)) (tI 8 (uO 7) (uI 9)))
def qbu (pg:Prg) (x0_0:Int) (v0_1:PV) (gh:List GObj):DR:=onK (degr1 v0_1) (isC (degr (degr1 v0_1)) (lenS (degr (degr (degr1 v0_1))) fun n1=>some (.ret,⟨[(2,(I (IntKind.i64.wrap ((IntKind.i64.wrap (1+x0_0))+(n1:Int)))))],[],gh⟩)))
theorem qbu_ {x0_0:Int} {v0_1:PV} (h:qbu pg x0_0 v0_1 gh=some (e,s)):runL pg q8r ⟨[(0,.agg [I x0_0,v0_1])],[],gh⟩=some (e,s):=
 jqr qpq (Eq.trans (by kernel_rfl) h)
end
end Go.Lw
end

/-! What the code of function slices_ContainsFunc_Lint_int comes to, piece by piece. Written by program (dprint.py). -/
section
set_option maxRecDepth 10000
set_option maxHeartbeats 4000000
namespace Go.Lw
open Go
noncomputable section
variable {pg:Prg} {gh:List GObj} {e:IExit} {s:St}
def qpr:Tr:=(tO 5 (tO 1 (uO 0) (uB 4)) (tI 7 (uO 6) (uB 8)))
def qbv (pg:Prg) (v0 v1:PV) (gh:List GObj):DR:=stK 0 v0 (stK 0 v1 (isC (degr v0) (isC (degr v1) (arK (degr (degr v0)) (arK (degr (degr v1)) (
  callR gh true (callL pg 111 [(degr (degr v0)),(degr (degr v1))] gh) fun r1 gh2=>unI .i64 r1 fun n3=>some (.ret,⟨[(4,(B (decide (0≤n3))))],[],gh2⟩)))))))
theorem qbv_ {v0 v1:PV} (h:qbv pg v0 v1 gh=some (e,s)):runL pg q8t ⟨[(0,v0),(1,v1)],[],gh⟩=some (e,s):=
 jqr qpr (Eq.trans (by kernel_rfl) h)
end
end Go.Lw
end

/-! What the code of function slices_IndexFunc_Lint_int comes to, piece by piece. Written by program (dprint.py). -/
section
set_option maxRecDepth 10000
set_option maxHeartbeats 4000000
namespace Go.Lw
open Go
noncomputable section
variable {pg:Prg} {gh:List GObj} {e:IExit} {s:St}
def q6s:Tr:=(tI 10 (tO 6 (tI 4 (tO 1 (uO 0) .nil) (uI 5)) (tI 8 (uI 7) (uB 9))) (tI 15 (tO 12 (uO 11) (uI 13)) (tI 17 (uB 16) (uI 18))))
def q35 (pg:Prg) (v0 v1:PV) (x7 x8:Int) (gh:List GObj):DR:=
  br 9 (decide (x8<x7)) (stK 0 v0 (stK 0 v1 (isC (degr v1) (isC (degr v0) (
  idX 1 none (degr (degr v0)) x8 fun p1=>
  ldX [] gh false 1 (degr p1) fun v2=>unI .i64 v2 fun n3=>
  fnX (degr (degr v1)) fun f6 cs7=>allK cs7 (callR gh true (callL pg f6 ([I n3]++cs7) gh) fun r4 gh5=>unB r4 fun b8=>stK 0 v0 (stK 0 v1 (
  br 16 b8 (some (.ret,⟨[(4,I x8)],[],gh5⟩)) (stK 0 v0 (stK 0 v1 (stK 0 v0 (stK 0 v1 (some (.normal,⟨[(0,v0),(1,v1),(7,I x7),(8,(I (IntKind.i64.wrap (x8+1))))],[],gh5⟩)))))))))))))) (some ((.exit 0),⟨[(0,v0),(1,v1),(7,I x7),(8,I x8),(9,(B (decide (x8<x7))))],[],gh⟩))
theorem q35_ {v0 v1:PV} {x7 x8:Int} (h:q35 pg v0 v1 x7 x8 gh=some (e,s)):runL pg q8u ⟨[(0,v0),(1,v1),(7,I x7),(8,I x8)],[],gh⟩=some (e,s):=
 jqr q6s (Eq.trans (by kernel_rfl) h)
def qps (pg:Prg) (gh:List GObj):DR:=some (.ret,⟨[(4,(I (-1)))],[],gh⟩)
theorem qps_ (h:qps pg gh=some (e,s)):runL pg q49 ⟨[],[],gh⟩=some (e,s):=
 jqr q6s (Eq.trans (by kernel_rfl) h)
def q6t (pg:Prg) (v0 v1:PV) (gh:List GObj):DR:=stK 0 v0 (stK 0 v1 (isC (degr v0) (lenS (degr (degr v0)) fun n1=>stK 0 v0 (stK 0 v1 (
  kR (runL pg q48 ⟨[(0,v0),(1,v1),(7,(I (n1:Int))),(8,I 0)],[],gh⟩) (fun e s=>nx e s (fun e s=>some (e,s)) fun s=>kR (runL pg q49 s) (fun e s=>some (e,s))))))))
theorem q6t_ {v0 v1:PV} (h:q6t pg v0 v1 gh=some (e,s)):runL pg q8v ⟨[(0,v0),(1,v1)],[],gh⟩=some (e,s):=
 jqr q6s (Eq.trans (by kernel_rfl) h)
end
end Go.Lw
end

/-! What the code of function gates_Check comes to, piece by piece. Written by program (dprint.py). -/
section
set_option maxRecDepth 10000
set_option maxHeartbeats 4000000
namespace Go.Lw
open Go
noncomputable section
variable {pg:Prg} {gh:List GObj} {e:IExit} {s:St}
def q6u:Tr:=(tB 35 (tB 17 (tB 9 (tI 4 (tI 2 (.node 0 (.agg [.int .i64,.any]) .nil .nil) (uO 3)) (tB 8 (uI 7) .nil)) (tB 13 (tB 12 (uI 11) .nil) (tI 16 (uO 15) .nil))) (.node 26 (.agg [.int .i64,.int .i64]) (tI 22 (tO 20 (uO 18) (uI 21)) (tI 24 (uB 23) .nil)) (tB 31 (tI 30 (uI 28) .nil) (tI 34 (uB 32) .nil)))) (tI 51 (tI 44 (tI 40 (tB 37 (uB 36) (uI 39)) (tI 43 (uI 42) .nil)) (tB 47 (tB 46 (uI 45) .nil) (tI 50 (uB 48) .nil))) (tI 59 (tB 56 (tI 54 (uI 53) (uB 55)) (.node 58 (.agg [.int .i64,.int .i64]) (uO 57) .nil)) (tO 63 (tI 61 (uO 60) .nil) (tB 65 (uI 64) .nil)))))
def qi (pg:Prg) (v3 v20:PV) (x21 x22 xc0_0:Int) (vc0_1:PV) (gh:List GObj):DR:=
  br 23 (decide (x22<x21)) (
  idX 2 none (degr v20) x22 fun p1=>
  ldX [[I xc0_0,vc0_1]] gh true 2 (degr p1) fun v2=>unA 2 v2 fun c3 c4=>unI .i64 c3 fun n5=>unI .i64 c4 fun n6=>stK 2 v3 (stK 2 v20 (
  br 32 (decide (n6≤n5)) (stK 2 v3 (stK 2 v20 (some (.ret,⟨[(2,I 4)],[],gh⟩)))) (
  br 37 (decide (n5<2)) (stK 2 v3 (stK 2 v20 (some (.ret,⟨[(2,I 4)],[],gh⟩)))) (gd (decide ((2:Int)≠0)) (
  br 48 (decide ((IntKind.i64.wrap ((IntKind.i64.wrap (1+xc0_0))+x22))≤(IntKind.i64.wrap (Int.tdiv n6 2)))) (stK 2 v3 (stK 2 v20 (some (.ret,⟨[(2,I 4)],[],gh⟩)))) (gd (decide ((2:Int)≠0)) (gd (decide ((2:Int)≠0)) (stK 2 v3 (stK 2 v20 (
  br 56 ((IntKind.i64.wrap (Int.tdiv n5 2))==(IntKind.i64.wrap (Int.tdiv n6 2))) (some (.ret,⟨[(2,I 4)],[],gh⟩)) (isC (degr v3) (
  muX gh 2 (degr (degr v3)) (.agg [I n5,I n6]) (B true) fun gh7=>stK 1 v3 (stK 1 v20 (stK 1 v3 (stK 1 v20 (stK 1 v3 (stK 1 v20 (some (.normal,⟨[(1,.ptr false 0 0),(3,v3),(20,v20),(21,I x21),(22,(I (IntKind.i64.wrap (x22+1))))],[[I xc0_0,vc0_1]],gh7⟩)))))))))))))))))))) (some ((.exit 0),⟨[(1,.ptr false 0 0),(3,v3),(20,v20),(21,I x21),(22,I x22),(23,(B (decide (x22<x21))))],[[I xc0_0,vc0_1]],gh⟩))
theorem qi_ {v3 v20:PV} {x21 x22 xc0_0:Int} {vc0_1:PV} (h:qi pg v3 v20 x21 x22 xc0_0 vc0_1 gh=some (e,s)):runL pg q8n ⟨[(1,.ptr false 0 0),(3,v3),(20,v20),(21,I x21),(22,I x22)],[[I xc0_0,vc0_1]],gh⟩=some (e,s):=
 jqr q6u (Eq.trans (by kernel_rfl) h)
def q6v (pg:Prg) (v3:PV) (xc0_0:Int) (vc0_1:PV) (gh:List GObj):DR:=isC (degr v3) (
  lenM gh (degr (degr v3)) fun n1=>isC (degr vc0_1) (lenS (degr (degr vc0_1)) fun n2=>
  br 65 (decide ((n1:Int)<(n2:Int))) (some (.ret,⟨[(2,I 6)],[],gh⟩)) (some (.ret,⟨[(2,I 0)],[],gh⟩))))
theorem q6v_ {v3:PV} {xc0_0:Int} {vc0_1:PV} (h:q6v pg v3 xc0_0 vc0_1 gh=some (e,s)):runL pg q42 ⟨[(1,.ptr false 0 0),(3,v3)],[[I xc0_0,vc0_1]],gh⟩=some (e,s):=
 jqr q6u (Eq.trans (by kernel_rfl) h)
def qt (pg:Prg) (x0_0:Int) (v0_1:PV) (gh:List GObj):DR:=onK (degr1 v0_1) (
  br 9 (decide (x0_0<0)) (some (.ret,⟨[(2,I 3)],[],gh⟩)) (
  br 13 (decide (1000<x0_0)) (some (.ret,⟨[(2,I 3)],[],gh⟩)) (isC (degr (degr1 v0_1)) (lenS (degr (degr (degr1 v0_1))) fun n1=>
  br 17 (decide (1000000<(n1:Int))) (some (.ret,⟨[(2,I 2)],[],gh⟩)) (isC (degr (degr1 v0_1)) (lenS (degr (degr (degr1 v0_1))) fun n2=>stK 1 (degr (degr1 v0_1)) (
  kR (runL pg q29 ⟨[(1,.ptr false 0 0),(3,(.mp (List.length gh))),(20,(degr (degr1 v0_1))),(21,(I (n2:Int))),(22,I 0)],[[I x0_0,(degr1 v0_1)]],(gh++[.map []])⟩) (fun e s=>nx e s (fun e s=>some (e,s)) fun s=>kR (runL pg q42 s) (fun e s=>some (e,s))))))))))
theorem qt_ {x0_0:Int} {v0_1:PV} (h:qt pg x0_0 v0_1 gh=some (e,s)):runL pg q8o ⟨[(0,.agg [I x0_0,v0_1])],[],gh⟩=some (e,s):=
 jqr q6u (Eq.trans (by kernel_rfl) h)
end
end Go.Lw
end

/-! What the code of function gates_Is comes to, piece by piece. Written by program (dprint.py). -/
section
set_option maxRecDepth 10000
set_option maxHeartbeats 4000000
namespace Go.Lw
open Go
noncomputable section
variable {pg:Prg} {gh:List GObj} {e:IExit} {s:St}
def qpt:Tr:=(tO 5 (tG 2 (tO 1 (.node 0 (.agg [.int .i64,.any]) .nil .nil) .nil) (uB 4)) (tB 7 (uO 6) (uB 8)))
def qbw (pg:Prg) (x0_0:Int) (v0_1 v1:PV) (gh:List GObj):DR:=onK (degr1 v0_1) (stK 0 v1 (isC (degr v1) (arK (degr (degr v1)) (
  callR (gh++[.cells [I x0_0,(degr1 v0_1)]]) true (callL pg 86 [(degr (degr v1)),(.fn 85 [(.ptr true (List.length gh) 0)])] (gh++[.cells [I x0_0,(degr1 v0_1)]])) fun r1 gh2=>unB r1 fun b3=>some (.ret,⟨[(4,(B (!b3)))],[],gh2⟩)))))
theorem qbw_ {x0_0:Int} {v0_1 v1:PV} (h:qbw pg x0_0 v0_1 v1 gh=some (e,s)):runL pg q8p ⟨[(0,.agg [I x0_0,v0_1]),(1,v1)],[],gh⟩=some (e,s):=
 jqr qpt (Eq.trans (by kernel_rfl) h)
end
end Go.Lw
end

/-! What the code of function gates_Is_1 comes to, piece by piece. Written by program (dprint.py). -/
section
set_option maxRecDepth 10000
set_option maxHeartbeats 4000000
namespace Go.Lw
open Go
noncomputable section
variable {pg:Prg} {gh:List GObj} {e:IExit} {s:St}
def qpu:Tr:=(tI 7 (tI 4 (tG 1 (uI 0) (uB 3)) (tB 6 (uB 5) .nil)) (tI 10 (tI 9 (.node 8 (.agg [.int .i64,.any]) .nil .nil) .nil) (tB 12 (uB 11) .nil)))
def q6w (pg:Prg) (x0:Int) (g1 o1:Nat) (gh:List GObj):DR:=
  br 6 (decide (x0<0)) (some (.ret,⟨[(3,B true)],[],gh⟩)) (
  ob (ghCells gh g1) fun cs1=>
  ob (grab true 2 o1 cs1) fun v2=>unA 2 (degr v2) fun c3 c4=>unI .i64 c3 fun n5=>onK (degr1 c4) (
  callR gh true (callL pg 88 [(.agg [I n5,(degr1 c4)])] gh) fun r6 gh7=>unI .i64 r6 fun n8=>some (.ret,⟨[(3,(B (decide ((IntKind.i64.wrap (2*n8))≤x0))))],[],gh7⟩)))
theorem q6w_ {x0:Int} {g1 o1:Nat} (h:q6w pg x0 g1 o1 gh=some (e,s)):runL pg q8q ⟨[(0,I x0),(1,.ptr true g1 o1)],[],gh⟩=some (e,s):=
 jqr qpu (Eq.trans (by kernel_rfl) h)
end
end Go.Lw
end

/-! What the code of function ref_between comes to, piece by piece. Written by program (dprint.py). -/
section
set_option maxRecDepth 10000
set_option maxHeartbeats 4000000
namespace Go.Lw
open Go
noncomputable section
variable {pg:Prg} {gh:List GObj} {e:IExit} {s:St}
def qpv:Tr:=(tB 9 (tB 6 (tI 1 (uI 0) (uI 2)) (tI 8 (uI 7) .nil)) (tI 12 (tI 11 (uB 10) .nil) (tB 14 (uB 13) .nil)))
def q6x (pg:Prg) (x0 x1 x2:Int) (gh:List GObj):DR:=
  br 10 (decide (x1≤x0)) (some (.ret,⟨[(6,(B (decide (x0≤x2))))],[],gh⟩)) (some (.ret,⟨[(6,B false)],[],gh⟩))
theorem q6x_ {x0 x1 x2:Int} (h:q6x pg x0 x1 x2 gh=some (e,s)):runL pg q9n ⟨[(0,I x0),(1,I x1),(2,I x2)],[],gh⟩=some (e,s):=
 jqr qpv (Eq.trans (by kernel_rfl) h)
end
end Go.Lw
end

/-! What the code of function ref_CheckGraph comes to, piece by piece. Written by program (dprint.py). -/
section
set_option maxRecDepth 10000
set_option maxHeartbeats 4000000
namespace Go.Lw
open Go
noncomputable section
variable {pg:Prg} {gh:List GObj} {e:IExit} {s:St}
def q1u:Tr:=(tB 40 (tB 19 (tB 9 (tI 4 (tI 2 (.node 0 (.agg [.int .i64,.any]) .nil .nil) (uI 3)) (tI 6 (uI 5) (uI 8))) (tB 14 (tO 12 (uB 10) (uI 13)) (tO 17 (uI 15) (uI 18)))) (tI 33 (tI 24 (tI 21 (uI 20) (uO 23)) (tO 29 (uI 27) (uI 30))) (tB 37 (tI 35 (uI 34) (uB 36)) (tB 39 (uI 38) .nil)))) (tB 56 (tB 49 (tI 45 (tI 42 (uB 41) (uI 44)) (tI 47 (uI 46) (uI 48))) (tI 53 (tB 51 (uB 50) (uI 52)) (tI 55 (uI 54) .nil))) (.node 65 (.agg [.int .i64,.any]) (tI 61 (tI 58 (uB 57) (uO 60)) (tI 63 (uB 62) (uI 64))) (.node 71 (.agg [.int .i64,.int .i64]) (tO 68 (uI 66) (uI 69)) (tB 73 (uI 72) .nil)))))
def qj (pg:Prg) (x3 xc0_0:Int) (vc0_1:PV) (gh:List GObj):DR:=isC (degr vc0_1) (lenS (degr (degr vc0_1)) fun n1=>
  br 19 (decide (x3<(n1:Int))) (isC (degr vc0_1) (
  idX 2 none (degr (degr vc0_1)) x3 fun p2=>
  idX 1 (some 2) (degr p2) 0 fun p3=>
  ldX [[I xc0_0,vc0_1]] gh false 1 (degr p3) fun v4=>unI .i64 v4 fun n5=>isC (degr vc0_1) (
  idX 2 none (degr (degr vc0_1)) x3 fun p6=>
  idX 1 (some 2) (degr p6) 1 fun p7=>
  ldX [[I xc0_0,vc0_1]] gh false 1 (degr p7) fun v8=>unI .i64 v8 fun n9=>
  br 37 (decide (n9≤n5)) (some (.ret,⟨[(2,I 4)],[],gh⟩)) (
  br 41 (decide (n5<2)) (some (.ret,⟨[(2,I 4)],[],gh⟩)) (
  br 51 (decide ((IntKind.i64.wrap (2*(IntKind.i64.wrap ((IntKind.i64.wrap (1+xc0_0))+x3))))≤n9)) (some (.ret,⟨[(2,I 4)],[],gh⟩)) (gd (decide ((2:Int)≠0)) (gd (decide ((2:Int)≠0)) (
  br 57 ((IntKind.i64.wrap (Int.tdiv n5 2))==(IntKind.i64.wrap (Int.tdiv n9 2))) (some (.ret,⟨[(2,I 4)],[],gh⟩)) (some (.normal,⟨[(1,.ptr false 0 0),(3,(I (IntKind.i64.wrap (x3+1))))],[[I xc0_0,vc0_1]],gh⟩)))))))))) (some ((.exit 0),⟨[(1,.ptr false 0 0),(3,I x3),(19,(B (decide (x3<(n1:Int)))))],[[I xc0_0,vc0_1]],gh⟩)))
theorem qj_ {x3 xc0_0:Int} {vc0_1:PV} (h:qj pg x3 xc0_0 vc0_1 gh=some (e,s)):runL pg q9d ⟨[(1,.ptr false 0 0),(3,I x3)],[[I xc0_0,vc0_1]],gh⟩=some (e,s):=
 jqr q1u (Eq.trans (by kernel_rfl) h)
def q36 (pg:Prg) (x6 xc0_0:Int) (vc0_1:PV) (gh:List GObj):DR:=isC (degr vc0_1) (lenS (degr (degr vc0_1)) fun n1=>
  br 62 (decide (x6<(n1:Int))) (isC (degr vc0_1) (
  idX 2 none (degr (degr vc0_1)) x6 fun p2=>
  ldX [[I xc0_0,vc0_1]] gh true 2 (degr p2) fun v3=>unA 2 v3 fun c4 c5=>unI .i64 c4 fun n6=>unI .i64 c5 fun n7=>onK (degr1 (degr1 vc0_1)) (
  callR gh true (callL pg 51 [(.agg [I xc0_0,(degr1 (degr1 vc0_1))]),I x6,.agg [I n6,I n7]] gh) fun r8 gh9=>unI .i64 r8 fun n10=>
  br 73 (decide (0≤n10)) (some (.ret,⟨[(2,I 6)],[],gh9⟩)) (some (.normal,⟨[(1,.ptr false 0 0),(6,(I (IntKind.i64.wrap (x6+1))))],[[I xc0_0,vc0_1]],gh9⟩))))) (some ((.exit 2),⟨[(1,.ptr false 0 0),(6,I x6),(62,(B (decide (x6<(n1:Int)))))],[[I xc0_0,vc0_1]],gh⟩)))
theorem q36_ {x6 xc0_0:Int} {vc0_1:PV} (h:q36 pg x6 xc0_0 vc0_1 gh=some (e,s)):runL pg q9e ⟨[(1,.ptr false 0 0),(6,I x6)],[[I xc0_0,vc0_1]],gh⟩=some (e,s):=
 jqr q1u (Eq.trans (by kernel_rfl) h)
def qpw (pg:Prg) (gh:List GObj):DR:=some (.ret,⟨[(2,I 0)],[],gh⟩)
theorem qpw_ (h:qpw pg gh=some (e,s)):runL pg q4s ⟨[],[],gh⟩=some (e,s):=
 jqr q1u (Eq.trans (by kernel_rfl) h)
def q6y (pg:Prg) (xc0_0:Int) (vc0_1:PV) (gh:List GObj):DR:=
  kR (runL pg q4r ⟨[(1,.ptr false 0 0),(6,I 0)],[[I xc0_0,vc0_1]],gh⟩) (fun e s=>nx e s (fun e s=>some (e,s)) fun s=>kR (runL pg q4s s) (fun e s=>some (e,s)))
theorem q6y_ {xc0_0:Int} {vc0_1:PV} (h:q6y pg xc0_0 vc0_1 gh=some (e,s)):runL pg q4t ⟨[(1,.ptr false 0 0)],[[I xc0_0,vc0_1]],gh⟩=some (e,s):=
 jqr q1u (Eq.trans (by kernel_rfl) h)
def q12 (pg:Prg) (x0_0:Int) (v0_1:PV) (gh:List GObj):DR:=onK (degr1 v0_1) (
  callR gh true (callL pg 50 [I x0_0,I 0,I 1000] gh) fun r1 gh2=>unB r1 fun b3=>
  br 10 (!b3) (some (.ret,⟨[(2,I 3)],[],gh2⟩)) (isC (degr (degr1 v0_1)) (lenS (degr (degr (degr1 v0_1))) fun n4=>
  br 14 (decide (1000000<(n4:Int))) (some (.ret,⟨[(2,I 2)],[],gh2⟩)) (
  kR (runL pg q4q ⟨[(1,.ptr false 0 0),(3,I 0)],[[I x0_0,(degr1 v0_1)]],gh2⟩) (fun e s=>nx e s (fun e s=>some (e,s)) fun s=>kR (runL pg q4t s) (fun e s=>some (e,s)))))))
theorem q12_ {x0_0:Int} {v0_1:PV} (h:q12 pg x0_0 v0_1 gh=some (e,s)):runL pg q9f ⟨[(0,.agg [I x0_0,v0_1])],[],gh⟩=some (e,s):=
 jqr q1u (Eq.trans (by kernel_rfl) h)
end
end Go.Lw
end

/-! What the code of function ref_AndAt comes to, piece by piece. Written by program (dprint.py). -/
section
set_option maxRecDepth 10000
set_option maxHeartbeats 4000000
namespace Go.Lw
open Go
noncomputable section
variable {pg:Prg} {gh:List GObj} {e:IExit} {s:St}
def q6z:Tr:=(tI 11 (tI 7 (.node 2 (.agg [.int .i64,.int .i64]) (tI 1 (.node 0 (.agg [.int .i64,.any]) .nil .nil) .nil) (uI 6)) (tI 9 (uI 8) (uB 10))) (.node 17 (.agg [.int .i64,.int .i64]) (tO 14 (uI 12) (uI 15)) (tB 19 (.node 18 (.agg [.int .i64,.int .i64]) .nil .nil) (uI 20))))
def q37 (pg:Prg) (x1 x7 xc0_0:Int) (vc0_1:PV) (xc1_0 xc1_1:Int) (gh:List GObj):DR:=
  br 10 (decide (x7<x1)) (isC (degr vc0_1) (
  idX 2 none (degr (degr vc0_1)) x7 fun p1=>
  ldX [[I xc0_0,vc0_1],[I xc1_0,I xc1_1]] gh true 2 (degr p1) fun v2=>unA 2 v2 fun c3 c4=>unI .i64 c3 fun n5=>unI .i64 c4 fun n6=>ob (flatEq [false,false] [I n5,I n6] [I xc1_0,I xc1_1]) fun b7=>
  br 19 b7 (some (.ret,⟨[(6,I x7)],[],gh⟩)) (some (.normal,⟨[(1,I x1),(3,.ptr false 0 0),(5,.ptr false 1 0),(7,(I (IntKind.i64.wrap (x7+1))))],[[I xc0_0,vc0_1],[I xc1_0,I xc1_1]],gh⟩)))) (some ((.exit 0),⟨[(1,I x1),(3,.ptr false 0 0),(5,.ptr false 1 0),(7,I x7),(10,(B (decide (x7<x1))))],[[I xc0_0,vc0_1],[I xc1_0,I xc1_1]],gh⟩))
theorem q37_ {x1 x7 xc0_0:Int} {vc0_1:PV} {xc1_0 xc1_1:Int} (h:q37 pg x1 x7 xc0_0 vc0_1 xc1_0 xc1_1 gh=some (e,s)):runL pg q9o ⟨[(1,I x1),(3,.ptr false 0 0),(5,.ptr false 1 0),(7,I x7)],[[I xc0_0,vc0_1],[I xc1_0,I xc1_1]],gh⟩=some (e,s):=
 jqr q6z (Eq.trans (by kernel_rfl) h)
def qpx (pg:Prg) (gh:List GObj):DR:=some (.ret,⟨[(6,(I (-1)))],[],gh⟩)
theorem qpx_ (h:qpx pg gh=some (e,s)):runL pg q53 ⟨[],[],gh⟩=some (e,s):=
 jqr q6z (Eq.trans (by kernel_rfl) h)
def q70 (pg:Prg) (x0_0:Int) (v0_1:PV) (x1 x2_0 x2_1:Int) (gh:List GObj):DR:=onK (degr1 v0_1) (
  kR (runL pg q52 ⟨[(1,I x1),(3,.ptr false 0 0),(5,.ptr false 1 0),(7,I 0)],[[I x0_0,(degr1 v0_1)],[I x2_0,I x2_1]],gh⟩) (fun e s=>nx e s (fun e s=>some (e,s)) fun s=>kR (runL pg q53 s) (fun e s=>some (e,s))))
theorem q70_ {x0_0:Int} {v0_1:PV} {x1 x2_0 x2_1:Int} (h:q70 pg x0_0 v0_1 x1 x2_0 x2_1 gh=some (e,s)):runL pg q9p ⟨[(0,.agg [I x0_0,v0_1]),(1,I x1),(2,.agg [I x2_0,I x2_1])],[],gh⟩=some (e,s):=
 jqr q6z (Eq.trans (by kernel_rfl) h)
end
end Go.Lw
end

/-! What the code of function ref_IsLit comes to, piece by piece. Written by program (dprint.py). -/
section
set_option maxRecDepth 10000
set_option maxHeartbeats 4000000
namespace Go.Lw
open Go
noncomputable section
variable {pg:Prg} {gh:List GObj} {e:IExit} {s:St}
def qpy:Tr:=(tO 10 (tI 5 (tI 1 (.node 0 (.agg [.int .i64,.any]) .nil .nil) (uB 4)) (tI 8 (uI 7) .nil)) (tI 13 (tI 12 (uI 11) .nil) (tB 15 (uI 14) .nil)))
def qbx (pg:Prg) (x0_0:Int) (v0_1:PV) (x1:Int) (gh:List GObj):DR:=onK (degr1 v0_1) (isC (degr (degr1 v0_1)) (lenS (degr (degr (degr1 v0_1))) fun n1=>
  callR gh true (callL pg 50 [I x1,I 0,(I (IntKind.i64.wrap ((IntKind.i64.wrap (2*(IntKind.i64.wrap ((IntKind.i64.wrap (1+x0_0))+(n1:Int)))))-1)))] gh) fun r2 gh3=>unB r2 fun b4=>some (.ret,⟨[(4,B b4)],[],gh3⟩)))
theorem qbx_ {x0_0:Int} {v0_1:PV} {x1:Int} (h:qbx pg x0_0 v0_1 x1 gh=some (e,s)):runL pg q9g ⟨[(0,.agg [I x0_0,v0_1]),(1,I x1)],[],gh⟩=some (e,s):=
 jqr qpy (Eq.trans (by kernel_rfl) h)
end
end Go.Lw
end

/-! What the code of function blast_Check comes to, piece by piece. Written by program (dprint.py). -/
section
set_option maxRecDepth 10000
set_option maxHeartbeats 4000000
namespace Go.Lw
open Go
noncomputable section
variable {pg:Prg} {gh:List GObj} {e:IExit} {s:St}
def qpz:Tr:=(tB 31 (tB 14 (tI 7 (tI 3 (tI 2 (.node 0 (.agg [.int .i64,.any,.int .i64,.int .i64,.any,.any,.any,.any]) .nil .nil) .nil) (.node 6 (.agg [.int .i64,.any]) (uO 4) .nil)) (tI 10 (tB 9 (uI 8) .nil) (tI 13 (uB 11) .nil))) (tI 22 (tB 18 (tI 17 (uB 15) .nil) (tB 20 (uB 19) .nil)) (tI 28 (tI 25 (uI 24) .nil) (tB 30 (uB 29) .nil)))) (tO 48 (tO 40 (tI 36 (tI 34 (uO 33) .nil) (tB 38 (uB 37) .nil)) (tB 44 (tI 43 (uI 41) .nil) (tO 47 (uB 45) .nil))) (tO 58 (tO 52 (.node 51 (.agg [.int .i64,.any]) (uO 49) .nil) (tO 56 (uO 54) .nil)) (tB 61 (tO 60 (uO 59) .nil) (uB 62)))))
def qe (pg:Prg) (x0_0:Int) (v0_1:PV) (x0_2 x0_3:Int) (v0_4 v0_5:PV) (v0_6 v0_7:PV) (gh:List GObj):DR:=onK (degr1 v0_1) (onK (degr1 v0_4) (onK (degr1 v0_5) (onK (degr1 v0_6) (onK (degr1 v0_7) (onK (degr1 (degr1 (degr1 v0_1))) (
  callR gh true (callL pg 6 [(.agg [I x0_0,(degr1 (degr1 (degr1 v0_1)))])] gh) fun r1 gh2=>unI .i64 r1 fun n3=>
  br 9 (n3 !=0) (some (.ret,⟨[(2,I n3)],[],gh2⟩)) (
  br 15 (decide (x0_2<0)) (some (.ret,⟨[(2,I 4)],[],gh2⟩)) (
  br 20 (decide (x0_3<0)) (some (.ret,⟨[(2,I 4)],[],gh2⟩)) (
  br 11 ((IntKind.i64.wrap (x0_2+x0_3)) !=x0_0) (some (.ret,⟨[(2,I 4)],[],gh2⟩)) (isC (degr (degr1 v0_4)) (lenS (degr (degr (degr1 v0_4))) fun n4=>
  br 38 ((n4:Int) !=x0_3) (some (.ret,⟨[(2,I 1)],[],gh2⟩)) (isC (degr (degr1 v0_5)) (lenS (degr (degr (degr1 v0_5))) fun n5=>
  br 31 ((n5:Int) !=x0_3) (some (.ret,⟨[(2,I 1)],[],gh2⟩)) (isC (degr (degr1 v0_4)) (arK (degr (degr (degr1 v0_4))) (
  callR gh2 false (callL pg 121 [(degr (degr (degr1 v0_4)))] gh2) fun r6 gh7=>isC r6 (arK (degr r6) (
  callR gh7 false (callL pg 343 [(degr r6),.fn 215 []] gh7) fun r8 gh9=>isC r8 (stK 1 r8 (isC (degr r8) (isC (degr (degr1 v0_5)) (isC (degr (degr1 v0_6)) (isC (degr (degr1 v0_7)) (arK (degr (degr r8)) (lnK 1 (degr (degr r8)) (arK (degr (degr (degr1 v0_5))) (lnK 1 (degr (degr (degr1 v0_5))) (arK (degr (degr (degr1 v0_6))) (lnK 1 (degr (degr (degr1 v0_6))) (arK (degr (degr (degr1 v0_7))) (lnK 1 (degr (degr (degr1 v0_7))) (
  callR gh9 false (callL pg 344 [(.sl false 1 [(degr (degr r8)),(degr (degr (degr1 v0_5))),(degr (degr (degr1 v0_6))),(degr (degr (degr1 v0_7)))])] gh9) fun r10 gh11=>isC r10 (onK (degr1 (degr1 (degr1 v0_1))) (arK (degr r10) (
  callR gh11 true (callL pg 47 [(.agg [I x0_0,(degr1 (degr1 (degr1 v0_1)))]),(degr r10)] gh11) fun r12 gh13=>unB r12 fun b14=>
  br 62 (!b14) (some (.ret,⟨[(2,I 5)],[],gh13⟩)) (some (.ret,⟨[(2,I 0)],[],gh13⟩)))))))))))))))))))))))))))))))))))))
theorem qe_ {x0_0:Int} {v0_1:PV} {x0_2 x0_3:Int} {v0_4 v0_5:PV} {v0_6 v0_7:PV} (h:qe pg x0_0 v0_1 x0_2 x0_3 v0_4 v0_5 v0_6 v0_7 gh=some (e,s)):runL pg q3s ⟨[(0,.agg [I x0_0,v0_1,I x0_2,I x0_3,v0_4,v0_5,v0_6,v0_7])],[],gh⟩=some (e,s):=
 jqr qpz (Eq.trans (by kernel_rfl) h)
end
end Go.Lw
end

/-! What the code of function blast_Check_1 comes to, piece by piece. Written by program (dprint.py). -/
section
set_option maxRecDepth 10000
set_option maxHeartbeats 4000000
namespace Go.Lw
open Go
noncomputable section
variable {pg:Prg} {gh:List GObj} {e:IExit} {s:St}
def qq0:Tr:=(tI 3 (tB 2 (uI 0) .nil) (uB 4))
def qby (pg:Prg) (x0:Int) (gh:List GObj):DR:=some (.ret,⟨[(2,(B (x0==(-1))))],[],gh⟩)
theorem qby_ {x0:Int} (h:qby pg x0 gh=some (e,s)):runL pg q8d ⟨[(0,I x0)],[],gh⟩=some (e,s):=
 jqr qq0 (Eq.trans (by kernel_rfl) h)
end
end Go.Lw
end

/-! What the code of function slices_DeleteFunc_Lint_int_K comes to, piece by piece. Written by program (dprint.py). -/
section
set_option maxRecDepth 10000
set_option maxHeartbeats 4000000
namespace Go.Lw
open Go
noncomputable section
variable {pg:Prg} {gh:List GObj} {e:IExit} {s:St}
def q38:Tr:=(tI 21 (tI 11 (tI 6 (tO 4 (tO 1 (uO 0) .nil) (uI 5)) (tO 9 (tO 8 (uI 7) .nil) (uI 10))) (tI 16 (tI 14 (tO 13 (uB 12) .nil) (uI 15)) (tB 19 (tI 18 (uO 17) .nil) (uI 20)))) (tI 32 (tI 27 (tI 25 (tI 23 (uO 22) .nil) (uO 26)) (tO 30 (tB 29 (uB 28) .nil) (uI 31))) (tO 38 (tO 36 (tI 35 (uI 34) .nil) (uI 37)) (tI 40 (uO 39) (uO 41)))))
def qbz (pg:Prg) (v0 v1:PV) (x5 x6:Int) (gh:List GObj):DR:=stK 0 v0 (stK 0 v1 (some (.normal,⟨[(0,v0),(1,v1),(5,I x5),(6,(I (IntKind.i64.wrap (x6+1))))],[],gh⟩)))
theorem qbz_ {v0 v1:PV} {x5 x6:Int} (h:qbz pg v0 v1 x5 x6 gh=some (e,s)):runL pg q1c ⟨[(0,v0),(1,v1),(5,I x5),(6,I x6)],[],gh⟩=some (e,s):=
 jqr q38 (Eq.trans (by kernel_rfl) h)
def q39 (pg:Prg) (v0 v1:PV) (x5 x6:Int) (gh:List GObj):DR:=isC (degr v0) (lenS (degr (degr v0)) fun n1=>stK 0 v0 (stK 0 v1 (
  br 19 (decide (x6<(n1:Int))) (isC (degr v0) (
  idX 1 none (degr (degr v0)) x6 fun p2=>
  lkK gh (degr p2) fun v3=>unI .i64 v3 fun n4=>stK 0 v0 (stK 0 v1 (isC (degr v1) (
  fnX (degr (degr v1)) fun f7 cs8=>allK cs8 (callR gh true (callL pg f7 ([I n4]++cs8) gh) fun r5 gh6=>unB r5 fun b9=>stK 0 v0 (stK 0 v1 (
  br 29 (!b9) (isC (degr v0) (
  idX 1 none (degr (degr v0)) x5 fun p10=>
  skK gh6 (degr p10) (I n4) fun gh11=>stK 0 v0 (stK 0 v1 (stK 0 v0 (stK 0 v1 (stK 0 v0 (stK 0 v1 (
  kR (runL pg q1c ⟨[(0,v0),(1,v1),(5,(I (IntKind.i64.wrap (x5+1)))),(6,I x6)],[],gh11⟩) (fun e s=>po [0,1,5,6] 0 e s (fun e s=>some (e,s))))))))))) (stK 0 v0 (stK 0 v1 (
  kR (runL pg q1c ⟨[(0,v0),(1,v1),(5,I x5),(6,I x6)],[],gh6⟩) (fun e s=>po [0,1,5,6] 0 e s (fun e s=>some (e,s)))))))))))))) (some ((.exit 0),⟨[(0,v0),(1,v1),(5,I x5),(6,I x6),(19,(B (decide (x6<(n1:Int)))))],[],gh⟩)))))
theorem q39_ {v0 v1:PV} {x5 x6:Int} (h:q39 pg v0 v1 x5 x6 gh=some (e,s)):runL pg q8y ⟨[(0,v0),(1,v1),(5,I x5),(6,I x6)],[],gh⟩=some (e,s):=
 jqr q38 (Eq.trans (by kernel_rfl) h)
def qc0 (pg:Prg) (v0:PV) (x5:Int) (gh:List GObj):DR:=isC (degr v0) (
  slX 1 (degr (degr v0)) (some x5) none fun v1=>isC v1 (
  ckK gh (degr v1) fun gh2=>stK 0 v0 (isC (degr v0) (
  slX 1 (degr (degr v0)) none (some x5) fun v3=>isC v3 (stK 0 v3 (some (.ret,⟨[(4,v3)],[],gh2⟩)))))))
theorem qc0_ {v0:PV} {x5:Int} (h:qc0 pg v0 x5 gh=some (e,s)):runL pg q2c ⟨[(0,v0),(5,I x5)],[],gh⟩=some (e,s):=
 jqr q38 (Eq.trans (by kernel_rfl) h)
def q3a (pg:Prg) (v0 v1:PV) (gh:List GObj):DR:=stK 0 v0 (stK 0 v1 (isC (degr v0) (isC (degr v1) (arK (degr (degr v0)) (arK (degr (degr v1)) (
  callR gh false (callL pg 208 [(degr (degr v0)),(degr (degr v1))] gh) fun r1 gh2=>unI .i64 r1 fun n3=>stK 0 v0 (stK 0 v1 (stK 0 v0 (stK 0 v1 (
  br 12 (n3==(-1)) (isC (degr v0) (stK 0 (degr v0) (some (.ret,⟨[(4,(degr v0))],[],gh2⟩)))) (stK 0 v0 (stK 0 v1 (
  kR (runL pg q4b ⟨[(0,v0),(1,v1),(5,I n3),(6,(I (IntKind.i64.wrap (n3+1))))],[],gh2⟩) (fun e s=>nx e s (fun e s=>some (e,s)) fun s=>kR (runL pg q2c s) (fun e s=>some (e,s))))))))))))))))
theorem q3a_ {v0 v1:PV} (h:q3a pg v0 v1 gh=some (e,s)):runL pg q8z ⟨[(0,v0),(1,v1)],[],gh⟩=some (e,s):=
 jqr q38 (Eq.trans (by kernel_rfl) h)
end
end Go.Lw
end

/-! What the code of function slices_Concat_Lint_int_K comes to, piece by piece. Written by program (dprint.py). -/
section
set_option maxRecDepth 10000
set_option maxHeartbeats 4000000
namespace Go.Lw
open Go
noncomputable section
variable {pg:Prg} {gh:List GObj} {e:IExit} {s:St}
def q1v:Tr:=(tI 19 (tI 10 (tO 5 (tO 2 (uO 0) (uI 3)) (tO 8 (uO 6) (uO 9))) (tI 15 (tB 12 (uI 11) (uO 14)) (tI 17 (uO 16) (uI 18)))) (tB 28 (tO 24 (tI 22 (uB 20) (uI 23)) (tI 26 (uO 25) (uI 27))) (tO 33 (tO 31 (uO 30) (uO 32)) (tO 35 (uI 34) .nil))))
def q71 (pg:Prg) (v0:PV) (x3:Int) (v9:PV) (x10 x11:Int) (gh:List GObj):DR:=
  br 12 (decide (x11<x10)) (
  idX 1 none (degr v9) x11 fun p1=>
  ldX [] gh false 1 (degr p1) fun v2=>isC v2 (stK 0 v0 (stK 0 v2 (stK 0 v9 (isC (degr v2) (lenS (degr (degr v2)) fun n3=>stK 0 v0 (stK 0 v9 (stK 0 v0 (stK 0 v9 (
  br 20 (decide ((IntKind.i64.wrap (x3+(n3:Int)))<0)) (none) (stK 0 v0 (stK 0 v9 (stK 0 v0 (stK 0 v9 (some (.normal,⟨[(0,v0),(3,(I (IntKind.i64.wrap (x3+(n3:Int))))),(9,v9),(10,I x10),(11,(I (IntKind.i64.wrap (x11+1))))],[],gh⟩)))))))))))))))) (some ((.exit 0),⟨[(0,v0),(3,I x3),(9,v9),(10,I x10),(11,I x11),(12,(B (decide (x11<x10))))],[],gh⟩))
theorem q71_ {v0:PV} {x3:Int} {v9:PV} {x10 x11:Int} (h:q71 pg v0 x3 v9 x10 x11 gh=some (e,s)):runL pg q90 ⟨[(0,v0),(3,I x3),(9,v9),(10,I x10),(11,I x11)],[],gh⟩=some (e,s):=
 jqr q1v (Eq.trans (by kernel_rfl) h)
def q72 (pg:Prg) (v6 v25:PV) (x26 x27:Int) (gh:List GObj):DR:=
  br 28 (decide (x27<x26)) (
  idX 1 none (degr v25) x27 fun p1=>
  ldX [] gh false 1 (degr p1) fun v2=>isC v2 (stK 0 v6 (stK 0 v2 (stK 0 v25 (isC (degr v2) (
  aeX gh 8 v6 (degr (degr v2)) fun l3=>stK 0 v25 (stK 0 v25 (stK 0 v25 (some (.normal,⟨[(6,.sl true 1 l3),(25,v25),(26,I x26),(27,(I (IntKind.i64.wrap (x27+1))))],[],gh⟩)))))))))) (some ((.exit 2),⟨[(6,v6),(25,v25),(26,I x26),(27,I x27),(28,(B (decide (x27<x26))))],[],gh⟩))
theorem q72_ {v6 v25:PV} {x26 x27:Int} (h:q72 pg v6 v25 x26 x27 gh=some (e,s)):runL pg q91 ⟨[(6,v6),(25,v25),(26,I x26),(27,I x27)],[],gh⟩=some (e,s):=
 jqr q1v (Eq.trans (by kernel_rfl) h)
def qc1 (pg:Prg) (v6:PV) (gh:List GObj):DR:=isC (degr v6) (stK 0 (degr v6) (some (.ret,⟨[(2,(degr v6))],[],gh⟩)))
theorem qc1_ {v6:PV} (h:qc1 pg v6 gh=some (e,s)):runL pg q4e ⟨[(6,v6)],[],gh⟩=some (e,s):=
 jqr q1v (Eq.trans (by kernel_rfl) h)
def qc2 (pg:Prg) (v0:PV) (x3:Int) (gh:List GObj):DR:=
  callR gh true (callL pg 119 [.nils,I x3] gh) fun r1 gh2=>isC r1 (stK 0 v0 (stK 0 r1 (isC (degr v0) (lenS (degr (degr v0)) fun n3=>stK 0 r1 (stK 0 (degr v0) (
  kR (runL pg q4d ⟨[(6,r1),(25,(degr v0)),(26,(I (n3:Int))),(27,I 0)],[],gh2⟩) (fun e s=>nx e s (fun e s=>some (e,s)) fun s=>kR (runL pg q4e s) (fun e s=>some (e,s)))))))))
theorem qc2_ {v0:PV} {x3:Int} (h:qc2 pg v0 x3 gh=some (e,s)):runL pg q4f ⟨[(0,v0),(3,I x3)],[],gh⟩=some (e,s):=
 jqr q1v (Eq.trans (by kernel_rfl) h)
def qc3 (pg:Prg) (v0:PV) (gh:List GObj):DR:=stK 0 v0 (isC (degr v0) (lenS (degr (degr v0)) fun n1=>stK 0 v0 (stK 0 (degr v0) (
  kR (runL pg q4c ⟨[(0,v0),(3,I 0),(9,(degr v0)),(10,(I (n1:Int))),(11,I 0)],[],gh⟩) (fun e s=>nx e s (fun e s=>some (e,s)) fun s=>kR (runL pg q4f s) (fun e s=>some (e,s)))))))
theorem qc3_ {v0:PV} (h:qc3 pg v0 gh=some (e,s)):runL pg q92 ⟨[(0,v0)],[],gh⟩=some (e,s):=
 jqr q1v (Eq.trans (by kernel_rfl) h)
end
end Go.Lw
end

/-! What the code of function slices_IndexFunc_Lint_int_K comes to, piece by piece. Written by program (dprint.py). -/
section
set_option maxRecDepth 10000
set_option maxHeartbeats 4000000
namespace Go.Lw
open Go
noncomputable section
variable {pg:Prg} {gh:List GObj} {e:IExit} {s:St}
def q73:Tr:=(tI 10 (tO 6 (tI 4 (tO 1 (uO 0) .nil) (uI 5)) (tI 8 (uI 7) (uB 9))) (tI 15 (tO 12 (uO 11) (uI 13)) (tI 17 (uB 16) (uI 18))))
def q1w (pg:Prg) (v0 v1:PV) (x7 x8:Int) (gh:List GObj):DR:=
  br 9 (decide (x8<x7)) (stK 0 v0 (stK 0 v1 (isC (degr v1) (isC (degr v0) (
  idX 1 none (degr (degr v0)) x8 fun p1=>
  lkK gh (degr p1) fun v2=>unI .i64 v2 fun n3=>
  fnX (degr (degr v1)) fun f6 cs7=>allK cs7 (callR gh true (callL pg f6 ([I n3]++cs7) gh) fun r4 gh5=>unB r4 fun b8=>stK 0 v0 (stK 0 v1 (
  br 16 b8 (some (.ret,⟨[(4,I x8)],[],gh5⟩)) (stK 0 v0 (stK 0 v1 (stK 0 v0 (stK 0 v1 (some (.normal,⟨[(0,v0),(1,v1),(7,I x7),(8,(I (IntKind.i64.wrap (x8+1))))],[],gh5⟩)))))))))))))) (some ((.exit 0),⟨[(0,v0),(1,v1),(7,I x7),(8,I x8),(9,(B (decide (x8<x7))))],[],gh⟩))
theorem q1w_ {v0 v1:PV} {x7 x8:Int} (h:q1w pg v0 v1 x7 x8 gh=some (e,s)):runL pg q8w ⟨[(0,v0),(1,v1),(7,I x7),(8,I x8)],[],gh⟩=some (e,s):=
 jqr q73 (Eq.trans (by kernel_rfl) h)
def qq1 (pg:Prg) (gh:List GObj):DR:=some (.ret,⟨[(4,(I (-1)))],[],gh⟩)
theorem qq1_ (h:qq1 pg gh=some (e,s)):runL pg q4a ⟨[],[],gh⟩=some (e,s):=
 jqr q73 (Eq.trans (by kernel_rfl) h)
def q3b (pg:Prg) (v0 v1:PV) (gh:List GObj):DR:=stK 0 v0 (stK 0 v1 (isC (degr v0) (lenS (degr (degr v0)) fun n1=>stK 0 v0 (stK 0 v1 (
  kR (runL pg q2b ⟨[(0,v0),(1,v1),(7,(I (n1:Int))),(8,I 0)],[],gh⟩) (fun e s=>nx e s (fun e s=>some (e,s)) fun s=>kR (runL pg q4a s) (fun e s=>some (e,s))))))))
theorem q3b_ {v0 v1:PV} (h:q3b pg v0 v1 gh=some (e,s)):runL pg q8x ⟨[(0,v0),(1,v1)],[],gh⟩=some (e,s):=
 jqr q73 (Eq.trans (by kernel_rfl) h)
end
end Go.Lw
end

/-! What the code of function ref_AreLits comes to, piece by piece. Written by program (dprint.py). -/
section
set_option maxRecDepth 10000
set_option maxHeartbeats 4000000
namespace Go.Lw
open Go
noncomputable section
variable {pg:Prg} {gh:List GObj} {e:IExit} {s:St}
def q74:Tr:=(tI 10 (tI 6 (tB 4 (tO 1 (.node 0 (.agg [.int .i64,.any]) .nil .nil) .nil) (uI 5)) (tI 8 (uO 7) (uB 9))) (tI 14 (.node 12 (.agg [.int .i64,.any]) (uI 11) (uO 13)) (tB 17 (uI 16) (uB 18))))
def q3c (pg:Prg) (v1:PV) (x5 xc0_0:Int) (vc0_1:PV) (gh:List GObj):DR:=isC (degr v1) (lenS (degr (degr v1)) fun n1=>stK 1 v1 (
  br 9 (decide (x5<(n1:Int))) (isC (degr v1) (
  idX 1 none (degr (degr v1)) x5 fun p2=>
  ldX [[I xc0_0,vc0_1]] gh false 1 (degr p2) fun v3=>unI .i64 v3 fun n4=>onK (degr1 (degr1 vc0_1)) (
  callR gh true (callL pg 3 [(.agg [I xc0_0,(degr1 (degr1 vc0_1))]),I n4] gh) fun r5 gh6=>unB r5 fun b7=>stK 1 v1 (
  br 18 (!b7) (some (.ret,⟨[(4,B false)],[],gh6⟩)) (stK 1 v1 (stK 1 v1 (some (.normal,⟨[(1,v1),(2,.ptr false 0 0),(5,(I (IntKind.i64.wrap (x5+1))))],[[I xc0_0,vc0_1]],gh6⟩)))))))) (some ((.exit 0),⟨[(1,v1),(2,.ptr false 0 0),(5,I x5),(9,(B (decide (x5<(n1:Int)))))],[[I xc0_0,vc0_1]],gh⟩))))
theorem q3c_ {v1:PV} {x5 xc0_0:Int} {vc0_1:PV} (h:q3c pg v1 x5 xc0_0 vc0_1 gh=some (e,s)):runL pg q9h ⟨[(1,v1),(2,.ptr false 0 0),(5,I x5)],[[I xc0_0,vc0_1]],gh⟩=some (e,s):=
 jqr q74 (Eq.trans (by kernel_rfl) h)
def qq2 (pg:Prg) (gh:List GObj):DR:=some (.ret,⟨[(4,B true)],[],gh⟩)
theorem qq2_ (h:qq2 pg gh=some (e,s)):runL pg q4w ⟨[],[],gh⟩=some (e,s):=
 jqr q74 (Eq.trans (by kernel_rfl) h)
def q75 (pg:Prg) (x0_0:Int) (v0_1 v1:PV) (gh:List GObj):DR:=onK (degr1 v0_1) (stK 1 v1 (stK 1 v1 (
  kR (runL pg q4v ⟨[(1,v1),(2,.ptr false 0 0),(5,I 0)],[[I x0_0,(degr1 v0_1)]],gh⟩) (fun e s=>nx e s (fun e s=>some (e,s)) fun s=>kR (runL pg q4w s) (fun e s=>some (e,s))))))
theorem q75_ {x0_0:Int} {v0_1 v1:PV} (h:q75 pg x0_0 v0_1 v1 gh=some (e,s)):runL pg q9i ⟨[(0,.agg [I x0_0,v0_1]),(1,v1)],[],gh⟩=some (e,s):=
 jqr q74 (Eq.trans (by kernel_rfl) h)
end
end Go.Lw
end

/-! What the code of function ref_CheckCircuit comes to, piece by piece. Written by program (dprint.py). -/
section
set_option maxRecDepth 10000
set_option maxHeartbeats 4000000
namespace Go.Lw
open Go
noncomputable section
variable {pg:Prg} {gh:List GObj} {e:IExit} {s:St}
def q76:Tr:=(tO 46 (tI 21 (tI 10 (.node 6 (.agg [.int .i64,.any]) (tI 3 (tI 2 (.node 0 (.agg [.int .i64,.any,.int .i64,.int .i64,.any,.any,.any,.any]) .nil .nil) .nil) (uI 4)) (tI 8 (uI 7) (uB 9))) (tI 16 (tB 13 (uI 12) (uB 14)) (tB 18 (uB 17) (uB 19)))) (tB 35 (tB 29 (tI 27 (tI 24 (uI 23) .nil) (uB 28)) (tI 32 (uO 31) (uI 34))) (tI 41 (tO 38 (uB 36) (uI 39)) (tB 43 (uB 42) (uI 44))))) (.node 69 (.agg [.int .i64,.any]) (tB 57 (tO 52 (tI 49 (tB 48 (uI 47) .nil) (uI 50)) (tI 55 (uI 53) (uB 56))) (tI 64 (tO 61 (.node 59 (.agg [.int .i64,.any]) .nil .nil) (uI 62)) (tB 66 (uB 65) (uB 67)))) (tB 80 (tB 74 (tB 72 (uO 71) (uB 73)) (tO 78 (.node 76 (.agg [.int .i64,.any]) .nil .nil) (uB 79))) (tO 86 (tB 82 (uB 81) (.node 84 (.agg [.int .i64,.any]) .nil .nil)) (tB 88 (uB 87) (uB 89))))))
def q1x (pg:Prg) (x4 xc0_0:Int) (vc0_1:PV) (xc0_2 xc0_3:Int) (vc0_4 vc0_5:PV) (vc0_6 vc0_7:PV) (gh:List GObj):DR:=isC (degr vc0_4) (lenS (degr (degr vc0_4)) fun n1=>
  br 48 (decide (x4<(n1:Int))) (isC (degr vc0_4) (
  idX 1 none (degr (degr vc0_4)) x4 fun p2=>
  ldX [[I xc0_0,vc0_1,I xc0_2,I xc0_3,vc0_4,vc0_5,vc0_6,vc0_7]] gh false 1 (degr p2) fun v3=>unI .i64 v3 fun n4=>
  br 57 (n4 !=(-1)) (isC (degr vc0_4) (
  idX 1 none (degr (degr vc0_4)) x4 fun p5=>
  ldX [[I xc0_0,vc0_1,I xc0_2,I xc0_3,vc0_4,vc0_5,vc0_6,vc0_7]] gh false 1 (degr p5) fun v6=>unI .i64 v6 fun n7=>onK (degr1 (degr1 vc0_1)) (
  callR gh true (callL pg 3 [(.agg [I xc0_0,(degr1 (degr1 vc0_1))]),I n7] gh) fun r8 gh9=>unB r8 fun b10=>
  br 67 (!b10) (some (.ret,⟨[(2,I 5)],[],gh9⟩)) (some (.normal,⟨[(1,.ptr false 0 0),(4,(I (IntKind.i64.wrap (x4+1))))],[[I xc0_0,vc0_1,I xc0_2,I xc0_3,vc0_4,vc0_5,vc0_6,vc0_7]],gh9⟩))))) (some (.normal,⟨[(1,.ptr false 0 0),(4,(I (IntKind.i64.wrap (x4+1))))],[[I xc0_0,vc0_1,I xc0_2,I xc0_3,vc0_4,vc0_5,vc0_6,vc0_7]],gh⟩)))) (some ((.exit 0),⟨[(1,.ptr false 0 0),(4,I x4),(48,(B (decide (x4<(n1:Int)))))],[[I xc0_0,vc0_1,I xc0_2,I xc0_3,vc0_4,vc0_5,vc0_6,vc0_7]],gh⟩)))
theorem q1x_ {x4 xc0_0:Int} {vc0_1:PV} {xc0_2 xc0_3:Int} {vc0_4 vc0_5:PV} {vc0_6 vc0_7:PV} (h:q1x pg x4 xc0_0 vc0_1 xc0_2 xc0_3 vc0_4 vc0_5 vc0_6 vc0_7 gh=some (e,s)):runL pg qa2 ⟨[(1,.ptr false 0 0),(4,I x4)],[[I xc0_0,vc0_1,I xc0_2,I xc0_3,vc0_4,vc0_5,vc0_6,vc0_7]],gh⟩=some (e,s):=
 jqr q76 (Eq.trans (by kernel_rfl) h)
def q1y (pg:Prg) (xc0_0:Int) (vc0_1:PV) (xc0_2 xc0_3:Int) (vc0_4 vc0_5:PV) (vc0_6 vc0_7:PV) (gh:List GObj):DR:=isC (degr vc0_5) (onK (degr1 (degr1 vc0_1)) (arK (degr (degr vc0_5)) (
  callR gh true (callL pg 10 [(.agg [I xc0_0,(degr1 (degr1 vc0_1))]),(degr (degr vc0_5))] gh) fun r1 gh2=>unB r1 fun b3=>
  br 74 (!b3) (some (.ret,⟨[(2,I 5)],[],gh2⟩)) (isC (degr vc0_6) (onK (degr1 (degr1 vc0_1)) (arK (degr (degr vc0_6)) (
  callR gh2 true (callL pg 10 [(.agg [I xc0_0,(degr1 (degr1 vc0_1))]),(degr (degr vc0_6))] gh2) fun r4 gh5=>unB r4 fun b6=>
  br 82 (!b6) (some (.ret,⟨[(2,I 5)],[],gh5⟩)) (isC (degr vc0_7) (onK (degr1 (degr1 vc0_1)) (arK (degr (degr vc0_7)) (
  callR gh5 true (callL pg 10 [(.agg [I xc0_0,(degr1 (degr1 vc0_1))]),(degr (degr vc0_7))] gh5) fun r7 gh8=>unB r7 fun b9=>
  br 89 (!b9) (some (.ret,⟨[(2,I 5)],[],gh8⟩)) (some (.ret,⟨[(2,I 0)],[],gh8⟩)))))))))))))
theorem q1y_ {xc0_0:Int} {vc0_1:PV} {xc0_2 xc0_3:Int} {vc0_4 vc0_5:PV} {vc0_6 vc0_7:PV} (h:q1y pg xc0_0 vc0_1 xc0_2 xc0_3 vc0_4 vc0_5 vc0_6 vc0_7 gh=some (e,s)):runL pg q2h ⟨[(1,.ptr false 0 0)],[[I xc0_0,vc0_1,I xc0_2,I xc0_3,vc0_4,vc0_5,vc0_6,vc0_7]],gh⟩=some (e,s):=
 jqr q76 (Eq.trans (by kernel_rfl) h)
def qf (pg:Prg) (x0_0:Int) (v0_1:PV) (x0_2 x0_3:Int) (v0_4 v0_5:PV) (v0_6 v0_7:PV) (gh:List GObj):DR:=onK (degr1 v0_1) (onK (degr1 v0_4) (onK (degr1 v0_5) (onK (degr1 v0_6) (onK (degr1 v0_7) (onK (degr1 (degr1 (degr1 v0_1))) (
  callR gh true (callL pg 2 [(.agg [I x0_0,(degr1 (degr1 (degr1 v0_1)))])] gh) fun r1 gh2=>unI .i64 r1 fun n3=>
  br 9 (n3 !=0) (some (.ret,⟨[(2,I n3)],[],gh2⟩)) (
  br 14 (decide (x0_2<0)) (some (.ret,⟨[(2,I 4)],[],gh2⟩)) (
  br 19 (decide (x0_3<0)) (some (.ret,⟨[(2,I 4)],[],gh2⟩)) (
  br 29 ((IntKind.i64.wrap (x0_2+x0_3)) !=x0_0) (some (.ret,⟨[(2,I 4)],[],gh2⟩)) (isC (degr (degr1 v0_4)) (lenS (degr (degr (degr1 v0_4))) fun n4=>
  br 36 ((n4:Int) !=x0_3) (some (.ret,⟨[(2,I 1)],[],gh2⟩)) (isC (degr (degr1 v0_5)) (lenS (degr (degr (degr1 v0_5))) fun n5=>
  br 43 ((n5:Int) !=x0_3) (some (.ret,⟨[(2,I 1)],[],gh2⟩)) (
  kR (runL pg q5f ⟨[(1,.ptr false 0 0),(4,I 0)],[[I x0_0,(degr1 v0_1),I x0_2,I x0_3,(degr1 v0_4),(degr1 v0_5),(degr1 v0_6),(degr1 v0_7)]],gh2⟩) (fun e s=>nx e s (fun e s=>some (e,s)) fun s=>kR (runL pg q2h s) (fun e s=>some (e,s)))))))))))))))))
theorem qf_ {x0_0:Int} {v0_1:PV} {x0_2 x0_3:Int} {v0_4 v0_5:PV} {v0_6 v0_7:PV} (h:qf pg x0_0 v0_1 x0_2 x0_3 v0_4 v0_5 v0_6 v0_7 gh=some (e,s)):runL pg q5g ⟨[(0,.agg [I x0_0,v0_1,I x0_2,I x0_3,v0_4,v0_5,v0_6,v0_7])],[],gh⟩=some (e,s):=
 jqr q76 (Eq.trans (by kernel_rfl) h)
end
end Go.Lw
end

/-! What the code of function cnf_Number comes to, piece by piece. Written by program (dprint.py). -/
section
set_option maxRecDepth 10000
set_option maxHeartbeats 4000000
namespace Go.Lw
open Go
noncomputable section
variable {pg:Prg} {gh:List GObj} {e:IExit} {s:St}
def qq3:Tr:=(tI 9 (tI 5 (tI 1 (uI 0) (uI 4)) (tB 7 (uI 6) (uI 8))) (tI 13 (tI 11 (uI 10) (uI 12)) (tI 15 (uI 14) (uI 16))))
def q77 (pg:Prg) (x0 x1:Int) (gh:List GObj):DR:=gd (decide ((2:Int)≠0)) (
  br 7 ((Int.tmod x0 2)==1) (gd (decide ((2:Int)≠0)) (some (.ret,⟨[(4,(I (IntKind.i64.wrap (0-(IntKind.i64.wrap ((IntKind.i64.wrap (Int.tdiv x0 2))+x1))))))],[],gh⟩))) (gd (decide ((2:Int)≠0)) (some (.ret,⟨[(4,(I (IntKind.i64.wrap ((IntKind.i64.wrap (Int.tdiv x0 2))+x1))))],[],gh⟩))))
theorem q77_ {x0 x1:Int} (h:q77 pg x0 x1 gh=some (e,s)):runL pg q8j ⟨[(0,I x0),(1,I x1)],[],gh⟩=some (e,s):=
 jqr qq3 (Eq.trans (by kernel_rfl) h)
end
end Go.Lw
end

/-! What the code of function cnf_Maker_Add comes to, piece by piece. Written by program (dprint.py). -/
section
set_option maxRecDepth 10000
set_option maxHeartbeats 4000000
namespace Go.Lw
open Go
noncomputable section
variable {pg:Prg} {gh:List GObj} {e:IExit} {s:St}
def qq4:Tr:=(tO 9 (tG 4 (tO 1 (uG 0) .nil) (uG 5)) (tO 11 (uO 10) (uO 12)))
def qc4 (pg:Prg) (g0 o0:Nat) (v1:PV) (gh:List GObj):DR:=
  ob (ghCells gh g0) fun cs1=>ob (cs1[((o0+0)+1)]?) fun v2=>isC (degr v1) (arK (degr (degr v1)) (lnK 1 (degr (degr v1)) (
  apX 1 24 v2 (.sl false 1 [(degr (degr v1))]) fun l3=>
  ob (ghCells (List.set gh g0 (.cells (spliceAt cs1 ((o0+0)+1) [degr1 v2]))) g0) fun cs4=>gb (stOk 1 ((o0+0)+1) [.sl true 1 l3] cs4) (some (.normal,⟨[],[],(List.set (List.set gh g0 (.cells (spliceAt cs1 ((o0+0)+1) [degr1 v2]))) g0 (.cells (spliceAt cs4 ((o0+0)+1) [.sl true 1 l3])))⟩)))))
theorem qc4_ {g0 o0:Nat} {v1:PV} (h:qc4 pg g0 o0 v1 gh=some (e,s)):runL pg q8k ⟨[(0,.ptr true g0 o0),(1,v1)],[],gh⟩=some (e,s):=
 jqr qq4 (Eq.trans (by kernel_rfl) h)
end
end Go.Lw
end

/-! What the code of function cnf_Maker_Ands comes to, piece by piece. Written by program (dprint.py). -/
section
set_option maxRecDepth 10000
set_option maxHeartbeats 4000000
namespace Go.Lw
open Go
noncomputable section
variable {pg:Prg} {gh:List GObj} {e:IExit} {s:St}
def qc5:Tr:=(tI 29 (tB 15 (tI 9 (tI 2 (.node 1 (.agg [.int .i64,.any]) (uG 0) .nil) (tI 8 (uI 6) .nil)) (tI 13 (tO 12 (uI 10) .nil) (uI 14))) (tI 23 (tI 20 (.node 18 (.agg [.int .i64,.int .i64]) (uI 16) .nil) (tI 22 (uI 21) .nil)) (tI 27 (tI 25 (uI 24) .nil) (uI 28)))) (tI 42 (tI 36 (tI 33 (tI 32 (uI 31) .nil) (tI 35 (uG 34) .nil)) (tG 40 (tO 38 (uI 37) .nil) (uI 41))) (tI 49 (tG 46 (tO 44 (uI 43) .nil) (tI 48 (uI 47) .nil)) (tO 52 (tI 51 (uI 50) .nil) (uI 54)))))
def q3d (pg:Prg) (g0 o0:Nat) (x2:Int) (v12:PV) (x13 x14 xc0_0:Int) (vc0_1:PV) (gh:List GObj):DR:=
  br 15 (decide (x14<x13)) (
  idX 2 none (degr v12) x14 fun p1=>
  ldX [[I xc0_0,vc0_1]] gh true 2 (degr p1) fun v2=>unA 2 v2 fun c3 c4=>unI .i64 c3 fun n5=>unI .i64 c4 fun n6=>stK 2 v12 (stK 2 v12 (
  callR gh true (callL pg 90 [I n5,I x2] gh) fun r7 gh8=>unI .i64 r7 fun n9=>
  callR gh8 true (callL pg 90 [I n6,I x2] gh8) fun r10 gh11=>unI .i64 r10 fun n12=>stK 1 v12 (
  callR gh11 false (callL pg 91 [.ptr true g0 o0,(.sl false 1 [(I (IntKind.i64.wrap (0-(IntKind.i64.wrap ((IntKind.i64.wrap ((IntKind.i64.wrap (1+xc0_0))+x14))+x2))))),I n9])] gh11) fun r13 gh14=>stK 1 v12 (
  callR gh14 false (callL pg 91 [.ptr true g0 o0,(.sl false 1 [(I (IntKind.i64.wrap (0-(IntKind.i64.wrap ((IntKind.i64.wrap ((IntKind.i64.wrap (1+xc0_0))+x14))+x2))))),I n12])] gh14) fun r15 gh16=>stK 1 v12 (
  callR gh16 false (callL pg 91 [.ptr true g0 o0,(.sl false 1 [(I (IntKind.i64.wrap ((IntKind.i64.wrap ((IntKind.i64.wrap (1+xc0_0))+x14))+x2))),(I (IntKind.i64.wrap (0-n9))),(I (IntKind.i64.wrap (0-n12)))])] gh16) fun r17 gh18=>stK 1 v12 (stK 1 v12 (stK 1 v12 (some (.normal,⟨[(0,.ptr true g0 o0),(2,I x2),(4,.ptr false 0 0),(12,v12),(13,I x13),(14,(I (IntKind.i64.wrap (x14+1))))],[[I xc0_0,vc0_1]],gh18⟩)))))))))) (some ((.exit 0),⟨[(0,.ptr true g0 o0),(2,I x2),(4,.ptr false 0 0),(12,v12),(13,I x13),(14,I x14),(15,(B (decide (x14<x13))))],[[I xc0_0,vc0_1]],gh⟩))
theorem q3d_ {g0 o0:Nat} {x2:Int} {v12:PV} {x13 x14 xc0_0:Int} {vc0_1:PV} (h:q3d pg g0 o0 x2 v12 x13 x14 xc0_0 vc0_1 gh=some (e,s)):runL pg q8e ⟨[(0,.ptr true g0 o0),(2,I x2),(4,.ptr false 0 0),(12,v12),(13,I x13),(14,I x14)],[[I xc0_0,vc0_1]],gh⟩=some (e,s):=
 jqr qc5 (Eq.trans (by kernel_rfl) h)
def qc6 (pg:Prg) (g0 o0:Nat) (x1_0:Int) (v1_1:PV) (x2:Int) (gh:List GObj):DR:=onK (degr1 v1_1) (isC (degr (degr1 v1_1)) (lenS (degr (degr (degr1 v1_1))) fun n1=>stK 1 (degr (degr1 v1_1)) (
  kR (runL pg q3v ⟨[(0,.ptr true g0 o0),(2,I x2),(4,.ptr false 0 0),(12,(degr (degr1 v1_1))),(13,(I (n1:Int))),(14,I 0)],[[I x1_0,(degr1 v1_1)]],gh⟩) (fun e s=>some (e,s)))))
theorem qc6_ {g0 o0:Nat} {x1_0:Int} {v1_1:PV} {x2:Int} (h:qc6 pg g0 o0 x1_0 v1_1 x2 gh=some (e,s)):runL pg q8f ⟨[(0,.ptr true g0 o0),(1,.agg [I x1_0,v1_1]),(2,I x2)],[],gh⟩=some (e,s):=
 jqr qc5 (Eq.trans (by kernel_rfl) h)
end
end Go.Lw
end

/-! What the code of function cnf_Maker_Must comes to, piece by piece. Written by program (dprint.py). -/
section
set_option maxRecDepth 10000
set_option maxHeartbeats 4000000
namespace Go.Lw
open Go
noncomputable section
variable {pg:Prg} {gh:List GObj} {e:IExit} {s:St}
def qq5:Tr:=(tI 10 (tI 6 (tI 1 (uG 0) (uI 2)) (tI 8 (uG 7) (uI 9))) (tB 15 (tB 13 (uO 11) (uB 14)) (tG 17 (uB 16) .nil)))
def q3e (pg:Prg) (g0 o0:Nat) (x1 x2:Int) (gh:List GObj):DR:=
  br 13 (x1==1) (some (.normal,⟨[],[],gh⟩)) (
  br 15 (x1==0) (
  callR gh false (callL pg 91 [.ptr true g0 o0,.sl false 1 []] gh) fun r1 gh2=>some (.normal,⟨[],[],gh2⟩)) (
  callR gh true (callL pg 90 [I x1,I x2] gh) fun r3 gh4=>unI .i64 r3 fun n5=>
  callR gh4 false (callL pg 91 [.ptr true g0 o0,.sl false 1 [I n5]] gh4) fun r6 gh7=>some (.normal,⟨[],[],gh7⟩)))
theorem q3e_ {g0 o0:Nat} {x1 x2:Int} (h:q3e pg g0 o0 x1 x2 gh=some (e,s)):runL pg q3x ⟨[(0,.ptr true g0 o0),(1,I x1),(2,I x2)],[],gh⟩=some (e,s):=
 jqr qq5 (Eq.trans (by kernel_rfl) h)
end
end Go.Lw
end

/-! What the code of function cnf_one comes to, piece by piece. Written by program (dprint.py). -/
section
set_option maxRecDepth 10000
set_option maxHeartbeats 4000000
namespace Go.Lw
open Go
noncomputable section
variable {pg:Prg} {gh:List GObj} {e:IExit} {s:St}
def qq6:Tr:=(tI 6 (tG 2 (tO 1 (uI 0) .nil) (tO 5 (uI 4) .nil)) (tO 9 (tO 8 (uB 7) .nil) (uB 10)))
def q3f (pg:Prg) (x0:Int) (v1:PV) (gh:List GObj):DR:=stK 0 v1 (isC (degr v1) (lenS (degr (degr v1)) fun n1=>stK 0 v1 (
  br 7 (decide (200<(n1:Int))) (some (.ret,⟨[(4,I 2)],[],(gh++[.cells [I x0]])⟩)) (isC (degr v1) (arK (degr (degr v1)) (
  callR (gh++[.cells [I x0]]) true (callL pg 86 [(degr (degr v1)),(.fn 113 [(.ptr true (List.length gh) 0)])] (gh++[.cells [I x0]])) fun r2 gh3=>unB r2 fun b4=>
  br 10 b4 (some (.ret,⟨[(4,I 5)],[],gh3⟩)) (some (.ret,⟨[(4,I 0)],[],gh3⟩))))))))
theorem q3f_ {x0:Int} {v1:PV} (h:q3f pg x0 v1 gh=some (e,s)):runL pg q8l ⟨[(0,I x0),(1,v1)],[],gh⟩=some (e,s):=
 jqr qq6 (Eq.trans (by kernel_rfl) h)
end
end Go.Lw
end

/-! What the code of function cnf_one_1 comes to, piece by piece. Written by program (dprint.py). -/
section
set_option maxRecDepth 10000
set_option maxHeartbeats 4000000
namespace Go.Lw
open Go
noncomputable section
variable {pg:Prg} {gh:List GObj} {e:IExit} {s:St}
def qq7:Tr:=(tB 9 (tB 5 (tB 3 (tG 1 (uI 0) .nil) (uI 4)) (tI 7 (uB 6) (uI 8))) (tI 13 (tB 11 (uB 10) (uI 12)) (tB 15 (uI 14) (uB 16))))
def q3g (pg:Prg) (x0:Int) (g1 o1:Nat) (gh:List GObj):DR:=
  br 6 (x0==0) (some (.ret,⟨[(3,B true)],[],gh⟩)) (
  ob (ghCells gh g1) fun cs1=>
  ob (grab false 1 o1 cs1) fun v2=>unI .i64 (degr v2) fun n3=>
  br 11 (decide (n3<x0)) (some (.ret,⟨[(3,B true)],[],gh⟩)) (
  ob (ghCells gh g1) fun cs4=>
  ob (grab false 1 o1 cs4) fun v5=>unI .i64 (degr v5) fun n6=>some (.ret,⟨[(3,(B (decide (x0<(IntKind.i64.wrap (0-n6))))))],[],gh⟩)))
theorem q3g_ {x0:Int} {g1 o1:Nat} (h:q3g pg x0 g1 o1 gh=some (e,s)):runL pg q8m ⟨[(0,I x0),(1,.ptr true g1 o1)],[],gh⟩=some (e,s):=
 jqr qq7 (Eq.trans (by kernel_rfl) h)
end
end Go.Lw
end

/-! What the code of function cnf_Check comes to, piece by piece. Written by program (dprint.py). -/
section
set_option maxRecDepth 10000
set_option maxHeartbeats 4000000
namespace Go.Lw
open Go
noncomputable section
variable {pg:Prg} {gh:List GObj} {e:IExit} {s:St}
def q78:Tr:=(tB 17 (tB 9 (tI 5 (tI 2 (.node 0 (.agg [.int .i64,.any]) .nil .nil) (uO 4)) (tB 8 (uI 7) .nil)) (tB 13 (tB 12 (uI 11) .nil) (tI 16 (uO 15) .nil))) (tO 27 (tB 22 (tI 20 (uO 19) (uI 21)) (tI 26 (uO 24) .nil)) (tB 30 (tI 29 (uI 28) .nil) (tI 32 (uI 31) .nil))))
def q3h (pg:Prg) (v19:PV) (x20 x21 xc0_0:Int) (vc0_1:PV) (gh:List GObj):DR:=
  br 22 (decide (x21<x20)) (
  idX 1 none (degr v19) x21 fun p1=>
  ldX [[I xc0_0,vc0_1]] gh false 1 (degr p1) fun v2=>isC v2 (stK 1 v2 (stK 1 v19 (isC (degr v2) (arK (degr (degr v2)) (
  callR gh true (callL pg 94 [I xc0_0,(degr (degr v2))] gh) fun r3 gh4=>unI .i64 r3 fun n5=>stK 1 v19 (stK 1 v19 (
  br 30 (n5 !=0) (some (.ret,⟨[(2,I n5)],[],gh4⟩)) (stK 1 v19 (stK 1 v19 (some (.normal,⟨[(1,.ptr false 0 0),(19,v19),(20,I x20),(21,(I (IntKind.i64.wrap (x21+1))))],[[I xc0_0,vc0_1]],gh4⟩)))))))))))) (some ((.exit 0),⟨[(1,.ptr false 0 0),(19,v19),(20,I x20),(21,I x21),(22,(B (decide (x21<x20))))],[[I xc0_0,vc0_1]],gh⟩))
theorem q3h_ {v19:PV} {x20 x21 xc0_0:Int} {vc0_1:PV} (h:q3h pg v19 x20 x21 xc0_0 vc0_1 gh=some (e,s)):runL pg q8h ⟨[(1,.ptr false 0 0),(19,v19),(20,I x20),(21,I x21)],[[I xc0_0,vc0_1]],gh⟩=some (e,s):=
 jqr q78 (Eq.trans (by kernel_rfl) h)
def qq8 (pg:Prg) (gh:List GObj):DR:=some (.ret,⟨[(2,I 0)],[],gh⟩)
theorem qq8_ (h:qq8 pg gh=some (e,s)):runL pg q40 ⟨[],[],gh⟩=some (e,s):=
 jqr q78 (Eq.trans (by kernel_rfl) h)
def q13 (pg:Prg) (x0_0:Int) (v0_1:PV) (gh:List GObj):DR:=onK (degr1 v0_1) (
  br 9 (decide (x0_0<0)) (some (.ret,⟨[(2,I 3)],[],gh⟩)) (
  br 13 (decide (200000<x0_0)) (some (.ret,⟨[(2,I 3)],[],gh⟩)) (isC (degr (degr1 v0_1)) (lenS (degr (degr (degr1 v0_1))) fun n1=>
  br 17 (decide (800000<(n1:Int))) (some (.ret,⟨[(2,I 2)],[],gh⟩)) (isC (degr (degr1 v0_1)) (lenS (degr (degr (degr1 v0_1))) fun n2=>stK 1 (degr (degr1 v0_1)) (
  kR (runL pg q3z ⟨[(1,.ptr false 0 0),(19,(degr (degr1 v0_1))),(20,(I (n2:Int))),(21,I 0)],[[I x0_0,(degr1 v0_1)]],gh⟩) (fun e s=>nx e s (fun e s=>some (e,s)) fun s=>kR (runL pg q40 s) (fun e s=>some (e,s))))))))))
theorem q13_ {x0_0:Int} {v0_1:PV} (h:q13 pg x0_0 v0_1 gh=some (e,s)):runL pg q8i ⟨[(0,.agg [I x0_0,v0_1])],[],gh⟩=some (e,s):=
 jqr q78 (Eq.trans (by kernel_rfl) h)
end
end Go.Lw
end

/-! What the code of function cnf_Done comes to, piece by piece. Written by program (dprint.py). -/
section
set_option maxRecDepth 10000
set_option maxHeartbeats 4000000
namespace Go.Lw
open Go
noncomputable section
variable {pg:Prg} {gh:List GObj} {e:IExit} {s:St}
def qq9:Tr:=(tI 7 (tI 4 (tI 3 (.node 0 (.agg [.int .i64,.any]) .nil .nil) .nil) (tI 6 (.node 5 (.agg [.int .i64,.any]) .nil .nil) .nil)) (tI 10 (.node 9 (.agg [.int .i64,.any]) (uB 8) .nil) (.node 11 (.agg [.int .i64,.any]) .nil .nil)))
def q79 (pg:Prg) (x0_0:Int) (v0_1:PV) (gh:List GObj):DR:=onK (degr1 v0_1) (onK (degr1 (degr1 (degr1 v0_1))) (
  callR gh true (callL pg 59 [(.agg [I x0_0,(degr1 (degr1 (degr1 v0_1)))])] gh) fun r1 gh2=>unI .i64 r1 fun n3=>
  br 8 (n3 !=0) (some (.ret,⟨[(2,.ptr false 1 0),(3,I n3)],[[I x0_0,(degr1 v0_1)],[I 0,.sl true 1 []]],gh2⟩)) (onK (degr1 (degr1 v0_1)) (some (.ret,⟨[(2,.ptr false 1 0),(3,I 0)],[[I x0_0,(degr1 v0_1)],[I x0_0,(degr1 (degr1 v0_1))]],gh2⟩)))))
theorem q79_ {x0_0:Int} {v0_1:PV} (h:q79 pg x0_0 v0_1 gh=some (e,s)):runL pg q8g ⟨[(0,.agg [I x0_0,v0_1])],[],gh⟩=some (e,s):=
 jqr qq9 (Eq.trans (by kernel_rfl) h)
end
end Go.Lw
end

/-! What the code of function unroll_Unroller_State comes to, piece by piece. Written by program (dprint.py). -/
section
set_option maxRecDepth 10000
set_option maxHeartbeats 4000000
namespace Go.Lw
open Go
noncomputable section
variable {pg:Prg} {gh:List GObj} {e:IExit} {s:St}
def qqa:Tr:=(tI 16 (tI 9 (tI 2 (tI 1 (uG 0) .nil) (tI 8 (uB 3) .nil)) (tI 14 (tG 11 (uI 10) .nil) (uI 15))) (tB 25 (tI 22 (tI 21 (uG 17) .nil) (tI 24 (uI 23) .nil)) (tI 28 (tI 27 (uB 26) .nil) (uI 29))))
def q7a (pg:Prg) (g0 o0:Nat) (x1 x2:Int) (b3:Bool) (gh:List GObj):DR:=
  ob (ghCells gh g0) fun cs1=>
  ob (grab false 1 (o0+9) cs1) fun v2=>unI .i64 (degr v2) fun n3=>
  ob (ghCells gh g0) fun cs4=>
  ob (grab false 1 ((o0+1)+2) cs4) fun v5=>unI .i64 (degr v5) fun n6=>
  br 26 (!b3) (some (.ret,⟨[(8,(I (IntKind.i64.wrap (0-(IntKind.i64.wrap ((IntKind.i64.wrap ((IntKind.i64.wrap ((IntKind.i64.wrap (x1*n3))+1))+n6))+x2))))))],[],gh⟩)) (some (.ret,⟨[(8,(I (IntKind.i64.wrap ((IntKind.i64.wrap ((IntKind.i64.wrap ((IntKind.i64.wrap (x1*n3))+1))+n6))+x2))))],[],gh⟩))
theorem q7a_ {g0 o0:Nat} {x1 x2:Int} {b3:Bool} (h:q7a pg g0 o0 x1 x2 b3 gh=some (e,s)):runL pg qaq ⟨[(0,.ptr true g0 o0),(1,I x1),(2,I x2),(3,B b3)],[],gh⟩=some (e,s):=
 jqr qqa (Eq.trans (by kernel_rfl) h)
end
end Go.Lw
end

/-! What the code of function unroll_Unroller_bad comes to, piece by piece. Written by program (dprint.py). -/
section
set_option maxRecDepth 10000
set_option maxHeartbeats 4000000
namespace Go.Lw
open Go
noncomputable section
variable {pg:Prg} {gh:List GObj} {e:IExit} {s:St}
def q3i:Tr:=(tI 21 (tI 13 (tI 6 (tI 1 (uG 0) (uO 4)) (tG 8 (uO 7) (uO 12))) (tI 18 (tB 15 (uI 14) (uI 17)) (tI 20 (uO 19) .nil))) (tB 31 (tI 27 (tI 25 (uG 22) (uI 26)) (tO 29 (uO 28) (uB 30))) (tG 35 (tB 33 (uB 32) (uI 34)) (tO 39 (uG 38) .nil))))
def qc7 (pg:Prg) (g0 o0:Nat) (x1:Int) (v4 v12:PV) (x13 x14:Int) (gh:List GObj):DR:=stK 0 v4 (stK 0 v12 (some (.normal,⟨[(0,.ptr true g0 o0),(1,I x1),(4,v4),(12,v12),(13,I x13),(14,(I (IntKind.i64.wrap (x14+1))))],[],gh⟩)))
theorem qc7_ {g0 o0:Nat} {x1:Int} {v4 v12:PV} {x13 x14:Int} (h:qc7 pg g0 o0 x1 v4 v12 x13 x14 gh=some (e,s)):runL pg q1s ⟨[(0,.ptr true g0 o0),(1,I x1),(4,v4),(12,v12),(13,I x13),(14,I x14)],[],gh⟩=some (e,s):=
 jqr q3i (Eq.trans (by kernel_rfl) h)
def qu (pg:Prg) (g0 o0:Nat) (x1:Int) (v4 v12:PV) (x13 x14:Int) (gh:List GObj):DR:=
  br 15 (decide (x14<x13)) (
  idX 1 none (degr v12) x14 fun p1=>
  ldX [] gh false 1 (degr p1) fun v2=>unI .i64 v2 fun n3=>stK 0 v4 (stK 0 v12 (stK 0 v4 (stK 0 v12 (
  br 30 (n3==0) (stK 0 v4 (stK 0 v12 (
  kR (runL pg q1s ⟨[(0,.ptr true g0 o0),(1,I x1),(4,v4),(12,v12),(13,I x13),(14,I x14)],[],gh⟩) (fun e s=>po [0,1,4,12,13,14] 0 e s (fun e s=>some (e,s)))))) (stK 0 v4 (stK 0 v12 (
  br 32 (n3==1) (some (.ret,⟨[(0,.ptr true g0 o0),(1,I x1),(4,v4),(6,I n3),(12,v12),(13,I x13),(14,I x14),(32,(B (n3==1)))],[],gh⟩)) (
  ob (ghCells gh g0) fun cs4=>
  ob (grab false 1 (o0+9) cs4) fun v5=>unI .i64 (degr v5) fun n6=>
  callR gh true (callL pg 90 [I n3,(I (IntKind.i64.wrap (x1*n6)))] gh) fun r7 gh8=>unI .i64 r7 fun n9=>
  apX 1 8 v4 (.sl false 1 [I n9]) fun l10=>stK 0 v12 (stK 0 v12 (
  kR (runL pg q1s ⟨[(0,.ptr true g0 o0),(1,I x1),(4,.sl true 1 l10),(12,v12),(13,I x13),(14,I x14)],[],gh8⟩) (fun e s=>po [0,1,4,12,13,14] 0 e s (fun e s=>some (e,s)))))))))))))) (some ((.exit 0),⟨[(0,.ptr true g0 o0),(1,I x1),(4,v4),(12,v12),(13,I x13),(14,I x14),(15,(B (decide (x14<x13))))],[],gh⟩))
theorem qu_ {g0 o0:Nat} {x1:Int} {v4 v12:PV} {x13 x14:Int} (h:qu pg g0 o0 x1 v4 v12 x13 x14 gh=some (e,s)):runL pg qar ⟨[(0,.ptr true g0 o0),(1,I x1),(4,v4),(12,v12),(13,I x13),(14,I x14)],[],gh⟩=some (e,s):=
 jqr q3i (Eq.trans (by kernel_rfl) h)
def qc8 (pg:Prg) (g0 o0:Nat) (v4:PV) (gh:List GObj):DR:=
  ob (ghCells gh g0) fun cs1=>
  ob (grab false 1 (o0+0) cs1) fun v2=>unG (degr v2) fun g3 o4=>isC (degr v4) (arK (degr (degr v4)) (
  callR gh false (callL pg 91 [.ptr true g3 o4,(degr (degr v4))] gh) fun r5 gh6=>some (.normal,⟨[],[],gh6⟩)))
theorem qc8_ {g0 o0:Nat} {v4:PV} (h:qc8 pg g0 o0 v4 gh=some (e,s)):runL pg q67 ⟨[(0,.ptr true g0 o0),(4,v4)],[],gh⟩=some (e,s):=
 jqr q3i (Eq.trans (by kernel_rfl) h)
def q7b (pg:Prg) (g0 o0:Nat) (x1:Int) (gh:List GObj):DR:=
  ob (ghCells gh g0) fun cs1=>
  ob (grab false 1 ((o0+1)+6) cs1) fun v2=>isC (degr v2) (lenS (degr (degr v2)) fun n3=>stK 0 (degr v2) (
  kR (runL pg q31 ⟨[(0,.ptr true g0 o0),(1,I x1),(4,.sl true 1 []),(12,(degr v2)),(13,(I (n3:Int))),(14,I 0)],[],gh⟩) (fun e s=>nx e s (fun e s=>some (e,s)) fun s=>kR (runL pg q67 s) (fun e s=>some (e,s)))))
theorem q7b_ {g0 o0:Nat} {x1:Int} (h:q7b pg g0 o0 x1 gh=some (e,s)):runL pg qas ⟨[(0,.ptr true g0 o0),(1,I x1)],[],gh⟩=some (e,s):=
 jqr q3i (Eq.trans (by kernel_rfl) h)
end
end Go.Lw
end

/-! What the code of function unroll_Unroller_bind comes to, piece by piece. Written by program (dprint.py). -/
section
set_option maxRecDepth 10000
set_option maxHeartbeats 4000000
namespace Go.Lw
open Go
noncomputable section
variable {pg:Prg} {gh:List GObj} {e:IExit} {s:St}
def q7c:Tr:=(tI 32 (tI 18 (tG 8 (tI 5 (tI 1 (uG 0) (uI 4)) (tI 7 (uI 6) .nil)) (tI 14 (tI 13 (uO 12) .nil) (tI 16 (uB 15) .nil))) (tB 24 (tI 21 (tI 20 (uG 19) .nil) (tI 23 (uI 22) .nil)) (tG 29 (tG 28 (uG 25) .nil) (tI 31 (uI 30) .nil)))) (tG 49 (tI 39 (tO 35 (tI 34 (uB 33) .nil) (tI 38 (uI 37) .nil)) (tI 44 (tI 43 (uG 40) .nil) (tG 46 (uI 45) .nil))) (tG 58 (tI 52 (tI 51 (uI 50) .nil) (tG 55 (uO 53) .nil)) (tI 61 (tI 60 (uI 59) .nil) (tI 64 (uO 62) .nil)))))
def qc9 (pg:Prg) (g0 o0:Nat) (x1:Int) (v12:PV) (x13 x14:Int) (gh:List GObj):DR:=stK 0 v12 (some (.normal,⟨[(0,.ptr true g0 o0),(1,I x1),(12,v12),(13,I x13),(14,(I (IntKind.i64.wrap (x14+1))))],[],gh⟩))
theorem qc9_ {g0 o0:Nat} {x1:Int} {v12:PV} {x13 x14:Int} (h:qc9 pg g0 o0 x1 v12 x13 x14 gh=some (e,s)):runL pg q1q ⟨[(0,.ptr true g0 o0),(1,I x1),(12,v12),(13,I x13),(14,I x14)],[],gh⟩=some (e,s):=
 jqr q7c (Eq.trans (by kernel_rfl) h)
def q1z (pg:Prg) (g0 o0:Nat) (x1:Int) (v12:PV) (x13 x14:Int) (gh:List GObj):DR:=
  br 15 (decide (x14<x13)) (
  idX 1 none (degr v12) x14 fun p1=>
  ldX [] gh false 1 (degr p1) fun v2=>unI .i64 v2 fun n3=>stK 0 v12 (
  callR gh true (callL pg 292 [.ptr true g0 o0,I x1,I x14,B true] gh) fun r4 gh5=>unI .i64 r4 fun n6=>stK 0 v12 (stK 0 v12 (
  br 24 (decide (n3<2)) (
  ob (ghCells gh5 g0) fun cs7=>
  ob (grab false 1 (o0+0) cs7) fun v8=>unG (degr v8) fun g9 o10=>
  callR gh5 true (callL pg 292 [.ptr true g0 o0,I x1,I x14,(B (n3==1))] gh5) fun r11 gh12=>unI .i64 r11 fun n13=>
  callR gh12 false (callL pg 91 [.ptr true g9 o10,.sl false 1 [I n13]] gh12) fun r14 gh15=>stK 0 v12 (stK 0 v12 (
  kR (runL pg q1q ⟨[(0,.ptr true g0 o0),(1,I x1),(12,v12),(13,I x13),(14,I x14)],[],gh15⟩) (fun e s=>po [0,1,12,13,14] 0 e s (fun e s=>some (e,s)))))) (
  ob (ghCells gh5 g0) fun cs16=>
  ob (grab false 1 (o0+9) cs16) fun v17=>unI .i64 (degr v17) fun n18=>
  callR gh5 true (callL pg 90 [I n3,(I (IntKind.i64.wrap ((IntKind.i64.wrap (x1-1))*n18)))] gh5) fun r19 gh20=>unI .i64 r19 fun n21=>stK 0 v12 (
  ob (ghCells gh20 g0) fun cs22=>
  ob (grab false 1 (o0+0) cs22) fun v23=>unG (degr v23) fun g24 o25=>
  callR gh20 false (callL pg 91 [.ptr true g24 o25,(.sl false 1 [(I (IntKind.i64.wrap (0-n6))),I n21])] gh20) fun r26 gh27=>stK 0 v12 (
  ob (ghCells gh27 g0) fun cs28=>
  ob (grab false 1 (o0+0) cs28) fun v29=>unG (degr v29) fun g30 o31=>
  callR gh27 false (callL pg 91 [.ptr true g30 o31,(.sl false 1 [I n6,(I (IntKind.i64.wrap (0-n21)))])] gh27) fun r32 gh33=>stK 0 v12 (stK 0 v12 (
  kR (runL pg q1q ⟨[(0,.ptr true g0 o0),(1,I x1),(12,v12),(13,I x13),(14,I x14)],[],gh33⟩) (fun e s=>po [0,1,12,13,14] 0 e s (fun e s=>some (e,s)))))))))))) (some ((.exit 0),⟨[(0,.ptr true g0 o0),(1,I x1),(12,v12),(13,I x13),(14,I x14),(15,(B (decide (x14<x13))))],[],gh⟩))
theorem q1z_ {g0 o0:Nat} {x1:Int} {v12:PV} {x13 x14:Int} (h:q1z pg g0 o0 x1 v12 x13 x14 gh=some (e,s)):runL pg qao ⟨[(0,.ptr true g0 o0),(1,I x1),(12,v12),(13,I x13),(14,I x14)],[],gh⟩=some (e,s):=
 jqr q7c (Eq.trans (by kernel_rfl) h)
def qca (pg:Prg) (g0 o0:Nat) (x1:Int) (gh:List GObj):DR:=
  ob (ghCells gh g0) fun cs1=>
  ob (grab false 1 ((o0+1)+5) cs1) fun v2=>isC (degr v2) (lenS (degr (degr v2)) fun n3=>stK 0 (degr v2) (
  kR (runL pg q65 ⟨[(0,.ptr true g0 o0),(1,I x1),(12,(degr v2)),(13,(I (n3:Int))),(14,I 0)],[],gh⟩) (fun e s=>some (e,s))))
theorem qca_ {g0 o0:Nat} {x1:Int} (h:qca pg g0 o0 x1 gh=some (e,s)):runL pg qap ⟨[(0,.ptr true g0 o0),(1,I x1)],[],gh⟩=some (e,s):=
 jqr q7c (Eq.trans (by kernel_rfl) h)
end
end Go.Lw
end

/-! What the code of function unroll_Raw comes to, piece by piece. Written by program (dprint.py). -/
section
set_option maxRecDepth 10000
set_option maxHeartbeats 4000000
namespace Go.Lw
open Go
noncomputable section
variable {pg:Prg} {gh:List GObj} {e:IExit} {s:St}
def qa:Tr:=(tG 66 (tI 35 (tG 16 (tI 9 (tB 2 (tI 1 (.node 0 (.agg [.int .i64,.any,.int .i64,.int .i64,.any,.any,.any,.any]) .nil .nil) .nil) (tI 8 (uG 7) .nil)) (tI 12 (tI 11 (uI 10) .nil) (.node 15 (.agg [.int .i64,.any]) (uI 14) .nil))) (.node 26 (.agg [.gp,.int .i64,.any,.int .i64,.int .i64,.any,.any,.any,.any,.int .i64]) (tO 23 (tI 20 (.node 17 (.agg [.int .i64,.any,.int .i64,.int .i64,.any,.any,.any,.any]) .nil .nil) .nil) (tI 25 (uI 24) .nil)) (tG 31 (tG 28 (uG 27) .nil) (uG 32)))) (.node 52 (.agg [.int .i64,.any]) (tI 44 (tI 38 (tI 37 (uI 36) .nil) (tI 43 (uI 42) .nil)) (tG 47 (tI 46 (uB 45) .nil) (uG 50))) (tI 61 (tI 57 (tG 54 (uI 53) .nil) (tI 60 (uI 58) .nil)) (tI 64 (tB 63 (uI 62) .nil) (uI 65))))) (tI 94 (tB 80 (tI 74 (tI 71 (tO 70 (uI 67) .nil) (tB 73 (uI 72) .nil)) (tB 78 (tB 77 (uI 76) .nil) (uI 79))) (tI 88 (tG 85 (tG 82 (uB 81) .nil) (tI 87 (uG 86) .nil)) (tO 91 (tI 90 (uB 89) .nil) (uI 93)))) (tG 109 (tI 101 (tB 97 (tI 96 (uI 95) .nil) (tO 100 (uI 98) .nil)) (tI 105 (tB 103 (uI 102) .nil) (uG 106))) (tI 118 (tG 112 (tI 111 (uI 110) .nil) (tI 116 (uI 115) .nil)) (tI 121 (tG 120 (uI 119) .nil) (uG 123))))))
def q7d (pg:Prg) (x1:Int) (b2:Bool) (g7 o7:Nat) (x43 x44 xc0_0:Int) (vc0_1:PV) (xc0_2 xc0_3:Int) (vc0_4 vc0_5:PV) (vc0_6 vc0_7:PV) (gh:List GObj):DR:=
  br 45 (decide (x44<x43)) (
  ob (ghCells gh g7) fun cs1=>
  ob (grab false 1 (o7+0) cs1) fun v2=>unG (degr v2) fun g3 o4=>
  ob (ghCells gh g7) fun cs5=>
  ob (grab false 1 (o7+9) cs5) fun v6=>unI .i64 (degr v6) fun n7=>onK (degr1 (degr1 vc0_1)) (
  callR gh false (callL pg 53 [.ptr true g3 o4,(.agg [I xc0_0,(degr1 (degr1 vc0_1))]),(I (IntKind.i64.wrap (x44*n7)))] gh) fun r8 gh9=>some (.normal,⟨[(1,I x1),(2,B b2),(3,.ptr false 0 0),(7,.ptr true g7 o7),(43,I x43),(44,(I (IntKind.i64.wrap (x44+1))))],[[I xc0_0,vc0_1,I xc0_2,I xc0_3,vc0_4,vc0_5,vc0_6,vc0_7]],gh9⟩))) (some ((.exit 0),⟨[(1,I x1),(2,B b2),(3,.ptr false 0 0),(7,.ptr true g7 o7),(43,I x43),(44,I x44),(45,(B (decide (x44<x43))))],[[I xc0_0,vc0_1,I xc0_2,I xc0_3,vc0_4,vc0_5,vc0_6,vc0_7]],gh⟩))
theorem q7d_ {x1:Int} {b2:Bool} {g7 o7:Nat} {x43 x44 xc0_0:Int} {vc0_1:PV} {xc0_2 xc0_3:Int} {vc0_4 vc0_5:PV} {vc0_6 vc0_7:PV} (h:q7d pg x1 b2 g7 o7 x43 x44 xc0_0 vc0_1 xc0_2 xc0_3 vc0_4 vc0_5 vc0_6 vc0_7 gh=some (e,s)):runL pg qai ⟨[(1,I x1),(2,B b2),(3,.ptr false 0 0),(7,.ptr true g7 o7),(43,I x43),(44,I x44)],[[I xc0_0,vc0_1,I xc0_2,I xc0_3,vc0_4,vc0_5,vc0_6,vc0_7]],gh⟩=some (e,s):=
 jqr qa (Eq.trans (by kernel_rfl) h)
def q7e (pg:Prg) (x1:Int) (b2:Bool) (g7 o7:Nat) (x9 xc0_0:Int) (vc0_1:PV) (xc0_2 xc0_3:Int) (vc0_4 vc0_5:PV) (vc0_6 vc0_7:PV) (gh:List GObj):DR:=
  br 63 (decide (x9≤x1)) (
  callR gh false (callL pg 291 [.ptr true g7 o7,I x9] gh) fun r1 gh2=>some (.normal,⟨[(1,I x1),(2,B b2),(3,.ptr false 0 0),(7,.ptr true g7 o7),(9,(I (IntKind.i64.wrap (x9+1))))],[[I xc0_0,vc0_1,I xc0_2,I xc0_3,vc0_4,vc0_5,vc0_6,vc0_7]],gh2⟩)) (some ((.exit 2),⟨[(1,I x1),(2,B b2),(3,.ptr false 0 0),(7,.ptr true g7 o7),(9,I x9),(63,(B (decide (x9≤x1))))],[[I xc0_0,vc0_1,I xc0_2,I xc0_3,vc0_4,vc0_5,vc0_6,vc0_7]],gh⟩))
theorem q7e_ {x1:Int} {b2:Bool} {g7 o7:Nat} {x9 xc0_0:Int} {vc0_1:PV} {xc0_2 xc0_3:Int} {vc0_4 vc0_5:PV} {vc0_6 vc0_7:PV} (h:q7e pg x1 b2 g7 o7 x9 xc0_0 vc0_1 xc0_2 xc0_3 vc0_4 vc0_5 vc0_6 vc0_7 gh=some (e,s)):runL pg qaj ⟨[(1,I x1),(2,B b2),(3,.ptr false 0 0),(7,.ptr true g7 o7),(9,I x9)],[[I xc0_0,vc0_1,I xc0_2,I xc0_3,vc0_4,vc0_5,vc0_6,vc0_7]],gh⟩=some (e,s):=
 jqr qa (Eq.trans (by kernel_rfl) h)
def qcb (pg:Prg) (x1:Int) (b2:Bool) (g7 o7:Nat) (v70:PV) (x71 x72 xc0_0:Int) (vc0_1:PV) (xc0_2 xc0_3:Int) (vc0_4 vc0_5:PV) (vc0_6 vc0_7:PV) (gh:List GObj):DR:=stK 1 v70 (some (.normal,⟨[(1,I x1),(2,B b2),(3,.ptr false 0 0),(7,.ptr true g7 o7),(70,v70),(71,I x71),(72,(I (IntKind.i64.wrap (x72+1))))],[[I xc0_0,vc0_1,I xc0_2,I xc0_3,vc0_4,vc0_5,vc0_6,vc0_7]],gh⟩))
theorem qcb_ {x1:Int} {b2:Bool} {g7 o7:Nat} {v70:PV} {x71 x72 xc0_0:Int} {vc0_1:PV} {xc0_2 xc0_3:Int} {vc0_4 vc0_5:PV} {vc0_6 vc0_7:PV} (h:qcb pg x1 b2 g7 o7 v70 x71 x72 xc0_0 vc0_1 xc0_2 xc0_3 vc0_4 vc0_5 vc0_6 vc0_7 gh=some (e,s)):runL pg q11 ⟨[(1,I x1),(2,B b2),(3,.ptr false 0 0),(7,.ptr true g7 o7),(70,v70),(71,I x71),(72,I x72)],[[I xc0_0,vc0_1,I xc0_2,I xc0_3,vc0_4,vc0_5,vc0_6,vc0_7]],gh⟩=some (e,s):=
 jqr qa (Eq.trans (by kernel_rfl) h)
def q22 (pg:Prg) (x1:Int) (b2:Bool) (g7 o7:Nat) (v70:PV) (x71 x72 xc0_0:Int) (vc0_1:PV) (xc0_2 xc0_3:Int) (vc0_4 vc0_5:PV) (vc0_6 vc0_7:PV) (gh:List GObj):DR:=
  br 73 (decide (x72<x71)) (
  idX 1 none (degr v70) x72 fun p1=>
  ldX [[I xc0_0,vc0_1,I xc0_2,I xc0_3,vc0_4,vc0_5,vc0_6,vc0_7]] gh false 1 (degr p1) fun v2=>unI .i64 v2 fun n3=>stK 1 v70 (
  br 78 b2 (stK 1 v70 (
  br 81 (decide (0≤n3)) (
  ob (ghCells gh g7) fun cs4=>
  ob (grab false 1 (o7+0) cs4) fun v5=>unG (degr v5) fun g6 o8=>
  callR gh true (callL pg 292 [.ptr true g7 o7,I 0,I x72,(B (n3==1))] gh) fun r9 gh10=>unI .i64 r9 fun n11=>
  callR gh10 false (callL pg 91 [.ptr true g6 o8,.sl false 1 [I n11]] gh10) fun r12 gh13=>stK 1 v70 (stK 1 v70 (
  kR (runL pg q11 ⟨[(1,I x1),(2,B b2),(3,.ptr false 0 0),(7,.ptr true g7 o7),(70,v70),(71,I x71),(72,I x72)],[[I xc0_0,vc0_1,I xc0_2,I xc0_3,vc0_4,vc0_5,vc0_6,vc0_7]],gh13⟩) (fun e s=>po [1,2,3,7,70,71,72] 1 e s (fun e s=>some (e,s)))))) (stK 1 v70 (
  kR (runL pg q11 ⟨[(1,I x1),(2,B b2),(3,.ptr false 0 0),(7,.ptr true g7 o7),(70,v70),(71,I x71),(72,I x72)],[[I xc0_0,vc0_1,I xc0_2,I xc0_3,vc0_4,vc0_5,vc0_6,vc0_7]],gh⟩) (fun e s=>po [1,2,3,7,70,71,72] 1 e s (fun e s=>some (e,s))))))) (stK 1 v70 (stK 1 v70 (
  kR (runL pg q11 ⟨[(1,I x1),(2,B b2),(3,.ptr false 0 0),(7,.ptr true g7 o7),(70,v70),(71,I x71),(72,I x72)],[[I xc0_0,vc0_1,I xc0_2,I xc0_3,vc0_4,vc0_5,vc0_6,vc0_7]],gh⟩) (fun e s=>po [1,2,3,7,70,71,72] 1 e s (fun e s=>some (e,s)))))))) (some ((.exit 4),⟨[(1,I x1),(2,B b2),(3,.ptr false 0 0),(7,.ptr true g7 o7),(70,v70),(71,I x71),(72,I x72),(73,(B (decide (x72<x71))))],[[I xc0_0,vc0_1,I xc0_2,I xc0_3,vc0_4,vc0_5,vc0_6,vc0_7]],gh⟩))
theorem q22_ {x1:Int} {b2:Bool} {g7 o7:Nat} {v70:PV} {x71 x72 xc0_0:Int} {vc0_1:PV} {xc0_2 xc0_3:Int} {vc0_4 vc0_5:PV} {vc0_6 vc0_7:PV} (h:q22 pg x1 b2 g7 o7 v70 x71 x72 xc0_0 vc0_1 xc0_2 xc0_3 vc0_4 vc0_5 vc0_6 vc0_7 gh=some (e,s)):runL pg qak ⟨[(1,I x1),(2,B b2),(3,.ptr false 0 0),(7,.ptr true g7 o7),(70,v70),(71,I x71),(72,I x72)],[[I xc0_0,vc0_1,I xc0_2,I xc0_3,vc0_4,vc0_5,vc0_6,vc0_7]],gh⟩=some (e,s):=
 jqr qa (Eq.trans (by kernel_rfl) h)
def q7f (pg:Prg) (x1:Int) (g7 o7:Nat) (x12 x95 x96:Int) (v100:PV) (x101 x102 xc0_0:Int) (vc0_1:PV) (xc0_2 xc0_3:Int) (vc0_4 vc0_5:PV) (vc0_6 vc0_7:PV) (gh:List GObj):DR:=
  br 103 (decide (x102<x101)) (
  idX 1 none (degr v100) x102 fun p1=>
  ldX [[I xc0_0,vc0_1,I xc0_2,I xc0_3,vc0_4,vc0_5,vc0_6,vc0_7]] gh false 1 (degr p1) fun v2=>unI .i64 v2 fun n3=>stK 1 v100 (
  ob (ghCells gh g7) fun cs4=>
  ob (grab false 1 (o7+0) cs4) fun v5=>unG (degr v5) fun g6 o8=>
  ob (ghCells gh g7) fun cs9=>
  ob (grab false 1 (o7+9) cs9) fun v10=>unI .i64 (degr v10) fun n11=>
  callR gh false (callL pg 54 [.ptr true g6 o8,I n3,(I (IntKind.i64.wrap (x12*n11)))] gh) fun r12 gh13=>stK 1 v100 (stK 1 v100 (stK 1 v100 (some (.normal,⟨[(1,I x1),(3,.ptr false 0 0),(7,.ptr true g7 o7),(12,I x12),(95,I x95),(96,I x96),(100,v100),(101,I x101),(102,(I (IntKind.i64.wrap (x102+1))))],[[I xc0_0,vc0_1,I xc0_2,I xc0_3,vc0_4,vc0_5,vc0_6,vc0_7]],gh13⟩)))))) (some ((.exit 8),⟨[(1,I x1),(3,.ptr false 0 0),(7,.ptr true g7 o7),(12,I x12),(95,I x95),(96,I x96),(100,v100),(101,I x101),(102,I x102),(103,(B (decide (x102<x101))))],[[I xc0_0,vc0_1,I xc0_2,I xc0_3,vc0_4,vc0_5,vc0_6,vc0_7]],gh⟩))
theorem q7f_ {x1:Int} {g7 o7:Nat} {x12 x95 x96:Int} {v100:PV} {x101 x102 xc0_0:Int} {vc0_1:PV} {xc0_2 xc0_3:Int} {vc0_4 vc0_5:PV} {vc0_6 vc0_7:PV} (h:q7f pg x1 g7 o7 x12 x95 x96 v100 x101 x102 xc0_0 vc0_1 xc0_2 xc0_3 vc0_4 vc0_5 vc0_6 vc0_7 gh=some (e,s)):runL pg qal ⟨[(1,I x1),(3,.ptr false 0 0),(7,.ptr true g7 o7),(12,I x12),(95,I x95),(96,I x96),(100,v100),(101,I x101),(102,I x102)],[[I xc0_0,vc0_1,I xc0_2,I xc0_3,vc0_4,vc0_5,vc0_6,vc0_7]],gh⟩=some (e,s):=
 jqr qa (Eq.trans (by kernel_rfl) h)
def qcc (pg:Prg) (x1:Int) (g7 o7:Nat) (x95 x96 xc0_0:Int) (vc0_1:PV) (xc0_2 xc0_3:Int) (vc0_4 vc0_5:PV) (vc0_6 vc0_7:PV) (gh:List GObj):DR:=some (.normal,⟨[(1,I x1),(3,.ptr false 0 0),(7,.ptr true g7 o7),(95,I x95),(96,(I (IntKind.i64.wrap (x96+1))))],[[I xc0_0,vc0_1,I xc0_2,I xc0_3,vc0_4,vc0_5,vc0_6,vc0_7]],gh⟩)
theorem qcc_ {x1:Int} {g7 o7:Nat} {x95 x96 xc0_0:Int} {vc0_1:PV} {xc0_2 xc0_3:Int} {vc0_4 vc0_5:PV} {vc0_6 vc0_7:PV} (h:qcc pg x1 g7 o7 x95 x96 xc0_0 vc0_1 xc0_2 xc0_3 vc0_4 vc0_5 vc0_6 vc0_7 gh=some (e,s)):runL pg q2w ⟨[(1,I x1),(3,.ptr false 0 0),(7,.ptr true g7 o7),(95,I x95),(96,I x96)],[[I xc0_0,vc0_1,I xc0_2,I xc0_3,vc0_4,vc0_5,vc0_6,vc0_7]],gh⟩=some (e,s):=
 jqr qa (Eq.trans (by kernel_rfl) h)
def q7g (pg:Prg) (x1:Int) (g7 o7:Nat) (x95 x96 xc0_0:Int) (vc0_1:PV) (xc0_2 xc0_3:Int) (vc0_4 vc0_5:PV) (vc0_6 vc0_7:PV) (gh:List GObj):DR:=
  br 97 (decide (x96<x95)) (isC (degr vc0_7) (lenS (degr (degr vc0_7)) fun n1=>stK 1 (degr vc0_7) (
  kR (runL pg q62 ⟨[(1,I x1),(3,.ptr false 0 0),(7,.ptr true g7 o7),(12,I x96),(95,I x95),(96,I x96),(100,(degr vc0_7)),(101,(I (n1:Int))),(102,I 0)],[[I xc0_0,vc0_1,I xc0_2,I xc0_3,vc0_4,vc0_5,vc0_6,vc0_7]],gh⟩) (fun e s=>bk 7 e s (fun e s=>nx e s (fun e s=>po [1,3,7,95,96] 1 e s (fun e s=>some (e,s))) fun s=>kR (runL pg q2w s) (fun e s=>po [1,3,7,95,96] 1 e s (fun e s=>some (e,s)))))))) (some ((.exit 6),⟨[(1,I x1),(3,.ptr false 0 0),(7,.ptr true g7 o7),(95,I x95),(96,I x96),(97,(B (decide (x96<x95))))],[[I xc0_0,vc0_1,I xc0_2,I xc0_3,vc0_4,vc0_5,vc0_6,vc0_7]],gh⟩))
theorem q7g_ {x1:Int} {g7 o7:Nat} {x95 x96 xc0_0:Int} {vc0_1:PV} {xc0_2 xc0_3:Int} {vc0_4 vc0_5:PV} {vc0_6 vc0_7:PV} (h:q7g pg x1 g7 o7 x95 x96 xc0_0 vc0_1 xc0_2 xc0_3 vc0_4 vc0_5 vc0_6 vc0_7 gh=some (e,s)):runL pg qam ⟨[(1,I x1),(3,.ptr false 0 0),(7,.ptr true g7 o7),(95,I x95),(96,I x96)],[[I xc0_0,vc0_1,I xc0_2,I xc0_3,vc0_4,vc0_5,vc0_6,vc0_7]],gh⟩=some (e,s):=
 jqr qa (Eq.trans (by kernel_rfl) h)
def qcd (pg:Prg) (x1:Int) (g7 o7:Nat) (gh:List GObj):DR:=
  callR gh false (callL pg 293 [.ptr true g7 o7,I x1] gh) fun r1 gh2=>some (.ret,⟨[(6,.ptr true g7 o7)],[],gh2⟩)
theorem qcd_ {x1:Int} {g7 o7:Nat} (h:qcd pg x1 g7 o7 gh=some (e,s)):runL pg q2x ⟨[(1,I x1),(7,.ptr true g7 o7)],[],gh⟩=some (e,s):=
 jqr qa (Eq.trans (by kernel_rfl) h)
def qce (pg:Prg) (x1:Int) (g7 o7:Nat) (xc0_0:Int) (vc0_1:PV) (xc0_2 xc0_3:Int) (vc0_4 vc0_5:PV) (vc0_6 vc0_7:PV) (gh:List GObj):DR:=
  kR (runL pg q63 ⟨[(1,I x1),(3,.ptr false 0 0),(7,.ptr true g7 o7),(95,(I (IntKind.i64.wrap (x1+1)))),(96,I 0)],[[I xc0_0,vc0_1,I xc0_2,I xc0_3,vc0_4,vc0_5,vc0_6,vc0_7]],gh⟩) (fun e s=>nx e s (fun e s=>some (e,s)) fun s=>kR (runL pg q2x s) (fun e s=>some (e,s)))
theorem qce_ {x1:Int} {g7 o7:Nat} {xc0_0:Int} {vc0_1:PV} {xc0_2 xc0_3:Int} {vc0_4 vc0_5:PV} {vc0_6 vc0_7:PV} (h:qce pg x1 g7 o7 xc0_0 vc0_1 xc0_2 xc0_3 vc0_4 vc0_5 vc0_6 vc0_7 gh=some (e,s)):runL pg q2y ⟨[(1,I x1),(3,.ptr false 0 0),(7,.ptr true g7 o7)],[[I xc0_0,vc0_1,I xc0_2,I xc0_3,vc0_4,vc0_5,vc0_6,vc0_7]],gh⟩=some (e,s):=
 jqr qa (Eq.trans (by kernel_rfl) h)
def qcf (pg:Prg) (x1:Int) (b2:Bool) (g7 o7:Nat) (xc0_0:Int) (vc0_1:PV) (xc0_2 xc0_3:Int) (vc0_4 vc0_5:PV) (vc0_6 vc0_7:PV) (gh:List GObj):DR:=isC (degr vc0_4) (lenS (degr (degr vc0_4)) fun n1=>stK 1 (degr vc0_4) (
  kR (runL pg q61 ⟨[(1,I x1),(2,B b2),(3,.ptr false 0 0),(7,.ptr true g7 o7),(70,(degr vc0_4)),(71,(I (n1:Int))),(72,I 0)],[[I xc0_0,vc0_1,I xc0_2,I xc0_3,vc0_4,vc0_5,vc0_6,vc0_7]],gh⟩) (fun e s=>nx e s (fun e s=>some (e,s)) fun s=>kR (runL pg q2y s) (fun e s=>some (e,s)))))
theorem qcf_ {x1:Int} {b2:Bool} {g7 o7:Nat} {xc0_0:Int} {vc0_1:PV} {xc0_2 xc0_3:Int} {vc0_4 vc0_5:PV} {vc0_6 vc0_7:PV} (h:qcf pg x1 b2 g7 o7 xc0_0 vc0_1 xc0_2 xc0_3 vc0_4 vc0_5 vc0_6 vc0_7 gh=some (e,s)):runL pg q2z ⟨[(1,I x1),(2,B b2),(3,.ptr false 0 0),(7,.ptr true g7 o7)],[[I xc0_0,vc0_1,I xc0_2,I xc0_3,vc0_4,vc0_5,vc0_6,vc0_7]],gh⟩=some (e,s):=
 jqr qa (Eq.trans (by kernel_rfl) h)
def qcg (pg:Prg) (x1:Int) (b2:Bool) (g7 o7:Nat) (xc0_0:Int) (vc0_1:PV) (xc0_2 xc0_3:Int) (vc0_4 vc0_5:PV) (vc0_6 vc0_7:PV) (gh:List GObj):DR:=
  kR (runL pg q2v ⟨[(1,I x1),(2,B b2),(3,.ptr false 0 0),(7,.ptr true g7 o7),(9,I 1)],[[I xc0_0,vc0_1,I xc0_2,I xc0_3,vc0_4,vc0_5,vc0_6,vc0_7]],gh⟩) (fun e s=>nx e s (fun e s=>some (e,s)) fun s=>kR (runL pg q2z s) (fun e s=>some (e,s)))
theorem qcg_ {x1:Int} {b2:Bool} {g7 o7:Nat} {xc0_0:Int} {vc0_1:PV} {xc0_2 xc0_3:Int} {vc0_4 vc0_5:PV} {vc0_6 vc0_7:PV} (h:qcg pg x1 b2 g7 o7 xc0_0 vc0_1 xc0_2 xc0_3 vc0_4 vc0_5 vc0_6 vc0_7 gh=some (e,s)):runL pg q30 ⟨[(1,I x1),(2,B b2),(3,.ptr false 0 0),(7,.ptr true g7 o7)],[[I xc0_0,vc0_1,I xc0_2,I xc0_3,vc0_4,vc0_5,vc0_6,vc0_7]],gh⟩=some (e,s):=
 jqr qa (Eq.trans (by kernel_rfl) h)
def qch (pg:Prg) (x0_0:Int) (v0_1:PV) (x0_2 x0_3:Int) (v0_4 v0_5:PV) (v0_6 v0_7:PV) (x1:Int) (b2:Bool) (gh:List GObj):DR:=onK (degr1 v0_1) (onK (degr1 v0_4) (onK (degr1 v0_5) (onK (degr1 v0_6) (onK (degr1 v0_7) (isC (degr (degr1 v0_1)) (lenS (degr (degr (degr1 v0_1))) fun n1=>onK (degr1 (degr1 v0_1)) (onK (degr1 (degr1 v0_4)) (onK (degr1 (degr1 v0_5)) (onK (degr1 (degr1 v0_6)) (onK (degr1 (degr1 v0_7)) (onK (degr1 (degr1 v0_1)) (onK (degr1 (degr1 v0_4)) (onK (degr1 (degr1 v0_5)) (onK (degr1 (degr1 v0_6)) (onK (degr1 (degr1 v0_7)) (
  ob (ghCells ((gh++[.cells [I 0,.sl true 1 []]])++[.cells [(.ptr true (List.length gh) 0),I x0_0,(degr1 (degr1 v0_1)),I x0_2,I x0_3,(degr1 (degr1 v0_4)),(degr1 (degr1 v0_5)),(degr1 (degr1 v0_6)),(degr1 (degr1 v0_7)),(I (IntKind.i64.wrap (x0_0+(n1:Int))))]]) (List.length (gh++[.cells [I 0,.sl true 1 []]]))) fun cs2=>
  ob (grab false 1 0 cs2) fun v3=>unG (degr v3) fun g4 o5=>
  ob (ghCells ((gh++[.cells [I 0,.sl true 1 []]])++[.cells [(.ptr true (List.length gh) 0),I x0_0,(degr1 (degr1 v0_1)),I x0_2,I x0_3,(degr1 (degr1 v0_4)),(degr1 (degr1 v0_5)),(degr1 (degr1 v0_6)),(degr1 (degr1 v0_7)),(I (IntKind.i64.wrap (x0_0+(n1:Int))))]]) (List.length (gh++[.cells [I 0,.sl true 1 []]]))) fun cs6=>
  ob (grab false 1 9 cs6) fun v7=>unI .i64 (degr v7) fun n8=>
  ob (ghCells ((gh++[.cells [I 0,.sl true 1 []]])++[.cells [(.ptr true (List.length gh) 0),I x0_0,(degr1 (degr1 v0_1)),I x0_2,I x0_3,(degr1 (degr1 v0_4)),(degr1 (degr1 v0_5)),(degr1 (degr1 v0_6)),(degr1 (degr1 v0_7)),(I (IntKind.i64.wrap (x0_0+(n1:Int))))]]) g4) fun cs9=>gb (stOk 1 ((o5+0)+0) [(I (IntKind.i64.wrap (n8*(IntKind.i64.wrap (x1+1)))))] cs9) (
  kR (runL pg q60 ⟨[(1,I x1),(2,B b2),(3,.ptr false 0 0),(7,(.ptr true (List.length (gh++[.cells [I 0,.sl true 1 []]])) 0)),(43,(I (IntKind.i64.wrap (x1+1)))),(44,I 0)],[[I x0_0,(degr1 v0_1),I x0_2,I x0_3,(degr1 v0_4),(degr1 v0_5),(degr1 v0_6),(degr1 v0_7)]],(List.set ((gh++[.cells [I 0,.sl true 1 []]])++[.cells [(.ptr true (List.length gh) 0),I x0_0,(degr1 (degr1 v0_1)),I x0_2,I x0_3,(degr1 (degr1 v0_4)),(degr1 (degr1 v0_5)),(degr1 (degr1 v0_6)),(degr1 (degr1 v0_7)),(I (IntKind.i64.wrap (x0_0+(n1:Int))))]]) g4 (.cells (spliceAt cs9 ((o5+0)+0) [(I (IntKind.i64.wrap (n8*(IntKind.i64.wrap (x1+1)))))])))⟩) (fun e s=>nx e s (fun e s=>some (e,s)) fun s=>kR (runL pg q30 s) (fun e s=>some (e,s))))))))))))))))))))
theorem qch_ {x0_0:Int} {v0_1:PV} {x0_2 x0_3:Int} {v0_4 v0_5:PV} {v0_6 v0_7:PV} {x1:Int} {b2:Bool} (h:qch pg x0_0 v0_1 x0_2 x0_3 v0_4 v0_5 v0_6 v0_7 x1 b2 gh=some (e,s)):runL pg qan ⟨[(0,.agg [I x0_0,v0_1,I x0_2,I x0_3,v0_4,v0_5,v0_6,v0_7]),(1,I x1),(2,B b2)],[],gh⟩=some (e,s):=
 jqr qa (Eq.trans (by kernel_rfl) h)
end
end Go.Lw
end

/-! What the code of function unroll_Limit comes to, piece by piece. Written by program (dprint.py). -/
section
set_option maxRecDepth 10000
set_option maxHeartbeats 4000000
namespace Go.Lw
open Go
noncomputable section
variable {pg:Prg} {gh:List GObj} {e:IExit} {s:St}
def qqb:Tr:=(tI 17 (tI 10 (tO 2 (tI 1 (.node 0 (.agg [.int .i64,.any,.int .i64,.int .i64,.any,.any,.any,.any]) .nil .nil) .nil) (uI 7)) (tI 15 (tI 14 (uO 13) .nil) (uI 16))) (.node 22 (.agg [.int .i64,.any]) (.node 20 (.agg [.int .i64,.any]) (tB 19 (uI 18) .nil) (uO 21)) (.node 24 (.agg [.int .i64,.any]) (.node 23 (.tup 2) .nil .nil) (uI 25))))
def q7h (pg:Prg) (x0_0:Int) (v0_1:PV) (x0_2 x0_3:Int) (v0_4 v0_5:PV) (v0_6 v0_7:PV) (x1:Int) (v2:PV) (gh:List GObj):DR:=onK (degr1 v0_1) (onK (degr1 v0_4) (onK (degr1 v0_5) (onK (degr1 v0_6) (onK (degr1 v0_7) (stK 2 v2 (isC (degr (degr1 v0_1)) (lenS (degr (degr (degr1 v0_1))) fun n1=>stK 2 v2 (
  br 19 (decide (200000<(IntKind.i64.wrap ((IntKind.i64.wrap (x0_0+(n1:Int)))*(IntKind.i64.wrap (x1+1)))))) (some (.ret,⟨[(6,.ptr false 1 0),(7,I 3)],[[I x0_0,(degr1 v0_1),I x0_2,I x0_3,(degr1 v0_4),(degr1 v0_5),(degr1 v0_6),(degr1 v0_7)],[I 0,.sl true 1 []]],gh⟩)) (isC (degr v2) (
  fnX (degr (degr v2)) fun f4 cs5=>allK cs5 (callR gh true (callL pg f4 ([]++cs5) gh) fun r2 gh3=>unA 2 r2 fun c6 c7=>unI .i64 c6 fun n8=>onK (degr1 c7) (
  callR gh3 true (callL pg 55 [(.agg [I n8,(degr1 c7)])] gh3) fun r9 gh10=>unT 2 r9 fun r11 r12=>unA 2 (degr1 r11) fun c13 c14=>unI .i64 c13 fun n15=>unI .i64 (degr1 r12) fun n16=>onK c14 (some (.ret,⟨[(6,.ptr false 1 0),(7,I n16)],[[I x0_0,(degr1 v0_1),I x0_2,I x0_3,(degr1 v0_4),(degr1 v0_5),(degr1 v0_6),(degr1 v0_7)],[I n15,c14]],gh10⟩))))))))))))))
theorem q7h_ {x0_0:Int} {v0_1:PV} {x0_2 x0_3:Int} {v0_4 v0_5:PV} {v0_6 v0_7:PV} {x1:Int} {v2:PV} (h:q7h pg x0_0 v0_1 x0_2 x0_3 v0_4 v0_5 v0_6 v0_7 x1 v2 gh=some (e,s)):runL pg qah ⟨[(0,.agg [I x0_0,v0_1,I x0_2,I x0_3,v0_4,v0_5,v0_6,v0_7]),(1,I x1),(2,v2)],[],gh⟩=some (e,s):=
 jqr qqb (Eq.trans (by kernel_rfl) h)
end
end Go.Lw
end

/-! What the code of function unroll_Ready comes to, piece by piece. Written by program (dprint.py). -/
section
set_option maxRecDepth 10000
set_option maxHeartbeats 4000000
namespace Go.Lw
open Go
noncomputable section
variable {pg:Prg} {gh:List GObj} {e:IExit} {s:St}
def q7i:Tr:=(tI 18 (tI 11 (tI 6 (tI 1 (.node 0 (.agg [.int .i64,.any,.int .i64,.int .i64,.any,.any,.any,.any]) .nil .nil) (uB 2)) (tI 9 (uI 7) (.node 10 (.agg [.int .i64,.any,.int .i64,.int .i64,.any,.any,.any,.any]) .nil .nil))) (tI 15 (tB 13 (uI 12) (uI 14)) (tB 17 (uB 16) .nil))) (tI 27 (tI 23 (tB 20 (uB 19) (uO 22)) (tB 25 (uI 24) .nil)) (tB 31 (tB 29 (uB 28) (uI 30)) (tI 33 (uB 32) .nil))))
def q23 (pg:Prg) (b2:Bool) (v22:PV) (x23 x24:Int) (gh:List GObj):DR:=
  br 25 (decide (x24<x23)) (
  idX 1 none (degr v22) x24 fun p1=>
  ldX [] gh false 1 (degr p1) fun v2=>unI .i64 v2 fun n3=>stK 0 v22 (
  br 29 b2 (stK 0 v22 (
  br 32 (decide (1<n3)) (some (.ret,⟨[(6,I 7)],[],gh⟩)) (stK 0 v22 (stK 0 v22 (some (.normal,⟨[(2,B b2),(22,v22),(23,I x23),(24,(I (IntKind.i64.wrap (x24+1))))],[],gh⟩)))))) (stK 0 v22 (stK 0 v22 (stK 0 v22 (some (.normal,⟨[(2,B b2),(22,v22),(23,I x23),(24,(I (IntKind.i64.wrap (x24+1))))],[],gh⟩))))))) (some ((.exit 0),⟨[(2,B b2),(22,v22),(23,I x23),(24,I x24),(25,(B (decide (x24<x23))))],[],gh⟩))
theorem q23_ {b2:Bool} {v22:PV} {x23 x24:Int} (h:q23 pg b2 v22 x23 x24 gh=some (e,s)):runL pg qat ⟨[(2,B b2),(22,v22),(23,I x23),(24,I x24)],[],gh⟩=some (e,s):=
 jqr q7i (Eq.trans (by kernel_rfl) h)
def qqc (pg:Prg) (gh:List GObj):DR:=some (.ret,⟨[(6,I 0)],[],gh⟩)
theorem qqc_ (h:qqc pg gh=some (e,s)):runL pg q69 ⟨[],[],gh⟩=some (e,s):=
 jqr q7i (Eq.trans (by kernel_rfl) h)
def q14 (pg:Prg) (x0_0:Int) (v0_1:PV) (x0_2 x0_3:Int) (v0_4 v0_5:PV) (v0_6 v0_7:PV) (x1:Int) (b2:Bool) (gh:List GObj):DR:=onK (degr1 v0_1) (onK (degr1 v0_4) (onK (degr1 v0_5) (onK (degr1 v0_6) (onK (degr1 v0_7) (onK (degr1 (degr1 (degr1 v0_1))) (onK (degr1 (degr1 (degr1 v0_4))) (onK (degr1 (degr1 (degr1 v0_5))) (onK (degr1 (degr1 (degr1 v0_6))) (onK (degr1 (degr1 (degr1 v0_7))) (
  callR gh true (callL pg 212 [(.agg [I x0_0,(degr1 (degr1 (degr1 v0_1))),I x0_2,I x0_3,(degr1 (degr1 (degr1 v0_4))),(degr1 (degr1 (degr1 v0_5))),(degr1 (degr1 (degr1 v0_6))),(degr1 (degr1 (degr1 v0_7)))])] gh) fun r1 gh2=>unI .i64 r1 fun n3=>
  br 13 (n3 !=0) (some (.ret,⟨[(6,I n3)],[],gh2⟩)) (
  br 17 (decide (x1<0)) (some (.ret,⟨[(6,I 3)],[],gh2⟩)) (
  br 20 (decide (40<x1)) (some (.ret,⟨[(6,I 3)],[],gh2⟩)) (isC (degr (degr1 v0_4)) (lenS (degr (degr (degr1 v0_4))) fun n4=>stK 0 (degr (degr1 v0_4)) (
  kR (runL pg q68 ⟨[(2,B b2),(22,(degr (degr1 v0_4))),(23,(I (n4:Int))),(24,I 0)],[],gh2⟩) (fun e s=>nx e s (fun e s=>some (e,s)) fun s=>kR (runL pg q69 s) (fun e s=>some (e,s))))))))))))))))))
theorem q14_ {x0_0:Int} {v0_1:PV} {x0_2 x0_3:Int} {v0_4 v0_5:PV} {v0_6 v0_7:PV} {x1:Int} {b2:Bool} (h:q14 pg x0_0 v0_1 x0_2 x0_3 v0_4 v0_5 v0_6 v0_7 x1 b2 gh=some (e,s)):runL pg q6a ⟨[(0,.agg [I x0_0,v0_1,I x0_2,I x0_3,v0_4,v0_5,v0_6,v0_7]),(1,I x1),(2,B b2)],[],gh⟩=some (e,s):=
 jqr q7i (Eq.trans (by kernel_rfl) h)
end
end Go.Lw
end

/-! What the code of function prove_prover_good comes to, piece by piece. Written by program (dprint.py). -/
section
set_option maxRecDepth 10000
set_option maxHeartbeats 4000000
namespace Go.Lw
open Go
noncomputable section
variable {pg:Prg} {gh:List GObj} {e:IExit} {s:St}
def qci:Tr:=(tG 19 (tI 11 (tI 5 (tI 1 (uG 0) .nil) (tO 10 (uG 6) .nil)) (tI 15 (tB 13 (uI 12) .nil) (uG 16))) (tG 26 (tI 24 (tI 23 (uG 22) .nil) (uI 25)) (tI 33 (tI 32 (uG 29) .nil) (uI 35))))
def q7j (pg:Prg) (g0 o0:Nat) (x1:Int) (v10:PV) (x11 x12:Int) (gh:List GObj):DR:=
  br 13 (decide (x12<x11)) (
  idX 1 none (degr v10) x12 fun p1=>
  ldX [] gh false 1 (degr p1) fun v2=>unI .i64 v2 fun n3=>stK 0 v10 (
  ob (ghCells gh g0) fun cs4=>
  ob (grab false 1 (o0+0) cs4) fun v5=>unG (degr v5) fun g6 o7=>
  ob (ghCells gh g6) fun cs8=>
  ob (grab false 1 (o7+0) cs8) fun v9=>unG (degr v9) fun g10 o11=>
  ob (ghCells gh g0) fun cs12=>
  ob (grab false 1 (o0+0) cs12) fun v13=>unG (degr v13) fun g14 o15=>
  ob (ghCells gh g14) fun cs16=>
  ob (grab false 1 (o15+9) cs16) fun v17=>unI .i64 (degr v17) fun n18=>
  callR gh false (callL pg 54 [.ptr true g10 o11,(I (iXor .i64 n3 1)),(I (IntKind.i64.wrap (x1*n18)))] gh) fun r19 gh20=>stK 0 v10 (stK 0 v10 (stK 0 v10 (some (.normal,⟨[(0,.ptr true g0 o0),(1,I x1),(10,v10),(11,I x11),(12,(I (IntKind.i64.wrap (x12+1))))],[],gh20⟩)))))) (some ((.exit 0),⟨[(0,.ptr true g0 o0),(1,I x1),(10,v10),(11,I x11),(12,I x12),(13,(B (decide (x12<x11))))],[],gh⟩))
theorem q7j_ {g0 o0:Nat} {x1:Int} {v10:PV} {x11 x12:Int} (h:q7j pg g0 o0 x1 v10 x11 x12 gh=some (e,s)):runL pg q97 ⟨[(0,.ptr true g0 o0),(1,I x1),(10,v10),(11,I x11),(12,I x12)],[],gh⟩=some (e,s):=
 jqr qci (Eq.trans (by kernel_rfl) h)
def qcj (pg:Prg) (g0 o0:Nat) (x1:Int) (gh:List GObj):DR:=
  ob (ghCells gh g0) fun cs1=>
  ob (grab false 1 ((o0+1)+6) cs1) fun v2=>isC (degr v2) (lenS (degr (degr v2)) fun n3=>stK 0 (degr v2) (
  kR (runL pg q4l ⟨[(0,.ptr true g0 o0),(1,I x1),(10,(degr v2)),(11,(I (n3:Int))),(12,I 0)],[],gh⟩) (fun e s=>some (e,s))))
theorem qcj_ {g0 o0:Nat} {x1:Int} (h:qcj pg g0 o0 x1 gh=some (e,s)):runL pg q98 ⟨[(0,.ptr true g0 o0),(1,I x1)],[],gh⟩=some (e,s):=
 jqr qci (Eq.trans (by kernel_rfl) h)
end
end Go.Lw
end

/-! What the code of function prove_prover_differ comes to, piece by piece. Written by program (dprint.py). -/
section
set_option maxRecDepth 10000
set_option maxHeartbeats 4000000
namespace Go.Lw
open Go
noncomputable section
variable {pg:Prg} {gh:List GObj} {e:IExit} {s:St}
def q7k:Tr:=(tI 57 (tG 23 (tI 10 (tO 6 (tI 1 (uG 0) (uI 2)) (tI 8 (uI 7) (uI 9))) (tI 17 (tG 12 (uO 11) (uI 16)) (tI 19 (uB 18) (uG 20)))) (tG 46 (tG 35 (tI 30 (uG 26) (uI 31)) (tG 41 (uG 38) (uI 45))) (tI 52 (tI 50 (uG 49) (uI 51)) (tG 56 (uG 53) .nil)))) (tI 81 (tI 69 (tG 63 (tI 59 (uI 58) (uG 60)) (tI 67 (uG 66) (uI 68))) (tG 76 (tO 71 (uI 70) (uG 73)) (tI 80 (uG 79) .nil))) (tO 90 (tI 85 (tI 83 (uI 82) (uI 84)) (tO 88 (uO 86) (uI 89))) (tG 96 (tI 92 (uO 91) (uG 93)) (tO 100 (uG 99) .nil)))))
def q7l (pg:Prg) (g0 o0:Nat) (x1 x2:Int) (v6:PV) (x16 x17:Int) (gh:List GObj):DR:=
  br 18 (decide (x17<x16)) (stK 0 v6 (
  ob (ghCells gh g0) fun cs1=>
  ob (grab false 1 (o0+0) cs1) fun v2=>unG (degr v2) fun g3 o4=>
  ob (ghCells gh g3) fun cs5=>
  ob (grab false 1 (o4+0) cs5) fun v7=>unG (degr v7) fun g8 o9=>
  ob (ghCells gh g8) fun cs10=>
  ob (grab false 1 ((o9+0)+0) cs10) fun v11=>unI .i64 (degr v11) fun n12=>
  ob (ghCells gh g8) fun cs13=>gb (stOk 1 ((o9+0)+0) [(I (IntKind.i64.wrap (n12+1)))] cs13) (stK 0 v6 (
  ob (ghCells (List.set gh g8 (.cells (spliceAt cs13 ((o9+0)+0) [(I (IntKind.i64.wrap (n12+1)))]))) g0) fun cs14=>
  ob (grab false 1 (o0+0) cs14) fun v15=>unG (degr v15) fun g16 o17=>
  ob (ghCells (List.set gh g8 (.cells (spliceAt cs13 ((o9+0)+0) [(I (IntKind.i64.wrap (n12+1)))]))) g16) fun cs18=>
  ob (grab false 1 (o17+0) cs18) fun v19=>unG (degr v19) fun g20 o21=>
  ob (ghCells (List.set gh g8 (.cells (spliceAt cs13 ((o9+0)+0) [(I (IntKind.i64.wrap (n12+1)))]))) g20) fun cs22=>
  ob (grab false 1 ((o21+0)+0) cs22) fun v23=>unI .i64 (degr v23) fun n24=>stK 0 v6 (
  ob (ghCells (List.set gh g8 (.cells (spliceAt cs13 ((o9+0)+0) [(I (IntKind.i64.wrap (n12+1)))]))) g0) fun cs25=>
  ob (grab false 1 (o0+0) cs25) fun v26=>unG (degr v26) fun g27 o28=>
  callR (List.set gh g8 (.cells (spliceAt cs13 ((o9+0)+0) [(I (IntKind.i64.wrap (n12+1)))]))) true (callL pg 292 [.ptr true g27 o28,I x1,I x17,B true] (List.set gh g8 (.cells (spliceAt cs13 ((o9+0)+0) [(I (IntKind.i64.wrap (n12+1)))])))) fun r29 gh30=>unI .i64 r29 fun n31=>
  ob (ghCells gh30 g0) fun cs32=>
  ob (grab false 1 (o0+0) cs32) fun v33=>unG (degr v33) fun g34 o35=>
  callR gh30 true (callL pg 292 [.ptr true g34 o35,I x2,I x17,B true] gh30) fun r36 gh37=>unI .i64 r36 fun n38=>stK 0 v6 (
  ob (ghCells gh37 g0) fun cs39=>
  ob (grab false 1 (o0+0) cs39) fun v40=>unG (degr v40) fun g41 o42=>
  ob (ghCells gh37 g41) fun cs43=>
  ob (grab false 1 (o42+0) cs43) fun v44=>unG (degr v44) fun g45 o46=>
  callR gh37 false (callL pg 91 [.ptr true g45 o46,(.sl false 1 [(I (IntKind.i64.wrap (0-n24))),I n31,I n38])] gh37) fun r47 gh48=>stK 0 v6 (
  ob (ghCells gh48 g0) fun cs49=>
  ob (grab false 1 (o0+0) cs49) fun v50=>unG (degr v50) fun g51 o52=>
  ob (ghCells gh48 g51) fun cs53=>
  ob (grab false 1 (o52+0) cs53) fun v54=>unG (degr v54) fun g55 o56=>
  callR gh48 false (callL pg 91 [.ptr true g55 o56,(.sl false 1 [(I (IntKind.i64.wrap (0-n24))),(I (IntKind.i64.wrap (0-n31))),(I (IntKind.i64.wrap (0-n38)))])] gh48) fun r57 gh58=>stK 0 v6 (
  apX 1 8 v6 (.sl false 1 [I n24]) fun l59=>some (.normal,⟨[(0,.ptr true g0 o0),(1,I x1),(2,I x2),(6,.sl true 1 l59),(16,I x16),(17,(I (IntKind.i64.wrap (x17+1))))],[],gh58⟩))))))))) (some ((.exit 0),⟨[(0,.ptr true g0 o0),(1,I x1),(2,I x2),(6,v6),(16,I x16),(17,I x17),(18,(B (decide (x17<x16))))],[],gh⟩))
theorem q7l_ {g0 o0:Nat} {x1 x2:Int} {v6:PV} {x16 x17:Int} (h:q7l pg g0 o0 x1 x2 v6 x16 x17 gh=some (e,s)):runL pg q99 ⟨[(0,.ptr true g0 o0),(1,I x1),(2,I x2),(6,v6),(16,I x16),(17,I x17)],[],gh⟩=some (e,s):=
 jqr q7k (Eq.trans (by kernel_rfl) h)
def qck (pg:Prg) (g0 o0:Nat) (v6:PV) (gh:List GObj):DR:=
  ob (ghCells gh g0) fun cs1=>
  ob (grab false 1 (o0+0) cs1) fun v2=>unG (degr v2) fun g3 o4=>
  ob (ghCells gh g3) fun cs5=>
  ob (grab false 1 (o4+0) cs5) fun v7=>unG (degr v7) fun g8 o9=>isC (degr v6) (arK (degr (degr v6)) (
  callR gh false (callL pg 91 [.ptr true g8 o9,(degr (degr v6))] gh) fun r10 gh11=>some (.normal,⟨[],[],gh11⟩)))
theorem qck_ {g0 o0:Nat} {v6:PV} (h:qck pg g0 o0 v6 gh=some (e,s)):runL pg q2g ⟨[(0,.ptr true g0 o0),(6,v6)],[],gh⟩=some (e,s):=
 jqr q7k (Eq.trans (by kernel_rfl) h)
def qcl (pg:Prg) (g0 o0:Nat) (x1 x2:Int) (gh:List GObj):DR:=
  ob (ghCells gh g0) fun cs1=>
  ob (grab false 1 ((o0+1)+3) cs1) fun v2=>unI .i64 (degr v2) fun n3=>
  kR (runL pg q4n ⟨[(0,.ptr true g0 o0),(1,I x1),(2,I x2),(6,.sl true 1 []),(16,I n3),(17,I 0)],[],gh⟩) (fun e s=>nx e s (fun e s=>some (e,s)) fun s=>kR (runL pg q2g s) (fun e s=>some (e,s)))
theorem qcl_ {g0 o0:Nat} {x1 x2:Int} (h:qcl pg g0 o0 x1 x2 gh=some (e,s)):runL pg q9a ⟨[(0,.ptr true g0 o0),(1,I x1),(2,I x2)],[],gh⟩=some (e,s):=
 jqr q7k (Eq.trans (by kernel_rfl) h)
end
end Go.Lw
end

/-! What the code of function prove_raw comes to, piece by piece. Written by program (dprint.py). -/
section
set_option maxRecDepth 10000
set_option maxHeartbeats 4000000
namespace Go.Lw
open Go
noncomputable section
variable {pg:Prg} {gh:List GObj} {e:IExit} {s:St}
def qv:Tr:=(tI 23 (.node 12 (.agg [.int .i64,.any,.int .i64,.int .i64,.any,.any,.any,.any]) (tI 7 (tG 5 (tI 1 (.node 0 (.agg [.int .i64,.any,.int .i64,.int .i64,.any,.any,.any,.any]) .nil .nil) .nil) (uI 6)) (tI 10 (.node 9 (.agg [.int .i64,.any,.int .i64,.int .i64,.any,.any,.any,.any]) (uI 8) .nil) (uG 11))) (tB 17 (tI 15 (tG 14 (.node 13 (.agg [.gp,.int .i64,.any,.int .i64,.int .i64,.any,.any,.any,.any]) .nil .nil) .nil) (uI 16)) (tI 20 (tG 19 (uI 18) .nil) (uI 22)))) (tI 33 (tI 28 (tB 26 (tI 25 (uI 24) .nil) (uI 27)) (tI 31 (tI 30 (uI 29) .nil) (uB 32))) (tI 39 (tI 36 (tG 35 (uI 34) .nil) (uI 37)) (tG 46 (tG 43 (uG 40) .nil) (.node 49 (.agg [.int .i64,.any]) .nil .nil)))))
def q7m (pg:Prg) (x1:Int) (g5 o5:Nat) (x15 x16 xc0_0:Int) (vc0_1:PV) (xc0_2 xc0_3:Int) (vc0_4 vc0_5:PV) (vc0_6 vc0_7:PV) (xc1_0:Int) (vc1_1:PV) (gh:List GObj):DR:=
  br 17 (decide (x16<x15)) (
  callR gh false (callL pg 277 [.ptr true g5 o5,I x16] gh) fun r1 gh2=>some (.normal,⟨[(1,I x1),(4,.ptr false 1 0),(5,.ptr true g5 o5),(15,I x15),(16,(I (IntKind.i64.wrap (x16+1))))],[[I xc0_0,vc0_1,I xc0_2,I xc0_3,vc0_4,vc0_5,vc0_6,vc0_7],[I xc1_0,vc1_1]],gh2⟩)) (some ((.exit 0),⟨[(1,I x1),(4,.ptr false 1 0),(5,.ptr true g5 o5),(15,I x15),(16,I x16),(17,(B (decide (x16<x15))))],[[I xc0_0,vc0_1,I xc0_2,I xc0_3,vc0_4,vc0_5,vc0_6,vc0_7],[I xc1_0,vc1_1]],gh⟩))
theorem q7m_ {x1:Int} {g5 o5:Nat} {x15 x16 xc0_0:Int} {vc0_1:PV} {xc0_2 xc0_3:Int} {vc0_4 vc0_5:PV} {vc0_6 vc0_7:PV} {xc1_0:Int} {vc1_1:PV} (h:q7m pg x1 g5 o5 x15 x16 xc0_0 vc0_1 xc0_2 xc0_3 vc0_4 vc0_5 vc0_6 vc0_7 xc1_0 vc1_1 gh=some (e,s)):runL pg q93 ⟨[(1,I x1),(4,.ptr false 1 0),(5,.ptr true g5 o5),(15,I x15),(16,I x16)],[[I xc0_0,vc0_1,I xc0_2,I xc0_3,vc0_4,vc0_5,vc0_6,vc0_7],[I xc1_0,vc1_1]],gh⟩=some (e,s):=
 jqr qv (Eq.trans (by kernel_rfl) h)
def q7n (pg:Prg) (x1:Int) (g5 o5:Nat) (x7 x8:Int) (x24 x25 xc0_0:Int) (vc0_1:PV) (xc0_2 xc0_3:Int) (vc0_4 vc0_5:PV) (vc0_6 vc0_7:PV) (xc1_0:Int) (vc1_1:PV) (gh:List GObj):DR:=
  br 32 (decide (x8≤x1)) (
  callR gh false (callL pg 278 [.ptr true g5 o5,I x7,I x8] gh) fun r1 gh2=>some (.normal,⟨[(1,I x1),(4,.ptr false 1 0),(5,.ptr true g5 o5),(7,I x7),(8,(I (IntKind.i64.wrap (x8+1)))),(24,I x24),(25,I x25)],[[I xc0_0,vc0_1,I xc0_2,I xc0_3,vc0_4,vc0_5,vc0_6,vc0_7],[I xc1_0,vc1_1]],gh2⟩)) (some ((.exit 4),⟨[(1,I x1),(4,.ptr false 1 0),(5,.ptr true g5 o5),(7,I x7),(8,I x8),(24,I x24),(25,I x25),(32,(B (decide (x8≤x1))))],[[I xc0_0,vc0_1,I xc0_2,I xc0_3,vc0_4,vc0_5,vc0_6,vc0_7],[I xc1_0,vc1_1]],gh⟩))
theorem q7n_ {x1:Int} {g5 o5:Nat} {x7 x8:Int} {x24 x25 xc0_0:Int} {vc0_1:PV} {xc0_2 xc0_3:Int} {vc0_4 vc0_5:PV} {vc0_6 vc0_7:PV} {xc1_0:Int} {vc1_1:PV} (h:q7n pg x1 g5 o5 x7 x8 x24 x25 xc0_0 vc0_1 xc0_2 xc0_3 vc0_4 vc0_5 vc0_6 vc0_7 xc1_0 vc1_1 gh=some (e,s)):runL pg q94 ⟨[(1,I x1),(4,.ptr false 1 0),(5,.ptr true g5 o5),(7,I x7),(8,I x8),(24,I x24),(25,I x25)],[[I xc0_0,vc0_1,I xc0_2,I xc0_3,vc0_4,vc0_5,vc0_6,vc0_7],[I xc1_0,vc1_1]],gh⟩=some (e,s):=
 jqr qv (Eq.trans (by kernel_rfl) h)
def qcm (pg:Prg) (x1:Int) (g5 o5:Nat) (x24 x25 xc0_0:Int) (vc0_1:PV) (xc0_2 xc0_3:Int) (vc0_4 vc0_5:PV) (vc0_6 vc0_7:PV) (xc1_0:Int) (vc1_1:PV) (gh:List GObj):DR:=some (.normal,⟨[(1,I x1),(4,.ptr false 1 0),(5,.ptr true g5 o5),(24,I x24),(25,(I (IntKind.i64.wrap (x25+1))))],[[I xc0_0,vc0_1,I xc0_2,I xc0_3,vc0_4,vc0_5,vc0_6,vc0_7],[I xc1_0,vc1_1]],gh⟩)
theorem qcm_ {x1:Int} {g5 o5:Nat} {x24 x25 xc0_0:Int} {vc0_1:PV} {xc0_2 xc0_3:Int} {vc0_4 vc0_5:PV} {vc0_6 vc0_7:PV} {xc1_0:Int} {vc1_1:PV} (h:qcm pg x1 g5 o5 x24 x25 xc0_0 vc0_1 xc0_2 xc0_3 vc0_4 vc0_5 vc0_6 vc0_7 xc1_0 vc1_1 gh=some (e,s)):runL pg q2d ⟨[(1,I x1),(4,.ptr false 1 0),(5,.ptr true g5 o5),(24,I x24),(25,I x25)],[[I xc0_0,vc0_1,I xc0_2,I xc0_3,vc0_4,vc0_5,vc0_6,vc0_7],[I xc1_0,vc1_1]],gh⟩=some (e,s):=
 jqr qv (Eq.trans (by kernel_rfl) h)
def q7o (pg:Prg) (x1:Int) (g5 o5:Nat) (x24 x25 xc0_0:Int) (vc0_1:PV) (xc0_2 xc0_3:Int) (vc0_4 vc0_5:PV) (vc0_6 vc0_7:PV) (xc1_0:Int) (vc1_1:PV) (gh:List GObj):DR:=
  br 26 (decide (x25<x24)) (
  kR (runL pg q4i ⟨[(1,I x1),(4,.ptr false 1 0),(5,.ptr true g5 o5),(7,I x25),(8,(I (IntKind.i64.wrap (x25+1)))),(24,I x24),(25,I x25)],[[I xc0_0,vc0_1,I xc0_2,I xc0_3,vc0_4,vc0_5,vc0_6,vc0_7],[I xc1_0,vc1_1]],gh⟩) (fun e s=>bk 3 e s (fun e s=>nx e s (fun e s=>po [1,4,5,24,25] 2 e s (fun e s=>some (e,s))) fun s=>kR (runL pg q2d s) (fun e s=>po [1,4,5,24,25] 2 e s (fun e s=>some (e,s)))))) (some ((.exit 2),⟨[(1,I x1),(4,.ptr false 1 0),(5,.ptr true g5 o5),(24,I x24),(25,I x25),(26,(B (decide (x25<x24))))],[[I xc0_0,vc0_1,I xc0_2,I xc0_3,vc0_4,vc0_5,vc0_6,vc0_7],[I xc1_0,vc1_1]],gh⟩))
theorem q7o_ {x1:Int} {g5 o5:Nat} {x24 x25 xc0_0:Int} {vc0_1:PV} {xc0_2 xc0_3:Int} {vc0_4 vc0_5:PV} {vc0_6 vc0_7:PV} {xc1_0:Int} {vc1_1:PV} (h:q7o pg x1 g5 o5 x24 x25 xc0_0 vc0_1 xc0_2 xc0_3 vc0_4 vc0_5 vc0_6 vc0_7 xc1_0 vc1_1 gh=some (e,s)):runL pg q95 ⟨[(1,I x1),(4,.ptr false 1 0),(5,.ptr true g5 o5),(24,I x24),(25,I x25)],[[I xc0_0,vc0_1,I xc0_2,I xc0_3,vc0_4,vc0_5,vc0_6,vc0_7],[I xc1_0,vc1_1]],gh⟩=some (e,s):=
 jqr qv (Eq.trans (by kernel_rfl) h)
def qcn (pg:Prg) (g5 o5:Nat) (xc0_0:Int) (vc0_1:PV) (xc0_2 xc0_3:Int) (vc0_4 vc0_5:PV) (vc0_6 vc0_7:PV) (xc1_0:Int) (vc1_1:PV) (gh:List GObj):DR:=
  ob (ghCells gh g5) fun cs1=>
  ob (grab false 1 (o5+0) cs1) fun v2=>unG (degr v2) fun g3 o4=>
  ob (ghCells gh g3) fun cs5=>
  ob (grab false 1 (o4+0) cs5) fun v6=>unG (degr v6) fun g7 o8=>
  ob (ghCells gh g7) fun cs9=>
  ob (grab true 2 (o8+0) cs9) fun v10=>unA 2 (degr v10) fun c11 c12=>unI .i64 c11 fun n13=>onK c12 (some (.ret,⟨[(4,.ptr false 1 0)],[[I xc0_0,vc0_1,I xc0_2,I xc0_3,vc0_4,vc0_5,vc0_6,vc0_7],[I n13,c12]],gh⟩))
theorem qcn_ {g5 o5:Nat} {xc0_0:Int} {vc0_1:PV} {xc0_2 xc0_3:Int} {vc0_4 vc0_5:PV} {vc0_6 vc0_7:PV} {xc1_0:Int} {vc1_1:PV} (h:qcn pg g5 o5 xc0_0 vc0_1 xc0_2 xc0_3 vc0_4 vc0_5 vc0_6 vc0_7 xc1_0 vc1_1 gh=some (e,s)):runL pg q2e ⟨[(4,.ptr false 1 0),(5,.ptr true g5 o5)],[[I xc0_0,vc0_1,I xc0_2,I xc0_3,vc0_4,vc0_5,vc0_6,vc0_7],[I xc1_0,vc1_1]],gh⟩=some (e,s):=
 jqr qv (Eq.trans (by kernel_rfl) h)
def qco (pg:Prg) (x1:Int) (g5 o5:Nat) (xc0_0:Int) (vc0_1:PV) (xc0_2 xc0_3:Int) (vc0_4 vc0_5:PV) (vc0_6 vc0_7:PV) (xc1_0:Int) (vc1_1:PV) (gh:List GObj):DR:=
  kR (runL pg q4j ⟨[(1,I x1),(4,.ptr false 1 0),(5,.ptr true g5 o5),(24,(I (IntKind.i64.wrap (x1+1)))),(25,I 0)],[[I xc0_0,vc0_1,I xc0_2,I xc0_3,vc0_4,vc0_5,vc0_6,vc0_7],[I xc1_0,vc1_1]],gh⟩) (fun e s=>nx e s (fun e s=>some (e,s)) fun s=>kR (runL pg q2e s) (fun e s=>some (e,s)))
theorem qco_ {x1:Int} {g5 o5:Nat} {xc0_0:Int} {vc0_1:PV} {xc0_2 xc0_3:Int} {vc0_4 vc0_5:PV} {vc0_6 vc0_7:PV} {xc1_0:Int} {vc1_1:PV} (h:qco pg x1 g5 o5 xc0_0 vc0_1 xc0_2 xc0_3 vc0_4 vc0_5 vc0_6 vc0_7 xc1_0 vc1_1 gh=some (e,s)):runL pg q2f ⟨[(1,I x1),(4,.ptr false 1 0),(5,.ptr true g5 o5)],[[I xc0_0,vc0_1,I xc0_2,I xc0_3,vc0_4,vc0_5,vc0_6,vc0_7],[I xc1_0,vc1_1]],gh⟩=some (e,s):=
 jqr qv (Eq.trans (by kernel_rfl) h)
def qcp (pg:Prg) (x0_0:Int) (v0_1:PV) (x0_2 x0_3:Int) (v0_4 v0_5:PV) (v0_6 v0_7:PV) (x1:Int) (gh:List GObj):DR:=onK (degr1 v0_1) (onK (degr1 v0_4) (onK (degr1 v0_5) (onK (degr1 v0_6) (onK (degr1 v0_7) (onK (degr1 (degr1 (degr1 v0_1))) (onK (degr1 (degr1 (degr1 v0_4))) (onK (degr1 (degr1 (degr1 v0_5))) (onK (degr1 (degr1 (degr1 v0_6))) (onK (degr1 (degr1 (degr1 v0_7))) (
  callR gh false (callL pg 276 [(.agg [I x0_0,(degr1 (degr1 (degr1 v0_1))),I x0_2,I x0_3,(degr1 (degr1 (degr1 v0_4))),(degr1 (degr1 (degr1 v0_5))),(degr1 (degr1 (degr1 v0_6))),(degr1 (degr1 (degr1 v0_7)))]),I x1,B false] gh) fun r1 gh2=>unG r1 fun g3 o4=>onK (degr1 (degr1 v0_1)) (onK (degr1 (degr1 v0_4)) (onK (degr1 (degr1 v0_5)) (onK (degr1 (degr1 v0_6)) (onK (degr1 (degr1 v0_7)) (onK (degr1 (degr1 v0_1)) (onK (degr1 (degr1 v0_4)) (onK (degr1 (degr1 v0_5)) (onK (degr1 (degr1 v0_6)) (onK (degr1 (degr1 v0_7)) (
  kR (runL pg q4h ⟨[(1,I x1),(4,.ptr false 1 0),(5,(.ptr true (List.length gh2) 0)),(15,I x1),(16,I 0)],[[I x0_0,(degr1 v0_1),I x0_2,I x0_3,(degr1 v0_4),(degr1 v0_5),(degr1 v0_6),(degr1 v0_7)],[I 0,.sl true 1 []]],(gh2++[.cells [.ptr true g3 o4,I x0_0,(degr1 (degr1 v0_1)),I x0_2,I x0_3,(degr1 (degr1 v0_4)),(degr1 (degr1 v0_5)),(degr1 (degr1 v0_6)),(degr1 (degr1 v0_7))]])⟩) (fun e s=>nx e s (fun e s=>some (e,s)) fun s=>kR (runL pg q2f s) (fun e s=>some (e,s)))))))))))))))))))))))
theorem qcp_ {x0_0:Int} {v0_1:PV} {x0_2 x0_3:Int} {v0_4 v0_5:PV} {v0_6 v0_7:PV} {x1:Int} (h:qcp pg x0_0 v0_1 x0_2 x0_3 v0_4 v0_5 v0_6 v0_7 x1 gh=some (e,s)):runL pg q96 ⟨[(0,.agg [I x0_0,v0_1,I x0_2,I x0_3,v0_4,v0_5,v0_6,v0_7]),(1,I x1)],[],gh⟩=some (e,s):=
 jqr qv (Eq.trans (by kernel_rfl) h)
end
end Go.Lw
end

/-! What the code of function ref_Has comes to, piece by piece. Written by program (dprint.py). -/
section
set_option maxRecDepth 10000
set_option maxHeartbeats 4000000
namespace Go.Lw
open Go
noncomputable section
variable {pg:Prg} {gh:List GObj} {e:IExit} {s:St}
def q7p:Tr:=(tB 9 (tI 5 (tI 1 (uO 0) (uB 4)) (tO 7 (uI 6) (uI 8))) (tI 13 (tI 11 (uI 10) (uO 12)) (tI 16 (uI 15) (uB 17))))
def q3j (pg:Prg) (v0:PV) (x1 x5:Int) (gh:List GObj):DR:=isC (degr v0) (lenS (degr (degr v0)) fun n1=>stK 0 v0 (
  br 9 (decide (x5<(n1:Int))) (isC (degr v0) (
  idX 1 none (degr (degr v0)) x5 fun p2=>
  ldX [] gh false 1 (degr p2) fun v3=>unI .i64 v3 fun n4=>stK 0 v0 (
  br 17 (n4==x1) (some (.ret,⟨[(4,B true)],[],gh⟩)) (stK 0 v0 (stK 0 v0 (some (.normal,⟨[(0,v0),(1,I x1),(5,(I (IntKind.i64.wrap (x5+1))))],[],gh⟩))))))) (some ((.exit 0),⟨[(0,v0),(1,I x1),(5,I x5),(9,(B (decide (x5<(n1:Int)))))],[],gh⟩))))
theorem q3j_ {v0:PV} {x1 x5:Int} (h:q3j pg v0 x1 x5 gh=some (e,s)):runL pg q9j ⟨[(0,v0),(1,I x1),(5,I x5)],[],gh⟩=some (e,s):=
 jqr q7p (Eq.trans (by kernel_rfl) h)
def qqd (pg:Prg) (gh:List GObj):DR:=some (.ret,⟨[(4,B false)],[],gh⟩)
theorem qqd_ (h:qqd pg gh=some (e,s)):runL pg q4y ⟨[],[],gh⟩=some (e,s):=
 jqr q7p (Eq.trans (by kernel_rfl) h)
def q7q (pg:Prg) (v0:PV) (x1:Int) (gh:List GObj):DR:=stK 0 v0 (stK 0 v0 (
  kR (runL pg q4x ⟨[(0,v0),(1,I x1),(5,I 0)],[],gh⟩) (fun e s=>nx e s (fun e s=>some (e,s)) fun s=>kR (runL pg q4y s) (fun e s=>some (e,s)))))
theorem q7q_ {v0:PV} {x1:Int} (h:q7q pg v0 x1 gh=some (e,s)):runL pg q9k ⟨[(0,v0),(1,I x1)],[],gh⟩=some (e,s):=
 jqr q7p (Eq.trans (by kernel_rfl) h)
end
end Go.Lw
end

/-! What the code of function ref_Num comes to, piece by piece. Written by program (dprint.py). -/
section
set_option maxRecDepth 10000
set_option maxHeartbeats 4000000
namespace Go.Lw
open Go
noncomputable section
variable {pg:Prg} {gh:List GObj} {e:IExit} {s:St}
def qqe:Tr:=(tI 9 (tI 5 (tI 1 (uI 0) (uI 4)) (tI 7 (uI 6) (uI 8))) (tI 13 (tI 11 (uI 10) (uB 12)) (tI 15 (uI 14) .nil)))
def q7r (pg:Prg) (x0 x1:Int) (gh:List GObj):DR:=gd (decide ((2:Int)≠0)) (gd (decide ((2:Int)≠0)) (
  br 12 ((Int.tmod x0 2)==1) (some (.ret,⟨[(4,(I (IntKind.i64.wrap (0-(IntKind.i64.wrap ((IntKind.i64.wrap (Int.tdiv x0 2))+x1))))))],[],gh⟩)) (some (.ret,⟨[(4,(I (IntKind.i64.wrap ((IntKind.i64.wrap (Int.tdiv x0 2))+x1))))],[],gh⟩))))
theorem q7r_ {x0 x1:Int} (h:q7r pg x0 x1 gh=some (e,s)):runL pg q9v ⟨[(0,I x0),(1,I x1)],[],gh⟩=some (e,s):=
 jqr qqe (Eq.trans (by kernel_rfl) h)
end
end Go.Lw
end

/-! What the code of function ref_AndClauses comes to, piece by piece. Written by program (dprint.py). -/
section
set_option maxRecDepth 10000
set_option maxHeartbeats 4000000
namespace Go.Lw
open Go
noncomputable section
variable {pg:Prg} {gh:List GObj} {e:IExit} {s:St}
def q7s:Tr:=(tI 31 (tI 15 (tI 8 (tO 5 (tI 1 (.node 0 (.agg [.int .i64,.any]) .nil .nil) (uO 4)) (tI 7 (uI 6) .nil)) (tO 12 (tI 10 (uI 9) .nil) (tB 14 (uI 13) .nil))) (tI 22 (tI 19 (tI 18 (uI 16) .nil) (tI 21 (uI 20) .nil)) (tI 26 (tO 25 (uI 23) .nil) (tI 30 (uI 29) .nil)))) (tI 46 (tO 40 (tI 37 (tI 34 (uO 33) .nil) (tI 39 (uI 38) .nil)) (tI 43 (tI 42 (uI 41) .nil) (tI 45 (uO 44) .nil))) (tI 52 (tI 49 (tO 48 (uI 47) .nil) (tI 51 (uI 50) .nil)) (tO 55 (tO 54 (uI 53) .nil) (tO 57 (uO 56) .nil)))))
def q3k (pg:Prg) (x1:Int) (v5:PV) (x6 xc0_0:Int) (vc0_1:PV) (gh:List GObj):DR:=isC (degr vc0_1) (lenS (degr (degr vc0_1)) fun n1=>stK 1 v5 (
  br 14 (decide (x6<(n1:Int))) (stK 1 v5 (isC (degr vc0_1) (
  idX 2 none (degr (degr vc0_1)) x6 fun p2=>
  idX 1 (some 2) (degr p2) 0 fun p3=>
  ldX [[I xc0_0,vc0_1]] gh false 1 (degr p3) fun v4=>unI .i64 v4 fun n5=>
  callR gh true (callL pg 92 [I n5,I x1] gh) fun r6 gh7=>unI .i64 r6 fun n8=>isC (degr vc0_1) (
  idX 2 none (degr (degr vc0_1)) x6 fun p9=>
  idX 1 (some 2) (degr p9) 1 fun p10=>
  ldX [[I xc0_0,vc0_1]] gh7 false 1 (degr p10) fun v11=>unI .i64 v11 fun n12=>
  callR gh7 true (callL pg 92 [I n12,I x1] gh7) fun r13 gh14=>unI .i64 r13 fun n15=>stK 1 v5 (
  apX 1 24 v5 (.sl false 1 [(.sl false 1 [(I (IntKind.i64.wrap (0-(IntKind.i64.wrap ((IntKind.i64.wrap ((IntKind.i64.wrap (1+xc0_0))+x6))+x1))))),I n8]),(.sl false 1 [(I (IntKind.i64.wrap (0-(IntKind.i64.wrap ((IntKind.i64.wrap ((IntKind.i64.wrap (1+xc0_0))+x6))+x1))))),I n15]),(.sl false 1 [(I (IntKind.i64.wrap ((IntKind.i64.wrap ((IntKind.i64.wrap (1+xc0_0))+x6))+x1))),(I (IntKind.i64.wrap (0-n8))),(I (IntKind.i64.wrap (0-n15)))])]) fun l16=>some (.normal,⟨[(1,I x1),(2,.ptr false 0 0),(5,.sl true 1 l16),(6,(I (IntKind.i64.wrap (x6+1))))],[[I xc0_0,vc0_1]],gh14⟩)))))) (some ((.exit 0),⟨[(1,I x1),(2,.ptr false 0 0),(5,v5),(6,I x6),(14,(B (decide (x6<(n1:Int)))))],[[I xc0_0,vc0_1]],gh⟩))))
theorem q3k_ {x1:Int} {v5:PV} {x6 xc0_0:Int} {vc0_1:PV} (h:q3k pg x1 v5 x6 xc0_0 vc0_1 gh=some (e,s)):runL pg q9q ⟨[(1,I x1),(2,.ptr false 0 0),(5,v5),(6,I x6)],[[I xc0_0,vc0_1]],gh⟩=some (e,s):=
 jqr q7s (Eq.trans (by kernel_rfl) h)
def qcq (pg:Prg) (v5:PV) (gh:List GObj):DR:=stK 0 v5 (some (.ret,⟨[(4,v5)],[],gh⟩))
theorem qcq_ {v5:PV} (h:qcq pg v5 gh=some (e,s)):runL pg q55 ⟨[(5,v5)],[],gh⟩=some (e,s):=
 jqr q7s (Eq.trans (by kernel_rfl) h)
def qcr (pg:Prg) (x0_0:Int) (v0_1:PV) (x1:Int) (gh:List GObj):DR:=onK (degr1 v0_1) (
  kR (runL pg q54 ⟨[(1,I x1),(2,.ptr false 0 0),(5,.sl true 1 []),(6,I 0)],[[I x0_0,(degr1 v0_1)]],gh⟩) (fun e s=>nx e s (fun e s=>some (e,s)) fun s=>kR (runL pg q55 s) (fun e s=>some (e,s))))
theorem qcr_ {x0_0:Int} {v0_1:PV} {x1:Int} (h:qcr pg x0_0 v0_1 x1 gh=some (e,s)):runL pg q9r ⟨[(0,.agg [I x0_0,v0_1]),(1,I x1)],[],gh⟩=some (e,s):=
 jqr q7s (Eq.trans (by kernel_rfl) h)
end
end Go.Lw
end

/-! What the code of function ref_MustClauses comes to, piece by piece. Written by program (dprint.py). -/
section
set_option maxRecDepth 10000
set_option maxHeartbeats 4000000
namespace Go.Lw
open Go
noncomputable section
variable {pg:Prg} {gh:List GObj} {e:IExit} {s:St}
def qqf:Tr:=(tB 8 (tI 5 (tI 1 (uI 0) (uO 4)) (tI 7 (uB 6) .nil)) (tI 12 (tI 10 (uO 9) (uI 11)) (tO 14 (uO 13) .nil)))
def q3l (pg:Prg) (x0 x1:Int) (gh:List GObj):DR:=
  br 6 (x0==1) (some (.ret,⟨[(4,.sl true 1 [])],[],gh⟩)) (
  br 8 (x0==0) (some (.ret,⟨[(4,.sl true 1 [.sl false 1 []])],[],gh⟩)) (
  callR gh true (callL pg 92 [I x0,I x1] gh) fun r1 gh2=>unI .i64 r1 fun n3=>some (.ret,⟨[(4,.sl true 1 [.sl false 1 [I n3]])],[],gh2⟩)))
theorem q3l_ {x0 x1:Int} (h:q3l pg x0 x1 gh=some (e,s)):runL pg q9s ⟨[(0,I x0),(1,I x1)],[],gh⟩=some (e,s):=
 jqr qqf (Eq.trans (by kernel_rfl) h)
end
end Go.Lw
end

/-! What the code of function ref_CheckClause comes to, piece by piece. Written by program (dprint.py). -/
section
set_option maxRecDepth 10000
set_option maxHeartbeats 4000000
namespace Go.Lw
open Go
noncomputable section
variable {pg:Prg} {gh:List GObj} {e:IExit} {s:St}
def q7t:Tr:=(tB 19 (tO 10 (tO 6 (tI 4 (tO 1 (uI 0) .nil) (uI 5)) (tB 8 (uI 7) (uI 9))) (tI 14 (tB 12 (uI 11) (uI 13)) (tI 16 (uO 15) (uI 18)))) (tB 28 (tI 24 (tO 21 (uB 20) (uI 22)) (tB 26 (uI 25) (uB 27))) (tI 33 (tI 30 (uO 29) (uI 32)) (tB 35 (uI 34) (uB 36)))))
def q15 (pg:Prg) (x0:Int) (v1:PV) (x5:Int) (gh:List GObj):DR:=isC (degr v1) (lenS (degr (degr v1)) fun n1=>stK 0 v1 (
  br 12 (decide (x5<(n1:Int))) (isC (degr v1) (
  idX 1 none (degr (degr v1)) x5 fun p2=>
  ldX [] gh false 1 (degr p2) fun v3=>unI .i64 v3 fun n4=>
  br 20 (n4==0) (stK 0 v1 (some (.ret,⟨[(4,I 5)],[],gh⟩))) (isC (degr v1) (
  idX 1 none (degr (degr v1)) x5 fun p5=>
  ldX [] gh false 1 (degr p5) fun v6=>unI .i64 v6 fun n7=>
  br 28 (decide (x0<n7)) (stK 0 v1 (some (.ret,⟨[(4,I 5)],[],gh⟩))) (isC (degr v1) (
  idX 1 none (degr (degr v1)) x5 fun p8=>
  ldX [] gh false 1 (degr p8) fun v9=>unI .i64 v9 fun n10=>stK 0 v1 (
  br 36 (decide (n10<(IntKind.i64.wrap (0-x0)))) (some (.ret,⟨[(4,I 5)],[],gh⟩)) (stK 0 v1 (stK 0 v1 (some (.normal,⟨[(0,I x0),(1,v1),(5,(I (IntKind.i64.wrap (x5+1))))],[],gh⟩))))))))))) (some ((.exit 0),⟨[(0,I x0),(1,v1),(5,I x5),(12,(B (decide (x5<(n1:Int)))))],[],gh⟩))))
theorem q15_ {x0:Int} {v1:PV} {x5:Int} (h:q15 pg x0 v1 x5 gh=some (e,s)):runL pg qa0 ⟨[(0,I x0),(1,v1),(5,I x5)],[],gh⟩=some (e,s):=
 jqr q7t (Eq.trans (by kernel_rfl) h)
def qqg (pg:Prg) (gh:List GObj):DR:=some (.ret,⟨[(4,I 0)],[],gh⟩)
theorem qqg_ (h:qqg pg gh=some (e,s)):runL pg q5e ⟨[],[],gh⟩=some (e,s):=
 jqr q7t (Eq.trans (by kernel_rfl) h)
def q3m (pg:Prg) (x0:Int) (v1:PV) (gh:List GObj):DR:=stK 0 v1 (isC (degr v1) (lenS (degr (degr v1)) fun n1=>stK 0 v1 (
  br 8 (decide (200<(n1:Int))) (some (.ret,⟨[(4,I 2)],[],gh⟩)) (stK 0 v1 (
  kR (runL pg q5d ⟨[(0,I x0),(1,v1),(5,I 0)],[],gh⟩) (fun e s=>nx e s (fun e s=>some (e,s)) fun s=>kR (runL pg q5e s) (fun e s=>some (e,s))))))))
theorem q3m_ {x0:Int} {v1:PV} (h:q3m pg x0 v1 gh=some (e,s)):runL pg qa1 ⟨[(0,I x0),(1,v1)],[],gh⟩=some (e,s):=
 jqr q7t (Eq.trans (by kernel_rfl) h)
end
end Go.Lw
end

/-! What the code of function ref_CheckClauses comes to, piece by piece. Written by program (dprint.py). -/
section
set_option maxRecDepth 10000
set_option maxHeartbeats 4000000
namespace Go.Lw
open Go
noncomputable section
variable {pg:Prg} {gh:List GObj} {e:IExit} {s:St}
def q7u:Tr:=(tI 16 (tB 8 (tI 4 (tI 2 (.node 0 (.agg [.int .i64,.any]) .nil .nil) (uI 3)) (tB 7 (uI 6) .nil)) (tB 12 (tI 11 (uO 10) .nil) (tO 15 (uI 13) .nil))) (tI 24 (tI 19 (tI 18 (uB 17) .nil) (tO 23 (uI 21) .nil)) (tI 28 (tI 27 (uO 26) .nil) (tI 30 (uB 29) .nil))))
def q3n (pg:Prg) (x3 xc0_0:Int) (vc0_1:PV) (gh:List GObj):DR:=isC (degr vc0_1) (lenS (degr (degr vc0_1)) fun n1=>
  br 17 (decide (x3<(n1:Int))) (isC (degr vc0_1) (
  idX 1 none (degr (degr vc0_1)) x3 fun p2=>
  ldX [[I xc0_0,vc0_1]] gh false 1 (degr p2) fun v3=>isC v3 (arK (degr v3) (
  callR gh true (callL pg 112 [I xc0_0,(degr v3)] gh) fun r4 gh5=>unI .i64 r4 fun n6=>
  br 29 (n6 !=0) (some (.ret,⟨[(2,I n6)],[],gh5⟩)) (some (.normal,⟨[(1,.ptr false 0 0),(3,(I (IntKind.i64.wrap (x3+1))))],[[I xc0_0,vc0_1]],gh5⟩)))))) (some ((.exit 0),⟨[(1,.ptr false 0 0),(3,I x3),(17,(B (decide (x3<(n1:Int)))))],[[I xc0_0,vc0_1]],gh⟩)))
theorem q3n_ {x3 xc0_0:Int} {vc0_1:PV} (h:q3n pg x3 xc0_0 vc0_1 gh=some (e,s)):runL pg q9w ⟨[(1,.ptr false 0 0),(3,I x3)],[[I xc0_0,vc0_1]],gh⟩=some (e,s):=
 jqr q7u (Eq.trans (by kernel_rfl) h)
def qqh (pg:Prg) (gh:List GObj):DR:=some (.ret,⟨[(2,I 0)],[],gh⟩)
theorem qqh_ (h:qqh pg gh=some (e,s)):runL pg q59 ⟨[],[],gh⟩=some (e,s):=
 jqr q7u (Eq.trans (by kernel_rfl) h)
def q24 (pg:Prg) (x0_0:Int) (v0_1:PV) (gh:List GObj):DR:=onK (degr1 v0_1) (
  callR gh true (callL pg 50 [I x0_0,I 0,I 200000] gh) fun r1 gh2=>unB r1 fun b3=>
  br 8 (!b3) (some (.ret,⟨[(2,I 3)],[],gh2⟩)) (isC (degr (degr1 v0_1)) (lenS (degr (degr (degr1 v0_1))) fun n4=>
  br 12 (decide (800000<(n4:Int))) (some (.ret,⟨[(2,I 2)],[],gh2⟩)) (
  kR (runL pg q58 ⟨[(1,.ptr false 0 0),(3,I 0)],[[I x0_0,(degr1 v0_1)]],gh2⟩) (fun e s=>nx e s (fun e s=>some (e,s)) fun s=>kR (runL pg q59 s) (fun e s=>some (e,s)))))))
theorem q24_ {x0_0:Int} {v0_1:PV} (h:q24 pg x0_0 v0_1 gh=some (e,s)):runL pg q9x ⟨[(0,.agg [I x0_0,v0_1])],[],gh⟩=some (e,s):=
 jqr q7u (Eq.trans (by kernel_rfl) h)
end
end Go.Lw
end

/-! What the code of function ref_DoneClauses comes to, piece by piece. Written by program (dprint.py). -/
section
set_option maxRecDepth 10000
set_option maxHeartbeats 4000000
namespace Go.Lw
open Go
noncomputable section
variable {pg:Prg} {gh:List GObj} {e:IExit} {s:St}
def qqi:Tr:=(tI 7 (tI 4 (tI 3 (.node 0 (.agg [.int .i64,.any]) .nil .nil) .nil) (tI 6 (.node 5 (.agg [.int .i64,.any]) .nil .nil) .nil)) (tI 10 (.node 9 (.agg [.int .i64,.any]) (uB 8) .nil) (.node 11 (.agg [.int .i64,.any]) .nil .nil)))
def q7v (pg:Prg) (x0_0:Int) (v0_1:PV) (gh:List GObj):DR:=onK (degr1 v0_1) (onK (degr1 (degr1 (degr1 v0_1))) (
  callR gh true (callL pg 93 [(.agg [I x0_0,(degr1 (degr1 (degr1 v0_1)))])] gh) fun r1 gh2=>unI .i64 r1 fun n3=>
  br 8 (n3 !=0) (some (.ret,⟨[(2,.ptr false 1 0),(3,I n3)],[[I x0_0,(degr1 v0_1)],[I 0,.sl true 1 []]],gh2⟩)) (onK (degr1 (degr1 v0_1)) (some (.ret,⟨[(2,.ptr false 1 0),(3,I 0)],[[I x0_0,(degr1 v0_1)],[I x0_0,(degr1 (degr1 v0_1))]],gh2⟩)))))
theorem q7v_ {x0_0:Int} {v0_1:PV} (h:q7v pg x0_0 v0_1 gh=some (e,s)):runL pg q9t ⟨[(0,.agg [I x0_0,v0_1])],[],gh⟩=some (e,s):=
 jqr qqi (Eq.trans (by kernel_rfl) h)
end
end Go.Lw
end

/-! What the code of function ref_SameInts comes to, piece by piece. Written by program (dprint.py). -/
section
set_option maxRecDepth 10000
set_option maxHeartbeats 4000000
namespace Go.Lw
open Go
noncomputable section
variable {pg:Prg} {gh:List GObj} {e:IExit} {s:St}
def q7w:Tr:=(tI 13 (tI 7 (tB 4 (tO 1 (uO 0) .nil) (tO 6 (uI 5) .nil)) (tB 10 (tI 9 (uO 8) .nil) (tO 12 (uI 11) .nil))) (tI 20 (tI 16 (tI 15 (uB 14) .nil) (tI 18 (uO 17) .nil)) (tI 24 (tI 22 (uO 21) .nil) (uB 25))))
def q7x (pg:Prg) (v0 v1:PV) (x5:Int) (gh:List GObj):DR:=isC (degr v0) (lenS (degr (degr v0)) fun n1=>stK 0 v0 (stK 0 v1 (
  br 14 (decide (x5<(n1:Int))) (isC (degr v0) (
  idX 1 none (degr (degr v0)) x5 fun p2=>
  ldX [] gh false 1 (degr p2) fun v3=>unI .i64 v3 fun n4=>isC (degr v1) (
  idX 1 none (degr (degr v1)) x5 fun p5=>
  ldX [] gh false 1 (degr p5) fun v6=>unI .i64 v6 fun n7=>stK 0 v0 (stK 0 v1 (
  br 25 (n4 !=n7) (some (.ret,⟨[(4,B false)],[],gh⟩)) (stK 0 v0 (stK 0 v1 (stK 0 v0 (stK 0 v1 (some (.normal,⟨[(0,v0),(1,v1),(5,(I (IntKind.i64.wrap (x5+1))))],[],gh⟩))))))))))) (some ((.exit 0),⟨[(0,v0),(1,v1),(5,I x5),(14,(B (decide (x5<(n1:Int)))))],[],gh⟩)))))
theorem q7x_ {v0 v1:PV} {x5:Int} (h:q7x pg v0 v1 x5 gh=some (e,s)):runL pg q9l ⟨[(0,v0),(1,v1),(5,I x5)],[],gh⟩=some (e,s):=
 jqr q7w (Eq.trans (by kernel_rfl) h)
def qqj (pg:Prg) (gh:List GObj):DR:=some (.ret,⟨[(4,B true)],[],gh⟩)
theorem qqj_ (h:qqj pg gh=some (e,s)):runL pg q50 ⟨[],[],gh⟩=some (e,s):=
 jqr q7w (Eq.trans (by kernel_rfl) h)
def qcs (pg:Prg) (v0 v1:PV) (gh:List GObj):DR:=stK 0 v0 (stK 0 v1 (isC (degr v0) (lenS (degr (degr v0)) fun n1=>isC (degr v1) (lenS (degr (degr v1)) fun n2=>stK 0 v0 (stK 0 v1 (
  br 10 ((n1:Int) !=(n2:Int)) (some (.ret,⟨[(4,B false)],[],gh⟩)) (stK 0 v0 (stK 0 v1 (
  kR (runL pg q4z ⟨[(0,v0),(1,v1),(5,I 0)],[],gh⟩) (fun e s=>nx e s (fun e s=>some (e,s)) fun s=>kR (runL pg q50 s) (fun e s=>some (e,s))))))))))))
theorem qcs_ {v0 v1:PV} (h:qcs pg v0 v1 gh=some (e,s)):runL pg q9m ⟨[(0,v0),(1,v1)],[],gh⟩=some (e,s):=
 jqr q7w (Eq.trans (by kernel_rfl) h)
end
end Go.Lw
end

/-! What the code of function ref_SameLists comes to, piece by piece. Written by program (dprint.py). -/
section
set_option maxRecDepth 10000
set_option maxHeartbeats 4000000
namespace Go.Lw
open Go
noncomputable section
variable {pg:Prg} {gh:List GObj} {e:IExit} {s:St}
def q7y:Tr:=(tI 13 (tI 7 (tB 4 (tO 1 (uO 0) .nil) (tO 6 (uI 5) .nil)) (tB 10 (tI 9 (uO 8) .nil) (tO 12 (uI 11) .nil))) (tO 20 (tI 16 (tI 15 (uB 14) .nil) (tI 18 (uO 17) .nil)) (tO 24 (tI 22 (uO 21) .nil) (tB 26 (uB 25) .nil))))
def q7z (pg:Prg) (v0 v1:PV) (x5:Int) (gh:List GObj):DR:=isC (degr v0) (lenS (degr (degr v0)) fun n1=>stK 0 v0 (stK 0 v1 (
  br 14 (decide (x5<(n1:Int))) (isC (degr v0) (
  idX 1 none (degr (degr v0)) x5 fun p2=>
  ldX [] gh false 1 (degr p2) fun v3=>isC v3 (isC (degr v1) (
  idX 1 none (degr (degr v1)) x5 fun p4=>
  ldX [] gh false 1 (degr p4) fun v5=>isC v5 (arK (degr v3) (arK (degr v5) (
  callR gh true (callL pg 46 [(degr v3),(degr v5)] gh) fun r6 gh7=>unB r6 fun b8=>stK 0 v0 (stK 0 v1 (
  br 26 (!b8) (some (.ret,⟨[(4,B false)],[],gh7⟩)) (stK 0 v0 (stK 0 v1 (stK 0 v0 (stK 0 v1 (some (.normal,⟨[(0,v0),(1,v1),(5,(I (IntKind.i64.wrap (x5+1))))],[],gh7⟩))))))))))))))) (some ((.exit 0),⟨[(0,v0),(1,v1),(5,I x5),(14,(B (decide (x5<(n1:Int)))))],[],gh⟩)))))
theorem q7z_ {v0 v1:PV} {x5:Int} (h:q7z pg v0 v1 x5 gh=some (e,s)):runL pg q9y ⟨[(0,v0),(1,v1),(5,I x5)],[],gh⟩=some (e,s):=
 jqr q7y (Eq.trans (by kernel_rfl) h)
def qqk (pg:Prg) (gh:List GObj):DR:=some (.ret,⟨[(4,B true)],[],gh⟩)
theorem qqk_ (h:qqk pg gh=some (e,s)):runL pg q5b ⟨[],[],gh⟩=some (e,s):=
 jqr q7y (Eq.trans (by kernel_rfl) h)
def qct (pg:Prg) (v0 v1:PV) (gh:List GObj):DR:=stK 0 v0 (stK 0 v1 (isC (degr v0) (lenS (degr (degr v0)) fun n1=>isC (degr v1) (lenS (degr (degr v1)) fun n2=>stK 0 v0 (stK 0 v1 (
  br 10 ((n1:Int) !=(n2:Int)) (some (.ret,⟨[(4,B false)],[],gh⟩)) (stK 0 v0 (stK 0 v1 (
  kR (runL pg q5a ⟨[(0,v0),(1,v1),(5,I 0)],[],gh⟩) (fun e s=>nx e s (fun e s=>some (e,s)) fun s=>kR (runL pg q5b s) (fun e s=>some (e,s))))))))))))
theorem qct_ {v0 v1:PV} (h:qct pg v0 v1 gh=some (e,s)):runL pg q9z ⟨[(0,v0),(1,v1)],[],gh⟩=some (e,s):=
 jqr q7y (Eq.trans (by kernel_rfl) h)
end
end Go.Lw
end

/-! What the code of function ref_SameClauses comes to, piece by piece. Written by program (dprint.py). -/
section
set_option maxRecDepth 10000
set_option maxHeartbeats 4000000
namespace Go.Lw
open Go
noncomputable section
variable {pg:Prg} {gh:List GObj} {e:IExit} {s:St}
def qql:Tr:=(tB 9 (tB 4 (.node 1 (.agg [.int .i64,.any]) (.node 0 (.agg [.int .i64,.any]) .nil .nil) .nil) (tI 8 (uI 6) .nil)) (tO 14 (tO 12 (uB 10) .nil) (tB 16 (uB 15) .nil)))
def qcu (pg:Prg) (x0_0:Int) (v0_1:PV) (x1_0:Int) (v1_1:PV) (gh:List GObj):DR:=onK (degr1 v0_1) (onK (degr1 v1_1) (
  br 10 (x0_0==x1_0) (isC (degr (degr1 v0_1)) (isC (degr (degr1 v1_1)) (arK (degr (degr (degr1 v0_1))) (arK (degr (degr (degr1 v1_1))) (
  callR gh true (callL pg 95 [(degr (degr (degr1 v0_1))),(degr (degr (degr1 v1_1)))] gh) fun r1 gh2=>unB r1 fun b3=>some (.ret,⟨[(4,B b3)],[],gh2⟩)))))) (some (.ret,⟨[(4,B false)],[],gh⟩))))
theorem qcu_ {x0_0:Int} {v0_1:PV} {x1_0:Int} {v1_1:PV} (h:qcu pg x0_0 v0_1 x1_0 v1_1 gh=some (e,s)):runL pg q9u ⟨[(0,.agg [I x0_0,v0_1]),(1,.agg [I x1_0,v1_1])],[],gh⟩=some (e,s):=
 jqr qql (Eq.trans (by kernel_rfl) h)
end
end Go.Lw
end

/-! What the code of function law_clausesAre comes to, piece by piece. Written by program (dprint.py). -/
section
set_option maxRecDepth 10000
set_option maxHeartbeats 4000000
namespace Go.Lw
open Go
noncomputable section
variable {pg:Prg} {gh:List GObj} {e:IExit} {s:St}
def qcv:Tr:=(tI 12 (tB 8 (tI 2 (tI 1 (.node 0 (.agg [.int .i64,.any]) .nil .nil) .nil) (.node 3 (.agg [.int .i64,.any]) .nil .nil)) (tB 10 (uI 9) (.node 11 (.agg [.int .i64,.any]) .nil .nil))) (.node 16 (.agg [.int .i64,.any]) (tB 14 (uI 13) (uB 15)) (tB 18 (.node 17 (.agg [.int .i64,.any]) .nil .nil) (uB 19))))
def q80 (pg:Prg) (x1 x2 xc0_0:Int) (vc0_1:PV) (xc1_0:Int) (vc1_1:PV) (gh:List GObj):DR:=
  br 15 (x1==x2) (onK (degr1 (degr1 vc0_1)) (onK (degr1 (degr1 vc1_1)) (
  callR gh true (callL pg 60 [(.agg [I xc0_0,(degr1 (degr1 vc0_1))]),(.agg [I xc1_0,(degr1 (degr1 vc1_1))])] gh) fun r1 gh2=>unB r1 fun b3=>some (.ret,⟨[(8,B b3)],[],gh2⟩)))) (some (.ret,⟨[(8,B false)],[],gh⟩))
theorem q80_ {x1 x2 xc0_0:Int} {vc0_1:PV} {xc1_0:Int} {vc1_1:PV} (h:q80 pg x1 x2 xc0_0 vc0_1 xc1_0 vc1_1 gh=some (e,s)):runL pg q2a ⟨[(1,I x1),(2,I x2),(4,.ptr false 0 0),(7,.ptr false 1 0)],[[I xc0_0,vc0_1],[I xc1_0,vc1_1]],gh⟩=some (e,s):=
 jqr qcv (Eq.trans (by kernel_rfl) h)
def q81 (pg:Prg) (x0_0:Int) (v0_1:PV) (x1 x2 x3_0:Int) (v3_1:PV) (gh:List GObj):DR:=onK (degr1 v0_1) (onK (degr1 v3_1) (
  br 10 (x2 !=0) (
  kR (runL pg q2a ⟨[(1,I x1),(2,I x2),(4,.ptr false 0 0),(7,.ptr false 1 0)],[[I x0_0,(degr1 v0_1)],[I 0,.sl true 1 []]],gh⟩) (fun e s=>some (e,s))) (
  kR (runL pg q2a ⟨[(1,I x1),(2,I x2),(4,.ptr false 0 0),(7,.ptr false 1 0)],[[I x0_0,(degr1 v0_1)],[I x3_0,(degr1 v3_1)]],gh⟩) (fun e s=>some (e,s)))))
theorem q81_ {x0_0:Int} {v0_1:PV} {x1 x2 x3_0:Int} {v3_1:PV} (h:q81 pg x0_0 v0_1 x1 x2 x3_0 v3_1 gh=some (e,s)):runL pg q8s ⟨[(0,.agg [I x0_0,v0_1]),(1,I x1),(2,I x2),(3,.agg [I x3_0,v3_1])],[],gh⟩=some (e,s):=
 jqr qcv (Eq.trans (by kernel_rfl) h)
end
end Go.Lw
end

/-! What the code of function ref_CheckSteps comes to, piece by piece. Written by program (dprint.py). -/
section
set_option maxRecDepth 10000
set_option maxHeartbeats 4000000
namespace Go.Lw
open Go
noncomputable section
variable {pg:Prg} {gh:List GObj} {e:IExit} {s:St}
def q25:Tr:=(tO 20 (tI 11 (tI 7 (tB 2 (tI 1 (.node 0 (.agg [.int .i64,.any,.int .i64,.int .i64,.any,.any,.any,.any]) .nil .nil) .nil) (uI 6)) (.node 9 (.agg [.int .i64,.any,.int .i64,.int .i64,.any,.any,.any,.any]) (uI 8) (uI 10))) (tB 15 (tB 13 (uB 12) (uI 14)) (tB 17 (uB 16) (uI 18)))) (tB 29 (tB 25 (tB 23 (tB 22 (uI 21) .nil) (uI 24)) (tI 27 (uB 26) (uI 28))) (tI 35 (tO 32 (uB 30) (uI 33)) (tB 37 (uB 36) (uI 38)))))
def qcw (pg:Prg) (b2:Bool) (x7 x8 xc0_0:Int) (vc0_1:PV) (xc0_2 xc0_3:Int) (vc0_4 vc0_5:PV) (vc0_6 vc0_7:PV) (gh:List GObj):DR:=some (.normal,⟨[(2,B b2),(3,.ptr false 0 0),(7,I x7),(8,(I (IntKind.i64.wrap (x8+1))))],[[I xc0_0,vc0_1,I xc0_2,I xc0_3,vc0_4,vc0_5,vc0_6,vc0_7]],gh⟩)
theorem qcw_ {b2:Bool} {x7 x8 xc0_0:Int} {vc0_1:PV} {xc0_2 xc0_3:Int} {vc0_4 vc0_5:PV} {vc0_6 vc0_7:PV} (h:qcw pg b2 x7 x8 xc0_0 vc0_1 xc0_2 xc0_3 vc0_4 vc0_5 vc0_6 vc0_7 gh=some (e,s)):runL pg qx ⟨[(2,B b2),(3,.ptr false 0 0),(7,I x7),(8,I x8)],[[I xc0_0,vc0_1,I xc0_2,I xc0_3,vc0_4,vc0_5,vc0_6,vc0_7]],gh⟩=some (e,s):=
 jqr q25 (Eq.trans (by kernel_rfl) h)
def qg (pg:Prg) (b2:Bool) (x7 x8 xc0_0:Int) (vc0_1:PV) (xc0_2 xc0_3:Int) (vc0_4 vc0_5:PV) (vc0_6 vc0_7:PV) (gh:List GObj):DR:=isC (degr vc0_4) (lenS (degr (degr vc0_4)) fun n1=>
  br 23 (decide (x8<(n1:Int))) (
  br 26 (x7==0) (
  br 30 b2 (isC (degr vc0_4) (
  idX 1 none (degr (degr vc0_4)) x8 fun p2=>
  ldX [[I xc0_0,vc0_1,I xc0_2,I xc0_3,vc0_4,vc0_5,vc0_6,vc0_7]] gh false 1 (degr p2) fun v3=>unI .i64 v3 fun n4=>
  br 37 (decide (1<n4)) (
  kR (runL pg qx ⟨[(2,B b2),(3,.ptr false 0 0),(7,I 7),(8,I x8)],[[I xc0_0,vc0_1,I xc0_2,I xc0_3,vc0_4,vc0_5,vc0_6,vc0_7]],gh⟩) (fun e s=>po [2,3,7,8] 1 e s (fun e s=>some (e,s)))) (
  kR (runL pg qx ⟨[(2,B b2),(3,.ptr false 0 0),(7,I x7),(8,I x8)],[[I xc0_0,vc0_1,I xc0_2,I xc0_3,vc0_4,vc0_5,vc0_6,vc0_7]],gh⟩) (fun e s=>po [2,3,7,8] 1 e s (fun e s=>some (e,s)))))) (
  kR (runL pg qx ⟨[(2,B b2),(3,.ptr false 0 0),(7,I x7),(8,I x8)],[[I xc0_0,vc0_1,I xc0_2,I xc0_3,vc0_4,vc0_5,vc0_6,vc0_7]],gh⟩) (fun e s=>po [2,3,7,8] 1 e s (fun e s=>some (e,s))))) (some ((.exit 0),⟨[(2,B b2),(3,.ptr false 0 0),(7,I x7),(8,I x8),(26,(B (x7==0)))],[[I xc0_0,vc0_1,I xc0_2,I xc0_3,vc0_4,vc0_5,vc0_6,vc0_7]],gh⟩))) (some ((.exit 0),⟨[(2,B b2),(3,.ptr false 0 0),(7,I x7),(8,I x8),(26,B false)],[[I xc0_0,vc0_1,I xc0_2,I xc0_3,vc0_4,vc0_5,vc0_6,vc0_7]],gh⟩)))
theorem qg_ {b2:Bool} {x7 x8 xc0_0:Int} {vc0_1:PV} {xc0_2 xc0_3:Int} {vc0_4 vc0_5:PV} {vc0_6 vc0_7:PV} (h:qg pg b2 x7 x8 xc0_0 vc0_1 xc0_2 xc0_3 vc0_4 vc0_5 vc0_6 vc0_7 gh=some (e,s)):runL pg qa3 ⟨[(2,B b2),(3,.ptr false 0 0),(7,I x7),(8,I x8)],[[I xc0_0,vc0_1,I xc0_2,I xc0_3,vc0_4,vc0_5,vc0_6,vc0_7]],gh⟩=some (e,s):=
 jqr q25 (Eq.trans (by kernel_rfl) h)
def qqm (pg:Prg) (x7:Int) (gh:List GObj):DR:=some (.ret,⟨[(6,I x7)],[],gh⟩)
theorem qqm_ {x7:Int} (h:qqm pg x7 gh=some (e,s)):runL pg q2i ⟨[(7,I x7)],[],gh⟩=some (e,s):=
 jqr q25 (Eq.trans (by kernel_rfl) h)
def qcx (pg:Prg) (b2:Bool) (x7 xc0_0:Int) (vc0_1:PV) (xc0_2 xc0_3:Int) (vc0_4 vc0_5:PV) (vc0_6 vc0_7:PV) (gh:List GObj):DR:=
  kR (runL pg q1k ⟨[(2,B b2),(3,.ptr false 0 0),(7,I x7),(8,I 0)],[[I xc0_0,vc0_1,I xc0_2,I xc0_3,vc0_4,vc0_5,vc0_6,vc0_7]],gh⟩) (fun e s=>nx e s (fun e s=>some (e,s)) fun s=>kR (runL pg q2i s) (fun e s=>some (e,s)))
theorem qcx_ {b2:Bool} {x7 xc0_0:Int} {vc0_1:PV} {xc0_2 xc0_3:Int} {vc0_4 vc0_5:PV} {vc0_6 vc0_7:PV} (h:qcx pg b2 x7 xc0_0 vc0_1 xc0_2 xc0_3 vc0_4 vc0_5 vc0_6 vc0_7 gh=some (e,s)):runL pg qy ⟨[(2,B b2),(3,.ptr false 0 0),(7,I x7)],[[I xc0_0,vc0_1,I xc0_2,I xc0_3,vc0_4,vc0_5,vc0_6,vc0_7]],gh⟩=some (e,s):=
 jqr q25 (Eq.trans (by kernel_rfl) h)
def q26 (pg:Prg) (x0_0:Int) (v0_1:PV) (x0_2 x0_3:Int) (v0_4 v0_5:PV) (v0_6 v0_7:PV) (x1:Int) (b2:Bool) (gh:List GObj):DR:=onK (degr1 v0_1) (onK (degr1 v0_4) (onK (degr1 v0_5) (onK (degr1 v0_6) (onK (degr1 v0_7) (onK (degr1 (degr1 (degr1 v0_1))) (onK (degr1 (degr1 (degr1 v0_4))) (onK (degr1 (degr1 (degr1 v0_5))) (onK (degr1 (degr1 (degr1 v0_6))) (onK (degr1 (degr1 (degr1 v0_7))) (
  callR gh true (callL pg 213 [(.agg [I x0_0,(degr1 (degr1 (degr1 v0_1))),I x0_2,I x0_3,(degr1 (degr1 (degr1 v0_4))),(degr1 (degr1 (degr1 v0_5))),(degr1 (degr1 (degr1 v0_6))),(degr1 (degr1 (degr1 v0_7)))])] gh) fun r1 gh2=>unI .i64 r1 fun n3=>
  br 13 (n3==0) (
  callR gh2 true (callL pg 50 [I x1,I 0,I 40] gh2) fun r4 gh5=>unB r4 fun b6=>
  br 17 (!b6) (
  kR (runL pg qy ⟨[(2,B b2),(3,.ptr false 0 0),(7,I 3)],[[I x0_0,(degr1 v0_1),I x0_2,I x0_3,(degr1 v0_4),(degr1 v0_5),(degr1 v0_6),(degr1 v0_7)]],gh5⟩) (fun e s=>some (e,s))) (
  kR (runL pg qy ⟨[(2,B b2),(3,.ptr false 0 0),(7,I n3)],[[I x0_0,(degr1 v0_1),I x0_2,I x0_3,(degr1 v0_4),(degr1 v0_5),(degr1 v0_6),(degr1 v0_7)]],gh5⟩) (fun e s=>some (e,s)))) (
  kR (runL pg qy ⟨[(2,B b2),(3,.ptr false 0 0),(7,I n3)],[[I x0_0,(degr1 v0_1),I x0_2,I x0_3,(degr1 v0_4),(degr1 v0_5),(degr1 v0_6),(degr1 v0_7)]],gh2⟩) (fun e s=>some (e,s)))))))))))))
theorem q26_ {x0_0:Int} {v0_1:PV} {x0_2 x0_3:Int} {v0_4 v0_5:PV} {v0_6 v0_7:PV} {x1:Int} {b2:Bool} (h:q26 pg x0_0 v0_1 x0_2 x0_3 v0_4 v0_5 v0_6 v0_7 x1 b2 gh=some (e,s)):runL pg q5i ⟨[(0,.agg [I x0_0,v0_1,I x0_2,I x0_3,v0_4,v0_5,v0_6,v0_7]),(1,I x1),(2,B b2)],[],gh⟩=some (e,s):=
 jqr q25 (Eq.trans (by kernel_rfl) h)
end
end Go.Lw
end

/-! What the code of function ref_StepClauses comes to, piece by piece. Written by program (dprint.py). -/
section
set_option maxRecDepth 10000
set_option maxHeartbeats 4000000
namespace Go.Lw
open Go
noncomputable section
variable {pg:Prg} {gh:List GObj} {e:IExit} {s:St}
def q8:Tr:=(tB 157 (tI 81 (.node 40 (.agg [.int .i64,.any]) (tO 20 (tO 12 (tG 4 (tB 2 (tI 1 (.node 0 (.agg [.int .i64,.any,.int .i64,.int .i64,.any,.any,.any,.any]) .nil .nil) .nil) (uB 3)) (tG 10 (uG 9) (uO 11))) (tI 16 (tI 14 (uI 13) (uI 15)) (tI 18 (uI 17) (uI 19)))) (tI 30 (tI 24 (tI 22 (uI 21) (uI 23)) (tO 26 (uI 25) (uI 27))) (tI 36 (tI 34 (uO 33) (uI 35)) (tI 38 (uI 37) (uI 39))))) (tB 60 (.node 51 (.agg [.int .i64,.any]) (tB 45 (tI 43 (tO 42 (uO 41) .nil) (uI 44)) (tI 47 (uI 46) (uO 49))) (tO 55 (tI 53 (uI 52) (uI 54)) (tI 58 (uO 56) (uI 59)))) (tO 70 (tI 65 (tI 62 (uI 61) (uI 63)) (tI 67 (uB 66) (uI 68))) (tI 76 (tI 73 (uI 71) (uO 75)) (tI 79 (uI 78) (uI 80)))))) (tI 117 (tI 99 (tI 90 (tI 86 (tO 84 (tI 83 (uI 82) .nil) (uO 85)) (tI 88 (uI 87) (uI 89))) (tI 95 (tO 93 (uO 91) (uO 94)) (tI 97 (uI 96) (uI 98)))) (tI 108 (tO 104 (tB 102 (uO 100) (uB 103)) (tI 106 (uO 105) (uI 107))) (tB 113 (tO 110 (uI 109) (uB 112)) (tO 115 (uO 114) (uI 116))))) (tO 137 (tB 127 (tI 123 (tO 119 (uI 118) (uI 121)) (tB 125 (uB 124) (uB 126))) (tI 132 (tI 129 (uI 128) (uO 131)) (tB 135 (uI 134) (uO 136)))) (tB 148 (tO 141 (tI 139 (uI 138) (uI 140)) (tI 145 (uO 144) (uI 147))) (tI 152 (tO 150 (uO 149) (uI 151)) (tI 155 (uO 153) (uI 156))))))) (tI 241 (tI 200 (tO 178 (tO 168 (tI 163 (tI 160 (tI 159 (uI 158) .nil) (uO 162)) (tI 165 (uB 164) (uI 166))) (tI 174 (tI 171 (uO 170) (uI 173)) (tI 176 (uI 175) (uO 177)))) (tI 189 (tI 184 (tB 182 (uO 181) (uB 183)) (tI 187 (uO 186) (uB 188))) (tI 195 (tO 192 (uI 190) (uI 193)) (tO 197 (uB 196) (uO 199))))) (tB 220 (tO 211 (tI 206 (tI 204 (tI 203 (uI 202) .nil) (uI 205)) (tO 208 (uO 207) (uO 210))) (tB 216 (tO 213 (uO 212) (uB 215)) (tI 218 (.node 217 (.agg [.int .i64,.any]) .nil .nil) (uI 219)))) (tI 229 (tO 225 (tI 222 (uI 221) (uI 223)) (tB 227 (uI 226) (uI 228))) (tO 235 (tI 232 (uO 231) (uI 234)) (tI 238 (uO 237) (uI 240)))))) (tO 280 (tI 260 (tB 251 (tO 246 (tI 244 (tI 243 (uI 242) .nil) (uI 245)) (tB 249 (uB 248) (uB 250))) (tB 256 (tI 254 (uO 252) (uI 255)) (tI 258 (uI 257) (uI 259)))) (tB 269 (tI 264 (tI 262 (uI 261) (uB 263)) (tI 266 (uI 265) (uI 268))) (tI 274 (tI 271 (uI 270) (uI 273)) (tI 278 (uO 276) (uI 279))))) (tI 298 (tO 288 (tO 284 (tI 282 (uI 281) (uI 283)) (tI 286 (uI 285) (uI 287))) (tO 294 (tI 292 (uO 290) (uI 293)) (tI 296 (uI 295) (uI 297)))) (tI 308 (tI 302 (tI 300 (uO 299) (uI 301)) (tO 304 (uI 303) (uO 306))) (tO 313 (tO 310 (uO 309) (uO 312)) (tO 315 (uO 314) (.node 317 (.agg [.int .i64,.any]) .nil .nil))))))))
def q82 (pg:Prg) (x1:Int) (b2 b3:Bool) (g4 o4:Nat) (g9 o9:Nat) (g10 o10:Nat) (v11 v12:PV) (x13 xc0_0:Int) (vc0_1:PV) (gh:List GObj):DR:=stK 1 v11 (stK 1 v12 (
  br 45 (decide (x13≤x1)) (
  ltbX gh (.ptr true g10 (o10+1)) (.ptr true g10 o10) 1 fun v1 gh2=>
  ob (ghCells gh2 g4) fun cs3=>
  ob (grab true 2 (o4+0) cs3) fun v4=>unA 2 (degr v4) fun c5 c6=>unI .i64 c5 fun n7=>
  ob (ghCells gh2 g9) fun cs8=>
  ob (grab false 1 o9 cs8) fun v9=>unI .i64 (degr v9) fun n10=>onK (degr1 c6) (
  callR gh2 false (callL pg 56 [(.agg [I n7,(degr1 c6)]),(I (IntKind.i64.wrap (x13*n10)))] gh2) fun r11 gh12=>rtK (callL pg 56 [(.agg [I n7,(degr1 c6)]),(I (IntKind.i64.wrap (x13*n10)))]) gh2 (.ptr true g10 o10) 1 (isC r11 (
  apX 1 24 v1 (degr r11) fun l13=>
  ob (ghCells gh12 g10) fun cs14=>gb (stOk 1 (o10+1) [.sl true 1 l13] cs14) (stK 1 v11 (stK 1 v12 (stK 1 v11 (stK 1 v12 (stK 1 v11 (stK 1 v12 (some (.normal,⟨[(1,I x1),(2,B b2),(3,B b3),(4,.ptr true g4 o4),(8,.ptr false 0 0),(9,.ptr true g9 o9),(10,.ptr true g10 o10),(11,v11),(12,v12),(13,(I (IntKind.i64.wrap (x13+1))))],[[I xc0_0,vc0_1]],(List.set gh12 g10 (.cells (spliceAt cs14 (o10+1) [.sl true 1 l13])))⟩)))))))))))) (some ((.exit 0),⟨[(1,I x1),(2,B b2),(3,B b3),(4,.ptr true g4 o4),(8,.ptr false 0 0),(9,.ptr true g9 o9),(10,.ptr true g10 o10),(11,v11),(12,v12),(13,I x13),(45,(B (decide (x13≤x1))))],[[I xc0_0,vc0_1]],gh⟩))))
theorem q82_ {x1:Int} {b2 b3:Bool} {g4 o4:Nat} {g9 o9:Nat} {g10 o10:Nat} {v11 v12:PV} {x13 xc0_0:Int} {vc0_1:PV} (h:q82 pg x1 b2 b3 g4 o4 g9 o9 g10 o10 v11 v12 x13 xc0_0 vc0_1 gh=some (e,s)):runL pg qa4 ⟨[(1,I x1),(2,B b2),(3,B b3),(4,.ptr true g4 o4),(8,.ptr false 0 0),(9,.ptr true g9 o9),(10,.ptr true g10 o10),(11,v11),(12,v12),(13,I x13)],[[I xc0_0,vc0_1]],gh⟩=some (e,s):=
 jqr q8 (Eq.trans (by kernel_rfl) h)
def qcy (pg:Prg) (x1:Int) (b2 b3:Bool) (g4 o4:Nat) (g9 o9:Nat) (g10 o10:Nat) (v11 v12:PV) (x14 x15 xc0_0:Int) (vc0_1:PV) (gh:List GObj):DR:=stK 1 v11 (stK 1 v12 (some (.normal,⟨[(1,I x1),(2,B b2),(3,B b3),(4,.ptr true g4 o4),(8,.ptr false 0 0),(9,.ptr true g9 o9),(10,.ptr true g10 o10),(11,v11),(12,v12),(14,I x14),(15,(I (IntKind.i64.wrap (x15+1))))],[[I xc0_0,vc0_1]],gh⟩)))
theorem qcy_ {x1:Int} {b2 b3:Bool} {g4 o4:Nat} {g9 o9:Nat} {g10 o10:Nat} {v11 v12:PV} {x14 x15 xc0_0:Int} {vc0_1:PV} (h:qcy pg x1 b2 b3 g4 o4 g9 o9 g10 o10 v11 v12 x14 x15 xc0_0 vc0_1 gh=some (e,s)):runL pg qz ⟨[(1,I x1),(2,B b2),(3,B b3),(4,.ptr true g4 o4),(8,.ptr false 0 0),(9,.ptr true g9 o9),(10,.ptr true g10 o10),(11,v11),(12,v12),(14,I x14),(15,I x15)],[[I xc0_0,vc0_1]],gh⟩=some (e,s):=
 jqr q8 (Eq.trans (by kernel_rfl) h)
def q27 (pg:Prg) (x1:Int) (b2 b3:Bool) (g4 o4:Nat) (g9 o9:Nat) (g10 o10:Nat) (v11 v12:PV) (x14 x15 xc0_0:Int) (vc0_1:PV) (gh:List GObj):DR:=
  ob (ghCells gh g4) fun cs1=>
  ob (grab false 1 (o4+3) cs1) fun v2=>unI .i64 (degr v2) fun n3=>stK 1 v11 (stK 1 v12 (
  br 66 (decide (x15<n3)) (
  ob (ghCells gh g4) fun cs4=>
  ob (grab false 1 (o4+5) cs4) fun v5=>isC (degr v5) (
  idX 1 none (degr (degr v5)) x15 fun p6=>
  ldX [[I xc0_0,vc0_1]] gh false 1 (degr p6) fun v7=>unI .i64 v7 fun n8=>stK 1 v11 (stK 1 v12 (stK 1 v11 (stK 1 v12 (
  br 102 (n8==0) (isC (degr v11) (isC (degr v12) (
  fnX (degr (degr v12)) fun f11 cs12=>allK cs12 (callR gh true (callL pg f11 ([I x14,I x15]++cs12) gh) fun r9 gh10=>unI .i64 r9 fun n13=>
  fnX (degr (degr v11)) fun f16 cs17=>allK cs17 (callR gh10 false (callL pg f16 ([(.sl false 1 [(I (IntKind.i64.wrap (0-n13)))])]++cs17) gh10) fun r14 gh15=>stK 1 v11 (stK 1 v12 (stK 1 v11 (stK 1 v12 (
  kR (runL pg qz ⟨[(1,I x1),(2,B b2),(3,B b3),(4,.ptr true g4 o4),(8,.ptr false 0 0),(9,.ptr true g9 o9),(10,.ptr true g10 o10),(11,v11),(12,v12),(14,I x14),(15,I x15)],[[I xc0_0,vc0_1]],gh15⟩) (fun e s=>po [1,2,3,4,8,9,10,11,12,14,15] 1 e s (fun e s=>some (e,s)))))))))))) (stK 1 v11 (stK 1 v12 (
  br 112 (n8==1) (isC (degr v11) (isC (degr v12) (
  fnX (degr (degr v12)) fun f20 cs21=>allK cs21 (callR gh true (callL pg f20 ([I x14,I x15]++cs21) gh) fun r18 gh19=>unI .i64 r18 fun n22=>
  fnX (degr (degr v11)) fun f25 cs26=>allK cs26 (callR gh19 false (callL pg f25 ([.sl false 1 [I n22]]++cs26) gh19) fun r23 gh24=>stK 1 v11 (stK 1 v12 (stK 1 v11 (stK 1 v12 (stK 1 v11 (stK 1 v12 (
  kR (runL pg qz ⟨[(1,I x1),(2,B b2),(3,B b3),(4,.ptr true g4 o4),(8,.ptr false 0 0),(9,.ptr true g9 o9),(10,.ptr true g10 o10),(11,v11),(12,v12),(14,I x14),(15,I x15)],[[I xc0_0,vc0_1]],gh24⟩) (fun e s=>po [1,2,3,4,8,9,10,11,12,14,15] 1 e s (fun e s=>some (e,s)))))))))))))) (
  ob (ghCells gh g4) fun cs27=>
  ob (grab false 1 (o4+5) cs27) fun v28=>isC (degr v28) (
  idX 1 none (degr (degr v28)) x15 fun p29=>
  ldX [[I xc0_0,vc0_1]] gh false 1 (degr p29) fun v30=>unI .i64 v30 fun n31=>
  ob (ghCells gh g9) fun cs32=>
  ob (grab false 1 o9 cs32) fun v33=>unI .i64 (degr v33) fun n34=>
  callR gh true (callL pg 92 [I n31,(I (IntKind.i64.wrap ((IntKind.i64.wrap (x14-1))*n34)))] gh) fun r35 gh36=>unI .i64 r35 fun n37=>stK 1 v11 (stK 1 v12 (isC (degr v11) (isC (degr v12) (
  fnX (degr (degr v12)) fun f40 cs41=>allK cs41 (callR gh36 true (callL pg f40 ([I x14,I x15]++cs41) gh36) fun r38 gh39=>unI .i64 r38 fun n42=>
  fnX (degr (degr v11)) fun f45 cs46=>allK cs46 (callR gh39 false (callL pg f45 ([(.sl false 1 [(I (IntKind.i64.wrap (0-n42))),I n37])]++cs46) gh39) fun r43 gh44=>stK 1 v11 (stK 1 v12 (isC (degr v11) (isC (degr v12) (
  fnX (degr (degr v12)) fun f49 cs50=>allK cs50 (callR gh44 true (callL pg f49 ([I x14,I x15]++cs50) gh44) fun r47 gh48=>unI .i64 r47 fun n51=>
  fnX (degr (degr v11)) fun f54 cs55=>allK cs55 (callR gh48 false (callL pg f54 ([(.sl false 1 [I n51,(I (IntKind.i64.wrap (0-n37)))])]++cs55) gh48) fun r52 gh53=>stK 1 v11 (stK 1 v12 (stK 1 v11 (stK 1 v12 (stK 1 v11 (stK 1 v12 (
  kR (runL pg qz ⟨[(1,I x1),(2,B b2),(3,B b3),(4,.ptr true g4 o4),(8,.ptr false 0 0),(9,.ptr true g9 o9),(10,.ptr true g10 o10),(11,v11),(12,v12),(14,I x14),(15,I x15)],[[I xc0_0,vc0_1]],gh53⟩) (fun e s=>po [1,2,3,4,8,9,10,11,12,14,15] 1 e s (fun e s=>some (e,s)))))))))))))))))))))))))))))))) (some ((.exit 4),⟨[(1,I x1),(2,B b2),(3,B b3),(4,.ptr true g4 o4),(8,.ptr false 0 0),(9,.ptr true g9 o9),(10,.ptr true g10 o10),(11,v11),(12,v12),(14,I x14),(15,I x15),(66,(B (decide (x15<n3))))],[[I xc0_0,vc0_1]],gh⟩))))
theorem q27_ {x1:Int} {b2 b3:Bool} {g4 o4:Nat} {g9 o9:Nat} {g10 o10:Nat} {v11 v12:PV} {x14 x15 xc0_0:Int} {vc0_1:PV} (h:q27 pg x1 b2 b3 g4 o4 g9 o9 g10 o10 v11 v12 x14 x15 xc0_0 vc0_1 gh=some (e,s)):runL pg qa5 ⟨[(1,I x1),(2,B b2),(3,B b3),(4,.ptr true g4 o4),(8,.ptr false 0 0),(9,.ptr true g9 o9),(10,.ptr true g10 o10),(11,v11),(12,v12),(14,I x14),(15,I x15)],[[I xc0_0,vc0_1]],gh⟩=some (e,s):=
 jqr q8 (Eq.trans (by kernel_rfl) h)
def qcz (pg:Prg) (x1:Int) (b2 b3:Bool) (g4 o4:Nat) (g9 o9:Nat) (g10 o10:Nat) (v11 v12:PV) (x14 xc0_0:Int) (vc0_1:PV) (gh:List GObj):DR:=stK 1 v11 (stK 1 v12 (some (.normal,⟨[(1,I x1),(2,B b2),(3,B b3),(4,.ptr true g4 o4),(8,.ptr false 0 0),(9,.ptr true g9 o9),(10,.ptr true g10 o10),(11,v11),(12,v12),(14,(I (IntKind.i64.wrap (x14+1))))],[[I xc0_0,vc0_1]],gh⟩)))
theorem qcz_ {x1:Int} {b2 b3:Bool} {g4 o4:Nat} {g9 o9:Nat} {g10 o10:Nat} {v11 v12:PV} {x14 xc0_0:Int} {vc0_1:PV} (h:qcz pg x1 b2 b3 g4 o4 g9 o9 g10 o10 v11 v12 x14 xc0_0 vc0_1 gh=some (e,s)):runL pg q2j ⟨[(1,I x1),(2,B b2),(3,B b3),(4,.ptr true g4 o4),(8,.ptr false 0 0),(9,.ptr true g9 o9),(10,.ptr true g10 o10),(11,v11),(12,v12),(14,I x14)],[[I xc0_0,vc0_1]],gh⟩=some (e,s):=
 jqr q8 (Eq.trans (by kernel_rfl) h)
def q83 (pg:Prg) (x1:Int) (b2 b3:Bool) (g4 o4:Nat) (g9 o9:Nat) (g10 o10:Nat) (v11 v12:PV) (x14 xc0_0:Int) (vc0_1:PV) (gh:List GObj):DR:=stK 1 v11 (stK 1 v12 (
  br 60 (decide (x14≤x1)) (stK 1 v11 (stK 1 v12 (
  kR (runL pg q5l ⟨[(1,I x1),(2,B b2),(3,B b3),(4,.ptr true g4 o4),(8,.ptr false 0 0),(9,.ptr true g9 o9),(10,.ptr true g10 o10),(11,v11),(12,v12),(14,I x14),(15,I 0)],[[I xc0_0,vc0_1]],gh⟩) (fun e s=>bk 3 e s (fun e s=>nx e s (fun e s=>po [1,2,3,4,8,9,10,11,12,14] 1 e s (fun e s=>some (e,s))) fun s=>kR (runL pg q2j s) (fun e s=>po [1,2,3,4,8,9,10,11,12,14] 1 e s (fun e s=>some (e,s)))))))) (some ((.exit 2),⟨[(1,I x1),(2,B b2),(3,B b3),(4,.ptr true g4 o4),(8,.ptr false 0 0),(9,.ptr true g9 o9),(10,.ptr true g10 o10),(11,v11),(12,v12),(14,I x14),(60,(B (decide (x14≤x1))))],[[I xc0_0,vc0_1]],gh⟩))))
theorem q83_ {x1:Int} {b2 b3:Bool} {g4 o4:Nat} {g9 o9:Nat} {g10 o10:Nat} {v11 v12:PV} {x14 xc0_0:Int} {vc0_1:PV} (h:q83 pg x1 b2 b3 g4 o4 g9 o9 g10 o10 v11 v12 x14 xc0_0 vc0_1 gh=some (e,s)):runL pg qa6 ⟨[(1,I x1),(2,B b2),(3,B b3),(4,.ptr true g4 o4),(8,.ptr false 0 0),(9,.ptr true g9 o9),(10,.ptr true g10 o10),(11,v11),(12,v12),(14,I x14)],[[I xc0_0,vc0_1]],gh⟩=some (e,s):=
 jqr q8 (Eq.trans (by kernel_rfl) h)
def q3o (pg:Prg) (x1:Int) (b2 b3:Bool) (g4 o4:Nat) (g9 o9:Nat) (g10 o10:Nat) (v11 v12:PV) (x17 xc0_0:Int) (vc0_1:PV) (gh:List GObj):DR:=
  ob (ghCells gh g4) fun cs1=>
  ob (grab false 1 (o4+4) cs1) fun v2=>isC (degr v2) (
  idX 1 none (degr (degr v2)) x17 fun p3=>
  ldX [[I xc0_0,vc0_1]] gh false 1 (degr p3) fun v4=>unI .i64 v4 fun n5=>stK 1 v11 (stK 1 v12 (
  br 148 (n5==1) (isC (degr v11) (isC (degr v12) (
  fnX (degr (degr v12)) fun f8 cs9=>allK cs9 (callR gh true (callL pg f8 ([I 0,I x17]++cs9) gh) fun r6 gh7=>unI .i64 r6 fun n10=>
  fnX (degr (degr v11)) fun f13 cs14=>allK cs14 (callR gh7 false (callL pg f13 ([.sl false 1 [I n10]]++cs14) gh7) fun r11 gh12=>stK 1 v11 (stK 1 v12 (stK 1 v11 (stK 1 v12 (some (.normal,⟨[(1,I x1),(2,B b2),(3,B b3),(4,.ptr true g4 o4),(8,.ptr false 0 0),(9,.ptr true g9 o9),(10,.ptr true g10 o10),(11,v11),(12,v12),(17,I x17)],[[I xc0_0,vc0_1]],gh12⟩)))))))))) (stK 1 v11 (stK 1 v12 (some (.normal,⟨[(1,I x1),(2,B b2),(3,B b3),(4,.ptr true g4 o4),(8,.ptr false 0 0),(9,.ptr true g9 o9),(10,.ptr true g10 o10),(11,v11),(12,v12),(17,I x17)],[[I xc0_0,vc0_1]],gh⟩)))))))
theorem q3o_ {x1:Int} {b2 b3:Bool} {g4 o4:Nat} {g9 o9:Nat} {g10 o10:Nat} {v11 v12:PV} {x17 xc0_0:Int} {vc0_1:PV} (h:q3o pg x1 b2 b3 g4 o4 g9 o9 g10 o10 v11 v12 x17 xc0_0 vc0_1 gh=some (e,s)):runL pg qq ⟨[(1,I x1),(2,B b2),(3,B b3),(4,.ptr true g4 o4),(8,.ptr false 0 0),(9,.ptr true g9 o9),(10,.ptr true g10 o10),(11,v11),(12,v12),(17,I x17)],[[I xc0_0,vc0_1]],gh⟩=some (e,s):=
 jqr q8 (Eq.trans (by kernel_rfl) h)
def qd0 (pg:Prg) (x1:Int) (b2 b3:Bool) (g4 o4:Nat) (g9 o9:Nat) (g10 o10:Nat) (v11 v12:PV) (x17 xc0_0:Int) (vc0_1:PV) (gh:List GObj):DR:=stK 1 v11 (stK 1 v12 (some (.normal,⟨[(1,I x1),(2,B b2),(3,B b3),(4,.ptr true g4 o4),(8,.ptr false 0 0),(9,.ptr true g9 o9),(10,.ptr true g10 o10),(11,v11),(12,v12),(17,(I (IntKind.i64.wrap (x17+1))))],[[I xc0_0,vc0_1]],gh⟩)))
theorem qd0_ {x1:Int} {b2 b3:Bool} {g4 o4:Nat} {g9 o9:Nat} {g10 o10:Nat} {v11 v12:PV} {x17 xc0_0:Int} {vc0_1:PV} (h:qd0 pg x1 b2 b3 g4 o4 g9 o9 g10 o10 v11 v12 x17 xc0_0 vc0_1 gh=some (e,s)):runL pg q1l ⟨[(1,I x1),(2,B b2),(3,B b3),(4,.ptr true g4 o4),(8,.ptr false 0 0),(9,.ptr true g9 o9),(10,.ptr true g10 o10),(11,v11),(12,v12),(17,I x17)],[[I xc0_0,vc0_1]],gh⟩=some (e,s):=
 jqr q8 (Eq.trans (by kernel_rfl) h)
def qw (pg:Prg) (x1:Int) (b2 b3:Bool) (g4 o4:Nat) (g9 o9:Nat) (g10 o10:Nat) (v11 v12:PV) (x17 xc0_0:Int) (vc0_1:PV) (gh:List GObj):DR:=
  ob (ghCells gh g4) fun cs1=>
  ob (grab false 1 (o4+3) cs1) fun v2=>unI .i64 (degr v2) fun n3=>
  br 125 (decide (x17<n3)) (stK 1 v11 (stK 1 v12 (
  br 127 b2 (
  ob (ghCells gh g4) fun cs4=>
  ob (grab false 1 (o4+4) cs4) fun v5=>isC (degr v5) (
  idX 1 none (degr (degr v5)) x17 fun p6=>
  ldX [[I xc0_0,vc0_1]] gh false 1 (degr p6) fun v7=>unI .i64 v7 fun n8=>stK 1 v11 (stK 1 v12 (
  br 135 (n8==0) (isC (degr v11) (isC (degr v12) (
  fnX (degr (degr v12)) fun f11 cs12=>allK cs12 (callR gh true (callL pg f11 ([I 0,I x17]++cs12) gh) fun r9 gh10=>unI .i64 r9 fun n13=>
  fnX (degr (degr v11)) fun f16 cs17=>allK cs17 (callR gh10 false (callL pg f16 ([(.sl false 1 [(I (IntKind.i64.wrap (0-n13)))])]++cs17) gh10) fun r14 gh15=>stK 1 v11 (stK 1 v12 (stK 1 v11 (stK 1 v12 (
  kR (runL pg qq ⟨[(1,I x1),(2,B b2),(3,B b3),(4,.ptr true g4 o4),(8,.ptr false 0 0),(9,.ptr true g9 o9),(10,.ptr true g10 o10),(11,v11),(12,v12),(17,I x17)],[[I xc0_0,vc0_1]],gh15⟩) (fun e s=>bk 8 e s (fun e s=>nx e s (fun e s=>po [1,2,3,4,8,9,10,11,12,17] 1 e s (fun e s=>some (e,s))) fun s=>kR (runL pg q1l s) (fun e s=>po [1,2,3,4,8,9,10,11,12,17] 1 e s (fun e s=>some (e,s)))))))))))))) (stK 1 v11 (stK 1 v12 (
  kR (runL pg qq ⟨[(1,I x1),(2,B b2),(3,B b3),(4,.ptr true g4 o4),(8,.ptr false 0 0),(9,.ptr true g9 o9),(10,.ptr true g10 o10),(11,v11),(12,v12),(17,I x17)],[[I xc0_0,vc0_1]],gh⟩) (fun e s=>bk 8 e s (fun e s=>nx e s (fun e s=>po [1,2,3,4,8,9,10,11,12,17] 1 e s (fun e s=>some (e,s))) fun s=>kR (runL pg q1l s) (fun e s=>po [1,2,3,4,8,9,10,11,12,17] 1 e s (fun e s=>some (e,s)))))))))))) (some ((.exit 7),⟨[(1,I x1),(2,B b2),(3,B b3),(4,.ptr true g4 o4),(8,.ptr false 0 0),(9,.ptr true g9 o9),(10,.ptr true g10 o10),(11,v11),(12,v12),(17,I x17),(127,B b2)],[[I xc0_0,vc0_1]],gh⟩))))) (stK 1 v11 (stK 1 v12 (some ((.exit 7),⟨[(1,I x1),(2,B b2),(3,B b3),(4,.ptr true g4 o4),(8,.ptr false 0 0),(9,.ptr true g9 o9),(10,.ptr true g10 o10),(11,v11),(12,v12),(17,I x17),(127,B false)],[[I xc0_0,vc0_1]],gh⟩))))
theorem qw_ {x1:Int} {b2 b3:Bool} {g4 o4:Nat} {g9 o9:Nat} {g10 o10:Nat} {v11 v12:PV} {x17 xc0_0:Int} {vc0_1:PV} (h:qw pg x1 b2 b3 g4 o4 g9 o9 g10 o10 v11 v12 x17 xc0_0 vc0_1 gh=some (e,s)):runL pg qa7 ⟨[(1,I x1),(2,B b2),(3,B b3),(4,.ptr true g4 o4),(8,.ptr false 0 0),(9,.ptr true g9 o9),(10,.ptr true g10 o10),(11,v11),(12,v12),(17,I x17)],[[I xc0_0,vc0_1]],gh⟩=some (e,s):=
 jqr q8 (Eq.trans (by kernel_rfl) h)
def q84 (pg:Prg) (x1:Int) (b3:Bool) (g4 o4:Nat) (g9 o9:Nat) (g10 o10:Nat) (v11 v12:PV) (x18 x19 xc0_0:Int) (vc0_1:PV) (gh:List GObj):DR:=
  ob (ghCells gh g4) fun cs1=>
  ob (grab false 1 (o4+7) cs1) fun v2=>isC (degr v2) (lenS (degr (degr v2)) fun n3=>stK 1 v11 (stK 1 v12 (
  br 164 (decide (x19<(n3:Int))) (
  ltbX gh (.ptr true g10 (o10+1)) (.ptr true g10 o10) 1 fun v4 gh5=>
  ob (ghCells gh5 g4) fun cs6=>
  ob (grab false 1 (o4+7) cs6) fun v7=>isC (degr v7) (
  idX 1 none (degr (degr v7)) x19 fun p8=>
  ldX [[I xc0_0,vc0_1]] gh5 false 1 (degr p8) fun v9=>unI .i64 v9 fun n10=>
  ob (ghCells gh5 g9) fun cs11=>
  ob (grab false 1 o9 cs11) fun v13=>unI .i64 (degr v13) fun n14=>
  callR gh5 false (callL pg 57 [I n10,(I (IntKind.i64.wrap (x18*n14)))] gh5) fun r15 gh16=>rtK (callL pg 57 [I n10,(I (IntKind.i64.wrap (x18*n14)))]) gh5 (.ptr true g10 o10) 1 (isC r15 (
  apX 1 24 v4 (degr r15) fun l17=>
  ob (ghCells gh16 g10) fun cs18=>gb (stOk 1 (o10+1) [.sl true 1 l17] cs18) (stK 1 v11 (stK 1 v12 (stK 1 v11 (stK 1 v12 (stK 1 v11 (stK 1 v12 (some (.normal,⟨[(1,I x1),(3,B b3),(4,.ptr true g4 o4),(8,.ptr false 0 0),(9,.ptr true g9 o9),(10,.ptr true g10 o10),(11,v11),(12,v12),(18,I x18),(19,(I (IntKind.i64.wrap (x19+1))))],[[I xc0_0,vc0_1]],(List.set gh16 g10 (.cells (spliceAt cs18 (o10+1) [.sl true 1 l17])))⟩)))))))))))) (some ((.exit 11),⟨[(1,I x1),(3,B b3),(4,.ptr true g4 o4),(8,.ptr false 0 0),(9,.ptr true g9 o9),(10,.ptr true g10 o10),(11,v11),(12,v12),(18,I x18),(19,I x19),(164,(B (decide (x19<(n3:Int)))))],[[I xc0_0,vc0_1]],gh⟩)))))
theorem q84_ {x1:Int} {b3:Bool} {g4 o4:Nat} {g9 o9:Nat} {g10 o10:Nat} {v11 v12:PV} {x18 x19 xc0_0:Int} {vc0_1:PV} (h:q84 pg x1 b3 g4 o4 g9 o9 g10 o10 v11 v12 x18 x19 xc0_0 vc0_1 gh=some (e,s)):runL pg qa8 ⟨[(1,I x1),(3,B b3),(4,.ptr true g4 o4),(8,.ptr false 0 0),(9,.ptr true g9 o9),(10,.ptr true g10 o10),(11,v11),(12,v12),(18,I x18),(19,I x19)],[[I xc0_0,vc0_1]],gh⟩=some (e,s):=
 jqr q8 (Eq.trans (by kernel_rfl) h)
def qd1 (pg:Prg) (x1:Int) (b3:Bool) (g4 o4:Nat) (g9 o9:Nat) (g10 o10:Nat) (v11 v12:PV) (x18 xc0_0:Int) (vc0_1:PV) (gh:List GObj):DR:=stK 1 v11 (stK 1 v12 (some (.normal,⟨[(1,I x1),(3,B b3),(4,.ptr true g4 o4),(8,.ptr false 0 0),(9,.ptr true g9 o9),(10,.ptr true g10 o10),(11,v11),(12,v12),(18,(I (IntKind.i64.wrap (x18+1))))],[[I xc0_0,vc0_1]],gh⟩)))
theorem qd1_ {x1:Int} {b3:Bool} {g4 o4:Nat} {g9 o9:Nat} {g10 o10:Nat} {v11 v12:PV} {x18 xc0_0:Int} {vc0_1:PV} (h:qd1 pg x1 b3 g4 o4 g9 o9 g10 o10 v11 v12 x18 xc0_0 vc0_1 gh=some (e,s)):runL pg q2k ⟨[(1,I x1),(3,B b3),(4,.ptr true g4 o4),(8,.ptr false 0 0),(9,.ptr true g9 o9),(10,.ptr true g10 o10),(11,v11),(12,v12),(18,I x18)],[[I xc0_0,vc0_1]],gh⟩=some (e,s):=
 jqr q8 (Eq.trans (by kernel_rfl) h)
def q85 (pg:Prg) (x1:Int) (b3:Bool) (g4 o4:Nat) (g9 o9:Nat) (g10 o10:Nat) (v11 v12:PV) (x18 xc0_0:Int) (vc0_1:PV) (gh:List GObj):DR:=stK 1 v11 (stK 1 v12 (
  br 157 (decide (x18≤x1)) (stK 1 v11 (stK 1 v12 (
  kR (runL pg q5n ⟨[(1,I x1),(3,B b3),(4,.ptr true g4 o4),(8,.ptr false 0 0),(9,.ptr true g9 o9),(10,.ptr true g10 o10),(11,v11),(12,v12),(18,I x18),(19,I 0)],[[I xc0_0,vc0_1]],gh⟩) (fun e s=>bk 10 e s (fun e s=>nx e s (fun e s=>po [1,3,4,8,9,10,11,12,18] 1 e s (fun e s=>some (e,s))) fun s=>kR (runL pg q2k s) (fun e s=>po [1,3,4,8,9,10,11,12,18] 1 e s (fun e s=>some (e,s)))))))) (some ((.exit 9),⟨[(1,I x1),(3,B b3),(4,.ptr true g4 o4),(8,.ptr false 0 0),(9,.ptr true g9 o9),(10,.ptr true g10 o10),(11,v11),(12,v12),(18,I x18),(157,(B (decide (x18≤x1))))],[[I xc0_0,vc0_1]],gh⟩))))
theorem q85_ {x1:Int} {b3:Bool} {g4 o4:Nat} {g9 o9:Nat} {g10 o10:Nat} {v11 v12:PV} {x18 xc0_0:Int} {vc0_1:PV} (h:q85 pg x1 b3 g4 o4 g9 o9 g10 o10 v11 v12 x18 xc0_0 vc0_1 gh=some (e,s)):runL pg qa9 ⟨[(1,I x1),(3,B b3),(4,.ptr true g4 o4),(8,.ptr false 0 0),(9,.ptr true g9 o9),(10,.ptr true g10 o10),(11,v11),(12,v12),(18,I x18)],[[I xc0_0,vc0_1]],gh⟩=some (e,s):=
 jqr q8 (Eq.trans (by kernel_rfl) h)
def qd2 (pg:Prg) (x1:Int) (b3:Bool) (g4 o4:Nat) (g9 o9:Nat) (g10 o10:Nat) (v11 v12 v20:PV) (x21 xc0_0:Int) (vc0_1:PV) (gh:List GObj):DR:=stK 1 v11 (stK 1 v12 (stK 1 v20 (some (.normal,⟨[(1,I x1),(3,B b3),(4,.ptr true g4 o4),(8,.ptr false 0 0),(9,.ptr true g9 o9),(10,.ptr true g10 o10),(11,v11),(12,v12),(20,v20),(21,(I (IntKind.i64.wrap (x21+1))))],[[I xc0_0,vc0_1]],gh⟩))))
theorem qd2_ {x1:Int} {b3:Bool} {g4 o4:Nat} {g9 o9:Nat} {g10 o10:Nat} {v11 v12 v20:PV} {x21 xc0_0:Int} {vc0_1:PV} (h:qd2 pg x1 b3 g4 o4 g9 o9 g10 o10 v11 v12 v20 x21 xc0_0 vc0_1 gh=some (e,s)):runL pg q1n ⟨[(1,I x1),(3,B b3),(4,.ptr true g4 o4),(8,.ptr false 0 0),(9,.ptr true g9 o9),(10,.ptr true g10 o10),(11,v11),(12,v12),(20,v20),(21,I x21)],[[I xc0_0,vc0_1]],gh⟩=some (e,s):=
 jqr q8 (Eq.trans (by kernel_rfl) h)
def q3p (pg:Prg) (x1:Int) (b3:Bool) (g4 o4:Nat) (g9 o9:Nat) (g10 o10:Nat) (v11 v12 v20:PV) (x21 xc0_0:Int) (vc0_1:PV) (gh:List GObj):DR:=
  ob (ghCells gh g4) fun cs1=>
  ob (grab false 1 (o4+6) cs1) fun v2=>isC (degr v2) (lenS (degr (degr v2)) fun n3=>stK 1 v11 (stK 1 v12 (stK 1 v20 (
  br 188 (decide (x21<(n3:Int))) (
  ob (ghCells gh g4) fun cs4=>
  ob (grab false 1 (o4+6) cs4) fun v5=>isC (degr v5) (
  idX 1 none (degr (degr v5)) x21 fun p6=>
  ldX [[I xc0_0,vc0_1]] gh false 1 (degr p6) fun v7=>unI .i64 v7 fun n8=>stK 1 v11 (stK 1 v12 (stK 1 v20 (
  br 196 (n8 !=0) (
  ob (ghCells gh g4) fun cs9=>
  ob (grab false 1 (o4+6) cs9) fun v10=>isC (degr v10) (
  idX 1 none (degr (degr v10)) x21 fun p11=>
  ldX [[I xc0_0,vc0_1]] gh false 1 (degr p11) fun v13=>unI .i64 v13 fun n14=>
  ob (ghCells gh g9) fun cs15=>
  ob (grab false 1 o9 cs15) fun v16=>unI .i64 (degr v16) fun n17=>
  callR gh true (callL pg 92 [I n14,(I (IntKind.i64.wrap (x1*n17)))] gh) fun r18 gh19=>unI .i64 r18 fun n20=>
  apX 1 8 v20 (.sl false 1 [I n20]) fun l21=>stK 1 v11 (stK 1 v12 (stK 1 v11 (stK 1 v12 (
  kR (runL pg q1n ⟨[(1,I x1),(3,B b3),(4,.ptr true g4 o4),(8,.ptr false 0 0),(9,.ptr true g9 o9),(10,.ptr true g10 o10),(11,v11),(12,v12),(20,.sl true 1 l21),(21,I x21)],[[I xc0_0,vc0_1]],gh19⟩) (fun e s=>po [1,3,4,8,9,10,11,12,20,21] 1 e s (fun e s=>some (e,s))))))))) (stK 1 v11 (stK 1 v12 (stK 1 v20 (
  kR (runL pg q1n ⟨[(1,I x1),(3,B b3),(4,.ptr true g4 o4),(8,.ptr false 0 0),(9,.ptr true g9 o9),(10,.ptr true g10 o10),(11,v11),(12,v12),(20,v20),(21,I x21)],[[I xc0_0,vc0_1]],gh⟩) (fun e s=>po [1,3,4,8,9,10,11,12,20,21] 1 e s (fun e s=>some (e,s)))))))))))) (some ((.exit 13),⟨[(1,I x1),(3,B b3),(4,.ptr true g4 o4),(8,.ptr false 0 0),(9,.ptr true g9 o9),(10,.ptr true g10 o10),(11,v11),(12,v12),(20,v20),(21,I x21),(188,(B (decide (x21<(n3:Int)))))],[[I xc0_0,vc0_1]],gh⟩))))))
theorem q3p_ {x1:Int} {b3:Bool} {g4 o4:Nat} {g9 o9:Nat} {g10 o10:Nat} {v11 v12 v20:PV} {x21 xc0_0:Int} {vc0_1:PV} (h:q3p pg x1 b3 g4 o4 g9 o9 g10 o10 v11 v12 v20 x21 xc0_0 vc0_1 gh=some (e,s)):runL pg qaa ⟨[(1,I x1),(3,B b3),(4,.ptr true g4 o4),(8,.ptr false 0 0),(9,.ptr true g9 o9),(10,.ptr true g10 o10),(11,v11),(12,v12),(20,v20),(21,I x21)],[[I xc0_0,vc0_1]],gh⟩=some (e,s):=
 jqr q8 (Eq.trans (by kernel_rfl) h)
def qd3 (pg:Prg) (x1:Int) (b3:Bool) (g4 o4:Nat) (g9 o9:Nat) (g10 o10:Nat) (v11 v12 v20:PV) (xc0_0:Int) (vc0_1:PV) (gh:List GObj):DR:=
  ob (ghCells gh g10) fun cs1=>ob (cs1[(o10+1)]?) fun v2=>isC (degr v20) (arK (degr (degr v20)) (lnK 1 (degr (degr v20)) (
  apX 1 24 v2 (.sl false 1 [(degr (degr v20))]) fun l3=>
  ob (ghCells (List.set gh g10 (.cells (spliceAt cs1 (o10+1) [degr1 v2]))) g10) fun cs4=>gb (stOk 1 (o10+1) [.sl true 1 l3] cs4) (stK 1 v11 (stK 1 v12 (some (.normal,⟨[(1,I x1),(3,B b3),(4,.ptr true g4 o4),(8,.ptr false 0 0),(9,.ptr true g9 o9),(10,.ptr true g10 o10),(11,v11),(12,v12)],[[I xc0_0,vc0_1]],(List.set (List.set gh g10 (.cells (spliceAt cs1 (o10+1) [degr1 v2]))) g10 (.cells (spliceAt cs4 (o10+1) [.sl true 1 l3])))⟩)))))))
theorem qd3_ {x1:Int} {b3:Bool} {g4 o4:Nat} {g9 o9:Nat} {g10 o10:Nat} {v11 v12 v20:PV} {xc0_0:Int} {vc0_1:PV} (h:qd3 pg x1 b3 g4 o4 g9 o9 g10 o10 v11 v12 v20 xc0_0 vc0_1 gh=some (e,s)):runL pg q2l ⟨[(1,I x1),(3,B b3),(4,.ptr true g4 o4),(8,.ptr false 0 0),(9,.ptr true g9 o9),(10,.ptr true g10 o10),(11,v11),(12,v12),(20,v20)],[[I xc0_0,vc0_1]],gh⟩=some (e,s):=
 jqr q8 (Eq.trans (by kernel_rfl) h)
def qd4 (pg:Prg) (x1:Int) (g4 o4:Nat) (g9 o9:Nat) (g10 o10:Nat) (v11 v12:PV) (x22 x23 xc0_0:Int) (vc0_1:PV) (gh:List GObj):DR:=stK 1 v11 (stK 1 v12 (some (.normal,⟨[(1,I x1),(4,.ptr true g4 o4),(8,.ptr false 0 0),(9,.ptr true g9 o9),(10,.ptr true g10 o10),(11,v11),(12,v12),(22,I x22),(23,(I (IntKind.i64.wrap (x23+1))))],[[I xc0_0,vc0_1]],gh⟩)))
theorem qd4_ {x1:Int} {g4 o4:Nat} {g9 o9:Nat} {g10 o10:Nat} {v11 v12:PV} {x22 x23 xc0_0:Int} {vc0_1:PV} (h:qd4 pg x1 g4 o4 g9 o9 g10 o10 v11 v12 x22 x23 xc0_0 vc0_1 gh=some (e,s)):runL pg q10 ⟨[(1,I x1),(4,.ptr true g4 o4),(8,.ptr false 0 0),(9,.ptr true g9 o9),(10,.ptr true g10 o10),(11,v11),(12,v12),(22,I x22),(23,I x23)],[[I xc0_0,vc0_1]],gh⟩=some (e,s):=
 jqr q8 (Eq.trans (by kernel_rfl) h)
def q28 (pg:Prg) (x1:Int) (g4 o4:Nat) (g9 o9:Nat) (g10 o10:Nat) (v11 v12:PV) (x22 x23 xc0_0:Int) (vc0_1:PV) (gh:List GObj):DR:=
  ob (ghCells gh g4) fun cs1=>
  ob (grab false 1 (o4+6) cs1) fun v2=>isC (degr v2) (lenS (degr (degr v2)) fun n3=>stK 1 v11 (stK 1 v12 (
  br 227 (decide (x23<(n3:Int))) (
  ob (ghCells gh g4) fun cs4=>
  ob (grab false 1 (o4+6) cs4) fun v5=>isC (degr v5) (
  idX 1 none (degr (degr v5)) x23 fun p6=>
  ldX [[I xc0_0,vc0_1]] gh false 1 (degr p6) fun v7=>unI .i64 v7 fun n8=>stK 1 v11 (stK 1 v12 (stK 1 v11 (stK 1 v12 (
  br 248 (n8==0) (stK 1 v11 (stK 1 v12 (
  kR (runL pg q10 ⟨[(1,I x1),(4,.ptr true g4 o4),(8,.ptr false 0 0),(9,.ptr true g9 o9),(10,.ptr true g10 o10),(11,v11),(12,v12),(22,I x22),(23,I x23)],[[I xc0_0,vc0_1]],gh⟩) (fun e s=>po [1,4,8,9,10,11,12,22,23] 1 e s (fun e s=>some (e,s)))))) (stK 1 v11 (stK 1 v12 (
  br 250 (n8==1) (isC (degr v11) (
  fnX (degr (degr v11)) fun f11 cs12=>allK cs12 (callR gh false (callL pg f11 ([.sl false 1 []]++cs12) gh) fun r9 gh10=>stK 1 v11 (stK 1 v12 (stK 1 v11 (stK 1 v12 (stK 1 v11 (stK 1 v12 (
  kR (runL pg q10 ⟨[(1,I x1),(4,.ptr true g4 o4),(8,.ptr false 0 0),(9,.ptr true g9 o9),(10,.ptr true g10 o10),(11,v11),(12,v12),(22,I x22),(23,I x23)],[[I xc0_0,vc0_1]],gh10⟩) (fun e s=>po [1,4,8,9,10,11,12,22,23] 1 e s (fun e s=>some (e,s)))))))))))) (isC (degr v11) (
  ob (ghCells gh g4) fun cs13=>
  ob (grab false 1 (o4+6) cs13) fun v14=>isC (degr v14) (
  idX 1 none (degr (degr v14)) x23 fun p15=>
  ldX [[I xc0_0,vc0_1]] gh false 1 (degr p15) fun v16=>unI .i64 v16 fun n17=>
  ob (ghCells gh g9) fun cs18=>
  ob (grab false 1 o9 cs18) fun v19=>unI .i64 (degr v19) fun n20=>
  callR gh true (callL pg 92 [I n17,(I (IntKind.i64.wrap (x22*n20)))] gh) fun r21 gh22=>unI .i64 r21 fun n23=>
  fnX (degr (degr v11)) fun f26 cs27=>allK cs27 (callR gh22 false (callL pg f26 ([(.sl false 1 [(I (IntKind.i64.wrap (0-n23)))])]++cs27) gh22) fun r24 gh25=>stK 1 v11 (stK 1 v12 (stK 1 v11 (stK 1 v12 (stK 1 v11 (stK 1 v12 (
  kR (runL pg q10 ⟨[(1,I x1),(4,.ptr true g4 o4),(8,.ptr false 0 0),(9,.ptr true g9 o9),(10,.ptr true g10 o10),(11,v11),(12,v12),(22,I x22),(23,I x23)],[[I xc0_0,vc0_1]],gh25⟩) (fun e s=>po [1,4,8,9,10,11,12,22,23] 1 e s (fun e s=>some (e,s)))))))))))))))))))))) (some ((.exit 17),⟨[(1,I x1),(4,.ptr true g4 o4),(8,.ptr false 0 0),(9,.ptr true g9 o9),(10,.ptr true g10 o10),(11,v11),(12,v12),(22,I x22),(23,I x23),(227,(B (decide (x23<(n3:Int)))))],[[I xc0_0,vc0_1]],gh⟩)))))
theorem q28_ {x1:Int} {g4 o4:Nat} {g9 o9:Nat} {g10 o10:Nat} {v11 v12:PV} {x22 x23 xc0_0:Int} {vc0_1:PV} (h:q28 pg x1 g4 o4 g9 o9 g10 o10 v11 v12 x22 x23 xc0_0 vc0_1 gh=some (e,s)):runL pg qab ⟨[(1,I x1),(4,.ptr true g4 o4),(8,.ptr false 0 0),(9,.ptr true g9 o9),(10,.ptr true g10 o10),(11,v11),(12,v12),(22,I x22),(23,I x23)],[[I xc0_0,vc0_1]],gh⟩=some (e,s):=
 jqr q8 (Eq.trans (by kernel_rfl) h)
def qd5 (pg:Prg) (x1:Int) (g4 o4:Nat) (g9 o9:Nat) (g10 o10:Nat) (v11 v12:PV) (x22 xc0_0:Int) (vc0_1:PV) (gh:List GObj):DR:=stK 1 v11 (stK 1 v12 (some (.normal,⟨[(1,I x1),(4,.ptr true g4 o4),(8,.ptr false 0 0),(9,.ptr true g9 o9),(10,.ptr true g10 o10),(11,v11),(12,v12),(22,(I (IntKind.i64.wrap (x22+1))))],[[I xc0_0,vc0_1]],gh⟩)))
theorem qd5_ {x1:Int} {g4 o4:Nat} {g9 o9:Nat} {g10 o10:Nat} {v11 v12:PV} {x22 xc0_0:Int} {vc0_1:PV} (h:qd5 pg x1 g4 o4 g9 o9 g10 o10 v11 v12 x22 xc0_0 vc0_1 gh=some (e,s)):runL pg q2m ⟨[(1,I x1),(4,.ptr true g4 o4),(8,.ptr false 0 0),(9,.ptr true g9 o9),(10,.ptr true g10 o10),(11,v11),(12,v12),(22,I x22)],[[I xc0_0,vc0_1]],gh⟩=some (e,s):=
 jqr q8 (Eq.trans (by kernel_rfl) h)
def q86 (pg:Prg) (x1:Int) (g4 o4:Nat) (g9 o9:Nat) (g10 o10:Nat) (v11 v12:PV) (x22 xc0_0:Int) (vc0_1:PV) (gh:List GObj):DR:=stK 1 v11 (stK 1 v12 (
  br 220 (decide (x22<x1)) (stK 1 v11 (stK 1 v12 (
  kR (runL pg q5q ⟨[(1,I x1),(4,.ptr true g4 o4),(8,.ptr false 0 0),(9,.ptr true g9 o9),(10,.ptr true g10 o10),(11,v11),(12,v12),(22,I x22),(23,I 0)],[[I xc0_0,vc0_1]],gh⟩) (fun e s=>bk 16 e s (fun e s=>nx e s (fun e s=>po [1,4,8,9,10,11,12,22] 1 e s (fun e s=>some (e,s))) fun s=>kR (runL pg q2m s) (fun e s=>po [1,4,8,9,10,11,12,22] 1 e s (fun e s=>some (e,s)))))))) (some ((.exit 15),⟨[(1,I x1),(4,.ptr true g4 o4),(8,.ptr false 0 0),(9,.ptr true g9 o9),(10,.ptr true g10 o10),(11,v11),(12,v12),(22,I x22),(220,(B (decide (x22<x1))))],[[I xc0_0,vc0_1]],gh⟩))))
theorem q86_ {x1:Int} {g4 o4:Nat} {g9 o9:Nat} {g10 o10:Nat} {v11 v12:PV} {x22 xc0_0:Int} {vc0_1:PV} (h:q86 pg x1 g4 o4 g9 o9 g10 o10 v11 v12 x22 xc0_0 vc0_1 gh=some (e,s)):runL pg qac ⟨[(1,I x1),(4,.ptr true g4 o4),(8,.ptr false 0 0),(9,.ptr true g9 o9),(10,.ptr true g10 o10),(11,v11),(12,v12),(22,I x22)],[[I xc0_0,vc0_1]],gh⟩=some (e,s):=
 jqr q8 (Eq.trans (by kernel_rfl) h)
def q87 (pg:Prg) (x1:Int) (g4 o4:Nat) (g10 o10:Nat) (v11 v12:PV) (x24 x25:Int) (v26:PV) (x27 xc0_0:Int) (vc0_1:PV) (gh:List GObj):DR:=
  ob (ghCells gh g4) fun cs1=>
  ob (grab false 1 (o4+3) cs1) fun v2=>unI .i64 (degr v2) fun n3=>stK 1 v11 (stK 1 v12 (stK 1 v26 (
  br 269 (decide (x27<n3)) (
  ob (ghCells gh g10) fun cs4=>
  ob (grab false 1 (o10+0) cs4) fun v5=>unI .i64 (degr v5) fun n6=>
  ob (ghCells gh g10) fun cs7=>gb (stOk 1 (o10+0) [(I (IntKind.i64.wrap (n6+1)))] cs7) (stK 1 v11 (stK 1 v12 (stK 1 v26 (isC (degr v11) (
  ob (ghCells (List.set gh g10 (.cells (spliceAt cs7 (o10+0) [(I (IntKind.i64.wrap (n6+1)))]))) g10) fun cs8=>
  ob (grab false 1 (o10+0) cs8) fun v9=>unI .i64 (degr v9) fun n10=>isC (degr v12) (
  fnX (degr (degr v12)) fun f13 cs14=>allK cs14 (callR (List.set gh g10 (.cells (spliceAt cs7 (o10+0) [(I (IntKind.i64.wrap (n6+1)))]))) true (callL pg f13 ([I x24,I x27]++cs14) (List.set gh g10 (.cells (spliceAt cs7 (o10+0) [(I (IntKind.i64.wrap (n6+1)))])))) fun r11 gh12=>unI .i64 r11 fun n15=>isC (degr v12) (
  fnX (degr (degr v12)) fun f18 cs19=>allK cs19 (callR gh12 true (callL pg f18 ([I x25,I x27]++cs19) gh12) fun r16 gh17=>unI .i64 r16 fun n20=>
  fnX (degr (degr v11)) fun f23 cs24=>allK cs24 (callR gh17 false (callL pg f23 ([(.sl false 1 [(I (IntKind.i64.wrap (0-n10))),I n15,I n20])]++cs24) gh17) fun r21 gh22=>stK 1 v11 (stK 1 v12 (stK 1 v26 (isC (degr v11) (
  ob (ghCells gh22 g10) fun cs25=>
  ob (grab false 1 (o10+0) cs25) fun v27=>unI .i64 (degr v27) fun n28=>isC (degr v12) (
  fnX (degr (degr v12)) fun f31 cs32=>allK cs32 (callR gh22 true (callL pg f31 ([I x24,I x27]++cs32) gh22) fun r29 gh30=>unI .i64 r29 fun n33=>isC (degr v12) (
  fnX (degr (degr v12)) fun f36 cs37=>allK cs37 (callR gh30 true (callL pg f36 ([I x25,I x27]++cs37) gh30) fun r34 gh35=>unI .i64 r34 fun n38=>
  fnX (degr (degr v11)) fun f41 cs42=>allK cs42 (callR gh35 false (callL pg f41 ([(.sl false 1 [(I (IntKind.i64.wrap (0-n28))),(I (IntKind.i64.wrap (0-n33))),(I (IntKind.i64.wrap (0-n38)))])]++cs42) gh35) fun r39 gh40=>stK 1 v11 (stK 1 v12 (stK 1 v26 (
  ob (ghCells gh40 g10) fun cs43=>
  ob (grab false 1 (o10+0) cs43) fun v44=>unI .i64 (degr v44) fun n45=>
  apX 1 8 v26 (.sl false 1 [I n45]) fun l46=>stK 1 v11 (stK 1 v12 (stK 1 v11 (stK 1 v12 (stK 1 v11 (stK 1 v12 (some (.normal,⟨[(1,I x1),(4,.ptr true g4 o4),(8,.ptr false 0 0),(10,.ptr true g10 o10),(11,v11),(12,v12),(24,I x24),(25,I x25),(26,.sl true 1 l46),(27,(I (IntKind.i64.wrap (x27+1))))],[[I xc0_0,vc0_1]],gh40⟩)))))))))))))))))))))))))))))) (some ((.exit 24),⟨[(1,I x1),(4,.ptr true g4 o4),(8,.ptr false 0 0),(10,.ptr true g10 o10),(11,v11),(12,v12),(24,I x24),(25,I x25),(26,v26),(27,I x27),(269,(B (decide (x27<n3))))],[[I xc0_0,vc0_1]],gh⟩)))))
theorem q87_ {x1:Int} {g4 o4:Nat} {g10 o10:Nat} {v11 v12:PV} {x24 x25:Int} {v26:PV} {x27 xc0_0:Int} {vc0_1:PV} (h:q87 pg x1 g4 o4 g10 o10 v11 v12 x24 x25 v26 x27 xc0_0 vc0_1 gh=some (e,s)):runL pg qad ⟨[(1,I x1),(4,.ptr true g4 o4),(8,.ptr false 0 0),(10,.ptr true g10 o10),(11,v11),(12,v12),(24,I x24),(25,I x25),(26,v26),(27,I x27)],[[I xc0_0,vc0_1]],gh⟩=some (e,s):=
 jqr q8 (Eq.trans (by kernel_rfl) h)
def qd6 (pg:Prg) (x1:Int) (g4 o4:Nat) (g10 o10:Nat) (v11 v12:PV) (x24 x25:Int) (v26:PV) (xc0_0:Int) (vc0_1:PV) (gh:List GObj):DR:=
  ob (ghCells gh g10) fun cs1=>ob (cs1[(o10+1)]?) fun v2=>isC (degr v26) (arK (degr (degr v26)) (lnK 1 (degr (degr v26)) (
  apX 1 24 v2 (.sl false 1 [(degr (degr v26))]) fun l3=>
  ob (ghCells (List.set gh g10 (.cells (spliceAt cs1 (o10+1) [degr1 v2]))) g10) fun cs4=>gb (stOk 1 (o10+1) [.sl true 1 l3] cs4) (stK 1 v11 (stK 1 v12 (some (.normal,⟨[(1,I x1),(4,.ptr true g4 o4),(8,.ptr false 0 0),(10,.ptr true g10 o10),(11,v11),(12,v12),(24,I x24),(25,I x25)],[[I xc0_0,vc0_1]],(List.set (List.set gh g10 (.cells (spliceAt cs1 (o10+1) [degr1 v2]))) g10 (.cells (spliceAt cs4 (o10+1) [.sl true 1 l3])))⟩)))))))
theorem qd6_ {x1:Int} {g4 o4:Nat} {g10 o10:Nat} {v11 v12:PV} {x24 x25:Int} {v26:PV} {xc0_0:Int} {vc0_1:PV} (h:qd6 pg x1 g4 o4 g10 o10 v11 v12 x24 x25 v26 xc0_0 vc0_1 gh=some (e,s)):runL pg q2n ⟨[(1,I x1),(4,.ptr true g4 o4),(8,.ptr false 0 0),(10,.ptr true g10 o10),(11,v11),(12,v12),(24,I x24),(25,I x25),(26,v26)],[[I xc0_0,vc0_1]],gh⟩=some (e,s):=
 jqr q8 (Eq.trans (by kernel_rfl) h)
def qd7 (pg:Prg) (x1:Int) (g4 o4:Nat) (g10 o10:Nat) (v11 v12:PV) (x24 x25 xc0_0:Int) (vc0_1:PV) (gh:List GObj):DR:=stK 1 v11 (stK 1 v12 (some (.normal,⟨[(1,I x1),(4,.ptr true g4 o4),(8,.ptr false 0 0),(10,.ptr true g10 o10),(11,v11),(12,v12),(24,I x24),(25,(I (IntKind.i64.wrap (x25+1))))],[[I xc0_0,vc0_1]],gh⟩)))
theorem qd7_ {x1:Int} {g4 o4:Nat} {g10 o10:Nat} {v11 v12:PV} {x24 x25 xc0_0:Int} {vc0_1:PV} (h:qd7 pg x1 g4 o4 g10 o10 v11 v12 x24 x25 xc0_0 vc0_1 gh=some (e,s)):runL pg q1o ⟨[(1,I x1),(4,.ptr true g4 o4),(8,.ptr false 0 0),(10,.ptr true g10 o10),(11,v11),(12,v12),(24,I x24),(25,I x25)],[[I xc0_0,vc0_1]],gh⟩=some (e,s):=
 jqr q8 (Eq.trans (by kernel_rfl) h)
def q88 (pg:Prg) (x1:Int) (g4 o4:Nat) (g10 o10:Nat) (v11 v12:PV) (x24 x25 xc0_0:Int) (vc0_1:PV) (gh:List GObj):DR:=stK 1 v11 (stK 1 v12 (
  br 263 (decide (x25≤x1)) (stK 1 v11 (stK 1 v12 (stK 1 v11 (stK 1 v12 (
  kR (runL pg q5s ⟨[(1,I x1),(4,.ptr true g4 o4),(8,.ptr false 0 0),(10,.ptr true g10 o10),(11,v11),(12,v12),(24,I x24),(25,I x25),(26,.sl true 1 []),(27,I 0)],[[I xc0_0,vc0_1]],gh⟩) (fun e s=>nx e s (fun e s=>bk 23 e s (fun e s=>nx e s (fun e s=>po [1,4,8,10,11,12,24,25] 1 e s (fun e s=>some (e,s))) fun s=>kR (runL pg q1o s) (fun e s=>po [1,4,8,10,11,12,24,25] 1 e s (fun e s=>some (e,s))))) fun s=>kR (runL pg q2n s) (fun e s=>bk 23 e s (fun e s=>nx e s (fun e s=>po [1,4,8,10,11,12,24,25] 1 e s (fun e s=>some (e,s))) fun s=>kR (runL pg q1o s) (fun e s=>po [1,4,8,10,11,12,24,25] 1 e s (fun e s=>some (e,s))))))))))) (some ((.exit 22),⟨[(1,I x1),(4,.ptr true g4 o4),(8,.ptr false 0 0),(10,.ptr true g10 o10),(11,v11),(12,v12),(24,I x24),(25,I x25),(263,(B (decide (x25≤x1))))],[[I xc0_0,vc0_1]],gh⟩))))
theorem q88_ {x1:Int} {g4 o4:Nat} {g10 o10:Nat} {v11 v12:PV} {x24 x25 xc0_0:Int} {vc0_1:PV} (h:q88 pg x1 g4 o4 g10 o10 v11 v12 x24 x25 xc0_0 vc0_1 gh=some (e,s)):runL pg qae ⟨[(1,I x1),(4,.ptr true g4 o4),(8,.ptr false 0 0),(10,.ptr true g10 o10),(11,v11),(12,v12),(24,I x24),(25,I x25)],[[I xc0_0,vc0_1]],gh⟩=some (e,s):=
 jqr q8 (Eq.trans (by kernel_rfl) h)
def qd8 (pg:Prg) (x1:Int) (g4 o4:Nat) (g10 o10:Nat) (v11 v12:PV) (x24 xc0_0:Int) (vc0_1:PV) (gh:List GObj):DR:=stK 1 v11 (stK 1 v12 (some (.normal,⟨[(1,I x1),(4,.ptr true g4 o4),(8,.ptr false 0 0),(10,.ptr true g10 o10),(11,v11),(12,v12),(24,(I (IntKind.i64.wrap (x24+1))))],[[I xc0_0,vc0_1]],gh⟩)))
theorem qd8_ {x1:Int} {g4 o4:Nat} {g10 o10:Nat} {v11 v12:PV} {x24 xc0_0:Int} {vc0_1:PV} (h:qd8 pg x1 g4 o4 g10 o10 v11 v12 x24 xc0_0 vc0_1 gh=some (e,s)):runL pg q2o ⟨[(1,I x1),(4,.ptr true g4 o4),(8,.ptr false 0 0),(10,.ptr true g10 o10),(11,v11),(12,v12),(24,I x24)],[[I xc0_0,vc0_1]],gh⟩=some (e,s):=
 jqr q8 (Eq.trans (by kernel_rfl) h)
def q89 (pg:Prg) (x1:Int) (g4 o4:Nat) (g10 o10:Nat) (v11 v12:PV) (x24 xc0_0:Int) (vc0_1:PV) (gh:List GObj):DR:=stK 1 v11 (stK 1 v12 (
  br 256 (decide (x24≤x1)) (stK 1 v11 (stK 1 v12 (
  kR (runL pg q5t ⟨[(1,I x1),(4,.ptr true g4 o4),(8,.ptr false 0 0),(10,.ptr true g10 o10),(11,v11),(12,v12),(24,I x24),(25,(I (IntKind.i64.wrap (x24+1))))],[[I xc0_0,vc0_1]],gh⟩) (fun e s=>bk 21 e s (fun e s=>nx e s (fun e s=>po [1,4,8,10,11,12,24] 1 e s (fun e s=>some (e,s))) fun s=>kR (runL pg q2o s) (fun e s=>po [1,4,8,10,11,12,24] 1 e s (fun e s=>some (e,s)))))))) (some ((.exit 20),⟨[(1,I x1),(4,.ptr true g4 o4),(8,.ptr false 0 0),(10,.ptr true g10 o10),(11,v11),(12,v12),(24,I x24),(256,(B (decide (x24≤x1))))],[[I xc0_0,vc0_1]],gh⟩))))
theorem q89_ {x1:Int} {g4 o4:Nat} {g10 o10:Nat} {v11 v12:PV} {x24 xc0_0:Int} {vc0_1:PV} (h:q89 pg x1 g4 o4 g10 o10 v11 v12 x24 xc0_0 vc0_1 gh=some (e,s)):runL pg qaf ⟨[(1,I x1),(4,.ptr true g4 o4),(8,.ptr false 0 0),(10,.ptr true g10 o10),(11,v11),(12,v12),(24,I x24)],[[I xc0_0,vc0_1]],gh⟩=some (e,s):=
 jqr q8 (Eq.trans (by kernel_rfl) h)
def qd9 (pg:Prg) (g10 o10:Nat) (xc0_0:Int) (vc0_1:PV) (gh:List GObj):DR:=
  ob (ghCells gh g10) fun cs1=>
  ob (grab true 2 o10 cs1) fun v2=>unA 2 (degr v2) fun c3 c4=>unI .i64 c3 fun n5=>onK c4 (some (.ret,⟨[(8,.ptr false 0 0)],[[I n5,c4]],gh⟩))
theorem qd9_ {g10 o10:Nat} {xc0_0:Int} {vc0_1:PV} (h:qd9 pg g10 o10 xc0_0 vc0_1 gh=some (e,s)):runL pg q2p ⟨[(8,.ptr false 0 0),(10,.ptr true g10 o10)],[[I xc0_0,vc0_1]],gh⟩=some (e,s):=
 jqr q8 (Eq.trans (by kernel_rfl) h)
def qda (pg:Prg) (x1:Int) (g4 o4:Nat) (g10 o10:Nat) (v11 v12:PV) (xc0_0:Int) (vc0_1:PV) (gh:List GObj):DR:=stK 1 v11 (stK 1 v12 (
  kR (runL pg q5u ⟨[(1,I x1),(4,.ptr true g4 o4),(8,.ptr false 0 0),(10,.ptr true g10 o10),(11,v11),(12,v12),(24,I 0)],[[I xc0_0,vc0_1]],gh⟩) (fun e s=>nx e s (fun e s=>some (e,s)) fun s=>kR (runL pg q2p s) (fun e s=>some (e,s)))))
theorem qda_ {x1:Int} {g4 o4:Nat} {g10 o10:Nat} {v11 v12:PV} {xc0_0:Int} {vc0_1:PV} (h:qda pg x1 g4 o4 g10 o10 v11 v12 xc0_0 vc0_1 gh=some (e,s)):runL pg q2q ⟨[(1,I x1),(4,.ptr true g4 o4),(8,.ptr false 0 0),(10,.ptr true g10 o10),(11,v11),(12,v12)],[[I xc0_0,vc0_1]],gh⟩=some (e,s):=
 jqr q8 (Eq.trans (by kernel_rfl) h)
def qdb (pg:Prg) (x1:Int) (b3:Bool) (g4 o4:Nat) (g9 o9:Nat) (g10 o10:Nat) (v11 v12:PV) (xc0_0:Int) (vc0_1:PV) (gh:List GObj):DR:=stK 1 v11 (stK 1 v12 (
  br 216 (!b3) (
  ob (ghCells gh g10) fun cs1=>
  ob (grab true 2 o10 cs1) fun v2=>unA 2 (degr v2) fun c3 c4=>unI .i64 c3 fun n5=>onK c4 (some (.ret,⟨[(8,.ptr false 0 0)],[[I n5,c4]],gh⟩))) (stK 1 v11 (stK 1 v12 (
  kR (runL pg q5r ⟨[(1,I x1),(4,.ptr true g4 o4),(8,.ptr false 0 0),(9,.ptr true g9 o9),(10,.ptr true g10 o10),(11,v11),(12,v12),(22,I 0)],[[I xc0_0,vc0_1]],gh⟩) (fun e s=>nx e s (fun e s=>some (e,s)) fun s=>kR (runL pg q2q s) (fun e s=>some (e,s))))))))
theorem qdb_ {x1:Int} {b3:Bool} {g4 o4:Nat} {g9 o9:Nat} {g10 o10:Nat} {v11 v12:PV} {xc0_0:Int} {vc0_1:PV} (h:qdb pg x1 b3 g4 o4 g9 o9 g10 o10 v11 v12 xc0_0 vc0_1 gh=some (e,s)):runL pg qr ⟨[(1,I x1),(3,B b3),(4,.ptr true g4 o4),(8,.ptr false 0 0),(9,.ptr true g9 o9),(10,.ptr true g10 o10),(11,v11),(12,v12)],[[I xc0_0,vc0_1]],gh⟩=some (e,s):=
 jqr q8 (Eq.trans (by kernel_rfl) h)
def q8a (pg:Prg) (x1:Int) (b3:Bool) (g4 o4:Nat) (g9 o9:Nat) (g10 o10:Nat) (v11 v12:PV) (xc0_0:Int) (vc0_1:PV) (gh:List GObj):DR:=
  ob (ghCells gh g4) fun cs1=>
  ob (grab false 1 (o4+6) cs1) fun v2=>isC (degr v2) (arK (degr (degr v2)) (
  callR gh true (callL pg 45 [(degr (degr v2)),I 1] gh) fun r3 gh4=>unB r3 fun b5=>stK 1 v11 (stK 1 v12 (
  br 183 (!b5) (stK 1 v11 (stK 1 v12 (stK 1 v11 (stK 1 v12 (
  kR (runL pg q5p ⟨[(1,I x1),(3,B b3),(4,.ptr true g4 o4),(8,.ptr false 0 0),(9,.ptr true g9 o9),(10,.ptr true g10 o10),(11,v11),(12,v12),(20,.sl true 1 []),(21,I 0)],[[I xc0_0,vc0_1]],gh4⟩) (fun e s=>nx e s (fun e s=>po [1,3,4,8,9,10,11,12] 1 e s (fun e s=>nx e s (fun e s=>some (e,s)) fun s=>kR (runL pg qr s) (fun e s=>some (e,s)))) fun s=>kR (runL pg q2l s) (fun e s=>po [1,3,4,8,9,10,11,12] 1 e s (fun e s=>nx e s (fun e s=>some (e,s)) fun s=>kR (runL pg qr s) (fun e s=>some (e,s)))))))))) (stK 1 v11 (stK 1 v12 (
  kR (runL pg qr ⟨[(1,I x1),(3,B b3),(4,.ptr true g4 o4),(8,.ptr false 0 0),(9,.ptr true g9 o9),(10,.ptr true g10 o10),(11,v11),(12,v12)],[[I xc0_0,vc0_1]],gh4⟩) (fun e s=>some (e,s)))))))))
theorem q8a_ {x1:Int} {b3:Bool} {g4 o4:Nat} {g9 o9:Nat} {g10 o10:Nat} {v11 v12:PV} {xc0_0:Int} {vc0_1:PV} (h:q8a pg x1 b3 g4 o4 g9 o9 g10 o10 v11 v12 xc0_0 vc0_1 gh=some (e,s)):runL pg q2r ⟨[(1,I x1),(3,B b3),(4,.ptr true g4 o4),(8,.ptr false 0 0),(9,.ptr true g9 o9),(10,.ptr true g10 o10),(11,v11),(12,v12)],[[I xc0_0,vc0_1]],gh⟩=some (e,s):=
 jqr q8 (Eq.trans (by kernel_rfl) h)
def qdc (pg:Prg) (x1:Int) (b3:Bool) (g4 o4:Nat) (g9 o9:Nat) (g10 o10:Nat) (v11 v12:PV) (xc0_0:Int) (vc0_1:PV) (gh:List GObj):DR:=stK 1 v11 (stK 1 v12 (
  kR (runL pg q5o ⟨[(1,I x1),(3,B b3),(4,.ptr true g4 o4),(8,.ptr false 0 0),(9,.ptr true g9 o9),(10,.ptr true g10 o10),(11,v11),(12,v12),(18,I 0)],[[I xc0_0,vc0_1]],gh⟩) (fun e s=>nx e s (fun e s=>some (e,s)) fun s=>kR (runL pg q2r s) (fun e s=>some (e,s)))))
theorem qdc_ {x1:Int} {b3:Bool} {g4 o4:Nat} {g9 o9:Nat} {g10 o10:Nat} {v11 v12:PV} {xc0_0:Int} {vc0_1:PV} (h:qdc pg x1 b3 g4 o4 g9 o9 g10 o10 v11 v12 xc0_0 vc0_1 gh=some (e,s)):runL pg q2s ⟨[(1,I x1),(3,B b3),(4,.ptr true g4 o4),(8,.ptr false 0 0),(9,.ptr true g9 o9),(10,.ptr true g10 o10),(11,v11),(12,v12)],[[I xc0_0,vc0_1]],gh⟩=some (e,s):=
 jqr q8 (Eq.trans (by kernel_rfl) h)
def qdd (pg:Prg) (x1:Int) (b2 b3:Bool) (g4 o4:Nat) (g9 o9:Nat) (g10 o10:Nat) (v11 v12:PV) (xc0_0:Int) (vc0_1:PV) (gh:List GObj):DR:=stK 1 v11 (stK 1 v12 (
  kR (runL pg q1m ⟨[(1,I x1),(2,B b2),(3,B b3),(4,.ptr true g4 o4),(8,.ptr false 0 0),(9,.ptr true g9 o9),(10,.ptr true g10 o10),(11,v11),(12,v12),(17,I 0)],[[I xc0_0,vc0_1]],gh⟩) (fun e s=>nx e s (fun e s=>some (e,s)) fun s=>kR (runL pg q2s s) (fun e s=>some (e,s)))))
theorem qdd_ {x1:Int} {b2 b3:Bool} {g4 o4:Nat} {g9 o9:Nat} {g10 o10:Nat} {v11 v12:PV} {xc0_0:Int} {vc0_1:PV} (h:qdd pg x1 b2 b3 g4 o4 g9 o9 g10 o10 v11 v12 xc0_0 vc0_1 gh=some (e,s)):runL pg q2t ⟨[(1,I x1),(2,B b2),(3,B b3),(4,.ptr true g4 o4),(8,.ptr false 0 0),(9,.ptr true g9 o9),(10,.ptr true g10 o10),(11,v11),(12,v12)],[[I xc0_0,vc0_1]],gh⟩=some (e,s):=
 jqr q8 (Eq.trans (by kernel_rfl) h)
def qde (pg:Prg) (x1:Int) (b2 b3:Bool) (g4 o4:Nat) (g9 o9:Nat) (g10 o10:Nat) (v11 v12:PV) (xc0_0:Int) (vc0_1:PV) (gh:List GObj):DR:=stK 1 v11 (stK 1 v12 (
  kR (runL pg q5m ⟨[(1,I x1),(2,B b2),(3,B b3),(4,.ptr true g4 o4),(8,.ptr false 0 0),(9,.ptr true g9 o9),(10,.ptr true g10 o10),(11,v11),(12,v12),(14,I 1)],[[I xc0_0,vc0_1]],gh⟩) (fun e s=>nx e s (fun e s=>some (e,s)) fun s=>kR (runL pg q2t s) (fun e s=>some (e,s)))))
theorem qde_ {x1:Int} {b2 b3:Bool} {g4 o4:Nat} {g9 o9:Nat} {g10 o10:Nat} {v11 v12:PV} {xc0_0:Int} {vc0_1:PV} (h:qde pg x1 b2 b3 g4 o4 g9 o9 g10 o10 v11 v12 xc0_0 vc0_1 gh=some (e,s)):runL pg q2u ⟨[(1,I x1),(2,B b2),(3,B b3),(4,.ptr true g4 o4),(8,.ptr false 0 0),(9,.ptr true g9 o9),(10,.ptr true g10 o10),(11,v11),(12,v12)],[[I xc0_0,vc0_1]],gh⟩=some (e,s):=
 jqr q8 (Eq.trans (by kernel_rfl) h)
def qdf (pg:Prg) (x0_0:Int) (v0_1:PV) (x0_2 x0_3:Int) (v0_4 v0_5:PV) (v0_6 v0_7:PV) (x1:Int) (b2 b3:Bool) (gh:List GObj):DR:=onK (degr1 v0_1) (onK (degr1 v0_4) (onK (degr1 v0_5) (onK (degr1 v0_6) (onK (degr1 v0_7) (
  ob (ghCells (gh++[.cells [I x0_0,(degr1 v0_1),I x0_2,I x0_3,(degr1 v0_4),(degr1 v0_5),(degr1 v0_6),(degr1 v0_7)]]) (List.length gh)) fun cs1=>
  ob (grab false 1 0 cs1) fun v2=>unI .i64 (degr v2) fun n3=>
  ob (ghCells (gh++[.cells [I x0_0,(degr1 v0_1),I x0_2,I x0_3,(degr1 v0_4),(degr1 v0_5),(degr1 v0_6),(degr1 v0_7)]]) (List.length gh)) fun cs4=>
  ob (grab false 1 1 cs4) fun v5=>isC (degr v5) (lenS (degr (degr v5)) fun n6=>
  ob (ghCells ((gh++[.cells [I x0_0,(degr1 v0_1),I x0_2,I x0_3,(degr1 v0_4),(degr1 v0_5),(degr1 v0_6),(degr1 v0_7)]])++[.cells [I 0]]) (List.length (gh++[.cells [I x0_0,(degr1 v0_1),I x0_2,I x0_3,(degr1 v0_4),(degr1 v0_5),(degr1 v0_6),(degr1 v0_7)]]))) fun cs7=>gb (stOk 1 0 [(I (IntKind.i64.wrap (n3+(n6:Int))))] cs7) (
  ob (ghCells (List.set ((gh++[.cells [I x0_0,(degr1 v0_1),I x0_2,I x0_3,(degr1 v0_4),(degr1 v0_5),(degr1 v0_6),(degr1 v0_7)]])++[.cells [I 0]]) (List.length (gh++[.cells [I x0_0,(degr1 v0_1),I x0_2,I x0_3,(degr1 v0_4),(degr1 v0_5),(degr1 v0_6),(degr1 v0_7)]])) (.cells (spliceAt cs7 0 [(I (IntKind.i64.wrap (n3+(n6:Int))))]))) (List.length (gh++[.cells [I x0_0,(degr1 v0_1),I x0_2,I x0_3,(degr1 v0_4),(degr1 v0_5),(degr1 v0_6),(degr1 v0_7)]]))) fun cs8=>
  ob (grab false 1 0 cs8) fun v9=>unI .i64 (degr v9) fun n10=>
  ob (ghCells ((List.set ((gh++[.cells [I x0_0,(degr1 v0_1),I x0_2,I x0_3,(degr1 v0_4),(degr1 v0_5),(degr1 v0_6),(degr1 v0_7)]])++[.cells [I 0]]) (List.length (gh++[.cells [I x0_0,(degr1 v0_1),I x0_2,I x0_3,(degr1 v0_4),(degr1 v0_5),(degr1 v0_6),(degr1 v0_7)]])) (.cells (spliceAt cs7 0 [(I (IntKind.i64.wrap (n3+(n6:Int))))])))++[.cells [I 0,.sl true 1 []]]) (List.length (List.set ((gh++[.cells [I x0_0,(degr1 v0_1),I x0_2,I x0_3,(degr1 v0_4),(degr1 v0_5),(degr1 v0_6),(degr1 v0_7)]])++[.cells [I 0]]) (List.length (gh++[.cells [I x0_0,(degr1 v0_1),I x0_2,I x0_3,(degr1 v0_4),(degr1 v0_5),(degr1 v0_6),(degr1 v0_7)]])) (.cells (spliceAt cs7 0 [(I (IntKind.i64.wrap (n3+(n6:Int))))]))))) fun cs11=>gb (stOk 2 0 [(I (IntKind.i64.wrap (n10*(IntKind.i64.wrap (x1+1))))),.sl true 1 []] cs11) (
  kR (runL pg q5k ⟨[(1,I x1),(2,B b2),(3,B b3),(4,(.ptr true (List.length gh) 0)),(8,.ptr false 0 0),(9,(.ptr true (List.length (gh++[.cells [I x0_0,(degr1 v0_1),I x0_2,I x0_3,(degr1 v0_4),(degr1 v0_5),(degr1 v0_6),(degr1 v0_7)]])) 0)),(10,(.ptr true (List.length (List.set ((gh++[.cells [I x0_0,(degr1 v0_1),I x0_2,I x0_3,(degr1 v0_4),(degr1 v0_5),(degr1 v0_6),(degr1 v0_7)]])++[.cells [I 0]]) (List.length (gh++[.cells [I x0_0,(degr1 v0_1),I x0_2,I x0_3,(degr1 v0_4),(degr1 v0_5),(degr1 v0_6),(degr1 v0_7)]])) (.cells (spliceAt cs7 0 [(I (IntKind.i64.wrap (n3+(n6:Int))))])))) 0)),(11,(.fn 338 [(.ptr true (List.length (List.set ((gh++[.cells [I x0_0,(degr1 v0_1),I x0_2,I x0_3,(degr1 v0_4),(degr1 v0_5),(degr1 v0_6),(degr1 v0_7)]])++[.cells [I 0]]) (List.length (gh++[.cells [I x0_0,(degr1 v0_1),I x0_2,I x0_3,(degr1 v0_4),(degr1 v0_5),(degr1 v0_6),(degr1 v0_7)]])) (.cells (spliceAt cs7 0 [(I (IntKind.i64.wrap (n3+(n6:Int))))])))) 0)])),(12,(.fn 339 [(.ptr true (List.length (gh++[.cells [I x0_0,(degr1 v0_1),I x0_2,I x0_3,(degr1 v0_4),(degr1 v0_5),(degr1 v0_6),(degr1 v0_7)]])) 0),(.ptr true (List.length gh) 0)])),(13,I 0)],[[I 0,.sl true 1 []]],(List.set ((List.set ((gh++[.cells [I x0_0,(degr1 v0_1),I x0_2,I x0_3,(degr1 v0_4),(degr1 v0_5),(degr1 v0_6),(degr1 v0_7)]])++[.cells [I 0]]) (List.length (gh++[.cells [I x0_0,(degr1 v0_1),I x0_2,I x0_3,(degr1 v0_4),(degr1 v0_5),(degr1 v0_6),(degr1 v0_7)]])) (.cells (spliceAt cs7 0 [(I (IntKind.i64.wrap (n3+(n6:Int))))])))++[.cells [I 0,.sl true 1 []]]) (List.length (List.set ((gh++[.cells [I x0_0,(degr1 v0_1),I x0_2,I x0_3,(degr1 v0_4),(degr1 v0_5),(degr1 v0_6),(degr1 v0_7)]])++[.cells [I 0]]) (List.length (gh++[.cells [I x0_0,(degr1 v0_1),I x0_2,I x0_3,(degr1 v0_4),(degr1 v0_5),(degr1 v0_6),(degr1 v0_7)]])) (.cells (spliceAt cs7 0 [(I (IntKind.i64.wrap (n3+(n6:Int))))])))) (.cells (spliceAt cs11 0 [(I (IntKind.i64.wrap (n10*(IntKind.i64.wrap (x1+1))))),.sl true 1 []])))⟩) (fun e s=>nx e s (fun e s=>some (e,s)) fun s=>kR (runL pg q2u s) (fun e s=>some (e,s)))))))))))
theorem qdf_ {x0_0:Int} {v0_1:PV} {x0_2 x0_3:Int} {v0_4 v0_5:PV} {v0_6 v0_7:PV} {x1:Int} {b2 b3:Bool} (h:qdf pg x0_0 v0_1 x0_2 x0_3 v0_4 v0_5 v0_6 v0_7 x1 b2 b3 gh=some (e,s)):runL pg q5v ⟨[(0,.agg [I x0_0,v0_1,I x0_2,I x0_3,v0_4,v0_5,v0_6,v0_7]),(1,I x1),(2,B b2),(3,B b3)],[],gh⟩=some (e,s):=
 jqr q8 (Eq.trans (by kernel_rfl) h)
end
end Go.Lw
end

/-! What the code of function ref_StepClauses_1 comes to, piece by piece. Written by program (dprint.py). -/
section
set_option maxRecDepth 10000
set_option maxHeartbeats 4000000
namespace Go.Lw
open Go
noncomputable section
variable {pg:Prg} {gh:List GObj} {e:IExit} {s:St}
def qqn:Tr:=(tO 5 (tG 1 (uO 0) (uO 4)) (tO 7 (uO 6) .nil))
def qdg (pg:Prg) (v0:PV) (g1 o1:Nat) (gh:List GObj):DR:=
  ob (ghCells gh g1) fun cs1=>ob (cs1[(o1+1)]?) fun v2=>isC (degr v0) (arK (degr (degr v0)) (lnK 1 (degr (degr v0)) (
  apX 1 24 v2 (.sl false 1 [(degr (degr v0))]) fun l3=>
  ob (ghCells (List.set gh g1 (.cells (spliceAt cs1 (o1+1) [degr1 v2]))) g1) fun cs4=>gb (stOk 1 (o1+1) [.sl true 1 l3] cs4) (some (.normal,⟨[],[],(List.set (List.set gh g1 (.cells (spliceAt cs1 (o1+1) [degr1 v2]))) g1 (.cells (spliceAt cs4 (o1+1) [.sl true 1 l3])))⟩)))))
theorem qdg_ {v0:PV} {g1 o1:Nat} (h:qdg pg v0 g1 o1 gh=some (e,s)):runL pg q5x ⟨[(0,v0),(1,.ptr true g1 o1)],[],gh⟩=some (e,s):=
 jqr qqn (Eq.trans (by kernel_rfl) h)
end
end Go.Lw
end

/-! What the code of function ref_StepClauses_2 comes to, piece by piece. Written by program (dprint.py). -/
section
set_option maxRecDepth 10000
set_option maxHeartbeats 4000000
namespace Go.Lw
open Go
noncomputable section
variable {pg:Prg} {gh:List GObj} {e:IExit} {s:St}
def qqo:Tr:=(tI 8 (tG 3 (tI 1 (uI 0) (uG 2)) (tI 7 (uI 6) .nil)) (tI 13 (tI 10 (uI 9) (uI 12)) (tI 15 (uI 14) .nil)))
def qdh (pg:Prg) (x0 x1:Int) (g2 o2:Nat) (g3 o3:Nat) (gh:List GObj):DR:=
  ob (ghCells gh g2) fun cs1=>
  ob (grab false 1 o2 cs1) fun v2=>unI .i64 (degr v2) fun n3=>
  ob (ghCells gh g3) fun cs4=>
  ob (grab false 1 (o3+2) cs4) fun v5=>unI .i64 (degr v5) fun n6=>some (.ret,⟨[(6,(I (IntKind.i64.wrap ((IntKind.i64.wrap ((IntKind.i64.wrap ((IntKind.i64.wrap (x0*n3))+1))+n6))+x1))))],[],gh⟩)
theorem qdh_ {x0 x1:Int} {g2 o2:Nat} {g3 o3:Nat} (h:qdh pg x0 x1 g2 o2 g3 o3 gh=some (e,s)):runL pg qag ⟨[(0,I x0),(1,I x1),(2,.ptr true g2 o2),(3,.ptr true g3 o3)],[],gh⟩=some (e,s):=
 jqr qqo (Eq.trans (by kernel_rfl) h)
end
end Go.Lw
end

/-! What the code of function prove_Different comes to, piece by piece. Written by program (dprint.py). -/
section
set_option maxRecDepth 10000
set_option maxHeartbeats 4000000
namespace Go.Lw
open Go
noncomputable section
variable {pg:Prg} {gh:List GObj} {e:IExit} {s:St}
def qqp:Tr:=(tI 10 (tI 5 (tG 2 (tI 1 (.node 0 (.agg [.int .i64,.any,.int .i64,.int .i64,.any,.any,.any,.any]) .nil .nil) .nil) (uG 3)) (tI 8 (.node 7 (.agg [.int .i64,.any,.int .i64,.int .i64,.any,.any,.any,.any]) (uI 6) .nil) (uI 9))) (tI 15 (tI 13 (.node 12 (.agg [.int .i64,.any]) (uB 11) .nil) (.node 14 (.agg [.int .i64,.any,.int .i64,.int .i64,.any,.any,.any,.any]) .nil .nil)) (.node 18 (.agg [.int .i64,.any]) (.node 17 (.tup 2) (uO 16) .nil) (uI 19))))
def q8b (pg:Prg) (x0_0:Int) (v0_1:PV) (x0_2 x0_3:Int) (v0_4 v0_5:PV) (v0_6 v0_7:PV) (x1:Int) (gh:List GObj):DR:=onK (degr1 v0_1) (onK (degr1 v0_4) (onK (degr1 v0_5) (onK (degr1 v0_6) (onK (degr1 v0_7) (
  ob (ghCells ((gh++[.cells [I x0_0,(degr1 v0_1),I x0_2,I x0_3,(degr1 v0_4),(degr1 v0_5),(degr1 v0_6),(degr1 v0_7)]])++[.cells [I x1]]) (List.length gh)) fun cs1=>
  ob (grab true 8 0 cs1) fun v2=>unA 8 (degr v2) fun c3 c4 c5 c6 c7 c8 c9 c10=>unI .i64 c3 fun n11=>unI .i64 c5 fun n12=>unI .i64 c6 fun n13=>
  ob (ghCells ((gh++[.cells [I x0_0,(degr1 v0_1),I x0_2,I x0_3,(degr1 v0_4),(degr1 v0_5),(degr1 v0_6),(degr1 v0_7)]])++[.cells [I x1]]) (List.length (gh++[.cells [I x0_0,(degr1 v0_1),I x0_2,I x0_3,(degr1 v0_4),(degr1 v0_5),(degr1 v0_6),(degr1 v0_7)]]))) fun cs14=>
  ob (grab false 1 0 cs14) fun v15=>unI .i64 (degr v15) fun n16=>onK (degr1 c4) (onK (degr1 c7) (onK (degr1 c8) (onK (degr1 c9) (onK (degr1 c10) (
  callR ((gh++[.cells [I x0_0,(degr1 v0_1),I x0_2,I x0_3,(degr1 v0_4),(degr1 v0_5),(degr1 v0_6),(degr1 v0_7)]])++[.cells [I x1]]) true (callL pg 336 [(.agg [I n11,(degr1 c4),I n12,I n13,(degr1 c7),(degr1 c8),(degr1 c9),(degr1 c10)]),I n16,B false] ((gh++[.cells [I x0_0,(degr1 v0_1),I x0_2,I x0_3,(degr1 v0_4),(degr1 v0_5),(degr1 v0_6),(degr1 v0_7)]])++[.cells [I x1]])) fun r17 gh18=>unI .i64 r17 fun n19=>
  br 11 (n19 !=0) (some (.ret,⟨[(4,.ptr false 0 0),(5,I n19)],[[I 0,.sl true 1 []]],gh18⟩)) (
  ob (ghCells gh18 (List.length gh)) fun cs20=>
  ob (grab true 8 0 cs20) fun v21=>unA 8 (degr v21) fun c22 c23 c24 c25 c26 c27 c28 c29=>unI .i64 c22 fun n30=>unI .i64 c24 fun n31=>unI .i64 c25 fun n32=>
  ob (ghCells gh18 (List.length (gh++[.cells [I x0_0,(degr1 v0_1),I x0_2,I x0_3,(degr1 v0_4),(degr1 v0_5),(degr1 v0_6),(degr1 v0_7)]]))) fun cs33=>
  ob (grab false 1 0 cs33) fun v34=>unI .i64 (degr v34) fun n35=>onK (degr1 c23) (onK (degr1 c26) (onK (degr1 c27) (onK (degr1 c28) (onK (degr1 c29) (
  callR gh18 true (callL pg 265 [(.agg [I n30,(degr1 c23),I n31,I n32,(degr1 c26),(degr1 c27),(degr1 c28),(degr1 c29)]),I n35,(.fn 341 [(.ptr true (List.length gh) 0),(.ptr true (List.length (gh++[.cells [I x0_0,(degr1 v0_1),I x0_2,I x0_3,(degr1 v0_4),(degr1 v0_5),(degr1 v0_6),(degr1 v0_7)]])) 0)])] gh18) fun r36 gh37=>unT 2 r36 fun r38 r39=>unA 2 (degr1 r38) fun c40 c41=>unI .i64 c40 fun n42=>unI .i64 (degr1 r39) fun n43=>onK c41 (some (.ret,⟨[(4,.ptr false 0 0),(5,I n43)],[[I n42,c41]],gh37⟩))))))))))))))))))
theorem q8b_ {x0_0:Int} {v0_1:PV} {x0_2 x0_3:Int} {v0_4 v0_5:PV} {v0_6 v0_7:PV} {x1:Int} (h:q8b pg x0_0 v0_1 x0_2 x0_3 v0_4 v0_5 v0_6 v0_7 x1 gh=some (e,s)):runL pg q9b ⟨[(0,.agg [I x0_0,v0_1,I x0_2,I x0_3,v0_4,v0_5,v0_6,v0_7]),(1,I x1)],[],gh⟩=some (e,s):=
 jqr qqp (Eq.trans (by kernel_rfl) h)
end
end Go.Lw
end

/-! What the code of function prove_Different_1 comes to, piece by piece. Written by program (dprint.py). -/
section
set_option maxRecDepth 10000
set_option maxHeartbeats 4000000
namespace Go.Lw
open Go
noncomputable section
variable {pg:Prg} {gh:List GObj} {e:IExit} {s:St}
def qqq:Tr:=(.node 3 (.agg [.int .i64,.any,.int .i64,.int .i64,.any,.any,.any,.any]) (tG 1 (uG 0) .nil) (.node 5 (.agg [.int .i64,.any]) (uI 4) .nil))
def qdi (pg:Prg) (g0 o0:Nat) (g1 o1:Nat) (gh:List GObj):DR:=
  ob (ghCells gh g0) fun cs1=>
  ob (grab true 8 o0 cs1) fun v2=>unA 8 (degr v2) fun c3 c4 c5 c6 c7 c8 c9 c10=>unI .i64 c3 fun n11=>unI .i64 c5 fun n12=>unI .i64 c6 fun n13=>
  ob (ghCells gh g1) fun cs14=>
  ob (grab false 1 o1 cs14) fun v15=>unI .i64 (degr v15) fun n16=>onK (degr1 c4) (onK (degr1 c7) (onK (degr1 c8) (onK (degr1 c9) (onK (degr1 c10) (
  callR gh true (callL pg 275 [(.agg [I n11,(degr1 c4),I n12,I n13,(degr1 c7),(degr1 c8),(degr1 c9),(degr1 c10)]),I n16] gh) fun r17 gh18=>unA 2 r17 fun c19 c20=>unI .i64 c19 fun n21=>onK c20 (some (.ret,⟨[(2,.ptr false 0 0)],[[I n21,c20]],gh18⟩)))))))
theorem qdi_ {g0 o0:Nat} {g1 o1:Nat} (h:qdi pg g0 o0 g1 o1 gh=some (e,s)):runL pg q9c ⟨[(0,.ptr true g0 o0),(1,.ptr true g1 o1)],[],gh⟩=some (e,s):=
 jqr qqq (Eq.trans (by kernel_rfl) h)
end
end Go.Lw
end

/-! What the code of function law_ProveDifferents comes to, piece by piece. Written by program (dprint.py). -/
section
set_option maxRecDepth 10000
set_option maxHeartbeats 4000000
namespace Go.Lw
open Go
noncomputable section
variable {pg:Prg} {gh:List GObj} {e:IExit} {s:St}
def q8c:Tr:=(tI 30 (.node 15 (.agg [.int .i64,.any,.int .i64,.int .i64,.any,.any,.any,.any]) (.node 9 (.tup 2) (tB 4 (tI 1 (.node 0 (.agg [.int .i64,.any,.int .i64,.int .i64,.any,.any,.any,.any]) .nil .nil) .nil) (tI 7 (uI 6) .nil)) (.node 12 (.tup 2) (tI 11 (.node 10 (.agg [.int .i64,.any,.int .i64,.int .i64,.any,.any,.any,.any]) .nil .nil) .nil) (tI 14 (.node 13 (.agg [.int .i64,.any]) .nil .nil) .nil))) (tB 21 (.node 18 (.agg [.int .i64,.any]) (tI 17 (uI 16) .nil) (tB 20 (uI 19) .nil)) (tI 28 (tO 27 (uI 24) .nil) (uI 29)))) (.node 41 (.tup 2) (tB 36 (tB 33 (tI 32 (uI 31) .nil) (tI 35 (uB 34) .nil)) (tI 39 (.node 38 (.agg [.int .i64,.any,.int .i64,.int .i64,.any,.any,.any,.any]) (.node 37 (.tup 2) .nil .nil) .nil) (.node 40 (.agg [.int .i64,.any]) .nil .nil))) (tI 47 (tB 44 (tI 43 (.node 42 (.agg [.int .i64,.any]) .nil .nil) .nil) (.node 46 (.agg [.int .i64,.any]) (uB 45) .nil)) (tB 50 (.node 49 (.agg [.int .i64,.any]) (uI 48) .nil) (uB 51)))))
def qdj (pg:Prg) (x6 x7 xc0_0:Int) (vc0_1:PV) (xc0_2 xc0_3:Int) (vc0_4 vc0_5:PV) (vc0_6 vc0_7:PV) (xc1_0:Int) (vc1_1:PV) (xc2_0:Int) (vc2_1:PV) (gh:List GObj):DR:=
  callR gh true (callL pg 335 [] gh) fun r1 gh2=>unB r1 fun b3=>
  br 45 b3 (onK (degr1 (degr1 vc1_1)) (onK (degr1 (degr1 vc2_1)) (
  callR gh2 true (callL pg 19 [(.agg [I xc1_0,(degr1 (degr1 vc1_1))]),I x6,I x7,(.agg [I xc2_0,(degr1 (degr1 vc2_1))])] gh2) fun r4 gh5=>unB r4 fun b6=>some (.ret,⟨[(4,B b6)],[],gh5⟩)))) (some (.ret,⟨[(4,B false)],[],gh2⟩))
theorem qdj_ {x6 x7 xc0_0:Int} {vc0_1:PV} {xc0_2 xc0_3:Int} {vc0_4 vc0_5:PV} {vc0_6 vc0_7:PV} {xc1_0:Int} {vc1_1:PV} {xc2_0:Int} {vc2_1:PV} (h:qdj pg x6 x7 xc0_0 vc0_1 xc0_2 xc0_3 vc0_4 vc0_5 vc0_6 vc0_7 xc1_0 vc1_1 xc2_0 vc2_1 gh=some (e,s)):runL pg q1a ⟨[(5,.ptr false 1 0),(6,I x6),(7,I x7),(8,.ptr false 2 0)],[[I xc0_0,vc0_1,I xc0_2,I xc0_3,vc0_4,vc0_5,vc0_6,vc0_7],[I xc1_0,vc1_1],[I xc2_0,vc2_1]],gh⟩=some (e,s):=
 jqr q8c (Eq.trans (by kernel_rfl) h)
def q3q (pg:Prg) (x1 x6:Int) (x7 xc0_0:Int) (vc0_1:PV) (xc0_2 xc0_3:Int) (vc0_4 vc0_5:PV) (vc0_6 vc0_7:PV) (xc1_0:Int) (vc1_1:PV) (xc2_0:Int) (vc2_1:PV) (gh:List GObj):DR:=
  br 36 (x7==0) (onK (degr1 (degr1 vc0_1)) (onK (degr1 (degr1 vc0_4)) (onK (degr1 (degr1 vc0_5)) (onK (degr1 (degr1 vc0_6)) (onK (degr1 (degr1 vc0_7)) (
  callR gh true (callL pg 331 [(.agg [I xc0_0,(degr1 (degr1 vc0_1)),I xc0_2,I xc0_3,(degr1 (degr1 vc0_4)),(degr1 (degr1 vc0_5)),(degr1 (degr1 vc0_6)),(degr1 (degr1 vc0_7))]),I x1,B false,B true] gh) fun r1 gh2=>unA 2 r1 fun c3 c4=>unI .i64 c3 fun n5=>onK (degr1 c4) (
  callR gh2 true (callL pg 58 [(.agg [I n5,(degr1 c4)])] gh2) fun r6 gh7=>unT 2 r6 fun r8 r9=>unA 2 (degr1 (degr1 r8)) fun c10 c11=>unI .i64 c10 fun n12=>unI .i64 (degr1 (degr1 r9)) fun n13=>onK c11 (
  kR (runL pg q1a ⟨[(5,.ptr false 1 0),(6,I x6),(7,I n13),(8,.ptr false 2 0)],[[I xc0_0,vc0_1,I xc0_2,I xc0_3,vc0_4,vc0_5,vc0_6,vc0_7],[I xc1_0,vc1_1],[I n12,c11]],gh7⟩) (fun e s=>some (e,s)))))))))) (
  kR (runL pg q1a ⟨[(5,.ptr false 1 0),(6,I x6),(7,I x7),(8,.ptr false 2 0)],[[I xc0_0,vc0_1,I xc0_2,I xc0_3,vc0_4,vc0_5,vc0_6,vc0_7],[I xc1_0,vc1_1],[I xc2_0,vc2_1]],gh⟩) (fun e s=>some (e,s)))
theorem q3q_ {x1 x6:Int} {x7 xc0_0:Int} {vc0_1:PV} {xc0_2 xc0_3:Int} {vc0_4 vc0_5:PV} {vc0_6 vc0_7:PV} {xc1_0:Int} {vc1_1:PV} {xc2_0:Int} {vc2_1:PV} (h:q3q pg x1 x6 x7 xc0_0 vc0_1 xc0_2 xc0_3 vc0_4 vc0_5 vc0_6 vc0_7 xc1_0 vc1_1 xc2_0 vc2_1 gh=some (e,s)):runL pg qh ⟨[(1,I x1),(2,.ptr false 0 0),(5,.ptr false 1 0),(6,I x6),(7,I x7),(8,.ptr false 2 0)],[[I xc0_0,vc0_1,I xc0_2,I xc0_3,vc0_4,vc0_5,vc0_6,vc0_7],[I xc1_0,vc1_1],[I xc2_0,vc2_1]],gh⟩=some (e,s):=
 jqr q8c (Eq.trans (by kernel_rfl) h)
def q3r (pg:Prg) (x0_0:Int) (v0_1:PV) (x0_2 x0_3:Int) (v0_4 v0_5:PV) (v0_6 v0_7:PV) (x1:Int) (gh:List GObj):DR:=onK (degr1 v0_1) (onK (degr1 v0_4) (onK (degr1 v0_5) (onK (degr1 v0_6) (onK (degr1 v0_7) (onK (degr1 (degr1 (degr1 v0_1))) (onK (degr1 (degr1 (degr1 v0_4))) (onK (degr1 (degr1 (degr1 v0_5))) (onK (degr1 (degr1 (degr1 v0_6))) (onK (degr1 (degr1 (degr1 v0_7))) (
  callR gh true (callL pg 334 [(.agg [I x0_0,(degr1 (degr1 (degr1 v0_1))),I x0_2,I x0_3,(degr1 (degr1 (degr1 v0_4))),(degr1 (degr1 (degr1 v0_5))),(degr1 (degr1 (degr1 v0_6))),(degr1 (degr1 (degr1 v0_7)))]),I x1] gh) fun r1 gh2=>unT 2 r1 fun r3 r4=>unA 2 (degr1 (degr1 r3)) fun c5 c6=>unI .i64 c5 fun n7=>unI .i64 (degr1 (degr1 r4)) fun n8=>onK c6 (onK (degr1 (degr1 (degr1 v0_1))) (onK (degr1 (degr1 (degr1 v0_4))) (onK (degr1 (degr1 (degr1 v0_5))) (onK (degr1 (degr1 (degr1 v0_6))) (onK (degr1 (degr1 (degr1 v0_7))) (
  callR gh2 true (callL pg 330 [(.agg [I x0_0,(degr1 (degr1 (degr1 v0_1))),I x0_2,I x0_3,(degr1 (degr1 (degr1 v0_4))),(degr1 (degr1 (degr1 v0_5))),(degr1 (degr1 (degr1 v0_6))),(degr1 (degr1 (degr1 v0_7)))]),I x1,B false] gh2) fun r9 gh10=>unI .i64 r9 fun n11=>
  br 21 (n11==0) (isC (degr (degr1 v0_1)) (lenS (degr (degr (degr1 v0_1))) fun n12=>
  br 34 (decide (200000<(IntKind.i64.wrap ((IntKind.i64.wrap (x0_0+(n12:Int)))*(IntKind.i64.wrap (x1+1)))))) (
  kR (runL pg qh ⟨[(1,I x1),(2,.ptr false 0 0),(5,.ptr false 1 0),(6,I n8),(7,I 3),(8,.ptr false 2 0)],[[I x0_0,(degr1 v0_1),I x0_2,I x0_3,(degr1 v0_4),(degr1 v0_5),(degr1 v0_6),(degr1 v0_7)],[I n7,c6],[I 0,.sl true 1 []]],gh10⟩) (fun e s=>some (e,s))) (
  kR (runL pg qh ⟨[(1,I x1),(2,.ptr false 0 0),(5,.ptr false 1 0),(6,I n8),(7,I n11),(8,.ptr false 2 0)],[[I x0_0,(degr1 v0_1),I x0_2,I x0_3,(degr1 v0_4),(degr1 v0_5),(degr1 v0_6),(degr1 v0_7)],[I n7,c6],[I 0,.sl true 1 []]],gh10⟩) (fun e s=>some (e,s))))) (
  kR (runL pg qh ⟨[(1,I x1),(2,.ptr false 0 0),(5,.ptr false 1 0),(6,I n8),(7,I n11),(8,.ptr false 2 0)],[[I x0_0,(degr1 v0_1),I x0_2,I x0_3,(degr1 v0_4),(degr1 v0_5),(degr1 v0_6),(degr1 v0_7)],[I n7,c6],[I 0,.sl true 1 []]],gh10⟩) (fun e s=>some (e,s)))))))))))))))))))
theorem q3r_ {x0_0:Int} {v0_1:PV} {x0_2 x0_3:Int} {v0_4 v0_5:PV} {v0_6 v0_7:PV} {x1:Int} (h:q3r pg x0_0 v0_1 x0_2 x0_3 v0_4 v0_5 v0_6 v0_7 x1 gh=some (e,s)):runL pg q45 ⟨[(0,.agg [I x0_0,v0_1,I x0_2,I x0_3,v0_4,v0_5,v0_6,v0_7]),(1,I x1)],[],gh⟩=some (e,s):=
 jqr q8c (Eq.trans (by kernel_rfl) h)
end
end Go.Lw
end
