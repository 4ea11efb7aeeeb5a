/-
  The texts that the proof stands on, part 11.
-/
import Derived.Test.YtmodipglnngghacDoorTextBackJ
import Derived.KernelRfl
set_option linter.unusedVariables false
set_option linter.unusedSimpArgs false
set_option linter.unnecessarySimpa false

/-! What the code of function word_Fit comes to, piece by piece. Written by program (dprint.py). -/
section
set_option maxRecDepth 10000
set_option maxHeartbeats 4000000
namespace Go.Lw
open Go
noncomputable section
variable {pg:Prg} {gh:List GObj} {e:IExit} {s:St}
def q4z:Tr:=(tI 29 (.node 16 (.tup 2) (tB 10 (.node 3 (.agg [.int .i64,.int .i64,.int .i64]) (tI 1 (uI 0) (uI 2)) (tI 9 (uI 8) .nil)) (.node 13 (.tup 2) (tI 12 (uI 11) .nil) (tI 15 (uO 14) .nil))) (tB 23 (tB 20 (tB 18 (uI 17) (uB 19)) (tB 22 (uI 21) .nil)) (tB 26 (tI 25 (.node 24 (.agg [.int .i64,.int .i64,.int .i64]) .nil .nil) .nil) (tI 28 (uI 27) .nil)))) (tB 42 (tB 36 (tB 33 (tI 31 (uI 30) (uB 32)) (tB 35 (uI 34) .nil)) (tI 39 (tB 38 (uB 37) .nil) (tI 41 (uI 40) .nil))) (tI 49 (tB 46 (tI 44 (uB 43) (uB 45)) (tI 48 (uB 47) .nil)) (.node 52 (.agg [.int .i64,.int .i64,.int .i64]) (tI 51 (uI 50) .nil) (tB 54 (uB 53) .nil)))))
def qo (pg:Prg) (x0 x1:Int) (x2 x9:Int) (x24_0 x24_1:Int) (x24_2 x25:Int) (xc0_0 xc0_1 xc0_2:Int) (gh:List GObj):DR:=
  br 26 (decide (x25<3)) (ixX (.agg [I x24_0,I x24_1,I x24_2]) 1 3 false x25 fun v1=>unI .i64 v1 fun n2=>
  callR gh true (callL pg 63 [I x0] gh) fun r3 gh4=>unI .i64 r3 fun n5=>
  br 33 (decide (x25<n5)) (
  callR gh4 true (callL pg 62 [I n2] gh4) fun r6 gh7=>unB r6 fun b8=>
  br 38 (!b8) (some (.ret,⟨[(8,I 3)],[],gh7⟩)) (
  callR gh7 true (callL pg 63 [I x0] gh7) fun r9 gh10=>unI .i64 r9 fun n11=>
  br 43 (decide (n11≤x25)) (
  br 47 (n2 !=0) (some (.ret,⟨[(8,I 3)],[],gh10⟩)) (some (.normal,⟨[(0,I x0),(1,I x1),(2,I x2),(7,.ptr false 0 0),(9,I x9),(24,.agg [I x24_0,I x24_1,I x24_2]),(25,(I (IntKind.i64.wrap (x25+1))))],[[I xc0_0,I xc0_1,I xc0_2]],gh10⟩))) (some (.normal,⟨[(0,I x0),(1,I x1),(2,I x2),(7,.ptr false 0 0),(9,I x9),(24,.agg [I x24_0,I x24_1,I x24_2]),(25,(I (IntKind.i64.wrap (x25+1))))],[[I xc0_0,I xc0_1,I xc0_2]],gh10⟩)))) (
  callR gh4 true (callL pg 63 [I x0] gh4) fun r12 gh13=>unI .i64 r12 fun n14=>
  br 43 (decide (n14≤x25)) (
  br 47 (n2 !=0) (some (.ret,⟨[(8,I 3)],[],gh13⟩)) (some (.normal,⟨[(0,I x0),(1,I x1),(2,I x2),(7,.ptr false 0 0),(9,I x9),(24,.agg [I x24_0,I x24_1,I x24_2]),(25,(I (IntKind.i64.wrap (x25+1))))],[[I xc0_0,I xc0_1,I xc0_2]],gh13⟩))) (some (.normal,⟨[(0,I x0),(1,I x1),(2,I x2),(7,.ptr false 0 0),(9,I x9),(24,.agg [I x24_0,I x24_1,I x24_2]),(25,(I (IntKind.i64.wrap (x25+1))))],[[I xc0_0,I xc0_1,I xc0_2]],gh13⟩)))) (some ((.exit 0),⟨[(0,I x0),(1,I x1),(2,I x2),(7,.ptr false 0 0),(9,I x9),(24,.agg [I x24_0,I x24_1,I x24_2]),(25,I x25),(26,(B (decide (x25<3))))],[[I xc0_0,I xc0_1,I xc0_2]],gh⟩))
theorem qo_ {x0 x1:Int} {x2 x9:Int} {x24_0 x24_1:Int} {x24_2 x25:Int} {xc0_0 xc0_1 xc0_2:Int} (h:qo pg x0 x1 x2 x9 x24_0 x24_1 x24_2 x25 xc0_0 xc0_1 xc0_2 gh=some (e,s)):runL pg q7k ⟨[(0,I x0),(1,I x1),(2,I x2),(7,.ptr false 0 0),(9,I x9),(24,.agg [I x24_0,I x24_1,I x24_2]),(25,I x25)],[[I xc0_0,I xc0_1,I xc0_2]],gh⟩=some (e,s):=
 jae q4z (Eq.trans (by kernel_rfl) h)
def q2p (pg:Prg) (x1 x2:Int) (x9 xc0_0:Int) (xc0_1 xc0_2:Int) (gh:List GObj):DR:=
  callR gh true (callL pg 64 [I x9,I x1,I x2,.agg [I xc0_0,I xc0_1,I xc0_2]] gh) fun r1 gh2=>unB r1 fun b3=>
  br 54 (!b3) (some (.ret,⟨[(8,I 1)],[],gh2⟩)) (some (.ret,⟨[(8,I 0)],[],gh2⟩))
theorem q2p_ {x1 x2:Int} {x9 xc0_0:Int} {xc0_1 xc0_2:Int} (h:q2p pg x1 x2 x9 xc0_0 xc0_1 xc0_2 gh=some (e,s)):runL pg q4s ⟨[(1,I x1),(2,I x2),(7,.ptr false 0 0),(9,I x9)],[[I xc0_0,I xc0_1,I xc0_2]],gh⟩=some (e,s):=
 jae q4z (Eq.trans (by kernel_rfl) h)
def q19 (pg:Prg) (x0 x1:Int) (x2 x3_0:Int) (x3_1 x3_2:Int) (gh:List GObj):DR:=
  callR gh false (callL pg 61 [] gh) fun r1 gh2=>isC r1 (
  lkX gh2 0 (degr r1) (I x0) fun r3=>unI .i64 (degr1 (degr1 (Option.getD r3 (I 0)))) fun n4=>
  br 20 (!(Option.isSome r3)) (some (.ret,⟨[(8,I 7)],[],gh2⟩)) (
  callR gh2 true (callL pg 62 [I x1] gh2) fun r5 gh6=>unB r5 fun b7=>
  br 23 (!b7) (some (.ret,⟨[(8,I 3)],[],gh6⟩)) (
  kR (runL pg q4r ⟨[(0,I x0),(1,I x1),(2,I x2),(7,.ptr false 0 0),(9,I n4),(24,.agg [I x3_0,I x3_1,I x3_2]),(25,I 0)],[[I x3_0,I x3_1,I x3_2]],gh6⟩) (fun e s=>nx e s (fun e s=>some (e,s)) fun s=>kR (runL pg q4s s) (fun e s=>some (e,s))))))
theorem q19_ {x0 x1:Int} {x2 x3_0:Int} {x3_1 x3_2:Int} (h:q19 pg x0 x1 x2 x3_0 x3_1 x3_2 gh=some (e,s)):runL pg q7l ⟨[(0,I x0),(1,I x1),(2,I x2),(3,.agg [I x3_0,I x3_1,I x3_2])],[],gh⟩=some (e,s):=
 jae q4z (Eq.trans (by kernel_rfl) h)
end
end Go.Lw
end

/-! What the code of function word_Takes comes to, piece by piece. Written by program (dprint.py). -/
section
set_option maxRecDepth 10000
set_option maxHeartbeats 4000000
namespace Go.Lw
open Go
noncomputable section
variable {pg:Prg} {gh:List GObj} {e:IExit} {s:St}
def q50:Tr:=(tB 7 (tI 4 (tI 2 (uI 0) (uO 3)) (tB 6 (uI 5) .nil)) (tB 11 (tB 9 (uB 8) (uB 10)) (tB 13 (uB 12) .nil)))
def q8j (pg:Prg) (x5:Int) (b8:Bool) (gh:List GObj):DR:=
  br 8 b8 (some (.ret,⟨[(2,I 1)],[],gh⟩)) (
  br 12 (x5==4) (some (.ret,⟨[(2,I 3)],[],gh⟩)) (some (.normal,⟨[(12,(B (x5==4)))],[],gh⟩)))
theorem q8j_ {x5:Int} {b8:Bool} (h:q8j pg x5 b8 gh=some (e,s)):runL pg q1t ⟨[(5,I x5),(8,B b8)],[],gh⟩=some (e,s):=
 jae q50 (Eq.trans (by kernel_rfl) h)
def q9n (pg:Prg) (b12:Bool) (gh:List GObj):DR:=some (.ret,⟨[(2,I 2)],[],gh⟩)
theorem q9n_ {b12:Bool} (h:q9n pg b12 gh=some (e,s)):runL pg q1u ⟨[(12,B b12)],[],gh⟩=some (e,s):=
 jae q50 (Eq.trans (by kernel_rfl) h)
def q1a (pg:Prg) (x0:Int) (gh:List GObj):DR:=
  callR gh false (callL pg 61 [] gh) fun r1 gh2=>isC r1 (
  lkX gh2 0 (degr r1) (I x0) fun r3=>unI .i64 (Option.getD r3 (I 0)) fun n4=>
  br 6 (n4==0) (some (.ret,⟨[(2,I 0)],[],gh2⟩)) (
  br 8 (n4==1) (
  kR (runL pg q1t ⟨[(5,I n4),(8,(B (n4==1)))],[],gh2⟩) (fun e s=>bk 0 e s (fun e s=>nx e s (fun e s=>some (e,s)) fun s=>kR (runL pg q1u s) (fun e s=>some (e,s))))) (
  br 8 (n4==6) (
  kR (runL pg q1t ⟨[(5,I n4),(8,(B (n4==6)))],[],gh2⟩) (fun e s=>bk 0 e s (fun e s=>nx e s (fun e s=>some (e,s)) fun s=>kR (runL pg q1u s) (fun e s=>some (e,s))))) (
  kR (runL pg q1t ⟨[(5,I n4),(8,(B (n4==7)))],[],gh2⟩) (fun e s=>bk 0 e s (fun e s=>nx e s (fun e s=>some (e,s)) fun s=>kR (runL pg q1u s) (fun e s=>some (e,s))))))))
theorem q1a_ {x0:Int} (h:q1a pg x0 gh=some (e,s)):runL pg q7o ⟨[(0,I x0)],[],gh⟩=some (e,s):=
 jae q50 (Eq.trans (by kernel_rfl) h)
end
end Go.Lw
end

/-! What the code of function word_IsWidth comes to, piece by piece. Written by program (dprint.py). -/
section
set_option maxRecDepth 10000
set_option maxHeartbeats 4000000
namespace Go.Lw
open Go
noncomputable section
variable {pg:Prg} {gh:List GObj} {e:IExit} {s:St}
def q9o:Tr:=(tB 5 (tI 3 (tB 2 (uI 0) .nil) (uB 4)) (tB 7 (uI 6) (uB 8)))
def q51 (pg:Prg) (x0:Int) (gh:List GObj):DR:=
  br 5 (decide (1≤x0)) (some (.ret,⟨[(2,(B (decide (x0≤8))))],[],gh⟩)) (some (.ret,⟨[(2,B false)],[],gh⟩))
theorem q51_ {x0:Int} (h:q51 pg x0 gh=some (e,s)):runL pg q7n ⟨[(0,I x0)],[],gh⟩=some (e,s):=
 jae q9o (Eq.trans (by kernel_rfl) h)
end
end Go.Lw
end

/-! What the code of function word_fits comes to, piece by piece. Written by program (dprint.py). -/
section
set_option maxRecDepth 10000
set_option maxHeartbeats 4000000
namespace Go.Lw
open Go
noncomputable section
variable {pg:Prg} {gh:List GObj} {e:IExit} {s:St}
def q9p:Tr:=(tB 44 (tB 22 (tI 12 (tB 8 (tI 2 (tI 1 (uI 0) .nil) (.node 3 (.agg [.int .i64,.int .i64,.int .i64]) .nil .nil)) (tB 10 (uI 9) (uB 11))) (tB 17 (tI 15 (tB 14 (uB 13) .nil) (uB 16)) (tI 20 (uI 19) (uB 21)))) (tB 33 (tB 28 (tI 26 (tI 25 (uB 23) .nil) (uB 27)) (tI 31 (uI 30) (uB 32))) (tB 40 (tI 37 (tB 35 (uB 34) .nil) (uI 39)) (tI 42 (uB 41) (uB 43))))) (tI 67 (tB 55 (tB 50 (tI 48 (tB 46 (uB 45) .nil) (uB 49)) (tI 53 (uI 52) (uB 54))) (tB 61 (tI 59 (tI 58 (uB 56) .nil) (uB 60)) (tB 63 (uB 62) (uI 65)))) (tI 76 (tB 72 (tB 70 (tI 69 (uI 68) .nil) (uB 71)) (tB 74 (uI 73) (uB 75))) (tB 82 (tI 80 (tI 79 (uI 78) .nil) (uB 81)) (tI 85 (uI 83) (uB 86))))))
def qi (pg:Prg) (x0 x1:Int) (x2 x3_0:Int) (x3_1 x3_2:Int) (gh:List GObj):DR:=
  br 11 (x2 !=0) (
  br 14 (x0 !=6) (some (.ret,⟨[(8,B false)],[],gh⟩)) (
  br 16 (x0==1) (some (.ret,⟨[(8,(B (x3_0==x1)))],[],gh⟩)) (
  br 22 (x0==2) (
  br 28 (x3_0==x1) (some (.ret,⟨[(8,(B (x3_1==x1)))],[],gh⟩)) (some (.ret,⟨[(8,B false)],[],gh⟩))) (
  br 34 (x0==3) (
  br 41 (x3_0==x3_1) (some (.ret,⟨[(8,(B (x1==1)))],[],gh⟩)) (some (.ret,⟨[(8,B false)],[],gh⟩))) (
  br 45 (x0==4) (
  br 50 (x3_0==1) (
  br 56 (x3_1==x1) (some (.ret,⟨[(8,(B (x3_2==x1)))],[],gh⟩)) (some (.ret,⟨[(8,B false)],[],gh⟩))) (some (.ret,⟨[(8,B false)],[],gh⟩))) (
  br 62 (x0==5) (some (.ret,⟨[(8,(B ((IntKind.i64.wrap (x3_0+x3_1))==x1)))],[],gh⟩)) (
  br 71 (x0==6) (
  br 75 (decide (0≤x2)) (some (.ret,⟨[(8,(B (decide (x2≤(IntKind.i64.wrap (x3_0-x1))))))],[],gh⟩)) (some (.ret,⟨[(8,B false)],[],gh⟩))) (some (.ret,⟨[(8,(B (decide (x3_0≤x1))))],[],gh⟩))))))))) (
  br 16 (x0==1) (some (.ret,⟨[(8,(B (x3_0==x1)))],[],gh⟩)) (
  br 22 (x0==2) (
  br 28 (x3_0==x1) (some (.ret,⟨[(8,(B (x3_1==x1)))],[],gh⟩)) (some (.ret,⟨[(8,B false)],[],gh⟩))) (
  br 34 (x0==3) (
  br 41 (x3_0==x3_1) (some (.ret,⟨[(8,(B (x1==1)))],[],gh⟩)) (some (.ret,⟨[(8,B false)],[],gh⟩))) (
  br 45 (x0==4) (
  br 50 (x3_0==1) (
  br 56 (x3_1==x1) (some (.ret,⟨[(8,(B (x3_2==x1)))],[],gh⟩)) (some (.ret,⟨[(8,B false)],[],gh⟩))) (some (.ret,⟨[(8,B false)],[],gh⟩))) (
  br 62 (x0==5) (some (.ret,⟨[(8,(B ((IntKind.i64.wrap (x3_0+x3_1))==x1)))],[],gh⟩)) (
  br 71 (x0==6) (
  br 75 (decide (0≤x2)) (some (.ret,⟨[(8,(B (decide (x2≤(IntKind.i64.wrap (x3_0-x1))))))],[],gh⟩)) (some (.ret,⟨[(8,B false)],[],gh⟩))) (some (.ret,⟨[(8,(B (decide (x3_0≤x1))))],[],gh⟩))))))))
theorem qi_ {x0 x1:Int} {x2 x3_0:Int} {x3_1 x3_2:Int} (h:qi pg x0 x1 x2 x3_0 x3_1 x3_2 gh=some (e,s)):runL pg q7p ⟨[(0,I x0),(1,I x1),(2,I x2),(3,.agg [I x3_0,I x3_1,I x3_2])],[],gh⟩=some (e,s):=
 jae q9p (Eq.trans (by kernel_rfl) h)
end
end Go.Lw
end

/-! What the code of function word_shapes comes to, piece by piece. Written by program (dprint.py). -/
section
set_option maxRecDepth 10000
set_option maxHeartbeats 4000000
namespace Go.Lw
open Go
noncomputable section
variable {pg:Prg} {gh:List GObj} {e:IExit} {s:St}
def q9q:Tr:=(tO 1 (uO 0) (uO 2))
def q8k (pg:Prg) (gh:List GObj):DR:=
  muX (gh++[.map []]) 0 (.mp (List.length gh)) (I 4) (I 1) fun gh1=>
  muX gh1 0 (.mp (List.length gh)) (I 5) (I 1) fun gh2=>
  muX gh2 0 (.mp (List.length gh)) (I 6) (I 2) fun gh3=>
  muX gh3 0 (.mp (List.length gh)) (I 7) (I 2) fun gh4=>
  muX gh4 0 (.mp (List.length gh)) (I 8) (I 2) fun gh5=>
  muX gh5 0 (.mp (List.length gh)) (I 9) (I 2) fun gh6=>
  muX gh6 0 (.mp (List.length gh)) (I 10) (I 2) fun gh7=>
  muX gh7 0 (.mp (List.length gh)) (I 11) (I 2) fun gh8=>
  muX gh8 0 (.mp (List.length gh)) (I 12) (I 2) fun gh9=>
  muX gh9 0 (.mp (List.length gh)) (I 13) (I 2) fun gh10=>
  muX gh10 0 (.mp (List.length gh)) (I 14) (I 2) fun gh11=>
  muX gh11 0 (.mp (List.length gh)) (I 15) (I 2) fun gh12=>
  muX gh12 0 (.mp (List.length gh)) (I 16) (I 3) fun gh13=>
  muX gh13 0 (.mp (List.length gh)) (I 17) (I 3) fun gh14=>
  muX gh14 0 (.mp (List.length gh)) (I 18) (I 3) fun gh15=>
  muX gh15 0 (.mp (List.length gh)) (I 19) (I 4) fun gh16=>
  muX gh16 0 (.mp (List.length gh)) (I 20) (I 5) fun gh17=>
  muX gh17 0 (.mp (List.length gh)) (I 21) (I 6) fun gh18=>
  muX gh18 0 (.mp (List.length gh)) (I 22) (I 7) fun gh19=>
  muX gh19 0 (.mp (List.length gh)) (I 23) (I 7) fun gh20=>some (.ret,⟨[(0,(.mp (List.length gh)))],[],gh20⟩)
theorem q8k_ (h:q8k pg gh=some (e,s)):runL pg q7m ⟨[],[],gh⟩=some (e,s):=
 jae q9q (Eq.trans (by kernel_rfl) h)
end
end Go.Lw
end

/-! What the code of function word_IsWord comes to, piece by piece. Written by program (dprint.py). -/
section
set_option maxRecDepth 10000
set_option maxHeartbeats 4000000
namespace Go.Lw
open Go
noncomputable section
variable {pg:Prg} {gh:List GObj} {e:IExit} {s:St}
def q9r:Tr:=(tB 7 (tB 4 (tI 1 (uI 0) .nil) (tB 6 (uI 5) .nil)) (tI 10 (tI 9 (uI 8) .nil) (tB 12 (uB 11) .nil)))
def q52 (pg:Prg) (x0 x1:Int) (gh:List GObj):DR:=
  br 7 (decide (0≤x0)) (gd (decide ((0:Int)≤x1)) (some (.ret,⟨[(4,(B (decide (x0<(iShl .i64 1 x1)))))],[],gh⟩))) (some (.ret,⟨[(4,B false)],[],gh⟩))
theorem q52_ {x0 x1:Int} (h:q52 pg x0 x1 gh=some (e,s)):runL pg q7q ⟨[(0,I x0),(1,I x1)],[],gh⟩=some (e,s):=
 jae q9r (Eq.trans (by kernel_rfl) h)
end
end Go.Lw
end

/-! What the code of function slices_ContainsFunc_Lint_int comes to, piece by piece. Written by program (dprint.py). -/
section
set_option maxRecDepth 10000
set_option maxHeartbeats 4000000
namespace Go.Lw
open Go
noncomputable section
variable {pg:Prg} {gh:List GObj} {e:IExit} {s:St}
def q9s:Tr:=(tO 5 (tO 1 (uO 0) (uB 4)) (tI 7 (uO 6) (uB 8)))
def q8l (pg:Prg) (v0 v1:PV) (gh:List GObj):DR:=stK 0 v0 (stK 0 v1 (isC (degr v0) (isC (degr v1) (arK (degr (degr v0)) (arK (degr (degr v1)) (
  callR gh true (callL pg 111 [(degr (degr v0)),(degr (degr v1))] gh) fun r1 gh2=>unI .i64 r1 fun n3=>some (.ret,⟨[(4,(B (decide (0≤n3))))],[],gh2⟩)))))))
theorem q8l_ {v0 v1:PV} (h:q8l pg v0 v1 gh=some (e,s)):runL pg q62 ⟨[(0,v0),(1,v1)],[],gh⟩=some (e,s):=
 jae q9s (Eq.trans (by kernel_rfl) h)
end
end Go.Lw
end

/-! What the code of function slices_IndexFunc_Lint_int comes to, piece by piece. Written by program (dprint.py). -/
section
set_option maxRecDepth 10000
set_option maxHeartbeats 4000000
namespace Go.Lw
open Go
noncomputable section
variable {pg:Prg} {gh:List GObj} {e:IExit} {s:St}
def q53:Tr:=(tI 10 (tO 6 (tI 4 (tO 1 (uO 0) .nil) (uI 5)) (tI 8 (uI 7) (uB 9))) (tI 15 (tO 12 (uO 11) (uI 13)) (tI 17 (uB 16) (uI 18))))
def q2q (pg:Prg) (v0 v1:PV) (x7 x8:Int) (gh:List GObj):DR:=
  br 9 (decide (x8<x7)) (stK 0 v0 (stK 0 v1 (isC (degr v1) (isC (degr v0) (
  idX 1 none (degr (degr v0)) x8 fun p1=>
  ldX [] gh false 1 (degr p1) fun v2=>unI .i64 v2 fun n3=>
  fnX (degr (degr v1)) fun f6 cs7=>allK cs7 (callR gh true (callL pg f6 ([I n3]++cs7) gh) fun r4 gh5=>unB r4 fun b8=>stK 0 v0 (stK 0 v1 (
  br 16 b8 (some (.ret,⟨[(4,I x8)],[],gh5⟩)) (stK 0 v0 (stK 0 v1 (stK 0 v0 (stK 0 v1 (some (.normal,⟨[(0,v0),(1,v1),(7,I x7),(8,(I (IntKind.i64.wrap (x8+1))))],[],gh5⟩)))))))))))))) (some ((.exit 0),⟨[(0,v0),(1,v1),(7,I x7),(8,I x8),(9,(B (decide (x8<x7))))],[],gh⟩))
theorem q2q_ {v0 v1:PV} {x7 x8:Int} (h:q2q pg v0 v1 x7 x8 gh=some (e,s)):runL pg q66 ⟨[(0,v0),(1,v1),(7,I x7),(8,I x8)],[],gh⟩=some (e,s):=
 jae q53 (Eq.trans (by kernel_rfl) h)
def q9t (pg:Prg) (gh:List GObj):DR:=some (.ret,⟨[(4,(I (-1)))],[],gh⟩)
theorem q9t_ (h:q9t pg gh=some (e,s)):runL pg q3h ⟨[],[],gh⟩=some (e,s):=
 jae q53 (Eq.trans (by kernel_rfl) h)
def q54 (pg:Prg) (v0 v1:PV) (gh:List GObj):DR:=stK 0 v0 (stK 0 v1 (isC (degr v0) (lenS (degr (degr v0)) fun n1=>stK 0 v0 (stK 0 v1 (
  kR (runL pg q3g ⟨[(0,v0),(1,v1),(7,(I (n1:Int))),(8,I 0)],[],gh⟩) (fun e s=>nx e s (fun e s=>some (e,s)) fun s=>kR (runL pg q3h s) (fun e s=>some (e,s))))))))
theorem q54_ {v0 v1:PV} (h:q54 pg v0 v1 gh=some (e,s)):runL pg q67 ⟨[(0,v0),(1,v1)],[],gh⟩=some (e,s):=
 jae q53 (Eq.trans (by kernel_rfl) h)
end
end Go.Lw
end

/-! What the code of function model_Args comes to, piece by piece. Written by program (dprint.py). -/
section
set_option maxRecDepth 10000
set_option maxHeartbeats 4000000
namespace Go.Lw
open Go
noncomputable section
variable {pg:Prg} {gh:List GObj} {e:IExit} {s:St}
def q9u:Tr:=(tI 8 (tI 4 (tO 2 (.node 0 (.agg [.int .i64,.int .i64,.int .i64,.int .i64,.int .i64,.int .i64]) .nil .nil) .nil) (uI 6)) (tI 12 (tI 11 (uO 9) .nil) (uO 13)))
def q1w (pg:Prg) (x0_0 x0_1:Int) (x0_2 x0_3:Int) (x0_4 x0_5:Int) (gh:List GObj):DR:=
  callR gh true (callL pg 63 [I x0_0] gh) fun r1 gh2=>unI .i64 r1 fun n3=>
  slX 1 (.sl false 1 [I x0_2,I x0_3,I x0_4]) none (some n3) fun v4=>isC v4 (stK 0 v4 (some (.ret,⟨[(2,v4)],[],gh2⟩)))
theorem q1w_ {x0_0 x0_1:Int} {x0_2 x0_3:Int} {x0_4 x0_5:Int} (h:q1w pg x0_0 x0_1 x0_2 x0_3 x0_4 x0_5 gh=some (e,s)):runL pg q6n ⟨[(0,.agg [I x0_0,I x0_1,I x0_2,I x0_3,I x0_4,I x0_5])],[],gh⟩=some (e,s):=
 jae q9u (Eq.trans (by kernel_rfl) h)
end
end Go.Lw
end

/-! What the code of function model_leaf comes to, piece by piece. Written by program (dprint.py). -/
section
set_option maxRecDepth 10000
set_option maxHeartbeats 4000000
namespace Go.Lw
open Go
noncomputable section
variable {pg:Prg} {gh:List GObj} {e:IExit} {s:St}
def q9v:Tr:=(tB 5 (tI 3 (tB 2 (uI 0) .nil) (uB 4)) (tB 7 (uI 6) (uB 8)))
def q55 (pg:Prg) (x0:Int) (gh:List GObj):DR:=
  br 5 (decide (1≤x0)) (some (.ret,⟨[(2,(B (decide (x0≤3))))],[],gh⟩)) (some (.ret,⟨[(2,B false)],[],gh⟩))
theorem q55_ {x0:Int} (h:q55 pg x0 gh=some (e,s)):runL pg q6q ⟨[(0,I x0)],[],gh⟩=some (e,s):=
 jae q9v (Eq.trans (by kernel_rfl) h)
end
end Go.Lw
end

/-! What the code of function model_Widths comes to, piece by piece. Written by program (dprint.py). -/
section
set_option maxRecDepth 10000
set_option maxHeartbeats 4000000
namespace Go.Lw
open Go
noncomputable section
variable {pg:Prg} {gh:List GObj} {e:IExit} {s:St}
def q56:Tr:=(tB 12 (.node 8 (.agg [.int .i64,.int .i64,.int .i64,.int .i64,.int .i64,.int .i64]) (tI 6 (.node 1 (.agg [.int .i64,.int .i64,.int .i64,.int .i64,.int .i64,.int .i64]) (uO 0) .nil) (uI 7)) (tI 10 (uO 9) (uI 11))) (tI 18 (tI 16 (tI 15 (uI 13) .nil) (uO 17)) (tI 23 (uI 21) (.node 24 (.agg [.int .i64,.int .i64,.int .i64]) .nil .nil))))
def q1b (pg:Prg) (v0 v9:PV) (x10 x11:Int) (xc0_0 xc0_1:Int) (xc0_2 xc0_3:Int) (xc0_4 xc0_5:Int) (xc1_0 xc1_1:Int) (xc1_2 xc2_0:Int) (xc2_1 xc2_2:Int) (gh:List GObj):DR:=
  br 12 (decide (x11<x10)) (
  idX 1 none (degr v9) x11 fun p1=>
  ldX [[I xc0_0,I xc0_1,I xc0_2,I xc0_3,I xc0_4,I xc0_5],[I xc1_0,I xc1_1,I xc1_2],[I xc2_0,I xc2_1,I xc2_2]] gh false 1 (degr p1) fun v2=>unI .i64 v2 fun n3=>stK 3 v0 (stK 3 v9 (isC (degr v0) (
  idX 6 none (degr (degr v0)) n3 fun p4=>faX (degr p4) 1 fun p5=>
  ldX [[I xc0_0,I xc0_1,I xc0_2,I xc0_3,I xc0_4,I xc0_5],[I xc1_0,I xc1_1,I xc1_2],[I xc2_0,I xc2_1,I xc2_2]] gh false 1 (degr p5) fun v6=>unI .i64 v6 fun n7=>gd (decide (0≤x11∧x11<((3:Nat):Int))) (gb (stOk 1 (0+Int.toNat x11*1) [I n7] [I xc2_0,I xc2_1,I xc2_2]) (stK 3 v0 (stK 3 v9 (stK 3 v0 (stK 3 v9 (stK 3 v0 (stK 3 v9 (some (.normal,⟨[(0,v0),(4,.ptr false 1 0),(5,.ptr false 2 0),(9,v9),(10,I x10),(11,(I (IntKind.i64.wrap (x11+1))))],[[I xc0_0,I xc0_1,I xc0_2,I xc0_3,I xc0_4,I xc0_5],[I xc1_0,I xc1_1,I xc1_2],(spliceAt [I xc2_0,I xc2_1,I xc2_2] (0+Int.toNat x11*1) [I n7])],gh⟩))))))))))))) (some ((.exit 0),⟨[(0,v0),(4,.ptr false 1 0),(5,.ptr false 2 0),(9,v9),(10,I x10),(11,I x11),(12,(B (decide (x11<x10))))],[[I xc0_0,I xc0_1,I xc0_2,I xc0_3,I xc0_4,I xc0_5],[I xc1_0,I xc1_1,I xc1_2],[I xc2_0,I xc2_1,I xc2_2]],gh⟩))
theorem q1b_ {v0 v9:PV} {x10 x11:Int} {xc0_0 xc0_1:Int} {xc0_2 xc0_3:Int} {xc0_4 xc0_5:Int} {xc1_0 xc1_1:Int} {xc1_2 xc2_0:Int} {xc2_1 xc2_2:Int} (h:q1b pg v0 v9 x10 x11 xc0_0 xc0_1 xc0_2 xc0_3 xc0_4 xc0_5 xc1_0 xc1_1 xc1_2 xc2_0 xc2_1 xc2_2 gh=some (e,s)):runL pg q6r ⟨[(0,v0),(4,.ptr false 1 0),(5,.ptr false 2 0),(9,v9),(10,I x10),(11,I x11)],[[I xc0_0,I xc0_1,I xc0_2,I xc0_3,I xc0_4,I xc0_5],[I xc1_0,I xc1_1,I xc1_2],[I xc2_0,I xc2_1,I xc2_2]],gh⟩=some (e,s):=
 jae q56 (Eq.trans (by kernel_rfl) h)
def q9w (pg:Prg) (xc0_0 xc0_1:Int) (xc0_2 xc0_3:Int) (xc0_4 xc0_5:Int) (xc1_0 xc1_1:Int) (xc1_2 xc2_0:Int) (xc2_1 xc2_2:Int) (gh:List GObj):DR:=some (.ret,⟨[(4,.ptr false 1 0)],[[I xc0_0,I xc0_1,I xc0_2,I xc0_3,I xc0_4,I xc0_5],[I xc2_0,I xc2_1,I xc2_2]],gh⟩)
theorem q9w_ {xc0_0 xc0_1:Int} {xc0_2 xc0_3:Int} {xc0_4 xc0_5:Int} {xc1_0 xc1_1:Int} {xc1_2 xc2_0:Int} {xc2_1 xc2_2:Int} (h:q9w pg xc0_0 xc0_1 xc0_2 xc0_3 xc0_4 xc0_5 xc1_0 xc1_1 xc1_2 xc2_0 xc2_1 xc2_2 gh=some (e,s)):runL pg q3z ⟨[(4,.ptr false 1 0),(5,.ptr false 2 0)],[[I xc0_0,I xc0_1,I xc0_2,I xc0_3,I xc0_4,I xc0_5],[I xc1_0,I xc1_1,I xc1_2],[I xc2_0,I xc2_1,I xc2_2]],gh⟩=some (e,s):=
 jae q56 (Eq.trans (by kernel_rfl) h)
def q8m (pg:Prg) (v0:PV) (x1_0 x1_1:Int) (x1_2 x1_3:Int) (x1_4 x1_5:Int) (gh:List GObj):DR:=stK 2 v0 (
  callR gh true (callL pg 81 [.agg [I x1_0,I x1_1,I x1_2,I x1_3,I x1_4,I x1_5]] gh) fun r1 gh2=>isC r1 (lenS (degr r1) fun n3=>stK 3 v0 (stK 3 r1 (
  kR (runL pg q2b ⟨[(0,v0),(4,.ptr false 1 0),(5,.ptr false 2 0),(9,r1),(10,(I (n3:Int))),(11,I 0)],[[I x1_0,I x1_1,I x1_2,I x1_3,I x1_4,I x1_5],[I 0,I 0,I 0],[I 0,I 0,I 0]],gh2⟩) (fun e s=>nx e s (fun e s=>some (e,s)) fun s=>kR (runL pg q3z s) (fun e s=>some (e,s)))))))
theorem q8m_ {v0:PV} {x1_0 x1_1:Int} {x1_2 x1_3:Int} {x1_4 x1_5:Int} (h:q8m pg v0 x1_0 x1_1 x1_2 x1_3 x1_4 x1_5 gh=some (e,s)):runL pg q6s ⟨[(0,v0),(1,.agg [I x1_0,I x1_1,I x1_2,I x1_3,I x1_4,I x1_5])],[],gh⟩=some (e,s):=
 jae q56 (Eq.trans (by kernel_rfl) h)
end
end Go.Lw
end

/-! What the code of function model_node comes to, piece by piece. Written by program (dprint.py). -/
section
set_option maxRecDepth 10000
set_option maxHeartbeats 4000000
namespace Go.Lw
open Go
noncomputable section
variable {pg:Prg} {gh:List GObj} {e:IExit} {s:St}
def q1c:Tr:=(tI 58 (tB 30 (tB 15 (tO 8 (tI 4 (tI 1 (uO 0) .nil) (tI 7 (uI 6) .nil)) (tI 13 (.node 11 (.agg [.int .i64,.int .i64,.int .i64,.int .i64,.int .i64,.int .i64]) (uI 9) .nil) (uB 14))) (tB 23 (tB 19 (tB 18 (uI 17) .nil) (tB 22 (uI 21) .nil)) (tB 27 (tB 26 (uI 25) .nil) (uI 29)))) (tI 45 (tB 38 (tI 35 (tI 33 (uB 31) .nil) (tB 37 (uB 36) .nil)) (tB 42 (tI 41 (uB 39) .nil) (uB 43))) (tB 51 (tI 49 (tB 47 (uB 46) .nil) (uB 50)) (tB 55 (tB 54 (uI 53) .nil) (uB 56))))) (tB 85 (tI 73 (tO 67 (tI 62 (tB 60 (uB 59) .nil) (tI 66 (uI 64) .nil)) (tB 70 (tI 69 (uI 68) .nil) (uI 71))) (tI 80 (tI 77 (tI 76 (uI 74) .nil) (tB 79 (uB 78) .nil)) (tI 83 (tB 82 (uB 81) .nil) (uI 84)))) (tB 97 (tI 92 (tB 88 (tB 87 (uB 86) .nil) (tI 91 (uI 89) .nil)) (tI 95 (tB 94 (uB 93) .nil) (uB 96))) (tI 105 (tI 101 (tI 99 (uB 98) .nil) (uI 103)) (.node 108 (.agg [.int .i64,.int .i64,.int .i64]) (.node 107 (.agg [.int .i64,.int .i64,.int .i64,.int .i64,.int .i64,.int .i64]) (uO 106) .nil) (uI 109))))))
def q9x (pg:Prg) (b39:Bool) (gh:List GObj):DR:=
  br 39 b39 (some (.ret,⟨[(4,I 1)],[],gh⟩)) (some (.normal,⟨[(39,B b39)],[],gh⟩))
theorem q9x_ {b39:Bool} (h:q9x pg b39 gh=some (e,s)):runL pg qb ⟨[(39,B b39)],[],gh⟩=some (e,s):=
 jae q1c (Eq.trans (by kernel_rfl) h)
def q9y (pg:Prg) (b39:Bool) (gh:List GObj):DR:=some (.ret,⟨[(4,I 0)],[],gh⟩)
theorem q9y_ {b39:Bool} (h:q9y pg b39 gh=some (e,s)):runL pg qc ⟨[(39,B b39)],[],gh⟩=some (e,s):=
 jae q1c (Eq.trans (by kernel_rfl) h)
def qp (pg:Prg) (v0:PV) (x1:Int) (v67:PV) (x68 x69:Int) (xc0_0 xc0_1:Int) (xc0_2 xc0_3:Int) (xc0_4 xc0_5:Int) (gh:List GObj):DR:=
  br 70 (decide (x69<x68)) (
  idX 1 none (degr v67) x69 fun p1=>
  ldX [[I xc0_0,I xc0_1,I xc0_2,I xc0_3,I xc0_4,I xc0_5]] gh false 1 (degr p1) fun v2=>unI .i64 v2 fun n3=>stK 1 v0 (stK 1 v67 (
  callR gh true (callL pg 63 [I xc0_0] gh) fun r4 gh5=>unI .i64 r4 fun n6=>
  br 79 (decide (x69<n6)) (
  br 82 (decide (n3<0)) (stK 1 v0 (stK 1 v67 (some (.ret,⟨[(4,I 4)],[],gh5⟩)))) (
  br 88 (decide (x1≤n3)) (stK 1 v0 (stK 1 v67 (some (.ret,⟨[(4,I 4)],[],gh5⟩)))) (
  callR gh5 true (callL pg 63 [I xc0_0] gh5) fun r7 gh8=>unI .i64 r7 fun n9=>
  br 94 (decide (n9≤x69)) (stK 1 v0 (stK 1 v67 (
  br 98 (n3 !=0) (some (.ret,⟨[(4,I 4)],[],gh8⟩)) (stK 1 v0 (stK 1 v67 (stK 1 v0 (stK 1 v67 (some (.normal,⟨[(0,v0),(1,I x1),(5,.ptr false 0 0),(67,v67),(68,I x68),(69,(I (IntKind.i64.wrap (x69+1))))],[[I xc0_0,I xc0_1,I xc0_2,I xc0_3,I xc0_4,I xc0_5]],gh8⟩))))))))) (stK 1 v0 (stK 1 v67 (stK 1 v0 (stK 1 v67 (stK 1 v0 (stK 1 v67 (some (.normal,⟨[(0,v0),(1,I x1),(5,.ptr false 0 0),(67,v67),(68,I x68),(69,(I (IntKind.i64.wrap (x69+1))))],[[I xc0_0,I xc0_1,I xc0_2,I xc0_3,I xc0_4,I xc0_5]],gh8⟩))))))))))) (
  callR gh5 true (callL pg 63 [I xc0_0] gh5) fun r10 gh11=>unI .i64 r10 fun n12=>
  br 94 (decide (n12≤x69)) (stK 1 v0 (stK 1 v67 (
  br 98 (n3 !=0) (some (.ret,⟨[(4,I 4)],[],gh11⟩)) (stK 1 v0 (stK 1 v67 (stK 1 v0 (stK 1 v67 (some (.normal,⟨[(0,v0),(1,I x1),(5,.ptr false 0 0),(67,v67),(68,I x68),(69,(I (IntKind.i64.wrap (x69+1))))],[[I xc0_0,I xc0_1,I xc0_2,I xc0_3,I xc0_4,I xc0_5]],gh11⟩))))))))) (stK 1 v0 (stK 1 v67 (stK 1 v0 (stK 1 v67 (stK 1 v0 (stK 1 v67 (some (.normal,⟨[(0,v0),(1,I x1),(5,.ptr false 0 0),(67,v67),(68,I x68),(69,(I (IntKind.i64.wrap (x69+1))))],[[I xc0_0,I xc0_1,I xc0_2,I xc0_3,I xc0_4,I xc0_5]],gh11⟩)))))))))))) (some ((.exit 1),⟨[(0,v0),(1,I x1),(5,.ptr false 0 0),(67,v67),(68,I x68),(69,I x69),(70,(B (decide (x69<x68))))],[[I xc0_0,I xc0_1,I xc0_2,I xc0_3,I xc0_4,I xc0_5]],gh⟩))
theorem qp_ {v0:PV} {x1:Int} {v67:PV} {x68 x69:Int} {xc0_0 xc0_1:Int} {xc0_2 xc0_3:Int} {xc0_4 xc0_5:Int} (h:qp pg v0 x1 v67 x68 x69 xc0_0 xc0_1 xc0_2 xc0_3 xc0_4 xc0_5 gh=some (e,s)):runL pg q6c ⟨[(0,v0),(1,I x1),(5,.ptr false 0 0),(67,v67),(68,I x68),(69,I x69)],[[I xc0_0,I xc0_1,I xc0_2,I xc0_3,I xc0_4,I xc0_5]],gh⟩=some (e,s):=
 jae q1c (Eq.trans (by kernel_rfl) h)
def q8n (pg:Prg) (v0:PV) (xc0_0 xc0_1:Int) (xc0_2 xc0_3:Int) (xc0_4 xc0_5:Int) (gh:List GObj):DR:=isC (degr v0) (arK (degr (degr v0)) (
  callR gh true (callL pg 104 [(degr (degr v0)),.agg [I xc0_0,I xc0_1,I xc0_2,I xc0_3,I xc0_4,I xc0_5]] gh) fun r1 gh2=>unA 3 r1 fun c3 c4 c5=>unI .i64 c3 fun n6=>unI .i64 c4 fun n7=>unI .i64 c5 fun n8=>
  callR gh2 true (callL pg 22 [I xc0_0,I xc0_1,I xc0_5,.agg [I n6,I n7,I n8]] gh2) fun r9 gh10=>unI .i64 r9 fun n11=>some (.ret,⟨[(4,I n11)],[],gh10⟩)))
theorem q8n_ {v0:PV} {xc0_0 xc0_1:Int} {xc0_2 xc0_3:Int} {xc0_4 xc0_5:Int} (h:q8n pg v0 xc0_0 xc0_1 xc0_2 xc0_3 xc0_4 xc0_5 gh=some (e,s)):runL pg q3l ⟨[(0,v0),(5,.ptr false 0 0)],[[I xc0_0,I xc0_1,I xc0_2,I xc0_3,I xc0_4,I xc0_5]],gh⟩=some (e,s):=
 jae q1c (Eq.trans (by kernel_rfl) h)
def q57 (pg:Prg) (v0:PV) (x1:Int) (b26:Bool) (xc0_0 xc0_1:Int) (xc0_2 xc0_3:Int) (xc0_4 xc0_5:Int) (gh:List GObj):DR:=lenS (.sl false 1 [I xc0_2,I xc0_3,I xc0_4]) fun n1=>stK 1 v0 (
  kR (runL pg q3k ⟨[(0,v0),(1,I x1),(5,.ptr false 0 0),(67,.sl true 1 [I xc0_2,I xc0_3,I xc0_4]),(68,(I (n1:Int))),(69,I 0)],[[I xc0_0,I xc0_1,I xc0_2,I xc0_3,I xc0_4,I xc0_5]],gh⟩) (fun e s=>nx e s (fun e s=>some (e,s)) fun s=>kR (runL pg q3l s) (fun e s=>some (e,s))))
theorem q57_ {v0:PV} {x1:Int} {b26:Bool} {xc0_0 xc0_1:Int} {xc0_2 xc0_3:Int} {xc0_4 xc0_5:Int} (h:q57 pg v0 x1 b26 xc0_0 xc0_1 xc0_2 xc0_3 xc0_4 xc0_5 gh=some (e,s)):runL pg qa ⟨[(0,v0),(1,I x1),(5,.ptr false 0 0),(26,B b26)],[[I xc0_0,I xc0_1,I xc0_2,I xc0_3,I xc0_4,I xc0_5]],gh⟩=some (e,s):=
 jae q1c (Eq.trans (by kernel_rfl) h)
def qd (pg:Prg) (v0:PV) (x1:Int) (gh:List GObj):DR:=stK 0 v0 (isC (degr v0) (
  idX 6 none (degr (degr v0)) x1 fun p1=>
  ldX [] gh true 6 (degr p1) fun v2=>unA 6 v2 fun c3 c4 c5 c6 c7 c8=>unI .i64 c3 fun n9=>unI .i64 c4 fun n10=>unI .i64 c5 fun n11=>unI .i64 c6 fun n12=>unI .i64 c7 fun n13=>unI .i64 c8 fun n14=>stK 1 v0 (
  br 15 (decide (n9<1)) (stK 1 v0 (some (.ret,⟨[(4,I 7)],[],gh⟩))) (stK 1 v0 (
  br 19 (decide (24≤n9)) (some (.ret,⟨[(4,I 7)],[],gh⟩)) (
  callR gh true (callL pg 62 [I n10] gh) fun r15 gh16=>unB r15 fun b17=>stK 1 v0 (
  br 23 (!b17) (some (.ret,⟨[(4,I 3)],[],gh16⟩)) (
  callR gh16 true (callL pg 103 [I n9] gh16) fun r18 gh19=>unB r18 fun b20=>stK 1 v0 (
  br 26 b20 (
  br 31 (n9==1) (
  callR gh19 true (callL pg 65 [I n14,I n10] gh19) fun r21 gh22=>unB r21 fun b23=>
  br 27 (!b23) (some (.ret,⟨[(4,I 3)],[],gh22⟩)) (
  br 43 (n9 !=1) (
  br 39 (n14 !=0) (
  kR (runL pg qb ⟨[(39,(B (n14 !=0)))],[],gh22⟩) (fun e s=>bk 0 e s (fun e s=>nx e s (fun e s=>nx e s (fun e s=>some (e,s)) fun s=>kR (runL pg qa s) (fun e s=>some (e,s))) fun s=>kR (runL pg qc s) (fun e s=>nx e s (fun e s=>some (e,s)) fun s=>kR (runL pg qa s) (fun e s=>some (e,s)))))) (
  br 51 (n11 !=0) (
  kR (runL pg qb ⟨[(39,B true)],[],gh22⟩) (fun e s=>bk 0 e s (fun e s=>nx e s (fun e s=>nx e s (fun e s=>some (e,s)) fun s=>kR (runL pg qa s) (fun e s=>some (e,s))) fun s=>kR (runL pg qc s) (fun e s=>nx e s (fun e s=>some (e,s)) fun s=>kR (runL pg qa s) (fun e s=>some (e,s)))))) (
  br 56 (n12 !=0) (
  kR (runL pg qb ⟨[(39,B true)],[],gh22⟩) (fun e s=>bk 0 e s (fun e s=>nx e s (fun e s=>nx e s (fun e s=>some (e,s)) fun s=>kR (runL pg qa s) (fun e s=>some (e,s))) fun s=>kR (runL pg qc s) (fun e s=>nx e s (fun e s=>some (e,s)) fun s=>kR (runL pg qa s) (fun e s=>some (e,s)))))) (
  kR (runL pg qb ⟨[(39,(B (n13 !=0)))],[],gh22⟩) (fun e s=>bk 0 e s (fun e s=>nx e s (fun e s=>nx e s (fun e s=>some (e,s)) fun s=>kR (runL pg qa s) (fun e s=>some (e,s))) fun s=>kR (runL pg qc s) (fun e s=>nx e s (fun e s=>some (e,s)) fun s=>kR (runL pg qa s) (fun e s=>some (e,s))))))))) (
  br 51 (n11 !=0) (
  kR (runL pg qb ⟨[(39,B true)],[],gh22⟩) (fun e s=>bk 0 e s (fun e s=>nx e s (fun e s=>nx e s (fun e s=>some (e,s)) fun s=>kR (runL pg qa s) (fun e s=>some (e,s))) fun s=>kR (runL pg qc s) (fun e s=>nx e s (fun e s=>some (e,s)) fun s=>kR (runL pg qa s) (fun e s=>some (e,s)))))) (
  br 56 (n12 !=0) (
  kR (runL pg qb ⟨[(39,B true)],[],gh22⟩) (fun e s=>bk 0 e s (fun e s=>nx e s (fun e s=>nx e s (fun e s=>some (e,s)) fun s=>kR (runL pg qa s) (fun e s=>some (e,s))) fun s=>kR (runL pg qc s) (fun e s=>nx e s (fun e s=>some (e,s)) fun s=>kR (runL pg qa s) (fun e s=>some (e,s)))))) (
  kR (runL pg qb ⟨[(39,(B (n13 !=0)))],[],gh22⟩) (fun e s=>bk 0 e s (fun e s=>nx e s (fun e s=>nx e s (fun e s=>some (e,s)) fun s=>kR (runL pg qa s) (fun e s=>some (e,s))) fun s=>kR (runL pg qc s) (fun e s=>nx e s (fun e s=>some (e,s)) fun s=>kR (runL pg qa s) (fun e s=>some (e,s)))))))))) (
  br 43 (n9 !=1) (
  br 39 (n14 !=0) (
  kR (runL pg qb ⟨[(39,(B (n14 !=0)))],[],gh19⟩) (fun e s=>bk 0 e s (fun e s=>nx e s (fun e s=>nx e s (fun e s=>some (e,s)) fun s=>kR (runL pg qa s) (fun e s=>some (e,s))) fun s=>kR (runL pg qc s) (fun e s=>nx e s (fun e s=>some (e,s)) fun s=>kR (runL pg qa s) (fun e s=>some (e,s)))))) (
  br 51 (n11 !=0) (
  kR (runL pg qb ⟨[(39,B true)],[],gh19⟩) (fun e s=>bk 0 e s (fun e s=>nx e s (fun e s=>nx e s (fun e s=>some (e,s)) fun s=>kR (runL pg qa s) (fun e s=>some (e,s))) fun s=>kR (runL pg qc s) (fun e s=>nx e s (fun e s=>some (e,s)) fun s=>kR (runL pg qa s) (fun e s=>some (e,s)))))) (
  br 56 (n12 !=0) (
  kR (runL pg qb ⟨[(39,B true)],[],gh19⟩) (fun e s=>bk 0 e s (fun e s=>nx e s (fun e s=>nx e s (fun e s=>some (e,s)) fun s=>kR (runL pg qa s) (fun e s=>some (e,s))) fun s=>kR (runL pg qc s) (fun e s=>nx e s (fun e s=>some (e,s)) fun s=>kR (runL pg qa s) (fun e s=>some (e,s)))))) (
  kR (runL pg qb ⟨[(39,(B (n13 !=0)))],[],gh19⟩) (fun e s=>bk 0 e s (fun e s=>nx e s (fun e s=>nx e s (fun e s=>some (e,s)) fun s=>kR (runL pg qa s) (fun e s=>some (e,s))) fun s=>kR (runL pg qc s) (fun e s=>nx e s (fun e s=>some (e,s)) fun s=>kR (runL pg qa s) (fun e s=>some (e,s))))))))) (
  br 51 (n11 !=0) (
  kR (runL pg qb ⟨[(39,B true)],[],gh19⟩) (fun e s=>bk 0 e s (fun e s=>nx e s (fun e s=>nx e s (fun e s=>some (e,s)) fun s=>kR (runL pg qa s) (fun e s=>some (e,s))) fun s=>kR (runL pg qc s) (fun e s=>nx e s (fun e s=>some (e,s)) fun s=>kR (runL pg qa s) (fun e s=>some (e,s)))))) (
  br 56 (n12 !=0) (
  kR (runL pg qb ⟨[(39,B true)],[],gh19⟩) (fun e s=>bk 0 e s (fun e s=>nx e s (fun e s=>nx e s (fun e s=>some (e,s)) fun s=>kR (runL pg qa s) (fun e s=>some (e,s))) fun s=>kR (runL pg qc s) (fun e s=>nx e s (fun e s=>some (e,s)) fun s=>kR (runL pg qa s) (fun e s=>some (e,s)))))) (
  kR (runL pg qb ⟨[(39,(B (n13 !=0)))],[],gh19⟩) (fun e s=>bk 0 e s (fun e s=>nx e s (fun e s=>nx e s (fun e s=>some (e,s)) fun s=>kR (runL pg qa s) (fun e s=>some (e,s))) fun s=>kR (runL pg qc s) (fun e s=>nx e s (fun e s=>some (e,s)) fun s=>kR (runL pg qa s) (fun e s=>some (e,s)))))))))) (
  kR (runL pg qa ⟨[(0,v0),(1,I x1),(5,.ptr false 0 0),(26,B b20)],[[I n9,I n10,I n11,I n12,I n13,I n14]],gh19⟩) (fun e s=>some (e,s))))))))))))
theorem qd_ {v0:PV} {x1:Int} (h:qd pg v0 x1 gh=some (e,s)):runL pg q6d ⟨[(0,v0),(1,I x1)],[],gh⟩=some (e,s):=
 jae q1c (Eq.trans (by kernel_rfl) h)
end
end Go.Lw
end

/-! What the code of function model_Of comes to, piece by piece. Written by program (dprint.py). -/
section
set_option maxRecDepth 10000
set_option maxHeartbeats 4000000
namespace Go.Lw
open Go
noncomputable section
variable {pg:Prg} {gh:List GObj} {e:IExit} {s:St}
def q2r:Tr:=(.node 15 (.agg [.int .i64,.int .i64,.int .i64,.int .i64,.int .i64,.int .i64]) (tO 9 (tO 4 (tI 1 (.node 0 (.agg [.any,.any,.any,.any,.any]) .nil .nil) .nil) (tI 6 (uO 5) .nil)) (tB 12 (tI 11 (uI 10) .nil) (uI 13))) (tI 21 (tB 19 (tI 18 (uI 17) .nil) (uO 20)) (tI 24 (tO 23 (uO 22) .nil) (uO 25))))
def q8o (pg:Prg) (x1:Int) (v5 v9:PV) (x10 x11:Int) (gh:List GObj):DR:=stK 0 v5 (stK 0 v9 (some (.normal,⟨[(1,I x1),(5,v5),(9,v9),(10,I x10),(11,(I (IntKind.i64.wrap (x11+1))))],[],gh⟩)))
theorem q8o_ {x1:Int} {v5 v9:PV} {x10 x11:Int} (h:q8o pg x1 v5 v9 x10 x11 gh=some (e,s)):runL pg q1i ⟨[(1,I x1),(5,v5),(9,v9),(10,I x10),(11,I x11)],[],gh⟩=some (e,s):=
 jae q2r (Eq.trans (by kernel_rfl) h)
def q2s (pg:Prg) (x1:Int) (v5 v9:PV) (x10 x11:Int) (gh:List GObj):DR:=
  br 12 (decide (x11<x10)) (
  idX 6 none (degr v9) x11 fun p1=>
  ldX [] gh true 6 (degr p1) fun v2=>unA 6 v2 fun c3 c4 c5 c6 c7 c8=>unI .i64 c3 fun n9=>unI .i64 c4 fun n10=>unI .i64 c5 fun n11=>unI .i64 c6 fun n12=>unI .i64 c7 fun n13=>unI .i64 c8 fun n14=>stK 1 v5 (stK 1 v9 (stK 0 v5 (stK 0 v9 (
  br 19 (n9==x1) (
  apX 1 8 v5 (.sl false 1 [I x11]) fun l15=>stK 0 v9 (stK 0 v9 (
  kR (runL pg q1i ⟨[(1,I x1),(5,.sl true 1 l15),(9,v9),(10,I x10),(11,I x11)],[],gh⟩) (fun e s=>po [1,5,9,10,11] 0 e s (fun e s=>some (e,s)))))) (stK 0 v5 (stK 0 v9 (
  kR (runL pg q1i ⟨[(1,I x1),(5,v5),(9,v9),(10,I x10),(11,I x11)],[],gh⟩) (fun e s=>po [1,5,9,10,11] 0 e s (fun e s=>some (e,s))))))))))) (some ((.exit 0),⟨[(1,I x1),(5,v5),(9,v9),(10,I x10),(11,I x11),(12,(B (decide (x11<x10))))],[],gh⟩))
theorem q2s_ {x1:Int} {v5 v9:PV} {x10 x11:Int} (h:q2s pg x1 v5 v9 x10 x11 gh=some (e,s)):runL pg q6o ⟨[(1,I x1),(5,v5),(9,v9),(10,I x10),(11,I x11)],[],gh⟩=some (e,s):=
 jae q2r (Eq.trans (by kernel_rfl) h)
def q8p (pg:Prg) (v5:PV) (gh:List GObj):DR:=isC (degr v5) (stK 0 (degr v5) (some (.ret,⟨[(4,(degr v5))],[],gh⟩)))
theorem q8p_ {v5:PV} (h:q8p pg v5 gh=some (e,s)):runL pg q3x ⟨[(5,v5)],[],gh⟩=some (e,s):=
 jae q2r (Eq.trans (by kernel_rfl) h)
def q8q (pg:Prg) (v0_0 v0_1:PV) (v0_2 v0_3 v0_4:PV) (x1:Int) (gh:List GObj):DR:=onK (degr1 v0_0) (onK (degr1 v0_1) (onK (degr1 v0_2) (onK (degr1 v0_3) (onK (degr1 v0_4) (isC (degr (degr1 v0_0)) (lenS (degr (degr (degr1 v0_0))) fun n1=>stK 0 (degr (degr1 v0_0)) (
  kR (runL pg q3w ⟨[(1,I x1),(5,.sl true 1 []),(9,(degr (degr1 v0_0))),(10,(I (n1:Int))),(11,I 0)],[],gh⟩) (fun e s=>nx e s (fun e s=>some (e,s)) fun s=>kR (runL pg q3x s) (fun e s=>some (e,s))))))))))
theorem q8q_ {v0_0 v0_1:PV} {v0_2 v0_3 v0_4:PV} {x1:Int} (h:q8q pg v0_0 v0_1 v0_2 v0_3 v0_4 x1 gh=some (e,s)):runL pg q6p ⟨[(0,.agg [v0_0,v0_1,v0_2,v0_3,v0_4]),(1,I x1)],[],gh⟩=some (e,s):=
 jae q2r (Eq.trans (by kernel_rfl) h)
end
end Go.Lw
end

/-! What the code of function model_Bits comes to, piece by piece. Written by program (dprint.py). -/
section
set_option maxRecDepth 10000
set_option maxHeartbeats 4000000
namespace Go.Lw
open Go
noncomputable section
variable {pg:Prg} {gh:List GObj} {e:IExit} {s:St}
def q9z:Tr:=(tO 6 (tI 3 (tI 2 (.node 0 (.agg [.any,.any,.any,.any,.any]) .nil .nil) .nil) (.node 5 (.agg [.any,.any,.any,.any,.any]) (.node 4 (.agg [.any,.any,.any,.any,.any]) .nil .nil) .nil)) (.node 9 (.agg [.any,.any,.any,.any,.any]) (.node 8 (.agg [.any,.any,.any,.any,.any]) (uI 7) .nil) (tI 11 (uO 10) .nil)))
def q8r (pg:Prg) (v0_0 v0_1:PV) (v0_2 v0_3 v0_4:PV) (gh:List GObj):DR:=onK (degr1 v0_0) (onK (degr1 v0_1) (onK (degr1 v0_2) (onK (degr1 v0_3) (onK (degr1 v0_4) (onK (degr1 (degr1 (degr1 v0_0))) (onK (degr1 (degr1 (degr1 v0_1))) (onK (degr1 (degr1 (degr1 v0_2))) (onK (degr1 (degr1 (degr1 v0_3))) (onK (degr1 (degr1 (degr1 v0_4))) (
  callR gh true (callL pg 101 [(.agg [(degr1 (degr1 (degr1 v0_0))),(degr1 (degr1 (degr1 v0_1))),(degr1 (degr1 (degr1 v0_2))),(degr1 (degr1 (degr1 v0_3))),(degr1 (degr1 (degr1 v0_4)))]),I 2] gh) fun r1 gh2=>isC r1 (onK (degr1 (degr1 (degr1 v0_0))) (onK (degr1 (degr1 (degr1 v0_1))) (onK (degr1 (degr1 (degr1 v0_2))) (onK (degr1 (degr1 (degr1 v0_3))) (onK (degr1 (degr1 (degr1 v0_4))) (arK (degr r1) (
  callR gh2 true (callL pg 105 [(.agg [(degr1 (degr1 (degr1 v0_0))),(degr1 (degr1 (degr1 v0_1))),(degr1 (degr1 (degr1 v0_2))),(degr1 (degr1 (degr1 v0_3))),(degr1 (degr1 (degr1 v0_4)))]),(degr r1)] gh2) fun r3 gh4=>unI .i64 r3 fun n5=>onK (degr1 (degr1 (degr1 v0_0))) (onK (degr1 (degr1 (degr1 v0_1))) (onK (degr1 (degr1 (degr1 v0_2))) (onK (degr1 (degr1 (degr1 v0_3))) (onK (degr1 (degr1 (degr1 v0_4))) (
  callR gh4 true (callL pg 101 [(.agg [(degr1 (degr1 (degr1 v0_0))),(degr1 (degr1 (degr1 v0_1))),(degr1 (degr1 (degr1 v0_2))),(degr1 (degr1 (degr1 v0_3))),(degr1 (degr1 (degr1 v0_4)))]),I 3] gh4) fun r6 gh7=>isC r6 (onK (degr1 (degr1 (degr1 v0_0))) (onK (degr1 (degr1 (degr1 v0_1))) (onK (degr1 (degr1 (degr1 v0_2))) (onK (degr1 (degr1 (degr1 v0_3))) (onK (degr1 (degr1 (degr1 v0_4))) (arK (degr r6) (
  callR gh7 true (callL pg 105 [(.agg [(degr1 (degr1 (degr1 v0_0))),(degr1 (degr1 (degr1 v0_1))),(degr1 (degr1 (degr1 v0_2))),(degr1 (degr1 (degr1 v0_3))),(degr1 (degr1 (degr1 v0_4)))]),(degr r6)] gh7) fun r8 gh9=>unI .i64 r8 fun n10=>some (.ret,⟨[(2,I n5),(3,I n10)],[],gh9⟩))))))))))))))))))))))))))))))
theorem q8r_ {v0_0 v0_1:PV} {v0_2 v0_3 v0_4:PV} (h:q8r pg v0_0 v0_1 v0_2 v0_3 v0_4 gh=some (e,s)):runL pg q6e ⟨[(0,.agg [v0_0,v0_1,v0_2,v0_3,v0_4])],[],gh⟩=some (e,s):=
 jae q9z (Eq.trans (by kernel_rfl) h)
end
end Go.Lw
end

/-! What the code of function model_bits comes to, piece by piece. Written by program (dprint.py). -/
section
set_option maxRecDepth 10000
set_option maxHeartbeats 4000000
namespace Go.Lw
open Go
noncomputable section
variable {pg:Prg} {gh:List GObj} {e:IExit} {s:St}
def q58:Tr:=(tB 11 (tI 7 (tI 4 (tO 1 (.node 0 (.agg [.any,.any,.any,.any,.any]) .nil .nil) .nil) (uI 5)) (tI 9 (uO 8) (uI 10))) (tI 20 (tO 16 (tI 14 (uI 13) .nil) (uI 17)) (tI 22 (uI 21) (uI 23))))
def q59 (pg:Prg) (x5:Int) (v8:PV) (x9 x10:Int) (vc0_0 vc0_1:PV) (vc0_2 vc0_3 vc0_4:PV) (gh:List GObj):DR:=
  br 11 (decide (x10<x9)) (
  idX 1 none (degr v8) x10 fun p1=>
  ldX [[vc0_0,vc0_1,vc0_2,vc0_3,vc0_4]] gh false 1 (degr p1) fun v2=>unI .i64 v2 fun n3=>stK 1 v8 (isC (degr vc0_0) (
  idX 6 none (degr (degr vc0_0)) n3 fun p4=>faX (degr p4) 1 fun p5=>
  ldX [[vc0_0,vc0_1,vc0_2,vc0_3,vc0_4]] gh false 1 (degr p5) fun v6=>unI .i64 v6 fun n7=>stK 1 v8 (stK 1 v8 (stK 1 v8 (some (.normal,⟨[(2,.ptr false 0 0),(5,(I (IntKind.i64.wrap (x5+n7)))),(8,v8),(9,I x9),(10,(I (IntKind.i64.wrap (x10+1))))],[[vc0_0,vc0_1,vc0_2,vc0_3,vc0_4]],gh⟩))))))) (some ((.exit 0),⟨[(2,.ptr false 0 0),(5,I x5),(8,v8),(9,I x9),(10,I x10),(11,(B (decide (x10<x9))))],[[vc0_0,vc0_1,vc0_2,vc0_3,vc0_4]],gh⟩))
theorem q59_ {x5:Int} {v8:PV} {x9 x10:Int} {vc0_0 vc0_1:PV} {vc0_2 vc0_3 vc0_4:PV} (h:q59 pg x5 v8 x9 x10 vc0_0 vc0_1 vc0_2 vc0_3 vc0_4 gh=some (e,s)):runL pg q6t ⟨[(2,.ptr false 0 0),(5,I x5),(8,v8),(9,I x9),(10,I x10)],[[vc0_0,vc0_1,vc0_2,vc0_3,vc0_4]],gh⟩=some (e,s):=
 jae q58 (Eq.trans (by kernel_rfl) h)
def qa0 (pg:Prg) (x5:Int) (gh:List GObj):DR:=some (.ret,⟨[(4,I x5)],[],gh⟩)
theorem qa0_ {x5:Int} (h:qa0 pg x5 gh=some (e,s)):runL pg q42 ⟨[(5,I x5)],[],gh⟩=some (e,s):=
 jae q58 (Eq.trans (by kernel_rfl) h)
def q8s (pg:Prg) (v0_0 v0_1:PV) (v0_2 v0_3:PV) (v0_4 v1:PV) (gh:List GObj):DR:=onK (degr1 v0_0) (onK (degr1 v0_1) (onK (degr1 v0_2) (onK (degr1 v0_3) (onK (degr1 v0_4) (stK 1 v1 (isC (degr v1) (lenS (degr (degr v1)) fun n1=>stK 1 (degr v1) (
  kR (runL pg q41 ⟨[(2,.ptr false 0 0),(5,I 0),(8,(degr v1)),(9,(I (n1:Int))),(10,I 0)],[[(degr1 v0_0),(degr1 v0_1),(degr1 v0_2),(degr1 v0_3),(degr1 v0_4)]],gh⟩) (fun e s=>nx e s (fun e s=>some (e,s)) fun s=>kR (runL pg q42 s) (fun e s=>some (e,s)))))))))))
theorem q8s_ {v0_0 v0_1:PV} {v0_2 v0_3:PV} {v0_4 v1:PV} (h:q8s pg v0_0 v0_1 v0_2 v0_3 v0_4 v1 gh=some (e,s)):runL pg q6u ⟨[(0,.agg [v0_0,v0_1,v0_2,v0_3,v0_4]),(1,v1)],[],gh⟩=some (e,s):=
 jae q58 (Eq.trans (by kernel_rfl) h)
end
end Go.Lw
end

/-! What the code of function model_checker_lean comes to, piece by piece. Written by program (dprint.py). -/
section
set_option maxRecDepth 10000
set_option maxHeartbeats 4000000
namespace Go.Lw
open Go
noncomputable section
variable {pg:Prg} {gh:List GObj} {e:IExit} {s:St}
def q1x:Tr:=(tI 28 (tI 18 (tO 11 (tI 6 (tB 4 (uG 0) .nil) (uG 7)) (tB 14 (tI 13 (uI 12) .nil) (.node 16 (.agg [.int .i64,.int .i64,.int .i64,.int .i64,.int .i64,.int .i64]) .nil .nil))) (tB 24 (tI 22 (tB 20 (uB 19) .nil) (uB 23)) (tO 26 (.node 25 (.agg [.int .i64,.int .i64,.int .i64,.int .i64,.int .i64,.int .i64]) .nil .nil) (uI 27)))) (tB 41 (tG 34 (tB 32 (tI 31 (uB 29) .nil) (uB 33)) (tI 38 (uO 37) (uB 40))) (tB 48 (tG 44 (tG 43 (uI 42) .nil) (uO 47)) (tO 50 (uO 49) (uI 53)))))
def q2t (pg:Prg) (g0 o0:Nat) (b4:Bool) (v11:PV) (x12 x13:Int) (v26:PV) (x27 x28:Int) (gh:List GObj):DR:=
  br 29 (decide (x28<x27)) (
  idX 1 none (degr v26) x28 fun p1=>
  ldX [] gh false 1 (degr p1) fun v2=>unI .i64 v2 fun n3=>stK 0 v11 (stK 0 v26 (
  br 33 b4 (stK 0 v11 (stK 0 v26 (stK 0 v11 (stK 0 v26 (stK 0 v11 (stK 0 v26 (some (.normal,⟨[(0,.ptr true g0 o0),(4,B true),(11,v11),(12,I x12),(13,I x13),(26,v26),(27,I x27),(28,(I (IntKind.i64.wrap (x28+1))))],[],gh⟩)))))))) (
  ob (ghCells gh g0) fun cs4=>
  ob (grab false 1 (o0+5) cs4) fun v5=>isC (degr v5) (
  idX 1 none (degr (degr v5)) n3 fun p6=>
  ldX [] gh false 1 (degr p6) fun v7=>unB v7 fun b8=>stK 0 v11 (stK 0 v26 (stK 0 v11 (stK 0 v26 (stK 0 v11 (stK 0 v26 (some (.normal,⟨[(0,.ptr true g0 o0),(4,B b8),(11,v11),(12,I x12),(13,I x13),(26,v26),(27,I x27),(28,(I (IntKind.i64.wrap (x28+1))))],[],gh⟩)))))))))))) (some ((.exit 2),⟨[(0,.ptr true g0 o0),(4,B b4),(11,v11),(12,I x12),(13,I x13),(26,v26),(27,I x27),(28,I x28),(29,(B (decide (x28<x27))))],[],gh⟩))
theorem q2t_ {g0 o0:Nat} {b4:Bool} {v11:PV} {x12 x13:Int} {v26:PV} {x27 x28:Int} (h:q2t pg g0 o0 b4 v11 x12 x13 v26 x27 x28 gh=some (e,s)):runL pg q6f ⟨[(0,.ptr true g0 o0),(4,B b4),(11,v11),(12,I x12),(13,I x13),(26,v26),(27,I x27),(28,I x28)],[],gh⟩=some (e,s):=
 jae q1x (Eq.trans (by kernel_rfl) h)
def q8t (pg:Prg) (g0 o0:Nat) (b4:Bool) (v11:PV) (x12 x13:Int) (gh:List GObj):DR:=
  ob (ghCells gh g0) fun cs1=>ob (cs1[(o0+5)]?) fun v2=>
  apX 1 1 v2 (.sl false 1 [B b4]) fun l3=>
  ob (ghCells (List.set gh g0 (.cells (spliceAt cs1 (o0+5) [degr1 v2]))) g0) fun cs4=>gb (stOk 1 (o0+5) [.sl true 1 l3] cs4) (stK 0 v11 (some (.normal,⟨[(0,.ptr true g0 o0),(11,v11),(12,I x12),(13,I x13)],[],(List.set (List.set gh g0 (.cells (spliceAt cs1 (o0+5) [degr1 v2]))) g0 (.cells (spliceAt cs4 (o0+5) [.sl true 1 l3])))⟩)))
theorem q8t_ {g0 o0:Nat} {b4:Bool} {v11:PV} {x12 x13:Int} (h:q8t pg g0 o0 b4 v11 x12 x13 gh=some (e,s)):runL pg q1h ⟨[(0,.ptr true g0 o0),(4,B b4),(11,v11),(12,I x12),(13,I x13)],[],gh⟩=some (e,s):=
 jae q1x (Eq.trans (by kernel_rfl) h)
def q8u (pg:Prg) (g0 o0:Nat) (v11:PV) (x12 x13:Int) (gh:List GObj):DR:=stK 0 v11 (some (.normal,⟨[(0,.ptr true g0 o0),(11,v11),(12,I x12),(13,(I (IntKind.i64.wrap (x13+1))))],[],gh⟩))
theorem q8u_ {g0 o0:Nat} {v11:PV} {x12 x13:Int} (h:q8u pg g0 o0 v11 x12 x13 gh=some (e,s)):runL pg qu ⟨[(0,.ptr true g0 o0),(11,v11),(12,I x12),(13,I x13)],[],gh⟩=some (e,s):=
 jae q1x (Eq.trans (by kernel_rfl) h)
def q2u (pg:Prg) (g0 o0:Nat) (v11:PV) (x12 x13:Int) (gh:List GObj):DR:=
  br 14 (decide (x13<x12)) (
  idX 6 none (degr v11) x13 fun p1=>
  ldX [] gh true 6 (degr p1) fun v2=>unA 6 v2 fun c3 c4 c5 c6 c7 c8=>unI .i64 c3 fun n9=>unI .i64 c4 fun n10=>unI .i64 c5 fun n11=>unI .i64 c6 fun n12=>unI .i64 c7 fun n13=>unI .i64 c8 fun n14=>stK 1 v11 (
  br 20 (n9==2) (stK 1 v11 (
  callR gh true (callL pg 81 [.agg [I n9,I n10,I n11,I n12,I n13,I n14]] gh) fun r15 gh16=>isC r15 (lenS (degr r15) fun n17=>stK 0 v11 (stK 0 r15 (
  kR (runL pg q1g ⟨[(0,.ptr true g0 o0),(4,B true),(11,v11),(12,I x12),(13,I x13),(26,r15),(27,(I (n17:Int))),(28,I 0)],[],gh16⟩) (fun e s=>nx e s (fun e s=>bk 1 e s (fun e s=>nx e s (fun e s=>po [0,11,12,13] 0 e s (fun e s=>some (e,s))) fun s=>kR (runL pg qu s) (fun e s=>po [0,11,12,13] 0 e s (fun e s=>some (e,s))))) fun s=>kR (runL pg q1h s) (fun e s=>bk 1 e s (fun e s=>nx e s (fun e s=>po [0,11,12,13] 0 e s (fun e s=>some (e,s))) fun s=>kR (runL pg qu s) (fun e s=>po [0,11,12,13] 0 e s (fun e s=>some (e,s))))))))))) (stK 1 v11 (
  callR gh true (callL pg 81 [.agg [I n9,I n10,I n11,I n12,I n13,I n14]] gh) fun r18 gh19=>isC r18 (lenS (degr r18) fun n20=>stK 0 v11 (stK 0 r18 (
  kR (runL pg q1g ⟨[(0,.ptr true g0 o0),(4,(B (n9==3))),(11,v11),(12,I x12),(13,I x13),(26,r18),(27,(I (n20:Int))),(28,I 0)],[],gh19⟩) (fun e s=>nx e s (fun e s=>bk 1 e s (fun e s=>nx e s (fun e s=>po [0,11,12,13] 0 e s (fun e s=>some (e,s))) fun s=>kR (runL pg qu s) (fun e s=>po [0,11,12,13] 0 e s (fun e s=>some (e,s))))) fun s=>kR (runL pg q1h s) (fun e s=>bk 1 e s (fun e s=>nx e s (fun e s=>po [0,11,12,13] 0 e s (fun e s=>some (e,s))) fun s=>kR (runL pg qu s) (fun e s=>po [0,11,12,13] 0 e s (fun e s=>some (e,s))))))))))))) (some ((.exit 0),⟨[(0,.ptr true g0 o0),(11,v11),(12,I x12),(13,I x13),(14,(B (decide (x13<x12))))],[],gh⟩))
theorem q2u_ {g0 o0:Nat} {v11:PV} {x12 x13:Int} (h:q2u pg g0 o0 v11 x12 x13 gh=some (e,s)):runL pg q6g ⟨[(0,.ptr true g0 o0),(11,v11),(12,I x12),(13,I x13)],[],gh⟩=some (e,s):=
 jae q1x (Eq.trans (by kernel_rfl) h)
def q8v (pg:Prg) (g0 o0:Nat) (gh:List GObj):DR:=
  ob (ghCells gh g0) fun cs1=>
  ob (grab false 1 ((o0+0)+0) cs1) fun v2=>isC (degr v2) (lenS (degr (degr v2)) fun n3=>stK 0 (degr v2) (
  kR (runL pg q3o ⟨[(0,.ptr true g0 o0),(11,(degr v2)),(12,(I (n3:Int))),(13,I 0)],[],gh⟩) (fun e s=>some (e,s))))
theorem q8v_ {g0 o0:Nat} (h:q8v pg g0 o0 gh=some (e,s)):runL pg q6h ⟨[(0,.ptr true g0 o0)],[],gh⟩=some (e,s):=
 jae q1x (Eq.trans (by kernel_rfl) h)
end
end Go.Lw
end

/-! What the code of function model_checker_is comes to, piece by piece. Written by program (dprint.py). -/
section
set_option maxRecDepth 10000
set_option maxHeartbeats 4000000
namespace Go.Lw
open Go
noncomputable section
variable {pg:Prg} {gh:List GObj} {e:IExit} {s:St}
def qa1:Tr:=(tI 8 (tI 5 (tI 1 (uG 0) (uB 4)) (tB 7 (uB 6) .nil)) (tI 14 (tO 13 (uG 9) .nil) (tB 16 (uB 15) .nil)))
def q5a (pg:Prg) (g0 o0:Nat) (x1:Int) (gh:List GObj):DR:=
  br 7 (decide (0≤x1)) (
  ob (ghCells gh g0) fun cs1=>
  ob (grab false 1 ((o0+0)+0) cs1) fun v2=>isC (degr v2) (lenS (degr (degr v2)) fun n3=>some (.ret,⟨[(4,(B (decide (x1<(n3:Int)))))],[],gh⟩))) (some (.ret,⟨[(4,B false)],[],gh⟩))
theorem q5a_ {g0 o0:Nat} {x1:Int} (h:q5a pg g0 o0 x1 gh=some (e,s)):runL pg q6y ⟨[(0,.ptr true g0 o0),(1,I x1)],[],gh⟩=some (e,s):=
 jae qa1 (Eq.trans (by kernel_rfl) h)
end
end Go.Lw
end

/-! What the code of function model_checker_pair comes to, piece by piece. Written by program (dprint.py). -/
section
set_option maxRecDepth 10000
set_option maxHeartbeats 4000000
namespace Go.Lw
open Go
noncomputable section
variable {pg:Prg} {gh:List GObj} {e:IExit} {s:St}
def qa2:Tr:=(tB 31 (tG 14 (tG 8 (tB 2 (.node 1 (.agg [.int .i64,.int .i64]) (uG 0) .nil) (tB 7 (uI 6) .nil)) (tB 12 (tB 11 (uI 10) .nil) (uB 13))) (tB 20 (tB 18 (tB 17 (uI 16) .nil) (uB 19)) (tI 27 (tO 25 (uG 21) .nil) (uI 30)))) (tI 53 (tI 40 (tG 34 (tB 33 (uB 32) .nil) (uO 38)) (tO 48 (tG 44 (uI 43) .nil) (uI 50))) (tG 58 (tB 56 (tB 55 (uB 54) .nil) (uB 57)) (tB 65 (tI 63 (uO 61) .nil) (uB 66)))))
def qq (pg:Prg) (g0 o0:Nat) (x1_0 x1_1:Int) (b2:Bool) (gh:List GObj):DR:=
  callR gh true (callL pg 118 [.ptr true g0 o0,I x1_0] gh) fun r1 gh2=>unB r1 fun b3=>
  br 13 (!b3) (some (.ret,⟨[(6,I 5)],[],gh2⟩)) (
  callR gh2 true (callL pg 118 [.ptr true g0 o0,I x1_1] gh2) fun r4 gh5=>unB r4 fun b6=>
  br 20 (!b6) (some (.ret,⟨[(6,I 5)],[],gh5⟩)) (
  ob (ghCells gh5 g0) fun cs7=>
  ob (grab false 1 ((o0+0)+0) cs7) fun v8=>isC (degr v8) (
  idX 6 none (degr (degr v8)) x1_0 fun p9=>faX (degr p9) 0 fun p10=>
  ldX [[I x1_0,I x1_1]] gh5 false 1 (degr p10) fun v11=>unI .i64 v11 fun n12=>
  br 7 (n12 !=3) (some (.ret,⟨[(6,I 5)],[],gh5⟩)) (
  ob (ghCells gh5 g0) fun cs13=>
  ob (grab false 1 ((o0+0)+0) cs13) fun v14=>isC (degr v14) (
  idX 6 none (degr (degr v14)) x1_0 fun p15=>faX (degr p15) 1 fun p16=>
  ldX [[I x1_0,I x1_1]] gh5 false 1 (degr p16) fun v17=>unI .i64 v17 fun n18=>
  ob (ghCells gh5 g0) fun cs19=>
  ob (grab false 1 ((o0+0)+0) cs19) fun v20=>isC (degr v20) (
  idX 6 none (degr (degr v20)) x1_1 fun p21=>faX (degr p21) 1 fun p22=>
  ldX [[I x1_0,I x1_1]] gh5 false 1 (degr p22) fun v23=>unI .i64 v23 fun n24=>
  br 33 (n18 !=n24) (some (.ret,⟨[(6,I 1)],[],gh5⟩)) (
  br 57 b2 (
  ob (ghCells gh5 g0) fun cs25=>
  ob (grab false 1 (o0+5) cs25) fun v26=>isC (degr v26) (
  idX 1 none (degr (degr v26)) x1_1 fun p27=>
  ldX [[I x1_0,I x1_1]] gh5 false 1 (degr p27) fun v28=>unB v28 fun b29=>
  br 55 b29 (some (.ret,⟨[(6,I 4)],[],gh5⟩)) (some (.ret,⟨[(6,I 0)],[],gh5⟩)))) (some (.ret,⟨[(6,I 0)],[],gh5⟩)))))))))
theorem qq_ {g0 o0:Nat} {x1_0 x1_1:Int} {b2:Bool} (h:qq pg g0 o0 x1_0 x1_1 b2 gh=some (e,s)):runL pg q6v ⟨[(0,.ptr true g0 o0),(1,.agg [I x1_0,I x1_1]),(2,B b2)],[],gh⟩=some (e,s):=
 jae qa2 (Eq.trans (by kernel_rfl) h)
end
end Go.Lw
end

/-! What the code of function model_checker_pairs comes to, piece by piece. Written by program (dprint.py). -/
section
set_option maxRecDepth 10000
set_option maxHeartbeats 4000000
namespace Go.Lw
open Go
noncomputable section
variable {pg:Prg} {gh:List GObj} {e:IExit} {s:St}
def qj:Tr:=(tB 42 (tB 26 (tG 13 (tO 4 (tI 2 (uG 0) (uI 3)) (tO 9 (uI 7) (uO 10))) (tO 23 (tG 18 (uO 17) (uO 22)) (tI 25 (uI 24) .nil))) (.node 35 (.agg [.int .i64,.int .i64]) (tI 31 (tO 29 (uI 27) (uO 30)) (tB 33 (uI 32) .nil)) (tB 39 (.node 37 (.agg [.int .i64,.int .i64]) (uG 36) (uI 38)) (tI 41 (uI 40) .nil)))) (tO 63 (tO 55 (tG 46 (tI 44 (uI 43) (uI 45)) (tG 51 (uO 50) .nil)) (tB 59 (tI 57 (uO 56) (uI 58)) (tO 62 (uO 61) .nil))) (tI 72 (.node 68 (.agg [.int .i64,.int .i64]) (tI 65 (uI 64) (uB 66)) (tI 71 (uO 69) .nil)) (tI 76 (tI 74 (uO 73) (uO 75)) (tI 78 (uB 77) .nil)))))
def q2v (pg:Prg) (g0 o0:Nat) (x3:Int) (v23:PV) (x24 x25:Int) (v30:PV) (x31 x32:Int) (gh:List GObj):DR:=
  br 33 (decide (x32<x31)) (
  idX 2 none (degr v30) x32 fun p1=>
  ldX [] gh true 2 (degr p1) fun v2=>unA 2 v2 fun c3 c4=>unI .i64 c3 fun n5=>unI .i64 c4 fun n6=>stK 1 v23 (stK 1 v30 (
  callR gh true (callL pg 106 [.ptr true g0 o0,.agg [I n5,I n6],(B (x3==0))] gh) fun r7 gh8=>unI .i64 r7 fun n9=>stK 0 v23 (stK 0 v30 (stK 0 v23 (stK 0 v30 (
  br 42 (n9 !=0) (some (.ret,⟨[(2,I n9)],[],gh8⟩)) (stK 0 v23 (stK 0 v30 (stK 0 v23 (stK 0 v30 (some (.normal,⟨[(0,.ptr true g0 o0),(3,I x3),(23,v23),(24,I x24),(25,I x25),(30,v30),(31,I x31),(32,(I (IntKind.i64.wrap (x32+1))))],[],gh8⟩))))))))))))) (some ((.exit 2),⟨[(0,.ptr true g0 o0),(3,I x3),(23,v23),(24,I x24),(25,I x25),(30,v30),(31,I x31),(32,I x32),(33,(B (decide (x32<x31))))],[],gh⟩))
theorem q2v_ {g0 o0:Nat} {x3:Int} {v23:PV} {x24 x25:Int} {v30:PV} {x31 x32:Int} (h:q2v pg g0 o0 x3 v23 x24 x25 v30 x31 x32 gh=some (e,s)):runL pg q6i ⟨[(0,.ptr true g0 o0),(3,I x3),(23,v23),(24,I x24),(25,I x25),(30,v30),(31,I x31),(32,I x32)],[],gh⟩=some (e,s):=
 jae qj (Eq.trans (by kernel_rfl) h)
def q8w (pg:Prg) (g0 o0:Nat) (v23:PV) (x24 x25:Int) (gh:List GObj):DR:=stK 0 v23 (some (.normal,⟨[(0,.ptr true g0 o0),(23,v23),(24,I x24),(25,(I (IntKind.i64.wrap (x25+1))))],[],gh⟩))
theorem q8w_ {g0 o0:Nat} {v23:PV} {x24 x25:Int} (h:q8w pg g0 o0 v23 x24 x25 gh=some (e,s)):runL pg q27 ⟨[(0,.ptr true g0 o0),(23,v23),(24,I x24),(25,I x25)],[],gh⟩=some (e,s):=
 jae qj (Eq.trans (by kernel_rfl) h)
def q1d (pg:Prg) (g0 o0:Nat) (v23:PV) (x24 x25:Int) (gh:List GObj):DR:=
  br 26 (decide (x25<x24)) (
  idX 1 none (degr v23) x25 fun p1=>
  ldX [] gh false 1 (degr p1) fun v2=>isC v2 (stK 0 v2 (stK 0 v23 (isC (degr v2) (lenS (degr (degr v2)) fun n3=>stK 0 v23 (stK 0 (degr v2) (
  kR (runL pg q3q ⟨[(0,.ptr true g0 o0),(3,I x25),(23,v23),(24,I x24),(25,I x25),(30,(degr v2)),(31,(I (n3:Int))),(32,I 0)],[],gh⟩) (fun e s=>bk 1 e s (fun e s=>nx e s (fun e s=>po [0,23,24,25] 0 e s (fun e s=>some (e,s))) fun s=>kR (runL pg q27 s) (fun e s=>po [0,23,24,25] 0 e s (fun e s=>some (e,s)))))))))))) (some ((.exit 0),⟨[(0,.ptr true g0 o0),(23,v23),(24,I x24),(25,I x25),(26,(B (decide (x25<x24))))],[],gh⟩))
theorem q1d_ {g0 o0:Nat} {v23:PV} {x24 x25:Int} (h:q1d pg g0 o0 v23 x24 x25 gh=some (e,s)):runL pg q6j ⟨[(0,.ptr true g0 o0),(23,v23),(24,I x24),(25,I x25)],[],gh⟩=some (e,s):=
 jae qj (Eq.trans (by kernel_rfl) h)
def q5b (pg:Prg) (v9 v10 v56:PV) (x57 x58:Int) (v63:PV) (x64 x65:Int) (gh:List GObj):DR:=
  br 66 (decide (x65<x64)) (
  idX 2 none (degr v63) x65 fun p1=>
  ldX [] gh true 2 (degr p1) fun v2=>unA 2 v2 fun c3 c4=>unI .i64 c3 fun n5=>unI .i64 c4 fun n6=>stK 1 v9 (stK 1 v10 (stK 1 v56 (stK 1 v63 (isC (degr v10) (
  muX gh 0 (degr (degr v10)) (I n5) (B true) fun gh7=>stK 0 v9 (stK 0 v10 (stK 0 v56 (stK 0 v63 (stK 0 v9 (stK 0 v10 (stK 0 v56 (stK 0 v63 (stK 0 v9 (stK 0 v10 (stK 0 v56 (stK 0 v63 (some (.normal,⟨[(9,v9),(10,v10),(56,v56),(57,I x57),(58,I x58),(63,v63),(64,I x64),(65,(I (IntKind.i64.wrap (x65+1))))],[],gh7⟩))))))))))))))))))) (some ((.exit 6),⟨[(9,v9),(10,v10),(56,v56),(57,I x57),(58,I x58),(63,v63),(64,I x64),(65,I x65),(66,(B (decide (x65<x64))))],[],gh⟩))
theorem q5b_ {v9 v10 v56:PV} {x57 x58:Int} {v63:PV} {x64 x65:Int} (h:q5b pg v9 v10 v56 x57 x58 v63 x64 x65 gh=some (e,s)):runL pg q6k ⟨[(9,v9),(10,v10),(56,v56),(57,I x57),(58,I x58),(63,v63),(64,I x64),(65,I x65)],[],gh⟩=some (e,s):=
 jae qj (Eq.trans (by kernel_rfl) h)
def q8x (pg:Prg) (v9 v10 v56:PV) (x57 x58:Int) (gh:List GObj):DR:=isC (degr v10) (
  lenM gh (degr (degr v10)) fun n1=>isC (degr v9) (lenS (degr (degr v9)) fun n2=>stK 0 v56 (
  br 77 (decide ((n1:Int)<(n2:Int))) (some (.ret,⟨[(2,I 6)],[],gh⟩)) (some (.normal,⟨[(56,v56),(57,I x57),(58,I x58),(77,(B (decide ((n1:Int)<(n2:Int)))))],[],gh⟩)))))
theorem q8x_ {v9 v10 v56:PV} {x57 x58:Int} (h:q8x pg v9 v10 v56 x57 x58 gh=some (e,s)):runL pg q3t ⟨[(9,v9),(10,v10),(56,v56),(57,I x57),(58,I x58)],[],gh⟩=some (e,s):=
 jae qj (Eq.trans (by kernel_rfl) h)
def q8y (pg:Prg) (v56:PV) (x57 x58:Int) (b77:Bool) (gh:List GObj):DR:=stK 0 v56 (some (.normal,⟨[(56,v56),(57,I x57),(58,(I (IntKind.i64.wrap (x58+1))))],[],gh⟩))
theorem q8y_ {v56:PV} {x57 x58:Int} {b77:Bool} (h:q8y pg v56 x57 x58 b77 gh=some (e,s)):runL pg q28 ⟨[(56,v56),(57,I x57),(58,I x58),(77,B b77)],[],gh⟩=some (e,s):=
 jae qj (Eq.trans (by kernel_rfl) h)
def q2w (pg:Prg) (v56:PV) (x57 x58:Int) (gh:List GObj):DR:=
  br 59 (decide (x58<x57)) (
  idX 1 none (degr v56) x58 fun p1=>
  ldX [] gh false 1 (degr p1) fun v2=>isC v2 (stK 0 v2 (stK 0 v56 (stK 0 v2 (stK 0 v56 (isC (degr v2) (lenS (degr (degr v2)) fun n3=>stK 0 v2 (stK 0 v56 (stK 0 (degr v2) (
  kR (runL pg q3s ⟨[(9,v2),(10,(.mp (List.length gh))),(56,v56),(57,I x57),(58,I x58),(63,(degr v2)),(64,(I (n3:Int))),(65,I 0)],[],(gh++[.map []])⟩) (fun e s=>nx e s (fun e s=>bk 5 e s (fun e s=>nx e s (fun e s=>po [56,57,58] 0 e s (fun e s=>some (e,s))) fun s=>kR (runL pg q28 s) (fun e s=>po [56,57,58] 0 e s (fun e s=>some (e,s))))) fun s=>kR (runL pg q3t s) (fun e s=>bk 5 e s (fun e s=>nx e s (fun e s=>po [56,57,58] 0 e s (fun e s=>some (e,s))) fun s=>kR (runL pg q28 s) (fun e s=>po [56,57,58] 0 e s (fun e s=>some (e,s)))))))))))))))) (some ((.exit 4),⟨[(56,v56),(57,I x57),(58,I x58),(59,(B (decide (x58<x57))))],[],gh⟩))
theorem q2w_ {v56:PV} {x57 x58:Int} (h:q2w pg v56 x57 x58 gh=some (e,s)):runL pg q3u ⟨[(56,v56),(57,I x57),(58,I x58)],[],gh⟩=some (e,s):=
 jae qj (Eq.trans (by kernel_rfl) h)
def qa3 (pg:Prg) (gh:List GObj):DR:=some (.ret,⟨[(2,I 0)],[],gh⟩)
theorem qa3_ (h:qa3 pg gh=some (e,s)):runL pg q29 ⟨[],[],gh⟩=some (e,s):=
 jae qj (Eq.trans (by kernel_rfl) h)
def q5c (pg:Prg) (g0 o0:Nat) (gh:List GObj):DR:=
  ob (ghCells gh g0) fun cs1=>
  ob (grab false 1 ((o0+0)+1) cs1) fun v2=>isC (degr v2) (
  ob (ghCells gh g0) fun cs3=>
  ob (grab false 1 ((o0+0)+2) cs3) fun v4=>isC (degr v4) (arK (degr (degr v2)) (lnK 1 (degr (degr v2)) (arK (degr (degr v4)) (lnK 1 (degr (degr v4)) (lenS (.sl false 1 [(degr (degr v2)),(degr (degr v4))]) fun n5=>
  kR (runL pg q3v ⟨[(56,(.sl true 1 [(degr (degr v2)),(degr (degr v4))])),(57,(I (n5:Int))),(58,I 0)],[],gh⟩) (fun e s=>nx e s (fun e s=>some (e,s)) fun s=>kR (runL pg q29 s) (fun e s=>some (e,s)))))))))
theorem q5c_ {g0 o0:Nat} (h:q5c pg g0 o0 gh=some (e,s)):runL pg q2a ⟨[(0,.ptr true g0 o0)],[],gh⟩=some (e,s):=
 jae qj (Eq.trans (by kernel_rfl) h)
def q2x (pg:Prg) (g0 o0:Nat) (gh:List GObj):DR:=
  ob (ghCells gh g0) fun cs1=>
  ob (grab false 1 ((o0+0)+1) cs1) fun v2=>isC (degr v2) (
  ob (ghCells gh g0) fun cs3=>
  ob (grab false 1 ((o0+0)+2) cs3) fun v4=>isC (degr v4) (arK (degr (degr v2)) (lnK 1 (degr (degr v2)) (arK (degr (degr v4)) (lnK 1 (degr (degr v4)) (lenS (.sl false 1 [(degr (degr v2)),(degr (degr v4))]) fun n5=>
  kR (runL pg q3r ⟨[(0,.ptr true g0 o0),(23,(.sl true 1 [(degr (degr v2)),(degr (degr v4))])),(24,(I (n5:Int))),(25,I 0)],[],gh⟩) (fun e s=>nx e s (fun e s=>some (e,s)) fun s=>kR (runL pg q2a s) (fun e s=>some (e,s)))))))))
theorem q2x_ {g0 o0:Nat} (h:q2x pg g0 o0 gh=some (e,s)):runL pg q6l ⟨[(0,.ptr true g0 o0)],[],gh⟩=some (e,s):=
 jae qj (Eq.trans (by kernel_rfl) h)
end
end Go.Lw
end

/-! What the code of function model_checker_marks comes to, piece by piece. Written by program (dprint.py). -/
section
set_option maxRecDepth 10000
set_option maxHeartbeats 4000000
namespace Go.Lw
open Go
noncomputable section
variable {pg:Prg} {gh:List GObj} {e:IExit} {s:St}
def qa4:Tr:=(tG 17 (tI 9 (tO 3 (tG 1 (uG 0) (uI 2)) (tO 8 (uG 4) .nil)) (tO 14 (.node 13 (.agg [.any,.any,.any,.any,.any]) (uG 10) .nil) (tB 16 (uI 15) .nil))) (tO 29 (tO 26 (tG 22 (uO 21) .nil) (tO 28 (uO 27) .nil)) (tO 32 (tB 31 (uO 30) .nil) (tB 34 (uO 33) .nil))))
def q1y (pg:Prg) (g0 o0:Nat) (gh:List GObj):DR:=
  ob (ghCells (gh++[.cells [.ptr true g0 o0]]) (List.length gh)) fun cs1=>
  ob (grab false 1 0 cs1) fun v2=>unG (degr v2) fun g3 o4=>
  ob (ghCells (gh++[.cells [.ptr true g0 o0]]) g3) fun cs5=>
  ob (grab false 1 ((o4+0)+2) cs5) fun v6=>isC (degr v6) (lenS (degr (degr v6)) fun n7=>
  ob (ghCells (gh++[.cells [.ptr true g0 o0]]) (List.length gh)) fun cs8=>
  ob (grab false 1 0 cs8) fun v9=>unG (degr v9) fun g10 o11=>
  ob (ghCells (gh++[.cells [.ptr true g0 o0]]) g10) fun cs12=>
  ob (grab true 5 (o11+0) cs12) fun v13=>unA 5 (degr v13) fun c14 c15 c16 c17 c18=>onK (degr1 c14) (onK (degr1 c15) (onK (degr1 c16) (onK (degr1 c17) (onK (degr1 c18) (
  callR (gh++[.cells [.ptr true g0 o0]]) true (callL pg 101 [(.agg [(degr1 c14),(degr1 c15),(degr1 c16),(degr1 c17),(degr1 c18)]),I 3] (gh++[.cells [.ptr true g0 o0]])) fun r19 gh20=>isC r19 (lenS (degr r19) fun n21=>
  br 16 (decide ((n7:Int)<(n21:Int))) (some (.ret,⟨[(2,I 5)],[],gh20⟩)) (
  ob (ghCells gh20 (List.length gh)) fun cs22=>
  ob (grab false 1 0 cs22) fun v23=>unG (degr v23) fun g24 o25=>
  ob (ghCells gh20 g24) fun cs26=>
  ob (grab false 1 ((o25+0)+3) cs26) fun v27=>isC (degr v27) (
  ob (ghCells gh20 (List.length gh)) fun cs28=>
  ob (grab false 1 0 cs28) fun v29=>unG (degr v29) fun g30 o31=>
  ob (ghCells gh20 g30) fun cs32=>
  ob (grab false 1 ((o31+0)+4) cs32) fun v33=>isC (degr v33) (arK (degr (degr v27)) (lnK 1 (degr (degr v27)) (arK (degr (degr v33)) (lnK 1 (degr (degr v33)) (
  callR gh20 true (callL pg 107 [(.sl false 1 [(degr (degr v27)),(degr (degr v33))])] gh20) fun r34 gh35=>isC r34 (stK 0 r34 (isC (degr r34) (arK (degr (degr r34)) (
  callR gh35 true (callL pg 86 [(degr (degr r34)),(.fn 108 [(.ptr true (List.length gh) 0)])] gh35) fun r36 gh37=>unB r36 fun b38=>stK 0 r34 (
  br 31 b38 (some (.ret,⟨[(2,I 5)],[],gh37⟩)) (isC (degr r34) (arK (degr (degr r34)) (
  callR gh37 true (callL pg 86 [(degr (degr r34)),(.fn 109 [(.ptr true (List.length gh) 0)])] gh37) fun r39 gh40=>unB r39 fun b41=>
  br 34 b41 (some (.ret,⟨[(2,I 1)],[],gh40⟩)) (some (.ret,⟨[(2,I 0)],[],gh40⟩))))))))))))))))))))))))
theorem q1y_ {g0 o0:Nat} (h:q1y pg g0 o0 gh=some (e,s)):runL pg q6m ⟨[(0,.ptr true g0 o0)],[],gh⟩=some (e,s):=
 jae qa4 (Eq.trans (by kernel_rfl) h)
end
end Go.Lw
end

/-! What the code of function model_checker_marks_1 comes to, piece by piece. Written by program (dprint.py). -/
section
set_option maxRecDepth 10000
set_option maxHeartbeats 4000000
namespace Go.Lw
open Go
noncomputable section
variable {pg:Prg} {gh:List GObj} {e:IExit} {s:St}
def qa5:Tr:=(tG 4 (tG 1 (uI 0) (uB 3)) (tB 6 (uI 5) (uB 7)))
def q8z (pg:Prg) (x0:Int) (g1 o1:Nat) (gh:List GObj):DR:=
  ob (ghCells gh g1) fun cs1=>
  ob (grab false 1 o1 cs1) fun v2=>unG (degr v2) fun g3 o4=>
  callR gh true (callL pg 118 [.ptr true g3 o4,I x0] gh) fun r5 gh6=>unB r5 fun b7=>some (.ret,⟨[(3,(B (!b7)))],[],gh6⟩)
theorem q8z_ {x0:Int} {g1 o1:Nat} (h:q8z pg x0 g1 o1 gh=some (e,s)):runL pg q6w ⟨[(0,I x0),(1,.ptr true g1 o1)],[],gh⟩=some (e,s):=
 jae qa5 (Eq.trans (by kernel_rfl) h)
end
end Go.Lw
end

/-! What the code of function model_checker_marks_2 comes to, piece by piece. Written by program (dprint.py). -/
section
set_option maxRecDepth 10000
set_option maxHeartbeats 4000000
namespace Go.Lw
open Go
noncomputable section
variable {pg:Prg} {gh:List GObj} {e:IExit} {s:St}
def qa6:Tr:=(tO 8 (tB 3 (tG 1 (uI 0) .nil) (uG 4)) (tI 12 (uI 9) (uB 13)))
def q90 (pg:Prg) (x0:Int) (g1 o1:Nat) (gh:List GObj):DR:=
  ob (ghCells gh g1) fun cs1=>
  ob (grab false 1 o1 cs1) fun v2=>unG (degr v2) fun g3 o4=>
  ob (ghCells gh g3) fun cs5=>
  ob (grab false 1 ((o4+0)+0) cs5) fun v6=>isC (degr v6) (
  idX 6 none (degr (degr v6)) x0 fun p7=>faX (degr p7) 1 fun p8=>
  ldX [] gh false 1 (degr p8) fun v9=>unI .i64 v9 fun n10=>some (.ret,⟨[(3,(B (n10 !=1)))],[],gh⟩))
theorem q90_ {x0:Int} {g1 o1:Nat} (h:q90 pg x0 g1 o1 gh=some (e,s)):runL pg q6x ⟨[(0,I x0),(1,.ptr true g1 o1)],[],gh⟩=some (e,s):=
 jae qa6 (Eq.trans (by kernel_rfl) h)
end
end Go.Lw
end

/-! What the code of function model_Check comes to, piece by piece. Written by program (dprint.py). -/
section
set_option maxRecDepth 10000
set_option maxHeartbeats 4000000
namespace Go.Lw
open Go
noncomputable section
variable {pg:Prg} {gh:List GObj} {e:IExit} {s:St}
def q5d:Tr:=(tI 33 (tI 16 (tG 7 (tI 4 (tI 2 (.node 0 (.agg [.any,.any,.any,.any,.any]) .nil .nil) (uI 3)) (tI 6 (uI 5) .nil)) (tB 12 (tO 10 (uI 8) (uI 11)) (tO 15 (uB 13) .nil))) (tB 24 (tO 21 (tB 18 (uB 17) (uB 19)) (tB 23 (uI 22) .nil)) (tB 29 (tI 27 (uO 26) (uI 28)) (tO 32 (uI 30) .nil)))) (tI 47 (.node 40 (.agg [.any,.any,.any,.any,.any]) (tI 37 (tI 35 (uI 34) (uB 36)) (.node 39 (.tup 2) (uI 38) .nil)) (tI 44 (tI 42 (.node 41 (.tup 2) .nil .nil) (uI 43)) (tB 46 (uB 45) .nil))) (tG 55 (.node 51 (.agg [.any,.any,.any,.any,.any,.any]) (tB 49 (uB 48) (.node 50 (.agg [.any,.any,.any,.any,.any]) .nil .nil)) (tG 53 (uG 52) .nil)) (tI 59 (tI 57 (uI 56) (uB 58)) (tI 61 (uG 60) .nil)))))
def q2y (pg:Prg) (x27 x28:Int) (vc0_0 vc0_1:PV) (vc0_2 vc0_3 vc0_4:PV) (gh:List GObj):DR:=
  br 29 (decide (x28<x27)) (isC (degr vc0_0) (arK (degr (degr vc0_0)) (
  callR gh true (callL pg 76 [(degr (degr vc0_0)),I x28] gh) fun r1 gh2=>unI .i64 r1 fun n3=>
  br 36 (n3 !=0) (some (.ret,⟨[(2,I n3)],[],gh2⟩)) (some (.normal,⟨[(1,.ptr false 0 0),(27,I x27),(28,(I (IntKind.i64.wrap (x28+1))))],[[vc0_0,vc0_1,vc0_2,vc0_3,vc0_4]],gh2⟩))))) (some ((.exit 0),⟨[(1,.ptr false 0 0),(27,I x27),(28,I x28),(29,(B (decide (x28<x27))))],[[vc0_0,vc0_1,vc0_2,vc0_3,vc0_4]],gh⟩))
theorem q2y_ {x27 x28:Int} {vc0_0 vc0_1:PV} {vc0_2 vc0_3 vc0_4:PV} (h:q2y pg x27 x28 vc0_0 vc0_1 vc0_2 vc0_3 vc0_4 gh=some (e,s)):runL pg q6a ⟨[(1,.ptr false 0 0),(27,I x27),(28,I x28)],[[vc0_0,vc0_1,vc0_2,vc0_3,vc0_4]],gh⟩=some (e,s):=
 jae q5d (Eq.trans (by kernel_rfl) h)
def q1z (pg:Prg) (vc0_0 vc0_1:PV) (vc0_2 vc0_3 vc0_4:PV) (gh:List GObj):DR:=onK (degr1 (degr1 vc0_0)) (onK (degr1 (degr1 vc0_1)) (onK (degr1 (degr1 vc0_2)) (onK (degr1 (degr1 vc0_3)) (onK (degr1 (degr1 vc0_4)) (
  callR gh true (callL pg 77 [(.agg [(degr1 (degr1 vc0_0)),(degr1 (degr1 vc0_1)),(degr1 (degr1 vc0_2)),(degr1 (degr1 vc0_3)),(degr1 (degr1 vc0_4))])] gh) fun r1 gh2=>unT 2 r1 fun r3 r4=>unI .i64 (degr1 (degr1 r3)) fun n5=>unI .i64 (degr1 (degr1 r4)) fun n6=>
  br 46 (decide (6<n5)) (some (.ret,⟨[(2,I 2)],[],gh2⟩)) (
  br 49 (decide (10<n6)) (some (.ret,⟨[(2,I 2)],[],gh2⟩)) (onK (degr1 vc0_0) (onK (degr1 vc0_1) (onK (degr1 vc0_2) (onK (degr1 vc0_3) (onK (degr1 vc0_4) (onK (degr1 vc0_0) (onK (degr1 vc0_1) (onK (degr1 vc0_2) (onK (degr1 vc0_3) (onK (degr1 vc0_4) (
  callR (gh2++[.cells [(degr1 vc0_0),(degr1 vc0_1),(degr1 vc0_2),(degr1 vc0_3),(degr1 vc0_4),.sl true 1 []]]) false (callL pg 78 [(.ptr true (List.length gh2) 0)] (gh2++[.cells [(degr1 vc0_0),(degr1 vc0_1),(degr1 vc0_2),(degr1 vc0_3),(degr1 vc0_4),.sl true 1 []]])) fun r7 gh8=>
  callR gh8 true (callL pg 79 [(.ptr true (List.length gh2) 0)] gh8) fun r9 gh10=>unI .i64 r9 fun n11=>
  br 58 (n11 !=0) (some (.ret,⟨[(2,I n11)],[],gh10⟩)) (
  callR gh10 true (callL pg 80 [(.ptr true (List.length gh2) 0)] gh10) fun r12 gh13=>unI .i64 r12 fun n14=>some (.ret,⟨[(2,I n14)],[],gh13⟩)))))))))))))))))))
theorem q1z_ {vc0_0 vc0_1:PV} {vc0_2 vc0_3 vc0_4:PV} (h:q1z pg vc0_0 vc0_1 vc0_2 vc0_3 vc0_4 gh=some (e,s)):runL pg qz ⟨[(1,.ptr false 0 0)],[[vc0_0,vc0_1,vc0_2,vc0_3,vc0_4]],gh⟩=some (e,s):=
 jae q5d (Eq.trans (by kernel_rfl) h)
def qr (pg:Prg) (v0_0 v0_1:PV) (v0_2 v0_3 v0_4:PV) (gh:List GObj):DR:=onK (degr1 v0_0) (onK (degr1 v0_1) (onK (degr1 v0_2) (onK (degr1 v0_3) (onK (degr1 v0_4) (isC (degr (degr1 v0_0)) (lenS (degr (degr (degr1 v0_0))) fun n1=>
  br 13 (decide (80<(n1:Int))) (some (.ret,⟨[(2,I 2)],[],gh⟩)) (isC (degr (degr1 v0_3)) (lenS (degr (degr (degr1 v0_3))) fun n2=>
  br 19 (decide (8<(n2:Int))) (some (.ret,⟨[(2,I 2)],[],gh⟩)) (isC (degr (degr1 v0_4)) (lenS (degr (degr (degr1 v0_4))) fun n3=>
  br 24 (decide (8<(n3:Int))) (some (.ret,⟨[(2,I 2)],[],gh⟩)) (isC (degr (degr1 v0_0)) (lenS (degr (degr (degr1 v0_0))) fun n4=>
  kR (runL pg q3j ⟨[(1,.ptr false 0 0),(27,(I (n4:Int))),(28,I 0)],[[(degr1 v0_0),(degr1 v0_1),(degr1 v0_2),(degr1 v0_3),(degr1 v0_4)]],gh⟩) (fun e s=>nx e s (fun e s=>some (e,s)) fun s=>kR (runL pg qz s) (fun e s=>some (e,s)))))))))))))))
theorem qr_ {v0_0 v0_1:PV} {v0_2 v0_3 v0_4:PV} (h:qr pg v0_0 v0_1 v0_2 v0_3 v0_4 gh=some (e,s)):runL pg q6b ⟨[(0,.agg [v0_0,v0_1,v0_2,v0_3,v0_4])],[],gh⟩=some (e,s):=
 jae q5d (Eq.trans (by kernel_rfl) h)
end
end Go.Lw
end

/-! What the code of function slices_Concat_Lint_int comes to, piece by piece. Written by program (dprint.py). -/
section
set_option maxRecDepth 10000
set_option maxHeartbeats 4000000
namespace Go.Lw
open Go
noncomputable section
variable {pg:Prg} {gh:List GObj} {e:IExit} {s:St}
def q22:Tr:=(tI 19 (tI 10 (tO 5 (tO 2 (uO 0) (uI 3)) (tO 8 (uO 6) (uO 9))) (tI 15 (tB 12 (uI 11) (uO 14)) (tI 17 (uO 16) (uI 18)))) (tB 28 (tO 24 (tI 22 (uB 20) (uI 23)) (tI 26 (uO 25) (uI 27))) (tO 33 (tO 31 (uO 30) (uO 32)) (tO 35 (uI 34) .nil))))
def q2z (pg:Prg) (v0:PV) (x3:Int) (v9:PV) (x10 x11:Int) (gh:List GObj):DR:=
  br 12 (decide (x11<x10)) (
  idX 1 none (degr v9) x11 fun p1=>
  ldX [] gh false 1 (degr p1) fun v2=>isC v2 (stK 0 v0 (stK 0 v2 (stK 0 v9 (isC (degr v2) (lenS (degr (degr v2)) fun n3=>stK 0 v0 (stK 0 v9 (stK 0 v0 (stK 0 v9 (
  br 20 (decide ((IntKind.i64.wrap (x3+(n3:Int)))<0)) (none) (stK 0 v0 (stK 0 v9 (stK 0 v0 (stK 0 v9 (some (.normal,⟨[(0,v0),(3,(I (IntKind.i64.wrap (x3+(n3:Int))))),(9,v9),(10,I x10),(11,(I (IntKind.i64.wrap (x11+1))))],[],gh⟩)))))))))))))))) (some ((.exit 0),⟨[(0,v0),(3,I x3),(9,v9),(10,I x10),(11,I x11),(12,(B (decide (x11<x10))))],[],gh⟩))
theorem q2z_ {v0:PV} {x3:Int} {v9:PV} {x10 x11:Int} (h:q2z pg v0 x3 v9 x10 x11 gh=some (e,s)):runL pg q63 ⟨[(0,v0),(3,I x3),(9,v9),(10,I x10),(11,I x11)],[],gh⟩=some (e,s):=
 jae q22 (Eq.trans (by kernel_rfl) h)
def q30 (pg:Prg) (v6 v25:PV) (x26 x27:Int) (gh:List GObj):DR:=
  br 28 (decide (x27<x26)) (
  idX 1 none (degr v25) x27 fun p1=>
  ldX [] gh false 1 (degr p1) fun v2=>isC v2 (stK 0 v6 (stK 0 v2 (stK 0 v25 (isC (degr v2) (
  apX 1 8 v6 (degr (degr v2)) fun l3=>stK 0 v25 (stK 0 v25 (stK 0 v25 (some (.normal,⟨[(6,.sl true 1 l3),(25,v25),(26,I x26),(27,(I (IntKind.i64.wrap (x27+1))))],[],gh⟩)))))))))) (some ((.exit 2),⟨[(6,v6),(25,v25),(26,I x26),(27,I x27),(28,(B (decide (x27<x26))))],[],gh⟩))
theorem q30_ {v6 v25:PV} {x26 x27:Int} (h:q30 pg v6 v25 x26 x27 gh=some (e,s)):runL pg q64 ⟨[(6,v6),(25,v25),(26,I x26),(27,I x27)],[],gh⟩=some (e,s):=
 jae q22 (Eq.trans (by kernel_rfl) h)
def q91 (pg:Prg) (v6:PV) (gh:List GObj):DR:=isC (degr v6) (stK 0 (degr v6) (some (.ret,⟨[(2,(degr v6))],[],gh⟩)))
theorem q91_ {v6:PV} (h:q91 pg v6 gh=some (e,s)):runL pg q3d ⟨[(6,v6)],[],gh⟩=some (e,s):=
 jae q22 (Eq.trans (by kernel_rfl) h)
def q92 (pg:Prg) (v0:PV) (x3:Int) (gh:List GObj):DR:=
  callR gh true (callL pg 119 [.nils,I x3] gh) fun r1 gh2=>isC r1 (stK 0 v0 (stK 0 r1 (isC (degr v0) (lenS (degr (degr v0)) fun n3=>stK 0 r1 (stK 0 (degr v0) (
  kR (runL pg q3c ⟨[(6,r1),(25,(degr v0)),(26,(I (n3:Int))),(27,I 0)],[],gh2⟩) (fun e s=>nx e s (fun e s=>some (e,s)) fun s=>kR (runL pg q3d s) (fun e s=>some (e,s)))))))))
theorem q92_ {v0:PV} {x3:Int} (h:q92 pg v0 x3 gh=some (e,s)):runL pg q3e ⟨[(0,v0),(3,I x3)],[],gh⟩=some (e,s):=
 jae q22 (Eq.trans (by kernel_rfl) h)
def q93 (pg:Prg) (v0:PV) (gh:List GObj):DR:=stK 0 v0 (isC (degr v0) (lenS (degr (degr v0)) fun n1=>stK 0 v0 (stK 0 (degr v0) (
  kR (runL pg q3b ⟨[(0,v0),(3,I 0),(9,(degr v0)),(10,(I (n1:Int))),(11,I 0)],[],gh⟩) (fun e s=>nx e s (fun e s=>some (e,s)) fun s=>kR (runL pg q3e s) (fun e s=>some (e,s)))))))
theorem q93_ {v0:PV} (h:q93 pg v0 gh=some (e,s)):runL pg q65 ⟨[(0,v0)],[],gh⟩=some (e,s):=
 jae q22 (Eq.trans (by kernel_rfl) h)
end
end Go.Lw
end

/-! What the code of function slices_Index_Lstring_string comes to, piece by piece. Written by program (dprint.py). -/
section
set_option maxRecDepth 10000
set_option maxHeartbeats 4000000
namespace Go.Lw
open Go
noncomputable section
variable {pg:Prg} {gh:List GObj} {e:IExit} {s:St}
def q5o:Tr:=(tI 10 (tO 6 (tI 4 (.node 1 (.ce (.str)) (uO 0) .nil) (uI 5)) (tI 8 (uI 7) (uB 9))) (.node 15 (.ce (.str)) (tO 12 (.node 11 (.ce (.str)) .nil .nil) (uI 13)) (tI 17 (uB 16) (uI 18))))
def q34 (pg:Prg) (v0:PV) (s1:ByteArray) (x7 x8:Int) (gh:List GObj):DR:=
  br 9 (decide (x8<x7)) (stK 0 v0 (isC (degr v0) (
  idX 1 none (degr (degr v0)) x8 fun p1=>
  ldX [] gh false 1 (degr p1) fun v2=>unS v2 fun s3=>stK 0 v0 (
  br 16 (ByteArray.toList s1==ByteArray.toList s3) (some (.ret,⟨[(4,I x8)],[],gh⟩)) (stK 0 v0 (stK 0 v0 (some (.normal,⟨[(0,v0),(1,.str s1),(7,I x7),(8,(I (IntKind.i64.wrap (x8+1))))],[],gh⟩)))))))) (some ((.exit 0),⟨[(0,v0),(1,.str s1),(7,I x7),(8,I x8),(9,(B (decide (x8<x7))))],[],gh⟩))
theorem q34_ {v0:PV} {s1:ByteArray} {x7 x8:Int} (h:q34 pg v0 s1 x7 x8 gh=some (e,s)):runL pg q68 ⟨[(0,v0),(1,.str s1),(7,I x7),(8,I x8)],[],gh⟩=some (e,s):=
 jae q5o (Eq.trans (by kernel_rfl) h)
def qa9 (pg:Prg) (gh:List GObj):DR:=some (.ret,⟨[(4,(I (-1)))],[],gh⟩)
theorem qa9_ (h:qa9 pg gh=some (e,s)):runL pg q26 ⟨[],[],gh⟩=some (e,s):=
 jae q5o (Eq.trans (by kernel_rfl) h)
def q5p (pg:Prg) (v0:PV) (s1:ByteArray) (gh:List GObj):DR:=stK 0 v0 (isC (degr v0) (lenS (degr (degr v0)) fun n1=>stK 0 v0 (
  kR (runL pg q3i ⟨[(0,v0),(1,.str s1),(7,(I (n1:Int))),(8,I 0)],[],gh⟩) (fun e s=>nx e s (fun e s=>some (e,s)) fun s=>kR (runL pg q26 s) (fun e s=>some (e,s))))))
theorem q5p_ {v0:PV} {s1:ByteArray} (h:q5p pg v0 s1 gh=some (e,s)):runL pg q69 ⟨[(0,v0),(1,.str s1)],[],gh⟩=some (e,s):=
 jae q5o (Eq.trans (by kernel_rfl) h)
end
end Go.Lw
end

/-! What the code of function ref_SameInts comes to, piece by piece. Written by program (dprint.py). -/
section
set_option maxRecDepth 10000
set_option maxHeartbeats 4000000
namespace Go.Lw
open Go
noncomputable section
variable {pg:Prg} {gh:List GObj} {e:IExit} {s:St}
def q5v:Tr:=(tI 13 (tI 7 (tB 4 (tO 1 (uO 0) .nil) (tO 6 (uI 5) .nil)) (tB 10 (tI 9 (uO 8) .nil) (tO 12 (uI 11) .nil))) (tI 20 (tI 16 (tI 15 (uB 14) .nil) (tI 18 (uO 17) .nil)) (tI 24 (tI 22 (uO 21) .nil) (uB 25))))
def q5w (pg:Prg) (v0 v1:PV) (x5:Int) (gh:List GObj):DR:=isC (degr v0) (lenS (degr (degr v0)) fun n1=>stK 0 v0 (stK 0 v1 (
  br 14 (decide (x5<(n1:Int))) (isC (degr v0) (
  idX 1 none (degr (degr v0)) x5 fun p2=>
  ldX [] gh false 1 (degr p2) fun v3=>unI .i64 v3 fun n4=>isC (degr v1) (
  idX 1 none (degr (degr v1)) x5 fun p5=>
  ldX [] gh false 1 (degr p5) fun v6=>unI .i64 v6 fun n7=>stK 0 v0 (stK 0 v1 (
  br 25 (n4 !=n7) (some (.ret,⟨[(4,B false)],[],gh⟩)) (stK 0 v0 (stK 0 v1 (stK 0 v0 (stK 0 v1 (some (.normal,⟨[(0,v0),(1,v1),(5,(I (IntKind.i64.wrap (x5+1))))],[],gh⟩))))))))))) (some ((.exit 0),⟨[(0,v0),(1,v1),(5,I x5),(14,(B (decide (x5<(n1:Int)))))],[],gh⟩)))))
theorem q5w_ {v0 v1:PV} {x5:Int} (h:q5w pg v0 v1 x5 gh=some (e,s)):runL pg q6z ⟨[(0,v0),(1,v1),(5,I x5)],[],gh⟩=some (e,s):=
 jae q5v (Eq.trans (by kernel_rfl) h)
def qab (pg:Prg) (gh:List GObj):DR:=some (.ret,⟨[(4,B true)],[],gh⟩)
theorem qab_ (h:qab pg gh=some (e,s)):runL pg q48 ⟨[],[],gh⟩=some (e,s):=
 jae q5v (Eq.trans (by kernel_rfl) h)
def q9f (pg:Prg) (v0 v1:PV) (gh:List GObj):DR:=stK 0 v0 (stK 0 v1 (isC (degr v0) (lenS (degr (degr v0)) fun n1=>isC (degr v1) (lenS (degr (degr v1)) fun n2=>stK 0 v0 (stK 0 v1 (
  br 10 ((n1:Int) !=(n2:Int)) (some (.ret,⟨[(4,B false)],[],gh⟩)) (stK 0 v0 (stK 0 v1 (
  kR (runL pg q47 ⟨[(0,v0),(1,v1),(5,I 0)],[],gh⟩) (fun e s=>nx e s (fun e s=>some (e,s)) fun s=>kR (runL pg q48 s) (fun e s=>some (e,s))))))))))))
theorem q9f_ {v0 v1:PV} (h:q9f pg v0 v1 gh=some (e,s)):runL pg q70 ⟨[(0,v0),(1,v1)],[],gh⟩=some (e,s):=
 jae q5v (Eq.trans (by kernel_rfl) h)
end
end Go.Lw
end

/-! What the code of function ref_SameModel comes to, piece by piece. Written by program (dprint.py). -/
section
set_option maxRecDepth 10000
set_option maxHeartbeats 4000000
namespace Go.Lw
open Go
noncomputable section
variable {pg:Prg} {gh:List GObj} {e:IExit} {s:St}
def q5x:Tr:=(tO 33 (tO 17 (tI 8 (tB 4 (.node 1 (.agg [.any,.any,.any,.any,.any]) (.node 0 (.agg [.any,.any,.any,.any,.any]) .nil .nil) .nil) (tO 7 (uI 5) .nil)) (tB 12 (tI 11 (uO 10) .nil) (tO 15 (uB 13) .nil))) (tO 25 (tB 20 (tB 19 (uB 18) .nil) (tO 23 (uB 21) .nil)) (tB 28 (tB 27 (uB 26) .nil) (tO 31 (uB 29) .nil)))) (tI 48 (tO 41 (tB 36 (tB 35 (uB 34) .nil) (tO 39 (uB 37) .nil)) (tB 44 (tB 43 (uB 42) .nil) (tO 47 (uI 45) .nil))) (.node 56 (.agg [.int .i64,.int .i64,.int .i64,.int .i64,.int .i64,.int .i64]) (tI 51 (tI 50 (uB 49) .nil) (tI 54 (uO 53) .nil)) (.node 61 (.agg [.int .i64,.int .i64,.int .i64,.int .i64,.int .i64,.int .i64]) (tI 59 (uO 58) .nil) (uB 62)))))
def q5y (pg:Prg) (x5:Int) (vc0_0 vc0_1:PV) (vc0_2 vc0_3:PV) (vc0_4 vc1_0:PV) (vc1_1 vc1_2:PV) (vc1_3 vc1_4:PV) (gh:List GObj):DR:=isC (degr vc0_0) (lenS (degr (degr vc0_0)) fun n1=>
  br 49 (decide (x5<(n1:Int))) (isC (degr vc0_0) (
  idX 6 none (degr (degr vc0_0)) x5 fun p2=>
  ldX [[vc0_0,vc0_1,vc0_2,vc0_3,vc0_4],[vc1_0,vc1_1,vc1_2,vc1_3,vc1_4]] gh true 6 (degr p2) fun v3=>unA 6 v3 fun c4 c5 c6 c7 c8 c9=>unI .i64 c4 fun n10=>unI .i64 c5 fun n11=>unI .i64 c6 fun n12=>unI .i64 c7 fun n13=>unI .i64 c8 fun n14=>unI .i64 c9 fun n15=>isC (degr vc1_0) (
  idX 6 none (degr (degr vc1_0)) x5 fun p16=>
  ldX [[vc0_0,vc0_1,vc0_2,vc0_3,vc0_4],[vc1_0,vc1_1,vc1_2,vc1_3,vc1_4]] gh true 6 (degr p16) fun v17=>unA 6 v17 fun c18 c19 c20 c21 c22 c23=>unI .i64 c18 fun n24=>unI .i64 c19 fun n25=>unI .i64 c20 fun n26=>unI .i64 c21 fun n27=>unI .i64 c22 fun n28=>unI .i64 c23 fun n29=>ob (flatEq [false,false,false,false,false,false] [I n10,I n11,I n12,I n13,I n14,I n15] [I n24,I n25,I n26,I n27,I n28,I n29]) fun b30=>
  br 62 (!b30) (some (.ret,⟨[(4,B false)],[],gh⟩)) (some (.normal,⟨[(2,.ptr false 0 0),(3,.ptr false 1 0),(5,(I (IntKind.i64.wrap (x5+1))))],[[vc0_0,vc0_1,vc0_2,vc0_3,vc0_4],[vc1_0,vc1_1,vc1_2,vc1_3,vc1_4]],gh⟩))))) (some ((.exit 0),⟨[(2,.ptr false 0 0),(3,.ptr false 1 0),(5,I x5),(49,(B (decide (x5<(n1:Int)))))],[[vc0_0,vc0_1,vc0_2,vc0_3,vc0_4],[vc1_0,vc1_1,vc1_2,vc1_3,vc1_4]],gh⟩)))
theorem q5y_ {x5:Int} {vc0_0 vc0_1:PV} {vc0_2 vc0_3:PV} {vc0_4 vc1_0:PV} {vc1_1 vc1_2:PV} {vc1_3 vc1_4:PV} (h:q5y pg x5 vc0_0 vc0_1 vc0_2 vc0_3 vc0_4 vc1_0 vc1_1 vc1_2 vc1_3 vc1_4 gh=some (e,s)):runL pg q71 ⟨[(2,.ptr false 0 0),(3,.ptr false 1 0),(5,I x5)],[[vc0_0,vc0_1,vc0_2,vc0_3,vc0_4],[vc1_0,vc1_1,vc1_2,vc1_3,vc1_4]],gh⟩=some (e,s):=
 jae q5x (Eq.trans (by kernel_rfl) h)
def qac (pg:Prg) (gh:List GObj):DR:=some (.ret,⟨[(4,B true)],[],gh⟩)
theorem qac_ (h:qac pg gh=some (e,s)):runL pg q2c ⟨[],[],gh⟩=some (e,s):=
 jae q5x (Eq.trans (by kernel_rfl) h)
def q9g (pg:Prg) (v0_0 v0_1:PV) (v0_2 v0_3:PV) (v0_4 v1_0:PV) (v1_1 v1_2:PV) (v1_3 v1_4:PV) (gh:List GObj):DR:=onK (degr1 v0_0) (onK (degr1 v0_1) (onK (degr1 v0_2) (onK (degr1 v0_3) (onK (degr1 v0_4) (onK (degr1 v1_0) (onK (degr1 v1_1) (onK (degr1 v1_2) (onK (degr1 v1_3) (onK (degr1 v1_4) (isC (degr (degr1 v0_0)) (lenS (degr (degr (degr1 v0_0))) fun n1=>isC (degr (degr1 v1_0)) (lenS (degr (degr (degr1 v1_0))) fun n2=>
  br 13 ((n1:Int) !=(n2:Int)) (some (.ret,⟨[(4,B false)],[],gh⟩)) (isC (degr (degr1 v0_1)) (isC (degr (degr1 v1_1)) (arK (degr (degr (degr1 v0_1))) (arK (degr (degr (degr1 v1_1))) (
  callR gh true (callL pg 354 [(degr (degr (degr1 v0_1))),(degr (degr (degr1 v1_1)))] gh) fun r3 gh4=>unB r3 fun b5=>
  br 21 (!b5) (some (.ret,⟨[(4,B false)],[],gh4⟩)) (isC (degr (degr1 v0_2)) (isC (degr (degr1 v1_2)) (arK (degr (degr (degr1 v0_2))) (arK (degr (degr (degr1 v1_2))) (
  callR gh4 true (callL pg 354 [(degr (degr (degr1 v0_2))),(degr (degr (degr1 v1_2)))] gh4) fun r6 gh7=>unB r6 fun b8=>
  br 29 (!b8) (some (.ret,⟨[(4,B false)],[],gh7⟩)) (isC (degr (degr1 v0_3)) (isC (degr (degr1 v1_3)) (arK (degr (degr (degr1 v0_3))) (arK (degr (degr (degr1 v1_3))) (
  callR gh7 true (callL pg 46 [(degr (degr (degr1 v0_3))),(degr (degr (degr1 v1_3)))] gh7) fun r9 gh10=>unB r9 fun b11=>
  br 37 (!b11) (some (.ret,⟨[(4,B false)],[],gh10⟩)) (isC (degr (degr1 v0_4)) (isC (degr (degr1 v1_4)) (arK (degr (degr (degr1 v0_4))) (arK (degr (degr (degr1 v1_4))) (
  callR gh10 true (callL pg 46 [(degr (degr (degr1 v0_4))),(degr (degr (degr1 v1_4)))] gh10) fun r12 gh13=>unB r12 fun b14=>
  br 44 (!b14) (some (.ret,⟨[(4,B false)],[],gh13⟩)) (
  kR (runL pg q4a ⟨[(2,.ptr false 0 0),(3,.ptr false 1 0),(5,I 0)],[[(degr1 v0_0),(degr1 v0_1),(degr1 v0_2),(degr1 v0_3),(degr1 v0_4)],[(degr1 v1_0),(degr1 v1_1),(degr1 v1_2),(degr1 v1_3),(degr1 v1_4)]],gh13⟩) (fun e s=>nx e s (fun e s=>some (e,s)) fun s=>kR (runL pg q2c s) (fun e s=>some (e,s))))))))))))))))))))))))))))))))))))
theorem q9g_ {v0_0 v0_1:PV} {v0_2 v0_3:PV} {v0_4 v1_0:PV} {v1_1 v1_2:PV} {v1_3 v1_4:PV} (h:q9g pg v0_0 v0_1 v0_2 v0_3 v0_4 v1_0 v1_1 v1_2 v1_3 v1_4 gh=some (e,s)):runL pg q72 ⟨[(0,.agg [v0_0,v0_1,v0_2,v0_3,v0_4]),(1,.agg [v1_0,v1_1,v1_2,v1_3,v1_4])],[],gh⟩=some (e,s):=
 jae q5x (Eq.trans (by kernel_rfl) h)
end
end Go.Lw
end

/-! What the code of function ref_samePairs comes to, piece by piece. Written by program (dprint.py). -/
section
set_option maxRecDepth 10000
set_option maxHeartbeats 4000000
namespace Go.Lw
open Go
noncomputable section
variable {pg:Prg} {gh:List GObj} {e:IExit} {s:St}
def q5z:Tr:=(tI 13 (tI 7 (tB 4 (tO 1 (uO 0) .nil) (tO 6 (uI 5) .nil)) (tB 10 (tI 9 (uO 8) .nil) (tO 12 (uI 11) .nil))) (.node 20 (.agg [.int .i64,.int .i64]) (tI 16 (tI 15 (uB 14) .nil) (tI 18 (uO 17) .nil)) (.node 24 (.agg [.int .i64,.int .i64]) (tI 22 (uO 21) .nil) (uB 25))))
def q60 (pg:Prg) (v0 v1:PV) (x5:Int) (gh:List GObj):DR:=isC (degr v0) (lenS (degr (degr v0)) fun n1=>stK 0 v0 (stK 0 v1 (
  br 14 (decide (x5<(n1:Int))) (isC (degr v0) (
  idX 2 none (degr (degr v0)) x5 fun p2=>
  ldX [] gh true 2 (degr p2) fun v3=>unA 2 v3 fun c4 c5=>unI .i64 c4 fun n6=>unI .i64 c5 fun n7=>isC (degr v1) (
  idX 2 none (degr (degr v1)) x5 fun p8=>
  ldX [] gh true 2 (degr p8) fun v9=>unA 2 v9 fun c10 c11=>unI .i64 c10 fun n12=>unI .i64 c11 fun n13=>ob (flatEq [false,false] [I n6,I n7] [I n12,I n13]) fun b14=>stK 0 v0 (stK 0 v1 (
  br 25 (!b14) (some (.ret,⟨[(4,B false)],[],gh⟩)) (stK 0 v0 (stK 0 v1 (stK 0 v0 (stK 0 v1 (some (.normal,⟨[(0,v0),(1,v1),(5,(I (IntKind.i64.wrap (x5+1))))],[],gh⟩))))))))))) (some ((.exit 0),⟨[(0,v0),(1,v1),(5,I x5),(14,(B (decide (x5<(n1:Int)))))],[],gh⟩)))))
theorem q60_ {v0 v1:PV} {x5:Int} (h:q60 pg v0 v1 x5 gh=some (e,s)):runL pg q73 ⟨[(0,v0),(1,v1),(5,I x5)],[],gh⟩=some (e,s):=
 jae q5z (Eq.trans (by kernel_rfl) h)
def qad (pg:Prg) (gh:List GObj):DR:=some (.ret,⟨[(4,B true)],[],gh⟩)
theorem qad_ (h:qad pg gh=some (e,s)):runL pg q2d ⟨[],[],gh⟩=some (e,s):=
 jae q5z (Eq.trans (by kernel_rfl) h)
def q9h (pg:Prg) (v0 v1:PV) (gh:List GObj):DR:=stK 0 v0 (stK 0 v1 (isC (degr v0) (lenS (degr (degr v0)) fun n1=>isC (degr v1) (lenS (degr (degr v1)) fun n2=>stK 0 v0 (stK 0 v1 (
  br 10 ((n1:Int) !=(n2:Int)) (some (.ret,⟨[(4,B false)],[],gh⟩)) (stK 0 v0 (stK 0 v1 (
  kR (runL pg q4c ⟨[(0,v0),(1,v1),(5,I 0)],[],gh⟩) (fun e s=>nx e s (fun e s=>some (e,s)) fun s=>kR (runL pg q2d s) (fun e s=>some (e,s))))))))))))
theorem q9h_ {v0 v1:PV} (h:q9h pg v0 v1 gh=some (e,s)):runL pg q74 ⟨[(0,v0),(1,v1)],[],gh⟩=some (e,s):=
 jae q5z (Eq.trans (by kernel_rfl) h)
end
end Go.Lw
end

/-! What the code of function law_TextBack comes to, piece by piece. Written by program (dprint.py). -/
section
set_option maxRecDepth 10000
set_option maxHeartbeats 4000000
namespace Go.Lw
open Go
noncomputable section
variable {pg:Prg} {gh:List GObj} {e:IExit} {s:St}
def q9i:Tr:=(tI 33 (.node 18 (.tup 2) (tI 11 (.node 5 (.ce (.str)) (.node 1 (.ce (.str)) (.node 0 (.agg [.any,.any,.any,.any,.any]) .nil .nil) (uB 4)) (tI 8 (uI 6) (uI 9))) (tB 15 (.node 13 (.ce (.str)) (uI 12) (uB 14)) (.node 17 (.agg [.any,.any,.any,.any,.any]) (.node 16 (.tup 2) .nil .nil) .nil))) (tB 26 (tB 22 (tI 20 (.node 19 (.ce (.str)) .nil .nil) (uI 21)) (.node 24 (.ce (.str)) (uB 23) (uI 25))) (.node 30 (.tup 3) (.node 28 (.tup 3) (uB 27) (.node 29 (.ce (.str)) .nil .nil)) (tI 32 (.node 31 (.agg [.any,.any,.any,.any,.any]) .nil .nil) .nil)))) (tI 48 (tB 41 (.node 37 (.agg [.any,.any,.any,.any,.any]) (tB 35 (uI 34) (uB 36)) (tB 39 (.node 38 (.agg [.any,.any,.any,.any,.any]) .nil .nil) (uB 40))) (.node 45 (.agg [.any,.any,.any,.any,.any]) (.node 43 (.ce (.str)) (.node 42 (.tup 3) .nil .nil) (.node 44 (.tup 3) .nil .nil)) (tI 47 (uI 46) .nil))) (tI 55 (.node 52 (.tup 2) (.node 50 (.tup 2) (uB 49) (.node 51 (.agg [.any,.any,.any,.any,.any]) .nil .nil)) (tI 54 (.node 53 (.ce (.str)) .nil .nil) .nil)) (.node 59 (.ce (.str)) (tB 57 (uB 56) (.node 58 (.ce (.str)) .nil .nil)) (tB 61 (uB 60) .nil)))))
def q61 (pg:Prg) (s1:ByteArray) (gh:List GObj):DR:=
  callR gh true (callL pg 348 [.str s1] gh) fun r1 gh2=>unT 3 r1 fun r3 r4 r5=>unA 5 (degr1 (degr1 r3)) fun c6 c7 c8 c9 c10=>unI .i64 (degr1 (degr1 r4)) fun n11=>unI .i64 (degr1 (degr1 r5)) fun n12=>onK c6 (onK c7 (onK c8 (onK c9 (onK c10 (
  br 49 (n12 !=0) (some (.ret,⟨[(4,B true)],[],gh2⟩)) (onK (degr1 (degr1 c6)) (onK (degr1 (degr1 c7)) (onK (degr1 (degr1 c8)) (onK (degr1 (degr1 c9)) (onK (degr1 (degr1 c10)) (
  callR gh2 true (callL pg 347 [(.agg [(degr1 (degr1 c6)),(degr1 (degr1 c7)),(degr1 (degr1 c8)),(degr1 (degr1 c9)),(degr1 (degr1 c10))])] gh2) fun r13 gh14=>unT 2 r13 fun r15 r16=>unS (degr1 (degr1 r15)) fun s17=>unI .i64 (degr1 (degr1 r16)) fun n18=>
  br 57 (n18==0) (some (.ret,⟨[(4,(B (ByteArray.toList s17==ByteArray.toList s1)))],[],gh14⟩)) (some (.ret,⟨[(4,B false)],[],gh14⟩)))))))))))))
theorem q61_ {s1:ByteArray} (h:q61 pg s1 gh=some (e,s)):runL pg qy ⟨[(1,.str s1)],[],gh⟩=some (e,s):=
 jae q9i (Eq.trans (by kernel_rfl) h)
def q37 (pg:Prg) (v0_0 v0_1:PV) (v0_2 v0_3 v0_4:PV) (s1:ByteArray) (gh:List GObj):DR:=onK (degr1 v0_0) (onK (degr1 v0_1) (onK (degr1 v0_2) (onK (degr1 v0_3) (onK (degr1 v0_4) (
  callR gh true (callL pg 346 [] gh) fun r1 gh2=>unB r1 fun b3=>
  br 15 (!b3) (some (.ret,⟨[(4,B false)],[],gh2⟩)) (onK (degr1 (degr1 (degr1 v0_0))) (onK (degr1 (degr1 (degr1 v0_1))) (onK (degr1 (degr1 (degr1 v0_2))) (onK (degr1 (degr1 (degr1 v0_3))) (onK (degr1 (degr1 (degr1 v0_4))) (
  callR gh2 true (callL pg 347 [(.agg [(degr1 (degr1 (degr1 v0_0))),(degr1 (degr1 (degr1 v0_1))),(degr1 (degr1 (degr1 v0_2))),(degr1 (degr1 (degr1 v0_3))),(degr1 (degr1 (degr1 v0_4)))])] gh2) fun r4 gh5=>unT 2 r4 fun r6 r7=>unS (degr1 (degr1 r6)) fun s8=>unI .i64 (degr1 (degr1 r7)) fun n9=>
  br 23 (n9==0) (
  br 27 (decide (((ByteArray.size s8:Nat):Int)≤10000)) (
  callR gh5 true (callL pg 348 [.str s8] gh5) fun r11 gh12=>unT 3 r11 fun r13 r14 r15=>unA 5 (degr1 (degr1 r13)) fun c16 c17 c18 c19 c20=>unI .i64 (degr1 (degr1 r14)) fun n21=>unI .i64 (degr1 (degr1 r15)) fun n22=>onK c16 (onK c17 (onK c18 (onK c19 (onK c20 (
  br 36 (n22 !=0) (some (.ret,⟨[(4,B false)],[],gh12⟩)) (onK (degr1 (degr1 c16)) (onK (degr1 (degr1 c17)) (onK (degr1 (degr1 c18)) (onK (degr1 (degr1 c19)) (onK (degr1 (degr1 c20)) (onK (degr1 (degr1 (degr1 v0_0))) (onK (degr1 (degr1 (degr1 v0_1))) (onK (degr1 (degr1 (degr1 v0_2))) (onK (degr1 (degr1 (degr1 v0_3))) (onK (degr1 (degr1 (degr1 v0_4))) (
  callR gh12 true (callL pg 349 [(.agg [(degr1 (degr1 c16)),(degr1 (degr1 c17)),(degr1 (degr1 c18)),(degr1 (degr1 c19)),(degr1 (degr1 c20))]),(.agg [(degr1 (degr1 (degr1 v0_0))),(degr1 (degr1 (degr1 v0_1))),(degr1 (degr1 (degr1 v0_2))),(degr1 (degr1 (degr1 v0_3))),(degr1 (degr1 (degr1 v0_4)))])] gh12) fun r23 gh24=>unB r23 fun b25=>
  br 41 (!b25) (some (.ret,⟨[(4,B false)],[],gh24⟩)) (
  kR (runL pg qy ⟨[(1,.str s1)],[],gh24⟩) (fun e s=>some (e,s)))))))))))))))))))) (
  kR (runL pg qy ⟨[(1,.str s1)],[],gh5⟩) (fun e s=>some (e,s)))) (
  kR (runL pg qy ⟨[(1,.str s1)],[],gh5⟩) (fun e s=>some (e,s))))))))))))))
theorem q37_ {v0_0 v0_1:PV} {v0_2 v0_3 v0_4:PV} {s1:ByteArray} (h:q37 pg v0_0 v0_1 v0_2 v0_3 v0_4 s1 gh=some (e,s)):runL pg q38 ⟨[(0,.agg [v0_0,v0_1,v0_2,v0_3,v0_4]),(1,.str s1)],[],gh⟩=some (e,s):=
 jae q9i (Eq.trans (by kernel_rfl) h)
end
end Go.Lw
end
