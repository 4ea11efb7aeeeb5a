/-
  The texts that the proof stands on, part 11.
-/
import Derived.Test.YtmodipglnngghacGreatDoorTextPrintsJ
import Derived.KernelRfl
set_option linter.unusedVariables false
set_option linter.unusedSimpArgs false
set_option linter.unnecessarySimpa false

/-! What the code of function word_Fit comes to, piece by piece. Written by program (dprint.py). -/
section
set_option maxRecDepth 10000
set_option maxHeartbeats 4000000
namespace Go.Lw
open Go
noncomputable section
variable {pg:Prg} {gh:List GObj} {e:IExit} {s:St}
def q6l:Tr:=(tI 29 (.node 16 (.tup 2) (tB 10 (.node 3 (.agg [.int .i64,.int .i64,.int .i64]) (tI 1 (uI 0) (uI 2)) (tI 9 (uI 8) .nil)) (.node 13 (.tup 2) (tI 12 (uI 11) .nil) (tI 15 (uO 14) .nil))) (tB 23 (tB 20 (tB 18 (uI 17) (uB 19)) (tB 22 (uI 21) .nil)) (tB 26 (tI 25 (.node 24 (.agg [.int .i64,.int .i64,.int .i64]) .nil .nil) .nil) (tI 28 (uI 27) .nil)))) (tB 42 (tB 36 (tB 33 (tI 31 (uI 30) (uB 32)) (tB 35 (uI 34) .nil)) (tI 39 (tB 38 (uB 37) .nil) (tI 41 (uI 40) .nil))) (tI 49 (tB 46 (tI 44 (uB 43) (uB 45)) (tI 48 (uB 47) .nil)) (.node 52 (.agg [.int .i64,.int .i64,.int .i64]) (tI 51 (uI 50) .nil) (tB 54 (uB 53) .nil)))))
def q16 (pg:Prg) (x0 x1:Int) (x2 x9:Int) (x24_0 x24_1:Int) (x24_2 x25:Int) (xc0_0 xc0_1 xc0_2:Int) (gh:List GObj):DR:=
  br 26 (decide (x25<3)) (ixX (.agg [I x24_0,I x24_1,I x24_2]) 1 3 false x25 fun v1=>unI .i64 v1 fun n2=>
  callR gh true (callL pg 63 [I x0] gh) fun r3 gh4=>unI .i64 r3 fun n5=>
  br 33 (decide (x25<n5)) (
  callR gh4 true (callL pg 62 [I n2] gh4) fun r6 gh7=>unB r6 fun b8=>
  br 38 (!b8) (some (.ret,⟨[(8,I 3)],[],gh7⟩)) (
  callR gh7 true (callL pg 63 [I x0] gh7) fun r9 gh10=>unI .i64 r9 fun n11=>
  br 43 (decide (n11≤x25)) (
  br 47 (n2 !=0) (some (.ret,⟨[(8,I 3)],[],gh10⟩)) (some (.normal,⟨[(0,I x0),(1,I x1),(2,I x2),(7,.ptr false 0 0),(9,I x9),(24,.agg [I x24_0,I x24_1,I x24_2]),(25,(I (IntKind.i64.wrap (x25+1))))],[[I xc0_0,I xc0_1,I xc0_2]],gh10⟩))) (some (.normal,⟨[(0,I x0),(1,I x1),(2,I x2),(7,.ptr false 0 0),(9,I x9),(24,.agg [I x24_0,I x24_1,I x24_2]),(25,(I (IntKind.i64.wrap (x25+1))))],[[I xc0_0,I xc0_1,I xc0_2]],gh10⟩)))) (
  callR gh4 true (callL pg 63 [I x0] gh4) fun r12 gh13=>unI .i64 r12 fun n14=>
  br 43 (decide (n14≤x25)) (
  br 47 (n2 !=0) (some (.ret,⟨[(8,I 3)],[],gh13⟩)) (some (.normal,⟨[(0,I x0),(1,I x1),(2,I x2),(7,.ptr false 0 0),(9,I x9),(24,.agg [I x24_0,I x24_1,I x24_2]),(25,(I (IntKind.i64.wrap (x25+1))))],[[I xc0_0,I xc0_1,I xc0_2]],gh13⟩))) (some (.normal,⟨[(0,I x0),(1,I x1),(2,I x2),(7,.ptr false 0 0),(9,I x9),(24,.agg [I x24_0,I x24_1,I x24_2]),(25,(I (IntKind.i64.wrap (x25+1))))],[[I xc0_0,I xc0_1,I xc0_2]],gh13⟩)))) (some ((.exit 0),⟨[(0,I x0),(1,I x1),(2,I x2),(7,.ptr false 0 0),(9,I x9),(24,.agg [I x24_0,I x24_1,I x24_2]),(25,I x25),(26,(B (decide (x25<3))))],[[I xc0_0,I xc0_1,I xc0_2]],gh⟩))
theorem q16_ {x0 x1:Int} {x2 x9:Int} {x24_0 x24_1:Int} {x24_2 x25:Int} {xc0_0 xc0_1 xc0_2:Int} (h:q16 pg x0 x1 x2 x9 x24_0 x24_1 x24_2 x25 xc0_0 xc0_1 xc0_2 gh=some (e,s)):runL pg q9r ⟨[(0,I x0),(1,I x1),(2,I x2),(7,.ptr false 0 0),(9,I x9),(24,.agg [I x24_0,I x24_1,I x24_2]),(25,I x25)],[[I xc0_0,I xc0_1,I xc0_2]],gh⟩=some (e,s):=
 jee q6l (Eq.trans (by kernel_rfl) h)
def q3q (pg:Prg) (x1 x2:Int) (x9 xc0_0:Int) (xc0_1 xc0_2:Int) (gh:List GObj):DR:=
  callR gh true (callL pg 64 [I x9,I x1,I x2,.agg [I xc0_0,I xc0_1,I xc0_2]] gh) fun r1 gh2=>unB r1 fun b3=>
  br 54 (!b3) (some (.ret,⟨[(8,I 1)],[],gh2⟩)) (some (.ret,⟨[(8,I 0)],[],gh2⟩))
theorem q3q_ {x1 x2:Int} {x9 xc0_0:Int} {xc0_1 xc0_2:Int} (h:q3q pg x1 x2 x9 xc0_0 xc0_1 xc0_2 gh=some (e,s)):runL pg q6e ⟨[(1,I x1),(2,I x2),(7,.ptr false 0 0),(9,I x9)],[[I xc0_0,I xc0_1,I xc0_2]],gh⟩=some (e,s):=
 jee q6l (Eq.trans (by kernel_rfl) h)
def q1o (pg:Prg) (x0 x1:Int) (x2 x3_0:Int) (x3_1 x3_2:Int) (gh:List GObj):DR:=
  callR gh false (callL pg 61 [] gh) fun r1 gh2=>isC r1 (
  lkX gh2 0 (degr r1) (I x0) fun r3=>unI .i64 (degr1 (degr1 (Option.getD r3 (I 0)))) fun n4=>
  br 20 (!(Option.isSome r3)) (some (.ret,⟨[(8,I 7)],[],gh2⟩)) (
  callR gh2 true (callL pg 62 [I x1] gh2) fun r5 gh6=>unB r5 fun b7=>
  br 23 (!b7) (some (.ret,⟨[(8,I 3)],[],gh6⟩)) (
  kR (runL pg q6d ⟨[(0,I x0),(1,I x1),(2,I x2),(7,.ptr false 0 0),(9,I n4),(24,.agg [I x3_0,I x3_1,I x3_2]),(25,I 0)],[[I x3_0,I x3_1,I x3_2]],gh6⟩) (fun e s=>nx e s (fun e s=>some (e,s)) fun s=>kR (runL pg q6e s) (fun e s=>some (e,s))))))
theorem q1o_ {x0 x1:Int} {x2 x3_0:Int} {x3_1 x3_2:Int} (h:q1o pg x0 x1 x2 x3_0 x3_1 x3_2 gh=some (e,s)):runL pg q9s ⟨[(0,I x0),(1,I x1),(2,I x2),(3,.agg [I x3_0,I x3_1,I x3_2])],[],gh⟩=some (e,s):=
 jee q6l (Eq.trans (by kernel_rfl) h)
end
end Go.Lw
end

/-! What the code of function word_Takes comes to, piece by piece. Written by program (dprint.py). -/
section
set_option maxRecDepth 10000
set_option maxHeartbeats 4000000
namespace Go.Lw
open Go
noncomputable section
variable {pg:Prg} {gh:List GObj} {e:IExit} {s:St}
def q6m:Tr:=(tB 7 (tI 4 (tI 2 (uI 0) (uO 3)) (tB 6 (uI 5) .nil)) (tB 11 (tB 9 (uB 8) (uB 10)) (tB 13 (uB 12) .nil)))
def qaq (pg:Prg) (x5:Int) (b8:Bool) (gh:List GObj):DR:=
  br 8 b8 (some (.ret,⟨[(2,I 1)],[],gh⟩)) (
  br 12 (x5==4) (some (.ret,⟨[(2,I 3)],[],gh⟩)) (some (.normal,⟨[(12,(B (x5==4)))],[],gh⟩)))
theorem qaq_ {x5:Int} {b8:Bool} (h:qaq pg x5 b8 gh=some (e,s)):runL pg q2q ⟨[(5,I x5),(8,B b8)],[],gh⟩=some (e,s):=
 jee q6m (Eq.trans (by kernel_rfl) h)
def qdn (pg:Prg) (b12:Bool) (gh:List GObj):DR:=some (.ret,⟨[(2,I 2)],[],gh⟩)
theorem qdn_ {b12:Bool} (h:qdn pg b12 gh=some (e,s)):runL pg q2r ⟨[(12,B b12)],[],gh⟩=some (e,s):=
 jee q6m (Eq.trans (by kernel_rfl) h)
def q1p (pg:Prg) (x0:Int) (gh:List GObj):DR:=
  callR gh false (callL pg 61 [] gh) fun r1 gh2=>isC r1 (
  lkX gh2 0 (degr r1) (I x0) fun r3=>unI .i64 (Option.getD r3 (I 0)) fun n4=>
  br 6 (n4==0) (some (.ret,⟨[(2,I 0)],[],gh2⟩)) (
  br 8 (n4==1) (
  kR (runL pg q2q ⟨[(5,I n4),(8,(B (n4==1)))],[],gh2⟩) (fun e s=>bk 0 e s (fun e s=>nx e s (fun e s=>some (e,s)) fun s=>kR (runL pg q2r s) (fun e s=>some (e,s))))) (
  br 8 (n4==6) (
  kR (runL pg q2q ⟨[(5,I n4),(8,(B (n4==6)))],[],gh2⟩) (fun e s=>bk 0 e s (fun e s=>nx e s (fun e s=>some (e,s)) fun s=>kR (runL pg q2r s) (fun e s=>some (e,s))))) (
  kR (runL pg q2q ⟨[(5,I n4),(8,(B (n4==7)))],[],gh2⟩) (fun e s=>bk 0 e s (fun e s=>nx e s (fun e s=>some (e,s)) fun s=>kR (runL pg q2r s) (fun e s=>some (e,s))))))))
theorem q1p_ {x0:Int} (h:q1p pg x0 gh=some (e,s)):runL pg q9v ⟨[(0,I x0)],[],gh⟩=some (e,s):=
 jee q6m (Eq.trans (by kernel_rfl) h)
end
end Go.Lw
end

/-! What the code of function word_IsWidth comes to, piece by piece. Written by program (dprint.py). -/
section
set_option maxRecDepth 10000
set_option maxHeartbeats 4000000
namespace Go.Lw
open Go
noncomputable section
variable {pg:Prg} {gh:List GObj} {e:IExit} {s:St}
def qdo:Tr:=(tB 5 (tI 3 (tB 2 (uI 0) .nil) (uB 4)) (tB 7 (uI 6) (uB 8)))
def q6n (pg:Prg) (x0:Int) (gh:List GObj):DR:=
  br 5 (decide (1≤x0)) (some (.ret,⟨[(2,(B (decide (x0≤8))))],[],gh⟩)) (some (.ret,⟨[(2,B false)],[],gh⟩))
theorem q6n_ {x0:Int} (h:q6n pg x0 gh=some (e,s)):runL pg q9u ⟨[(0,I x0)],[],gh⟩=some (e,s):=
 jee qdo (Eq.trans (by kernel_rfl) h)
end
end Go.Lw
end

/-! What the code of function word_fits comes to, piece by piece. Written by program (dprint.py). -/
section
set_option maxRecDepth 10000
set_option maxHeartbeats 4000000
namespace Go.Lw
open Go
noncomputable section
variable {pg:Prg} {gh:List GObj} {e:IExit} {s:St}
def qdp:Tr:=(tB 44 (tB 22 (tI 12 (tB 8 (tI 2 (tI 1 (uI 0) .nil) (.node 3 (.agg [.int .i64,.int .i64,.int .i64]) .nil .nil)) (tB 10 (uI 9) (uB 11))) (tB 17 (tI 15 (tB 14 (uB 13) .nil) (uB 16)) (tI 20 (uI 19) (uB 21)))) (tB 33 (tB 28 (tI 26 (tI 25 (uB 23) .nil) (uB 27)) (tI 31 (uI 30) (uB 32))) (tB 40 (tI 37 (tB 35 (uB 34) .nil) (uI 39)) (tI 42 (uB 41) (uB 43))))) (tI 67 (tB 55 (tB 50 (tI 48 (tB 46 (uB 45) .nil) (uB 49)) (tI 53 (uI 52) (uB 54))) (tB 61 (tI 59 (tI 58 (uB 56) .nil) (uB 60)) (tB 63 (uB 62) (uI 65)))) (tI 76 (tB 72 (tB 70 (tI 69 (uI 68) .nil) (uB 71)) (tB 74 (uI 73) (uB 75))) (tB 82 (tI 80 (tI 79 (uI 78) .nil) (uB 81)) (tI 85 (uI 83) (uB 86))))))
def qn (pg:Prg) (x0 x1:Int) (x2 x3_0:Int) (x3_1 x3_2:Int) (gh:List GObj):DR:=
  br 11 (x2 !=0) (
  br 14 (x0 !=6) (some (.ret,⟨[(8,B false)],[],gh⟩)) (
  br 16 (x0==1) (some (.ret,⟨[(8,(B (x3_0==x1)))],[],gh⟩)) (
  br 22 (x0==2) (
  br 28 (x3_0==x1) (some (.ret,⟨[(8,(B (x3_1==x1)))],[],gh⟩)) (some (.ret,⟨[(8,B false)],[],gh⟩))) (
  br 34 (x0==3) (
  br 41 (x3_0==x3_1) (some (.ret,⟨[(8,(B (x1==1)))],[],gh⟩)) (some (.ret,⟨[(8,B false)],[],gh⟩))) (
  br 45 (x0==4) (
  br 50 (x3_0==1) (
  br 56 (x3_1==x1) (some (.ret,⟨[(8,(B (x3_2==x1)))],[],gh⟩)) (some (.ret,⟨[(8,B false)],[],gh⟩))) (some (.ret,⟨[(8,B false)],[],gh⟩))) (
  br 62 (x0==5) (some (.ret,⟨[(8,(B ((IntKind.i64.wrap (x3_0+x3_1))==x1)))],[],gh⟩)) (
  br 71 (x0==6) (
  br 75 (decide (0≤x2)) (some (.ret,⟨[(8,(B (decide (x2≤(IntKind.i64.wrap (x3_0-x1))))))],[],gh⟩)) (some (.ret,⟨[(8,B false)],[],gh⟩))) (some (.ret,⟨[(8,(B (decide (x3_0≤x1))))],[],gh⟩))))))))) (
  br 16 (x0==1) (some (.ret,⟨[(8,(B (x3_0==x1)))],[],gh⟩)) (
  br 22 (x0==2) (
  br 28 (x3_0==x1) (some (.ret,⟨[(8,(B (x3_1==x1)))],[],gh⟩)) (some (.ret,⟨[(8,B false)],[],gh⟩))) (
  br 34 (x0==3) (
  br 41 (x3_0==x3_1) (some (.ret,⟨[(8,(B (x1==1)))],[],gh⟩)) (some (.ret,⟨[(8,B false)],[],gh⟩))) (
  br 45 (x0==4) (
  br 50 (x3_0==1) (
  br 56 (x3_1==x1) (some (.ret,⟨[(8,(B (x3_2==x1)))],[],gh⟩)) (some (.ret,⟨[(8,B false)],[],gh⟩))) (some (.ret,⟨[(8,B false)],[],gh⟩))) (
  br 62 (x0==5) (some (.ret,⟨[(8,(B ((IntKind.i64.wrap (x3_0+x3_1))==x1)))],[],gh⟩)) (
  br 71 (x0==6) (
  br 75 (decide (0≤x2)) (some (.ret,⟨[(8,(B (decide (x2≤(IntKind.i64.wrap (x3_0-x1))))))],[],gh⟩)) (some (.ret,⟨[(8,B false)],[],gh⟩))) (some (.ret,⟨[(8,(B (decide (x3_0≤x1))))],[],gh⟩))))))))
theorem qn_ {x0 x1:Int} {x2 x3_0:Int} {x3_1 x3_2:Int} (h:qn pg x0 x1 x2 x3_0 x3_1 x3_2 gh=some (e,s)):runL pg q9w ⟨[(0,I x0),(1,I x1),(2,I x2),(3,.agg [I x3_0,I x3_1,I x3_2])],[],gh⟩=some (e,s):=
 jee qdp (Eq.trans (by kernel_rfl) h)
end
end Go.Lw
end

/-! What the code of function word_shapes comes to, piece by piece. Written by program (dprint.py). -/
section
set_option maxRecDepth 10000
set_option maxHeartbeats 4000000
namespace Go.Lw
open Go
noncomputable section
variable {pg:Prg} {gh:List GObj} {e:IExit} {s:St}
def qdq:Tr:=(tO 1 (uO 0) (uO 2))
def qar (pg:Prg) (gh:List GObj):DR:=
  muX (gh++[.map []]) 0 (.mp (List.length gh)) (I 4) (I 1) fun gh1=>
  muX gh1 0 (.mp (List.length gh)) (I 5) (I 1) fun gh2=>
  muX gh2 0 (.mp (List.length gh)) (I 6) (I 2) fun gh3=>
  muX gh3 0 (.mp (List.length gh)) (I 7) (I 2) fun gh4=>
  muX gh4 0 (.mp (List.length gh)) (I 8) (I 2) fun gh5=>
  muX gh5 0 (.mp (List.length gh)) (I 9) (I 2) fun gh6=>
  muX gh6 0 (.mp (List.length gh)) (I 10) (I 2) fun gh7=>
  muX gh7 0 (.mp (List.length gh)) (I 11) (I 2) fun gh8=>
  muX gh8 0 (.mp (List.length gh)) (I 12) (I 2) fun gh9=>
  muX gh9 0 (.mp (List.length gh)) (I 13) (I 2) fun gh10=>
  muX gh10 0 (.mp (List.length gh)) (I 14) (I 2) fun gh11=>
  muX gh11 0 (.mp (List.length gh)) (I 15) (I 2) fun gh12=>
  muX gh12 0 (.mp (List.length gh)) (I 16) (I 3) fun gh13=>
  muX gh13 0 (.mp (List.length gh)) (I 17) (I 3) fun gh14=>
  muX gh14 0 (.mp (List.length gh)) (I 18) (I 3) fun gh15=>
  muX gh15 0 (.mp (List.length gh)) (I 19) (I 4) fun gh16=>
  muX gh16 0 (.mp (List.length gh)) (I 20) (I 5) fun gh17=>
  muX gh17 0 (.mp (List.length gh)) (I 21) (I 6) fun gh18=>
  muX gh18 0 (.mp (List.length gh)) (I 22) (I 7) fun gh19=>
  muX gh19 0 (.mp (List.length gh)) (I 23) (I 7) fun gh20=>some (.ret,⟨[(0,(.mp (List.length gh)))],[],gh20⟩)
theorem qar_ (h:qar pg gh=some (e,s)):runL pg q9t ⟨[],[],gh⟩=some (e,s):=
 jee qdq (Eq.trans (by kernel_rfl) h)
end
end Go.Lw
end

/-! What the code of function word_IsWord comes to, piece by piece. Written by program (dprint.py). -/
section
set_option maxRecDepth 10000
set_option maxHeartbeats 4000000
namespace Go.Lw
open Go
noncomputable section
variable {pg:Prg} {gh:List GObj} {e:IExit} {s:St}
def qdr:Tr:=(tB 7 (tB 4 (tI 1 (uI 0) .nil) (tB 6 (uI 5) .nil)) (tI 10 (tI 9 (uI 8) .nil) (tB 12 (uB 11) .nil)))
def q6o (pg:Prg) (x0 x1:Int) (gh:List GObj):DR:=
  br 7 (decide (0≤x0)) (gd (decide ((0:Int)≤x1)) (some (.ret,⟨[(4,(B (decide (x0<(iShl .i64 1 x1)))))],[],gh⟩))) (some (.ret,⟨[(4,B false)],[],gh⟩))
theorem q6o_ {x0 x1:Int} (h:q6o pg x0 x1 gh=some (e,s)):runL pg q9x ⟨[(0,I x0),(1,I x1)],[],gh⟩=some (e,s):=
 jee qdr (Eq.trans (by kernel_rfl) h)
end
end Go.Lw
end

/-! What the code of function ref_FitOf comes to, piece by piece. Written by program (dprint.py). -/
section
set_option maxRecDepth 10000
set_option maxHeartbeats 4000000
namespace Go.Lw
open Go
noncomputable section
variable {pg:Prg} {gh:List GObj} {e:IExit} {s:St}
def q3r:Tr:=(tB 70 (tI 35 (tI 19 (tB 11 (.node 3 (.agg [.int .i64,.int .i64,.int .i64]) (tI 1 (uI 0) (uI 2)) (tI 9 (uI 8) (uI 10))) (tB 15 (tI 13 (uI 12) (uI 14)) (tB 17 (uI 16) (uB 18)))) (tI 27 (tI 23 (tI 21 (uB 20) (uI 22)) (tB 25 (uI 24) (uB 26))) (tB 32 (tB 30 (uI 29) (uB 31)) (tI 34 (uB 33) .nil)))) (tI 52 (tI 44 (tI 40 (tB 37 (uB 36) (uI 38)) (tB 42 (uB 41) (uB 43))) (tI 49 (tB 47 (uI 46) (uB 48)) (tB 51 (uB 50) .nil))) (tB 61 (tI 57 (tB 54 (uB 53) (uI 56)) (tB 59 (uB 58) (uI 60))) (tB 66 (tI 64 (uI 63) (uB 65)) (tI 69 (uI 68) .nil))))) (tI 108 (tB 89 (tB 80 (tB 74 (tB 72 (uB 71) (uI 73)) (tI 78 (uI 76) (uB 79))) (tB 84 (tB 82 (uI 81) (uB 83)) (tB 86 (uI 85) (uI 88)))) (tI 99 (tB 94 (tI 92 (uB 90) (uI 93)) (tB 96 (uB 95) (uI 98))) (tI 103 (tB 101 (uB 100) (uB 102)) (tI 106 (uB 104) .nil)))) (tI 123 (tB 116 (tB 112 (tI 110 (uI 109) (uB 111)) (tB 114 (uI 113) (uI 115))) (tB 120 (tI 118 (uB 117) (uB 119)) (tI 122 (uB 121) .nil))) (tI 132 (tB 128 (tI 126 (uI 124) (uB 127)) (tB 130 (uB 129) (uB 131))) (tB 136 (tB 134 (uB 133) (uI 135)) (tB 138 (uB 137) .nil))))))
def q17 (pg:Prg) (x0 x1:Int) (x2 x9:Int) (x10 xc0_0:Int) (xc0_1 xc0_2:Int) (gh:List GObj):DR:=
  br 20 (decide (x10<3)) (
  br 26 (decide (x10<x9)) (gd (decide (0≤x10∧x10<((3:Nat):Int))) (
  ob (grab false 1 (0+Int.toNat x10*1) [I xc0_0,I xc0_1,I xc0_2]) fun v1=>unI .i64 (degr v1) fun n2=>
  callR gh true (callL pg 50 [I n2,I 1,I 8] gh) fun r3 gh4=>unB r3 fun b5=>
  br 33 (!b5) (some (.ret,⟨[(8,I 3)],[],gh4⟩)) (
  br 37 (decide (x9≤x10)) (gd (decide (0≤x10∧x10<((3:Nat):Int))) (
  ob (grab false 1 (0+Int.toNat x10*1) [I xc0_0,I xc0_1,I xc0_2]) fun v6=>unI .i64 (degr v6) fun n7=>
  br 43 (n7 !=0) (some (.ret,⟨[(8,I 3)],[],gh4⟩)) (some (.normal,⟨[(0,I x0),(1,I x1),(2,I x2),(7,.ptr false 0 0),(9,I x9),(10,(I (IntKind.i64.wrap (x10+1))))],[[I xc0_0,I xc0_1,I xc0_2]],gh4⟩)))) (some (.normal,⟨[(0,I x0),(1,I x1),(2,I x2),(7,.ptr false 0 0),(9,I x9),(10,(I (IntKind.i64.wrap (x10+1))))],[[I xc0_0,I xc0_1,I xc0_2]],gh4⟩))))) (
  br 37 (decide (x9≤x10)) (gd (decide (0≤x10∧x10<((3:Nat):Int))) (
  ob (grab false 1 (0+Int.toNat x10*1) [I xc0_0,I xc0_1,I xc0_2]) fun v8=>unI .i64 (degr v8) fun n9=>
  br 43 (n9 !=0) (some (.ret,⟨[(8,I 3)],[],gh⟩)) (some (.normal,⟨[(0,I x0),(1,I x1),(2,I x2),(7,.ptr false 0 0),(9,I x9),(10,(I (IntKind.i64.wrap (x10+1))))],[[I xc0_0,I xc0_1,I xc0_2]],gh⟩)))) (some (.normal,⟨[(0,I x0),(1,I x1),(2,I x2),(7,.ptr false 0 0),(9,I x9),(10,(I (IntKind.i64.wrap (x10+1))))],[[I xc0_0,I xc0_1,I xc0_2]],gh⟩)))) (some ((.exit 0),⟨[(0,I x0),(1,I x1),(2,I x2),(7,.ptr false 0 0),(9,I x9),(10,I x10),(20,(B (decide (x10<3))))],[[I xc0_0,I xc0_1,I xc0_2]],gh⟩))
theorem q17_ {x0 x1:Int} {x2 x9:Int} {x10 xc0_0:Int} {xc0_1 xc0_2:Int} (h:q17 pg x0 x1 x2 x9 x10 xc0_0 xc0_1 xc0_2 gh=some (e,s)):runL pg q8m ⟨[(0,I x0),(1,I x1),(2,I x2),(7,.ptr false 0 0),(9,I x9),(10,I x10)],[[I xc0_0,I xc0_1,I xc0_2]],gh⟩=some (e,s):=
 jee q3r (Eq.trans (by kernel_rfl) h)
def q3s (pg:Prg) (x0 x2:Int) (b11:Bool) (gh:List GObj):DR:=
  br 131 (!b11) (some (.ret,⟨[(8,I 1)],[],gh⟩)) (
  br 134 (x0 !=21) (
  br 138 (x2 !=0) (some (.ret,⟨[(8,I 1)],[],gh⟩)) (some (.ret,⟨[(8,I 0)],[],gh⟩))) (some (.ret,⟨[(8,I 0)],[],gh⟩)))
theorem q3s_ {x0 x2:Int} {b11:Bool} (h:q3s pg x0 x2 b11 gh=some (e,s)):runL pg qe ⟨[(0,I x0),(2,I x2),(11,B b11)],[],gh⟩=some (e,s):=
 jee q3r (Eq.trans (by kernel_rfl) h)
def qj (pg:Prg) (x0 x1:Int) (x2 xc0_0:Int) (xc0_1 xc0_2:Int) (gh:List GObj):DR:=
  br 51 (x0==4) (
  kR (runL pg qe ⟨[(0,I x0),(2,I x2),(11,(B (xc0_0==x1)))],[],gh⟩) (fun e s=>some (e,s))) (
  br 48 (x0==5) (
  kR (runL pg qe ⟨[(0,I x0),(2,I x2),(11,(B (xc0_0==x1)))],[],gh⟩) (fun e s=>some (e,s))) (
  callR gh true (callL pg 50 [I x0,I 6,I 15] gh) fun r1 gh2=>unB r1 fun b3=>
  br 59 b3 (
  br 66 (xc0_0==x1) (
  kR (runL pg qe ⟨[(0,I x0),(2,I x2),(11,(B (xc0_1==x1)))],[],gh2⟩) (fun e s=>some (e,s))) (
  kR (runL pg qe ⟨[(0,I x0),(2,I x2),(11,B false)],[],gh2⟩) (fun e s=>some (e,s)))) (
  callR gh2 true (callL pg 50 [I x0,I 16,I 18] gh2) fun r4 gh5=>unB r4 fun b6=>
  br 72 b6 (
  br 80 (xc0_0==xc0_1) (
  kR (runL pg qe ⟨[(0,I x0),(2,I x2),(11,(B (x1==1)))],[],gh5⟩) (fun e s=>some (e,s))) (
  kR (runL pg qe ⟨[(0,I x0),(2,I x2),(11,B false)],[],gh5⟩) (fun e s=>some (e,s)))) (
  br 84 (x0==19) (
  br 90 (xc0_0==1) (
  br 96 (xc0_1==x1) (
  kR (runL pg qe ⟨[(0,I x0),(2,I x2),(11,(B (xc0_2==x1)))],[],gh5⟩) (fun e s=>some (e,s))) (
  kR (runL pg qe ⟨[(0,I x0),(2,I x2),(11,B false)],[],gh5⟩) (fun e s=>some (e,s)))) (
  kR (runL pg qe ⟨[(0,I x0),(2,I x2),(11,B false)],[],gh5⟩) (fun e s=>some (e,s)))) (
  br 102 (x0==20) (
  kR (runL pg qe ⟨[(0,I x0),(2,I x2),(11,(B ((IntKind.i64.wrap (xc0_0+xc0_1))==x1)))],[],gh5⟩) (fun e s=>some (e,s))) (
  br 112 (x0==21) (
  br 117 (decide (0≤x2)) (
  br 121 (decide (x2≤8)) (
  kR (runL pg qe ⟨[(0,I x0),(2,I x2),(11,(B (decide ((IntKind.i64.wrap (x2+x1))≤xc0_0))))],[],gh5⟩) (fun e s=>some (e,s))) (
  kR (runL pg qe ⟨[(0,I x0),(2,I x2),(11,B false)],[],gh5⟩) (fun e s=>some (e,s)))) (
  kR (runL pg qe ⟨[(0,I x0),(2,I x2),(11,B false)],[],gh5⟩) (fun e s=>some (e,s)))) (
  kR (runL pg qe ⟨[(0,I x0),(2,I x2),(11,(B (decide (xc0_0≤x1))))],[],gh5⟩) (fun e s=>some (e,s)))))))))
theorem qj_ {x0 x1:Int} {x2 xc0_0:Int} {xc0_1 xc0_2:Int} (h:qj pg x0 x1 x2 xc0_0 xc0_1 xc0_2 gh=some (e,s)):runL pg q36 ⟨[(0,I x0),(1,I x1),(2,I x2),(7,.ptr false 0 0)],[[I xc0_0,I xc0_1,I xc0_2]],gh⟩=some (e,s):=
 jee q3r (Eq.trans (by kernel_rfl) h)
def q2t (pg:Prg) (x0 x1:Int) (x2 x3_0:Int) (x3_1 x3_2:Int) (gh:List GObj):DR:=
  callR gh true (callL pg 26 [I x0] gh) fun r1 gh2=>unI .i64 r1 fun n3=>
  br 15 (n3==0) (some (.ret,⟨[(8,I 7)],[],gh2⟩)) (
  callR gh2 true (callL pg 50 [I x1,I 1,I 8] gh2) fun r4 gh5=>unB r4 fun b6=>
  br 18 (!b6) (some (.ret,⟨[(8,I 3)],[],gh5⟩)) (
  kR (runL pg q5e ⟨[(0,I x0),(1,I x1),(2,I x2),(7,.ptr false 0 0),(9,I n3),(10,I 0)],[[I x3_0,I x3_1,I x3_2]],gh5⟩) (fun e s=>nx e s (fun e s=>some (e,s)) fun s=>kR (runL pg q36 s) (fun e s=>some (e,s)))))
theorem q2t_ {x0 x1:Int} {x2 x3_0:Int} {x3_1 x3_2:Int} (h:q2t pg x0 x1 x2 x3_0 x3_1 x3_2 gh=some (e,s)):runL pg q8n ⟨[(0,I x0),(1,I x1),(2,I x2),(3,.agg [I x3_0,I x3_1,I x3_2])],[],gh⟩=some (e,s):=
 jee q3r (Eq.trans (by kernel_rfl) h)
end
end Go.Lw
end

/-! What the code of function ref_Takes comes to, piece by piece. Written by program (dprint.py). -/
section
set_option maxRecDepth 10000
set_option maxHeartbeats 4000000
namespace Go.Lw
open Go
noncomputable section
variable {pg:Prg} {gh:List GObj} {e:IExit} {s:St}
def q6p:Tr:=(tB 7 (tB 4 (tI 2 (uI 0) (uI 3)) (tB 6 (uB 5) .nil)) (tB 11 (tB 9 (uB 8) (uB 10)) (tB 13 (uI 12) .nil)))
def qas (pg:Prg) (x0 x3:Int) (b4:Bool) (gh:List GObj):DR:=
  br 4 b4 (some (.ret,⟨[(2,I 1)],[],gh⟩)) (
  br 10 (x3==19) (some (.ret,⟨[(2,I 3)],[],gh⟩)) (some (.normal,⟨[(0,I x0),(10,(B (x3==19)))],[],gh⟩)))
theorem qas_ {x0 x3:Int} {b4:Bool} (h:qas pg x0 x3 b4 gh=some (e,s)):runL pg q1d ⟨[(0,I x0),(3,I x3),(4,B b4)],[],gh⟩=some (e,s):=
 jee q6p (Eq.trans (by kernel_rfl) h)
def q6q (pg:Prg) (x0:Int) (b10:Bool) (gh:List GObj):DR:=
  callR gh true (callL pg 50 [I x0,I 6,I 20] gh) fun r1 gh2=>unB r1 fun b3=>
  br 13 b3 (some (.ret,⟨[(2,I 2)],[],gh2⟩)) (some (.ret,⟨[(2,I 0)],[],gh2⟩))
theorem q6q_ {x0:Int} {b10:Bool} (h:q6q pg x0 b10 gh=some (e,s)):runL pg q1e ⟨[(0,I x0),(10,B b10)],[],gh⟩=some (e,s):=
 jee q6p (Eq.trans (by kernel_rfl) h)
def q2u (pg:Prg) (x0:Int) (gh:List GObj):DR:=
  br 4 (x0==4) (
  kR (runL pg q1d ⟨[(0,I x0),(3,I x0),(4,(B (x0==4)))],[],gh⟩) (fun e s=>bk 0 e s (fun e s=>nx e s (fun e s=>some (e,s)) fun s=>kR (runL pg q1e s) (fun e s=>some (e,s))))) (
  br 4 (x0==5) (
  kR (runL pg q1d ⟨[(0,I x0),(3,I x0),(4,(B (x0==5)))],[],gh⟩) (fun e s=>bk 0 e s (fun e s=>nx e s (fun e s=>some (e,s)) fun s=>kR (runL pg q1e s) (fun e s=>some (e,s))))) (
  br 4 (x0==21) (
  kR (runL pg q1d ⟨[(0,I x0),(3,I x0),(4,(B (x0==21)))],[],gh⟩) (fun e s=>bk 0 e s (fun e s=>nx e s (fun e s=>some (e,s)) fun s=>kR (runL pg q1e s) (fun e s=>some (e,s))))) (
  br 4 (x0==22) (
  kR (runL pg q1d ⟨[(0,I x0),(3,I x0),(4,(B (x0==22)))],[],gh⟩) (fun e s=>bk 0 e s (fun e s=>nx e s (fun e s=>some (e,s)) fun s=>kR (runL pg q1e s) (fun e s=>some (e,s))))) (
  kR (runL pg q1d ⟨[(0,I x0),(3,I x0),(4,(B (x0==23)))],[],gh⟩) (fun e s=>bk 0 e s (fun e s=>nx e s (fun e s=>some (e,s)) fun s=>kR (runL pg q1e s) (fun e s=>some (e,s))))))))
theorem q2u_ {x0:Int} (h:q2u pg x0 gh=some (e,s)):runL pg q8o ⟨[(0,I x0)],[],gh⟩=some (e,s):=
 jee q6p (Eq.trans (by kernel_rfl) h)
end
end Go.Lw
end

/-! What the code of function ref_between comes to, piece by piece. Written by program (dprint.py). -/
section
set_option maxRecDepth 10000
set_option maxHeartbeats 4000000
namespace Go.Lw
open Go
noncomputable section
variable {pg:Prg} {gh:List GObj} {e:IExit} {s:St}
def qds:Tr:=(tB 9 (tB 6 (tI 1 (uI 0) (uI 2)) (tI 8 (uI 7) .nil)) (tI 12 (tI 11 (uB 10) .nil) (tB 14 (uB 13) .nil)))
def q6r (pg:Prg) (x0 x1 x2:Int) (gh:List GObj):DR:=
  br 10 (decide (x1≤x0)) (some (.ret,⟨[(6,(B (decide (x0≤x2))))],[],gh⟩)) (some (.ret,⟨[(6,B false)],[],gh⟩))
theorem q6r_ {x0 x1 x2:Int} (h:q6r pg x0 x1 x2 gh=some (e,s)):runL pg q92 ⟨[(0,I x0),(1,I x1),(2,I x2)],[],gh⟩=some (e,s):=
 jee qds (Eq.trans (by kernel_rfl) h)
end
end Go.Lw
end

/-! What the code of function ref_Two comes to, piece by piece. Written by program (dprint.py). -/
section
set_option maxRecDepth 10000
set_option maxHeartbeats 4000000
namespace Go.Lw
open Go
noncomputable section
variable {pg:Prg} {gh:List GObj} {e:IExit} {s:St}
def q6s:Tr:=(tB 7 (tI 4 (tI 2 (uI 0) (uI 3)) (tI 6 (uI 5) .nil)) (tI 10 (tI 9 (uI 8) .nil) (tI 12 (uI 11) .nil)))
def q6t (pg:Prg) (x0 x3 x4:Int) (gh:List GObj):DR:=
  br 7 (decide (x4<x0)) (some (.normal,⟨[(0,I x0),(3,(I (IntKind.i64.wrap (2*x3)))),(4,(I (IntKind.i64.wrap (x4+1))))],[],gh⟩)) (some ((.exit 0),⟨[(0,I x0),(3,I x3),(4,I x4),(7,(B (decide (x4<x0))))],[],gh⟩))
theorem q6t_ {x0 x3 x4:Int} (h:q6t pg x0 x3 x4 gh=some (e,s)):runL pg q8p ⟨[(0,I x0),(3,I x3),(4,I x4)],[],gh⟩=some (e,s):=
 jee q6s (Eq.trans (by kernel_rfl) h)
def qdt (pg:Prg) (x3:Int) (gh:List GObj):DR:=some (.ret,⟨[(2,I x3)],[],gh⟩)
theorem qdt_ {x3:Int} (h:qdt pg x3 gh=some (e,s)):runL pg q5f ⟨[(3,I x3)],[],gh⟩=some (e,s):=
 jee q6s (Eq.trans (by kernel_rfl) h)
def qat (pg:Prg) (x0:Int) (gh:List GObj):DR:=
  kR (runL pg q37 ⟨[(0,I x0),(3,I 1),(4,I 0)],[],gh⟩) (fun e s=>nx e s (fun e s=>some (e,s)) fun s=>kR (runL pg q5f s) (fun e s=>some (e,s)))
theorem qat_ {x0:Int} (h:qat pg x0 gh=some (e,s)):runL pg q8q ⟨[(0,I x0)],[],gh⟩=some (e,s):=
 jee q6s (Eq.trans (by kernel_rfl) h)
end
end Go.Lw
end

/-! What the code of function slices_ContainsFunc_Lint_int comes to, piece by piece. Written by program (dprint.py). -/
section
set_option maxRecDepth 10000
set_option maxHeartbeats 4000000
namespace Go.Lw
open Go
noncomputable section
variable {pg:Prg} {gh:List GObj} {e:IExit} {s:St}
def qdu:Tr:=(tO 5 (tO 1 (uO 0) (uB 4)) (tI 7 (uO 6) (uB 8)))
def qau (pg:Prg) (v0 v1:PV) (gh:List GObj):DR:=stK 0 v0 (stK 0 v1 (isC (degr v0) (isC (degr v1) (arK (degr (degr v0)) (arK (degr (degr v1)) (
  callR gh true (callL pg 111 [(degr (degr v0)),(degr (degr v1))] gh) fun r1 gh2=>unI .i64 r1 fun n3=>some (.ret,⟨[(4,(B (decide (0≤n3))))],[],gh2⟩)))))))
theorem qau_ {v0 v1:PV} (h:qau pg v0 v1 gh=some (e,s)):runL pg q7r ⟨[(0,v0),(1,v1)],[],gh⟩=some (e,s):=
 jee qdu (Eq.trans (by kernel_rfl) h)
end
end Go.Lw
end

/-! What the code of function slices_IndexFunc_Lint_int comes to, piece by piece. Written by program (dprint.py). -/
section
set_option maxRecDepth 10000
set_option maxHeartbeats 4000000
namespace Go.Lw
open Go
noncomputable section
variable {pg:Prg} {gh:List GObj} {e:IExit} {s:St}
def q6u:Tr:=(tI 10 (tO 6 (tI 4 (tO 1 (uO 0) .nil) (uI 5)) (tI 8 (uI 7) (uB 9))) (tI 15 (tO 12 (uO 11) (uI 13)) (tI 17 (uB 16) (uI 18))))
def q3t (pg:Prg) (v0 v1:PV) (x7 x8:Int) (gh:List GObj):DR:=
  br 9 (decide (x8<x7)) (stK 0 v0 (stK 0 v1 (isC (degr v1) (isC (degr v0) (
  idX 1 none (degr (degr v0)) x8 fun p1=>
  ldX [] gh false 1 (degr p1) fun v2=>unI .i64 v2 fun n3=>
  fnX (degr (degr v1)) fun f6 cs7=>allK cs7 (callR gh true (callL pg f6 ([I n3]++cs7) gh) fun r4 gh5=>unB r4 fun b8=>stK 0 v0 (stK 0 v1 (
  br 16 b8 (some (.ret,⟨[(4,I x8)],[],gh5⟩)) (stK 0 v0 (stK 0 v1 (stK 0 v0 (stK 0 v1 (some (.normal,⟨[(0,v0),(1,v1),(7,I x7),(8,(I (IntKind.i64.wrap (x8+1))))],[],gh5⟩)))))))))))))) (some ((.exit 0),⟨[(0,v0),(1,v1),(7,I x7),(8,I x8),(9,(B (decide (x8<x7))))],[],gh⟩))
theorem q3t_ {v0 v1:PV} {x7 x8:Int} (h:q3t pg v0 v1 x7 x8 gh=some (e,s)):runL pg q7v ⟨[(0,v0),(1,v1),(7,I x7),(8,I x8)],[],gh⟩=some (e,s):=
 jee q6u (Eq.trans (by kernel_rfl) h)
def qdv (pg:Prg) (gh:List GObj):DR:=some (.ret,⟨[(4,(I (-1)))],[],gh⟩)
theorem qdv_ (h:qdv pg gh=some (e,s)):runL pg q4p ⟨[],[],gh⟩=some (e,s):=
 jee q6u (Eq.trans (by kernel_rfl) h)
def q6v (pg:Prg) (v0 v1:PV) (gh:List GObj):DR:=stK 0 v0 (stK 0 v1 (isC (degr v0) (lenS (degr (degr v0)) fun n1=>stK 0 v0 (stK 0 v1 (
  kR (runL pg q4o ⟨[(0,v0),(1,v1),(7,(I (n1:Int))),(8,I 0)],[],gh⟩) (fun e s=>nx e s (fun e s=>some (e,s)) fun s=>kR (runL pg q4p s) (fun e s=>some (e,s))))))))
theorem q6v_ {v0 v1:PV} (h:q6v pg v0 v1 gh=some (e,s)):runL pg q7w ⟨[(0,v0),(1,v1)],[],gh⟩=some (e,s):=
 jee q6u (Eq.trans (by kernel_rfl) h)
end
end Go.Lw
end

/-! What the code of function model_Args comes to, piece by piece. Written by program (dprint.py). -/
section
set_option maxRecDepth 10000
set_option maxHeartbeats 4000000
namespace Go.Lw
open Go
noncomputable section
variable {pg:Prg} {gh:List GObj} {e:IExit} {s:St}
def qdw:Tr:=(tI 8 (tI 4 (tO 2 (.node 0 (.agg [.int .i64,.int .i64,.int .i64,.int .i64,.int .i64,.int .i64]) .nil .nil) .nil) (uI 6)) (tI 12 (tI 11 (uO 9) .nil) (uO 13)))
def q2v (pg:Prg) (x0_0 x0_1:Int) (x0_2 x0_3:Int) (x0_4 x0_5:Int) (gh:List GObj):DR:=
  callR gh true (callL pg 63 [I x0_0] gh) fun r1 gh2=>unI .i64 r1 fun n3=>
  slX 1 (.sl false 1 [I x0_2,I x0_3,I x0_4]) none (some n3) fun v4=>isC v4 (stK 0 v4 (some (.ret,⟨[(2,v4)],[],gh2⟩)))
theorem q2v_ {x0_0 x0_1:Int} {x0_2 x0_3:Int} {x0_4 x0_5:Int} (h:q2v pg x0_0 x0_1 x0_2 x0_3 x0_4 x0_5 gh=some (e,s)):runL pg q8a ⟨[(0,.agg [I x0_0,I x0_1,I x0_2,I x0_3,I x0_4,I x0_5])],[],gh⟩=some (e,s):=
 jee qdw (Eq.trans (by kernel_rfl) h)
end
end Go.Lw
end

/-! What the code of function model_leaf comes to, piece by piece. Written by program (dprint.py). -/
section
set_option maxRecDepth 10000
set_option maxHeartbeats 4000000
namespace Go.Lw
open Go
noncomputable section
variable {pg:Prg} {gh:List GObj} {e:IExit} {s:St}
def qdx:Tr:=(tB 5 (tI 3 (tB 2 (uI 0) .nil) (uB 4)) (tB 7 (uI 6) (uB 8)))
def q6w (pg:Prg) (x0:Int) (gh:List GObj):DR:=
  br 5 (decide (1≤x0)) (some (.ret,⟨[(2,(B (decide (x0≤3))))],[],gh⟩)) (some (.ret,⟨[(2,B false)],[],gh⟩))
theorem q6w_ {x0:Int} (h:q6w pg x0 gh=some (e,s)):runL pg q8d ⟨[(0,I x0)],[],gh⟩=some (e,s):=
 jee qdx (Eq.trans (by kernel_rfl) h)
end
end Go.Lw
end

/-! What the code of function model_Widths comes to, piece by piece. Written by program (dprint.py). -/
section
set_option maxRecDepth 10000
set_option maxHeartbeats 4000000
namespace Go.Lw
open Go
noncomputable section
variable {pg:Prg} {gh:List GObj} {e:IExit} {s:St}
def q6x:Tr:=(tB 12 (.node 8 (.agg [.int .i64,.int .i64,.int .i64,.int .i64,.int .i64,.int .i64]) (tI 6 (.node 1 (.agg [.int .i64,.int .i64,.int .i64,.int .i64,.int .i64,.int .i64]) (uO 0) .nil) (uI 7)) (tI 10 (uO 9) (uI 11))) (tI 18 (tI 16 (tI 15 (uI 13) .nil) (uO 17)) (tI 23 (uI 21) (.node 24 (.agg [.int .i64,.int .i64,.int .i64]) .nil .nil))))
def q1q (pg:Prg) (v0 v9:PV) (x10 x11:Int) (xc0_0 xc0_1:Int) (xc0_2 xc0_3:Int) (xc0_4 xc0_5:Int) (xc1_0 xc1_1:Int) (xc1_2 xc2_0:Int) (xc2_1 xc2_2:Int) (gh:List GObj):DR:=
  br 12 (decide (x11<x10)) (
  idX 1 none (degr v9) x11 fun p1=>
  ldX [[I xc0_0,I xc0_1,I xc0_2,I xc0_3,I xc0_4,I xc0_5],[I xc1_0,I xc1_1,I xc1_2],[I xc2_0,I xc2_1,I xc2_2]] gh false 1 (degr p1) fun v2=>unI .i64 v2 fun n3=>stK 3 v0 (stK 3 v9 (isC (degr v0) (
  idX 6 none (degr (degr v0)) n3 fun p4=>faX (degr p4) 1 fun p5=>
  ldX [[I xc0_0,I xc0_1,I xc0_2,I xc0_3,I xc0_4,I xc0_5],[I xc1_0,I xc1_1,I xc1_2],[I xc2_0,I xc2_1,I xc2_2]] gh false 1 (degr p5) fun v6=>unI .i64 v6 fun n7=>gd (decide (0≤x11∧x11<((3:Nat):Int))) (gb (stOk 1 (0+Int.toNat x11*1) [I n7] [I xc2_0,I xc2_1,I xc2_2]) (stK 3 v0 (stK 3 v9 (stK 3 v0 (stK 3 v9 (stK 3 v0 (stK 3 v9 (some (.normal,⟨[(0,v0),(4,.ptr false 1 0),(5,.ptr false 2 0),(9,v9),(10,I x10),(11,(I (IntKind.i64.wrap (x11+1))))],[[I xc0_0,I xc0_1,I xc0_2,I xc0_3,I xc0_4,I xc0_5],[I xc1_0,I xc1_1,I xc1_2],(spliceAt [I xc2_0,I xc2_1,I xc2_2] (0+Int.toNat x11*1) [I n7])],gh⟩))))))))))))) (some ((.exit 0),⟨[(0,v0),(4,.ptr false 1 0),(5,.ptr false 2 0),(9,v9),(10,I x10),(11,I x11),(12,(B (decide (x11<x10))))],[[I xc0_0,I xc0_1,I xc0_2,I xc0_3,I xc0_4,I xc0_5],[I xc1_0,I xc1_1,I xc1_2],[I xc2_0,I xc2_1,I xc2_2]],gh⟩))
theorem q1q_ {v0 v9:PV} {x10 x11:Int} {xc0_0 xc0_1:Int} {xc0_2 xc0_3:Int} {xc0_4 xc0_5:Int} {xc1_0 xc1_1:Int} {xc1_2 xc2_0:Int} {xc2_1 xc2_2:Int} (h:q1q pg v0 v9 x10 x11 xc0_0 xc0_1 xc0_2 xc0_3 xc0_4 xc0_5 xc1_0 xc1_1 xc1_2 xc2_0 xc2_1 xc2_2 gh=some (e,s)):runL pg q8e ⟨[(0,v0),(4,.ptr false 1 0),(5,.ptr false 2 0),(9,v9),(10,I x10),(11,I x11)],[[I xc0_0,I xc0_1,I xc0_2,I xc0_3,I xc0_4,I xc0_5],[I xc1_0,I xc1_1,I xc1_2],[I xc2_0,I xc2_1,I xc2_2]],gh⟩=some (e,s):=
 jee q6x (Eq.trans (by kernel_rfl) h)
def qdy (pg:Prg) (xc0_0 xc0_1:Int) (xc0_2 xc0_3:Int) (xc0_4 xc0_5:Int) (xc1_0 xc1_1:Int) (xc1_2 xc2_0:Int) (xc2_1 xc2_2:Int) (gh:List GObj):DR:=some (.ret,⟨[(4,.ptr false 1 0)],[[I xc0_0,I xc0_1,I xc0_2,I xc0_3,I xc0_4,I xc0_5],[I xc2_0,I xc2_1,I xc2_2]],gh⟩)
theorem qdy_ {xc0_0 xc0_1:Int} {xc0_2 xc0_3:Int} {xc0_4 xc0_5:Int} {xc1_0 xc1_1:Int} {xc1_2 xc2_0:Int} {xc2_1 xc2_2:Int} (h:qdy pg xc0_0 xc0_1 xc0_2 xc0_3 xc0_4 xc0_5 xc1_0 xc1_1 xc1_2 xc2_0 xc2_1 xc2_2 gh=some (e,s)):runL pg q56 ⟨[(4,.ptr false 1 0),(5,.ptr false 2 0)],[[I xc0_0,I xc0_1,I xc0_2,I xc0_3,I xc0_4,I xc0_5],[I xc1_0,I xc1_1,I xc1_2],[I xc2_0,I xc2_1,I xc2_2]],gh⟩=some (e,s):=
 jee q6x (Eq.trans (by kernel_rfl) h)
def qav (pg:Prg) (v0:PV) (x1_0 x1_1:Int) (x1_2 x1_3:Int) (x1_4 x1_5:Int) (gh:List GObj):DR:=stK 2 v0 (
  callR gh true (callL pg 81 [.agg [I x1_0,I x1_1,I x1_2,I x1_3,I x1_4,I x1_5]] gh) fun r1 gh2=>isC r1 (lenS (degr r1) fun n3=>stK 3 v0 (stK 3 r1 (
  kR (runL pg q35 ⟨[(0,v0),(4,.ptr false 1 0),(5,.ptr false 2 0),(9,r1),(10,(I (n3:Int))),(11,I 0)],[[I x1_0,I x1_1,I x1_2,I x1_3,I x1_4,I x1_5],[I 0,I 0,I 0],[I 0,I 0,I 0]],gh2⟩) (fun e s=>nx e s (fun e s=>some (e,s)) fun s=>kR (runL pg q56 s) (fun e s=>some (e,s)))))))
theorem qav_ {v0:PV} {x1_0 x1_1:Int} {x1_2 x1_3:Int} {x1_4 x1_5:Int} (h:qav pg v0 x1_0 x1_1 x1_2 x1_3 x1_4 x1_5 gh=some (e,s)):runL pg q8f ⟨[(0,v0),(1,.agg [I x1_0,I x1_1,I x1_2,I x1_3,I x1_4,I x1_5])],[],gh⟩=some (e,s):=
 jee q6x (Eq.trans (by kernel_rfl) h)
end
end Go.Lw
end

/-! What the code of function model_node comes to, piece by piece. Written by program (dprint.py). -/
section
set_option maxRecDepth 10000
set_option maxHeartbeats 4000000
namespace Go.Lw
open Go
noncomputable section
variable {pg:Prg} {gh:List GObj} {e:IExit} {s:St}
def q1r:Tr:=(tI 58 (tB 30 (tB 15 (tO 8 (tI 4 (tI 1 (uO 0) .nil) (tI 7 (uI 6) .nil)) (tI 13 (.node 11 (.agg [.int .i64,.int .i64,.int .i64,.int .i64,.int .i64,.int .i64]) (uI 9) .nil) (uB 14))) (tB 23 (tB 19 (tB 18 (uI 17) .nil) (tB 22 (uI 21) .nil)) (tB 27 (tB 26 (uI 25) .nil) (uI 29)))) (tI 45 (tB 38 (tI 35 (tI 33 (uB 31) .nil) (tB 37 (uB 36) .nil)) (tB 42 (tI 41 (uB 39) .nil) (uB 43))) (tB 51 (tI 49 (tB 47 (uB 46) .nil) (uB 50)) (tB 55 (tB 54 (uI 53) .nil) (uB 56))))) (tB 85 (tI 73 (tO 67 (tI 62 (tB 60 (uB 59) .nil) (tI 66 (uI 64) .nil)) (tB 70 (tI 69 (uI 68) .nil) (uI 71))) (tI 80 (tI 77 (tI 76 (uI 74) .nil) (tB 79 (uB 78) .nil)) (tI 83 (tB 82 (uB 81) .nil) (uI 84)))) (tB 97 (tI 92 (tB 88 (tB 87 (uB 86) .nil) (tI 91 (uI 89) .nil)) (tI 95 (tB 94 (uB 93) .nil) (uB 96))) (tI 105 (tI 101 (tI 99 (uB 98) .nil) (uI 103)) (.node 108 (.agg [.int .i64,.int .i64,.int .i64]) (.node 107 (.agg [.int .i64,.int .i64,.int .i64,.int .i64,.int .i64,.int .i64]) (uO 106) .nil) (uI 109))))))
def qdz (pg:Prg) (b39:Bool) (gh:List GObj):DR:=
  br 39 b39 (some (.ret,⟨[(4,I 1)],[],gh⟩)) (some (.normal,⟨[(39,B b39)],[],gh⟩))
theorem qdz_ {b39:Bool} (h:qdz pg b39 gh=some (e,s)):runL pg qc ⟨[(39,B b39)],[],gh⟩=some (e,s):=
 jee q1r (Eq.trans (by kernel_rfl) h)
def qe0 (pg:Prg) (b39:Bool) (gh:List GObj):DR:=some (.ret,⟨[(4,I 0)],[],gh⟩)
theorem qe0_ {b39:Bool} (h:qe0 pg b39 gh=some (e,s)):runL pg qd ⟨[(39,B b39)],[],gh⟩=some (e,s):=
 jee q1r (Eq.trans (by kernel_rfl) h)
def q18 (pg:Prg) (v0:PV) (x1:Int) (v67:PV) (x68 x69:Int) (xc0_0 xc0_1:Int) (xc0_2 xc0_3:Int) (xc0_4 xc0_5:Int) (gh:List GObj):DR:=
  br 70 (decide (x69<x68)) (
  idX 1 none (degr v67) x69 fun p1=>
  ldX [[I xc0_0,I xc0_1,I xc0_2,I xc0_3,I xc0_4,I xc0_5]] gh false 1 (degr p1) fun v2=>unI .i64 v2 fun n3=>stK 1 v0 (stK 1 v67 (
  callR gh true (callL pg 63 [I xc0_0] gh) fun r4 gh5=>unI .i64 r4 fun n6=>
  br 79 (decide (x69<n6)) (
  br 82 (decide (n3<0)) (stK 1 v0 (stK 1 v67 (some (.ret,⟨[(4,I 4)],[],gh5⟩)))) (
  br 88 (decide (x1≤n3)) (stK 1 v0 (stK 1 v67 (some (.ret,⟨[(4,I 4)],[],gh5⟩)))) (
  callR gh5 true (callL pg 63 [I xc0_0] gh5) fun r7 gh8=>unI .i64 r7 fun n9=>
  br 94 (decide (n9≤x69)) (stK 1 v0 (stK 1 v67 (
  br 98 (n3 !=0) (some (.ret,⟨[(4,I 4)],[],gh8⟩)) (stK 1 v0 (stK 1 v67 (stK 1 v0 (stK 1 v67 (some (.normal,⟨[(0,v0),(1,I x1),(5,.ptr false 0 0),(67,v67),(68,I x68),(69,(I (IntKind.i64.wrap (x69+1))))],[[I xc0_0,I xc0_1,I xc0_2,I xc0_3,I xc0_4,I xc0_5]],gh8⟩))))))))) (stK 1 v0 (stK 1 v67 (stK 1 v0 (stK 1 v67 (stK 1 v0 (stK 1 v67 (some (.normal,⟨[(0,v0),(1,I x1),(5,.ptr false 0 0),(67,v67),(68,I x68),(69,(I (IntKind.i64.wrap (x69+1))))],[[I xc0_0,I xc0_1,I xc0_2,I xc0_3,I xc0_4,I xc0_5]],gh8⟩))))))))))) (
  callR gh5 true (callL pg 63 [I xc0_0] gh5) fun r10 gh11=>unI .i64 r10 fun n12=>
  br 94 (decide (n12≤x69)) (stK 1 v0 (stK 1 v67 (
  br 98 (n3 !=0) (some (.ret,⟨[(4,I 4)],[],gh11⟩)) (stK 1 v0 (stK 1 v67 (stK 1 v0 (stK 1 v67 (some (.normal,⟨[(0,v0),(1,I x1),(5,.ptr false 0 0),(67,v67),(68,I x68),(69,(I (IntKind.i64.wrap (x69+1))))],[[I xc0_0,I xc0_1,I xc0_2,I xc0_3,I xc0_4,I xc0_5]],gh11⟩))))))))) (stK 1 v0 (stK 1 v67 (stK 1 v0 (stK 1 v67 (stK 1 v0 (stK 1 v67 (some (.normal,⟨[(0,v0),(1,I x1),(5,.ptr false 0 0),(67,v67),(68,I x68),(69,(I (IntKind.i64.wrap (x69+1))))],[[I xc0_0,I xc0_1,I xc0_2,I xc0_3,I xc0_4,I xc0_5]],gh11⟩)))))))))))) (some ((.exit 1),⟨[(0,v0),(1,I x1),(5,.ptr false 0 0),(67,v67),(68,I x68),(69,I x69),(70,(B (decide (x69<x68))))],[[I xc0_0,I xc0_1,I xc0_2,I xc0_3,I xc0_4,I xc0_5]],gh⟩))
theorem q18_ {v0:PV} {x1:Int} {v67:PV} {x68 x69:Int} {xc0_0 xc0_1:Int} {xc0_2 xc0_3:Int} {xc0_4 xc0_5:Int} (h:q18 pg v0 x1 v67 x68 x69 xc0_0 xc0_1 xc0_2 xc0_3 xc0_4 xc0_5 gh=some (e,s)):runL pg q7z ⟨[(0,v0),(1,I x1),(5,.ptr false 0 0),(67,v67),(68,I x68),(69,I x69)],[[I xc0_0,I xc0_1,I xc0_2,I xc0_3,I xc0_4,I xc0_5]],gh⟩=some (e,s):=
 jee q1r (Eq.trans (by kernel_rfl) h)
def qaw (pg:Prg) (v0:PV) (xc0_0 xc0_1:Int) (xc0_2 xc0_3:Int) (xc0_4 xc0_5:Int) (gh:List GObj):DR:=isC (degr v0) (arK (degr (degr v0)) (
  callR gh true (callL pg 104 [(degr (degr v0)),.agg [I xc0_0,I xc0_1,I xc0_2,I xc0_3,I xc0_4,I xc0_5]] gh) fun r1 gh2=>unA 3 r1 fun c3 c4 c5=>unI .i64 c3 fun n6=>unI .i64 c4 fun n7=>unI .i64 c5 fun n8=>
  callR gh2 true (callL pg 22 [I xc0_0,I xc0_1,I xc0_5,.agg [I n6,I n7,I n8]] gh2) fun r9 gh10=>unI .i64 r9 fun n11=>some (.ret,⟨[(4,I n11)],[],gh10⟩)))
theorem qaw_ {v0:PV} {xc0_0 xc0_1:Int} {xc0_2 xc0_3:Int} {xc0_4 xc0_5:Int} (h:qaw pg v0 xc0_0 xc0_1 xc0_2 xc0_3 xc0_4 xc0_5 gh=some (e,s)):runL pg q4s ⟨[(0,v0),(5,.ptr false 0 0)],[[I xc0_0,I xc0_1,I xc0_2,I xc0_3,I xc0_4,I xc0_5]],gh⟩=some (e,s):=
 jee q1r (Eq.trans (by kernel_rfl) h)
def q6y (pg:Prg) (v0:PV) (x1:Int) (b26:Bool) (xc0_0 xc0_1:Int) (xc0_2 xc0_3:Int) (xc0_4 xc0_5:Int) (gh:List GObj):DR:=lenS (.sl false 1 [I xc0_2,I xc0_3,I xc0_4]) fun n1=>stK 1 v0 (
  kR (runL pg q4r ⟨[(0,v0),(1,I x1),(5,.ptr false 0 0),(67,.sl true 1 [I xc0_2,I xc0_3,I xc0_4]),(68,(I (n1:Int))),(69,I 0)],[[I xc0_0,I xc0_1,I xc0_2,I xc0_3,I xc0_4,I xc0_5]],gh⟩) (fun e s=>nx e s (fun e s=>some (e,s)) fun s=>kR (runL pg q4s s) (fun e s=>some (e,s))))
theorem q6y_ {v0:PV} {x1:Int} {b26:Bool} {xc0_0 xc0_1:Int} {xc0_2 xc0_3:Int} {xc0_4 xc0_5:Int} (h:q6y pg v0 x1 b26 xc0_0 xc0_1 xc0_2 xc0_3 xc0_4 xc0_5 gh=some (e,s)):runL pg qa ⟨[(0,v0),(1,I x1),(5,.ptr false 0 0),(26,B b26)],[[I xc0_0,I xc0_1,I xc0_2,I xc0_3,I xc0_4,I xc0_5]],gh⟩=some (e,s):=
 jee q1r (Eq.trans (by kernel_rfl) h)
def qf (pg:Prg) (v0:PV) (x1:Int) (gh:List GObj):DR:=stK 0 v0 (isC (degr v0) (
  idX 6 none (degr (degr v0)) x1 fun p1=>
  ldX [] gh true 6 (degr p1) fun v2=>unA 6 v2 fun c3 c4 c5 c6 c7 c8=>unI .i64 c3 fun n9=>unI .i64 c4 fun n10=>unI .i64 c5 fun n11=>unI .i64 c6 fun n12=>unI .i64 c7 fun n13=>unI .i64 c8 fun n14=>stK 1 v0 (
  br 15 (decide (n9<1)) (stK 1 v0 (some (.ret,⟨[(4,I 7)],[],gh⟩))) (stK 1 v0 (
  br 19 (decide (24≤n9)) (some (.ret,⟨[(4,I 7)],[],gh⟩)) (
  callR gh true (callL pg 62 [I n10] gh) fun r15 gh16=>unB r15 fun b17=>stK 1 v0 (
  br 23 (!b17) (some (.ret,⟨[(4,I 3)],[],gh16⟩)) (
  callR gh16 true (callL pg 103 [I n9] gh16) fun r18 gh19=>unB r18 fun b20=>stK 1 v0 (
  br 26 b20 (
  br 31 (n9==1) (
  callR gh19 true (callL pg 65 [I n14,I n10] gh19) fun r21 gh22=>unB r21 fun b23=>
  br 27 (!b23) (some (.ret,⟨[(4,I 3)],[],gh22⟩)) (
  br 43 (n9 !=1) (
  br 39 (n14 !=0) (
  kR (runL pg qc ⟨[(39,(B (n14 !=0)))],[],gh22⟩) (fun e s=>bk 0 e s (fun e s=>nx e s (fun e s=>nx e s (fun e s=>some (e,s)) fun s=>kR (runL pg qa s) (fun e s=>some (e,s))) fun s=>kR (runL pg qd s) (fun e s=>nx e s (fun e s=>some (e,s)) fun s=>kR (runL pg qa s) (fun e s=>some (e,s)))))) (
  br 51 (n11 !=0) (
  kR (runL pg qc ⟨[(39,B true)],[],gh22⟩) (fun e s=>bk 0 e s (fun e s=>nx e s (fun e s=>nx e s (fun e s=>some (e,s)) fun s=>kR (runL pg qa s) (fun e s=>some (e,s))) fun s=>kR (runL pg qd s) (fun e s=>nx e s (fun e s=>some (e,s)) fun s=>kR (runL pg qa s) (fun e s=>some (e,s)))))) (
  br 56 (n12 !=0) (
  kR (runL pg qc ⟨[(39,B true)],[],gh22⟩) (fun e s=>bk 0 e s (fun e s=>nx e s (fun e s=>nx e s (fun e s=>some (e,s)) fun s=>kR (runL pg qa s) (fun e s=>some (e,s))) fun s=>kR (runL pg qd s) (fun e s=>nx e s (fun e s=>some (e,s)) fun s=>kR (runL pg qa s) (fun e s=>some (e,s)))))) (
  kR (runL pg qc ⟨[(39,(B (n13 !=0)))],[],gh22⟩) (fun e s=>bk 0 e s (fun e s=>nx e s (fun e s=>nx e s (fun e s=>some (e,s)) fun s=>kR (runL pg qa s) (fun e s=>some (e,s))) fun s=>kR (runL pg qd s) (fun e s=>nx e s (fun e s=>some (e,s)) fun s=>kR (runL pg qa s) (fun e s=>some (e,s))))))))) (
  br 51 (n11 !=0) (
  kR (runL pg qc ⟨[(39,B true)],[],gh22⟩) (fun e s=>bk 0 e s (fun e s=>nx e s (fun e s=>nx e s (fun e s=>some (e,s)) fun s=>kR (runL pg qa s) (fun e s=>some (e,s))) fun s=>kR (runL pg qd s) (fun e s=>nx e s (fun e s=>some (e,s)) fun s=>kR (runL pg qa s) (fun e s=>some (e,s)))))) (
  br 56 (n12 !=0) (
  kR (runL pg qc ⟨[(39,B true)],[],gh22⟩) (fun e s=>bk 0 e s (fun e s=>nx e s (fun e s=>nx e s (fun e s=>some (e,s)) fun s=>kR (runL pg qa s) (fun e s=>some (e,s))) fun s=>kR (runL pg qd s) (fun e s=>nx e s (fun e s=>some (e,s)) fun s=>kR (runL pg qa s) (fun e s=>some (e,s)))))) (
  kR (runL pg qc ⟨[(39,(B (n13 !=0)))],[],gh22⟩) (fun e s=>bk 0 e s (fun e s=>nx e s (fun e s=>nx e s (fun e s=>some (e,s)) fun s=>kR (runL pg qa s) (fun e s=>some (e,s))) fun s=>kR (runL pg qd s) (fun e s=>nx e s (fun e s=>some (e,s)) fun s=>kR (runL pg qa s) (fun e s=>some (e,s)))))))))) (
  br 43 (n9 !=1) (
  br 39 (n14 !=0) (
  kR (runL pg qc ⟨[(39,(B (n14 !=0)))],[],gh19⟩) (fun e s=>bk 0 e s (fun e s=>nx e s (fun e s=>nx e s (fun e s=>some (e,s)) fun s=>kR (runL pg qa s) (fun e s=>some (e,s))) fun s=>kR (runL pg qd s) (fun e s=>nx e s (fun e s=>some (e,s)) fun s=>kR (runL pg qa s) (fun e s=>some (e,s)))))) (
  br 51 (n11 !=0) (
  kR (runL pg qc ⟨[(39,B true)],[],gh19⟩) (fun e s=>bk 0 e s (fun e s=>nx e s (fun e s=>nx e s (fun e s=>some (e,s)) fun s=>kR (runL pg qa s) (fun e s=>some (e,s))) fun s=>kR (runL pg qd s) (fun e s=>nx e s (fun e s=>some (e,s)) fun s=>kR (runL pg qa s) (fun e s=>some (e,s)))))) (
  br 56 (n12 !=0) (
  kR (runL pg qc ⟨[(39,B true)],[],gh19⟩) (fun e s=>bk 0 e s (fun e s=>nx e s (fun e s=>nx e s (fun e s=>some (e,s)) fun s=>kR (runL pg qa s) (fun e s=>some (e,s))) fun s=>kR (runL pg qd s) (fun e s=>nx e s (fun e s=>some (e,s)) fun s=>kR (runL pg qa s) (fun e s=>some (e,s)))))) (
  kR (runL pg qc ⟨[(39,(B (n13 !=0)))],[],gh19⟩) (fun e s=>bk 0 e s (fun e s=>nx e s (fun e s=>nx e s (fun e s=>some (e,s)) fun s=>kR (runL pg qa s) (fun e s=>some (e,s))) fun s=>kR (runL pg qd s) (fun e s=>nx e s (fun e s=>some (e,s)) fun s=>kR (runL pg qa s) (fun e s=>some (e,s))))))))) (
  br 51 (n11 !=0) (
  kR (runL pg qc ⟨[(39,B true)],[],gh19⟩) (fun e s=>bk 0 e s (fun e s=>nx e s (fun e s=>nx e s (fun e s=>some (e,s)) fun s=>kR (runL pg qa s) (fun e s=>some (e,s))) fun s=>kR (runL pg qd s) (fun e s=>nx e s (fun e s=>some (e,s)) fun s=>kR (runL pg qa s) (fun e s=>some (e,s)))))) (
  br 56 (n12 !=0) (
  kR (runL pg qc ⟨[(39,B true)],[],gh19⟩) (fun e s=>bk 0 e s (fun e s=>nx e s (fun e s=>nx e s (fun e s=>some (e,s)) fun s=>kR (runL pg qa s) (fun e s=>some (e,s))) fun s=>kR (runL pg qd s) (fun e s=>nx e s (fun e s=>some (e,s)) fun s=>kR (runL pg qa s) (fun e s=>some (e,s)))))) (
  kR (runL pg qc ⟨[(39,(B (n13 !=0)))],[],gh19⟩) (fun e s=>bk 0 e s (fun e s=>nx e s (fun e s=>nx e s (fun e s=>some (e,s)) fun s=>kR (runL pg qa s) (fun e s=>some (e,s))) fun s=>kR (runL pg qd s) (fun e s=>nx e s (fun e s=>some (e,s)) fun s=>kR (runL pg qa s) (fun e s=>some (e,s)))))))))) (
  kR (runL pg qa ⟨[(0,v0),(1,I x1),(5,.ptr false 0 0),(26,B b20)],[[I n9,I n10,I n11,I n12,I n13,I n14]],gh19⟩) (fun e s=>some (e,s))))))))))))
theorem qf_ {v0:PV} {x1:Int} (h:qf pg v0 x1 gh=some (e,s)):runL pg q80 ⟨[(0,v0),(1,I x1)],[],gh⟩=some (e,s):=
 jee q1r (Eq.trans (by kernel_rfl) h)
end
end Go.Lw
end

/-! What the code of function ref_WidthsOf comes to, piece by piece. Written by program (dprint.py). -/
section
set_option maxRecDepth 10000
set_option maxHeartbeats 4000000
namespace Go.Lw
open Go
noncomputable section
variable {pg:Prg} {gh:List GObj} {e:IExit} {s:St}
def q3u:Tr:=(tI 19 (tI 10 (tI 6 (.node 1 (.agg [.int .i64,.int .i64,.int .i64,.int .i64,.int .i64,.int .i64]) (uO 0) .nil) (tI 9 (uI 8) .nil)) (tI 14 (tO 12 (uB 11) .nil) (uI 17))) (tB 29 (tI 23 (tO 21 (uB 20) .nil) (tI 28 (uI 26) .nil)) (tI 35 (tI 32 (uO 30) .nil) (.node 37 (.agg [.int .i64,.int .i64,.int .i64]) .nil .nil))))
def qe1 (pg:Prg) (xc0_0 xc0_1:Int) (xc0_2 xc0_3:Int) (xc0_4 xc0_5:Int) (xc1_0 xc1_1:Int) (xc1_2 xc2_0:Int) (xc2_1 xc2_2:Int) (gh:List GObj):DR:=some (.ret,⟨[(4,.ptr false 1 0)],[[I xc0_0,I xc0_1,I xc0_2,I xc0_3,I xc0_4,I xc0_5],[I xc2_0,I xc2_1,I xc2_2]],gh⟩)
theorem qe1_ {xc0_0 xc0_1:Int} {xc0_2 xc0_3:Int} {xc0_4 xc0_5:Int} {xc1_0 xc1_1:Int} {xc1_2 xc2_0:Int} {xc2_1 xc2_2:Int} (h:qe1 pg xc0_0 xc0_1 xc0_2 xc0_3 xc0_4 xc0_5 xc1_0 xc1_1 xc1_2 xc2_0 xc2_1 xc2_2 gh=some (e,s)):runL pg q2h ⟨[(4,.ptr false 1 0),(5,.ptr false 2 0)],[[I xc0_0,I xc0_1,I xc0_2,I xc0_3,I xc0_4,I xc0_5],[I xc1_0,I xc1_1,I xc1_2],[I xc2_0,I xc2_1,I xc2_2]],gh⟩=some (e,s):=
 jee q3u (Eq.trans (by kernel_rfl) h)
def q6z (pg:Prg) (v0:PV) (x6 xc0_0:Int) (xc0_1 xc0_2:Int) (xc0_3 xc0_4:Int) (xc0_5 xc1_0:Int) (xc1_1 xc1_2:Int) (xc2_0 xc2_1 xc2_2:Int) (gh:List GObj):DR:=stK 3 v0 (
  br 29 (decide (2<x6)) (isC (degr v0) (
  idX 6 none (degr (degr v0)) xc0_4 fun p1=>faX (degr p1) 1 fun p2=>
  ldX [[I xc0_0,I xc0_1,I xc0_2,I xc0_3,I xc0_4,I xc0_5],[I xc1_0,I xc1_1,I xc1_2],[I xc2_0,I xc2_1,I xc2_2]] gh false 1 (degr p2) fun v3=>unI .i64 v3 fun n4=>
  kR (runL pg q2h ⟨[(4,.ptr false 1 0),(5,.ptr false 2 0)],[[I xc0_0,I xc0_1,I xc0_2,I xc0_3,I xc0_4,I xc0_5],[I xc1_0,I xc1_1,I xc1_2],[I xc2_0,I xc2_1,I n4]],gh⟩) (fun e s=>some (e,s)))) (
  kR (runL pg q2h ⟨[(4,.ptr false 1 0),(5,.ptr false 2 0)],[[I xc0_0,I xc0_1,I xc0_2,I xc0_3,I xc0_4,I xc0_5],[I xc1_0,I xc1_1,I xc1_2],[I xc2_0,I xc2_1,I xc2_2]],gh⟩) (fun e s=>some (e,s))))
theorem q6z_ {v0:PV} {x6 xc0_0:Int} {xc0_1 xc0_2:Int} {xc0_3 xc0_4:Int} {xc0_5 xc1_0:Int} {xc1_1 xc1_2:Int} {xc2_0 xc2_1 xc2_2:Int} (h:q6z pg v0 x6 xc0_0 xc0_1 xc0_2 xc0_3 xc0_4 xc0_5 xc1_0 xc1_1 xc1_2 xc2_0 xc2_1 xc2_2 gh=some (e,s)):runL pg q2i ⟨[(0,v0),(3,.ptr false 0 0),(4,.ptr false 1 0),(5,.ptr false 2 0),(6,I x6)],[[I xc0_0,I xc0_1,I xc0_2,I xc0_3,I xc0_4,I xc0_5],[I xc1_0,I xc1_1,I xc1_2],[I xc2_0,I xc2_1,I xc2_2]],gh⟩=some (e,s):=
 jee q3u (Eq.trans (by kernel_rfl) h)
def q70 (pg:Prg) (v0:PV) (x6 xc0_0:Int) (xc0_1 xc0_2:Int) (xc0_3 xc0_4:Int) (xc0_5 xc1_0:Int) (xc1_1 xc1_2:Int) (xc2_0 xc2_1 xc2_2:Int) (gh:List GObj):DR:=stK 3 v0 (
  br 20 (decide (1<x6)) (isC (degr v0) (
  idX 6 none (degr (degr v0)) xc0_3 fun p1=>faX (degr p1) 1 fun p2=>
  ldX [[I xc0_0,I xc0_1,I xc0_2,I xc0_3,I xc0_4,I xc0_5],[I xc1_0,I xc1_1,I xc1_2],[I xc2_0,I xc2_1,I xc2_2]] gh false 1 (degr p2) fun v3=>unI .i64 v3 fun n4=>stK 3 v0 (stK 3 v0 (
  kR (runL pg q2i ⟨[(0,v0),(3,.ptr false 0 0),(4,.ptr false 1 0),(5,.ptr false 2 0),(6,I x6)],[[I xc0_0,I xc0_1,I xc0_2,I xc0_3,I xc0_4,I xc0_5],[I xc1_0,I xc1_1,I xc1_2],[I xc2_0,I n4,I xc2_2]],gh⟩) (fun e s=>some (e,s)))))) (stK 3 v0 (
  kR (runL pg q2i ⟨[(0,v0),(3,.ptr false 0 0),(4,.ptr false 1 0),(5,.ptr false 2 0),(6,I x6)],[[I xc0_0,I xc0_1,I xc0_2,I xc0_3,I xc0_4,I xc0_5],[I xc1_0,I xc1_1,I xc1_2],[I xc2_0,I xc2_1,I xc2_2]],gh⟩) (fun e s=>some (e,s)))))
theorem q70_ {v0:PV} {x6 xc0_0:Int} {xc0_1 xc0_2:Int} {xc0_3 xc0_4:Int} {xc0_5 xc1_0:Int} {xc1_1 xc1_2:Int} {xc2_0 xc2_1 xc2_2:Int} (h:q70 pg v0 x6 xc0_0 xc0_1 xc0_2 xc0_3 xc0_4 xc0_5 xc1_0 xc1_1 xc1_2 xc2_0 xc2_1 xc2_2 gh=some (e,s)):runL pg q2j ⟨[(0,v0),(3,.ptr false 0 0),(4,.ptr false 1 0),(5,.ptr false 2 0),(6,I x6)],[[I xc0_0,I xc0_1,I xc0_2,I xc0_3,I xc0_4,I xc0_5],[I xc1_0,I xc1_1,I xc1_2],[I xc2_0,I xc2_1,I xc2_2]],gh⟩=some (e,s):=
 jee q3u (Eq.trans (by kernel_rfl) h)
def q71 (pg:Prg) (v0:PV) (x1_0 x1_1:Int) (x1_2 x1_3:Int) (x1_4 x1_5:Int) (gh:List GObj):DR:=stK 2 v0 (
  callR gh true (callL pg 26 [I x1_0] gh) fun r1 gh2=>unI .i64 r1 fun n3=>stK 3 v0 (stK 3 v0 (
  br 11 (decide (0<n3)) (isC (degr v0) (
  idX 6 none (degr (degr v0)) x1_2 fun p4=>faX (degr p4) 1 fun p5=>
  ldX [[I x1_0,I x1_1,I x1_2,I x1_3,I x1_4,I x1_5],[I 0,I 0,I 0],[I 0,I 0,I 0]] gh2 false 1 (degr p5) fun v6=>unI .i64 v6 fun n7=>stK 3 v0 (stK 3 v0 (
  kR (runL pg q2j ⟨[(0,v0),(3,.ptr false 0 0),(4,.ptr false 1 0),(5,.ptr false 2 0),(6,I n3)],[[I x1_0,I x1_1,I x1_2,I x1_3,I x1_4,I x1_5],[I 0,I 0,I 0],[I n7,I 0,I 0]],gh2⟩) (fun e s=>some (e,s)))))) (stK 3 v0 (
  kR (runL pg q2j ⟨[(0,v0),(3,.ptr false 0 0),(4,.ptr false 1 0),(5,.ptr false 2 0),(6,I n3)],[[I x1_0,I x1_1,I x1_2,I x1_3,I x1_4,I x1_5],[I 0,I 0,I 0],[I 0,I 0,I 0]],gh2⟩) (fun e s=>some (e,s)))))))
theorem q71_ {v0:PV} {x1_0 x1_1:Int} {x1_2 x1_3:Int} {x1_4 x1_5:Int} (h:q71 pg v0 x1_0 x1_1 x1_2 x1_3 x1_4 x1_5 gh=some (e,s)):runL pg q99 ⟨[(0,v0),(1,.agg [I x1_0,I x1_1,I x1_2,I x1_3,I x1_4,I x1_5])],[],gh⟩=some (e,s):=
 jee q3u (Eq.trans (by kernel_rfl) h)
end
end Go.Lw
end

/-! What the code of function ref_CheckNode comes to, piece by piece. Written by program (dprint.py). -/
section
set_option maxRecDepth 10000
set_option maxHeartbeats 4000000
namespace Go.Lw
open Go
noncomputable section
variable {pg:Prg} {gh:List GObj} {e:IExit} {s:St}
def q72:Tr:=(tI 61 (tI 32 (tB 16 (tO 8 (tI 4 (tI 1 (uO 0) .nil) (tI 7 (uO 6) .nil)) (tB 12 (.node 11 (.agg [.int .i64,.int .i64,.int .i64,.int .i64,.int .i64,.int .i64]) (uI 9) .nil) (tB 15 (uI 14) .nil))) (tI 24 (tB 20 (tI 19 (uB 17) .nil) (tB 22 (uB 21) .nil)) (tI 28 (tB 26 (uB 25) .nil) (tI 31 (uI 30) .nil)))) (tB 47 (tB 39 (tB 35 (tB 34 (uB 33) .nil) (tI 38 (uB 36) .nil)) (tB 43 (tI 42 (uB 40) .nil) (tI 46 (uB 44) .nil))) (tB 54 (tI 51 (tB 49 (uB 48) .nil) (tB 53 (uB 52) .nil)) (tB 58 (tB 57 (uI 56) .nil) (uB 59))))) (tI 91 (tB 77 (tB 68 (tB 64 (tB 63 (uB 62) .nil) (tI 67 (uB 65) .nil)) (tI 74 (tI 72 (uI 70) .nil) (tI 76 (uO 75) .nil))) (tB 84 (tI 80 (tI 79 (uI 78) .nil) (tI 83 (uI 82) .nil)) (tI 87 (tO 86 (uB 85) .nil) (tI 90 (uI 89) .nil)))) (tI 105 (tI 98 (tB 94 (tB 93 (uB 92) .nil) (tI 96 (uB 95) .nil)) (tB 101 (tB 100 (uI 99) .nil) (tI 103 (uO 102) .nil))) (tI 114 (tB 108 (tB 107 (uB 106) .nil) (tI 112 (uI 110) .nil)) (.node 117 (.agg [.int .i64,.int .i64,.int .i64]) (.node 116 (.agg [.int .i64,.int .i64,.int .i64,.int .i64,.int .i64,.int .i64]) (uO 115) .nil) (uI 118))))))
def q1f (pg:Prg) (v0:PV) (x1:Int) (v6:PV) (x7 xc0_0:Int) (xc0_1 xc0_2:Int) (xc0_3 xc0_4 xc0_5:Int) (gh:List GObj):DR:=stK 1 v0 (stK 1 v6 (
  br 77 (decide (x7<3)) (
  callR gh true (callL pg 26 [I xc0_0] gh) fun r1 gh2=>unI .i64 r1 fun n3=>
  br 85 (decide (x7<n3)) (isC (degr v6) (
  idX 1 none (degr (degr v6)) x7 fun p4=>
  ldX [[I xc0_0,I xc0_1,I xc0_2,I xc0_3,I xc0_4,I xc0_5]] gh2 false 1 (degr p4) fun v5=>unI .i64 v5 fun n6=>
  callR gh2 true (callL pg 50 [I n6,I 0,(I (IntKind.i64.wrap (x1-1)))] gh2) fun r7 gh8=>unB r7 fun b9=>
  br 95 (!b9) (stK 1 v0 (stK 1 v6 (some (.ret,⟨[(4,I 4)],[],gh8⟩)))) (
  callR gh8 true (callL pg 26 [I xc0_0] gh8) fun r10 gh11=>unI .i64 r10 fun n12=>
  br 101 (decide (n12≤x7)) (isC (degr v6) (
  idX 1 none (degr (degr v6)) x7 fun p13=>
  ldX [[I xc0_0,I xc0_1,I xc0_2,I xc0_3,I xc0_4,I xc0_5]] gh11 false 1 (degr p13) fun v14=>unI .i64 v14 fun n15=>stK 1 v0 (stK 1 v6 (
  br 108 (n15 !=0) (some (.ret,⟨[(4,I 4)],[],gh11⟩)) (stK 1 v0 (stK 1 v6 (stK 1 v0 (stK 1 v6 (some (.normal,⟨[(0,v0),(1,I x1),(5,.ptr false 0 0),(6,v6),(7,(I (IntKind.i64.wrap (x7+1))))],[[I xc0_0,I xc0_1,I xc0_2,I xc0_3,I xc0_4,I xc0_5]],gh11⟩)))))))))) (stK 1 v0 (stK 1 v6 (stK 1 v0 (stK 1 v6 (stK 1 v0 (stK 1 v6 (some (.normal,⟨[(0,v0),(1,I x1),(5,.ptr false 0 0),(6,v6),(7,(I (IntKind.i64.wrap (x7+1))))],[[I xc0_0,I xc0_1,I xc0_2,I xc0_3,I xc0_4,I xc0_5]],gh11⟩))))))))))) (
  callR gh2 true (callL pg 26 [I xc0_0] gh2) fun r16 gh17=>unI .i64 r16 fun n18=>
  br 101 (decide (n18≤x7)) (isC (degr v6) (
  idX 1 none (degr (degr v6)) x7 fun p19=>
  ldX [[I xc0_0,I xc0_1,I xc0_2,I xc0_3,I xc0_4,I xc0_5]] gh17 false 1 (degr p19) fun v20=>unI .i64 v20 fun n21=>stK 1 v0 (stK 1 v6 (
  br 108 (n21 !=0) (some (.ret,⟨[(4,I 4)],[],gh17⟩)) (stK 1 v0 (stK 1 v6 (stK 1 v0 (stK 1 v6 (some (.normal,⟨[(0,v0),(1,I x1),(5,.ptr false 0 0),(6,v6),(7,(I (IntKind.i64.wrap (x7+1))))],[[I xc0_0,I xc0_1,I xc0_2,I xc0_3,I xc0_4,I xc0_5]],gh17⟩)))))))))) (stK 1 v0 (stK 1 v6 (stK 1 v0 (stK 1 v6 (stK 1 v0 (stK 1 v6 (some (.normal,⟨[(0,v0),(1,I x1),(5,.ptr false 0 0),(6,v6),(7,(I (IntKind.i64.wrap (x7+1))))],[[I xc0_0,I xc0_1,I xc0_2,I xc0_3,I xc0_4,I xc0_5]],gh17⟩)))))))))) (some ((.exit 1),⟨[(0,v0),(1,I x1),(5,.ptr false 0 0),(6,v6),(7,I x7),(77,(B (decide (x7<3))))],[[I xc0_0,I xc0_1,I xc0_2,I xc0_3,I xc0_4,I xc0_5]],gh⟩))))
theorem q1f_ {v0:PV} {x1:Int} {v6:PV} {x7 xc0_0:Int} {xc0_1 xc0_2:Int} {xc0_3 xc0_4 xc0_5:Int} (h:q1f pg v0 x1 v6 x7 xc0_0 xc0_1 xc0_2 xc0_3 xc0_4 xc0_5 gh=some (e,s)):runL pg q93 ⟨[(0,v0),(1,I x1),(5,.ptr false 0 0),(6,v6),(7,I x7)],[[I xc0_0,I xc0_1,I xc0_2,I xc0_3,I xc0_4,I xc0_5]],gh⟩=some (e,s):=
 jee q72 (Eq.trans (by kernel_rfl) h)
def qax (pg:Prg) (v0:PV) (xc0_0 xc0_1:Int) (xc0_2 xc0_3:Int) (xc0_4 xc0_5:Int) (gh:List GObj):DR:=isC (degr v0) (arK (degr (degr v0)) (
  callR gh true (callL pg 102 [(degr (degr v0)),.agg [I xc0_0,I xc0_1,I xc0_2,I xc0_3,I xc0_4,I xc0_5]] gh) fun r1 gh2=>unA 3 r1 fun c3 c4 c5=>unI .i64 c3 fun n6=>unI .i64 c4 fun n7=>unI .i64 c5 fun n8=>
  callR gh2 true (callL pg 23 [I xc0_0,I xc0_1,I xc0_5,.agg [I n6,I n7,I n8]] gh2) fun r9 gh10=>unI .i64 r9 fun n11=>some (.ret,⟨[(4,I n11)],[],gh10⟩)))
theorem qax_ {v0:PV} {xc0_0 xc0_1:Int} {xc0_2 xc0_3:Int} {xc0_4 xc0_5:Int} (h:qax pg v0 xc0_0 xc0_1 xc0_2 xc0_3 xc0_4 xc0_5 gh=some (e,s)):runL pg qv ⟨[(0,v0),(5,.ptr false 0 0)],[[I xc0_0,I xc0_1,I xc0_2,I xc0_3,I xc0_4,I xc0_5]],gh⟩=some (e,s):=
 jee q72 (Eq.trans (by kernel_rfl) h)
def qg (pg:Prg) (v0:PV) (x1:Int) (gh:List GObj):DR:=stK 0 v0 (isC (degr v0) (
  idX 6 none (degr (degr v0)) x1 fun p1=>
  ldX [] gh true 6 (degr p1) fun v2=>unA 6 v2 fun c3 c4 c5 c6 c7 c8=>unI .i64 c3 fun n9=>unI .i64 c4 fun n10=>unI .i64 c5 fun n11=>unI .i64 c6 fun n12=>unI .i64 c7 fun n13=>unI .i64 c8 fun n14=>stK 1 v0 (
  callR gh true (callL pg 50 [I n9,I 1,I 23] gh) fun r15 gh16=>unB r15 fun b17=>stK 1 v0 (
  br 12 (!b17) (some (.ret,⟨[(4,I 7)],[],gh16⟩)) (
  callR gh16 true (callL pg 50 [I n10,I 1,I 8] gh16) fun r18 gh19=>unB r18 fun b20=>stK 1 v0 (
  br 17 (!b20) (some (.ret,⟨[(4,I 3)],[],gh19⟩)) (
  br 26 (n9==1) (
  callR gh19 true (callL pg 27 [I n10] gh19) fun r21 gh22=>unI .i64 r21 fun n23=>
  callR gh22 true (callL pg 50 [I n14,I 0,(I (IntKind.i64.wrap (n23-1)))] gh22) fun r24 gh25=>unB r24 fun b26=>stK 1 v0 (
  br 22 (!b26) (some (.ret,⟨[(4,I 3)],[],gh25⟩)) (
  br 40 (decide (n9≤3)) (
  br 44 (decide (1<n9)) (
  br 49 (n14 !=0) (stK 1 v0 (some (.ret,⟨[(4,I 1)],[],gh25⟩))) (
  br 54 (n11 !=0) (stK 1 v0 (some (.ret,⟨[(4,I 1)],[],gh25⟩))) (
  br 59 (n12 !=0) (stK 1 v0 (some (.ret,⟨[(4,I 1)],[],gh25⟩))) (stK 1 v0 (
  br 36 (n13 !=0) (some (.ret,⟨[(4,I 1)],[],gh25⟩)) (stK 1 v0 (
  br 65 (decide (n9≤3)) (some (.ret,⟨[(4,I 0)],[],gh25⟩)) (stK 1 v0 (stK 1 v0 (
  kR (runL pg qx ⟨[(0,v0),(1,I x1),(5,.ptr false 0 0),(6,.sl true 1 [I n11,I n12,I n13]),(7,I 0)],[[I n9,I n10,I n11,I n12,I n13,I n14]],gh25⟩) (fun e s=>nx e s (fun e s=>some (e,s)) fun s=>kR (runL pg qv s) (fun e s=>some (e,s))))))))))))) (
  br 54 (n11 !=0) (stK 1 v0 (some (.ret,⟨[(4,I 1)],[],gh25⟩))) (
  br 59 (n12 !=0) (stK 1 v0 (some (.ret,⟨[(4,I 1)],[],gh25⟩))) (stK 1 v0 (
  br 36 (n13 !=0) (some (.ret,⟨[(4,I 1)],[],gh25⟩)) (stK 1 v0 (
  br 65 (decide (n9≤3)) (some (.ret,⟨[(4,I 0)],[],gh25⟩)) (stK 1 v0 (stK 1 v0 (
  kR (runL pg qx ⟨[(0,v0),(1,I x1),(5,.ptr false 0 0),(6,.sl true 1 [I n11,I n12,I n13]),(7,I 0)],[[I n9,I n10,I n11,I n12,I n13,I n14]],gh25⟩) (fun e s=>nx e s (fun e s=>some (e,s)) fun s=>kR (runL pg qv s) (fun e s=>some (e,s))))))))))))) (stK 1 v0 (stK 1 v0 (
  br 65 (decide (n9≤3)) (some (.ret,⟨[(4,I 0)],[],gh25⟩)) (stK 1 v0 (stK 1 v0 (
  kR (runL pg qx ⟨[(0,v0),(1,I x1),(5,.ptr false 0 0),(6,.sl true 1 [I n11,I n12,I n13]),(7,I 0)],[[I n9,I n10,I n11,I n12,I n13,I n14]],gh25⟩) (fun e s=>nx e s (fun e s=>some (e,s)) fun s=>kR (runL pg qv s) (fun e s=>some (e,s)))))))))))) (stK 1 v0 (
  br 40 (decide (n9≤3)) (
  br 44 (decide (1<n9)) (
  br 49 (n14 !=0) (stK 1 v0 (some (.ret,⟨[(4,I 1)],[],gh19⟩))) (
  br 54 (n11 !=0) (stK 1 v0 (some (.ret,⟨[(4,I 1)],[],gh19⟩))) (
  br 59 (n12 !=0) (stK 1 v0 (some (.ret,⟨[(4,I 1)],[],gh19⟩))) (stK 1 v0 (
  br 36 (n13 !=0) (some (.ret,⟨[(4,I 1)],[],gh19⟩)) (stK 1 v0 (
  br 65 (decide (n9≤3)) (some (.ret,⟨[(4,I 0)],[],gh19⟩)) (stK 1 v0 (stK 1 v0 (
  kR (runL pg qx ⟨[(0,v0),(1,I x1),(5,.ptr false 0 0),(6,.sl true 1 [I n11,I n12,I n13]),(7,I 0)],[[I n9,I n10,I n11,I n12,I n13,I n14]],gh19⟩) (fun e s=>nx e s (fun e s=>some (e,s)) fun s=>kR (runL pg qv s) (fun e s=>some (e,s))))))))))))) (
  br 54 (n11 !=0) (stK 1 v0 (some (.ret,⟨[(4,I 1)],[],gh19⟩))) (
  br 59 (n12 !=0) (stK 1 v0 (some (.ret,⟨[(4,I 1)],[],gh19⟩))) (stK 1 v0 (
  br 36 (n13 !=0) (some (.ret,⟨[(4,I 1)],[],gh19⟩)) (stK 1 v0 (
  br 65 (decide (n9≤3)) (some (.ret,⟨[(4,I 0)],[],gh19⟩)) (stK 1 v0 (stK 1 v0 (
  kR (runL pg qx ⟨[(0,v0),(1,I x1),(5,.ptr false 0 0),(6,.sl true 1 [I n11,I n12,I n13]),(7,I 0)],[[I n9,I n10,I n11,I n12,I n13,I n14]],gh19⟩) (fun e s=>nx e s (fun e s=>some (e,s)) fun s=>kR (runL pg qv s) (fun e s=>some (e,s))))))))))))) (stK 1 v0 (stK 1 v0 (
  br 65 (decide (n9≤3)) (some (.ret,⟨[(4,I 0)],[],gh19⟩)) (stK 1 v0 (stK 1 v0 (
  kR (runL pg qx ⟨[(0,v0),(1,I x1),(5,.ptr false 0 0),(6,.sl true 1 [I n11,I n12,I n13]),(7,I 0)],[[I n9,I n10,I n11,I n12,I n13,I n14]],gh19⟩) (fun e s=>nx e s (fun e s=>some (e,s)) fun s=>kR (runL pg qv s) (fun e s=>some (e,s))))))))))))))))))
theorem qg_ {v0:PV} {x1:Int} (h:qg pg v0 x1 gh=some (e,s)):runL pg q94 ⟨[(0,v0),(1,I x1)],[],gh⟩=some (e,s):=
 jee q72 (Eq.trans (by kernel_rfl) h)
end
end Go.Lw
end

/-! What the code of function model_Of comes to, piece by piece. Written by program (dprint.py). -/
section
set_option maxRecDepth 10000
set_option maxHeartbeats 4000000
namespace Go.Lw
open Go
noncomputable section
variable {pg:Prg} {gh:List GObj} {e:IExit} {s:St}
def q3v:Tr:=(.node 15 (.agg [.int .i64,.int .i64,.int .i64,.int .i64,.int .i64,.int .i64]) (tO 9 (tO 4 (tI 1 (.node 0 (.agg [.any,.any,.any,.any,.any]) .nil .nil) .nil) (tI 6 (uO 5) .nil)) (tB 12 (tI 11 (uI 10) .nil) (uI 13))) (tI 21 (tB 19 (tI 18 (uI 17) .nil) (uO 20)) (tI 24 (tO 23 (uO 22) .nil) (uO 25))))
def qay (pg:Prg) (x1:Int) (v5 v9:PV) (x10 x11:Int) (gh:List GObj):DR:=stK 0 v5 (stK 0 v9 (some (.normal,⟨[(1,I x1),(5,v5),(9,v9),(10,I x10),(11,(I (IntKind.i64.wrap (x11+1))))],[],gh⟩)))
theorem qay_ {x1:Int} {v5 v9:PV} {x10 x11:Int} (h:qay pg x1 v5 v9 x10 x11 gh=some (e,s)):runL pg q22 ⟨[(1,I x1),(5,v5),(9,v9),(10,I x10),(11,I x11)],[],gh⟩=some (e,s):=
 jee q3v (Eq.trans (by kernel_rfl) h)
def q3w (pg:Prg) (x1:Int) (v5 v9:PV) (x10 x11:Int) (gh:List GObj):DR:=
  br 12 (decide (x11<x10)) (
  idX 6 none (degr v9) x11 fun p1=>
  ldX [] gh true 6 (degr p1) fun v2=>unA 6 v2 fun c3 c4 c5 c6 c7 c8=>unI .i64 c3 fun n9=>unI .i64 c4 fun n10=>unI .i64 c5 fun n11=>unI .i64 c6 fun n12=>unI .i64 c7 fun n13=>unI .i64 c8 fun n14=>stK 1 v5 (stK 1 v9 (stK 0 v5 (stK 0 v9 (
  br 19 (n9==x1) (
  apX 1 8 v5 (.sl false 1 [I x11]) fun l15=>stK 0 v9 (stK 0 v9 (
  kR (runL pg q22 ⟨[(1,I x1),(5,.sl true 1 l15),(9,v9),(10,I x10),(11,I x11)],[],gh⟩) (fun e s=>po [1,5,9,10,11] 0 e s (fun e s=>some (e,s)))))) (stK 0 v5 (stK 0 v9 (
  kR (runL pg q22 ⟨[(1,I x1),(5,v5),(9,v9),(10,I x10),(11,I x11)],[],gh⟩) (fun e s=>po [1,5,9,10,11] 0 e s (fun e s=>some (e,s))))))))))) (some ((.exit 0),⟨[(1,I x1),(5,v5),(9,v9),(10,I x10),(11,I x11),(12,(B (decide (x11<x10))))],[],gh⟩))
theorem q3w_ {x1:Int} {v5 v9:PV} {x10 x11:Int} (h:q3w pg x1 v5 v9 x10 x11 gh=some (e,s)):runL pg q8b ⟨[(1,I x1),(5,v5),(9,v9),(10,I x10),(11,I x11)],[],gh⟩=some (e,s):=
 jee q3v (Eq.trans (by kernel_rfl) h)
def qaz (pg:Prg) (v5:PV) (gh:List GObj):DR:=isC (degr v5) (stK 0 (degr v5) (some (.ret,⟨[(4,(degr v5))],[],gh⟩)))
theorem qaz_ {v5:PV} (h:qaz pg v5 gh=some (e,s)):runL pg q54 ⟨[(5,v5)],[],gh⟩=some (e,s):=
 jee q3v (Eq.trans (by kernel_rfl) h)
def qb0 (pg:Prg) (v0_0 v0_1:PV) (v0_2 v0_3 v0_4:PV) (x1:Int) (gh:List GObj):DR:=onK (degr1 v0_0) (onK (degr1 v0_1) (onK (degr1 v0_2) (onK (degr1 v0_3) (onK (degr1 v0_4) (isC (degr (degr1 v0_0)) (lenS (degr (degr (degr1 v0_0))) fun n1=>stK 0 (degr (degr1 v0_0)) (
  kR (runL pg q53 ⟨[(1,I x1),(5,.sl true 1 []),(9,(degr (degr1 v0_0))),(10,(I (n1:Int))),(11,I 0)],[],gh⟩) (fun e s=>nx e s (fun e s=>some (e,s)) fun s=>kR (runL pg q54 s) (fun e s=>some (e,s))))))))))
theorem qb0_ {v0_0 v0_1:PV} {v0_2 v0_3 v0_4:PV} {x1:Int} (h:qb0 pg v0_0 v0_1 v0_2 v0_3 v0_4 x1 gh=some (e,s)):runL pg q8c ⟨[(0,.agg [v0_0,v0_1,v0_2,v0_3,v0_4]),(1,I x1)],[],gh⟩=some (e,s):=
 jee q3v (Eq.trans (by kernel_rfl) h)
end
end Go.Lw
end

/-! What the code of function model_Bits comes to, piece by piece. Written by program (dprint.py). -/
section
set_option maxRecDepth 10000
set_option maxHeartbeats 4000000
namespace Go.Lw
open Go
noncomputable section
variable {pg:Prg} {gh:List GObj} {e:IExit} {s:St}
def qe2:Tr:=(tO 6 (tI 3 (tI 2 (.node 0 (.agg [.any,.any,.any,.any,.any]) .nil .nil) .nil) (.node 5 (.agg [.any,.any,.any,.any,.any]) (.node 4 (.agg [.any,.any,.any,.any,.any]) .nil .nil) .nil)) (.node 9 (.agg [.any,.any,.any,.any,.any]) (.node 8 (.agg [.any,.any,.any,.any,.any]) (uI 7) .nil) (tI 11 (uO 10) .nil)))
def qb1 (pg:Prg) (v0_0 v0_1:PV) (v0_2 v0_3 v0_4:PV) (gh:List GObj):DR:=onK (degr1 v0_0) (onK (degr1 v0_1) (onK (degr1 v0_2) (onK (degr1 v0_3) (onK (degr1 v0_4) (onK (degr1 (degr1 (degr1 v0_0))) (onK (degr1 (degr1 (degr1 v0_1))) (onK (degr1 (degr1 (degr1 v0_2))) (onK (degr1 (degr1 (degr1 v0_3))) (onK (degr1 (degr1 (degr1 v0_4))) (
  callR gh true (callL pg 101 [(.agg [(degr1 (degr1 (degr1 v0_0))),(degr1 (degr1 (degr1 v0_1))),(degr1 (degr1 (degr1 v0_2))),(degr1 (degr1 (degr1 v0_3))),(degr1 (degr1 (degr1 v0_4)))]),I 2] gh) fun r1 gh2=>isC r1 (onK (degr1 (degr1 (degr1 v0_0))) (onK (degr1 (degr1 (degr1 v0_1))) (onK (degr1 (degr1 (degr1 v0_2))) (onK (degr1 (degr1 (degr1 v0_3))) (onK (degr1 (degr1 (degr1 v0_4))) (arK (degr r1) (
  callR gh2 true (callL pg 105 [(.agg [(degr1 (degr1 (degr1 v0_0))),(degr1 (degr1 (degr1 v0_1))),(degr1 (degr1 (degr1 v0_2))),(degr1 (degr1 (degr1 v0_3))),(degr1 (degr1 (degr1 v0_4)))]),(degr r1)] gh2) fun r3 gh4=>unI .i64 r3 fun n5=>onK (degr1 (degr1 (degr1 v0_0))) (onK (degr1 (degr1 (degr1 v0_1))) (onK (degr1 (degr1 (degr1 v0_2))) (onK (degr1 (degr1 (degr1 v0_3))) (onK (degr1 (degr1 (degr1 v0_4))) (
  callR gh4 true (callL pg 101 [(.agg [(degr1 (degr1 (degr1 v0_0))),(degr1 (degr1 (degr1 v0_1))),(degr1 (degr1 (degr1 v0_2))),(degr1 (degr1 (degr1 v0_3))),(degr1 (degr1 (degr1 v0_4)))]),I 3] gh4) fun r6 gh7=>isC r6 (onK (degr1 (degr1 (degr1 v0_0))) (onK (degr1 (degr1 (degr1 v0_1))) (onK (degr1 (degr1 (degr1 v0_2))) (onK (degr1 (degr1 (degr1 v0_3))) (onK (degr1 (degr1 (degr1 v0_4))) (arK (degr r6) (
  callR gh7 true (callL pg 105 [(.agg [(degr1 (degr1 (degr1 v0_0))),(degr1 (degr1 (degr1 v0_1))),(degr1 (degr1 (degr1 v0_2))),(degr1 (degr1 (degr1 v0_3))),(degr1 (degr1 (degr1 v0_4)))]),(degr r6)] gh7) fun r8 gh9=>unI .i64 r8 fun n10=>some (.ret,⟨[(2,I n5),(3,I n10)],[],gh9⟩))))))))))))))))))))))))))))))
theorem qb1_ {v0_0 v0_1:PV} {v0_2 v0_3 v0_4:PV} (h:qb1 pg v0_0 v0_1 v0_2 v0_3 v0_4 gh=some (e,s)):runL pg q81 ⟨[(0,.agg [v0_0,v0_1,v0_2,v0_3,v0_4])],[],gh⟩=some (e,s):=
 jee qe2 (Eq.trans (by kernel_rfl) h)
end
end Go.Lw
end

/-! What the code of function model_bits comes to, piece by piece. Written by program (dprint.py). -/
section
set_option maxRecDepth 10000
set_option maxHeartbeats 4000000
namespace Go.Lw
open Go
noncomputable section
variable {pg:Prg} {gh:List GObj} {e:IExit} {s:St}
def q73:Tr:=(tB 11 (tI 7 (tI 4 (tO 1 (.node 0 (.agg [.any,.any,.any,.any,.any]) .nil .nil) .nil) (uI 5)) (tI 9 (uO 8) (uI 10))) (tI 20 (tO 16 (tI 14 (uI 13) .nil) (uI 17)) (tI 22 (uI 21) (uI 23))))
def q74 (pg:Prg) (x5:Int) (v8:PV) (x9 x10:Int) (vc0_0 vc0_1:PV) (vc0_2 vc0_3 vc0_4:PV) (gh:List GObj):DR:=
  br 11 (decide (x10<x9)) (
  idX 1 none (degr v8) x10 fun p1=>
  ldX [[vc0_0,vc0_1,vc0_2,vc0_3,vc0_4]] gh false 1 (degr p1) fun v2=>unI .i64 v2 fun n3=>stK 1 v8 (isC (degr vc0_0) (
  idX 6 none (degr (degr vc0_0)) n3 fun p4=>faX (degr p4) 1 fun p5=>
  ldX [[vc0_0,vc0_1,vc0_2,vc0_3,vc0_4]] gh false 1 (degr p5) fun v6=>unI .i64 v6 fun n7=>stK 1 v8 (stK 1 v8 (stK 1 v8 (some (.normal,⟨[(2,.ptr false 0 0),(5,(I (IntKind.i64.wrap (x5+n7)))),(8,v8),(9,I x9),(10,(I (IntKind.i64.wrap (x10+1))))],[[vc0_0,vc0_1,vc0_2,vc0_3,vc0_4]],gh⟩))))))) (some ((.exit 0),⟨[(2,.ptr false 0 0),(5,I x5),(8,v8),(9,I x9),(10,I x10),(11,(B (decide (x10<x9))))],[[vc0_0,vc0_1,vc0_2,vc0_3,vc0_4]],gh⟩))
theorem q74_ {x5:Int} {v8:PV} {x9 x10:Int} {vc0_0 vc0_1:PV} {vc0_2 vc0_3 vc0_4:PV} (h:q74 pg x5 v8 x9 x10 vc0_0 vc0_1 vc0_2 vc0_3 vc0_4 gh=some (e,s)):runL pg q8g ⟨[(2,.ptr false 0 0),(5,I x5),(8,v8),(9,I x9),(10,I x10)],[[vc0_0,vc0_1,vc0_2,vc0_3,vc0_4]],gh⟩=some (e,s):=
 jee q73 (Eq.trans (by kernel_rfl) h)
def qe3 (pg:Prg) (x5:Int) (gh:List GObj):DR:=some (.ret,⟨[(4,I x5)],[],gh⟩)
theorem qe3_ {x5:Int} (h:qe3 pg x5 gh=some (e,s)):runL pg q59 ⟨[(5,I x5)],[],gh⟩=some (e,s):=
 jee q73 (Eq.trans (by kernel_rfl) h)
def qb2 (pg:Prg) (v0_0 v0_1:PV) (v0_2 v0_3:PV) (v0_4 v1:PV) (gh:List GObj):DR:=onK (degr1 v0_0) (onK (degr1 v0_1) (onK (degr1 v0_2) (onK (degr1 v0_3) (onK (degr1 v0_4) (stK 1 v1 (isC (degr v1) (lenS (degr (degr v1)) fun n1=>stK 1 (degr v1) (
  kR (runL pg q58 ⟨[(2,.ptr false 0 0),(5,I 0),(8,(degr v1)),(9,(I (n1:Int))),(10,I 0)],[[(degr1 v0_0),(degr1 v0_1),(degr1 v0_2),(degr1 v0_3),(degr1 v0_4)]],gh⟩) (fun e s=>nx e s (fun e s=>some (e,s)) fun s=>kR (runL pg q59 s) (fun e s=>some (e,s)))))))))))
theorem qb2_ {v0_0 v0_1:PV} {v0_2 v0_3:PV} {v0_4 v1:PV} (h:qb2 pg v0_0 v0_1 v0_2 v0_3 v0_4 v1 gh=some (e,s)):runL pg q8h ⟨[(0,.agg [v0_0,v0_1,v0_2,v0_3,v0_4]),(1,v1)],[],gh⟩=some (e,s):=
 jee q73 (Eq.trans (by kernel_rfl) h)
end
end Go.Lw
end

/-! What the code of function model_checker_lean comes to, piece by piece. Written by program (dprint.py). -/
section
set_option maxRecDepth 10000
set_option maxHeartbeats 4000000
namespace Go.Lw
open Go
noncomputable section
variable {pg:Prg} {gh:List GObj} {e:IExit} {s:St}
def q2w:Tr:=(tI 28 (tI 18 (tO 11 (tI 6 (tB 4 (uG 0) .nil) (uG 7)) (tB 14 (tI 13 (uI 12) .nil) (.node 16 (.agg [.int .i64,.int .i64,.int .i64,.int .i64,.int .i64,.int .i64]) .nil .nil))) (tB 24 (tI 22 (tB 20 (uB 19) .nil) (uB 23)) (tO 26 (.node 25 (.agg [.int .i64,.int .i64,.int .i64,.int .i64,.int .i64,.int .i64]) .nil .nil) (uI 27)))) (tB 41 (tG 34 (tB 32 (tI 31 (uB 29) .nil) (uB 33)) (tI 38 (uO 37) (uB 40))) (tB 48 (tG 44 (tG 43 (uI 42) .nil) (uO 47)) (tO 50 (uO 49) (uI 53)))))
def q3x (pg:Prg) (g0 o0:Nat) (b4:Bool) (v11:PV) (x12 x13:Int) (v26:PV) (x27 x28:Int) (gh:List GObj):DR:=
  br 29 (decide (x28<x27)) (
  idX 1 none (degr v26) x28 fun p1=>
  ldX [] gh false 1 (degr p1) fun v2=>unI .i64 v2 fun n3=>stK 0 v11 (stK 0 v26 (
  br 33 b4 (stK 0 v11 (stK 0 v26 (stK 0 v11 (stK 0 v26 (stK 0 v11 (stK 0 v26 (some (.normal,⟨[(0,.ptr true g0 o0),(4,B true),(11,v11),(12,I x12),(13,I x13),(26,v26),(27,I x27),(28,(I (IntKind.i64.wrap (x28+1))))],[],gh⟩)))))))) (
  ob (ghCells gh g0) fun cs4=>
  ob (grab false 1 (o0+5) cs4) fun v5=>isC (degr v5) (
  idX 1 none (degr (degr v5)) n3 fun p6=>
  ldX [] gh false 1 (degr p6) fun v7=>unB v7 fun b8=>stK 0 v11 (stK 0 v26 (stK 0 v11 (stK 0 v26 (stK 0 v11 (stK 0 v26 (some (.normal,⟨[(0,.ptr true g0 o0),(4,B b8),(11,v11),(12,I x12),(13,I x13),(26,v26),(27,I x27),(28,(I (IntKind.i64.wrap (x28+1))))],[],gh⟩)))))))))))) (some ((.exit 2),⟨[(0,.ptr true g0 o0),(4,B b4),(11,v11),(12,I x12),(13,I x13),(26,v26),(27,I x27),(28,I x28),(29,(B (decide (x28<x27))))],[],gh⟩))
theorem q3x_ {g0 o0:Nat} {b4:Bool} {v11:PV} {x12 x13:Int} {v26:PV} {x27 x28:Int} (h:q3x pg g0 o0 b4 v11 x12 x13 v26 x27 x28 gh=some (e,s)):runL pg q82 ⟨[(0,.ptr true g0 o0),(4,B b4),(11,v11),(12,I x12),(13,I x13),(26,v26),(27,I x27),(28,I x28)],[],gh⟩=some (e,s):=
 jee q2w (Eq.trans (by kernel_rfl) h)
def qb3 (pg:Prg) (g0 o0:Nat) (b4:Bool) (v11:PV) (x12 x13:Int) (gh:List GObj):DR:=
  ob (ghCells gh g0) fun cs1=>ob (cs1[(o0+5)]?) fun v2=>
  apX 1 1 v2 (.sl false 1 [B b4]) fun l3=>
  ob (ghCells (List.set gh g0 (.cells (spliceAt cs1 (o0+5) [degr1 v2]))) g0) fun cs4=>gb (stOk 1 (o0+5) [.sl true 1 l3] cs4) (stK 0 v11 (some (.normal,⟨[(0,.ptr true g0 o0),(11,v11),(12,I x12),(13,I x13)],[],(List.set (List.set gh g0 (.cells (spliceAt cs1 (o0+5) [degr1 v2]))) g0 (.cells (spliceAt cs4 (o0+5) [.sl true 1 l3])))⟩)))
theorem qb3_ {g0 o0:Nat} {b4:Bool} {v11:PV} {x12 x13:Int} (h:qb3 pg g0 o0 b4 v11 x12 x13 gh=some (e,s)):runL pg q1z ⟨[(0,.ptr true g0 o0),(4,B b4),(11,v11),(12,I x12),(13,I x13)],[],gh⟩=some (e,s):=
 jee q2w (Eq.trans (by kernel_rfl) h)
def qb4 (pg:Prg) (g0 o0:Nat) (v11:PV) (x12 x13:Int) (gh:List GObj):DR:=stK 0 v11 (some (.normal,⟨[(0,.ptr true g0 o0),(11,v11),(12,I x12),(13,(I (IntKind.i64.wrap (x13+1))))],[],gh⟩))
theorem qb4_ {g0 o0:Nat} {v11:PV} {x12 x13:Int} (h:qb4 pg g0 o0 v11 x12 x13 gh=some (e,s)):runL pg q1b ⟨[(0,.ptr true g0 o0),(11,v11),(12,I x12),(13,I x13)],[],gh⟩=some (e,s):=
 jee q2w (Eq.trans (by kernel_rfl) h)
def q3y (pg:Prg) (g0 o0:Nat) (v11:PV) (x12 x13:Int) (gh:List GObj):DR:=
  br 14 (decide (x13<x12)) (
  idX 6 none (degr v11) x13 fun p1=>
  ldX [] gh true 6 (degr p1) fun v2=>unA 6 v2 fun c3 c4 c5 c6 c7 c8=>unI .i64 c3 fun n9=>unI .i64 c4 fun n10=>unI .i64 c5 fun n11=>unI .i64 c6 fun n12=>unI .i64 c7 fun n13=>unI .i64 c8 fun n14=>stK 1 v11 (
  br 20 (n9==2) (stK 1 v11 (
  callR gh true (callL pg 81 [.agg [I n9,I n10,I n11,I n12,I n13,I n14]] gh) fun r15 gh16=>isC r15 (lenS (degr r15) fun n17=>stK 0 v11 (stK 0 r15 (
  kR (runL pg q1y ⟨[(0,.ptr true g0 o0),(4,B true),(11,v11),(12,I x12),(13,I x13),(26,r15),(27,(I (n17:Int))),(28,I 0)],[],gh16⟩) (fun e s=>nx e s (fun e s=>bk 1 e s (fun e s=>nx e s (fun e s=>po [0,11,12,13] 0 e s (fun e s=>some (e,s))) fun s=>kR (runL pg q1b s) (fun e s=>po [0,11,12,13] 0 e s (fun e s=>some (e,s))))) fun s=>kR (runL pg q1z s) (fun e s=>bk 1 e s (fun e s=>nx e s (fun e s=>po [0,11,12,13] 0 e s (fun e s=>some (e,s))) fun s=>kR (runL pg q1b s) (fun e s=>po [0,11,12,13] 0 e s (fun e s=>some (e,s))))))))))) (stK 1 v11 (
  callR gh true (callL pg 81 [.agg [I n9,I n10,I n11,I n12,I n13,I n14]] gh) fun r18 gh19=>isC r18 (lenS (degr r18) fun n20=>stK 0 v11 (stK 0 r18 (
  kR (runL pg q1y ⟨[(0,.ptr true g0 o0),(4,(B (n9==3))),(11,v11),(12,I x12),(13,I x13),(26,r18),(27,(I (n20:Int))),(28,I 0)],[],gh19⟩) (fun e s=>nx e s (fun e s=>bk 1 e s (fun e s=>nx e s (fun e s=>po [0,11,12,13] 0 e s (fun e s=>some (e,s))) fun s=>kR (runL pg q1b s) (fun e s=>po [0,11,12,13] 0 e s (fun e s=>some (e,s))))) fun s=>kR (runL pg q1z s) (fun e s=>bk 1 e s (fun e s=>nx e s (fun e s=>po [0,11,12,13] 0 e s (fun e s=>some (e,s))) fun s=>kR (runL pg q1b s) (fun e s=>po [0,11,12,13] 0 e s (fun e s=>some (e,s))))))))))))) (some ((.exit 0),⟨[(0,.ptr true g0 o0),(11,v11),(12,I x12),(13,I x13),(14,(B (decide (x13<x12))))],[],gh⟩))
theorem q3y_ {g0 o0:Nat} {v11:PV} {x12 x13:Int} (h:q3y pg g0 o0 v11 x12 x13 gh=some (e,s)):runL pg q83 ⟨[(0,.ptr true g0 o0),(11,v11),(12,I x12),(13,I x13)],[],gh⟩=some (e,s):=
 jee q2w (Eq.trans (by kernel_rfl) h)
def qb5 (pg:Prg) (g0 o0:Nat) (gh:List GObj):DR:=
  ob (ghCells gh g0) fun cs1=>
  ob (grab false 1 ((o0+0)+0) cs1) fun v2=>isC (degr v2) (lenS (degr (degr v2)) fun n3=>stK 0 (degr v2) (
  kR (runL pg q4v ⟨[(0,.ptr true g0 o0),(11,(degr v2)),(12,(I (n3:Int))),(13,I 0)],[],gh⟩) (fun e s=>some (e,s))))
theorem qb5_ {g0 o0:Nat} (h:qb5 pg g0 o0 gh=some (e,s)):runL pg q84 ⟨[(0,.ptr true g0 o0)],[],gh⟩=some (e,s):=
 jee q2w (Eq.trans (by kernel_rfl) h)
end
end Go.Lw
end

/-! What the code of function model_checker_is comes to, piece by piece. Written by program (dprint.py). -/
section
set_option maxRecDepth 10000
set_option maxHeartbeats 4000000
namespace Go.Lw
open Go
noncomputable section
variable {pg:Prg} {gh:List GObj} {e:IExit} {s:St}
def qe4:Tr:=(tI 8 (tI 5 (tI 1 (uG 0) (uB 4)) (tB 7 (uB 6) .nil)) (tI 14 (tO 13 (uG 9) .nil) (tB 16 (uB 15) .nil)))
def q75 (pg:Prg) (g0 o0:Nat) (x1:Int) (gh:List GObj):DR:=
  br 7 (decide (0≤x1)) (
  ob (ghCells gh g0) fun cs1=>
  ob (grab false 1 ((o0+0)+0) cs1) fun v2=>isC (degr v2) (lenS (degr (degr v2)) fun n3=>some (.ret,⟨[(4,(B (decide (x1<(n3:Int)))))],[],gh⟩))) (some (.ret,⟨[(4,B false)],[],gh⟩))
theorem q75_ {g0 o0:Nat} {x1:Int} (h:q75 pg g0 o0 x1 gh=some (e,s)):runL pg q8l ⟨[(0,.ptr true g0 o0),(1,I x1)],[],gh⟩=some (e,s):=
 jee qe4 (Eq.trans (by kernel_rfl) h)
end
end Go.Lw
end

/-! What the code of function model_checker_pair comes to, piece by piece. Written by program (dprint.py). -/
section
set_option maxRecDepth 10000
set_option maxHeartbeats 4000000
namespace Go.Lw
open Go
noncomputable section
variable {pg:Prg} {gh:List GObj} {e:IExit} {s:St}
def qe5:Tr:=(tB 31 (tG 14 (tG 8 (tB 2 (.node 1 (.agg [.int .i64,.int .i64]) (uG 0) .nil) (tB 7 (uI 6) .nil)) (tB 12 (tB 11 (uI 10) .nil) (uB 13))) (tB 20 (tB 18 (tB 17 (uI 16) .nil) (uB 19)) (tI 27 (tO 25 (uG 21) .nil) (uI 30)))) (tI 53 (tI 40 (tG 34 (tB 33 (uB 32) .nil) (uO 38)) (tO 48 (tG 44 (uI 43) .nil) (uI 50))) (tG 58 (tB 56 (tB 55 (uB 54) .nil) (uB 57)) (tB 65 (tI 63 (uO 61) .nil) (uB 66)))))
def q19 (pg:Prg) (g0 o0:Nat) (x1_0 x1_1:Int) (b2:Bool) (gh:List GObj):DR:=
  callR gh true (callL pg 118 [.ptr true g0 o0,I x1_0] gh) fun r1 gh2=>unB r1 fun b3=>
  br 13 (!b3) (some (.ret,⟨[(6,I 5)],[],gh2⟩)) (
  callR gh2 true (callL pg 118 [.ptr true g0 o0,I x1_1] gh2) fun r4 gh5=>unB r4 fun b6=>
  br 20 (!b6) (some (.ret,⟨[(6,I 5)],[],gh5⟩)) (
  ob (ghCells gh5 g0) fun cs7=>
  ob (grab false 1 ((o0+0)+0) cs7) fun v8=>isC (degr v8) (
  idX 6 none (degr (degr v8)) x1_0 fun p9=>faX (degr p9) 0 fun p10=>
  ldX [[I x1_0,I x1_1]] gh5 false 1 (degr p10) fun v11=>unI .i64 v11 fun n12=>
  br 7 (n12 !=3) (some (.ret,⟨[(6,I 5)],[],gh5⟩)) (
  ob (ghCells gh5 g0) fun cs13=>
  ob (grab false 1 ((o0+0)+0) cs13) fun v14=>isC (degr v14) (
  idX 6 none (degr (degr v14)) x1_0 fun p15=>faX (degr p15) 1 fun p16=>
  ldX [[I x1_0,I x1_1]] gh5 false 1 (degr p16) fun v17=>unI .i64 v17 fun n18=>
  ob (ghCells gh5 g0) fun cs19=>
  ob (grab false 1 ((o0+0)+0) cs19) fun v20=>isC (degr v20) (
  idX 6 none (degr (degr v20)) x1_1 fun p21=>faX (degr p21) 1 fun p22=>
  ldX [[I x1_0,I x1_1]] gh5 false 1 (degr p22) fun v23=>unI .i64 v23 fun n24=>
  br 33 (n18 !=n24) (some (.ret,⟨[(6,I 1)],[],gh5⟩)) (
  br 57 b2 (
  ob (ghCells gh5 g0) fun cs25=>
  ob (grab false 1 (o0+5) cs25) fun v26=>isC (degr v26) (
  idX 1 none (degr (degr v26)) x1_1 fun p27=>
  ldX [[I x1_0,I x1_1]] gh5 false 1 (degr p27) fun v28=>unB v28 fun b29=>
  br 55 b29 (some (.ret,⟨[(6,I 4)],[],gh5⟩)) (some (.ret,⟨[(6,I 0)],[],gh5⟩)))) (some (.ret,⟨[(6,I 0)],[],gh5⟩)))))))))
theorem q19_ {g0 o0:Nat} {x1_0 x1_1:Int} {b2:Bool} (h:q19 pg g0 o0 x1_0 x1_1 b2 gh=some (e,s)):runL pg q8i ⟨[(0,.ptr true g0 o0),(1,.agg [I x1_0,I x1_1]),(2,B b2)],[],gh⟩=some (e,s):=
 jee qe5 (Eq.trans (by kernel_rfl) h)
end
end Go.Lw
end

/-! What the code of function model_checker_pairs comes to, piece by piece. Written by program (dprint.py). -/
section
set_option maxRecDepth 10000
set_option maxHeartbeats 4000000
namespace Go.Lw
open Go
noncomputable section
variable {pg:Prg} {gh:List GObj} {e:IExit} {s:St}
def qo:Tr:=(tB 42 (tB 26 (tG 13 (tO 4 (tI 2 (uG 0) (uI 3)) (tO 9 (uI 7) (uO 10))) (tO 23 (tG 18 (uO 17) (uO 22)) (tI 25 (uI 24) .nil))) (.node 35 (.agg [.int .i64,.int .i64]) (tI 31 (tO 29 (uI 27) (uO 30)) (tB 33 (uI 32) .nil)) (tB 39 (.node 37 (.agg [.int .i64,.int .i64]) (uG 36) (uI 38)) (tI 41 (uI 40) .nil)))) (tO 63 (tO 55 (tG 46 (tI 44 (uI 43) (uI 45)) (tG 51 (uO 50) .nil)) (tB 59 (tI 57 (uO 56) (uI 58)) (tO 62 (uO 61) .nil))) (tI 72 (.node 68 (.agg [.int .i64,.int .i64]) (tI 65 (uI 64) (uB 66)) (tI 71 (uO 69) .nil)) (tI 76 (tI 74 (uO 73) (uO 75)) (tI 78 (uB 77) .nil)))))
def q3z (pg:Prg) (g0 o0:Nat) (x3:Int) (v23:PV) (x24 x25:Int) (v30:PV) (x31 x32:Int) (gh:List GObj):DR:=
  br 33 (decide (x32<x31)) (
  idX 2 none (degr v30) x32 fun p1=>
  ldX [] gh true 2 (degr p1) fun v2=>unA 2 v2 fun c3 c4=>unI .i64 c3 fun n5=>unI .i64 c4 fun n6=>stK 1 v23 (stK 1 v30 (
  callR gh true (callL pg 106 [.ptr true g0 o0,.agg [I n5,I n6],(B (x3==0))] gh) fun r7 gh8=>unI .i64 r7 fun n9=>stK 0 v23 (stK 0 v30 (stK 0 v23 (stK 0 v30 (
  br 42 (n9 !=0) (some (.ret,⟨[(2,I n9)],[],gh8⟩)) (stK 0 v23 (stK 0 v30 (stK 0 v23 (stK 0 v30 (some (.normal,⟨[(0,.ptr true g0 o0),(3,I x3),(23,v23),(24,I x24),(25,I x25),(30,v30),(31,I x31),(32,(I (IntKind.i64.wrap (x32+1))))],[],gh8⟩))))))))))))) (some ((.exit 2),⟨[(0,.ptr true g0 o0),(3,I x3),(23,v23),(24,I x24),(25,I x25),(30,v30),(31,I x31),(32,I x32),(33,(B (decide (x32<x31))))],[],gh⟩))
theorem q3z_ {g0 o0:Nat} {x3:Int} {v23:PV} {x24 x25:Int} {v30:PV} {x31 x32:Int} (h:q3z pg g0 o0 x3 v23 x24 x25 v30 x31 x32 gh=some (e,s)):runL pg q85 ⟨[(0,.ptr true g0 o0),(3,I x3),(23,v23),(24,I x24),(25,I x25),(30,v30),(31,I x31),(32,I x32)],[],gh⟩=some (e,s):=
 jee qo (Eq.trans (by kernel_rfl) h)
def qb6 (pg:Prg) (g0 o0:Nat) (v23:PV) (x24 x25:Int) (gh:List GObj):DR:=stK 0 v23 (some (.normal,⟨[(0,.ptr true g0 o0),(23,v23),(24,I x24),(25,(I (IntKind.i64.wrap (x25+1))))],[],gh⟩))
theorem qb6_ {g0 o0:Nat} {v23:PV} {x24 x25:Int} (h:qb6 pg g0 o0 v23 x24 x25 gh=some (e,s)):runL pg q31 ⟨[(0,.ptr true g0 o0),(23,v23),(24,I x24),(25,I x25)],[],gh⟩=some (e,s):=
 jee qo (Eq.trans (by kernel_rfl) h)
def q1s (pg:Prg) (g0 o0:Nat) (v23:PV) (x24 x25:Int) (gh:List GObj):DR:=
  br 26 (decide (x25<x24)) (
  idX 1 none (degr v23) x25 fun p1=>
  ldX [] gh false 1 (degr p1) fun v2=>isC v2 (stK 0 v2 (stK 0 v23 (isC (degr v2) (lenS (degr (degr v2)) fun n3=>stK 0 v23 (stK 0 (degr v2) (
  kR (runL pg q4x ⟨[(0,.ptr true g0 o0),(3,I x25),(23,v23),(24,I x24),(25,I x25),(30,(degr v2)),(31,(I (n3:Int))),(32,I 0)],[],gh⟩) (fun e s=>bk 1 e s (fun e s=>nx e s (fun e s=>po [0,23,24,25] 0 e s (fun e s=>some (e,s))) fun s=>kR (runL pg q31 s) (fun e s=>po [0,23,24,25] 0 e s (fun e s=>some (e,s)))))))))))) (some ((.exit 0),⟨[(0,.ptr true g0 o0),(23,v23),(24,I x24),(25,I x25),(26,(B (decide (x25<x24))))],[],gh⟩))
theorem q1s_ {g0 o0:Nat} {v23:PV} {x24 x25:Int} (h:q1s pg g0 o0 v23 x24 x25 gh=some (e,s)):runL pg q86 ⟨[(0,.ptr true g0 o0),(23,v23),(24,I x24),(25,I x25)],[],gh⟩=some (e,s):=
 jee qo (Eq.trans (by kernel_rfl) h)
def q76 (pg:Prg) (v9 v10 v56:PV) (x57 x58:Int) (v63:PV) (x64 x65:Int) (gh:List GObj):DR:=
  br 66 (decide (x65<x64)) (
  idX 2 none (degr v63) x65 fun p1=>
  ldX [] gh true 2 (degr p1) fun v2=>unA 2 v2 fun c3 c4=>unI .i64 c3 fun n5=>unI .i64 c4 fun n6=>stK 1 v9 (stK 1 v10 (stK 1 v56 (stK 1 v63 (isC (degr v10) (
  muX gh 0 (degr (degr v10)) (I n5) (B true) fun gh7=>stK 0 v9 (stK 0 v10 (stK 0 v56 (stK 0 v63 (stK 0 v9 (stK 0 v10 (stK 0 v56 (stK 0 v63 (stK 0 v9 (stK 0 v10 (stK 0 v56 (stK 0 v63 (some (.normal,⟨[(9,v9),(10,v10),(56,v56),(57,I x57),(58,I x58),(63,v63),(64,I x64),(65,(I (IntKind.i64.wrap (x65+1))))],[],gh7⟩))))))))))))))))))) (some ((.exit 6),⟨[(9,v9),(10,v10),(56,v56),(57,I x57),(58,I x58),(63,v63),(64,I x64),(65,I x65),(66,(B (decide (x65<x64))))],[],gh⟩))
theorem q76_ {v9 v10 v56:PV} {x57 x58:Int} {v63:PV} {x64 x65:Int} (h:q76 pg v9 v10 v56 x57 x58 v63 x64 x65 gh=some (e,s)):runL pg q87 ⟨[(9,v9),(10,v10),(56,v56),(57,I x57),(58,I x58),(63,v63),(64,I x64),(65,I x65)],[],gh⟩=some (e,s):=
 jee qo (Eq.trans (by kernel_rfl) h)
def qb7 (pg:Prg) (v9 v10 v56:PV) (x57 x58:Int) (gh:List GObj):DR:=isC (degr v10) (
  lenM gh (degr (degr v10)) fun n1=>isC (degr v9) (lenS (degr (degr v9)) fun n2=>stK 0 v56 (
  br 77 (decide ((n1:Int)<(n2:Int))) (some (.ret,⟨[(2,I 6)],[],gh⟩)) (some (.normal,⟨[(56,v56),(57,I x57),(58,I x58),(77,(B (decide ((n1:Int)<(n2:Int)))))],[],gh⟩)))))
theorem qb7_ {v9 v10 v56:PV} {x57 x58:Int} (h:qb7 pg v9 v10 v56 x57 x58 gh=some (e,s)):runL pg q50 ⟨[(9,v9),(10,v10),(56,v56),(57,I x57),(58,I x58)],[],gh⟩=some (e,s):=
 jee qo (Eq.trans (by kernel_rfl) h)
def qb8 (pg:Prg) (v56:PV) (x57 x58:Int) (b77:Bool) (gh:List GObj):DR:=stK 0 v56 (some (.normal,⟨[(56,v56),(57,I x57),(58,(I (IntKind.i64.wrap (x58+1))))],[],gh⟩))
theorem qb8_ {v56:PV} {x57 x58:Int} {b77:Bool} (h:qb8 pg v56 x57 x58 b77 gh=some (e,s)):runL pg q32 ⟨[(56,v56),(57,I x57),(58,I x58),(77,B b77)],[],gh⟩=some (e,s):=
 jee qo (Eq.trans (by kernel_rfl) h)
def q40 (pg:Prg) (v56:PV) (x57 x58:Int) (gh:List GObj):DR:=
  br 59 (decide (x58<x57)) (
  idX 1 none (degr v56) x58 fun p1=>
  ldX [] gh false 1 (degr p1) fun v2=>isC v2 (stK 0 v2 (stK 0 v56 (stK 0 v2 (stK 0 v56 (isC (degr v2) (lenS (degr (degr v2)) fun n3=>stK 0 v2 (stK 0 v56 (stK 0 (degr v2) (
  kR (runL pg q4z ⟨[(9,v2),(10,(.mp (List.length gh))),(56,v56),(57,I x57),(58,I x58),(63,(degr v2)),(64,(I (n3:Int))),(65,I 0)],[],(gh++[.map []])⟩) (fun e s=>nx e s (fun e s=>bk 5 e s (fun e s=>nx e s (fun e s=>po [56,57,58] 0 e s (fun e s=>some (e,s))) fun s=>kR (runL pg q32 s) (fun e s=>po [56,57,58] 0 e s (fun e s=>some (e,s))))) fun s=>kR (runL pg q50 s) (fun e s=>bk 5 e s (fun e s=>nx e s (fun e s=>po [56,57,58] 0 e s (fun e s=>some (e,s))) fun s=>kR (runL pg q32 s) (fun e s=>po [56,57,58] 0 e s (fun e s=>some (e,s)))))))))))))))) (some ((.exit 4),⟨[(56,v56),(57,I x57),(58,I x58),(59,(B (decide (x58<x57))))],[],gh⟩))
theorem q40_ {v56:PV} {x57 x58:Int} (h:q40 pg v56 x57 x58 gh=some (e,s)):runL pg q51 ⟨[(56,v56),(57,I x57),(58,I x58)],[],gh⟩=some (e,s):=
 jee qo (Eq.trans (by kernel_rfl) h)
def qe6 (pg:Prg) (gh:List GObj):DR:=some (.ret,⟨[(2,I 0)],[],gh⟩)
theorem qe6_ (h:qe6 pg gh=some (e,s)):runL pg q33 ⟨[],[],gh⟩=some (e,s):=
 jee qo (Eq.trans (by kernel_rfl) h)
def q77 (pg:Prg) (g0 o0:Nat) (gh:List GObj):DR:=
  ob (ghCells gh g0) fun cs1=>
  ob (grab false 1 ((o0+0)+1) cs1) fun v2=>isC (degr v2) (
  ob (ghCells gh g0) fun cs3=>
  ob (grab false 1 ((o0+0)+2) cs3) fun v4=>isC (degr v4) (arK (degr (degr v2)) (lnK 1 (degr (degr v2)) (arK (degr (degr v4)) (lnK 1 (degr (degr v4)) (lenS (.sl false 1 [(degr (degr v2)),(degr (degr v4))]) fun n5=>
  kR (runL pg q52 ⟨[(56,(.sl true 1 [(degr (degr v2)),(degr (degr v4))])),(57,(I (n5:Int))),(58,I 0)],[],gh⟩) (fun e s=>nx e s (fun e s=>some (e,s)) fun s=>kR (runL pg q33 s) (fun e s=>some (e,s)))))))))
theorem q77_ {g0 o0:Nat} (h:q77 pg g0 o0 gh=some (e,s)):runL pg q34 ⟨[(0,.ptr true g0 o0)],[],gh⟩=some (e,s):=
 jee qo (Eq.trans (by kernel_rfl) h)
def q41 (pg:Prg) (g0 o0:Nat) (gh:List GObj):DR:=
  ob (ghCells gh g0) fun cs1=>
  ob (grab false 1 ((o0+0)+1) cs1) fun v2=>isC (degr v2) (
  ob (ghCells gh g0) fun cs3=>
  ob (grab false 1 ((o0+0)+2) cs3) fun v4=>isC (degr v4) (arK (degr (degr v2)) (lnK 1 (degr (degr v2)) (arK (degr (degr v4)) (lnK 1 (degr (degr v4)) (lenS (.sl false 1 [(degr (degr v2)),(degr (degr v4))]) fun n5=>
  kR (runL pg q4y ⟨[(0,.ptr true g0 o0),(23,(.sl true 1 [(degr (degr v2)),(degr (degr v4))])),(24,(I (n5:Int))),(25,I 0)],[],gh⟩) (fun e s=>nx e s (fun e s=>some (e,s)) fun s=>kR (runL pg q34 s) (fun e s=>some (e,s)))))))))
theorem q41_ {g0 o0:Nat} (h:q41 pg g0 o0 gh=some (e,s)):runL pg q88 ⟨[(0,.ptr true g0 o0)],[],gh⟩=some (e,s):=
 jee qo (Eq.trans (by kernel_rfl) h)
end
end Go.Lw
end

/-! What the code of function model_checker_marks comes to, piece by piece. Written by program (dprint.py). -/
section
set_option maxRecDepth 10000
set_option maxHeartbeats 4000000
namespace Go.Lw
open Go
noncomputable section
variable {pg:Prg} {gh:List GObj} {e:IExit} {s:St}
def qe7:Tr:=(tG 17 (tI 9 (tO 3 (tG 1 (uG 0) (uI 2)) (tO 8 (uG 4) .nil)) (tO 14 (.node 13 (.agg [.any,.any,.any,.any,.any]) (uG 10) .nil) (tB 16 (uI 15) .nil))) (tO 29 (tO 26 (tG 22 (uO 21) .nil) (tO 28 (uO 27) .nil)) (tO 32 (tB 31 (uO 30) .nil) (tB 34 (uO 33) .nil))))
def q2x (pg:Prg) (g0 o0:Nat) (gh:List GObj):DR:=
  ob (ghCells (gh++[.cells [.ptr true g0 o0]]) (List.length gh)) fun cs1=>
  ob (grab false 1 0 cs1) fun v2=>unG (degr v2) fun g3 o4=>
  ob (ghCells (gh++[.cells [.ptr true g0 o0]]) g3) fun cs5=>
  ob (grab false 1 ((o4+0)+2) cs5) fun v6=>isC (degr v6) (lenS (degr (degr v6)) fun n7=>
  ob (ghCells (gh++[.cells [.ptr true g0 o0]]) (List.length gh)) fun cs8=>
  ob (grab false 1 0 cs8) fun v9=>unG (degr v9) fun g10 o11=>
  ob (ghCells (gh++[.cells [.ptr true g0 o0]]) g10) fun cs12=>
  ob (grab true 5 (o11+0) cs12) fun v13=>unA 5 (degr v13) fun c14 c15 c16 c17 c18=>onK (degr1 c14) (onK (degr1 c15) (onK (degr1 c16) (onK (degr1 c17) (onK (degr1 c18) (
  callR (gh++[.cells [.ptr true g0 o0]]) true (callL pg 101 [(.agg [(degr1 c14),(degr1 c15),(degr1 c16),(degr1 c17),(degr1 c18)]),I 3] (gh++[.cells [.ptr true g0 o0]])) fun r19 gh20=>isC r19 (lenS (degr r19) fun n21=>
  br 16 (decide ((n7:Int)<(n21:Int))) (some (.ret,⟨[(2,I 5)],[],gh20⟩)) (
  ob (ghCells gh20 (List.length gh)) fun cs22=>
  ob (grab false 1 0 cs22) fun v23=>unG (degr v23) fun g24 o25=>
  ob (ghCells gh20 g24) fun cs26=>
  ob (grab false 1 ((o25+0)+3) cs26) fun v27=>isC (degr v27) (
  ob (ghCells gh20 (List.length gh)) fun cs28=>
  ob (grab false 1 0 cs28) fun v29=>unG (degr v29) fun g30 o31=>
  ob (ghCells gh20 g30) fun cs32=>
  ob (grab false 1 ((o31+0)+4) cs32) fun v33=>isC (degr v33) (arK (degr (degr v27)) (lnK 1 (degr (degr v27)) (arK (degr (degr v33)) (lnK 1 (degr (degr v33)) (
  callR gh20 true (callL pg 107 [(.sl false 1 [(degr (degr v27)),(degr (degr v33))])] gh20) fun r34 gh35=>isC r34 (stK 0 r34 (isC (degr r34) (arK (degr (degr r34)) (
  callR gh35 true (callL pg 86 [(degr (degr r34)),(.fn 108 [(.ptr true (List.length gh) 0)])] gh35) fun r36 gh37=>unB r36 fun b38=>stK 0 r34 (
  br 31 b38 (some (.ret,⟨[(2,I 5)],[],gh37⟩)) (isC (degr r34) (arK (degr (degr r34)) (
  callR gh37 true (callL pg 86 [(degr (degr r34)),(.fn 109 [(.ptr true (List.length gh) 0)])] gh37) fun r39 gh40=>unB r39 fun b41=>
  br 34 b41 (some (.ret,⟨[(2,I 1)],[],gh40⟩)) (some (.ret,⟨[(2,I 0)],[],gh40⟩))))))))))))))))))))))))
theorem q2x_ {g0 o0:Nat} (h:q2x pg g0 o0 gh=some (e,s)):runL pg q89 ⟨[(0,.ptr true g0 o0)],[],gh⟩=some (e,s):=
 jee qe7 (Eq.trans (by kernel_rfl) h)
end
end Go.Lw
end

/-! What the code of function model_checker_marks_1 comes to, piece by piece. Written by program (dprint.py). -/
section
set_option maxRecDepth 10000
set_option maxHeartbeats 4000000
namespace Go.Lw
open Go
noncomputable section
variable {pg:Prg} {gh:List GObj} {e:IExit} {s:St}
def qe8:Tr:=(tG 4 (tG 1 (uI 0) (uB 3)) (tB 6 (uI 5) (uB 7)))
def qb9 (pg:Prg) (x0:Int) (g1 o1:Nat) (gh:List GObj):DR:=
  ob (ghCells gh g1) fun cs1=>
  ob (grab false 1 o1 cs1) fun v2=>unG (degr v2) fun g3 o4=>
  callR gh true (callL pg 118 [.ptr true g3 o4,I x0] gh) fun r5 gh6=>unB r5 fun b7=>some (.ret,⟨[(3,(B (!b7)))],[],gh6⟩)
theorem qb9_ {x0:Int} {g1 o1:Nat} (h:qb9 pg x0 g1 o1 gh=some (e,s)):runL pg q8j ⟨[(0,I x0),(1,.ptr true g1 o1)],[],gh⟩=some (e,s):=
 jee qe8 (Eq.trans (by kernel_rfl) h)
end
end Go.Lw
end

/-! What the code of function model_checker_marks_2 comes to, piece by piece. Written by program (dprint.py). -/
section
set_option maxRecDepth 10000
set_option maxHeartbeats 4000000
namespace Go.Lw
open Go
noncomputable section
variable {pg:Prg} {gh:List GObj} {e:IExit} {s:St}
def qe9:Tr:=(tO 8 (tB 3 (tG 1 (uI 0) .nil) (uG 4)) (tI 12 (uI 9) (uB 13)))
def qba (pg:Prg) (x0:Int) (g1 o1:Nat) (gh:List GObj):DR:=
  ob (ghCells gh g1) fun cs1=>
  ob (grab false 1 o1 cs1) fun v2=>unG (degr v2) fun g3 o4=>
  ob (ghCells gh g3) fun cs5=>
  ob (grab false 1 ((o4+0)+0) cs5) fun v6=>isC (degr v6) (
  idX 6 none (degr (degr v6)) x0 fun p7=>faX (degr p7) 1 fun p8=>
  ldX [] gh false 1 (degr p8) fun v9=>unI .i64 v9 fun n10=>some (.ret,⟨[(3,(B (n10 !=1)))],[],gh⟩))
theorem qba_ {x0:Int} {g1 o1:Nat} (h:qba pg x0 g1 o1 gh=some (e,s)):runL pg q8k ⟨[(0,I x0),(1,.ptr true g1 o1)],[],gh⟩=some (e,s):=
 jee qe9 (Eq.trans (by kernel_rfl) h)
end
end Go.Lw
end

/-! What the code of function model_Check comes to, piece by piece. Written by program (dprint.py). -/
section
set_option maxRecDepth 10000
set_option maxHeartbeats 4000000
namespace Go.Lw
open Go
noncomputable section
variable {pg:Prg} {gh:List GObj} {e:IExit} {s:St}
def q78:Tr:=(tI 33 (tI 16 (tG 7 (tI 4 (tI 2 (.node 0 (.agg [.any,.any,.any,.any,.any]) .nil .nil) (uI 3)) (tI 6 (uI 5) .nil)) (tB 12 (tO 10 (uI 8) (uI 11)) (tO 15 (uB 13) .nil))) (tB 24 (tO 21 (tB 18 (uB 17) (uB 19)) (tB 23 (uI 22) .nil)) (tB 29 (tI 27 (uO 26) (uI 28)) (tO 32 (uI 30) .nil)))) (tI 47 (.node 40 (.agg [.any,.any,.any,.any,.any]) (tI 37 (tI 35 (uI 34) (uB 36)) (.node 39 (.tup 2) (uI 38) .nil)) (tI 44 (tI 42 (.node 41 (.tup 2) .nil .nil) (uI 43)) (tB 46 (uB 45) .nil))) (tG 55 (.node 51 (.agg [.any,.any,.any,.any,.any,.any]) (tB 49 (uB 48) (.node 50 (.agg [.any,.any,.any,.any,.any]) .nil .nil)) (tG 53 (uG 52) .nil)) (tI 59 (tI 57 (uI 56) (uB 58)) (tI 61 (uG 60) .nil)))))
def q42 (pg:Prg) (x27 x28:Int) (vc0_0 vc0_1:PV) (vc0_2 vc0_3 vc0_4:PV) (gh:List GObj):DR:=
  br 29 (decide (x28<x27)) (isC (degr vc0_0) (arK (degr (degr vc0_0)) (
  callR gh true (callL pg 76 [(degr (degr vc0_0)),I x28] gh) fun r1 gh2=>unI .i64 r1 fun n3=>
  br 36 (n3 !=0) (some (.ret,⟨[(2,I n3)],[],gh2⟩)) (some (.normal,⟨[(1,.ptr false 0 0),(27,I x27),(28,(I (IntKind.i64.wrap (x28+1))))],[[vc0_0,vc0_1,vc0_2,vc0_3,vc0_4]],gh2⟩))))) (some ((.exit 0),⟨[(1,.ptr false 0 0),(27,I x27),(28,I x28),(29,(B (decide (x28<x27))))],[[vc0_0,vc0_1,vc0_2,vc0_3,vc0_4]],gh⟩))
theorem q42_ {x27 x28:Int} {vc0_0 vc0_1:PV} {vc0_2 vc0_3 vc0_4:PV} (h:q42 pg x27 x28 vc0_0 vc0_1 vc0_2 vc0_3 vc0_4 gh=some (e,s)):runL pg q7x ⟨[(1,.ptr false 0 0),(27,I x27),(28,I x28)],[[vc0_0,vc0_1,vc0_2,vc0_3,vc0_4]],gh⟩=some (e,s):=
 jee q78 (Eq.trans (by kernel_rfl) h)
def q2y (pg:Prg) (vc0_0 vc0_1:PV) (vc0_2 vc0_3 vc0_4:PV) (gh:List GObj):DR:=onK (degr1 (degr1 vc0_0)) (onK (degr1 (degr1 vc0_1)) (onK (degr1 (degr1 vc0_2)) (onK (degr1 (degr1 vc0_3)) (onK (degr1 (degr1 vc0_4)) (
  callR gh true (callL pg 77 [(.agg [(degr1 (degr1 vc0_0)),(degr1 (degr1 vc0_1)),(degr1 (degr1 vc0_2)),(degr1 (degr1 vc0_3)),(degr1 (degr1 vc0_4))])] gh) fun r1 gh2=>unT 2 r1 fun r3 r4=>unI .i64 (degr1 (degr1 r3)) fun n5=>unI .i64 (degr1 (degr1 r4)) fun n6=>
  br 46 (decide (6<n5)) (some (.ret,⟨[(2,I 2)],[],gh2⟩)) (
  br 49 (decide (10<n6)) (some (.ret,⟨[(2,I 2)],[],gh2⟩)) (onK (degr1 vc0_0) (onK (degr1 vc0_1) (onK (degr1 vc0_2) (onK (degr1 vc0_3) (onK (degr1 vc0_4) (onK (degr1 vc0_0) (onK (degr1 vc0_1) (onK (degr1 vc0_2) (onK (degr1 vc0_3) (onK (degr1 vc0_4) (
  callR (gh2++[.cells [(degr1 vc0_0),(degr1 vc0_1),(degr1 vc0_2),(degr1 vc0_3),(degr1 vc0_4),.sl true 1 []]]) false (callL pg 78 [(.ptr true (List.length gh2) 0)] (gh2++[.cells [(degr1 vc0_0),(degr1 vc0_1),(degr1 vc0_2),(degr1 vc0_3),(degr1 vc0_4),.sl true 1 []]])) fun r7 gh8=>
  callR gh8 true (callL pg 79 [(.ptr true (List.length gh2) 0)] gh8) fun r9 gh10=>unI .i64 r9 fun n11=>
  br 58 (n11 !=0) (some (.ret,⟨[(2,I n11)],[],gh10⟩)) (
  callR gh10 true (callL pg 80 [(.ptr true (List.length gh2) 0)] gh10) fun r12 gh13=>unI .i64 r12 fun n14=>some (.ret,⟨[(2,I n14)],[],gh13⟩)))))))))))))))))))
theorem q2y_ {vc0_0 vc0_1:PV} {vc0_2 vc0_3 vc0_4:PV} (h:q2y pg vc0_0 vc0_1 vc0_2 vc0_3 vc0_4 gh=some (e,s)):runL pg q1k ⟨[(1,.ptr false 0 0)],[[vc0_0,vc0_1,vc0_2,vc0_3,vc0_4]],gh⟩=some (e,s):=
 jee q78 (Eq.trans (by kernel_rfl) h)
def q1a (pg:Prg) (v0_0 v0_1:PV) (v0_2 v0_3 v0_4:PV) (gh:List GObj):DR:=onK (degr1 v0_0) (onK (degr1 v0_1) (onK (degr1 v0_2) (onK (degr1 v0_3) (onK (degr1 v0_4) (isC (degr (degr1 v0_0)) (lenS (degr (degr (degr1 v0_0))) fun n1=>
  br 13 (decide (80<(n1:Int))) (some (.ret,⟨[(2,I 2)],[],gh⟩)) (isC (degr (degr1 v0_3)) (lenS (degr (degr (degr1 v0_3))) fun n2=>
  br 19 (decide (8<(n2:Int))) (some (.ret,⟨[(2,I 2)],[],gh⟩)) (isC (degr (degr1 v0_4)) (lenS (degr (degr (degr1 v0_4))) fun n3=>
  br 24 (decide (8<(n3:Int))) (some (.ret,⟨[(2,I 2)],[],gh⟩)) (isC (degr (degr1 v0_0)) (lenS (degr (degr (degr1 v0_0))) fun n4=>
  kR (runL pg q4q ⟨[(1,.ptr false 0 0),(27,(I (n4:Int))),(28,I 0)],[[(degr1 v0_0),(degr1 v0_1),(degr1 v0_2),(degr1 v0_3),(degr1 v0_4)]],gh⟩) (fun e s=>nx e s (fun e s=>some (e,s)) fun s=>kR (runL pg q1k s) (fun e s=>some (e,s)))))))))))))))
theorem q1a_ {v0_0 v0_1:PV} {v0_2 v0_3 v0_4:PV} (h:q1a pg v0_0 v0_1 v0_2 v0_3 v0_4 gh=some (e,s)):runL pg q7y ⟨[(0,.agg [v0_0,v0_1,v0_2,v0_3,v0_4])],[],gh⟩=some (e,s):=
 jee q78 (Eq.trans (by kernel_rfl) h)
end
end Go.Lw
end

/-! What the code of function slices_Concat_Lint_int comes to, piece by piece. Written by program (dprint.py). -/
section
set_option maxRecDepth 10000
set_option maxHeartbeats 4000000
namespace Go.Lw
open Go
noncomputable section
variable {pg:Prg} {gh:List GObj} {e:IExit} {s:St}
def q2z:Tr:=(tI 19 (tI 10 (tO 5 (tO 2 (uO 0) (uI 3)) (tO 8 (uO 6) (uO 9))) (tI 15 (tB 12 (uI 11) (uO 14)) (tI 17 (uO 16) (uI 18)))) (tB 28 (tO 24 (tI 22 (uB 20) (uI 23)) (tI 26 (uO 25) (uI 27))) (tO 33 (tO 31 (uO 30) (uO 32)) (tO 35 (uI 34) .nil))))
def q43 (pg:Prg) (v0:PV) (x3:Int) (v9:PV) (x10 x11:Int) (gh:List GObj):DR:=
  br 12 (decide (x11<x10)) (
  idX 1 none (degr v9) x11 fun p1=>
  ldX [] gh false 1 (degr p1) fun v2=>isC v2 (stK 0 v0 (stK 0 v2 (stK 0 v9 (isC (degr v2) (lenS (degr (degr v2)) fun n3=>stK 0 v0 (stK 0 v9 (stK 0 v0 (stK 0 v9 (
  br 20 (decide ((IntKind.i64.wrap (x3+(n3:Int)))<0)) (none) (stK 0 v0 (stK 0 v9 (stK 0 v0 (stK 0 v9 (some (.normal,⟨[(0,v0),(3,(I (IntKind.i64.wrap (x3+(n3:Int))))),(9,v9),(10,I x10),(11,(I (IntKind.i64.wrap (x11+1))))],[],gh⟩)))))))))))))))) (some ((.exit 0),⟨[(0,v0),(3,I x3),(9,v9),(10,I x10),(11,I x11),(12,(B (decide (x11<x10))))],[],gh⟩))
theorem q43_ {v0:PV} {x3:Int} {v9:PV} {x10 x11:Int} (h:q43 pg v0 x3 v9 x10 x11 gh=some (e,s)):runL pg q7s ⟨[(0,v0),(3,I x3),(9,v9),(10,I x10),(11,I x11)],[],gh⟩=some (e,s):=
 jee q2z (Eq.trans (by kernel_rfl) h)
def q44 (pg:Prg) (v6 v25:PV) (x26 x27:Int) (gh:List GObj):DR:=
  br 28 (decide (x27<x26)) (
  idX 1 none (degr v25) x27 fun p1=>
  ldX [] gh false 1 (degr p1) fun v2=>isC v2 (stK 0 v6 (stK 0 v2 (stK 0 v25 (isC (degr v2) (
  apX 1 8 v6 (degr (degr v2)) fun l3=>stK 0 v25 (stK 0 v25 (stK 0 v25 (some (.normal,⟨[(6,.sl true 1 l3),(25,v25),(26,I x26),(27,(I (IntKind.i64.wrap (x27+1))))],[],gh⟩)))))))))) (some ((.exit 2),⟨[(6,v6),(25,v25),(26,I x26),(27,I x27),(28,(B (decide (x27<x26))))],[],gh⟩))
theorem q44_ {v6 v25:PV} {x26 x27:Int} (h:q44 pg v6 v25 x26 x27 gh=some (e,s)):runL pg q7t ⟨[(6,v6),(25,v25),(26,I x26),(27,I x27)],[],gh⟩=some (e,s):=
 jee q2z (Eq.trans (by kernel_rfl) h)
def qbb (pg:Prg) (v6:PV) (gh:List GObj):DR:=isC (degr v6) (stK 0 (degr v6) (some (.ret,⟨[(2,(degr v6))],[],gh⟩)))
theorem qbb_ {v6:PV} (h:qbb pg v6 gh=some (e,s)):runL pg q4l ⟨[(6,v6)],[],gh⟩=some (e,s):=
 jee q2z (Eq.trans (by kernel_rfl) h)
def qbc (pg:Prg) (v0:PV) (x3:Int) (gh:List GObj):DR:=
  callR gh true (callL pg 119 [.nils,I x3] gh) fun r1 gh2=>isC r1 (stK 0 v0 (stK 0 r1 (isC (degr v0) (lenS (degr (degr v0)) fun n3=>stK 0 r1 (stK 0 (degr v0) (
  kR (runL pg q4k ⟨[(6,r1),(25,(degr v0)),(26,(I (n3:Int))),(27,I 0)],[],gh2⟩) (fun e s=>nx e s (fun e s=>some (e,s)) fun s=>kR (runL pg q4l s) (fun e s=>some (e,s)))))))))
theorem qbc_ {v0:PV} {x3:Int} (h:qbc pg v0 x3 gh=some (e,s)):runL pg q4m ⟨[(0,v0),(3,I x3)],[],gh⟩=some (e,s):=
 jee q2z (Eq.trans (by kernel_rfl) h)
def qbd (pg:Prg) (v0:PV) (gh:List GObj):DR:=stK 0 v0 (isC (degr v0) (lenS (degr (degr v0)) fun n1=>stK 0 v0 (stK 0 (degr v0) (
  kR (runL pg q4j ⟨[(0,v0),(3,I 0),(9,(degr v0)),(10,(I (n1:Int))),(11,I 0)],[],gh⟩) (fun e s=>nx e s (fun e s=>some (e,s)) fun s=>kR (runL pg q4m s) (fun e s=>some (e,s)))))))
theorem qbd_ {v0:PV} (h:qbd pg v0 gh=some (e,s)):runL pg q7u ⟨[(0,v0)],[],gh⟩=some (e,s):=
 jee q2z (Eq.trans (by kernel_rfl) h)
end
end Go.Lw
end

/-! What the code of function ref_PrintModel comes to, piece by piece. Written by program (dprint.py). -/
section
set_option maxRecDepth 10000
set_option maxHeartbeats 4000000
namespace Go.Lw
open Go
noncomputable section
variable {pg:Prg} {gh:List GObj} {e:IExit} {s:St}
def qh:Tr:=(tI 81 (tI 41 (tO 20 (tI 10 (tO 6 (.node 3 (.ce (.str)) (.node 2 (.ce (.str)) (.node 0 (.agg [.any,.any,.any,.any,.any]) .nil .nil) .nil) (uI 4)) (tI 8 (uI 7) (uI 9))) (tI 15 (tI 12 (uI 11) (uO 14)) (tI 17 (uB 16) (uI 18)))) (.node 30 (.ce (.str)) (tI 25 (.node 23 (.agg [.int .i64,.int .i64,.int .i64,.int .i64,.int .i64,.int .i64]) (uI 21) (.node 24 (.ce (.str)) .nil .nil)) (.node 27 (.ce (.str)) (.node 26 (.ce (.str)) .nil .nil) (uI 29))) (.node 35 (.ce (.str)) (.node 32 (.ce (.str)) (.node 31 (.ce (.str)) .nil .nil) (uI 34)) (.node 37 (.ce (.str)) (.node 36 (.ce (.str)) .nil .nil) (uI 39))))) (tB 62 (.node 52 (.ce (.str)) (tI 48 (tI 45 (tO 44 (uI 43) .nil) (uI 47)) (tI 50 (uB 49) (uI 51))) (.node 57 (.ce (.str)) (tI 54 (uO 53) (uI 56)) (.node 59 (.ce (.str)) (.node 58 (.ce (.str)) .nil .nil) (uI 61)))) (.node 72 (.ce (.str)) (tB 67 (tI 65 (uB 63) (uB 66)) (tI 70 (.node 68 (.ce (.str)) .nil .nil) (.node 71 (.ce (.str)) .nil .nil))) (tI 76 (.node 74 (.ce (.str)) (.node 73 (.ce (.str)) .nil .nil) (.node 75 (.ce (.str)) .nil .nil)) (tI 79 (uO 78) (uB 80)))))) (.node 127 (.ce (.str)) (tO 105 (tO 94 (tI 89 (tO 85 (.node 83 (.ce (.str)) (uI 82) .nil) (uI 86)) (.node 91 (.ce (.str)) (.node 90 (.ce (.str)) .nil .nil) (.node 92 (.ce (.str)) .nil .nil))) (.node 100 (.ce (.str)) (tI 98 (uI 95) (.node 99 (.ce (.str)) .nil .nil)) (.node 102 (.ce (.str)) (.node 101 (.ce (.str)) .nil .nil) (uI 103)))) (tI 116 (tI 109 (tB 107 (uI 106) (uI 108)) (tO 112 (.node 110 (.ce (.str)) .nil .nil) (uI 113))) (tO 121 (.node 118 (.ce (.str)) (.node 117 (.ce (.str)) .nil .nil) (.node 119 (.ce (.str)) .nil .nil)) (tI 125 (uI 122) (.node 126 (.ce (.str)) .nil .nil))))) (.node 146 (.ce (.str)) (tI 136 (tO 132 (.node 129 (.ce (.str)) (.node 128 (.ce (.str)) .nil .nil) (uI 130)) (tB 134 (uI 133) (uI 135))) (tI 142 (tO 139 (.node 137 (.ce (.str)) .nil .nil) (uI 140)) (.node 144 (.ce (.str)) (.node 143 (.ce (.str)) .nil .nil) (.node 145 (.ce (.str)) .nil .nil)))) (tO 156 (tB 151 (tO 149 (uI 147) (uI 150)) (tI 153 (uI 152) (.node 154 (.ce (.str)) .nil .nil))) (.node 161 (.ce (.str)) (tI 159 (uI 157) (.node 160 (.ce (.str)) .nil .nil)) (.node 163 (.ce (.str)) (.node 162 (.ce (.str)) .nil .nil) (.node 164 (.ce (.str)) .nil .nil)))))))
def q7h (pg:Prg) (s3:ByteArray) (x4:Int) (v6:PV) (x7:Int) (vc0_0 vc0_1:PV) (vc0_2 vc0_3 vc0_4:PV) (xc1_0 xc1_1:Int) (xc1_2 xc1_3:Int) (xc1_4 xc1_5:Int) (gh:List GObj):DR:=
  callR gh true (callL pg 26 [I xc1_0] gh) fun r1 gh2=>unI .i64 r1 fun n3=>stK 2 v6 (
  br 49 (decide (x7<n3)) (isC (degr v6) (
  idX 1 none (degr (degr v6)) x7 fun p4=>
  ldX [[vc0_0,vc0_1,vc0_2,vc0_3,vc0_4],[I xc1_0,I xc1_1,I xc1_2,I xc1_3,I xc1_4,I xc1_5]] gh2 false 1 (degr p4) fun v5=>unI .i64 v5 fun n6=>
  callR gh2 true (callL pg 363 [I n6] gh2) fun r7 gh8=>unS r7 fun s9=>ob (binPV .add (.str (⟨#[32]⟩:ByteArray)) (.str s9)) fun v10=>unS v10 fun s11=>ob (binPV .add (.str s3) (.str s11)) fun v12=>unS v12 fun s13=>stK 2 v6 (stK 2 v6 (stK 2 v6 (some (.normal,⟨[(1,.ptr false 0 0),(3,.str s13),(4,I x4),(5,.ptr false 1 0),(6,v6),(7,(I (IntKind.i64.wrap (x7+1))))],[[vc0_0,vc0_1,vc0_2,vc0_3,vc0_4],[I xc1_0,I xc1_1,I xc1_2,I xc1_3,I xc1_4,I xc1_5]],gh8⟩)))))) (some ((.exit 2),⟨[(1,.ptr false 0 0),(3,.str s3),(4,I x4),(5,.ptr false 1 0),(6,v6),(7,I x7),(49,(B (decide (x7<n3))))],[[vc0_0,vc0_1,vc0_2,vc0_3,vc0_4],[I xc1_0,I xc1_1,I xc1_2,I xc1_3,I xc1_4,I xc1_5]],gh2⟩)))
theorem q7h_ {s3:ByteArray} {x4:Int} {v6:PV} {x7:Int} {vc0_0 vc0_1:PV} {vc0_2 vc0_3 vc0_4:PV} {xc1_0 xc1_1:Int} {xc1_2 xc1_3:Int} {xc1_4 xc1_5:Int} (h:q7h pg s3 x4 v6 x7 vc0_0 vc0_1 vc0_2 vc0_3 vc0_4 xc1_0 xc1_1 xc1_2 xc1_3 xc1_4 xc1_5 gh=some (e,s)):runL pg q9a ⟨[(1,.ptr false 0 0),(3,.str s3),(4,I x4),(5,.ptr false 1 0),(6,v6),(7,I x7)],[[vc0_0,vc0_1,vc0_2,vc0_3,vc0_4],[I xc1_0,I xc1_1,I xc1_2,I xc1_3,I xc1_4,I xc1_5]],gh⟩=some (e,s):=
 jee qh (Eq.trans (by kernel_rfl) h)
def qbn (pg:Prg) (s3:ByteArray) (x4:Int) (vc0_0 vc0_1:PV) (vc0_2 vc0_3 vc0_4:PV) (gh:List GObj):DR:=ob (binPV .add (.str s3) (.str (⟨#[10]⟩:ByteArray))) fun v1=>unS v1 fun s2=>some (.normal,⟨[(1,.ptr false 0 0),(3,.str s2),(4,I x4)],[[vc0_0,vc0_1,vc0_2,vc0_3,vc0_4]],gh⟩)
theorem qbn_ {s3:ByteArray} {x4:Int} {vc0_0 vc0_1:PV} {vc0_2 vc0_3 vc0_4:PV} (h:qbn pg s3 x4 vc0_0 vc0_1 vc0_2 vc0_3 vc0_4 gh=some (e,s)):runL pg q1n ⟨[(1,.ptr false 0 0),(3,.str s3),(4,I x4)],[[vc0_0,vc0_1,vc0_2,vc0_3,vc0_4]],gh⟩=some (e,s):=
 jee qh (Eq.trans (by kernel_rfl) h)
def q46 (pg:Prg) (s3:ByteArray) (x4:Int) (vc0_0 vc0_1:PV) (vc0_2 vc0_3 vc0_4:PV) (xc1_0 xc1_1:Int) (xc1_2 xc1_3:Int) (xc1_4 xc1_5:Int) (gh:List GObj):DR:=
  br 63 (xc1_0==1) (
  callR gh true (callL pg 363 [I xc1_5] gh) fun r1 gh2=>unS r1 fun s4=>ob (binPV .add (.str (⟨#[32]⟩:ByteArray)) (.str s4)) fun v5=>unS v5 fun s6=>ob (binPV .add (.str s3) (.str s6)) fun v7=>unS v7 fun s8=>
  kR (runL pg q1n ⟨[(1,.ptr false 0 0),(3,.str s8),(4,I x4)],[[vc0_0,vc0_1,vc0_2,vc0_3,vc0_4]],gh2⟩) (fun e s=>some (e,s))) (
  br 67 (xc1_0==21) (
  callR gh true (callL pg 363 [I xc1_5] gh) fun r9 gh10=>unS r9 fun s11=>ob (binPV .add (.str (⟨#[32]⟩:ByteArray)) (.str s11)) fun v12=>unS v12 fun s13=>ob (binPV .add (.str s3) (.str s13)) fun v14=>unS v14 fun s15=>
  kR (runL pg q1n ⟨[(1,.ptr false 0 0),(3,.str s15),(4,I x4)],[[vc0_0,vc0_1,vc0_2,vc0_3,vc0_4]],gh10⟩) (fun e s=>some (e,s))) (
  kR (runL pg q1n ⟨[(1,.ptr false 0 0),(3,.str s3),(4,I x4)],[[vc0_0,vc0_1,vc0_2,vc0_3,vc0_4]],gh⟩) (fun e s=>some (e,s))))
theorem q46_ {s3:ByteArray} {x4:Int} {vc0_0 vc0_1:PV} {vc0_2 vc0_3 vc0_4:PV} {xc1_0 xc1_1:Int} {xc1_2 xc1_3:Int} {xc1_4 xc1_5:Int} (h:q46 pg s3 x4 vc0_0 vc0_1 vc0_2 vc0_3 vc0_4 xc1_0 xc1_1 xc1_2 xc1_3 xc1_4 xc1_5 gh=some (e,s)):runL pg q3b ⟨[(1,.ptr false 0 0),(3,.str s3),(4,I x4),(5,.ptr false 1 0)],[[vc0_0,vc0_1,vc0_2,vc0_3,vc0_4],[I xc1_0,I xc1_1,I xc1_2,I xc1_3,I xc1_4,I xc1_5]],gh⟩=some (e,s):=
 jee qh (Eq.trans (by kernel_rfl) h)
def qbo (pg:Prg) (s3:ByteArray) (x4:Int) (vc0_0 vc0_1:PV) (vc0_2 vc0_3 vc0_4:PV) (gh:List GObj):DR:=some (.normal,⟨[(1,.ptr false 0 0),(3,.str s3),(4,(I (IntKind.i64.wrap (x4+1))))],[[vc0_0,vc0_1,vc0_2,vc0_3,vc0_4]],gh⟩)
theorem qbo_ {s3:ByteArray} {x4:Int} {vc0_0 vc0_1:PV} {vc0_2 vc0_3 vc0_4:PV} (h:qbo pg s3 x4 vc0_0 vc0_1 vc0_2 vc0_3 vc0_4 gh=some (e,s)):runL pg q2k ⟨[(1,.ptr false 0 0),(3,.str s3),(4,I x4)],[[vc0_0,vc0_1,vc0_2,vc0_3,vc0_4]],gh⟩=some (e,s):=
 jee qh (Eq.trans (by kernel_rfl) h)
def q7i (pg:Prg) (s3:ByteArray) (x4:Int) (vc0_0 vc0_1:PV) (vc0_2 vc0_3 vc0_4:PV) (gh:List GObj):DR:=isC (degr vc0_0) (lenS (degr (degr vc0_0)) fun n1=>
  br 16 (decide (x4<(n1:Int))) (isC (degr vc0_0) (
  idX 6 none (degr (degr vc0_0)) x4 fun p2=>
  ldX [[vc0_0,vc0_1,vc0_2,vc0_3,vc0_4]] gh true 6 (degr p2) fun v3=>unA 6 v3 fun c4 c5 c6 c7 c8 c9=>unI .i64 c4 fun n10=>unI .i64 c5 fun n11=>unI .i64 c6 fun n12=>unI .i64 c7 fun n13=>unI .i64 c8 fun n14=>unI .i64 c9 fun n15=>
  callR gh true (callL pg 363 [I x4] gh) fun r16 gh17=>unS r16 fun s18=>ob (binPV .add (.str s18) (.str (⟨#[32]⟩:ByteArray))) fun v19=>unS v19 fun s20=>
  callR gh17 true (callL pg 379 [I n10] gh17) fun r21 gh22=>unS r21 fun s23=>ob (binPV .add (.str s20) (.str s23)) fun v24=>unS v24 fun s25=>ob (binPV .add (.str s25) (.str (⟨#[32]⟩:ByteArray))) fun v26=>unS v26 fun s27=>
  callR gh22 true (callL pg 363 [I n11] gh22) fun r28 gh29=>unS r28 fun s30=>ob (binPV .add (.str s27) (.str s30)) fun v31=>unS v31 fun s32=>ob (binPV .add (.str s3) (.str s32)) fun v33=>unS v33 fun s34=>
  kR (runL pg q5y ⟨[(1,.ptr false 0 0),(3,.str s34),(4,I x4),(5,.ptr false 1 0),(6,.sl true 1 [I n12,I n13,I n14]),(7,I 0)],[[vc0_0,vc0_1,vc0_2,vc0_3,vc0_4],[I n10,I n11,I n12,I n13,I n14,I n15]],gh29⟩) (fun e s=>nx e s (fun e s=>bk 1 e s (fun e s=>nx e s (fun e s=>po [1,3,4] 1 e s (fun e s=>some (e,s))) fun s=>kR (runL pg q2k s) (fun e s=>po [1,3,4] 1 e s (fun e s=>some (e,s))))) fun s=>kR (runL pg q3b s) (fun e s=>bk 1 e s (fun e s=>nx e s (fun e s=>po [1,3,4] 1 e s (fun e s=>some (e,s))) fun s=>kR (runL pg q2k s) (fun e s=>po [1,3,4] 1 e s (fun e s=>some (e,s)))))))) (some ((.exit 0),⟨[(1,.ptr false 0 0),(3,.str s3),(4,I x4),(16,(B (decide (x4<(n1:Int)))))],[[vc0_0,vc0_1,vc0_2,vc0_3,vc0_4]],gh⟩)))
theorem q7i_ {s3:ByteArray} {x4:Int} {vc0_0 vc0_1:PV} {vc0_2 vc0_3 vc0_4:PV} (h:q7i pg s3 x4 vc0_0 vc0_1 vc0_2 vc0_3 vc0_4 gh=some (e,s)):runL pg q9b ⟨[(1,.ptr false 0 0),(3,.str s3),(4,I x4)],[[vc0_0,vc0_1,vc0_2,vc0_3,vc0_4]],gh⟩=some (e,s):=
 jee qh (Eq.trans (by kernel_rfl) h)
def q7j (pg:Prg) (s3:ByteArray) (x8:Int) (vc0_0 vc0_1:PV) (vc0_2 vc0_3 vc0_4:PV) (gh:List GObj):DR:=isC (degr vc0_1) (lenS (degr (degr vc0_1)) fun n1=>
  br 80 (decide (x8<(n1:Int))) (isC (degr vc0_1) (
  idX 2 none (degr (degr vc0_1)) x8 fun p2=>faX (degr p2) 0 fun p3=>
  ldX [[vc0_0,vc0_1,vc0_2,vc0_3,vc0_4]] gh false 1 (degr p3) fun v4=>unI .i64 v4 fun n5=>
  callR gh true (callL pg 363 [I n5] gh) fun r6 gh7=>unS r6 fun s8=>ob (binPV .add (.str (⟨#[105,110,105,116,32]⟩:ByteArray)) (.str s8)) fun v9=>unS v9 fun s10=>ob (binPV .add (.str s10) (.str (⟨#[32]⟩:ByteArray))) fun v11=>unS v11 fun s12=>isC (degr vc0_1) (
  idX 2 none (degr (degr vc0_1)) x8 fun p13=>faX (degr p13) 1 fun p14=>
  ldX [[vc0_0,vc0_1,vc0_2,vc0_3,vc0_4]] gh7 false 1 (degr p14) fun v15=>unI .i64 v15 fun n16=>
  callR gh7 true (callL pg 363 [I n16] gh7) fun r17 gh18=>unS r17 fun s19=>ob (binPV .add (.str s12) (.str s19)) fun v20=>unS v20 fun s21=>ob (binPV .add (.str s21) (.str (⟨#[10]⟩:ByteArray))) fun v22=>unS v22 fun s23=>ob (binPV .add (.str s3) (.str s23)) fun v24=>unS v24 fun s25=>some (.normal,⟨[(1,.ptr false 0 0),(3,.str s25),(8,(I (IntKind.i64.wrap (x8+1))))],[[vc0_0,vc0_1,vc0_2,vc0_3,vc0_4]],gh18⟩)))) (some ((.exit 4),⟨[(1,.ptr false 0 0),(3,.str s3),(8,I x8),(80,(B (decide (x8<(n1:Int)))))],[[vc0_0,vc0_1,vc0_2,vc0_3,vc0_4]],gh⟩)))
theorem q7j_ {s3:ByteArray} {x8:Int} {vc0_0 vc0_1:PV} {vc0_2 vc0_3 vc0_4:PV} (h:q7j pg s3 x8 vc0_0 vc0_1 vc0_2 vc0_3 vc0_4 gh=some (e,s)):runL pg q9c ⟨[(1,.ptr false 0 0),(3,.str s3),(8,I x8)],[[vc0_0,vc0_1,vc0_2,vc0_3,vc0_4]],gh⟩=some (e,s):=
 jee qh (Eq.trans (by kernel_rfl) h)
def q7k (pg:Prg) (s3:ByteArray) (x9:Int) (vc0_0 vc0_1:PV) (vc0_2 vc0_3 vc0_4:PV) (gh:List GObj):DR:=isC (degr vc0_2) (lenS (degr (degr vc0_2)) fun n1=>
  br 107 (decide (x9<(n1:Int))) (isC (degr vc0_2) (
  idX 2 none (degr (degr vc0_2)) x9 fun p2=>faX (degr p2) 0 fun p3=>
  ldX [[vc0_0,vc0_1,vc0_2,vc0_3,vc0_4]] gh false 1 (degr p3) fun v4=>unI .i64 v4 fun n5=>
  callR gh true (callL pg 363 [I n5] gh) fun r6 gh7=>unS r6 fun s8=>ob (binPV .add (.str (⟨#[110,101,120,116,32]⟩:ByteArray)) (.str s8)) fun v9=>unS v9 fun s10=>ob (binPV .add (.str s10) (.str (⟨#[32]⟩:ByteArray))) fun v11=>unS v11 fun s12=>isC (degr vc0_2) (
  idX 2 none (degr (degr vc0_2)) x9 fun p13=>faX (degr p13) 1 fun p14=>
  ldX [[vc0_0,vc0_1,vc0_2,vc0_3,vc0_4]] gh7 false 1 (degr p14) fun v15=>unI .i64 v15 fun n16=>
  callR gh7 true (callL pg 363 [I n16] gh7) fun r17 gh18=>unS r17 fun s19=>ob (binPV .add (.str s12) (.str s19)) fun v20=>unS v20 fun s21=>ob (binPV .add (.str s21) (.str (⟨#[10]⟩:ByteArray))) fun v22=>unS v22 fun s23=>ob (binPV .add (.str s3) (.str s23)) fun v24=>unS v24 fun s25=>some (.normal,⟨[(1,.ptr false 0 0),(3,.str s25),(9,(I (IntKind.i64.wrap (x9+1))))],[[vc0_0,vc0_1,vc0_2,vc0_3,vc0_4]],gh18⟩)))) (some ((.exit 6),⟨[(1,.ptr false 0 0),(3,.str s3),(9,I x9),(107,(B (decide (x9<(n1:Int)))))],[[vc0_0,vc0_1,vc0_2,vc0_3,vc0_4]],gh⟩)))
theorem q7k_ {s3:ByteArray} {x9:Int} {vc0_0 vc0_1:PV} {vc0_2 vc0_3 vc0_4:PV} (h:q7k pg s3 x9 vc0_0 vc0_1 vc0_2 vc0_3 vc0_4 gh=some (e,s)):runL pg q9d ⟨[(1,.ptr false 0 0),(3,.str s3),(9,I x9)],[[vc0_0,vc0_1,vc0_2,vc0_3,vc0_4]],gh⟩=some (e,s):=
 jee qh (Eq.trans (by kernel_rfl) h)
def q7l (pg:Prg) (s3:ByteArray) (x10:Int) (vc0_0 vc0_1:PV) (vc0_2 vc0_3 vc0_4:PV) (gh:List GObj):DR:=isC (degr vc0_3) (lenS (degr (degr vc0_3)) fun n1=>
  br 134 (decide (x10<(n1:Int))) (isC (degr vc0_3) (
  idX 1 none (degr (degr vc0_3)) x10 fun p2=>
  ldX [[vc0_0,vc0_1,vc0_2,vc0_3,vc0_4]] gh false 1 (degr p2) fun v3=>unI .i64 v3 fun n4=>
  callR gh true (callL pg 363 [I n4] gh) fun r5 gh6=>unS r5 fun s7=>ob (binPV .add (.str (⟨#[98,97,100,32]⟩:ByteArray)) (.str s7)) fun v8=>unS v8 fun s9=>ob (binPV .add (.str s9) (.str (⟨#[10]⟩:ByteArray))) fun v10=>unS v10 fun s11=>ob (binPV .add (.str s3) (.str s11)) fun v12=>unS v12 fun s13=>some (.normal,⟨[(1,.ptr false 0 0),(3,.str s13),(10,(I (IntKind.i64.wrap (x10+1))))],[[vc0_0,vc0_1,vc0_2,vc0_3,vc0_4]],gh6⟩))) (some ((.exit 8),⟨[(1,.ptr false 0 0),(3,.str s3),(10,I x10),(134,(B (decide (x10<(n1:Int)))))],[[vc0_0,vc0_1,vc0_2,vc0_3,vc0_4]],gh⟩)))
theorem q7l_ {s3:ByteArray} {x10:Int} {vc0_0 vc0_1:PV} {vc0_2 vc0_3 vc0_4:PV} (h:q7l pg s3 x10 vc0_0 vc0_1 vc0_2 vc0_3 vc0_4 gh=some (e,s)):runL pg q9e ⟨[(1,.ptr false 0 0),(3,.str s3),(10,I x10)],[[vc0_0,vc0_1,vc0_2,vc0_3,vc0_4]],gh⟩=some (e,s):=
 jee qh (Eq.trans (by kernel_rfl) h)
def q7m (pg:Prg) (s3:ByteArray) (x11:Int) (vc0_0 vc0_1:PV) (vc0_2 vc0_3 vc0_4:PV) (gh:List GObj):DR:=isC (degr vc0_4) (lenS (degr (degr vc0_4)) fun n1=>
  br 151 (decide (x11<(n1:Int))) (isC (degr vc0_4) (
  idX 1 none (degr (degr vc0_4)) x11 fun p2=>
  ldX [[vc0_0,vc0_1,vc0_2,vc0_3,vc0_4]] gh false 1 (degr p2) fun v3=>unI .i64 v3 fun n4=>
  callR gh true (callL pg 363 [I n4] gh) fun r5 gh6=>unS r5 fun s7=>ob (binPV .add (.str (⟨#[104,111,108,100,32]⟩:ByteArray)) (.str s7)) fun v8=>unS v8 fun s9=>ob (binPV .add (.str s9) (.str (⟨#[10]⟩:ByteArray))) fun v10=>unS v10 fun s11=>ob (binPV .add (.str s3) (.str s11)) fun v12=>unS v12 fun s13=>some (.normal,⟨[(1,.ptr false 0 0),(3,.str s13),(11,(I (IntKind.i64.wrap (x11+1))))],[[vc0_0,vc0_1,vc0_2,vc0_3,vc0_4]],gh6⟩))) (some ((.exit 10),⟨[(1,.ptr false 0 0),(3,.str s3),(11,I x11),(151,(B (decide (x11<(n1:Int)))))],[[vc0_0,vc0_1,vc0_2,vc0_3,vc0_4]],gh⟩)))
theorem q7m_ {s3:ByteArray} {x11:Int} {vc0_0 vc0_1:PV} {vc0_2 vc0_3 vc0_4:PV} (h:q7m pg s3 x11 vc0_0 vc0_1 vc0_2 vc0_3 vc0_4 gh=some (e,s)):runL pg q9f ⟨[(1,.ptr false 0 0),(3,.str s3),(11,I x11)],[[vc0_0,vc0_1,vc0_2,vc0_3,vc0_4]],gh⟩=some (e,s):=
 jee qh (Eq.trans (by kernel_rfl) h)
def qbp (pg:Prg) (s3:ByteArray) (gh:List GObj):DR:=some (.ret,⟨[(2,.str s3)],[],gh⟩)
theorem qbp_ {s3:ByteArray} (h:qbp pg s3 gh=some (e,s)):runL pg q3c ⟨[(3,.str s3)],[],gh⟩=some (e,s):=
 jee qh (Eq.trans (by kernel_rfl) h)
def qbq (pg:Prg) (s3:ByteArray) (vc0_0 vc0_1:PV) (vc0_2 vc0_3 vc0_4:PV) (gh:List GObj):DR:=
  kR (runL pg q63 ⟨[(1,.ptr false 0 0),(3,.str s3),(11,I 0)],[[vc0_0,vc0_1,vc0_2,vc0_3,vc0_4]],gh⟩) (fun e s=>nx e s (fun e s=>some (e,s)) fun s=>kR (runL pg q3c s) (fun e s=>some (e,s)))
theorem qbq_ {s3:ByteArray} {vc0_0 vc0_1:PV} {vc0_2 vc0_3 vc0_4:PV} (h:qbq pg s3 vc0_0 vc0_1 vc0_2 vc0_3 vc0_4 gh=some (e,s)):runL pg q3d ⟨[(1,.ptr false 0 0),(3,.str s3)],[[vc0_0,vc0_1,vc0_2,vc0_3,vc0_4]],gh⟩=some (e,s):=
 jee qh (Eq.trans (by kernel_rfl) h)
def qbr (pg:Prg) (s3:ByteArray) (vc0_0 vc0_1:PV) (vc0_2 vc0_3 vc0_4:PV) (gh:List GObj):DR:=
  kR (runL pg q62 ⟨[(1,.ptr false 0 0),(3,.str s3),(10,I 0)],[[vc0_0,vc0_1,vc0_2,vc0_3,vc0_4]],gh⟩) (fun e s=>nx e s (fun e s=>some (e,s)) fun s=>kR (runL pg q3d s) (fun e s=>some (e,s)))
theorem qbr_ {s3:ByteArray} {vc0_0 vc0_1:PV} {vc0_2 vc0_3 vc0_4:PV} (h:qbr pg s3 vc0_0 vc0_1 vc0_2 vc0_3 vc0_4 gh=some (e,s)):runL pg q3e ⟨[(1,.ptr false 0 0),(3,.str s3)],[[vc0_0,vc0_1,vc0_2,vc0_3,vc0_4]],gh⟩=some (e,s):=
 jee qh (Eq.trans (by kernel_rfl) h)
def qbs (pg:Prg) (s3:ByteArray) (vc0_0 vc0_1:PV) (vc0_2 vc0_3 vc0_4:PV) (gh:List GObj):DR:=
  kR (runL pg q61 ⟨[(1,.ptr false 0 0),(3,.str s3),(9,I 0)],[[vc0_0,vc0_1,vc0_2,vc0_3,vc0_4]],gh⟩) (fun e s=>nx e s (fun e s=>some (e,s)) fun s=>kR (runL pg q3e s) (fun e s=>some (e,s)))
theorem qbs_ {s3:ByteArray} {vc0_0 vc0_1:PV} {vc0_2 vc0_3 vc0_4:PV} (h:qbs pg s3 vc0_0 vc0_1 vc0_2 vc0_3 vc0_4 gh=some (e,s)):runL pg q3f ⟨[(1,.ptr false 0 0),(3,.str s3)],[[vc0_0,vc0_1,vc0_2,vc0_3,vc0_4]],gh⟩=some (e,s):=
 jee qh (Eq.trans (by kernel_rfl) h)
def qbt (pg:Prg) (s3:ByteArray) (vc0_0 vc0_1:PV) (vc0_2 vc0_3 vc0_4:PV) (gh:List GObj):DR:=
  kR (runL pg q60 ⟨[(1,.ptr false 0 0),(3,.str s3),(8,I 0)],[[vc0_0,vc0_1,vc0_2,vc0_3,vc0_4]],gh⟩) (fun e s=>nx e s (fun e s=>some (e,s)) fun s=>kR (runL pg q3f s) (fun e s=>some (e,s)))
theorem qbt_ {s3:ByteArray} {vc0_0 vc0_1:PV} {vc0_2 vc0_3 vc0_4:PV} (h:qbt pg s3 vc0_0 vc0_1 vc0_2 vc0_3 vc0_4 gh=some (e,s)):runL pg q3g ⟨[(1,.ptr false 0 0),(3,.str s3)],[[vc0_0,vc0_1,vc0_2,vc0_3,vc0_4]],gh⟩=some (e,s):=
 jee qh (Eq.trans (by kernel_rfl) h)
def qbu (pg:Prg) (v0_0 v0_1:PV) (v0_2 v0_3 v0_4:PV) (gh:List GObj):DR:=onK (degr1 v0_0) (onK (degr1 v0_1) (onK (degr1 v0_2) (onK (degr1 v0_3) (onK (degr1 v0_4) (
  kR (runL pg q5z ⟨[(1,.ptr false 0 0),(3,.str ByteArray.empty),(4,I 0)],[[(degr1 v0_0),(degr1 v0_1),(degr1 v0_2),(degr1 v0_3),(degr1 v0_4)]],gh⟩) (fun e s=>nx e s (fun e s=>some (e,s)) fun s=>kR (runL pg q3g s) (fun e s=>some (e,s))))))))
theorem qbu_ {v0_0 v0_1:PV} {v0_2 v0_3 v0_4:PV} (h:qbu pg v0_0 v0_1 v0_2 v0_3 v0_4 gh=some (e,s)):runL pg q9g ⟨[(0,.agg [v0_0,v0_1,v0_2,v0_3,v0_4])],[],gh⟩=some (e,s):=
 jee qh (Eq.trans (by kernel_rfl) h)
end
end Go.Lw
end

/-! What the code of function ref_kindWord comes to, piece by piece. Written by program (dprint.py). -/
section
set_option maxRecDepth 10000
set_option maxHeartbeats 4000000
namespace Go.Lw
open Go
noncomputable section
variable {pg:Prg} {gh:List GObj} {e:IExit} {s:St}
def qeb:Tr:=(tO 5 (tO 3 (.node 2 (.ce (.str)) (uI 0) .nil) (uO 4)) (tI 7 (uI 6) (.node 9 (.ce (.str)) .nil .nil)))
def qbv (pg:Prg) (x0:Int) (gh:List GObj):DR:=
  idX 1 none (.sl false 1 [(.str (⟨#[99,111,110,115,116]⟩:ByteArray)),(.str (⟨#[105,110,112,117,116]⟩:ByteArray)),(.str (⟨#[115,116,97,116,101]⟩:ByteArray)),(.str (⟨#[110,111,116]⟩:ByteArray)),(.str (⟨#[110,101,103]⟩:ByteArray)),(.str (⟨#[97,110,100]⟩:ByteArray)),(.str (⟨#[111,114]⟩:ByteArray)),(.str (⟨#[120,111,114]⟩:ByteArray)),(.str (⟨#[97,100,100]⟩:ByteArray)),(.str (⟨#[115,117,98]⟩:ByteArray)),(.str (⟨#[109,117,108]⟩:ByteArray)),(.str (⟨#[100,105,118]⟩:ByteArray)),(.str (⟨#[114,101,109]⟩:ByteArray)),(.str (⟨#[115,104,108]⟩:ByteArray)),(.str (⟨#[115,104,114]⟩:ByteArray)),(.str (⟨#[101,113]⟩:ByteArray)),(.str (⟨#[108,101,115,115]⟩:ByteArray)),(.str (⟨#[115,105,103,110,101,100]⟩:ByteArray)),(.str (⟨#[105,102]⟩:ByteArray)),(.str (⟨#[106,111,105,110]⟩:ByteArray)),(.str (⟨#[99,117,116]⟩:ByteArray)),(.str (⟨#[119,105,100,101]⟩:ByteArray)),(.str (⟨#[115,112,114,101,97,100]⟩:ByteArray))]) (IntKind.i64.wrap (x0-1)) fun p1=>
  ldX [] gh false 1 (degr p1) fun v2=>unS v2 fun s3=>some (.ret,⟨[(2,.str s3)],[],gh⟩)
theorem qbv_ {x0:Int} (h:qbv pg x0 gh=some (e,s)):runL pg q9h ⟨[(0,I x0)],[],gh⟩=some (e,s):=
 jee qeb (Eq.trans (by kernel_rfl) h)
end
end Go.Lw
end

/-! What the code of function ref_Nodes comes to, piece by piece. Written by program (dprint.py). -/
section
set_option maxRecDepth 10000
set_option maxHeartbeats 4000000
namespace Go.Lw
open Go
noncomputable section
variable {pg:Prg} {gh:List GObj} {e:IExit} {s:St}
def q47:Tr:=(tI 13 (tI 7 (tO 4 (tI 1 (.node 0 (.agg [.any,.any,.any,.any,.any]) .nil .nil) .nil) (tI 6 (uO 5) .nil)) (tB 11 (tI 10 (uO 9) .nil) (uI 12))) (tO 22 (tI 19 (tI 16 (uO 15) .nil) (tB 21 (uI 20) .nil)) (tO 25 (tO 24 (uI 23) .nil) (uO 26))))
def qbw (pg:Prg) (x1:Int) (v5:PV) (x6:Int) (vc0_0 vc0_1:PV) (vc0_2 vc0_3 vc0_4:PV) (gh:List GObj):DR:=stK 1 v5 (some (.normal,⟨[(1,I x1),(2,.ptr false 0 0),(5,v5),(6,(I (IntKind.i64.wrap (x6+1))))],[[vc0_0,vc0_1,vc0_2,vc0_3,vc0_4]],gh⟩))
theorem qbw_ {x1:Int} {v5:PV} {x6:Int} {vc0_0 vc0_1:PV} {vc0_2 vc0_3 vc0_4:PV} (h:qbw pg x1 v5 x6 vc0_0 vc0_1 vc0_2 vc0_3 vc0_4 gh=some (e,s)):runL pg q2e ⟨[(1,I x1),(2,.ptr false 0 0),(5,v5),(6,I x6)],[[vc0_0,vc0_1,vc0_2,vc0_3,vc0_4]],gh⟩=some (e,s):=
 jee q47 (Eq.trans (by kernel_rfl) h)
def q48 (pg:Prg) (x1:Int) (v5:PV) (x6:Int) (vc0_0 vc0_1:PV) (vc0_2 vc0_3 vc0_4:PV) (gh:List GObj):DR:=isC (degr vc0_0) (lenS (degr (degr vc0_0)) fun n1=>stK 1 v5 (
  br 11 (decide (x6<(n1:Int))) (isC (degr vc0_0) (
  idX 6 none (degr (degr vc0_0)) x6 fun p2=>faX (degr p2) 0 fun p3=>
  ldX [[vc0_0,vc0_1,vc0_2,vc0_3,vc0_4]] gh false 1 (degr p3) fun v4=>unI .i64 v4 fun n5=>stK 1 v5 (
  br 21 (n5==x1) (
  apX 1 8 v5 (.sl false 1 [I x6]) fun l6=>
  kR (runL pg q2e ⟨[(1,I x1),(2,.ptr false 0 0),(5,.sl true 1 l6),(6,I x6)],[[vc0_0,vc0_1,vc0_2,vc0_3,vc0_4]],gh⟩) (fun e s=>po [1,2,5,6] 1 e s (fun e s=>some (e,s)))) (stK 1 v5 (
  kR (runL pg q2e ⟨[(1,I x1),(2,.ptr false 0 0),(5,v5),(6,I x6)],[[vc0_0,vc0_1,vc0_2,vc0_3,vc0_4]],gh⟩) (fun e s=>po [1,2,5,6] 1 e s (fun e s=>some (e,s)))))))) (some ((.exit 0),⟨[(1,I x1),(2,.ptr false 0 0),(5,v5),(6,I x6),(11,(B (decide (x6<(n1:Int)))))],[[vc0_0,vc0_1,vc0_2,vc0_3,vc0_4]],gh⟩))))
theorem q48_ {x1:Int} {v5:PV} {x6:Int} {vc0_0 vc0_1:PV} {vc0_2 vc0_3 vc0_4:PV} (h:q48 pg x1 v5 x6 vc0_0 vc0_1 vc0_2 vc0_3 vc0_4 gh=some (e,s)):runL pg q90 ⟨[(1,I x1),(2,.ptr false 0 0),(5,v5),(6,I x6)],[[vc0_0,vc0_1,vc0_2,vc0_3,vc0_4]],gh⟩=some (e,s):=
 jee q47 (Eq.trans (by kernel_rfl) h)
def qbx (pg:Prg) (v5:PV) (gh:List GObj):DR:=isC (degr v5) (stK 0 (degr v5) (some (.ret,⟨[(4,(degr v5))],[],gh⟩)))
theorem qbx_ {v5:PV} (h:qbx pg v5 gh=some (e,s)):runL pg q5o ⟨[(5,v5)],[],gh⟩=some (e,s):=
 jee q47 (Eq.trans (by kernel_rfl) h)
def qby (pg:Prg) (v0_0 v0_1:PV) (v0_2 v0_3 v0_4:PV) (x1:Int) (gh:List GObj):DR:=onK (degr1 v0_0) (onK (degr1 v0_1) (onK (degr1 v0_2) (onK (degr1 v0_3) (onK (degr1 v0_4) (
  kR (runL pg q5n ⟨[(1,I x1),(2,.ptr false 0 0),(5,.sl true 1 []),(6,I 0)],[[(degr1 v0_0),(degr1 v0_1),(degr1 v0_2),(degr1 v0_3),(degr1 v0_4)]],gh⟩) (fun e s=>nx e s (fun e s=>some (e,s)) fun s=>kR (runL pg q5o s) (fun e s=>some (e,s))))))))
theorem qby_ {v0_0 v0_1:PV} {v0_2 v0_3 v0_4:PV} {x1:Int} (h:qby pg v0_0 v0_1 v0_2 v0_3 v0_4 x1 gh=some (e,s)):runL pg q91 ⟨[(0,.agg [v0_0,v0_1,v0_2,v0_3,v0_4]),(1,I x1)],[],gh⟩=some (e,s):=
 jee q47 (Eq.trans (by kernel_rfl) h)
end
end Go.Lw
end

/-! What the code of function ref_Bits comes to, piece by piece. Written by program (dprint.py). -/
section
set_option maxRecDepth 10000
set_option maxHeartbeats 4000000
namespace Go.Lw
open Go
noncomputable section
variable {pg:Prg} {gh:List GObj} {e:IExit} {s:St}
def q49:Tr:=(tO 15 (tI 7 (tI 4 (tI 1 (.node 0 (.agg [.any,.any,.any,.any,.any]) .nil .nil) .nil) (tI 6 (uI 5) .nil)) (tB 11 (tI 10 (uO 9) .nil) (tI 13 (uI 12) .nil))) (tO 24 (tI 20 (tI 19 (uI 16) .nil) (tI 22 (uB 21) .nil)) (tI 29 (tI 28 (uI 25) .nil) (uI 30))))
def qbz (pg:Prg) (x1 x5 x6:Int) (vc0_0 vc0_1:PV) (vc0_2 vc0_3 vc0_4:PV) (gh:List GObj):DR:=some (.normal,⟨[(1,I x1),(2,.ptr false 0 0),(5,I x5),(6,(I (IntKind.i64.wrap (x6+1))))],[[vc0_0,vc0_1,vc0_2,vc0_3,vc0_4]],gh⟩)
theorem qbz_ {x1 x5 x6:Int} {vc0_0 vc0_1:PV} {vc0_2 vc0_3 vc0_4:PV} (h:qbz pg x1 x5 x6 vc0_0 vc0_1 vc0_2 vc0_3 vc0_4 gh=some (e,s)):runL pg q2g ⟨[(1,I x1),(2,.ptr false 0 0),(5,I x5),(6,I x6)],[[vc0_0,vc0_1,vc0_2,vc0_3,vc0_4]],gh⟩=some (e,s):=
 jee q49 (Eq.trans (by kernel_rfl) h)
def q4a (pg:Prg) (x1 x5 x6:Int) (vc0_0 vc0_1:PV) (vc0_2 vc0_3 vc0_4:PV) (gh:List GObj):DR:=isC (degr vc0_0) (lenS (degr (degr vc0_0)) fun n1=>
  br 11 (decide (x6<(n1:Int))) (isC (degr vc0_0) (
  idX 6 none (degr (degr vc0_0)) x6 fun p2=>faX (degr p2) 0 fun p3=>
  ldX [[vc0_0,vc0_1,vc0_2,vc0_3,vc0_4]] gh false 1 (degr p3) fun v4=>unI .i64 v4 fun n5=>
  br 21 (n5==x1) (isC (degr vc0_0) (
  idX 6 none (degr (degr vc0_0)) x6 fun p6=>faX (degr p6) 1 fun p7=>
  ldX [[vc0_0,vc0_1,vc0_2,vc0_3,vc0_4]] gh false 1 (degr p7) fun v8=>unI .i64 v8 fun n9=>
  kR (runL pg q2g ⟨[(1,I x1),(2,.ptr false 0 0),(5,(I (IntKind.i64.wrap (x5+n9)))),(6,I x6)],[[vc0_0,vc0_1,vc0_2,vc0_3,vc0_4]],gh⟩) (fun e s=>po [1,2,5,6] 1 e s (fun e s=>some (e,s))))) (
  kR (runL pg q2g ⟨[(1,I x1),(2,.ptr false 0 0),(5,I x5),(6,I x6)],[[vc0_0,vc0_1,vc0_2,vc0_3,vc0_4]],gh⟩) (fun e s=>po [1,2,5,6] 1 e s (fun e s=>some (e,s)))))) (some ((.exit 0),⟨[(1,I x1),(2,.ptr false 0 0),(5,I x5),(6,I x6),(11,(B (decide (x6<(n1:Int)))))],[[vc0_0,vc0_1,vc0_2,vc0_3,vc0_4]],gh⟩)))
theorem q4a_ {x1 x5 x6:Int} {vc0_0 vc0_1:PV} {vc0_2 vc0_3 vc0_4:PV} (h:q4a pg x1 x5 x6 vc0_0 vc0_1 vc0_2 vc0_3 vc0_4 gh=some (e,s)):runL pg q95 ⟨[(1,I x1),(2,.ptr false 0 0),(5,I x5),(6,I x6)],[[vc0_0,vc0_1,vc0_2,vc0_3,vc0_4]],gh⟩=some (e,s):=
 jee q49 (Eq.trans (by kernel_rfl) h)
def qec (pg:Prg) (x5:Int) (gh:List GObj):DR:=some (.ret,⟨[(4,I x5)],[],gh⟩)
theorem qec_ {x5:Int} (h:qec pg x5 gh=some (e,s)):runL pg q5s ⟨[(5,I x5)],[],gh⟩=some (e,s):=
 jee q49 (Eq.trans (by kernel_rfl) h)
def qc0 (pg:Prg) (v0_0 v0_1:PV) (v0_2 v0_3 v0_4:PV) (x1:Int) (gh:List GObj):DR:=onK (degr1 v0_0) (onK (degr1 v0_1) (onK (degr1 v0_2) (onK (degr1 v0_3) (onK (degr1 v0_4) (
  kR (runL pg q5r ⟨[(1,I x1),(2,.ptr false 0 0),(5,I 0),(6,I 0)],[[(degr1 v0_0),(degr1 v0_1),(degr1 v0_2),(degr1 v0_3),(degr1 v0_4)]],gh⟩) (fun e s=>nx e s (fun e s=>some (e,s)) fun s=>kR (runL pg q5s s) (fun e s=>some (e,s))))))))
theorem qc0_ {v0_0 v0_1:PV} {v0_2 v0_3 v0_4:PV} {x1:Int} (h:qc0 pg v0_0 v0_1 v0_2 v0_3 v0_4 x1 gh=some (e,s)):runL pg q96 ⟨[(0,.agg [v0_0,v0_1,v0_2,v0_3,v0_4]),(1,I x1)],[],gh⟩=some (e,s):=
 jee q49 (Eq.trans (by kernel_rfl) h)
end
end Go.Lw
end

/-! What the code of function ref_hangs comes to, piece by piece. Written by program (dprint.py). -/
section
set_option maxRecDepth 10000
set_option maxHeartbeats 4000000
namespace Go.Lw
open Go
noncomputable section
variable {pg:Prg} {gh:List GObj} {e:IExit} {s:St}
def q1g:Tr:=(tI 35 (.node 18 (.agg [.int .i64,.int .i64,.int .i64,.int .i64,.int .i64,.int .i64]) (tO 9 (tI 4 (tO 2 (.node 0 (.agg [.any,.any,.any,.any,.any]) .nil .nil) (uO 3)) (tI 7 (uB 6) .nil)) (tI 13 (tB 11 (uI 10) (uI 12)) (tI 16 (uO 15) .nil))) (tI 28 (tI 24 (tB 21 (uI 20) (uB 22)) (tB 26 (uB 25) .nil)) (tB 31 (tB 30 (uI 29) .nil) (tO 33 (uB 32) .nil)))) (tI 53 (tB 44 (tI 41 (tB 38 (uB 37) (uI 40)) (tB 43 (uB 42) .nil)) (tB 49 (tI 47 (uO 45) .nil) (tI 52 (uB 50) .nil))) (tB 62 (tO 57 (tB 55 (uB 54) (uB 56)) (tB 61 (uI 59) .nil)) (tO 65 (tB 64 (uO 63) .nil) (tO 67 (uO 66) .nil)))))
def qc1 (pg:Prg) (v3:PV) (x4:Int) (b6:Bool) (vc0_0 vc0_1:PV) (vc0_2 vc0_3 vc0_4:PV) (gh:List GObj):DR:=
  apX 1 1 v3 (.sl false 1 [B b6]) fun l1=>some (.normal,⟨[(1,.ptr false 0 0),(3,.sl true 1 l1),(4,I x4)],[[vc0_0,vc0_1,vc0_2,vc0_3,vc0_4]],gh⟩)
theorem qc1_ {v3:PV} {x4:Int} {b6:Bool} {vc0_0 vc0_1:PV} {vc0_2 vc0_3 vc0_4:PV} (h:qc1 pg v3 x4 b6 vc0_0 vc0_1 vc0_2 vc0_3 vc0_4 gh=some (e,s)):runL pg q1l ⟨[(1,.ptr false 0 0),(3,v3),(4,I x4),(6,B b6)],[[vc0_0,vc0_1,vc0_2,vc0_3,vc0_4]],gh⟩=some (e,s):=
 jee q1g (Eq.trans (by kernel_rfl) h)
def q4b (pg:Prg) (v3:PV) (x4:Int) (b6:Bool) (vc0_0 vc0_1:PV) (vc0_2 vc0_3 vc0_4:PV) (xc1_0 xc1_1:Int) (xc1_2 xc1_3:Int) (xc1_4 xc1_5:Int) (gh:List GObj):DR:=
  callR gh true (callL pg 26 [I xc1_0] gh) fun r1 gh2=>unI .i64 r1 fun n3=>stK 2 v3 (
  br 54 (decide (2<n3)) (
  br 56 b6 (stK 1 v3 (stK 1 v3 (
  kR (runL pg q1l ⟨[(1,.ptr false 0 0),(3,v3),(4,I x4),(6,B true)],[[vc0_0,vc0_1,vc0_2,vc0_3,vc0_4]],gh2⟩) (fun e s=>some (e,s))))) (isC (degr v3) (
  idX 1 none (degr (degr v3)) xc1_4 fun p4=>
  ldX [[vc0_0,vc0_1,vc0_2,vc0_3,vc0_4],[I xc1_0,I xc1_1,I xc1_2,I xc1_3,I xc1_4,I xc1_5]] gh2 false 1 (degr p4) fun v5=>unB v5 fun b7=>stK 1 v3 (stK 1 v3 (
  kR (runL pg q1l ⟨[(1,.ptr false 0 0),(3,v3),(4,I x4),(6,B b7)],[[vc0_0,vc0_1,vc0_2,vc0_3,vc0_4]],gh2⟩) (fun e s=>some (e,s))))))) (stK 1 v3 (
  kR (runL pg q1l ⟨[(1,.ptr false 0 0),(3,v3),(4,I x4),(6,B b6)],[[vc0_0,vc0_1,vc0_2,vc0_3,vc0_4]],gh2⟩) (fun e s=>some (e,s)))))
theorem q4b_ {v3:PV} {x4:Int} {b6:Bool} {vc0_0 vc0_1:PV} {vc0_2 vc0_3 vc0_4:PV} {xc1_0 xc1_1:Int} {xc1_2 xc1_3:Int} {xc1_4 xc1_5:Int} (h:q4b pg v3 x4 b6 vc0_0 vc0_1 vc0_2 vc0_3 vc0_4 xc1_0 xc1_1 xc1_2 xc1_3 xc1_4 xc1_5 gh=some (e,s)):runL pg q1m ⟨[(1,.ptr false 0 0),(3,v3),(4,I x4),(5,.ptr false 1 0),(6,B b6)],[[vc0_0,vc0_1,vc0_2,vc0_3,vc0_4],[I xc1_0,I xc1_1,I xc1_2,I xc1_3,I xc1_4,I xc1_5]],gh⟩=some (e,s):=
 jee q1g (Eq.trans (by kernel_rfl) h)
def q4c (pg:Prg) (v3:PV) (x4:Int) (b6:Bool) (vc0_0 vc0_1:PV) (vc0_2 vc0_3 vc0_4:PV) (xc1_0 xc1_1:Int) (xc1_2 xc1_3:Int) (xc1_4 xc1_5:Int) (gh:List GObj):DR:=
  callR gh true (callL pg 26 [I xc1_0] gh) fun r1 gh2=>unI .i64 r1 fun n3=>stK 2 v3 (
  br 42 (decide (1<n3)) (
  br 44 b6 (stK 2 v3 (stK 2 v3 (
  kR (runL pg q1m ⟨[(1,.ptr false 0 0),(3,v3),(4,I x4),(5,.ptr false 1 0),(6,B true)],[[vc0_0,vc0_1,vc0_2,vc0_3,vc0_4],[I xc1_0,I xc1_1,I xc1_2,I xc1_3,I xc1_4,I xc1_5]],gh2⟩) (fun e s=>some (e,s))))) (isC (degr v3) (
  idX 1 none (degr (degr v3)) xc1_3 fun p4=>
  ldX [[vc0_0,vc0_1,vc0_2,vc0_3,vc0_4],[I xc1_0,I xc1_1,I xc1_2,I xc1_3,I xc1_4,I xc1_5]] gh2 false 1 (degr p4) fun v5=>unB v5 fun b7=>stK 2 v3 (stK 2 v3 (
  kR (runL pg q1m ⟨[(1,.ptr false 0 0),(3,v3),(4,I x4),(5,.ptr false 1 0),(6,B b7)],[[vc0_0,vc0_1,vc0_2,vc0_3,vc0_4],[I xc1_0,I xc1_1,I xc1_2,I xc1_3,I xc1_4,I xc1_5]],gh2⟩) (fun e s=>some (e,s))))))) (stK 2 v3 (
  kR (runL pg q1m ⟨[(1,.ptr false 0 0),(3,v3),(4,I x4),(5,.ptr false 1 0),(6,B b6)],[[vc0_0,vc0_1,vc0_2,vc0_3,vc0_4],[I xc1_0,I xc1_1,I xc1_2,I xc1_3,I xc1_4,I xc1_5]],gh2⟩) (fun e s=>some (e,s)))))
theorem q4c_ {v3:PV} {x4:Int} {b6:Bool} {vc0_0 vc0_1:PV} {vc0_2 vc0_3 vc0_4:PV} {xc1_0 xc1_1:Int} {xc1_2 xc1_3:Int} {xc1_4 xc1_5:Int} (h:q4c pg v3 x4 b6 vc0_0 vc0_1 vc0_2 vc0_3 vc0_4 xc1_0 xc1_1 xc1_2 xc1_3 xc1_4 xc1_5 gh=some (e,s)):runL pg qy ⟨[(1,.ptr false 0 0),(3,v3),(4,I x4),(5,.ptr false 1 0),(6,B b6)],[[vc0_0,vc0_1,vc0_2,vc0_3,vc0_4],[I xc1_0,I xc1_1,I xc1_2,I xc1_3,I xc1_4,I xc1_5]],gh⟩=some (e,s):=
 jee q1g (Eq.trans (by kernel_rfl) h)
def qc2 (pg:Prg) (v3:PV) (x4:Int) (vc0_0 vc0_1:PV) (vc0_2 vc0_3 vc0_4:PV) (gh:List GObj):DR:=stK 1 v3 (some (.normal,⟨[(1,.ptr false 0 0),(3,v3),(4,(I (IntKind.i64.wrap (x4+1))))],[[vc0_0,vc0_1,vc0_2,vc0_3,vc0_4]],gh⟩))
theorem qc2_ {v3:PV} {x4:Int} {vc0_0 vc0_1:PV} {vc0_2 vc0_3 vc0_4:PV} (h:qc2 pg v3 x4 vc0_0 vc0_1 vc0_2 vc0_3 vc0_4 gh=some (e,s)):runL pg qz ⟨[(1,.ptr false 0 0),(3,v3),(4,I x4)],[[vc0_0,vc0_1,vc0_2,vc0_3,vc0_4]],gh⟩=some (e,s):=
 jee q1g (Eq.trans (by kernel_rfl) h)
def q1h (pg:Prg) (v3:PV) (x4:Int) (vc0_0 vc0_1:PV) (vc0_2 vc0_3 vc0_4:PV) (gh:List GObj):DR:=isC (degr vc0_0) (lenS (degr (degr vc0_0)) fun n1=>stK 1 v3 (
  br 11 (decide (x4<(n1:Int))) (isC (degr vc0_0) (
  idX 6 none (degr (degr vc0_0)) x4 fun p2=>
  ldX [[vc0_0,vc0_1,vc0_2,vc0_3,vc0_4]] gh true 6 (degr p2) fun v4=>unA 6 v4 fun c5 c6 c7 c8 c9 c10=>unI .i64 c5 fun n11=>unI .i64 c6 fun n12=>unI .i64 c7 fun n13=>unI .i64 c8 fun n14=>unI .i64 c9 fun n15=>unI .i64 c10 fun n16=>stK 2 v3 (
  br 22 (n11==2) (stK 2 v3 (
  callR gh true (callL pg 26 [I n11] gh) fun r17 gh18=>unI .i64 r17 fun n19=>stK 2 v3 (
  br 30 (decide (0<n19)) (stK 2 v3 (stK 2 v3 (
  kR (runL pg qy ⟨[(1,.ptr false 0 0),(3,v3),(4,I x4),(5,.ptr false 1 0),(6,B true)],[[vc0_0,vc0_1,vc0_2,vc0_3,vc0_4],[I n11,I n12,I n13,I n14,I n15,I n16]],gh18⟩) (fun e s=>bk 1 e s (fun e s=>nx e s (fun e s=>po [1,3,4] 1 e s (fun e s=>some (e,s))) fun s=>kR (runL pg qz s) (fun e s=>po [1,3,4] 1 e s (fun e s=>some (e,s)))))))) (stK 2 v3 (
  kR (runL pg qy ⟨[(1,.ptr false 0 0),(3,v3),(4,I x4),(5,.ptr false 1 0),(6,B true)],[[vc0_0,vc0_1,vc0_2,vc0_3,vc0_4],[I n11,I n12,I n13,I n14,I n15,I n16]],gh18⟩) (fun e s=>bk 1 e s (fun e s=>nx e s (fun e s=>po [1,3,4] 1 e s (fun e s=>some (e,s))) fun s=>kR (runL pg qz s) (fun e s=>po [1,3,4] 1 e s (fun e s=>some (e,s)))))))))) (stK 2 v3 (
  callR gh true (callL pg 26 [I n11] gh) fun r20 gh21=>unI .i64 r20 fun n22=>stK 2 v3 (
  br 30 (decide (0<n22)) (
  br 32 (n11==3) (stK 2 v3 (stK 2 v3 (
  kR (runL pg qy ⟨[(1,.ptr false 0 0),(3,v3),(4,I x4),(5,.ptr false 1 0),(6,B true)],[[vc0_0,vc0_1,vc0_2,vc0_3,vc0_4],[I n11,I n12,I n13,I n14,I n15,I n16]],gh21⟩) (fun e s=>bk 1 e s (fun e s=>nx e s (fun e s=>po [1,3,4] 1 e s (fun e s=>some (e,s))) fun s=>kR (runL pg qz s) (fun e s=>po [1,3,4] 1 e s (fun e s=>some (e,s)))))))) (isC (degr v3) (
  idX 1 none (degr (degr v3)) n13 fun p23=>
  ldX [[vc0_0,vc0_1,vc0_2,vc0_3,vc0_4],[I n11,I n12,I n13,I n14,I n15,I n16]] gh21 false 1 (degr p23) fun v24=>unB v24 fun b25=>stK 2 v3 (stK 2 v3 (
  kR (runL pg qy ⟨[(1,.ptr false 0 0),(3,v3),(4,I x4),(5,.ptr false 1 0),(6,B b25)],[[vc0_0,vc0_1,vc0_2,vc0_3,vc0_4],[I n11,I n12,I n13,I n14,I n15,I n16]],gh21⟩) (fun e s=>bk 1 e s (fun e s=>nx e s (fun e s=>po [1,3,4] 1 e s (fun e s=>some (e,s))) fun s=>kR (runL pg qz s) (fun e s=>po [1,3,4] 1 e s (fun e s=>some (e,s)))))))))) (stK 2 v3 (
  kR (runL pg qy ⟨[(1,.ptr false 0 0),(3,v3),(4,I x4),(5,.ptr false 1 0),(6,(B (n11==3)))],[[vc0_0,vc0_1,vc0_2,vc0_3,vc0_4],[I n11,I n12,I n13,I n14,I n15,I n16]],gh21⟩) (fun e s=>bk 1 e s (fun e s=>nx e s (fun e s=>po [1,3,4] 1 e s (fun e s=>some (e,s))) fun s=>kR (runL pg qz s) (fun e s=>po [1,3,4] 1 e s (fun e s=>some (e,s))))))))))))) (some ((.exit 0),⟨[(1,.ptr false 0 0),(3,v3),(4,I x4),(11,(B (decide (x4<(n1:Int)))))],[[vc0_0,vc0_1,vc0_2,vc0_3,vc0_4]],gh⟩))))
theorem q1h_ {v3:PV} {x4:Int} {vc0_0 vc0_1:PV} {vc0_2 vc0_3 vc0_4:PV} (h:q1h pg v3 x4 vc0_0 vc0_1 vc0_2 vc0_3 vc0_4 gh=some (e,s)):runL pg q97 ⟨[(1,.ptr false 0 0),(3,v3),(4,I x4)],[[vc0_0,vc0_1,vc0_2,vc0_3,vc0_4]],gh⟩=some (e,s):=
 jee q1g (Eq.trans (by kernel_rfl) h)
def qc3 (pg:Prg) (v3:PV) (gh:List GObj):DR:=isC (degr v3) (stK 0 (degr v3) (some (.ret,⟨[(2,(degr v3))],[],gh⟩)))
theorem qc3_ {v3:PV} (h:qc3 pg v3 gh=some (e,s)):runL pg q5v ⟨[(3,v3)],[],gh⟩=some (e,s):=
 jee q1g (Eq.trans (by kernel_rfl) h)
def qc4 (pg:Prg) (v0_0 v0_1:PV) (v0_2 v0_3 v0_4:PV) (gh:List GObj):DR:=onK (degr1 v0_0) (onK (degr1 v0_1) (onK (degr1 v0_2) (onK (degr1 v0_3) (onK (degr1 v0_4) (
  kR (runL pg q5u ⟨[(1,.ptr false 0 0),(3,.sl true 1 []),(4,I 0)],[[(degr1 v0_0),(degr1 v0_1),(degr1 v0_2),(degr1 v0_3),(degr1 v0_4)]],gh⟩) (fun e s=>nx e s (fun e s=>some (e,s)) fun s=>kR (runL pg q5v s) (fun e s=>some (e,s))))))))
theorem qc4_ {v0_0 v0_1:PV} {v0_2 v0_3 v0_4:PV} (h:qc4 pg v0_0 v0_1 v0_2 v0_3 v0_4 gh=some (e,s)):runL pg q98 ⟨[(0,.agg [v0_0,v0_1,v0_2,v0_3,v0_4])],[],gh⟩=some (e,s):=
 jee q1g (Eq.trans (by kernel_rfl) h)
end
end Go.Lw
end

/-! What the code of function ref_CheckModel comes to, piece by piece. Written by program (dprint.py). -/
section
set_option maxRecDepth 10000
set_option maxHeartbeats 4000000
namespace Go.Lw
open Go
noncomputable section
variable {pg:Prg} {gh:List GObj} {e:IExit} {s:St}
def qb:Tr:=(tO 97 (tI 48 (tI 24 (tI 12 (tI 6 (tI 3 (tI 2 (.node 0 (.agg [.any,.any,.any,.any,.any]) .nil .nil) .nil) (tO 5 (uI 4) .nil)) (tI 10 (tI 8 (uO 7) .nil) (uO 11))) (tO 18 (tI 15 (tO 14 (uI 13) .nil) (uI 16)) (tB 21 (tB 20 (uI 19) .nil) (uO 23)))) (tB 37 (tB 31 (tB 27 (tB 26 (uB 25) .nil) (tI 30 (uO 29) .nil)) (tO 35 (tI 33 (uB 32) .nil) (uI 36))) (tI 43 (tO 41 (tI 39 (uI 38) .nil) (uI 42)) (tI 46 (tB 45 (uI 44) .nil) (.node 47 (.agg [.any,.any,.any,.any,.any]) .nil .nil))))) (tI 71 (tI 59 (tB 54 (.node 51 (.agg [.any,.any,.any,.any,.any]) (tB 50 (uB 49) .nil) (tB 53 (uI 52) .nil)) (tI 57 (tO 56 (.node 55 (.agg [.any,.any,.any,.any,.any]) .nil .nil) .nil) (uB 58))) (tO 66 (tI 63 (tO 62 (uI 60) .nil) (uB 64)) (tI 69 (tO 68 (uI 67) .nil) (uB 70)))) (tB 84 (tI 78 (tI 74 (tO 73 (uI 72) .nil) (.node 76 (.agg [.int .i64,.int .i64]) .nil .nil)) (tI 82 (tI 81 (uO 80) .nil) (uB 83))) (tI 91 (tO 89 (tI 87 (uB 85) .nil) (uI 90)) (tB 94 (tB 93 (uB 92) .nil) (uB 95)))))) (tO 155 (tI 131 (tB 119 (tI 108 (tB 103 (tI 102 (uI 99) .nil) (tO 106 (uB 104) .nil)) (tI 115 (tO 113 (uI 111) .nil) (uI 118))) (tI 125 (tB 122 (tB 121 (uI 120) .nil) (uO 123)) (tI 129 (tB 128 (uB 127) .nil) (uB 130)))) (tI 143 (tO 138 (tI 135 (tO 134 (uI 132) .nil) (uB 136)) (tI 141 (tO 140 (uI 139) .nil) (uB 142))) (tI 148 (tI 146 (tI 145 (uI 144) .nil) (uB 147)) (tI 151 (tO 150 (uI 149) .nil) (uI 154))))) (tO 181 (tO 170 (.node 164 (.agg [.any,.any,.any,.any,.any]) (tB 160 (tI 159 (uI 156) .nil) (tI 163 (uO 162) .nil)) (tB 167 (tI 166 (uO 165) .nil) (uO 168))) (tO 176 (tO 174 (tO 173 (uO 171) .nil) (uI 175)) (tI 179 (tB 178 (uI 177) .nil) (uI 180)))) (tI 193 (tI 188 (tO 186 (tI 184 (uI 182) .nil) (uI 187)) (tI 191 (tB 190 (uB 189) .nil) (uO 192))) (tO 199 (tI 196 (tI 195 (uB 194) .nil) (uO 198)) (tI 205 (tI 202 (uI 200) .nil) (uB 206)))))))
def q4d (pg:Prg) (x3:Int) (vc0_0 vc0_1:PV) (vc0_2 vc0_3 vc0_4:PV) (gh:List GObj):DR:=isC (degr vc0_0) (lenS (degr (degr vc0_0)) fun n1=>
  br 37 (decide (x3<(n1:Int))) (isC (degr vc0_0) (arK (degr (degr vc0_0)) (
  callR gh true (callL pg 72 [(degr (degr vc0_0)),I x3] gh) fun r2 gh3=>unI .i64 r2 fun n4=>
  br 45 (n4 !=0) (some (.ret,⟨[(2,I n4)],[],gh3⟩)) (some (.normal,⟨[(1,.ptr false 0 0),(3,(I (IntKind.i64.wrap (x3+1))))],[[vc0_0,vc0_1,vc0_2,vc0_3,vc0_4]],gh3⟩))))) (some ((.exit 0),⟨[(1,.ptr false 0 0),(3,I x3),(37,(B (decide (x3<(n1:Int)))))],[[vc0_0,vc0_1,vc0_2,vc0_3,vc0_4]],gh⟩)))
theorem q4d_ {x3:Int} {vc0_0 vc0_1:PV} {vc0_2 vc0_3 vc0_4:PV} (h:q4d pg x3 vc0_0 vc0_1 vc0_2 vc0_3 vc0_4 gh=some (e,s)):runL pg q8r ⟨[(1,.ptr false 0 0),(3,I x3)],[[vc0_0,vc0_1,vc0_2,vc0_3,vc0_4]],gh⟩=some (e,s):=
 jee qb (Eq.trans (by kernel_rfl) h)
def qw (pg:Prg) (v5:PV) (x6:Int) (v7:PV) (x8:Int) (vc0_0 vc0_1:PV) (vc0_2 vc0_3 vc0_4:PV) (gh:List GObj):DR:=isC (degr v7) (lenS (degr (degr v7)) fun n1=>stK 1 v5 (stK 1 v7 (
  br 70 (decide (x8<(n1:Int))) (isC (degr v7) (
  idX 2 none (degr (degr v7)) x8 fun p2=>
  ldX [[vc0_0,vc0_1,vc0_2,vc0_3,vc0_4]] gh true 2 (degr p2) fun v3=>unA 2 v3 fun c4 c5=>unI .i64 c4 fun n6=>unI .i64 c5 fun n7=>stK 2 v5 (stK 2 v7 (isC (degr vc0_0) (lenS (degr (degr vc0_0)) fun n8=>
  callR gh true (callL pg 50 [I n6,I 0,(I (IntKind.i64.wrap ((n8:Int)-1)))] gh) fun r9 gh10=>unB r9 fun b11=>
  br 85 (!b11) (stK 2 v5 (stK 2 v7 (some (.ret,⟨[(2,I 5)],[],gh10⟩)))) (isC (degr vc0_0) (lenS (degr (degr vc0_0)) fun n12=>
  callR gh10 true (callL pg 50 [I n7,I 0,(I (IntKind.i64.wrap ((n12:Int)-1)))] gh10) fun r13 gh14=>unB r13 fun b15=>
  br 95 (!b15) (stK 2 v5 (stK 2 v7 (some (.ret,⟨[(2,I 5)],[],gh14⟩)))) (isC (degr vc0_0) (
  idX 6 none (degr (degr vc0_0)) n6 fun p16=>faX (degr p16) 0 fun p17=>
  ldX [[vc0_0,vc0_1,vc0_2,vc0_3,vc0_4],[I n6,I n7]] gh14 false 1 (degr p17) fun v18=>unI .i64 v18 fun n19=>stK 2 v5 (stK 2 v7 (
  br 104 (n19 !=3) (some (.ret,⟨[(2,I 5)],[],gh14⟩)) (isC (degr vc0_0) (
  idX 6 none (degr (degr vc0_0)) n6 fun p20=>faX (degr p20) 1 fun p21=>
  ldX [[vc0_0,vc0_1,vc0_2,vc0_3,vc0_4],[I n6,I n7]] gh14 false 1 (degr p21) fun v22=>unI .i64 v22 fun n23=>isC (degr vc0_0) (
  idX 6 none (degr (degr vc0_0)) n7 fun p24=>faX (degr p24) 1 fun p25=>
  ldX [[vc0_0,vc0_1,vc0_2,vc0_3,vc0_4],[I n6,I n7]] gh14 false 1 (degr p25) fun v26=>unI .i64 v26 fun n27=>stK 2 v5 (stK 2 v7 (
  br 119 (n23 !=n27) (some (.ret,⟨[(2,I 1)],[],gh14⟩)) (
  br 122 (x6==0) (isC (degr v5) (
  idX 1 none (degr (degr v5)) n7 fun p28=>
  ldX [[vc0_0,vc0_1,vc0_2,vc0_3,vc0_4],[I n6,I n7]] gh14 false 1 (degr p28) fun v29=>unB v29 fun b30=>stK 1 v5 (stK 1 v7 (
  br 128 b30 (some (.ret,⟨[(2,I 4)],[],gh14⟩)) (stK 1 v5 (stK 1 v7 (stK 1 v5 (stK 1 v7 (some (.normal,⟨[(1,.ptr false 0 0),(5,v5),(6,I x6),(7,v7),(8,(I (IntKind.i64.wrap (x8+1))))],[[vc0_0,vc0_1,vc0_2,vc0_3,vc0_4]],gh14⟩)))))))))) (stK 1 v5 (stK 1 v7 (stK 1 v5 (stK 1 v7 (stK 1 v5 (stK 1 v7 (some (.normal,⟨[(1,.ptr false 0 0),(5,v5),(6,I x6),(7,v7),(8,(I (IntKind.i64.wrap (x8+1))))],[[vc0_0,vc0_1,vc0_2,vc0_3,vc0_4]],gh14⟩))))))))))))))))))))))))) (some ((.exit 4),⟨[(1,.ptr false 0 0),(5,v5),(6,I x6),(7,v7),(8,I x8),(70,(B (decide (x8<(n1:Int)))))],[[vc0_0,vc0_1,vc0_2,vc0_3,vc0_4]],gh⟩)))))
theorem qw_ {v5:PV} {x6:Int} {v7:PV} {x8:Int} {vc0_0 vc0_1:PV} {vc0_2 vc0_3 vc0_4:PV} (h:qw pg v5 x6 v7 x8 vc0_0 vc0_1 vc0_2 vc0_3 vc0_4 gh=some (e,s)):runL pg q8s ⟨[(1,.ptr false 0 0),(5,v5),(6,I x6),(7,v7),(8,I x8)],[[vc0_0,vc0_1,vc0_2,vc0_3,vc0_4]],gh⟩=some (e,s):=
 jee qb (Eq.trans (by kernel_rfl) h)
def qc5 (pg:Prg) (v5:PV) (x6:Int) (v7 vc0_0:PV) (vc0_1 vc0_2:PV) (vc0_3 vc0_4:PV) (gh:List GObj):DR:=stK 1 v5 (stK 1 v7 (
  kR (runL pg q25 ⟨[(1,.ptr false 0 0),(5,v5),(6,I x6),(7,v7),(8,I 0)],[[vc0_0,vc0_1,vc0_2,vc0_3,vc0_4]],gh⟩) (fun e s=>some (e,s))))
theorem qc5_ {v5:PV} {x6:Int} {v7 vc0_0:PV} {vc0_1 vc0_2:PV} {vc0_3 vc0_4:PV} (h:qc5 pg v5 x6 v7 vc0_0 vc0_1 vc0_2 vc0_3 vc0_4 gh=some (e,s)):runL pg q26 ⟨[(1,.ptr false 0 0),(5,v5),(6,I x6),(7,v7)],[[vc0_0,vc0_1,vc0_2,vc0_3,vc0_4]],gh⟩=some (e,s):=
 jee qb (Eq.trans (by kernel_rfl) h)
def qc6 (pg:Prg) (v5:PV) (x6:Int) (vc0_0 vc0_1:PV) (vc0_2 vc0_3 vc0_4:PV) (gh:List GObj):DR:=stK 1 v5 (some (.normal,⟨[(1,.ptr false 0 0),(5,v5),(6,(I (IntKind.i64.wrap (x6+1))))],[[vc0_0,vc0_1,vc0_2,vc0_3,vc0_4]],gh⟩))
theorem qc6_ {v5:PV} {x6:Int} {vc0_0 vc0_1:PV} {vc0_2 vc0_3 vc0_4:PV} (h:qc6 pg v5 x6 vc0_0 vc0_1 vc0_2 vc0_3 vc0_4 gh=some (e,s)):runL pg q27 ⟨[(1,.ptr false 0 0),(5,v5),(6,I x6)],[[vc0_0,vc0_1,vc0_2,vc0_3,vc0_4]],gh⟩=some (e,s):=
 jee qb (Eq.trans (by kernel_rfl) h)
def q1t (pg:Prg) (v5:PV) (x6:Int) (vc0_0 vc0_1:PV) (vc0_2 vc0_3 vc0_4:PV) (gh:List GObj):DR:=stK 1 v5 (
  br 58 (decide (x6<2)) (isC (degr vc0_1) (stK 1 v5 (stK 1 (degr vc0_1) (stK 1 v5 (stK 1 (degr vc0_1) (
  br 64 (x6==1) (isC (degr vc0_2) (stK 1 v5 (stK 1 (degr vc0_2) (stK 1 v5 (stK 1 (degr vc0_2) (
  kR (runL pg q26 ⟨[(1,.ptr false 0 0),(5,v5),(6,I x6),(7,(degr vc0_2))],[[vc0_0,vc0_1,vc0_2,vc0_3,vc0_4]],gh⟩) (fun e s=>bk 3 e s (fun e s=>nx e s (fun e s=>po [1,5,6] 1 e s (fun e s=>some (e,s))) fun s=>kR (runL pg q27 s) (fun e s=>po [1,5,6] 1 e s (fun e s=>some (e,s))))))))))) (stK 1 v5 (stK 1 (degr vc0_1) (
  kR (runL pg q26 ⟨[(1,.ptr false 0 0),(5,v5),(6,I x6),(7,(degr vc0_1))],[[vc0_0,vc0_1,vc0_2,vc0_3,vc0_4]],gh⟩) (fun e s=>bk 3 e s (fun e s=>nx e s (fun e s=>po [1,5,6] 1 e s (fun e s=>some (e,s))) fun s=>kR (runL pg q27 s) (fun e s=>po [1,5,6] 1 e s (fun e s=>some (e,s)))))))))))))) (some ((.exit 2),⟨[(1,.ptr false 0 0),(5,v5),(6,I x6),(58,(B (decide (x6<2))))],[[vc0_0,vc0_1,vc0_2,vc0_3,vc0_4]],gh⟩)))
theorem q1t_ {v5:PV} {x6:Int} {vc0_0 vc0_1:PV} {vc0_2 vc0_3 vc0_4:PV} (h:q1t pg v5 x6 vc0_0 vc0_1 vc0_2 vc0_3 vc0_4 gh=some (e,s)):runL pg q8t ⟨[(1,.ptr false 0 0),(5,v5),(6,I x6)],[[vc0_0,vc0_1,vc0_2,vc0_3,vc0_4]],gh⟩=some (e,s):=
 jee qb (Eq.trans (by kernel_rfl) h)
def q4e (pg:Prg) (x10:Int) (v11:PV) (x12 x13:Int) (vc0_0 vc0_1:PV) (vc0_2 vc0_3 vc0_4:PV) (gh:List GObj):DR:=stK 1 v11 (
  br 147 (decide (x13<x12)) (isC (degr v11) (
  idX 2 none (degr (degr v11)) x12 fun p1=>faX (degr p1) 0 fun p2=>
  ldX [[vc0_0,vc0_1,vc0_2,vc0_3,vc0_4]] gh false 1 (degr p2) fun v3=>unI .i64 v3 fun n4=>isC (degr v11) (
  idX 2 none (degr (degr v11)) x13 fun p5=>faX (degr p5) 0 fun p6=>
  ldX [[vc0_0,vc0_1,vc0_2,vc0_3,vc0_4]] gh false 1 (degr p6) fun v7=>unI .i64 v7 fun n8=>stK 1 v11 (
  br 160 (n4==n8) (some (.ret,⟨[(2,I 6)],[],gh⟩)) (stK 1 v11 (stK 1 v11 (some (.normal,⟨[(1,.ptr false 0 0),(10,I x10),(11,v11),(12,I x12),(13,(I (IntKind.i64.wrap (x13+1))))],[[vc0_0,vc0_1,vc0_2,vc0_3,vc0_4]],gh⟩)))))))) (some ((.exit 10),⟨[(1,.ptr false 0 0),(10,I x10),(11,v11),(12,I x12),(13,I x13),(147,(B (decide (x13<x12))))],[[vc0_0,vc0_1,vc0_2,vc0_3,vc0_4]],gh⟩)))
theorem q4e_ {x10:Int} {v11:PV} {x12 x13:Int} {vc0_0 vc0_1:PV} {vc0_2 vc0_3 vc0_4:PV} (h:q4e pg x10 v11 x12 x13 vc0_0 vc0_1 vc0_2 vc0_3 vc0_4 gh=some (e,s)):runL pg q8u ⟨[(1,.ptr false 0 0),(10,I x10),(11,v11),(12,I x12),(13,I x13)],[[vc0_0,vc0_1,vc0_2,vc0_3,vc0_4]],gh⟩=some (e,s):=
 jee qb (Eq.trans (by kernel_rfl) h)
def qc7 (pg:Prg) (x10:Int) (v11:PV) (x12:Int) (vc0_0 vc0_1:PV) (vc0_2 vc0_3 vc0_4:PV) (gh:List GObj):DR:=stK 1 v11 (some (.normal,⟨[(1,.ptr false 0 0),(10,I x10),(11,v11),(12,(I (IntKind.i64.wrap (x12+1))))],[[vc0_0,vc0_1,vc0_2,vc0_3,vc0_4]],gh⟩))
theorem qc7_ {x10:Int} {v11:PV} {x12:Int} {vc0_0 vc0_1:PV} {vc0_2 vc0_3 vc0_4:PV} (h:qc7 pg x10 v11 x12 vc0_0 vc0_1 vc0_2 vc0_3 vc0_4 gh=some (e,s)):runL pg q38 ⟨[(1,.ptr false 0 0),(10,I x10),(11,v11),(12,I x12)],[[vc0_0,vc0_1,vc0_2,vc0_3,vc0_4]],gh⟩=some (e,s):=
 jee qb (Eq.trans (by kernel_rfl) h)
def q4f (pg:Prg) (x10:Int) (v11:PV) (x12:Int) (vc0_0 vc0_1:PV) (vc0_2 vc0_3 vc0_4:PV) (gh:List GObj):DR:=isC (degr v11) (lenS (degr (degr v11)) fun n1=>stK 1 v11 (
  br 142 (decide (x12<(n1:Int))) (stK 1 v11 (
  kR (runL pg q5j ⟨[(1,.ptr false 0 0),(10,I x10),(11,v11),(12,I x12),(13,I 0)],[[vc0_0,vc0_1,vc0_2,vc0_3,vc0_4]],gh⟩) (fun e s=>bk 9 e s (fun e s=>nx e s (fun e s=>po [1,10,11,12] 1 e s (fun e s=>some (e,s))) fun s=>kR (runL pg q38 s) (fun e s=>po [1,10,11,12] 1 e s (fun e s=>some (e,s))))))) (some ((.exit 8),⟨[(1,.ptr false 0 0),(10,I x10),(11,v11),(12,I x12),(142,(B (decide (x12<(n1:Int)))))],[[vc0_0,vc0_1,vc0_2,vc0_3,vc0_4]],gh⟩))))
theorem q4f_ {x10:Int} {v11:PV} {x12:Int} {vc0_0 vc0_1:PV} {vc0_2 vc0_3 vc0_4:PV} (h:q4f pg x10 v11 x12 vc0_0 vc0_1 vc0_2 vc0_3 vc0_4 gh=some (e,s)):runL pg q8v ⟨[(1,.ptr false 0 0),(10,I x10),(11,v11),(12,I x12)],[[vc0_0,vc0_1,vc0_2,vc0_3,vc0_4]],gh⟩=some (e,s):=
 jee qb (Eq.trans (by kernel_rfl) h)
def qc8 (pg:Prg) (x10:Int) (v11 vc0_0:PV) (vc0_1 vc0_2:PV) (vc0_3 vc0_4:PV) (gh:List GObj):DR:=stK 1 v11 (
  kR (runL pg q39 ⟨[(1,.ptr false 0 0),(10,I x10),(11,v11),(12,I 0)],[[vc0_0,vc0_1,vc0_2,vc0_3,vc0_4]],gh⟩) (fun e s=>some (e,s)))
theorem qc8_ {x10:Int} {v11 vc0_0:PV} {vc0_1 vc0_2:PV} {vc0_3 vc0_4:PV} (h:qc8 pg x10 v11 vc0_0 vc0_1 vc0_2 vc0_3 vc0_4 gh=some (e,s)):runL pg q28 ⟨[(1,.ptr false 0 0),(10,I x10),(11,v11)],[[vc0_0,vc0_1,vc0_2,vc0_3,vc0_4]],gh⟩=some (e,s):=
 jee qb (Eq.trans (by kernel_rfl) h)
def qc9 (pg:Prg) (x10:Int) (vc0_0 vc0_1:PV) (vc0_2 vc0_3 vc0_4:PV) (gh:List GObj):DR:=some (.normal,⟨[(1,.ptr false 0 0),(10,(I (IntKind.i64.wrap (x10+1))))],[[vc0_0,vc0_1,vc0_2,vc0_3,vc0_4]],gh⟩)
theorem qc9_ {x10:Int} {vc0_0 vc0_1:PV} {vc0_2 vc0_3 vc0_4:PV} (h:qc9 pg x10 vc0_0 vc0_1 vc0_2 vc0_3 vc0_4 gh=some (e,s)):runL pg q29 ⟨[(1,.ptr false 0 0),(10,I x10)],[[vc0_0,vc0_1,vc0_2,vc0_3,vc0_4]],gh⟩=some (e,s):=
 jee qb (Eq.trans (by kernel_rfl) h)
def q1u (pg:Prg) (x10:Int) (vc0_0 vc0_1:PV) (vc0_2 vc0_3 vc0_4:PV) (gh:List GObj):DR:=
  br 130 (decide (x10<2)) (isC (degr vc0_1) (stK 1 (degr vc0_1) (stK 1 (degr vc0_1) (
  br 136 (x10==1) (isC (degr vc0_2) (stK 1 (degr vc0_2) (stK 1 (degr vc0_2) (
  kR (runL pg q28 ⟨[(1,.ptr false 0 0),(10,I x10),(11,(degr vc0_2))],[[vc0_0,vc0_1,vc0_2,vc0_3,vc0_4]],gh⟩) (fun e s=>bk 7 e s (fun e s=>nx e s (fun e s=>po [1,10] 1 e s (fun e s=>some (e,s))) fun s=>kR (runL pg q29 s) (fun e s=>po [1,10] 1 e s (fun e s=>some (e,s))))))))) (stK 1 (degr vc0_1) (
  kR (runL pg q28 ⟨[(1,.ptr false 0 0),(10,I x10),(11,(degr vc0_1))],[[vc0_0,vc0_1,vc0_2,vc0_3,vc0_4]],gh⟩) (fun e s=>bk 7 e s (fun e s=>nx e s (fun e s=>po [1,10] 1 e s (fun e s=>some (e,s))) fun s=>kR (runL pg q29 s) (fun e s=>po [1,10] 1 e s (fun e s=>some (e,s))))))))))) (some ((.exit 6),⟨[(1,.ptr false 0 0),(10,I x10),(130,(B (decide (x10<2))))],[[vc0_0,vc0_1,vc0_2,vc0_3,vc0_4]],gh⟩))
theorem q1u_ {x10:Int} {vc0_0 vc0_1:PV} {vc0_2 vc0_3 vc0_4:PV} (h:q1u pg x10 vc0_0 vc0_1 vc0_2 vc0_3 vc0_4 gh=some (e,s)):runL pg q8w ⟨[(1,.ptr false 0 0),(10,I x10)],[[vc0_0,vc0_1,vc0_2,vc0_3,vc0_4]],gh⟩=some (e,s):=
 jee qb (Eq.trans (by kernel_rfl) h)
def q4g (pg:Prg) (v14:PV) (x15:Int) (vc0_0 vc0_1:PV) (vc0_2 vc0_3 vc0_4:PV) (gh:List GObj):DR:=isC (degr v14) (lenS (degr (degr v14)) fun n1=>stK 1 v14 (
  br 178 (decide (x15<(n1:Int))) (isC (degr v14) (
  idX 1 none (degr (degr v14)) x15 fun p2=>
  ldX [[vc0_0,vc0_1,vc0_2,vc0_3,vc0_4]] gh false 1 (degr p2) fun v3=>unI .i64 v3 fun n4=>isC (degr vc0_0) (lenS (degr (degr vc0_0)) fun n5=>
  callR gh true (callL pg 50 [I n4,I 0,(I (IntKind.i64.wrap ((n5:Int)-1)))] gh) fun r6 gh7=>unB r6 fun b8=>stK 1 v14 (
  br 190 (!b8) (some (.ret,⟨[(2,I 5)],[],gh7⟩)) (stK 1 v14 (stK 1 v14 (some (.normal,⟨[(1,.ptr false 0 0),(14,v14),(15,(I (IntKind.i64.wrap (x15+1))))],[[vc0_0,vc0_1,vc0_2,vc0_3,vc0_4]],gh7⟩)))))))) (some ((.exit 12),⟨[(1,.ptr false 0 0),(14,v14),(15,I x15),(178,(B (decide (x15<(n1:Int)))))],[[vc0_0,vc0_1,vc0_2,vc0_3,vc0_4]],gh⟩))))
theorem q4g_ {v14:PV} {x15:Int} {vc0_0 vc0_1:PV} {vc0_2 vc0_3 vc0_4:PV} (h:q4g pg v14 x15 vc0_0 vc0_1 vc0_2 vc0_3 vc0_4 gh=some (e,s)):runL pg q8x ⟨[(1,.ptr false 0 0),(14,v14),(15,I x15)],[[vc0_0,vc0_1,vc0_2,vc0_3,vc0_4]],gh⟩=some (e,s):=
 jee qb (Eq.trans (by kernel_rfl) h)
def q4h (pg:Prg) (v14:PV) (x16:Int) (vc0_0 vc0_1:PV) (vc0_2 vc0_3 vc0_4:PV) (gh:List GObj):DR:=isC (degr v14) (lenS (degr (degr v14)) fun n1=>stK 1 v14 (
  br 194 (decide (x16<(n1:Int))) (isC (degr vc0_0) (isC (degr v14) (
  idX 1 none (degr (degr v14)) x16 fun p2=>
  ldX [[vc0_0,vc0_1,vc0_2,vc0_3,vc0_4]] gh false 1 (degr p2) fun v3=>unI .i64 v3 fun n4=>
  idX 6 none (degr (degr vc0_0)) n4 fun p5=>faX (degr p5) 1 fun p6=>
  ldX [[vc0_0,vc0_1,vc0_2,vc0_3,vc0_4]] gh false 1 (degr p6) fun v7=>unI .i64 v7 fun n8=>stK 1 v14 (
  br 206 (n8 !=1) (some (.ret,⟨[(2,I 1)],[],gh⟩)) (stK 1 v14 (stK 1 v14 (some (.normal,⟨[(1,.ptr false 0 0),(14,v14),(16,(I (IntKind.i64.wrap (x16+1))))],[[vc0_0,vc0_1,vc0_2,vc0_3,vc0_4]],gh⟩)))))))) (some ((.exit 14),⟨[(1,.ptr false 0 0),(14,v14),(16,I x16),(194,(B (decide (x16<(n1:Int)))))],[[vc0_0,vc0_1,vc0_2,vc0_3,vc0_4]],gh⟩))))
theorem q4h_ {v14:PV} {x16:Int} {vc0_0 vc0_1:PV} {vc0_2 vc0_3 vc0_4:PV} (h:q4h pg v14 x16 vc0_0 vc0_1 vc0_2 vc0_3 vc0_4 gh=some (e,s)):runL pg q8y ⟨[(1,.ptr false 0 0),(14,v14),(16,I x16)],[[vc0_0,vc0_1,vc0_2,vc0_3,vc0_4]],gh⟩=some (e,s):=
 jee qb (Eq.trans (by kernel_rfl) h)
def qed (pg:Prg) (gh:List GObj):DR:=some (.ret,⟨[(2,I 0)],[],gh⟩)
theorem qed_ (h:qed pg gh=some (e,s)):runL pg q5m ⟨[],[],gh⟩=some (e,s):=
 jee qb (Eq.trans (by kernel_rfl) h)
def q7n (pg:Prg) (v14 vc0_0:PV) (vc0_1 vc0_2:PV) (vc0_3 vc0_4:PV) (gh:List GObj):DR:=stK 1 v14 (
  kR (runL pg q2a ⟨[(1,.ptr false 0 0),(14,v14),(16,I 0)],[[vc0_0,vc0_1,vc0_2,vc0_3,vc0_4]],gh⟩) (fun e s=>nx e s (fun e s=>some (e,s)) fun s=>kR (runL pg q5m s) (fun e s=>some (e,s))))
theorem q7n_ {v14 vc0_0:PV} {vc0_1 vc0_2:PV} {vc0_3 vc0_4:PV} (h:q7n pg v14 vc0_0 vc0_1 vc0_2 vc0_3 vc0_4 gh=some (e,s)):runL pg q2b ⟨[(1,.ptr false 0 0),(14,v14)],[[vc0_0,vc0_1,vc0_2,vc0_3,vc0_4]],gh⟩=some (e,s):=
 jee qb (Eq.trans (by kernel_rfl) h)
def q30 (pg:Prg) (vc0_0 vc0_1:PV) (vc0_2 vc0_3 vc0_4:PV) (gh:List GObj):DR:=isC (degr vc0_2) (lenS (degr (degr vc0_2)) fun n1=>onK (degr1 (degr1 vc0_0)) (onK (degr1 (degr1 vc0_1)) (onK (degr1 (degr1 vc0_2)) (onK (degr1 (degr1 vc0_3)) (onK (degr1 (degr1 vc0_4)) (
  callR gh true (callL pg 39 [(.agg [(degr1 (degr1 vc0_0)),(degr1 (degr1 vc0_1)),(degr1 (degr1 vc0_2)),(degr1 (degr1 vc0_3)),(degr1 (degr1 vc0_4))]),I 3] gh) fun r2 gh3=>isC r2 (lenS (degr r2) fun n4=>
  br 167 ((n1:Int) !=(n4:Int)) (some (.ret,⟨[(2,I 5)],[],gh3⟩)) (isC (degr vc0_3) (
  apX 1 8 (.sl true 1 []) (degr (degr vc0_3)) fun l5=>isC (degr vc0_4) (
  apX 1 8 (.sl true 1 l5) (degr (degr vc0_4)) fun l6=>
  kR (runL pg q5l ⟨[(1,.ptr false 0 0),(14,.sl true 1 l6),(15,I 0)],[[vc0_0,vc0_1,vc0_2,vc0_3,vc0_4]],gh3⟩) (fun e s=>nx e s (fun e s=>some (e,s)) fun s=>kR (runL pg q2b s) (fun e s=>some (e,s)))))))))))))
theorem q30_ {vc0_0 vc0_1:PV} {vc0_2 vc0_3 vc0_4:PV} (h:q30 pg vc0_0 vc0_1 vc0_2 vc0_3 vc0_4 gh=some (e,s)):runL pg q3a ⟨[(1,.ptr false 0 0)],[[vc0_0,vc0_1,vc0_2,vc0_3,vc0_4]],gh⟩=some (e,s):=
 jee qb (Eq.trans (by kernel_rfl) h)
def q7o (pg:Prg) (vc0_0 vc0_1:PV) (vc0_2 vc0_3 vc0_4:PV) (gh:List GObj):DR:=
  kR (runL pg q5k ⟨[(1,.ptr false 0 0),(10,I 0)],[[vc0_0,vc0_1,vc0_2,vc0_3,vc0_4]],gh⟩) (fun e s=>nx e s (fun e s=>some (e,s)) fun s=>kR (runL pg q3a s) (fun e s=>some (e,s)))
theorem q7o_ {vc0_0 vc0_1:PV} {vc0_2 vc0_3 vc0_4:PV} (h:q7o pg vc0_0 vc0_1 vc0_2 vc0_3 vc0_4 gh=some (e,s)):runL pg q2c ⟨[(1,.ptr false 0 0)],[[vc0_0,vc0_1,vc0_2,vc0_3,vc0_4]],gh⟩=some (e,s):=
 jee qb (Eq.trans (by kernel_rfl) h)
def q1i (pg:Prg) (vc0_0 vc0_1:PV) (vc0_2 vc0_3 vc0_4:PV) (gh:List GObj):DR:=onK (degr1 (degr1 vc0_0)) (onK (degr1 (degr1 vc0_1)) (onK (degr1 (degr1 vc0_2)) (onK (degr1 (degr1 vc0_3)) (onK (degr1 (degr1 vc0_4)) (
  callR gh true (callL pg 73 [(.agg [(degr1 (degr1 vc0_0)),(degr1 (degr1 vc0_1)),(degr1 (degr1 vc0_2)),(degr1 (degr1 vc0_3)),(degr1 (degr1 vc0_4))]),I 2] gh) fun r1 gh2=>unI .i64 r1 fun n3=>
  br 50 (decide (6<n3)) (some (.ret,⟨[(2,I 2)],[],gh2⟩)) (onK (degr1 (degr1 vc0_0)) (onK (degr1 (degr1 vc0_1)) (onK (degr1 (degr1 vc0_2)) (onK (degr1 (degr1 vc0_3)) (onK (degr1 (degr1 vc0_4)) (
  callR gh2 true (callL pg 73 [(.agg [(degr1 (degr1 vc0_0)),(degr1 (degr1 vc0_1)),(degr1 (degr1 vc0_2)),(degr1 (degr1 vc0_3)),(degr1 (degr1 vc0_4))]),I 3] gh2) fun r4 gh5=>unI .i64 r4 fun n6=>
  br 54 (decide (10<n6)) (some (.ret,⟨[(2,I 2)],[],gh5⟩)) (onK (degr1 (degr1 vc0_0)) (onK (degr1 (degr1 vc0_1)) (onK (degr1 (degr1 vc0_2)) (onK (degr1 (degr1 vc0_3)) (onK (degr1 (degr1 vc0_4)) (
  callR gh5 true (callL pg 74 [(.agg [(degr1 (degr1 vc0_0)),(degr1 (degr1 vc0_1)),(degr1 (degr1 vc0_2)),(degr1 (degr1 vc0_3)),(degr1 (degr1 vc0_4))])] gh5) fun r7 gh8=>isC r7 (stK 1 r7 (stK 1 r7 (
  kR (runL pg q5i ⟨[(1,.ptr false 0 0),(5,r7),(6,I 0)],[[vc0_0,vc0_1,vc0_2,vc0_3,vc0_4]],gh8⟩) (fun e s=>nx e s (fun e s=>some (e,s)) fun s=>kR (runL pg q2c s) (fun e s=>some (e,s)))))))))))))))))))))))
theorem q1i_ {vc0_0 vc0_1:PV} {vc0_2 vc0_3 vc0_4:PV} (h:q1i pg vc0_0 vc0_1 vc0_2 vc0_3 vc0_4 gh=some (e,s)):runL pg q2d ⟨[(1,.ptr false 0 0)],[[vc0_0,vc0_1,vc0_2,vc0_3,vc0_4]],gh⟩=some (e,s):=
 jee qb (Eq.trans (by kernel_rfl) h)
def q1j (pg:Prg) (v0_0 v0_1:PV) (v0_2 v0_3 v0_4:PV) (gh:List GObj):DR:=onK (degr1 v0_0) (onK (degr1 v0_1) (onK (degr1 v0_2) (onK (degr1 v0_3) (onK (degr1 v0_4) (isC (degr (degr1 v0_0)) (lenS (degr (degr (degr1 v0_0))) fun n1=>
  br 21 (decide (80<(n1:Int))) (some (.ret,⟨[(2,I 2)],[],gh⟩)) (isC (degr (degr1 v0_3)) (lenS (degr (degr (degr1 v0_3))) fun n2=>
  br 27 (decide (8<(n2:Int))) (some (.ret,⟨[(2,I 2)],[],gh⟩)) (isC (degr (degr1 v0_4)) (lenS (degr (degr (degr1 v0_4))) fun n3=>
  br 32 (decide (8<(n3:Int))) (some (.ret,⟨[(2,I 2)],[],gh⟩)) (
  kR (runL pg q5h ⟨[(1,.ptr false 0 0),(3,I 0)],[[(degr1 v0_0),(degr1 v0_1),(degr1 v0_2),(degr1 v0_3),(degr1 v0_4)]],gh⟩) (fun e s=>nx e s (fun e s=>some (e,s)) fun s=>kR (runL pg q2d s) (fun e s=>some (e,s))))))))))))))
theorem q1j_ {v0_0 v0_1:PV} {v0_2 v0_3 v0_4:PV} (h:q1j pg v0_0 v0_1 v0_2 v0_3 v0_4 gh=some (e,s)):runL pg q8z ⟨[(0,.agg [v0_0,v0_1,v0_2,v0_3,v0_4])],[],gh⟩=some (e,s):=
 jee qb (Eq.trans (by kernel_rfl) h)
end
end Go.Lw
end

/-! What the code of function law_TextPrints comes to, piece by piece. Written by program (dprint.py). -/
section
set_option maxRecDepth 10000
set_option maxHeartbeats 4000000
namespace Go.Lw
open Go
noncomputable section
variable {pg:Prg} {gh:List GObj} {e:IExit} {s:St}
def qca:Tr:=(tB 15 (.node 8 (.agg [.any,.any,.any,.any,.any]) (tI 4 (tB 2 (.node 0 (.agg [.any,.any,.any,.any,.any]) .nil .nil) (.node 3 (.ce (.str)) .nil .nil)) (.node 6 (.ce (.str)) (uI 5) (.node 7 (.tup 2) .nil .nil))) (.node 12 (.agg [.any,.any,.any,.any,.any]) (.node 10 (.ce (.str)) (.node 9 (.tup 2) .nil .nil) (uI 11)) (tI 14 (uI 13) .nil))) (tB 22 (tB 19 (.node 17 (.ce (.str)) (.node 16 (.agg [.any,.any,.any,.any,.any]) .nil .nil) (uB 18)) (tI 21 (uI 20) .nil)) (.node 26 (.ce (.str)) (tB 24 (uB 23) (.node 25 (.ce (.str)) .nil .nil)) (tB 28 (uB 27) .nil))))
def qcb (pg:Prg) (s3:ByteArray) (x4 x5:Int) (s6:ByteArray) (gh:List GObj):DR:=
  callR gh true (callL pg 346 [] gh) fun r1 gh2=>unB r1 fun b3=>
  br 19 b3 (
  br 24 (x4==x5) (some (.ret,⟨[(2,(B (ByteArray.toList s3==ByteArray.toList s6)))],[],gh2⟩)) (some (.ret,⟨[(2,B false)],[],gh2⟩))) (some (.ret,⟨[(2,B false)],[],gh2⟩))
theorem qcb_ {s3:ByteArray} {x4 x5:Int} {s6:ByteArray} (h:qcb pg s3 x4 x5 s6 gh=some (e,s)):runL pg q1v ⟨[(3,.str s3),(4,I x4),(5,I x5),(6,.str s6)],[],gh⟩=some (e,s):=
 jee qca (Eq.trans (by kernel_rfl) h)
def q7p (pg:Prg) (v0_0 v0_1:PV) (v0_2 v0_3 v0_4:PV) (gh:List GObj):DR:=onK (degr1 v0_0) (onK (degr1 v0_1) (onK (degr1 v0_2) (onK (degr1 v0_3) (onK (degr1 v0_4) (onK (degr1 (degr1 (degr1 v0_0))) (onK (degr1 (degr1 (degr1 v0_1))) (onK (degr1 (degr1 (degr1 v0_2))) (onK (degr1 (degr1 (degr1 v0_3))) (onK (degr1 (degr1 (degr1 v0_4))) (
  callR gh true (callL pg 347 [(.agg [(degr1 (degr1 (degr1 v0_0))),(degr1 (degr1 (degr1 v0_1))),(degr1 (degr1 (degr1 v0_2))),(degr1 (degr1 (degr1 v0_3))),(degr1 (degr1 (degr1 v0_4)))])] gh) fun r1 gh2=>unT 2 r1 fun r3 r4=>unS (degr1 (degr1 r3)) fun s5=>unI .i64 (degr1 (degr1 r4)) fun n6=>onK (degr1 (degr1 (degr1 v0_0))) (onK (degr1 (degr1 (degr1 v0_1))) (onK (degr1 (degr1 (degr1 v0_2))) (onK (degr1 (degr1 (degr1 v0_3))) (onK (degr1 (degr1 (degr1 v0_4))) (
  callR gh2 true (callL pg 36 [(.agg [(degr1 (degr1 (degr1 v0_0))),(degr1 (degr1 (degr1 v0_1))),(degr1 (degr1 (degr1 v0_2))),(degr1 (degr1 (degr1 v0_3))),(degr1 (degr1 (degr1 v0_4)))])] gh2) fun r7 gh8=>unI .i64 r7 fun n9=>
  br 15 (n9==0) (onK (degr1 (degr1 (degr1 v0_0))) (onK (degr1 (degr1 (degr1 v0_1))) (onK (degr1 (degr1 (degr1 v0_2))) (onK (degr1 (degr1 (degr1 v0_3))) (onK (degr1 (degr1 (degr1 v0_4))) (
  callR gh8 true (callL pg 368 [(.agg [(degr1 (degr1 (degr1 v0_0))),(degr1 (degr1 (degr1 v0_1))),(degr1 (degr1 (degr1 v0_2))),(degr1 (degr1 (degr1 v0_3))),(degr1 (degr1 (degr1 v0_4)))])] gh8) fun r10 gh11=>unS r10 fun s12=>
  kR (runL pg q1v ⟨[(3,.str s5),(4,I n6),(5,I n9),(6,.str s12)],[],gh11⟩) (fun e s=>some (e,s)))))))) (
  kR (runL pg q1v ⟨[(3,.str s5),(4,I n6),(5,I n9),(6,.str ByteArray.empty)],[],gh8⟩) (fun e s=>some (e,s))))))))))))))))))
theorem q7p_ {v0_0 v0_1:PV} {v0_2 v0_3 v0_4:PV} (h:q7p pg v0_0 v0_1 v0_2 v0_3 v0_4 gh=some (e,s)):runL pg q7q ⟨[(0,.agg [v0_0,v0_1,v0_2,v0_3,v0_4])],[],gh⟩=some (e,s):=
 jee qca (Eq.trans (by kernel_rfl) h)
end
end Go.Lw
end
