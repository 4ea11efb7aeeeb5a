/-
  The texts that the proof stands on, part 3.
-/
import Derived.Test.YtmodipglnngghabProofSoundB
set_option linter.unusedVariables false
set_option linter.unusedSimpArgs false
set_option linter.unnecessarySimpa false

/-! Library functions, told as they are. -/
section
namespace Go.Lw
open Go

def libClone (z bytes : Nat) : List PV → List GObj → Option (PV × List GObj)
  | [.sl _ z' xs], gh => if z' = z ∧ xs.length * bytes ≤ maxBytes then some (.sl true z xs, gh) else none
  | _, _ => none

/-- slices.Clone, whose answer is a stack (if there is anything). -/
def libCloneK (bytes : Nat) : List PV → List GObj → Option (PV × List GObj)
  | [.sl o z' xs], gh => if xs = [] then libClone 1 bytes [.sl o z' xs] gh
      else if z' = 1 ∧ xs.length * bytes ≤ maxBytes ∧ xs.all isFlat = true then some (.stk gh.length 1 xs.length, gh ++ [.stk 1 xs]) else none
  | _, _ => none

/-- slices.Grow of no list. -/
def libGrow (z bytes : Nat) : List PV → List GObj → Option (PV × List GObj)
  | [.nils, .int .i64 n], gh => if 0 ≤ n ∧ n.toNat * bytes ≤ maxBytes then some (.sl true z [], gh) else none
  | _, _ => none

end Go.Lw
end

/-! The code of package Cnf for the small machine. Written by program (gen.py). -/
section
set_option maxRecDepth 10000
namespace Go.Lw
open Go

/- 16: latchwork/cnf.Of -/
/- at its head: [4, 7, 33, 34, 35] -/
def f_cnf_Of_b1 : ICode :=
  (.post (.seq (.region [
    ⟨.bin 36 .lss (.t 35) (.t 34), none⟩] false)
  (.seq (.cond (.t 36) .skip
  (.exit 0))
  (.seq (.block 1 (.seq (.post (.region [
    ⟨.iaddr 37 1 none (.t 33) (.t 35), none⟩,
    ⟨.load 38 false 1 (.t 37), none⟩,
    ⟨.mv 9 (.t 38), none⟩] false) [4, 7, 9, 33, 34, 35] 2)
  (.post (.region [
    ⟨.mv 39 (.t 7), none⟩,
    ⟨.mv 40 (.t 9), none⟩,
    ⟨.call (some 41) false 54 [(.t 39), (.t 40), (.c (.int .i64 0))], none⟩] false) [4, 7, 33, 34, 35] 2)))
  (.post (.region [
    ⟨.bin 42 .add (.t 35) (.c (.int .i64 1)), none⟩,
    ⟨.mv 35 (.t 42), none⟩] false) [4, 7, 33, 34, 35] 2)))) [4, 7, 33, 34, 35] 2)
def f_cnf_Of_l1 : ICode :=
  (.post (.block 0 (.loop f_cnf_Of_b1)) [4, 7] 2)
def f_cnf_Of_k1 : ICode :=
  (.seq (.post (.region [
    ⟨.mv 43 (.t 7), none⟩,
    ⟨.nilc 44 (.t 43), none⟩,
    ⟨.faddr 45 (.t 44) 0, none⟩,
    ⟨.load 46 true 2 (.t 45), none⟩,
    ⟨.call (some 47) true 55 [(.t 46)], none⟩,
    ⟨.extract 48 (.t 47) 0, none⟩,
    ⟨.extract 49 (.t 47) 1, none⟩,
    ⟨.store true 2 (.t 4) (.t 48), none⟩,
    ⟨.mv 5 (.t 49), none⟩] false) [4, 5] 2)
  .ret)
def f_cnf_Of_0 : ICode :=
  (.seq (.post (.region [
    ⟨.box 2 false false (.t 0), none⟩,
    ⟨.alloc 4 false (.agg [.int .i64 0, .sl true 1 []]), none⟩,
    ⟨.mv 5 (.c (.int .i64 0)), none⟩] false) [1, 2, 4] 2)
  (.seq (.seq (.post (.region [
    ⟨.load 10 true 2 (.t 2), none⟩,
    ⟨.call (some 11) true 6 [(.t 10)], none⟩,
    ⟨.mv 6 (.t 11), none⟩] false) [1, 2, 4, 6] 2)
  (.seq (.post (.region [
    ⟨.mv 12 (.t 6), none⟩,
    ⟨.bin 13 .neq (.t 12) (.c (.int .i64 0)), none⟩] false) [1, 2, 4, 6, 13] 2)
  (.cond (.t 13) (.seq (.post (.region [
    ⟨.build 14 [.int .i64 0, .sl true 1 []] [], none⟩,
    ⟨.mv 15 (.t 6), none⟩,
    ⟨.store true 2 (.t 4) (.t 14), none⟩,
    ⟨.mv 5 (.t 15), none⟩] false) [4, 5] 2)
  .ret)
  .skip)))
  (.seq (.seq (.post (.region [
    ⟨.load 16 true 2 (.t 2), none⟩,
    ⟨.mv 17 (.t 1), none⟩,
    ⟨.call (some 18) true 47 [(.t 16), (.t 17)], none⟩,
    ⟨.un 19 .not (.t 18), none⟩] false) [1, 2, 4, 19] 2)
  (.cond (.t 19) (.seq (.post (.region [
    ⟨.build 20 [.int .i64 0, .sl true 1 []] [], none⟩,
    ⟨.store true 2 (.t 4) (.t 20), none⟩,
    ⟨.mv 5 (.c (.int .i64 5)), none⟩] false) [4, 5] 2)
  .ret)
  .skip))
  (.seq (.post (.region [
    ⟨.faddr 21 (.t 2) 0, none⟩,
    ⟨.load 22 false 1 (.t 21), none⟩,
    ⟨.faddr 23 (.t 2) 1, none⟩,
    ⟨.load 24 false 1 (.t 23), none⟩,
    ⟨.len 25 0 (.t 24), none⟩,
    ⟨.bin 26 .add (.t 22) (.t 25), none⟩,
    ⟨.buildT 27 [.int .i64 0, .sl true 1 []] [(0, 1, (.t 26))], none⟩,
    ⟨.buildT 28 [.int .i64 0, .sl true 1 []] [(0, 2, (.t 27))], none⟩,
    ⟨.box 29 true true (.t 28), none⟩,
    ⟨.mv 7 (.t 29), none⟩] false) [1, 2, 4, 7] 2)
  (.seq (.post (.region [
    ⟨.mv 30 (.t 7), none⟩,
    ⟨.load 31 true 2 (.t 2), none⟩,
    ⟨.call (some 32) false 53 [(.t 30), (.t 31), (.c (.int .i64 0))], none⟩] false) [1, 4, 7] 2)
  (.seq (.seq (.post (.region [
    ⟨.mv 33 (.t 1), none⟩,
    ⟨.len 34 0 (.t 33), none⟩,
    ⟨.mv 35 (.c (.int .i64 0)), none⟩] false) [4, 7, 33, 34, 35] 2)
  (.cut f_cnf_Of_l1))
  (.cut f_cnf_Of_k1)))))))
def f_cnf_Of : IFunc := { np := 2, res := [.cell 4 true 2, .t 5], own := false, trunc := true, body := f_cnf_Of_0 }

/- 32: latchwork/cnf.Holds -/
def f_cnf_Holds_0 : ICode :=
  (.seq (.post (.region [
    ⟨.box 2 false false (.t 0), none⟩,
    ⟨.mv 4 (.c (.bool false)), none⟩,
    ⟨.mv 5 (.c (.int .i64 0)), none⟩] false) [1, 2] 1)
  (.seq (.seq (.post (.region [
    ⟨.load 7 true 2 (.t 2), none⟩,
    ⟨.call (some 8) true 59 [(.t 7)], none⟩,
    ⟨.mv 6 (.t 8), none⟩] false) [1, 2, 6] 1)
  (.seq (.post (.region [
    ⟨.mv 9 (.t 6), none⟩,
    ⟨.bin 10 .neq (.t 9) (.c (.int .i64 0)), none⟩] false) [1, 2, 6, 10] 1)
  (.cond (.t 10) (.seq (.post (.region [
    ⟨.mv 11 (.t 6), none⟩,
    ⟨.mv 4 (.c (.bool false)), none⟩,
    ⟨.mv 5 (.t 11), none⟩] false) [4, 5] 0)
  .ret)
  .skip)))
  (.seq (.seq (.post (.region [
    ⟨.mv 12 (.t 1), none⟩,
    ⟨.len 13 0 (.t 12), none⟩,
    ⟨.faddr 14 (.t 2) 0, none⟩,
    ⟨.load 15 false 1 (.t 14), none⟩,
    ⟨.bin 16 .neq (.t 13) (.t 15), none⟩] false) [1, 2, 16] 1)
  (.cond (.t 16) (.seq (.post (.region [
    ⟨.mv 4 (.c (.bool false)), none⟩,
    ⟨.mv 5 (.c (.int .i64 1)), none⟩] false) [4, 5] 0)
  .ret)
  .skip))
  (.seq (.post (.region [
    ⟨.load 17 true 2 (.t 2), none⟩,
    ⟨.mv 18 (.t 1), none⟩,
    ⟨.call (some 19) true 70 [(.t 17), (.t 18)], none⟩,
    ⟨.mv 4 (.t 19), none⟩,
    ⟨.mv 5 (.c (.int .i64 0)), none⟩] false) [4, 5] 0)
  .ret))))
def f_cnf_Holds : IFunc := { np := 2, res := [.t 4, .t 5], own := false, trunc := true, body := f_cnf_Holds_0 }

/- 53: (*latchwork/cnf.Maker).Ands -/
/- at its head: [0, 2, 4, 12, 13, 14] -/
def f_cnf_Maker_Ands_b1 : ICode :=
  (.post (.seq (.region [
    ⟨.bin 15 .lss (.t 14) (.t 13), none⟩] false)
  (.seq (.cond (.t 15) .skip
  (.exit 0))
  (.seq (.block 1 (.seq (.post (.region [
    ⟨.mv 16 (.t 14), none⟩,
    ⟨.iaddr 17 2 none (.t 12) (.t 14), none⟩,
    ⟨.load 18 true 2 (.t 17), none⟩,
    ⟨.alloc 7 false (.agg [.int .i64 0, .int .i64 0]), none⟩,
    ⟨.mv 6 (.t 16), none⟩,
    ⟨.store false 2 (.t 7) (.t 18), none⟩] false) [0, 2, 4, 6, 7, 12, 13, 14] 2)
  (.seq (.post (.region [
    ⟨.faddr 19 (.t 4) 0, none⟩,
    ⟨.load 20 false 1 (.t 19), none⟩,
    ⟨.bin 21 .add (.c (.int .i64 1)) (.t 20), none⟩,
    ⟨.mv 22 (.t 6), none⟩,
    ⟨.bin 23 .add (.t 21) (.t 22), none⟩,
    ⟨.mv 24 (.t 2), none⟩,
    ⟨.bin 25 .add (.t 23) (.t 24), none⟩,
    ⟨.mv 8 (.t 25), none⟩] false) [0, 2, 4, 7, 8, 12, 13, 14] 2)
  (.seq (.post (.region [
    ⟨.iaddr 26 1 (some 2) (.t 7) (.c (.int .i64 0)), none⟩,
    ⟨.load 27 false 1 (.t 26), none⟩,
    ⟨.mv 28 (.t 2), none⟩,
    ⟨.call (some 29) true 90 [(.t 27), (.t 28)], none⟩,
    ⟨.iaddr 30 1 (some 2) (.t 7) (.c (.int .i64 1)), none⟩,
    ⟨.load 31 false 1 (.t 30), none⟩,
    ⟨.mv 32 (.t 2), none⟩,
    ⟨.call (some 33) true 90 [(.t 31), (.t 32)], none⟩,
    ⟨.mv 9 (.t 29), none⟩,
    ⟨.mv 10 (.t 33), none⟩] true) [0, 2, 4, 8, 9, 10, 12, 13, 14] 1)
  (.seq (.post (.region [
    ⟨.mv 34 (.t 0), none⟩,
    ⟨.mv 35 (.t 8), none⟩,
    ⟨.un 36 .neg (.t 35), none⟩,
    ⟨.mv 37 (.t 9), none⟩,
    ⟨.buildSl 38 1 [(.t 36), (.t 37)], none⟩,
    ⟨.call (some 39) false 91 [(.t 34), (.t 38)], none⟩] false) [0, 2, 4, 8, 9, 10, 12, 13, 14] 1)
  (.seq (.post (.region [
    ⟨.mv 40 (.t 0), none⟩,
    ⟨.mv 41 (.t 8), none⟩,
    ⟨.un 42 .neg (.t 41), none⟩,
    ⟨.mv 43 (.t 10), none⟩,
    ⟨.buildSl 44 1 [(.t 42), (.t 43)], none⟩,
    ⟨.call (some 45) false 91 [(.t 40), (.t 44)], none⟩] false) [0, 2, 4, 8, 9, 10, 12, 13, 14] 1)
  (.post (.region [
    ⟨.mv 46 (.t 0), none⟩,
    ⟨.mv 47 (.t 8), none⟩,
    ⟨.mv 48 (.t 9), none⟩,
    ⟨.un 49 .neg (.t 48), none⟩,
    ⟨.mv 50 (.t 10), none⟩,
    ⟨.un 51 .neg (.t 50), none⟩,
    ⟨.buildSl 52 1 [(.t 47), (.t 49), (.t 51)], none⟩,
    ⟨.call (some 53) false 91 [(.t 46), (.t 52)], none⟩] false) [0, 2, 4, 12, 13, 14] 1)))))))
  (.post (.region [
    ⟨.bin 54 .add (.t 14) (.c (.int .i64 1)), none⟩,
    ⟨.mv 14 (.t 54), none⟩] false) [0, 2, 4, 12, 13, 14] 1)))) [0, 2, 4, 12, 13, 14] 1)
def f_cnf_Maker_Ands_l1 : ICode :=
  (.post (.block 0 (.loop f_cnf_Maker_Ands_b1)) [] 0)
def f_cnf_Maker_Ands_0 : ICode :=
  (.seq (.post (.region [
    ⟨.box 4 false false (.t 1), none⟩] false) [0, 2, 4] 1)
  (.seq (.post (.region [
    ⟨.faddr 11 (.t 4) 1, none⟩,
    ⟨.load 12 false 1 (.t 11), none⟩,
    ⟨.len 13 0 (.t 12), none⟩,
    ⟨.mv 14 (.c (.int .i64 0)), none⟩] false) [0, 2, 4, 12, 13, 14] 1)
  (.cut f_cnf_Maker_Ands_l1)))
def f_cnf_Maker_Ands : IFunc := { np := 3, res := [], own := false, trunc := false, body := f_cnf_Maker_Ands_0 }

/- 54: (*latchwork/cnf.Maker).Must -/
def f_cnf_Maker_Must_0 : ICode :=
  (.seq (.region [
    ⟨.mv 6 (.t 1), none⟩] false)
  (.block 0 (.seq (.post (.region [
    ⟨.bin 14 .eql (.t 6) (.c (.int .i64 1)), none⟩,
    ⟨.mv 13 (.t 14), none⟩] false) [0, 1, 2, 6, 13] 0)
  (.cond (.t 13) (.post .skip [] 0)
  (.post (.seq (.post (.region [
    ⟨.bin 16 .eql (.t 6) (.c (.int .i64 0)), none⟩,
    ⟨.mv 15 (.t 16), none⟩] false) [0, 1, 2, 15] 0)
  (.cond (.t 15) (.post (.post (.region [
    ⟨.mv 17 (.t 0), none⟩,
    ⟨.call (some 18) false 91 [(.t 17), (.c (.sl true 1 []))], none⟩] false) [] 0) [] 0)
  (.post (.post (.region [
    ⟨.mv 7 (.t 0), none⟩,
    ⟨.mv 8 (.t 1), none⟩,
    ⟨.mv 9 (.t 2), none⟩,
    ⟨.call (some 10) true 90 [(.t 8), (.t 9)], none⟩,
    ⟨.buildSl 11 1 [(.t 10)], none⟩,
    ⟨.call (some 12) false 91 [(.t 7), (.t 11)], none⟩] false) [] 0) [] 0))) [] 0)))))
def f_cnf_Maker_Must : IFunc := { np := 3, res := [], own := false, trunc := false, body := f_cnf_Maker_Must_0 }

/- 55: latchwork/cnf.Done -/
def f_cnf_Done_0 : ICode :=
  (.seq (.post (.region [
    ⟨.box 1 false false (.t 0), none⟩,
    ⟨.alloc 2 false (.agg [.int .i64 0, .sl true 1 []]), none⟩,
    ⟨.mv 3 (.c (.int .i64 0)), none⟩] false) [1, 2] 2)
  (.seq (.seq (.post (.region [
    ⟨.load 5 true 2 (.t 1), none⟩,
    ⟨.call (some 6) true 59 [(.t 5)], none⟩,
    ⟨.mv 4 (.t 6), none⟩] false) [1, 2, 4] 2)
  (.seq (.post (.region [
    ⟨.mv 7 (.t 4), none⟩,
    ⟨.bin 8 .neq (.t 7) (.c (.int .i64 0)), none⟩] false) [1, 2, 4, 8] 2)
  (.cond (.t 8) (.seq (.post (.region [
    ⟨.build 9 [.int .i64 0, .sl true 1 []] [], none⟩,
    ⟨.mv 10 (.t 4), none⟩,
    ⟨.store true 2 (.t 2) (.t 9), none⟩,
    ⟨.mv 3 (.t 10), none⟩] false) [2, 3] 2)
  .ret)
  .skip)))
  (.seq (.post (.region [
    ⟨.load 11 true 2 (.t 1), none⟩,
    ⟨.store true 2 (.t 2) (.t 11), none⟩,
    ⟨.mv 3 (.c (.int .i64 0)), none⟩] false) [2, 3] 2)
  .ret)))
def f_cnf_Done : IFunc := { np := 1, res := [.cell 2 true 2, .t 3], own := false, trunc := true, body := f_cnf_Done_0 }

/- 59: latchwork/cnf.Check -/
/- at its head: [1, 19, 20, 21] -/
def f_cnf_Check_b1 : ICode :=
  (.post (.seq (.region [
    ⟨.bin 22 .lss (.t 21) (.t 20), none⟩] false)
  (.seq (.cond (.t 22) .skip
  (.exit 0))
  (.seq (.block 1 (.seq (.post (.region [
    ⟨.iaddr 23 1 none (.t 19) (.t 21), none⟩,
    ⟨.load 24 false 1 (.t 23), none⟩,
    ⟨.tk 4 24, none⟩] false) [1, 4, 19, 20, 21] 1)
  (.seq (.post (.region [
    ⟨.faddr 25 (.t 1) 0, none⟩,
    ⟨.load 26 false 1 (.t 25), none⟩,
    ⟨.mv 27 (.t 4), none⟩,
    ⟨.call (some 28) true 94 [(.t 26), (.t 27)], none⟩,
    ⟨.mv 5 (.t 28), none⟩] false) [1, 5, 19, 20, 21] 1)
  (.seq (.post (.region [
    ⟨.mv 29 (.t 5), none⟩,
    ⟨.bin 30 .neq (.t 29) (.c (.int .i64 0)), none⟩] false) [1, 5, 19, 20, 21, 30] 1)
  (.cond (.t 30) (.seq (.post (.region [
    ⟨.mv 31 (.t 5), none⟩,
    ⟨.mv 2 (.t 31), none⟩] false) [2] 0)
  .ret)
  .skip)))))
  (.post (.region [
    ⟨.bin 32 .add (.t 21) (.c (.int .i64 1)), none⟩,
    ⟨.mv 21 (.t 32), none⟩] false) [1, 19, 20, 21] 1)))) [1, 19, 20, 21] 1)
def f_cnf_Check_l1 : ICode :=
  (.post (.block 0 (.loop f_cnf_Check_b1)) [] 0)
def f_cnf_Check_k1 : ICode :=
  (.seq (.region [
    ⟨.mv 2 (.c (.int .i64 0)), none⟩] false)
  .ret)
def f_cnf_Check_0 : ICode :=
  (.seq (.post (.region [
    ⟨.box 1 false false (.t 0), none⟩,
    ⟨.mv 2 (.c (.int .i64 0)), none⟩] false) [1] 1)
  (.seq (.seq (.post (.region [
    ⟨.faddr 6 (.t 1) 0, none⟩,
    ⟨.load 7 false 1 (.t 6), none⟩,
    ⟨.bin 8 .lss (.t 7) (.c (.int .i64 0)), none⟩,
    ⟨.mv 9 (.t 8), none⟩,
    ⟨.faddr 10 (.t 1) 0, some (9, false)⟩,
    ⟨.load 11 false 1 (.t 10), some (9, false)⟩,
    ⟨.bin 12 .gtr (.t 11) (.c (.int .i64 200000)), some (9, false)⟩,
    ⟨.pick 13 (.t 9) (.c (.bool true)) (.t 12), none⟩] false) [1, 13] 1)
  (.cond (.t 13) (.seq (.post (.region [
    ⟨.mv 2 (.c (.int .i64 3)), none⟩] false) [2] 0)
  .ret)
  .skip))
  (.seq (.seq (.post (.region [
    ⟨.faddr 14 (.t 1) 1, none⟩,
    ⟨.load 15 false 1 (.t 14), none⟩,
    ⟨.len 16 0 (.t 15), none⟩,
    ⟨.bin 17 .gtr (.t 16) (.c (.int .i64 800000)), none⟩] false) [1, 17] 1)
  (.cond (.t 17) (.seq (.post (.region [
    ⟨.mv 2 (.c (.int .i64 2)), none⟩] false) [2] 0)
  .ret)
  .skip))
  (.seq (.seq (.post (.region [
    ⟨.faddr 18 (.t 1) 1, none⟩,
    ⟨.load 19 false 1 (.t 18), none⟩,
    ⟨.len 20 0 (.t 19), none⟩,
    ⟨.mv 21 (.c (.int .i64 0)), none⟩] false) [1, 19, 20, 21] 1)
  (.cut f_cnf_Check_l1))
  (.cut f_cnf_Check_k1)))))
def f_cnf_Check : IFunc := { np := 1, res := [.t 2], own := false, trunc := true, body := f_cnf_Check_0 }

/- 70: latchwork/cnf.Hold -/
def f_cnf_Hold_0 : ICode :=
  (.seq (.post (.region [
    ⟨.box 2 false false (.t 0), none⟩,
    ⟨.box 3 true false (.t 1), none⟩,
    ⟨.mv 4 (.c (.bool false)), none⟩] false) [2, 3] 1)
  (.seq (.post (.region [
    ⟨.mkfn 6 98 [(.t 3)], none⟩,
    ⟨.alloc 5 true (.nilf), none⟩,
    ⟨.store false 1 (.t 5) (.t 6), none⟩] false) [2, 5] 1)
  (.seq (.post (.region [
    ⟨.faddr 7 (.t 2) 1, none⟩,
    ⟨.load 8 false 1 (.t 7), none⟩,
    ⟨.mkfn 9 99 [(.t 5)], none⟩,
    ⟨.call (some 10) true 100 [(.t 8), (.t 9)], none⟩,
    ⟨.un 11 .not (.t 10), none⟩,
    ⟨.mv 4 (.t 11), none⟩] false) [4] 0)
  .ret)))
def f_cnf_Hold : IFunc := { np := 2, res := [.t 4], own := false, trunc := true, body := f_cnf_Hold_0 }

/- 90: latchwork/cnf.Number -/
def f_cnf_Number_0 : ICode :=
  (.seq (.post (.region [
    ⟨.mv 4 (.c (.int .i64 0)), none⟩] false) [0, 1] 0)
  (.seq (.seq (.post (.region [
    ⟨.mv 5 (.t 0), none⟩,
    ⟨.bin 6 .rem (.t 5) (.c (.int .i64 2)), none⟩,
    ⟨.bin 7 .eql (.t 6) (.c (.int .i64 1)), none⟩] false) [0, 1, 7] 0)
  (.cond (.t 7) (.seq (.post (.region [
    ⟨.mv 8 (.t 0), none⟩,
    ⟨.bin 9 .quo (.t 8) (.c (.int .i64 2)), none⟩,
    ⟨.mv 10 (.t 1), none⟩,
    ⟨.bin 11 .add (.t 9) (.t 10), none⟩,
    ⟨.un 12 .neg (.t 11), none⟩,
    ⟨.mv 4 (.t 12), none⟩] false) [4] 0)
  .ret)
  .skip))
  (.seq (.post (.region [
    ⟨.mv 13 (.t 0), none⟩,
    ⟨.bin 14 .quo (.t 13) (.c (.int .i64 2)), none⟩,
    ⟨.mv 15 (.t 1), none⟩,
    ⟨.bin 16 .add (.t 14) (.t 15), none⟩,
    ⟨.mv 4 (.t 16), none⟩] false) [4] 0)
  .ret)))
def f_cnf_Number : IFunc := { np := 2, res := [.t 4], own := false, trunc := true, body := f_cnf_Number_0 }

/- 91: (*latchwork/cnf.Maker).Add -/
def f_cnf_Maker_Add_0 : ICode :=
  (.post (.region [
    ⟨.mv 4 (.t 0), none⟩,
    ⟨.mv 5 (.t 0), none⟩,
    ⟨.nilc 6 (.t 5), none⟩,
    ⟨.faddr 7 (.t 6) 0, none⟩,
    ⟨.faddr 8 (.t 7) 1, none⟩,
    ⟨.loadT 9 (.t 8), none⟩,
    ⟨.mv 10 (.t 1), none⟩,
    ⟨.buildSl 11 1 [(.t 10)], none⟩,
    ⟨.append 12 1 24 (.t 9) (.t 11), none⟩,
    ⟨.nilc 13 (.t 4), none⟩,
    ⟨.faddr 14 (.t 13) 0, none⟩,
    ⟨.faddr 15 (.t 14) 1, none⟩,
    ⟨.store true 1 (.t 15) (.t 12), none⟩] false) [] 0)
def f_cnf_Maker_Add : IFunc := { np := 2, res := [], own := false, trunc := false, body := f_cnf_Maker_Add_0 }

/- 94: latchwork/cnf.one -/
def f_cnf_one_0 : ICode :=
  (.seq (.post (.region [
    ⟨.box 2 true false (.t 0), none⟩,
    ⟨.mv 4 (.c (.int .i64 0)), none⟩] false) [1, 2] 0)
  (.seq (.seq (.post (.region [
    ⟨.mv 5 (.t 1), none⟩,
    ⟨.len 6 0 (.t 5), none⟩,
    ⟨.bin 7 .gtr (.t 6) (.c (.int .i64 200)), none⟩] false) [1, 2, 7] 0)
  (.cond (.t 7) (.seq (.post (.region [
    ⟨.mv 4 (.c (.int .i64 2)), none⟩] false) [4] 0)
  .ret)
  .skip))
  (.seq (.seq (.post (.region [
    ⟨.mv 8 (.t 1), none⟩,
    ⟨.mkfn 9 113 [(.t 2)], none⟩,
    ⟨.call (some 10) true 86 [(.t 8), (.t 9)], none⟩] false) [10] 0)
  (.cond (.t 10) (.seq (.post (.region [
    ⟨.mv 4 (.c (.int .i64 5)), none⟩] false) [4] 0)
  .ret)
  .skip))
  (.seq (.post (.region [
    ⟨.mv 4 (.c (.int .i64 0)), none⟩] false) [4] 0)
  .ret))))
def f_cnf_one : IFunc := { np := 2, res := [.t 4], own := false, trunc := true, body := f_cnf_one_0 }

/- 98: latchwork/cnf.Hold$1 -/
def f_cnf_Hold_1_0 : ICode :=
  (.seq (.post (.region [
    ⟨.mv 3 (.c (.bool false)), none⟩] false) [0, 1] 0)
  (.seq (.post (.region [
    ⟨.load 4 false 1 (.t 1), none⟩,
    ⟨.mv 5 (.t 0), none⟩,
    ⟨.call (some 6) true 116 [(.t 5)], none⟩,
    ⟨.bin 7 .sub (.t 6) (.c (.int .i64 1)), none⟩,
    ⟨.iaddr 8 1 none (.t 4) (.t 7), none⟩,
    ⟨.load 9 false 1 (.t 8), none⟩,
    ⟨.mv 10 (.t 0), none⟩,
    ⟨.bin 11 .gtr (.t 10) (.c (.int .i64 0)), none⟩,
    ⟨.eqb 12 false (.t 9) (.t 11), none⟩,
    ⟨.mv 3 (.t 12), none⟩] true) [3] 0)
  .ret))
def f_cnf_Hold_1 : IFunc := { np := 2, res := [.t 3], own := false, trunc := true, body := f_cnf_Hold_1_0 }

/- 99: latchwork/cnf.Hold$2 -/
def f_cnf_Hold_2_0 : ICode :=
  (.seq (.post (.region [
    ⟨.mv 3 (.c (.bool false)), none⟩] false) [0, 1] 0)
  (.seq (.post (.region [
    ⟨.mv 4 (.t 0), none⟩,
    ⟨.load 5 false 1 (.t 1), none⟩,
    ⟨.call (some 6) true 86 [(.t 4), (.t 5)], none⟩,
    ⟨.un 7 .not (.t 6), none⟩,
    ⟨.mv 3 (.t 7), none⟩] false) [3] 0)
  .ret))
def f_cnf_Hold_2 : IFunc := { np := 2, res := [.t 3], own := false, trunc := true, body := f_cnf_Hold_2_0 }

/- 113: latchwork/cnf.one$1 -/
def f_cnf_one_1_0 : ICode :=
  (.seq (.post (.region [
    ⟨.mv 3 (.c (.bool false)), none⟩] false) [0, 1] 0)
  (.seq (.post (.region [
    ⟨.mv 4 (.t 0), none⟩,
    ⟨.bin 5 .eql (.t 4) (.c (.int .i64 0)), none⟩,
    ⟨.mv 6 (.t 5), none⟩,
    ⟨.mv 7 (.t 0), some (6, false)⟩,
    ⟨.load 8 false 1 (.t 1), some (6, false)⟩,
    ⟨.bin 9 .gtr (.t 7) (.t 8), some (6, false)⟩,
    ⟨.pick 10 (.t 6) (.c (.bool true)) (.t 9), none⟩,
    ⟨.mv 11 (.t 10), none⟩,
    ⟨.mv 12 (.t 0), some (11, false)⟩,
    ⟨.load 13 false 1 (.t 1), some (11, false)⟩,
    ⟨.un 14 .neg (.t 13), some (11, false)⟩,
    ⟨.bin 15 .lss (.t 12) (.t 14), some (11, false)⟩,
    ⟨.pick 16 (.t 11) (.c (.bool true)) (.t 15), none⟩,
    ⟨.mv 3 (.t 16), none⟩] false) [3] 0)
  .ret))
def f_cnf_one_1 : IFunc := { np := 2, res := [.t 3], own := false, trunc := true, body := f_cnf_one_1_0 }

/- 116: latchwork/cnf.abs -/
def f_cnf_abs_0 : ICode :=
  (.seq (.post (.region [
    ⟨.mv 2 (.c (.int .i64 0)), none⟩] false) [0] 0)
  (.seq (.post (.region [
    ⟨.mv 3 (.t 0), none⟩,
    ⟨.mv 4 (.t 0), none⟩,
    ⟨.un 5 .neg (.t 4), none⟩,
    ⟨.maxi 6 [(.t 3), (.t 5)], none⟩,
    ⟨.mv 2 (.t 6), none⟩] false) [2] 0)
  .ret))
def f_cnf_abs : IFunc := { np := 1, res := [.t 2], own := false, trunc := true, body := f_cnf_abs_0 }

/- 153: latchwork/cnf.Clause -/
def f_cnf_Clause_0 : ICode :=
  (.seq (.post (.region [
    ⟨.mv 4 (.c (.int .i64 0)), none⟩] false) [0, 1] 0)
  (.seq (.post (.region [
    ⟨.mv 5 (.t 0), none⟩,
    ⟨.mv 6 (.t 1), none⟩,
    ⟨.call (some 7) true 94 [(.t 5), (.t 6)], none⟩,
    ⟨.mv 4 (.t 7), none⟩] false) [4] 0)
  .ret))
def f_cnf_Clause : IFunc := { np := 2, res := [.t 4], own := false, trunc := true, body := f_cnf_Clause_0 }

end Go.Lw
end

/-! The code of package Gates for the small machine. Written by program (gen.py). -/
section
set_option maxRecDepth 10000
namespace Go.Lw
open Go

/- 1: latchwork/gates.And -/
/- 6: latchwork/gates.Check -/
/- at its head: [1, 3, 20, 21, 22] -/
def f_gates_Check_b1 : ICode :=
  (.post (.seq (.region [
    ⟨.bin 23 .lss (.t 22) (.t 21), none⟩] false)
  (.seq (.cond (.t 23) .skip
  (.exit 0))
  (.seq (.block 1 (.seq (.post (.region [
    ⟨.mv 24 (.t 22), none⟩,
    ⟨.iaddr 25 2 none (.t 20) (.t 22), none⟩,
    ⟨.load 26 true 2 (.t 25), none⟩,
    ⟨.alloc 5 false (.agg [.int .i64 0, .int .i64 0]), none⟩,
    ⟨.mv 4 (.t 24), none⟩,
    ⟨.store false 2 (.t 5) (.t 26), none⟩] false) [1, 3, 4, 5, 20, 21, 22] 2)
  (.seq (.seq (.post (.region [
    ⟨.iaddr 27 1 (some 2) (.t 5) (.c (.int .i64 0)), none⟩,
    ⟨.load 28 false 1 (.t 27), none⟩,
    ⟨.iaddr 29 1 (some 2) (.t 5) (.c (.int .i64 1)), none⟩,
    ⟨.load 30 false 1 (.t 29), none⟩,
    ⟨.bin 31 .geq (.t 28) (.t 30), none⟩,
    ⟨.mv 32 (.t 31), none⟩,
    ⟨.iaddr 33 1 (some 2) (.t 5) (.c (.int .i64 0)), some (32, false)⟩,
    ⟨.load 34 false 1 (.t 33), some (32, false)⟩,
    ⟨.bin 35 .lss (.t 34) (.c (.int .i64 2)), some (32, false)⟩,
    ⟨.pick 36 (.t 32) (.c (.bool true)) (.t 35), none⟩,
    ⟨.mv 37 (.t 36), none⟩,
    ⟨.iaddr 38 1 (some 2) (.t 5) (.c (.int .i64 1)), some (37, false)⟩,
    ⟨.load 39 false 1 (.t 38), some (37, false)⟩,
    ⟨.bin 40 .quo (.t 39) (.c (.int .i64 2)), some (37, false)⟩,
    ⟨.faddr 41 (.t 1) 0, some (37, false)⟩,
    ⟨.load 42 false 1 (.t 41), some (37, false)⟩,
    ⟨.bin 43 .add (.c (.int .i64 1)) (.t 42), some (37, false)⟩,
    ⟨.mv 44 (.t 4), some (37, false)⟩,
    ⟨.bin 45 .add (.t 43) (.t 44), some (37, false)⟩,
    ⟨.bin 46 .geq (.t 40) (.t 45), some (37, false)⟩,
    ⟨.pick 47 (.t 37) (.c (.bool true)) (.t 46), none⟩,
    ⟨.mv 48 (.t 47), none⟩,
    ⟨.iaddr 49 1 (some 2) (.t 5) (.c (.int .i64 0)), some (48, false)⟩,
    ⟨.load 50 false 1 (.t 49), some (48, false)⟩,
    ⟨.bin 51 .quo (.t 50) (.c (.int .i64 2)), some (48, false)⟩,
    ⟨.iaddr 52 1 (some 2) (.t 5) (.c (.int .i64 1)), some (48, false)⟩,
    ⟨.load 53 false 1 (.t 52), some (48, false)⟩,
    ⟨.bin 54 .quo (.t 53) (.c (.int .i64 2)), some (48, false)⟩,
    ⟨.bin 55 .eql (.t 51) (.t 54), some (48, false)⟩,
    ⟨.pick 56 (.t 48) (.c (.bool true)) (.t 55), none⟩] false) [1, 3, 5, 20, 21, 22, 56] 2)
  (.cond (.t 56) (.seq (.post (.region [
    ⟨.mv 2 (.c (.int .i64 4)), none⟩] false) [2] 0)
  .ret)
  .skip))
  (.post (.region [
    ⟨.mv 57 (.t 3), none⟩,
    ⟨.load 58 true 2 (.t 5), none⟩,
    ⟨.mupd 2 (.t 57) (.t 58) (.c (.bool true)), none⟩] false) [1, 3, 20, 21, 22] 1))))
  (.post (.region [
    ⟨.bin 59 .add (.t 22) (.c (.int .i64 1)), none⟩,
    ⟨.mv 22 (.t 59), none⟩] false) [1, 3, 20, 21, 22] 1)))) [1, 3, 20, 21, 22] 1)
def f_gates_Check_l1 : ICode :=
  (.post (.block 0 (.loop f_gates_Check_b1)) [1, 3] 1)
def f_gates_Check_k1 : ICode :=
  (.seq (.seq (.post (.region [
    ⟨.mv 60 (.t 3), none⟩,
    ⟨.len 61 2 (.t 60), none⟩,
    ⟨.faddr 62 (.t 1) 1, none⟩,
    ⟨.load 63 false 1 (.t 62), none⟩,
    ⟨.len 64 0 (.t 63), none⟩,
    ⟨.bin 65 .lss (.t 61) (.t 64), none⟩] false) [65] 0)
  (.cond (.t 65) (.seq (.post (.region [
    ⟨.mv 2 (.c (.int .i64 6)), none⟩] false) [2] 0)
  .ret)
  .skip))
  (.seq (.post (.region [
    ⟨.mv 2 (.c (.int .i64 0)), none⟩] false) [2] 0)
  .ret))
def f_gates_Check_0 : ICode :=
  (.seq (.post (.region [
    ⟨.box 1 false false (.t 0), none⟩,
    ⟨.mv 2 (.c (.int .i64 0)), none⟩] false) [1] 1)
  (.seq (.seq (.post (.region [
    ⟨.faddr 6 (.t 1) 0, none⟩,
    ⟨.load 7 false 1 (.t 6), none⟩,
    ⟨.bin 8 .lss (.t 7) (.c (.int .i64 0)), none⟩,
    ⟨.mv 9 (.t 8), none⟩,
    ⟨.faddr 10 (.t 1) 0, some (9, false)⟩,
    ⟨.load 11 false 1 (.t 10), some (9, false)⟩,
    ⟨.bin 12 .gtr (.t 11) (.c (.int .i64 1000)), some (9, false)⟩,
    ⟨.pick 13 (.t 9) (.c (.bool true)) (.t 12), none⟩] false) [1, 13] 1)
  (.cond (.t 13) (.seq (.post (.region [
    ⟨.mv 2 (.c (.int .i64 3)), none⟩] false) [2] 0)
  .ret)
  .skip))
  (.seq (.seq (.post (.region [
    ⟨.faddr 14 (.t 1) 1, none⟩,
    ⟨.load 15 false 1 (.t 14), none⟩,
    ⟨.len 16 0 (.t 15), none⟩,
    ⟨.bin 17 .gtr (.t 16) (.c (.int .i64 1000000)), none⟩] false) [1, 17] 1)
  (.cond (.t 17) (.seq (.post (.region [
    ⟨.mv 2 (.c (.int .i64 2)), none⟩] false) [2] 0)
  .ret)
  .skip))
  (.seq (.post (.region [
    ⟨.mkmap 18, none⟩,
    ⟨.mv 3 (.t 18), none⟩] false) [1, 3] 1)
  (.seq (.seq (.post (.region [
    ⟨.faddr 19 (.t 1) 1, none⟩,
    ⟨.load 20 false 1 (.t 19), none⟩,
    ⟨.len 21 0 (.t 20), none⟩,
    ⟨.mv 22 (.c (.int .i64 0)), none⟩] false) [1, 3, 20, 21, 22] 1)
  (.cut f_gates_Check_l1))
  (.cut f_gates_Check_k1))))))
def f_gates_Check : IFunc := { np := 1, res := [.t 2], own := false, trunc := true, body := f_gates_Check_0 }

/- 9: latchwork/gates.Eval -/
/- at its head: [9, 10, 32, 33, 34] -/
/- 47: latchwork/gates.Is -/
def f_gates_Is_0 : ICode :=
  (.seq (.post (.region [
    ⟨.box 2 true false (.t 0), none⟩,
    ⟨.mv 4 (.c (.bool false)), none⟩] false) [1, 2] 0)
  (.seq (.post (.region [
    ⟨.mv 5 (.t 1), none⟩,
    ⟨.mkfn 6 85 [(.t 2)], none⟩,
    ⟨.call (some 7) true 86 [(.t 5), (.t 6)], none⟩,
    ⟨.un 8 .not (.t 7), none⟩,
    ⟨.mv 4 (.t 8), none⟩] false) [4] 0)
  .ret))
def f_gates_Is : IFunc := { np := 2, res := [.t 4], own := false, trunc := true, body := f_gates_Is_0 }

/- 48: latchwork/gates.New -/
/- at its head: [1, 3, 16, 17, 18] -/
/- 49: (*latchwork/gates.Maker).And -/
/- 52: latchwork/gates.All -/
/- at its head: [5, 6, 14, 15, 16] -/
/- 85: latchwork/gates.Is$1 -/
def f_gates_Is_1_0 : ICode :=
  (.seq (.post (.region [
    ⟨.mv 3 (.c (.bool false)), none⟩] false) [0, 1] 0)
  (.seq (.post (.region [
    ⟨.mv 4 (.t 0), none⟩,
    ⟨.bin 5 .lss (.t 4) (.c (.int .i64 0)), none⟩,
    ⟨.mv 6 (.t 5), none⟩,
    ⟨.mv 7 (.t 0), some (6, false)⟩,
    ⟨.load 8 true 2 (.t 1), some (6, false)⟩,
    ⟨.call (some 9) true 88 [(.t 8)], some (6, false)⟩,
    ⟨.bin 10 .mul (.c (.int .i64 2)) (.t 9), some (6, false)⟩,
    ⟨.bin 11 .geq (.t 7) (.t 10), some (6, false)⟩,
    ⟨.pick 12 (.t 6) (.c (.bool true)) (.t 11), none⟩,
    ⟨.mv 3 (.t 12), none⟩] false) [3] 0)
  .ret))
def f_gates_Is_1 : IFunc := { np := 2, res := [.t 3], own := false, trunc := true, body := f_gates_Is_1_0 }

/- 88: latchwork/gates.Nodes -/
def f_gates_Nodes_0 : ICode :=
  (.seq (.post (.region [
    ⟨.box 1 false false (.t 0), none⟩,
    ⟨.mv 2 (.c (.int .i64 0)), none⟩] false) [1] 1)
  (.seq (.post (.region [
    ⟨.faddr 3 (.t 1) 0, none⟩,
    ⟨.load 4 false 1 (.t 3), none⟩,
    ⟨.bin 5 .add (.c (.int .i64 1)) (.t 4), none⟩,
    ⟨.faddr 6 (.t 1) 1, none⟩,
    ⟨.load 7 false 1 (.t 6), none⟩,
    ⟨.len 8 0 (.t 7), none⟩,
    ⟨.bin 9 .add (.t 5) (.t 8), none⟩,
    ⟨.mv 2 (.t 9), none⟩] false) [2] 0)
  .ret))
def f_gates_Nodes : IFunc := { np := 1, res := [.t 2], own := false, trunc := true, body := f_gates_Nodes_0 }

/- 89: latchwork/gates.All$1 -/
end Go.Lw
end

/-! The code of package Law for the small machine. Written by program (gen.py). -/
section
set_option maxRecDepth 10000
namespace Go.Lw
open Go

/- 0: latchwork/latchworklaw.GatesAnds -/
/- 5: latchwork/latchworklaw.gatesBegun -/
/- 8: latchwork/latchworklaw.GatesEvals -/
/- at its head: [2, 7, 8, 9, 10, 11, 12] -/
/- 13: latchwork/latchworklaw.sameBools -/
/- at its head: [0, 1, 5] -/
/- 14: latchwork/latchworklaw.GatesKeep -/
/- at its head: [1, 2, 3, 4, 9, 10, 12, 13] -/
/- 15: latchwork/latchworklaw.CnfOfs -/
/- 18: latchwork/latchworklaw.cnfBegun -/
def f_law_cnfBegun_0 : ICode :=
  (.seq (.post (.region [
    ⟨.mv 0 (.c (.bool false)), none⟩] false) [] 0)
  (.seq (.post (.region [
    ⟨.build 6 [.int .i64 0, .int .i64 0] [(0, 1, (.c (.int .i64 2))), (1, 1, (.c (.int .i64 4)))], none⟩,
    ⟨.buildSl 7 2 [(.t 6)], none⟩,
    ⟨.buildT 8 [.int .i64 0, .sl true 2 []] [(0, 1, (.c (.int .i64 2))), (1, 1, (.t 7))], none⟩,
    ⟨.buildSl 9 1 [(.c (.int .i64 6))], none⟩,
    ⟨.call (some 10) true 16 [(.t 8), (.t 9)], none⟩,
    ⟨.mv 5 (.t 10), none⟩,
    ⟨.extract 11 (.t 5) 0, none⟩,
    ⟨.extract 12 (.t 5) 1, none⟩,
    ⟨.alloc 1 false (.agg [.int .i64 0, .sl true 1 []]), none⟩,
    ⟨.store true 2 (.t 1) (.t 11), none⟩,
    ⟨.mv 2 (.t 12), none⟩] false) [1, 2] 1)
  (.seq (.post (.region [
    ⟨.load 14 true 2 (.t 1), none⟩,
    ⟨.buildSl 15 1 [(.c (.bool true)), (.c (.bool true)), (.c (.bool true))], none⟩,
    ⟨.call (some 16) true 32 [(.t 14), (.t 15)], none⟩,
    ⟨.mv 13 (.t 16), none⟩,
    ⟨.extract 17 (.t 13) 0, none⟩,
    ⟨.extract 18 (.t 13) 1, none⟩,
    ⟨.mv 3 (.t 17), none⟩,
    ⟨.mv 4 (.t 18), none⟩] false) [1, 2, 3, 4] 1)
  (.seq (.post (.region [
    ⟨.mv 19 (.t 2), none⟩,
    ⟨.bin 20 .eql (.t 19) (.c (.int .i64 0)), none⟩,
    ⟨.mv 21 (.t 20), none⟩,
    ⟨.mv 22 (.t 4), some (21, true)⟩,
    ⟨.bin 23 .eql (.t 22) (.c (.int .i64 0)), some (21, true)⟩,
    ⟨.pick 24 (.t 21) (.t 23) (.c (.bool false)), none⟩,
    ⟨.mv 25 (.t 24), none⟩,
    ⟨.mv 26 (.t 3), some (25, true)⟩,
    ⟨.pick 27 (.t 25) (.t 26) (.c (.bool false)), none⟩,
    ⟨.mv 28 (.t 27), none⟩,
    ⟨.faddr 29 (.t 1) 0, some (28, true)⟩,
    ⟨.load 30 false 1 (.t 29), some (28, true)⟩,
    ⟨.bin 31 .eql (.t 30) (.c (.int .i64 3)), some (28, true)⟩,
    ⟨.pick 32 (.t 28) (.t 31) (.c (.bool false)), none⟩,
    ⟨.mv 33 (.t 32), none⟩,
    ⟨.faddr 34 (.t 1) 1, some (33, true)⟩,
    ⟨.load 35 false 1 (.t 34), some (33, true)⟩,
    ⟨.len 36 0 (.t 35), some (33, true)⟩,
    ⟨.bin 37 .eql (.t 36) (.c (.int .i64 4)), some (33, true)⟩,
    ⟨.pick 38 (.t 33) (.t 37) (.c (.bool false)), none⟩,
    ⟨.mv 39 (.t 38), none⟩,
    ⟨.load 40 true 2 (.t 1), some (39, true)⟩,
    ⟨.call (some 41) true 59 [(.t 40)], some (39, true)⟩,
    ⟨.bin 42 .eql (.t 41) (.c (.int .i64 0)), some (39, true)⟩,
    ⟨.pick 43 (.t 39) (.t 42) (.c (.bool false)), none⟩,
    ⟨.mv 0 (.t 43), none⟩] false) [0] 0)
  .ret))))
def f_law_cnfBegun : IFunc := { np := 0, res := [.t 0], own := false, trunc := true, body := f_law_cnfBegun_0 }

/- 19: latchwork/latchworklaw.clausesAre -/
/- 20: latchwork/latchworklaw.WordFits -/
/- 21: latchwork/latchworklaw.wordBegun -/
/- 24: latchwork/latchworklaw.WordApplies -/
/- at its head: [0, 1, 3, 7, 9, 11, 12, 13, 14, 15, 16] -/
/- 29: latchwork/latchworklaw.WordTurns -/
/- 30: latchwork/latchworklaw.choose -/
/- 31: latchwork/latchworklaw.CnfTells -/
/- at its head: [1, 2, 3, 4, 9, 11, 12] -/
/- at its head: [3, 4, 9, 11, 13, 14, 16, 17] -/
/- 33: latchwork/latchworklaw.ModelChecks -/
/- 37: latchwork/latchworklaw.modelBegun -/
/- 40: latchwork/latchworklaw.listIs -/
/- 41: latchwork/latchworklaw.ModelCones -/
/- 44: latchwork/latchworklaw.ModelAgain -/
/- at its head: [1, 2, 5, 7] -/
/- at its head: [2, 5, 8] -/
/- 75: latchwork/latchworklaw.toggle -/
/- 122: latchwork/latchworklaw.EvalBegins -/
/- 126: latchwork/latchworklaw.evalBegun -/
/- 127: latchwork/latchworklaw.EvalValues -/
/- 144: latchwork/latchworklaw.ProofFollows -/
/- 147: latchwork/latchworklaw.proofBegun -/
def f_law_proofBegun_0 : ICode :=
  (.seq (.post (.region [
    ⟨.mv 0 (.c (.bool false)), none⟩] false) [] 0)
  (.seq (.post (.region [
    ⟨.buildSl 6 1 [(.c (.int .i64 1)), (.c (.int .i64 2))], none⟩,
    ⟨.buildSl 7 1 [(.c (.int .i64 1)), (.c (.int .i64 (-2)))], none⟩,
    ⟨.buildSl 8 1 [(.c (.int .i64 (-1))), (.c (.int .i64 2))], none⟩,
    ⟨.buildSl 9 1 [(.c (.int .i64 (-1))), (.c (.int .i64 (-2)))], none⟩,
    ⟨.buildSl 10 1 [(.t 6), (.t 7), (.t 8), (.t 9)], none⟩,
    ⟨.buildT 11 [.int .i64 0, .sl true 1 []] [(0, 1, (.c (.int .i64 2))), (1, 1, (.t 10))], none⟩,
    ⟨.alloc 1 false (.agg [.int .i64 0, .sl true 1 []]), none⟩,
    ⟨.store true 2 (.t 1) (.t 11), none⟩] false) [1] 1)
  (.seq (.post (.region [
    ⟨.load 13 true 2 (.t 1), none⟩,
    ⟨.buildSl 14 1 [(.c (.int .i64 1))], none⟩,
    ⟨.buildSl 15 1 [(.t 14), (.c (.sl true 1 []))], none⟩,
    ⟨.call (some 16) true 149 [(.t 13), (.t 15)], none⟩,
    ⟨.mv 12 (.t 16), none⟩,
    ⟨.extract 17 (.t 12) 0, none⟩,
    ⟨.extract 18 (.t 12) 1, none⟩,
    ⟨.mv 2 (.t 17), none⟩,
    ⟨.mv 3 (.t 18), none⟩] false) [1, 2, 3] 1)
  (.seq (.post (.region [
    ⟨.load 20 true 2 (.t 1), none⟩,
    ⟨.call (some 21) true 145 [(.t 20), (.c (.sl true 1 []))], none⟩,
    ⟨.mv 19 (.t 21), none⟩,
    ⟨.extract 22 (.t 19) 0, none⟩,
    ⟨.extract 23 (.t 19) 1, none⟩,
    ⟨.mv 4 (.t 22), none⟩,
    ⟨.mv 5 (.t 23), none⟩] false) [2, 3, 4, 5] 0)
  (.seq (.post (.region [
    ⟨.mv 24 (.t 3), none⟩,
    ⟨.bin 25 .eql (.t 24) (.c (.int .i64 0)), none⟩,
    ⟨.mv 26 (.t 25), none⟩,
    ⟨.mv 27 (.t 5), some (26, true)⟩,
    ⟨.bin 28 .eql (.t 27) (.c (.int .i64 0)), some (26, true)⟩,
    ⟨.pick 29 (.t 26) (.t 28) (.c (.bool false)), none⟩,
    ⟨.mv 30 (.t 29), none⟩,
    ⟨.mv 31 (.t 2), some (30, true)⟩,
    ⟨.pick 32 (.t 30) (.t 31) (.c (.bool false)), none⟩,
    ⟨.mv 33 (.t 32), none⟩,
    ⟨.mv 34 (.t 4), some (33, true)⟩,
    ⟨.un 35 .not (.t 34), some (33, true)⟩,
    ⟨.pick 36 (.t 33) (.t 35) (.c (.bool false)), none⟩,
    ⟨.mv 0 (.t 36), none⟩] false) [0] 0)
  .ret)))))
def f_law_proofBegun : IFunc := { np := 0, res := [.t 0], own := false, trunc := true, body := f_law_proofBegun_0 }

/- 148: latchwork/latchworklaw.ProofChecks -/
/- 152: latchwork/latchworklaw.ProofSound -/
def f_law_ProofSound_0 : ICode :=
  (.seq (.post (.region [
    ⟨.box 3 false false (.t 0), none⟩,
    ⟨.mv 6 (.c (.bool false)), none⟩] false) [1, 2, 3] 1)
  (.seq (.seq (.post (.region [
    ⟨.call (some 10) true 147 [], none⟩,
    ⟨.un 11 .not (.t 10), none⟩,
    ⟨.mv 12 (.t 11), none⟩,
    ⟨.call (some 13) true 18 [], some (12, false)⟩,
    ⟨.un 14 .not (.t 13), some (12, false)⟩,
    ⟨.pick 15 (.t 12) (.c (.bool true)) (.t 14), none⟩] false) [1, 2, 3, 15] 1)
  (.cond (.t 15) (.seq (.post (.region [
    ⟨.mv 6 (.c (.bool false)), none⟩] false) [6] 0)
  .ret)
  .skip))
  (.seq (.post (.region [
    ⟨.load 17 true 2 (.t 3), none⟩,
    ⟨.mv 18 (.t 1), none⟩,
    ⟨.call (some 19) true 149 [(.t 17), (.t 18)], none⟩,
    ⟨.mv 16 (.t 19), none⟩,
    ⟨.extract 20 (.t 16) 0, none⟩,
    ⟨.extract 21 (.t 16) 1, none⟩,
    ⟨.mv 7 (.t 20), none⟩,
    ⟨.mv 8 (.t 21), none⟩] false) [2, 3, 7, 8] 1)
  (.seq (.seq (.post (.region [
    ⟨.mv 22 (.t 8), none⟩,
    ⟨.bin 23 .neq (.t 22) (.c (.int .i64 0)), none⟩,
    ⟨.mv 24 (.t 23), none⟩,
    ⟨.mv 25 (.t 7), some (24, false)⟩,
    ⟨.un 26 .not (.t 25), some (24, false)⟩,
    ⟨.pick 27 (.t 24) (.c (.bool true)) (.t 26), none⟩] false) [2, 3, 27] 1)
  (.cond (.t 27) (.seq (.post (.region [
    ⟨.mv 6 (.c (.bool true)), none⟩] false) [6] 0)
  .ret)
  .skip))
  (.seq (.post (.region [
    ⟨.load 29 true 2 (.t 3), none⟩,
    ⟨.mv 30 (.t 2), none⟩,
    ⟨.call (some 31) true 32 [(.t 29), (.t 30)], none⟩,
    ⟨.mv 28 (.t 31), none⟩,
    ⟨.extract 32 (.t 28) 0, none⟩,
    ⟨.extract 33 (.t 28) 1, none⟩,
    ⟨.mv 9 (.t 32), none⟩,
    ⟨.mv 8 (.t 33), none⟩] false) [8, 9] 0)
  (.seq (.post (.region [
    ⟨.mv 34 (.t 8), none⟩,
    ⟨.bin 35 .neq (.t 34) (.c (.int .i64 0)), none⟩,
    ⟨.mv 36 (.t 35), none⟩,
    ⟨.mv 37 (.t 9), some (36, false)⟩,
    ⟨.un 38 .not (.t 37), some (36, false)⟩,
    ⟨.pick 39 (.t 36) (.c (.bool true)) (.t 38), none⟩,
    ⟨.mv 6 (.t 39), none⟩] false) [6] 0)
  .ret))))))
def f_law_ProofSound : IFunc := { np := 3, res := [.t 6], own := false, trunc := true, body := f_law_ProofSound_0 }

end Go.Lw
end

/-! The code of package Lib for the small machine. Written by program (gen.py). -/
section
set_option maxRecDepth 10000
namespace Go.Lw
open Go

/- 82: slices.Concat[[]latchwork/api.Pair,latchwork/api.Pair] -/
/- at its head: [0, 3, 9, 10, 11] -/
/- at its head: [6, 25, 26, 27] -/
/- 86: slices.ContainsFunc[[]int,int] -/
def f_slices_ContainsFunc_Lint_int_0 : ICode :=
  (.seq (.post (.region [
    ⟨.mv 4 (.c (.bool false)), none⟩] false) [0, 1] 0)
  (.seq (.post (.region [
    ⟨.mv 5 (.t 0), none⟩,
    ⟨.mv 6 (.t 1), none⟩,
    ⟨.call (some 7) true 111 [(.t 5), (.t 6)], none⟩,
    ⟨.bin 8 .geq (.t 7) (.c (.int .i64 0)), none⟩,
    ⟨.mv 4 (.t 8), none⟩] false) [4] 0)
  .ret))
def f_slices_ContainsFunc_Lint_int : IFunc := { np := 2, res := [.t 4], own := false, trunc := true, body := f_slices_ContainsFunc_Lint_int_0 }

/- 100: slices.ContainsFunc[[][]int,[]int] -/
def f_slices_ContainsFunc_LLint_Lint_0 : ICode :=
  (.seq (.post (.region [
    ⟨.mv 4 (.c (.bool false)), none⟩] false) [0, 1] 0)
  (.seq (.post (.region [
    ⟨.mv 5 (.t 0), none⟩,
    ⟨.mv 6 (.t 1), none⟩,
    ⟨.call (some 7) true 117 [(.t 5), (.t 6)], none⟩,
    ⟨.bin 8 .geq (.t 7) (.c (.int .i64 0)), none⟩,
    ⟨.mv 4 (.t 8), none⟩] false) [4] 0)
  .ret))
def f_slices_ContainsFunc_LLint_Lint : IFunc := { np := 2, res := [.t 4], own := false, trunc := true, body := f_slices_ContainsFunc_LLint_Lint_0 }

/- 107: slices.Concat[[]int,int] -/
/- at its head: [0, 3, 9, 10, 11] -/
/- at its head: [6, 25, 26, 27] -/
/- 111: slices.IndexFunc[[]int,int] -/
/- at its head: [0, 1, 7, 8] -/
def f_slices_IndexFunc_Lint_int_b1 : ICode :=
  (.post (.seq (.region [
    ⟨.bin 9 .lss (.t 8) (.t 7), none⟩] false)
  (.seq (.cond (.t 9) .skip
  (.exit 0))
  (.seq (.block 1 (.seq (.post (.region [
    ⟨.mv 10 (.t 8), none⟩,
    ⟨.mv 5 (.t 10), none⟩] false) [0, 1, 5, 7, 8] 0)
  (.seq (.post (.region [
    ⟨.mv 11 (.t 1), none⟩,
    ⟨.mv 12 (.t 0), none⟩,
    ⟨.mv 13 (.t 5), none⟩,
    ⟨.iaddr 14 1 none (.t 12) (.t 13), none⟩,
    ⟨.load 15 false 1 (.t 14), none⟩,
    ⟨.callv (some 16) true (.t 11) [(.t 15)], none⟩] false) [0, 1, 5, 7, 8, 16] 0)
  (.cond (.t 16) (.seq (.post (.region [
    ⟨.mv 17 (.t 5), none⟩,
    ⟨.mv 4 (.t 17), none⟩] false) [4] 0)
  .ret)
  .skip))))
  (.post (.region [
    ⟨.bin 18 .add (.t 8) (.c (.int .i64 1)), none⟩,
    ⟨.mv 8 (.t 18), none⟩] false) [0, 1, 7, 8] 0)))) [0, 1, 7, 8] 0)
def f_slices_IndexFunc_Lint_int_l1 : ICode :=
  (.post (.block 0 (.loop f_slices_IndexFunc_Lint_int_b1)) [] 0)
def f_slices_IndexFunc_Lint_int_k1 : ICode :=
  (.seq (.region [
    ⟨.mv 4 (.c (.int .i64 (-1))), none⟩] false)
  .ret)
def f_slices_IndexFunc_Lint_int_0 : ICode :=
  (.seq (.post (.region [
    ⟨.mv 4 (.c (.int .i64 0)), none⟩] false) [0, 1] 0)
  (.seq (.seq (.post (.region [
    ⟨.mv 6 (.t 0), none⟩,
    ⟨.len 7 0 (.t 6), none⟩,
    ⟨.mv 8 (.c (.int .i64 0)), none⟩] false) [0, 1, 7, 8] 0)
  (.cut f_slices_IndexFunc_Lint_int_l1))
  (.cut f_slices_IndexFunc_Lint_int_k1)))
def f_slices_IndexFunc_Lint_int : IFunc := { np := 2, res := [.t 4], own := false, trunc := true, body := f_slices_IndexFunc_Lint_int_0 }

/- 117: slices.IndexFunc[[][]int,[]int] -/
/- at its head: [0, 1, 7, 8] -/
def f_slices_IndexFunc_LLint_Lint_b1 : ICode :=
  (.post (.seq (.region [
    ⟨.bin 9 .lss (.t 8) (.t 7), none⟩] false)
  (.seq (.cond (.t 9) .skip
  (.exit 0))
  (.seq (.block 1 (.seq (.post (.region [
    ⟨.mv 10 (.t 8), none⟩,
    ⟨.mv 5 (.t 10), none⟩] false) [0, 1, 5, 7, 8] 0)
  (.seq (.post (.region [
    ⟨.mv 11 (.t 1), none⟩,
    ⟨.mv 12 (.t 0), none⟩,
    ⟨.mv 13 (.t 5), none⟩,
    ⟨.iaddr 14 1 none (.t 12) (.t 13), none⟩,
    ⟨.load 15 false 1 (.t 14), none⟩,
    ⟨.callv (some 16) true (.t 11) [(.t 15)], none⟩] false) [0, 1, 5, 7, 8, 16] 0)
  (.cond (.t 16) (.seq (.post (.region [
    ⟨.mv 17 (.t 5), none⟩,
    ⟨.mv 4 (.t 17), none⟩] false) [4] 0)
  .ret)
  .skip))))
  (.post (.region [
    ⟨.bin 18 .add (.t 8) (.c (.int .i64 1)), none⟩,
    ⟨.mv 8 (.t 18), none⟩] false) [0, 1, 7, 8] 0)))) [0, 1, 7, 8] 0)
def f_slices_IndexFunc_LLint_Lint_l1 : ICode :=
  (.post (.block 0 (.loop f_slices_IndexFunc_LLint_Lint_b1)) [] 0)
def f_slices_IndexFunc_LLint_Lint_k1 : ICode :=
  (.seq (.region [
    ⟨.mv 4 (.c (.int .i64 (-1))), none⟩] false)
  .ret)
def f_slices_IndexFunc_LLint_Lint_0 : ICode :=
  (.seq (.post (.region [
    ⟨.mv 4 (.c (.int .i64 0)), none⟩] false) [0, 1] 0)
  (.seq (.seq (.post (.region [
    ⟨.mv 6 (.t 0), none⟩,
    ⟨.len 7 0 (.t 6), none⟩,
    ⟨.mv 8 (.c (.int .i64 0)), none⟩] false) [0, 1, 7, 8] 0)
  (.cut f_slices_IndexFunc_LLint_Lint_l1))
  (.cut f_slices_IndexFunc_LLint_Lint_k1)))
def f_slices_IndexFunc_LLint_Lint : IFunc := { np := 2, res := [.t 4], own := false, trunc := true, body := f_slices_IndexFunc_LLint_Lint_0 }

/- 156: slices.Concat[[][]int,[]int] -/
/- at its head: [0, 3, 9, 10, 11] -/
def f_slices_Concat_LLint_Lint_b1 : ICode :=
  (.post (.seq (.region [
    ⟨.bin 12 .lss (.t 11) (.t 10), none⟩] false)
  (.seq (.cond (.t 12) .skip
  (.exit 0))
  (.seq (.block 1 (.seq (.post (.region [
    ⟨.iaddr 13 1 none (.t 9) (.t 11), none⟩,
    ⟨.load 14 false 1 (.t 13), none⟩,
    ⟨.tk 5 14, none⟩] false) [0, 3, 5, 9, 10, 11] 0)
  (.seq (.post (.region [
    ⟨.mv 15 (.t 3), none⟩,
    ⟨.mv 16 (.t 5), none⟩,
    ⟨.len 17 0 (.t 16), none⟩,
    ⟨.bin 18 .add (.t 15) (.t 17), none⟩,
    ⟨.mv 3 (.t 18), none⟩] false) [0, 3, 9, 10, 11] 0)
  (.seq (.post (.region [
    ⟨.mv 19 (.t 3), none⟩,
    ⟨.bin 20 .lss (.t 19) (.c (.int .i64 0)), none⟩] false) [0, 3, 9, 10, 11, 20] 0)
  (.cond (.t 20) .bad
  .skip)))))
  (.post (.region [
    ⟨.bin 22 .add (.t 11) (.c (.int .i64 1)), none⟩,
    ⟨.mv 11 (.t 22), none⟩] false) [0, 3, 9, 10, 11] 0)))) [0, 3, 9, 10, 11] 0)
def f_slices_Concat_LLint_Lint_l1 : ICode :=
  (.post (.block 0 (.loop f_slices_Concat_LLint_Lint_b1)) [0, 3] 0)
/- at its head: [6, 25, 26, 27] -/
def f_slices_Concat_LLint_Lint_b2 : ICode :=
  (.post (.seq (.region [
    ⟨.bin 28 .lss (.t 27) (.t 26), none⟩] false)
  (.seq (.cond (.t 28) .skip
  (.exit 2))
  (.seq (.block 3 (.seq (.post (.region [
    ⟨.iaddr 29 1 none (.t 25) (.t 27), none⟩,
    ⟨.load 30 false 1 (.t 29), none⟩,
    ⟨.tk 8 30, none⟩] false) [6, 8, 25, 26, 27] 0)
  (.post (.region [
    ⟨.tk 31 6, none⟩,
    ⟨.mv 32 (.t 8), none⟩,
    ⟨.append 33 1 24 (.t 31) (.t 32), none⟩,
    ⟨.tk 6 33, none⟩] false) [6, 25, 26, 27] 0)))
  (.post (.region [
    ⟨.bin 34 .add (.t 27) (.c (.int .i64 1)), none⟩,
    ⟨.mv 27 (.t 34), none⟩] false) [6, 25, 26, 27] 0)))) [6, 25, 26, 27] 0)
def f_slices_Concat_LLint_Lint_l2 : ICode :=
  (.post (.block 2 (.loop f_slices_Concat_LLint_Lint_b2)) [6] 0)
def f_slices_Concat_LLint_Lint_k2 : ICode :=
  (.seq (.post (.region [
    ⟨.mv 35 (.t 6), none⟩,
    ⟨.tk 2 35, none⟩] false) [2] 0)
  .ret)
def f_slices_Concat_LLint_Lint_k1 : ICode :=
  (.seq (.post (.region [
    ⟨.mv 23 (.t 3), none⟩,
    ⟨.call (some 24) true 160 [(.c .nils), (.t 23)], none⟩,
    ⟨.tk 6 24, none⟩] false) [0, 6] 0)
  (.seq (.seq (.post (.region [
    ⟨.mv 25 (.t 0), none⟩,
    ⟨.len 26 0 (.t 25), none⟩,
    ⟨.mv 27 (.c (.int .i64 0)), none⟩] false) [6, 25, 26, 27] 0)
  (.cut f_slices_Concat_LLint_Lint_l2))
  (.cut f_slices_Concat_LLint_Lint_k2)))
def f_slices_Concat_LLint_Lint_0 : ICode :=
  (.seq (.post (.region [
    ⟨.mv 2 (.c (.sl true 1 [])), none⟩] false) [0] 0)
  (.seq (.region [
    ⟨.mv 3 (.c (.int .i64 0)), none⟩] false)
  (.seq (.seq (.post (.region [
    ⟨.mv 9 (.t 0), none⟩,
    ⟨.len 10 0 (.t 9), none⟩,
    ⟨.mv 11 (.c (.int .i64 0)), none⟩] false) [0, 3, 9, 10, 11] 0)
  (.cut f_slices_Concat_LLint_Lint_l1))
  (.cut f_slices_Concat_LLint_Lint_k1))))
def f_slices_Concat_LLint_Lint : IFunc := { np := 1, res := [.t 2], own := true, trunc := true, body := f_slices_Concat_LLint_Lint_0 }

end Go.Lw
end

/-! The code of package Proof for the small machine. Written by program (gen.py). -/
section
set_option maxRecDepth 10000
namespace Go.Lw
open Go

/- 145: latchwork/proof.Follows -/
def f_proof_Follows_k1 : ICode :=
  (.seq (.seq (.post (.region [
    ⟨.mv 15 (.t 6), none⟩,
    ⟨.bin 16 .neq (.t 15) (.c (.int .i64 0)), none⟩] false) [1, 2, 6, 16] 1)
  (.cond (.t 16) (.seq (.post (.region [
    ⟨.mv 17 (.t 6), none⟩,
    ⟨.mv 4 (.c (.bool false)), none⟩,
    ⟨.mv 5 (.t 17), none⟩] false) [4, 5] 0)
  .ret)
  .skip))
  (.seq (.post (.region [
    ⟨.faddr 18 (.t 2) 1, none⟩,
    ⟨.load 19 false 1 (.t 18), none⟩,
    ⟨.call (some 20) false 154 [(.t 19)], none⟩,
    ⟨.mv 21 (.t 1), none⟩,
    ⟨.call (some 22) false 155 [(.t 20), (.t 21)], none⟩,
    ⟨.mv 4 (.t 22), none⟩,
    ⟨.mv 5 (.c (.int .i64 0)), none⟩] false) [4, 5] 0)
  .ret))
def f_proof_Follows_0 : ICode :=
  (.seq (.post (.region [
    ⟨.box 2 false false (.t 0), none⟩,
    ⟨.mv 4 (.c (.bool false)), none⟩,
    ⟨.mv 5 (.c (.int .i64 0)), none⟩] false) [1, 2] 1)
  (.seq (.post (.region [
    ⟨.load 7 true 2 (.t 2), none⟩,
    ⟨.call (some 8) true 59 [(.t 7)], none⟩,
    ⟨.mv 6 (.t 8), none⟩] false) [1, 2, 6] 1)
  (.seq (.seq (.post (.region [
    ⟨.mv 9 (.t 6), none⟩,
    ⟨.bin 10 .eql (.t 9) (.c (.int .i64 0)), none⟩] false) [1, 2, 6, 10] 1)
  (.cond (.t 10) (.post (.post (.region [
    ⟨.faddr 11 (.t 2) 0, none⟩,
    ⟨.load 12 false 1 (.t 11), none⟩,
    ⟨.mv 13 (.t 1), none⟩,
    ⟨.call (some 14) true 153 [(.t 12), (.t 13)], none⟩,
    ⟨.mv 6 (.t 14), none⟩] false) [1, 2, 6] 1) [1, 2, 6] 1)
  (.post .skip [1, 2, 6] 1)))
  (.cut f_proof_Follows_k1))))
def f_proof_Follows : IFunc := { np := 2, res := [.t 4, .t 5], own := false, trunc := true, body := f_proof_Follows_0 }

/- 149: latchwork/proof.Check -/
/- at its head: [8, 9, 32, 33, 34] -/
def f_proof_Check_b1 : ICode :=
  (.post (.seq (.region [
    ⟨.bin 35 .lss (.t 34) (.t 33), none⟩] false)
  (.seq (.cond (.t 35) .skip
  (.exit 0))
  (.seq (.block 1 (.seq (.post (.region [
    ⟨.iaddr 36 1 none (.t 32) (.t 34), none⟩,
    ⟨.load 37 false 1 (.t 36), none⟩,
    ⟨.tk 11 37, none⟩] false) [8, 9, 11, 32, 33, 34] 0)
  (.seq (.seq (.post (.region [
    ⟨.mv 38 (.t 8), none⟩,
    ⟨.mv 39 (.t 11), none⟩,
    ⟨.call (some 40) false 155 [(.t 38), (.t 39)], none⟩,
    ⟨.un 41 .not (.t 40), none⟩] false) [8, 9, 11, 32, 33, 34, 41] 0)
  (.cond (.t 41) (.seq (.post (.region [
    ⟨.mv 4 (.c (.bool false)), none⟩,
    ⟨.mv 5 (.c (.int .i64 0)), none⟩] false) [4, 5] 0)
  .ret)
  .skip))
  (.seq (.post (.region [
    ⟨.mv 42 (.t 8), none⟩,
    ⟨.mv 43 (.t 11), none⟩,
    ⟨.call (some 44) false 157 [(.t 42), (.t 43)], none⟩] false) [8, 9, 11, 32, 33, 34] 0)
  (.post (.region [
    ⟨.mv 45 (.t 9), none⟩,
    ⟨.mv 46 (.t 45), none⟩,
    ⟨.mv 47 (.t 11), some (46, false)⟩,
    ⟨.len 48 0 (.t 47), some (46, false)⟩,
    ⟨.bin 49 .eql (.t 48) (.c (.int .i64 0)), some (46, false)⟩,
    ⟨.pick 50 (.t 46) (.c (.bool true)) (.t 49), none⟩,
    ⟨.mv 9 (.t 50), none⟩] false) [8, 9, 32, 33, 34] 0)))))
  (.post (.region [
    ⟨.bin 51 .add (.t 34) (.c (.int .i64 1)), none⟩,
    ⟨.mv 34 (.t 51), none⟩] false) [8, 9, 32, 33, 34] 0)))) [8, 9, 32, 33, 34] 0)
def f_proof_Check_l1 : ICode :=
  (.post (.block 0 (.loop f_proof_Check_b1)) [9] 0)
def f_proof_Check_k1 : ICode :=
  (.seq (.post (.region [
    ⟨.mv 52 (.t 9), none⟩,
    ⟨.mv 4 (.t 52), none⟩,
    ⟨.mv 5 (.c (.int .i64 0)), none⟩] false) [4, 5] 0)
  .ret)
def f_proof_Check_0 : ICode :=
  (.seq (.post (.region [
    ⟨.box 2 false false (.t 0), none⟩,
    ⟨.mv 4 (.c (.bool false)), none⟩,
    ⟨.mv 5 (.c (.int .i64 0)), none⟩] false) [1, 2] 1)
  (.seq (.seq (.post (.region [
    ⟨.load 12 true 2 (.t 2), none⟩,
    ⟨.call (some 13) true 59 [(.t 12)], none⟩,
    ⟨.mv 6 (.t 13), none⟩] false) [1, 2, 6] 1)
  (.seq (.post (.region [
    ⟨.mv 14 (.t 6), none⟩,
    ⟨.bin 15 .neq (.t 14) (.c (.int .i64 0)), none⟩] false) [1, 2, 6, 15] 1)
  (.cond (.t 15) (.seq (.post (.region [
    ⟨.mv 16 (.t 6), none⟩,
    ⟨.mv 4 (.c (.bool false)), none⟩,
    ⟨.mv 5 (.t 16), none⟩] false) [4, 5] 0)
  .ret)
  .skip)))
  (.seq (.seq (.post (.region [
    ⟨.faddr 17 (.t 2) 0, none⟩,
    ⟨.load 18 false 1 (.t 17), none⟩,
    ⟨.faddr 19 (.t 2) 1, none⟩,
    ⟨.load 20 false 1 (.t 19), none⟩,
    ⟨.mv 21 (.t 1), none⟩,
    ⟨.buildSl 22 1 [(.t 20), (.t 21)], none⟩,
    ⟨.call (some 23) true 156 [(.t 22)], none⟩,
    ⟨.buildT 24 [.int .i64 0, .sl true 1 []] [(0, 1, (.t 18)), (1, 1, (.t 23))], none⟩,
    ⟨.call (some 25) true 59 [(.t 24)], none⟩,
    ⟨.mv 7 (.t 25), none⟩] true) [1, 2, 7] 1)
  (.seq (.post (.region [
    ⟨.mv 26 (.t 7), none⟩,
    ⟨.bin 27 .neq (.t 26) (.c (.int .i64 0)), none⟩] false) [1, 2, 7, 27] 1)
  (.cond (.t 27) (.seq (.post (.region [
    ⟨.mv 28 (.t 7), none⟩,
    ⟨.mv 4 (.c (.bool false)), none⟩,
    ⟨.mv 5 (.t 28), none⟩] false) [4, 5] 0)
  .ret)
  .skip)))
  (.seq (.post (.region [
    ⟨.faddr 29 (.t 2) 1, none⟩,
    ⟨.load 30 false 1 (.t 29), none⟩,
    ⟨.call (some 31) false 154 [(.t 30)], none⟩,
    ⟨.mv 8 (.t 31), none⟩] false) [1, 8] 0)
  (.seq (.region [
    ⟨.mv 9 (.c (.bool false)), none⟩] false)
  (.seq (.seq (.post (.region [
    ⟨.mv 32 (.t 1), none⟩,
    ⟨.len 33 0 (.t 32), none⟩,
    ⟨.mv 34 (.c (.int .i64 0)), none⟩] false) [8, 9, 32, 33, 34] 0)
  (.cut f_proof_Check_l1))
  (.cut f_proof_Check_k1)))))))
def f_proof_Check : IFunc := { np := 2, res := [.t 4, .t 5], own := false, trunc := true, body := f_proof_Check_0 }

/- 154: latchwork/proof.open -/
/- at its head: [3, 9, 10, 11] -/
def f_proof_open_b1 : ICode :=
  (.post (.seq (.region [
    ⟨.bin 12 .lss (.t 11) (.t 10), none⟩] false)
  (.seq (.cond (.t 12) .skip
  (.exit 0))
  (.seq (.block 1 (.seq (.post (.region [
    ⟨.iaddr 13 1 none (.t 9) (.t 11), none⟩,
    ⟨.load 14 false 1 (.t 13), none⟩,
    ⟨.tk 5 14, none⟩] false) [3, 5, 9, 10, 11] 0)
  (.post (.region [
    ⟨.mv 15 (.t 3), none⟩,
    ⟨.mv 16 (.t 5), none⟩,
    ⟨.call (some 17) false 157 [(.t 15), (.t 16)], none⟩] false) [3, 9, 10, 11] 0)))
  (.post (.region [
    ⟨.bin 18 .add (.t 11) (.c (.int .i64 1)), none⟩,
    ⟨.mv 11 (.t 18), none⟩] false) [3, 9, 10, 11] 0)))) [3, 9, 10, 11] 0)
def f_proof_open_l1 : ICode :=
  (.post (.block 0 (.loop f_proof_open_b1)) [3] 0)
def f_proof_open_k1 : ICode :=
  (.seq (.post (.region [
    ⟨.mv 19 (.t 3), none⟩,
    ⟨.mv 2 (.t 19), none⟩] false) [2] 0)
  .ret)
def f_proof_open_0 : ICode :=
  (.seq (.post (.region [
    ⟨.mv 2 (.c (.nilp)), none⟩] false) [0] 0)
  (.seq (.post (.region [
    ⟨.mkmap 6, none⟩,
    ⟨.buildT 7 [.sl true 1 [], .nilm, .nilm, .nils] [(1, 1, (.t 6))], none⟩,
    ⟨.box 8 true true (.t 7), none⟩,
    ⟨.mv 3 (.t 8), none⟩] false) [0, 3] 0)
  (.seq (.seq (.post (.region [
    ⟨.mv 9 (.t 0), none⟩,
    ⟨.len 10 0 (.t 9), none⟩,
    ⟨.mv 11 (.c (.int .i64 0)), none⟩] false) [3, 9, 10, 11] 0)
  (.cut f_proof_open_l1))
  (.cut f_proof_open_k1))))
def f_proof_open : IFunc := { np := 1, res := [.t 2], own := false, trunc := false, body := f_proof_open_0 }

/- 155: (*latchwork/proof.checker).follows -/
/- at its head: [0, 19, 20, 21] -/
def f_proof_checker_follows_b1 : ICode :=
  (.post (.seq (.region [
    ⟨.bin 22 .lss (.t 21) (.t 20), none⟩] false)
  (.seq (.cond (.t 22) .skip
  (.exit 0))
  (.seq (.block 1 (.seq (.post (.region [
    ⟨.iaddr 23 1 none (.t 19) (.t 21), none⟩,
    ⟨.load 24 false 1 (.t 23), none⟩,
    ⟨.mv 6 (.t 24), none⟩] false) [0, 6, 19, 20, 21] 0)
  (.seq (.post (.region [
    ⟨.mv 25 (.t 0), none⟩,
    ⟨.mv 26 (.t 6), none⟩,
    ⟨.un 27 .neg (.t 26), none⟩,
    ⟨.call (some 28) false 158 [(.t 25), (.t 27)], none⟩,
    ⟨.un 29 .not (.t 28), none⟩] false) [0, 19, 20, 21, 29] 0)
  (.cond (.t 29) (.seq (.post (.region [
    ⟨.mv 4 (.c (.bool true)), none⟩] false) [4] 0)
  .ret)
  .skip))))
  (.post (.region [
    ⟨.bin 30 .add (.t 21) (.c (.int .i64 1)), none⟩,
    ⟨.mv 21 (.t 30), none⟩] false) [0, 19, 20, 21] 0)))) [0, 19, 20, 21] 0)
def f_proof_checker_follows_l1 : ICode :=
  (.post (.block 0 (.loop f_proof_checker_follows_b1)) [0] 0)
/- at its head: [0, 34, 35, 36] -/
def f_proof_checker_follows_b2 : ICode :=
  (.post (.seq (.region [
    ⟨.bin 37 .lss (.t 36) (.t 35), none⟩] false)
  (.seq (.cond (.t 37) .skip
  (.exit 2))
  (.seq (.block 3 (.seq (.post (.region [
    ⟨.iaddr 38 1 none (.t 34) (.t 36), none⟩,
    ⟨.load 39 false 1 (.t 38), none⟩,
    ⟨.tk 8 39, none⟩] false) [0, 8, 34, 35, 36] 0)
  (.seq (.post (.region [
    ⟨.mv 40 (.t 8), none⟩,
    ⟨.len 41 0 (.t 40), none⟩,
    ⟨.bin 42 .lss (.t 41) (.c (.int .i64 2)), none⟩,
    ⟨.mv 43 (.t 42), none⟩,
    ⟨.mv 44 (.t 0), some (43, true)⟩,
    ⟨.mv 45 (.t 8), some (43, true)⟩,
    ⟨.call (some 46) false 159 [(.t 44), (.t 45)], some (43, true)⟩,
    ⟨.un 47 .not (.t 46), some (43, true)⟩,
    ⟨.pick 48 (.t 43) (.t 47) (.c (.bool false)), none⟩] false) [0, 34, 35, 36, 48] 0)
  (.cond (.t 48) (.seq (.post (.region [
    ⟨.mv 4 (.c (.bool true)), none⟩] false) [4] 0)
  .ret)
  .skip))))
  (.post (.region [
    ⟨.bin 49 .add (.t 36) (.c (.int .i64 1)), none⟩,
    ⟨.mv 36 (.t 49), none⟩] false) [0, 34, 35, 36] 0)))) [0, 34, 35, 36] 0)
def f_proof_checker_follows_l2 : ICode :=
  (.post (.block 2 (.loop f_proof_checker_follows_b2)) [0] 0)
/- at its head: [0, 88, 89, 90] -/
def f_proof_checker_follows_b4 : ICode :=
  (.post (.seq (.region [
    ⟨.bin 91 .lss (.t 90) (.t 89), none⟩] false)
  (.seq (.cond (.t 91) .skip
  (.exit 6))
  (.seq (.block 7 (.seq (.post (.region [
    ⟨.iaddr 92 1 none (.t 88) (.t 90), none⟩,
    ⟨.loadK 93 (.t 92), none⟩,
    ⟨.mv 11 (.t 93), none⟩] false) [0, 11, 88, 89, 90] 0)
  (.seq (.post (.region [
    ⟨.mv 94 (.t 0), none⟩,
    ⟨.mv 95 (.t 0), none⟩,
    ⟨.nilc 96 (.t 95), none⟩,
    ⟨.faddr 97 (.t 96) 0, none⟩,
    ⟨.load 98 false 1 (.t 97), none⟩,
    ⟨.mv 99 (.t 11), none⟩,
    ⟨.iaddr 100 1 none (.t 98) (.t 99), none⟩,
    ⟨.load 101 false 1 (.t 100), none⟩,
    ⟨.call (some 102) false 159 [(.t 94), (.t 101)], none⟩,
    ⟨.un 103 .not (.t 102), none⟩] false) [0, 88, 89, 90, 103] 0)
  (.cond (.t 103) (.seq (.post (.region [
    ⟨.mv 4 (.c (.bool true)), none⟩] false) [4] 0)
  .ret)
  .skip))))
  (.post (.region [
    ⟨.bin 104 .add (.t 90) (.c (.int .i64 1)), none⟩,
    ⟨.mv 90 (.t 104), none⟩] false) [0, 88, 89, 90] 0)))) [0, 88, 89, 90] 0)
def f_proof_checker_follows_l4 : ICode :=
  (.post (.block 6 (.loop f_proof_checker_follows_b4)) [0] 0)
/- at its head: [0] -/
def f_proof_checker_follows_b3 : ICode :=
  (.post (.seq (.seq (.post (.region [
    ⟨.mv 50 (.t 0), none⟩,
    ⟨.nilc 51 (.t 50), none⟩,
    ⟨.faddr 52 (.t 51) 3, none⟩,
    ⟨.load 53 false 1 (.t 52), none⟩,
    ⟨.len 54 0 (.t 53), none⟩,
    ⟨.bin 55 .gtr (.t 54) (.c (.int .i64 0)), none⟩] false) [0, 55] 0)
  (.cond (.t 55) .skip
  (.exit 4)))
  (.block 5 (.seq (.post (.region [
    ⟨.mv 56 (.t 0), none⟩,
    ⟨.nilc 57 (.t 56), none⟩,
    ⟨.faddr 58 (.t 57) 3, none⟩,
    ⟨.load 59 false 1 (.t 58), none⟩,
    ⟨.mv 60 (.t 0), none⟩,
    ⟨.nilc 61 (.t 60), none⟩,
    ⟨.faddr 62 (.t 61) 3, none⟩,
    ⟨.load 63 false 1 (.t 62), none⟩,
    ⟨.len 64 0 (.t 63), none⟩,
    ⟨.bin 65 .sub (.t 64) (.c (.int .i64 1)), none⟩,
    ⟨.iaddr 66 1 none (.t 59) (.t 65), none⟩,
    ⟨.loadK 67 (.t 66), none⟩,
    ⟨.mv 9 (.t 67), none⟩] true) [0, 9] 0)
  (.seq (.post (.region [
    ⟨.mv 68 (.t 0), none⟩,
    ⟨.mv 69 (.t 0), none⟩,
    ⟨.nilc 70 (.t 69), none⟩,
    ⟨.faddr 71 (.t 70) 3, none⟩,
    ⟨.load 72 false 1 (.t 71), none⟩,
    ⟨.mv 73 (.t 0), none⟩,
    ⟨.nilc 74 (.t 73), none⟩,
    ⟨.faddr 75 (.t 74) 3, none⟩,
    ⟨.load 76 false 1 (.t 75), none⟩,
    ⟨.len 77 0 (.t 76), none⟩,
    ⟨.bin 78 .sub (.t 77) (.c (.int .i64 1)), none⟩,
    ⟨.slice 79 1 (.t 72) none (some (.t 78)), none⟩,
    ⟨.nilc 80 (.t 68), none⟩,
    ⟨.faddr 81 (.t 80) 3, none⟩,
    ⟨.store true 1 (.t 81) (.t 79), none⟩] true) [0, 9] 0)
  (.seq (.post (.region [
    ⟨.mv 82 (.t 0), none⟩,
    ⟨.nilc 83 (.t 82), none⟩,
    ⟨.faddr 84 (.t 83) 1, none⟩,
    ⟨.load 85 false 1 (.t 84), none⟩,
    ⟨.mv 86 (.t 9), none⟩,
    ⟨.un 87 .neg (.t 86), none⟩,
    ⟨.lookup 88 0 (.t 85) (.t 87) false (.nils), none⟩,
    ⟨.len 89 0 (.t 88), none⟩,
    ⟨.mv 90 (.c (.int .i64 0)), none⟩] false) [0, 88, 89, 90] 0)
  (.cut f_proof_checker_follows_l4)))))) [0] 0)
def f_proof_checker_follows_l3 : ICode :=
  (.post (.block 4 (.loop f_proof_checker_follows_b3)) [] 0)
def f_proof_checker_follows_k3 : ICode :=
  (.seq (.region [
    ⟨.mv 4 (.c (.bool false)), none⟩] false)
  .ret)
def f_proof_checker_follows_k2 : ICode :=
  (.seq (.cut f_proof_checker_follows_l3)
  (.cut f_proof_checker_follows_k3))
def f_proof_checker_follows_k1 : ICode :=
  (.seq (.seq (.post (.region [
    ⟨.mv 31 (.t 0), none⟩,
    ⟨.nilc 32 (.t 31), none⟩,
    ⟨.faddr 33 (.t 32) 0, none⟩,
    ⟨.load 34 false 1 (.t 33), none⟩,
    ⟨.len 35 0 (.t 34), none⟩,
    ⟨.mv 36 (.c (.int .i64 0)), none⟩] false) [0, 34, 35, 36] 0)
  (.cut f_proof_checker_follows_l2))
  (.cut f_proof_checker_follows_k2))
def f_proof_checker_follows_0 : ICode :=
  (.seq (.post (.region [
    ⟨.mv 4 (.c (.bool false)), none⟩] false) [0, 1] 0)
  (.seq (.post (.region [
    ⟨.mv 12 (.t 0), none⟩,
    ⟨.mv 13 (.t 0), none⟩,
    ⟨.mkmap 14, none⟩,
    ⟨.nilc 15 (.t 12), none⟩,
    ⟨.faddr 16 (.t 15) 2, none⟩,
    ⟨.store false 1 (.t 16) (.t 14), none⟩,
    ⟨.nilc 17 (.t 13), none⟩,
    ⟨.faddr 18 (.t 17) 3, none⟩,
    ⟨.store true 1 (.t 18) (.c (.nils)), none⟩] false) [0, 1] 0)
  (.seq (.seq (.post (.region [
    ⟨.mv 19 (.t 1), none⟩,
    ⟨.len 20 0 (.t 19), none⟩,
    ⟨.mv 21 (.c (.int .i64 0)), none⟩] false) [0, 19, 20, 21] 0)
  (.cut f_proof_checker_follows_l1))
  (.cut f_proof_checker_follows_k1))))
def f_proof_checker_follows : IFunc := { np := 2, res := [.t 4], own := false, trunc := false, body := f_proof_checker_follows_0 }

/- 157: (*latchwork/proof.checker).add -/
/- at its head: [0, 1, 12, 13, 14] -/
def f_proof_checker_add_b1 : ICode :=
  (.post (.seq (.region [
    ⟨.bin 15 .lss (.t 14) (.t 13), none⟩] false)
  (.seq (.cond (.t 15) .skip
  (.exit 0))
  (.seq (.block 1 (.seq (.post (.region [
    ⟨.iaddr 16 1 none (.t 12) (.t 14), none⟩,
    ⟨.loadK 17 (.t 16), none⟩,
    ⟨.mv 5 (.t 17), none⟩] false) [0, 1, 5, 12, 13, 14] 0)
  (.post (.region [
    ⟨.mv 18 (.t 0), none⟩,
    ⟨.nilc 19 (.t 18), none⟩,
    ⟨.faddr 20 (.t 19) 1, none⟩,
    ⟨.load 21 false 1 (.t 20), none⟩,
    ⟨.mv 22 (.t 5), none⟩,
    ⟨.mv 23 (.t 0), none⟩,
    ⟨.nilc 24 (.t 23), none⟩,
    ⟨.faddr 25 (.t 24) 1, none⟩,
    ⟨.load 26 false 1 (.t 25), none⟩,
    ⟨.mv 27 (.t 5), none⟩,
    ⟨.lookup 28 0 (.t 26) (.t 27) false (.nils), none⟩,
    ⟨.mv 29 (.t 0), none⟩,
    ⟨.nilc 30 (.t 29), none⟩,
    ⟨.faddr 31 (.t 30) 0, none⟩,
    ⟨.load 32 false 1 (.t 31), none⟩,
    ⟨.len 33 0 (.t 32), none⟩,
    ⟨.buildSl 34 1 [(.t 33)], none⟩,
    ⟨.appendN 35 8 (.t 28) (.t 34), none⟩,
    ⟨.mupd 0 (.t 21) (.t 22) (.t 35), none⟩] true) [0, 1, 12, 13, 14] 0)))
  (.post (.region [
    ⟨.bin 36 .add (.t 14) (.c (.int .i64 1)), none⟩,
    ⟨.mv 14 (.t 36), none⟩] false) [0, 1, 12, 13, 14] 0)))) [0, 1, 12, 13, 14] 0)
def f_proof_checker_add_l1 : ICode :=
  (.post (.block 0 (.loop f_proof_checker_add_b1)) [0, 1] 0)
def f_proof_checker_add_k1 : ICode :=
  (.post (.region [
    ⟨.mv 37 (.t 0), none⟩,
    ⟨.mv 38 (.t 0), none⟩,
    ⟨.nilc 39 (.t 38), none⟩,
    ⟨.faddr 40 (.t 39) 0, none⟩,
    ⟨.loadT 41 (.t 40), none⟩,
    ⟨.mv 42 (.t 1), none⟩,
    ⟨.buildSl 43 1 [(.t 42)], none⟩,
    ⟨.append 44 1 24 (.t 41) (.t 43), none⟩,
    ⟨.nilc 45 (.t 37), none⟩,
    ⟨.faddr 46 (.t 45) 0, none⟩,
    ⟨.store true 1 (.t 46) (.t 44), none⟩] false) [] 0)
def f_proof_checker_add_0 : ICode :=
  (.seq (.post (.region [
    ⟨.mv 6 (.t 1), none⟩,
    ⟨.call (some 7) false 121 [(.t 6)], none⟩,
    ⟨.tk 1 7, none⟩] false) [0, 1] 0)
  (.seq (.post (.region [
    ⟨.mv 8 (.t 1), none⟩,
    ⟨.call (some 9) false 161 [(.t 8)], none⟩] false) [0, 1] 0)
  (.seq (.post (.region [
    ⟨.mv 10 (.t 1), none⟩,
    ⟨.call (some 11) false 162 [(.t 10)], none⟩,
    ⟨.tk 1 11, none⟩] false) [0, 1] 0)
  (.seq (.seq (.post (.region [
    ⟨.mv 12 (.t 1), none⟩,
    ⟨.len 13 0 (.t 12), none⟩,
    ⟨.mv 14 (.c (.int .i64 0)), none⟩] false) [0, 1, 12, 13, 14] 0)
  (.cut f_proof_checker_add_l1))
  (.cut f_proof_checker_add_k1)))))
def f_proof_checker_add : IFunc := { np := 2, res := [], own := false, trunc := false, body := f_proof_checker_add_0 }

/- 158: (*latchwork/proof.checker).put -/
def f_proof_checker_put_k1 : ICode :=
  (.seq (.region [
    ⟨.mv 4 (.c (.bool true)), none⟩] false)
  .ret)
def f_proof_checker_put_0 : ICode :=
  (.seq (.post (.region [
    ⟨.mv 4 (.c (.bool false)), none⟩] false) [0, 1] 0)
  (.seq (.seq (.post (.region [
    ⟨.mv 5 (.t 0), none⟩,
    ⟨.nilc 6 (.t 5), none⟩,
    ⟨.faddr 7 (.t 6) 2, none⟩,
    ⟨.load 8 false 1 (.t 7), none⟩,
    ⟨.mv 9 (.t 1), none⟩,
    ⟨.un 10 .neg (.t 9), none⟩,
    ⟨.lookup 11 0 (.t 8) (.t 10) false (.bool false), none⟩] false) [0, 1, 11] 0)
  (.cond (.t 11) (.seq (.post (.region [
    ⟨.mv 4 (.c (.bool false)), none⟩] false) [4] 0)
  .ret)
  .skip))
  (.seq (.seq (.post (.region [
    ⟨.mv 12 (.t 0), none⟩,
    ⟨.nilc 13 (.t 12), none⟩,
    ⟨.faddr 14 (.t 13) 2, none⟩,
    ⟨.load 15 false 1 (.t 14), none⟩,
    ⟨.mv 16 (.t 1), none⟩,
    ⟨.lookup 17 0 (.t 15) (.t 16) false (.bool false), none⟩,
    ⟨.un 18 .not (.t 17), none⟩] false) [0, 1, 18] 0)
  (.cond (.t 18) (.post (.seq (.post (.region [
    ⟨.mv 19 (.t 0), none⟩,
    ⟨.nilc 20 (.t 19), none⟩,
    ⟨.faddr 21 (.t 20) 2, none⟩,
    ⟨.load 22 false 1 (.t 21), none⟩,
    ⟨.mv 23 (.t 1), none⟩,
    ⟨.mupd 0 (.t 22) (.t 23) (.c (.bool true)), none⟩] false) [0, 1] 0)
  (.post (.region [
    ⟨.mv 24 (.t 0), none⟩,
    ⟨.mv 25 (.t 0), none⟩,
    ⟨.nilc 26 (.t 25), none⟩,
    ⟨.faddr 27 (.t 26) 3, none⟩,
    ⟨.load 28 false 1 (.t 27), none⟩,
    ⟨.mv 29 (.t 1), none⟩,
    ⟨.buildSl 30 1 [(.t 29)], none⟩,
    ⟨.appendN 31 8 (.t 28) (.t 30), none⟩,
    ⟨.nilc 32 (.t 24), none⟩,
    ⟨.faddr 33 (.t 32) 3, none⟩,
    ⟨.store true 1 (.t 33) (.t 31), none⟩] false) [] 0)) [] 0)
  (.post .skip [] 0)))
  (.cut f_proof_checker_put_k1))))
def f_proof_checker_put : IFunc := { np := 2, res := [.t 4], own := false, trunc := false, body := f_proof_checker_put_0 }

/- 159: (*latchwork/proof.checker).must -/
def f_proof_checker_must_k1 : ICode :=
  (.post (.region [
    ⟨.bin 34 .add (.t 11) (.c (.int .i64 1)), none⟩,
    ⟨.mv 11 (.t 34), none⟩] false) [0, 5, 6, 9, 10, 11] 0)
/- at its head: [0, 5, 6, 9, 10, 11] -/
def f_proof_checker_must_b1 : ICode :=
  (.post (.seq (.region [
    ⟨.bin 12 .lss (.t 11) (.t 10), none⟩] false)
  (.seq (.cond (.t 12) .skip
  (.exit 0))
  (.seq (.block 1 (.seq (.post (.region [
    ⟨.iaddr 13 1 none (.t 9) (.t 11), none⟩,
    ⟨.loadK 14 (.t 13), none⟩,
    ⟨.mv 8 (.t 14), none⟩] false) [0, 5, 6, 8, 9, 10, 11] 0)
  (.block 2 (.seq (.post (.region [
    ⟨.mv 16 (.t 0), none⟩,
    ⟨.nilc 17 (.t 16), none⟩,
    ⟨.faddr 18 (.t 17) 2, none⟩,
    ⟨.load 19 false 1 (.t 18), none⟩,
    ⟨.mv 20 (.t 8), none⟩,
    ⟨.lookup 21 0 (.t 19) (.t 20) false (.bool false), none⟩,
    ⟨.mv 15 (.t 21), none⟩] false) [0, 5, 6, 8, 9, 10, 11, 15] 0)
  (.cond (.t 15) (.seq (.post (.region [
    ⟨.mv 4 (.c (.bool true)), none⟩] false) [4] 0)
  .ret)
  (.seq (.post (.region [
    ⟨.mv 23 (.t 0), none⟩,
    ⟨.nilc 24 (.t 23), none⟩,
    ⟨.faddr 25 (.t 24) 2, none⟩,
    ⟨.load 26 false 1 (.t 25), none⟩,
    ⟨.mv 27 (.t 8), none⟩,
    ⟨.un 28 .neg (.t 27), none⟩,
    ⟨.lookup 29 0 (.t 26) (.t 28) false (.bool false), none⟩,
    ⟨.un 30 .not (.t 29), none⟩,
    ⟨.mv 22 (.t 30), none⟩] false) [0, 5, 6, 8, 9, 10, 11, 22] 0)
  (.cond (.t 22) (.post (.seq (.post (.region [
    ⟨.mv 31 (.t 8), none⟩,
    ⟨.mv 5 (.t 31), none⟩] false) [0, 5, 6, 9, 10, 11] 0)
  (.post (.region [
    ⟨.mv 32 (.t 6), none⟩,
    ⟨.bin 33 .add (.t 32) (.c (.int .i64 1)), none⟩,
    ⟨.mv 6 (.t 33), none⟩] false) [0, 5, 6, 9, 10, 11] 0)) [0, 5, 6, 9, 10, 11] 0)
  (.post .skip [0, 5, 6, 9, 10, 11] 0))))))))
  (.cut f_proof_checker_must_k1)))) [0, 5, 6, 9, 10, 11] 0)
def f_proof_checker_must_l1 : ICode :=
  (.post (.block 0 (.loop f_proof_checker_must_b1)) [0, 5, 6] 0)
def f_proof_checker_must_k2 : ICode :=
  (.seq (.seq (.post (.region [
    ⟨.mv 35 (.t 6), none⟩] false) [0, 5, 35] 0)
  (.block 3 (.seq (.post (.region [
    ⟨.bin 37 .eql (.t 35) (.c (.int .i64 0)), none⟩,
    ⟨.mv 36 (.t 37), none⟩] false) [0, 5, 35, 36] 0)
  (.cond (.t 36) (.seq (.post (.region [
    ⟨.mv 4 (.c (.bool false)), none⟩] false) [4] 0)
  .ret)
  (.seq (.post (.region [
    ⟨.bin 39 .eql (.t 35) (.c (.int .i64 1)), none⟩,
    ⟨.mv 38 (.t 39), none⟩] false) [0, 5, 38] 0)
  (.cond (.t 38) (.seq (.post (.region [
    ⟨.mv 40 (.t 0), none⟩,
    ⟨.mv 41 (.t 5), none⟩,
    ⟨.call (some 42) false 158 [(.t 40), (.t 41)], none⟩,
    ⟨.mv 4 (.t 42), none⟩] false) [4] 0)
  .ret)
  .skip))))))
  (.seq (.post (.region [
    ⟨.mv 4 (.c (.bool true)), none⟩] false) [4] 0)
  .ret))
def f_proof_checker_must_0 : ICode :=
  (.seq (.post (.region [
    ⟨.mv 4 (.c (.bool false)), none⟩] false) [0, 1] 0)
  (.seq (.region [
    ⟨.mv 5 (.c (.int .i64 0)), none⟩,
    ⟨.mv 6 (.c (.int .i64 0)), none⟩] false)
  (.seq (.seq (.post (.region [
    ⟨.mv 9 (.t 1), none⟩,
    ⟨.len 10 0 (.t 9), none⟩,
    ⟨.mv 11 (.c (.int .i64 0)), none⟩] false) [0, 5, 6, 9, 10, 11] 0)
  (.cut f_proof_checker_must_l1))
  (.cut f_proof_checker_must_k2))))
def f_proof_checker_must : IFunc := { np := 2, res := [.t 4], own := false, trunc := false, body := f_proof_checker_must_0 }

end Go.Lw
end

/-! The machine's code, read off: what a piece of code comes to, said without slots. No program in sight. -/
section
namespace Go.Lw
open Go

/-- What a cell is known to be. -/
inductive Ce where
  | any
  | one
  | int (k : IntKind)
  | bool
  | str
  | gp
  | ol (z : Nat)
  deriving Inhabited

/-- What a slot is known to hold. -/
inductive Sh where
  | raw
  | ce (c : Ce)
  | agg (l : List Ce)
  | tup (n : Nat)
  deriving Inhabited

section
variable {R : Type} {α : Type}

def ob (x : Option α) (f : α → Option R) : Option R := match x with | some a => f a | none => none
def gd (b : Bool) (x : Option R) : Option R := match b with | true => x | false => none
/-- The same, of what is plain from the code. -/
def gb (b : Bool) (x : Option R) : Option R := match b with | true => x | false => none
def br (_ : Nat) (b : Bool) (x y : Option R) : Option R := match b with | true => x | false => y
def kR (x : Option (IExit × St)) (k : IExit → St → Option R) : Option R := match x with | some (e, s) => k e s | none => none
def nx (e : IExit) (s : St) (k : IExit → St → Option R) (f : St → Option R) : Option R := match e with | .normal => f s | e => k e s

def bk (id : Nat) (e : IExit) (s : St) (k : IExit → St → Option R) : Option R := match e with | .exit i => br 0 (Nat.beq i id) (k .normal s) (k (.exit i) s) | e => k e s

def iAnd (k : IntKind) (a b : Int) : Int := k.wrap (BitVec.ofInt k.bits a &&& BitVec.ofInt k.bits b).toNat
def iOr (k : IntKind) (a b : Int) : Int := k.wrap (BitVec.ofInt k.bits a ||| BitVec.ofInt k.bits b).toNat
def iXor (k : IntKind) (a b : Int) : Int := k.wrap (BitVec.ofInt k.bits a ^^^ BitVec.ofInt k.bits b).toNat
def iShl (k : IntKind) (a b : Int) : Int := k.wrap (a * 2 ^ (min b.toNat k.bits))
def iShr (k : IntKind) (a b : Int) : Int := a.fdiv (2 ^ (min b.toNat k.bits))
def iNot (k : IntKind) (n : Int) : Int := k.wrap (BitVec.ofInt k.bits (if k.signed then -1 else k.max) ^^^ BitVec.ofInt k.bits n).toNat

def kIdx : IntKind → Nat
  | .i8 => 0 | .i16 => 1 | .i32 => 2 | .i64 => 3 | .u8 => 4 | .u16 => 5 | .u32 => 6 | .u64 => 7

def kE (k k' : IntKind) (x : Option R) : Option R := gb (Nat.beq (kIdx k) (kIdx k')) x

def Fn : Nat → Type → Type
  | 0, R => R
  | n + 1, R => PV → Fn n R

def curry : (n : Nat) → (List PV → R) → Fn n R
  | 0, g => g []
  | n + 1, g => fun c => curry n fun l => g (c :: l)

def unN : (n : Nat) → List PV → Fn n (Option R) → Option R
  | 0, [], f => f
  | n + 1, c :: l, f => unN n l (f c)
  | _, _, _ => none

/-- It is one cell. -/
def isC (v : PV) (x : Option R) : Option R := match v with | .agg _ => none | _ => x

/-- It leads to no box that goes. -/
def stK (nl : Nat) (v : PV) (x : Option R) : Option R :=
  match v with
  | .ptr false b _ => gb (Nat.ble (b + 1) nl) x
  | .bs false b _ _ _ => gb (Nat.ble (b + 1) nl) x
  | _ => x

/-- A cell of memory may hold it. -/
def onK (v : PV) (x : Option R) : Option R :=
  match v with
  | .und | .agg _ | .tup _ | .ptr false _ _ | .bs false _ _ _ _ => none
  | _ => x

def arL : List PV → Option R → Option R
  | [], x => x
  | c :: l, x => onK c (arL l x)

/-- It may be handed on. -/
def arK (v : PV) (x : Option R) : Option R :=
  match v with
  | .agg cs => arL cs x
  | .und | .tup _ | .ptr false _ _ | .bs false _ _ _ _ => none
  | _ => x

def allK : List PV → Option R → Option R
  | [], x => x
  | v :: l, x => arK v (allK l x)

def lenB : List PV → Nat → Bool
  | [], 0 => true
  | _ :: l, n + 1 => lenB l n
  | _, _ => false

def geB : List PV → Nat → Bool
  | _, 0 => true
  | _ :: l, n + 1 => geB l n
  | [], _ + 1 => false

def lnK (z : Nat) (v : PV) (x : Option R) : Option R :=
  match v with
  | .agg cs => gb (lenB cs z) x
  | _ => gb (Nat.beq 1 z) x

def slK (z : Nat) : List PV → Option R → Option R
  | [], x => x
  | v :: l, x => arK v (lnK z v (slK z l x))

def isPtr : PV → Bool
  | .ptr _ _ _ | .ep _ _ | .fn _ _ => true
  | _ => false

def unI (k : IntKind) (v : PV) (f : Int → Option R) : Option R := match v with | .int k' n => kE k' k (f n) | _ => none
def anyI (v : PV) (f : Int → Option R) : Option R := match v with | .int _ n => f n | _ => none
def unB (v : PV) (f : Bool → Option R) : Option R := match v with | .bool b => f b | _ => none
def unS (v : PV) (f : ByteArray → Option R) : Option R := match v with | .str b => f b | _ => none
def unG (v : PV) (f : Nat → Nat → Option R) : Option R := match v with | .ptr true b off => f b off | _ => none
def unO (z : Nat) (v : PV) (f : List PV → Option R) : Option R := match v with | .sl true z' xs => gb (Nat.beq z' z) (f xs) | _ => none
def unA (n : Nat) (v : PV) (f : Fn n (Option R)) : Option R := match v with | .agg cs => unN n cs f | _ => none
def unT (n : Nat) (v : PV) (f : Fn n (Option R)) : Option R := match v with | .tup cs => unN n cs f | _ => none
def nilB (v : PV) (f : Bool → Option R) : Option R := match v with | .nilI => f true | .someI => f false | _ => none

def castC (c : Ce) (v : PV) (f : PV → Option R) : Option R :=
  match c with
  | .any => f v
  | .one => isC v (f v)
  | .int k => unI k v fun n => f (.int k n)
  | .bool => unB v fun b => f (.bool b)
  | .str => unS v fun b => f (.str b)
  | .gp => unG v fun b off => f (.ptr true b off)
  | .ol z => unO z v fun xs => f (.sl true z xs)

def castL : List Ce → List PV → (List PV → Option R) → Option R
  | [], [], f => f []
  | c :: cs, v :: vs, f => castC c v fun v => castL cs vs fun vs => f (v :: vs)
  | _, _, _ => none

def cast (h : Sh) (v : PV) (f : PV → Option R) : Option R :=
  match h with
  | .raw => f v
  | .ce c => castC c v f
  | .agg l => unA l.length v (curry l.length fun cs => castL l cs fun cs => f (.agg cs))
  | .tup n => unT n v (curry n fun vs => f (.tup vs))

/-- What slots are known to hold. -/
inductive Tr where
  | nil
  | node (n : Nat) (h : Sh) (l r : Tr)

def shAt : Tr → Nat → Sh
  | .nil, _ => .raw
  | .node n h l r, t => match Nat.beq n t with
    | true => h
    | false => match Nat.ble n t with
      | true => shAt r t
      | false => shAt l t

def shX (an : Tr) : IX → Sh
  | .t n => shAt an n
  | .c _ => .raw
  | .f _ => .raw

def getX : List (Nat × PV) → Nat → Option PV
  | [], _ => none
  | (a, v) :: l, t => match Nat.beq a t with
    | true => some v
    | false => getX l t

def putK : List (Nat × PV) → Nat → PV → (List (Nat × PV) → Option R) → Option R
  | [], t, v, k => k [(t, v)]
  | (a, u) :: l, t, v, k => match Nat.beq a t with
    | true => k ((t, v) :: l)
    | false => putK l t v fun l => k ((a, u) :: l)

def snocK : List α → α → (List α → Option R) → Option R
  | [], v, k => k [v]
  | u :: l, v, k => snocK l v fun l => k (u :: l)

def setK : List α → Nat → α → (List α → Option R) → Option R
  | [], _, _, k => k []
  | _ :: l, 0, v, k => k (v :: l)
  | u :: l, i + 1, v, k => setK l i v fun l => k (u :: l)

def nthX : List α → Nat → Option α
  | [], _ => none
  | u :: _, 0 => some u
  | _ :: l, i + 1 => nthX l i

def takeK : Nat → List α → (List α → Option R) → Option R
  | 0, _, k => k []
  | _, [], k => k []
  | n + 1, u :: l, k => takeK n l fun l => k (u :: l)

def evX (e : List (Nat × PV)) : IX → Option PV
  | .t n => match getX e n with
    | some v => some (degr v)
    | none => none
  | .c v => some (degr v)
  | .f id => some (.fn id [])

def evK (e : List (Nat × PV)) : IX → Option PV
  | .t n => match getX e n with
    | some v => some (degr v)
    | none => none
  | .c v => some v
  | .f id => some (.fn id [])

def evXs (e : List (Nat × PV)) : List IX → (List PV → Option R) → Option R
  | [], k => k []
  | x :: l, k => match evX e x with
    | some v => evXs e l fun vs => k (v :: vs)
    | none => none

/-- A value out of a slot, with its rights. -/
def tkX (e : List (Nat × PV)) (x : IX) (k : PV → List (Nat × PV) → Option R) : Option R :=
  match x with
  | .t n => match getX e n with
    | some v => putK e n (degr v) fun e => k v e
    | none => none
  | .c v => k v e
  | .f id => k (.fn id []) e

def putS (s : St) (d : Nat) (v : PV) (k : St → Option R) : Option R := putK s.env d v fun e => k ⟨e, s.lh, s.gh⟩

/-- Its cells. -/
def cellsX (h : Sh) (v : PV) (f : List PV → Option R) : Option R :=
  match h with
  | .ce _ => isC v (f [v])
  | _ => f v.cells

def setX (an : Tr) (s : St) (d : Nat) (v : PV) (k : St → Option R) : Option R := cast (shAt an d) v fun w => putS s d w k

def ghCells (gh : List GObj) (b : Nat) : Option (List PV) := match gh[b]? with | some (.cells cs) => some cs | _ => none
def ghMap (gh : List GObj) (b : Nat) : Option (List (PV × PV)) := match gh[b]? with | some (.map es) => some es | _ => none

def ldX (lh : List (List PV)) (gh : List GObj) (agg : Bool) (k : Nat) (p : PV) (f : PV → Option R) : Option R :=
  match p with
  | .ptr false b off => match nthX lh b with
    | some cs => ob (grab agg k off cs) fun v => f (degr v)
    | none => none
  | .ptr true b off => ob (ghCells gh b) fun cs => ob (grab agg k off cs) fun v => f (degr v)
  | .ep e off => ob (grab agg k off e.cells) f
  | _ => none

def stOk (k off : Nat) (cs old : List PV) : Bool := lenB cs k && geB old (off + k)

def stoX (s : St) (p : PV) (kk : Nat) (cs : List PV) (k : St → Option R) : Option R :=
  match p with
  | .ptr false b off => match nthX s.lh b with
    | some old => gb (stOk kk off cs old) (setK s.lh b (spliceAt old off cs) fun lh => k ⟨s.env, lh, s.gh⟩)
    | none => none
  | .ptr true b off => ob (ghCells s.gh b) fun old => gb (stOk kk off cs old) (k ⟨s.env, s.lh, s.gh.set b (.cells (spliceAt old off cs))⟩)
  | _ => none

def psX (an : Tr) (e : List (Nat × PV)) : List (Nat × Nat × IX) → List PV → (List PV → Option R) → Option R
  | [], z, f => f z
  | (off, k, x) :: l, z, f => match evX e x with
    | some v => arK v (cellsX (shX an x) v fun cs => gb (stOk k off cs z) (psX an e l (spliceAt z off cs) f))
    | none => none

def psT (an : Tr) : List (Nat × PV) → List (Nat × Nat × IX) → List PV → (List (Nat × PV) → List PV → Option R) → Option R
  | e, [], z, f => f e z
  | e, (off, k, x) :: l, z, f => tkX e x fun v e1 => arK v (cellsX (shX an x) v fun cs => gb (stOk k off cs z) (psT an e1 l (spliceAt z off cs) f))

def mkOk (n : Int) (bytes z : Nat) (zero : PV) : Bool := decide (0 ≤ n ∧ n * bytes ≤ maxBytes ∧ zero.cells.length = z ∧ argOk zero = true)

def boX (e : List (Nat × PV)) (x : Option IX) (f : Option Int → Option R) : Option R :=
  match x with
  | none => f none
  | some x => match evX e x with
    | some v => anyI v fun n => f (some n)
    | none => none

/-- A bound, if it is none below 0. -/
def bd (d : Nat) (x : Option Int) (f : Nat → Option R) : Option R := match x with | none => f d | some i => gd (decide (0 ≤ i)) (f i.toNat)

def slX (z : Nat) (v : PV) (lo hi : Option Int) (f : PV → Option R) : Option R :=
  match v with
  | .sl _ z' xs => bd xs.length hi fun h => bd 0 lo fun l => gd (decide (l ≤ h ∧ h ≤ xs.length ∧ z = z')) (f (.sl false z ((xs.take h).drop l)))
  | .bs g b off n z' => bd n hi fun h => bd 0 lo fun l => gd (decide (l ≤ h ∧ h ≤ n ∧ z = z')) (f (.bs g b (off + l * z) (h - l) z))
  | .stk b gen n => gd lo.isNone (bd n hi fun h => gd (decide (h ≤ n ∧ z = 1)) (f (.stk b gen h)))
  | _ => none

def ssX (v : PV) (lo hi : Option Int) (f : ByteArray → Option R) : Option R :=
  match v with
  | .str b => bd b.size hi fun h => bd 0 lo fun l => gd (decide (l ≤ h ∧ h ≤ b.size)) (f (b.extract l h))
  | _ => none

def faX (p : PV) (off : Nat) (f : PV → Option R) : Option R :=
  match p with
  | .ptr g b o => f (.ptr g b (o + off))
  | .ep e o => f (.ep e (o + off))
  | _ => none

def fdX (v : PV) (agg : Bool) (k off : Nat) (f : PV → Option R) : Option R :=
  match v with
  | .agg cs => ob (grab agg k off cs) f
  | _ => none

def idX (z : Nat) (arr : Option Nat) (v : PV) (i : Int) (f : PV → Option R) : Option R :=
  match arr, v with
  | none, .sl _ z' xs => gd (decide (0 ≤ i ∧ z = z')) (ob xs[i.toNat]? fun e => f (.ep e 0))
  | none, .bs g b off n z' => gd (decide (0 ≤ i ∧ i < n ∧ z = z')) (f (.ptr g b (off + i.toNat * z)))
  | some m, .ptr g b o => gd (decide (0 ≤ i ∧ i < m)) (f (.ptr g b (o + i.toNat * z)))
  | some m, .ep e o => gd (decide (0 ≤ i ∧ i < m)) (f (.ep e (o + i.toNat * z)))
  | none, .stk b gen n => gd (decide (0 ≤ i ∧ i < n ∧ z = 1)) (f (.pstk b gen i.toNat))
  | _, _ => none

def ixX (v : PV) (z arr : Nat) (agg : Bool) (i : Int) (f : PV → Option R) : Option R :=
  match v with
  | .agg cs => gd (decide (0 ≤ i ∧ i < arr)) (ob (grab agg z (i.toNat * z) cs) f)
  | _ => none

def isX (v : PV) (i : Int) (f : Int → Option R) : Option R :=
  match v with
  | .str b => gd (decide (0 ≤ i)) (ob b[i.toNat]? fun u => f u.toNat)
  | _ => none

def lkX (gh : List GObj) (kn : Nat) (m k : PV) (f : Option PV → Option R) : Option R :=
  match m with
  | .mp b => ob (ghMap gh b) fun es => gd (isKey kn k) (ob (mfind kn es k) f)
  | _ => none

def muX (gh : List GObj) (kn : Nat) (m k v : PV) (f : List GObj → Option R) : Option R :=
  match m with
  | .mp b => ob (ghMap gh b) fun es => gd (argOk k && (argOk v && isKey kn k)) (ob (mset kn es k v) fun es' => f (gh.set b (.map es')))
  | _ => none

def lenS (v : PV) (f : Nat → Option R) : Option R := match v with | .sl _ _ xs => f xs.length | .bs _ _ _ n _ => f n | .stk _ _ n => f n | .nils => f 0 | _ => none
def lenM (gh : List GObj) (v : PV) (f : Nat → Option R) : Option R := match v with | .mp b => ob (ghMap gh b) fun es => f es.length | _ => none

def apX (z bytes : Nat) (v w : PV) (f : List PV → Option R) : Option R :=
  match w, v with
  | .sl _ z2 ys, .sl o z1 xs => gd (decide (o = true ∧ z1 = z ∧ z2 = z ∧ (xs.length + ys.length) * bytes ≤ maxBytes)) (f (xs ++ ys))
  | _, _ => none

/-- A stack of a box's number. -/
def ghStk (gh : List GObj) (b : Nat) : Option (Nat × List PV) := match gh[b]? with | some (.stk g xs) => some (g, xs) | _ => none

/-- An append onto a stack. -/
def akX (gh : List GObj) (bytes : Nat) (v w : PV) (f : List GObj → PV → Option R) : Option R :=
  ob (elsOf gh w) fun ys => match v with
    | .stk b gen n => ob (ghStk gh b) fun p => gd (decide (p.1 = gen ∧ n ≤ p.2.length ∧ (n + ys.length) * bytes ≤ maxBytes ∧ apart b w = true ∧ ys.all isFlat = true)) (f (gh.set b (.stk (p.1 + 1) (p.2.take n ++ ys))) (.stk b (p.1 + 1) (n + ys.length)))
    | _ => none

/-- An append onto a stack, or onto nothing. -/
def anX (gh : List GObj) (bytes : Nat) (v w : PV) (f : List GObj → PV → Option R) : Option R :=
  match v with
  | .nils => ob (elsOf gh w) fun ys => gd (decide (ys ≠ [] ∧ ys.length * bytes ≤ maxBytes ∧ ys.all isFlat = true)) (f (gh ++ [.stk 0 ys]) (.stk gh.length 0 ys.length))
  | v => akX gh bytes v w f

/-- One of a stack. -/
def lkK (gh : List GObj) (v : PV) (f : PV → Option R) : Option R := match v with | .pstk b gen i => ob (stkGet gh b gen i) f | _ => none

def exX (v : PV) (i : Nat) (f : PV → Option R) : Option R := match v with | .tup vs => ob vs[i]? f | _ => none

/-- What a call answered. -/
noncomputable def callR (gh : List GObj) (q : Bool) (x : Option (PV × List GObj)) (f : PV → List GObj → Option R) : Option R :=
  open Classical in
  match x with | some (r, gh') => (match q with | true => (if gh' = gh then f r gh else none) | false => f r gh') | none => none

def callN (vs : List PV) (x : Option (PV × List GObj)) (f : PV → Option R) : Option R :=
  gd (noGs vs) (match x with | some (r, []) => gd r.noG (f r) | _ => none)

/-- What one that only reads sees of what it is handed. -/
def elK (gh : List GObj) (vs : List PV) (k : List PV → Option R) : Option R := match elPs gh vs with | some us => k us | none => none

/-- What a call answered that only reads. -/
def callE (us : List PV) (x : Option (PV × List GObj)) (f : PV → Option R) : Option R :=
  gd (noGs us) (match x with | some (r, []) => gd (isFlat r) (f r) | _ => none)

def fnX (v : PV) (f : Nat → List PV → Option R) : Option R := match v with | .fn i cs => f i cs | _ => none

def newX (s : St) (d : Nat) (g : Bool) (cs : List PV) (k : St → Option R) : Option R :=
  match g with
  | true => putK s.env d (.ptr true s.gh.length 0) fun e => k ⟨e, s.lh, s.gh ++ [.cells cs]⟩
  | false => putK s.env d (.ptr false s.lh.length 0) fun e => snocK s.lh cs fun lh => k ⟨e, lh, s.gh⟩

def binX (op : BinOp) (a b : PV) (f : PV → Option R) : Option R :=
  match a, b with
  | .int k x, .int k' y => match op with
    | .add => kE k k' (f (.int k (k.wrap (x + y))))
    | .sub => kE k k' (f (.int k (k.wrap (x - y))))
    | .mul => kE k k' (f (.int k (k.wrap (x * y))))
    | .quo => kE k k' (gd (decide (y ≠ 0)) (f (.int k (k.wrap (x.tdiv y)))))
    | .rem => kE k k' (gd (decide (y ≠ 0)) (f (.int k (x.tmod y))))
    | .and => kE k k' (f (.int k (iAnd k x y)))
    | .or => kE k k' (f (.int k (iOr k x y)))
    | .xor => kE k k' (f (.int k (iXor k x y)))
    | .eql => kE k k' (f (.bool (x == y)))
    | .neq => kE k k' (f (.bool (x != y)))
    | .lss => kE k k' (f (.bool (decide (x < y))))
    | .leq => kE k k' (f (.bool (decide (x ≤ y))))
    | .gtr => kE k k' (f (.bool (decide (y < x))))
    | .geq => kE k k' (f (.bool (decide (y ≤ x))))
    | .shl => gd (decide (0 ≤ y)) (f (.int k (iShl k x y)))
    | .shr => gd (decide (0 ≤ y)) (f (.int k (iShr k x y)))
    | op => ob (binPV op (.int k x) (.int k' y)) f
  | .str x, .str y => match op with
    | .eql => f (.bool (x.toList == y.toList))
    | .neq => f (.bool (!(x.toList == y.toList)))
    | op => ob (binPV op (.str x) (.str y)) f
  | _, _ => none

def unX (op : UnOp) (a : PV) (f : PV → Option R) : Option R :=
  match op, a with
  | .neg, .int k n => f (.int k (k.wrap (0 - n)))
  | .xor, .int k n => f (.int k (iNot k n))
  | .not, .bool b => f (.bool (!b))
  | _, _ => none

def maxX (vs : List PV) (f : PV → Option R) : Option R :=
  match vs with
  | [.int k a, .int k' b] => kE k k' (f (.int k (if b > a then b else a)))
  | _ => none

def setO (an : Tr) (s : St) (d : Option Nat) (v : PV) (k : St → Option R) : Option R :=
  match d with
  | some d => setX an s d v k
  | none => k s

noncomputable def oX_mv (cf : CallF) (an : Tr) (s : St) (k : St → Option R) (d : Nat) (x : IX) : Option R := match evK s.env x with
    | some v => setX an s d v k
    | none => none

noncomputable def oX_tk (cf : CallF) (an : Tr) (s : St) (k : St → Option R) (d : Nat) (n : Nat) : Option R := match getX s.env n with
    | some v => putK s.env n (degr v) fun e => putK e d v fun e => k ⟨e, s.lh, s.gh⟩
    | none => none

noncomputable def oX_pick (cf : CallF) (an : Tr) (s : St) (k : St → Option R) (d : Nat) (c : IX) (x : IX) (y : IX) : Option R := match evX s.env c, evX s.env x, evX s.env y with
    | some c, some v, some w => unB c fun b => br d b (setX an s d v k) (setX an s d w k)
    | _, _, _ => none

noncomputable def oX_box_true (cf : CallF) (an : Tr) (s : St) (k : St → Option R) (d : Nat) (g : Bool) (x : IX) : Option R := tkX s.env x fun v e => arK v (cellsX (shX an x) v fun cs => newX ⟨e, s.lh, s.gh⟩ d g cs k)

noncomputable def oX_box_false (cf : CallF) (an : Tr) (s : St) (k : St → Option R) (d : Nat) (g : Bool) (x : IX) : Option R := match evX s.env x with
    | some v => arK v (cellsX (shX an x) v fun cs => newX s d g cs k)
    | none => none

noncomputable def oX_alloc (cf : CallF) (an : Tr) (s : St) (k : St → Option R) (d : Nat) (g : Bool) (z : PV) : Option R := arK z (newX s d g z.cells k)

noncomputable def oX_build (cf : CallF) (an : Tr) (s : St) (k : St → Option R) (d : Nat) (z : List PV) (ps : List (Nat × Nat × IX)) : Option R := arL z (psX an s.env ps z fun cs => putS s d (.agg cs) k)

noncomputable def oX_buildT (cf : CallF) (an : Tr) (s : St) (k : St → Option R) (d : Nat) (z : List PV) (ps : List (Nat × Nat × IX)) : Option R := arL z (psT an s.env ps z fun e cs => putK e d (.agg cs) fun e => k ⟨e, s.lh, s.gh⟩)

noncomputable def oX_buildSl (cf : CallF) (an : Tr) (s : St) (k : St → Option R) (d : Nat) (z : Nat) (els : List IX) : Option R := evXs s.env els fun vs => slK z vs (putS s d (.sl true z vs) k)

noncomputable def oX_load (cf : CallF) (an : Tr) (s : St) (k : St → Option R) (d : Nat) (agg : Bool) (kk : Nat) (a : IX) : Option R := match evX s.env a with
    | some p => ldX s.lh s.gh agg kk p fun v => setX an s d v k
    | none => none

noncomputable def oX_loadT (cf : CallF) (an : Tr) (s : St) (k : St → Option R) (d : Nat) (a : IX) : Option R := match evX s.env a with
    | some (.ptr false b off) => match nthX s.lh b with
      | some cs => ob cs[off]? fun v => setK s.lh b (spliceAt cs off [degr1 v]) fun lh => putK s.env d v fun e => k ⟨e, lh, s.gh⟩
      | none => none
    | some (.ptr true b off) => ob (ghCells s.gh b) fun cs => ob cs[off]? fun v => putK s.env d v fun e => k ⟨e, s.lh, s.gh.set b (.cells (spliceAt cs off [degr1 v]))⟩
    | _ => none

noncomputable def oX_loadL (cf : CallF) (an : Tr) (s : St) (k : St → Option R) (d : Nat) (a : IX) : Option R := match evX s.env a with
    | some (.ptr false b off) => match nthX s.lh b with
      | some cs => ob cs[off]? fun v => setK s.lh b (spliceAt cs off [degr1 v]) fun lh => putK s.env d v fun e => k ⟨e, lh, s.gh⟩
      | none => none
    | _ => none

noncomputable def oX_store_true (cf : CallF) (an : Tr) (s : St) (k : St → Option R) (kk : Nat) (a : IX) (x : IX) : Option R := match evX s.env a with
    | some p => tkX s.env x fun v e => arK v (cellsX (shX an x) v fun cs => stoX ⟨e, s.lh, s.gh⟩ p kk cs k)
    | none => none

noncomputable def oX_store_false (cf : CallF) (an : Tr) (s : St) (k : St → Option R) (kk : Nat) (a : IX) (x : IX) : Option R := match evX s.env a, evX s.env x with
    | some p, some v => arK v (cellsX (shX an x) v fun cs => stoX s p kk cs k)
    | _, _ => none

noncomputable def oX_nilc (cf : CallF) (an : Tr) (s : St) (k : St → Option R) (d : Nat) (x : IX) : Option R := match evX s.env x with
    | some p => gd (isPtr p) (setX an s d p k)
    | none => none

noncomputable def oX_bin (cf : CallF) (an : Tr) (s : St) (k : St → Option R) (d : Nat) (op : BinOp) (x : IX) (y : IX) : Option R := match evX s.env x, evX s.env y with
    | some a, some b => binX op a b fun v => setX an s d v k
    | _, _ => none

noncomputable def oX_eqa (cf : CallF) (an : Tr) (s : St) (k : St → Option R) (d : Nat) (neg : Bool) (ks : List Bool) (x : IX) (y : IX) : Option R := match evX s.env x, evX s.env y with
    | some (.agg a), some (.agg b) => ob (flatEq ks a b) fun r => putS s d (.bool (match neg with | true => !r | false => r)) k
    | _, _ => none

noncomputable def oX_eqb (cf : CallF) (an : Tr) (s : St) (k : St → Option R) (d : Nat) (neg : Bool) (x : IX) (y : IX) : Option R := match evX s.env x, evX s.env y with
    | some a, some b => unB a fun a => unB b fun b => putS s d (.bool (match neg with | true => a != b | false => a == b)) k
    | _, _ => none

noncomputable def oX_eqn (cf : CallF) (an : Tr) (s : St) (k : St → Option R) (d : Nat) (neg : Bool) (x : IX) : Option R := match evX s.env x with
    | some v => nilB v fun b => putS s d (.bool (match neg with | true => !b | false => b)) k
    | none => none

noncomputable def oX_un (cf : CallF) (an : Tr) (s : St) (k : St → Option R) (d : Nat) (op : UnOp) (x : IX) : Option R := match evX s.env x with
    | some a => unX op a fun v => setX an s d v k
    | none => none

noncomputable def oX_conv (cf : CallF) (an : Tr) (s : St) (k : St → Option R) (d : Nat) (kd : IntKind) (x : IX) : Option R := match evX s.env x with
    | some v => anyI v fun n => putS s d (.int kd (kd.wrap n)) k
    | none => none

noncomputable def oX_mkfn (cf : CallF) (an : Tr) (s : St) (k : St → Option R) (d : Nat) (f : Nat) (caps : List IX) : Option R := evXs s.env caps fun vs => allK vs (putS s d (.fn f vs) k)

noncomputable def oX_mkmap (cf : CallF) (an : Tr) (s : St) (k : St → Option R) (d : Nat) : Option R := putK s.env d (.mp s.gh.length) fun e => k ⟨e, s.lh, s.gh ++ [.map []]⟩

noncomputable def oX_mksl (cf : CallF) (an : Tr) (s : St) (k : St → Option R) (d : Nat) (g : Bool) (z : Nat) (bytes : Nat) (zero : PV) (l : IX) : Option R := match evX s.env l with
    | some v => anyI v fun n => gd (mkOk n bytes z zero) (match g with
      | true => putK s.env d (.bs true s.gh.length 0 n.toNat z) fun e => k ⟨e, s.lh, s.gh ++ [.cells ((List.replicate n.toNat zero).flatMap PV.cells)]⟩
      | false => gd (isFlat zero) (putK s.env d (.sl true z (List.replicate n.toNat zero)) fun e => k ⟨e, s.lh, s.gh⟩))
    | none => none

noncomputable def oX_slice (cf : CallF) (an : Tr) (s : St) (k : St → Option R) (d : Nat) (z : Nat) (x : IX) (lo : Option IX) (hi : Option IX) : Option R := match evX s.env x with
    | some v => boX s.env lo fun lo => boX s.env hi fun hi => slX z v lo hi fun w => setX an s d w k
    | none => none

noncomputable def oX_sliceS (cf : CallF) (an : Tr) (s : St) (k : St → Option R) (d : Nat) (x : IX) (lo : Option IX) (hi : Option IX) : Option R := match evX s.env x with
    | some v => boX s.env lo fun lo => boX s.env hi fun hi => ssX v lo hi fun w => putS s d (.str w) k
    | none => none

noncomputable def oX_faddr (cf : CallF) (an : Tr) (s : St) (k : St → Option R) (d : Nat) (x : IX) (off : Nat) : Option R := match evX s.env x with
    | some p => faX p off fun p => setX an s d p k
    | none => none

noncomputable def oX_field (cf : CallF) (an : Tr) (s : St) (k : St → Option R) (d : Nat) (agg : Bool) (kk : Nat) (off : Nat) (x : IX) : Option R := match evX s.env x with
    | some v => fdX v agg kk off fun v => setX an s d v k
    | none => none

noncomputable def oX_iaddr (cf : CallF) (an : Tr) (s : St) (k : St → Option R) (d : Nat) (z : Nat) (arr : Option Nat) (x : IX) (i : IX) : Option R := match evX s.env i, evX s.env x with
    | some i, some v => anyI i fun i => idX z arr v i fun p => setX an s d p k
    | _, _ => none

noncomputable def oX_index (cf : CallF) (an : Tr) (s : St) (k : St → Option R) (d : Nat) (z : Nat) (arr : Nat) (agg : Bool) (x : IX) (i : IX) : Option R := match evX s.env i, evX s.env x with
    | some i, some v => anyI i fun i => ixX v z arr agg i fun v => setX an s d v k
    | _, _ => none

noncomputable def oX_indexS (cf : CallF) (an : Tr) (s : St) (k : St → Option R) (d : Nat) (x : IX) (i : IX) : Option R := match evX s.env i, evX s.env x with
    | some i, some v => anyI i fun i => isX v i fun u => putS s d (.int .u8 u) k
    | _, _ => none

noncomputable def oX_lookup (cf : CallF) (an : Tr) (s : St) (k : St → Option R) (d : Nat) (kn : Nat) (m : IX) (kx : IX) (ok : Bool) (zero : PV) : Option R := match evX s.env m, evX s.env kx with
    | some m, some kv => lkX s.gh kn m kv fun r => setX an s d (match ok with | true => .tup [r.getD (degr zero), .bool r.isSome] | false => r.getD (degr zero)) k
    | _, _ => none

noncomputable def oX_mupd (cf : CallF) (an : Tr) (s : St) (k : St → Option R) (kn : Nat) (m : IX) (kx : IX) (x : IX) : Option R := match evX s.env m, evX s.env kx, evX s.env x with
    | some m, some kv, some v => muX s.gh kn m kv v fun gh => k ⟨s.env, s.lh, gh⟩
    | _, _, _ => none

noncomputable def oX_call (cf : CallF) (an : Tr) (s : St) (k : St → Option R) (d : Option Nat) (q : Bool) (f : Nat) (xs : List IX) : Option R := evXs s.env xs fun vs => allK vs (callR s.gh q (cf f vs s.gh) fun r gh => setO an ⟨s.env, s.lh, gh⟩ d r k)

noncomputable def oX_callv (cf : CallF) (an : Tr) (s : St) (k : St → Option R) (d : Option Nat) (q : Bool) (fv : IX) (xs : List IX) : Option R := match evX s.env fv with
    | some fv => evXs s.env xs fun vs => fnX fv fun f caps => allK vs (allK caps (callR s.gh q (cf f (vs ++ caps) s.gh) fun r gh => setO an ⟨s.env, s.lh, gh⟩ d r k))
    | none => none

noncomputable def oX_callF (cf : CallF) (an : Tr) (s : St) (k : St → Option R) (d : Option Nat) (f : Nat) (xs : List IX) : Option R := evXs s.env xs fun vs => allK vs (callN vs (cf f vs []) fun r => setO an s d r k)

noncomputable def oX_callE (cf : CallF) (an : Tr) (s : St) (k : St → Option R) (d : Option Nat) (fv : IX) (xs : List IX) : Option R := match evX s.env fv with
    | some fv => evXs s.env xs fun vs => fnX fv fun f caps => allK vs (allK caps (elK s.gh (vs ++ caps) fun us => allK us (callE us (cf f us []) fun r => setO an s d r k)))
    | none => none

noncomputable def oX_loadN (cf : CallF) (an : Tr) (s : St) (k : St → Option R) (d : Nat) (agg : Bool) (kk : Nat) (a : IX) (n : Nat) : Option R := match evX s.env a, getX s.env n with
    | some (.ptr g b off), some (.ptr g' b' _) => gd (decide (g ≠ g' ∨ b ≠ b')) (ldX s.lh s.gh agg kk (.ptr g b off) fun v => setX an s d v k)
    | _, _ => none

noncomputable def oX_len_0 (cf : CallF) (an : Tr) (s : St) (k : St → Option R) (d : Nat) (x : IX) : Option R := match evX s.env x with
    | some v => lenS v fun n => putS s d (.int .i64 n) k
    | none => none

noncomputable def oX_len_1 (cf : CallF) (an : Tr) (s : St) (k : St → Option R) (d : Nat) (x : IX) : Option R := match evX s.env x with
    | some v => unS v fun b => putS s d (.int .i64 b.size) k
    | none => none

noncomputable def oX_len_2 (cf : CallF) (an : Tr) (s : St) (k : St → Option R) (d : Nat) (x : IX) : Option R := match evX s.env x with
    | some v => lenM s.gh v fun n => putS s d (.int .i64 n) k
    | none => none

noncomputable def oX_append (cf : CallF) (an : Tr) (s : St) (k : St → Option R) (d : Nat) (z : Nat) (bytes : Nat) (sx : IX) (x : IX) : Option R := match evX s.env x with
    | some w => tkX s.env sx fun v e => apX z bytes v w fun ys => putK e d (.sl true z ys) fun e => k ⟨e, s.lh, s.gh⟩
    | none => none

noncomputable def oX_appendK (cf : CallF) (an : Tr) (s : St) (k : St → Option R) (d : Nat) (bytes : Nat) (sx : IX) (x : IX) : Option R := match evX s.env x, evX s.env sx with
    | some w, some v => akX s.gh bytes v w fun gh u => setX an ⟨s.env, s.lh, gh⟩ d u k
    | _, _ => none

noncomputable def oX_appendN (cf : CallF) (an : Tr) (s : St) (k : St → Option R) (d : Nat) (bytes : Nat) (sx : IX) (x : IX) : Option R := match evX s.env x, evX s.env sx with
    | some w, some v => anX s.gh bytes v w fun gh u => setX an ⟨s.env, s.lh, gh⟩ d u k
    | _, _ => none

noncomputable def oX_loadK (cf : CallF) (an : Tr) (s : St) (k : St → Option R) (d : Nat) (a : IX) : Option R := match evX s.env a with
    | some v => lkK s.gh v fun u => setX an s d u k
    | none => none

noncomputable def oX_loadH (cf : CallF) (an : Tr) (s : St) (k : St → Option R) (d : Nat) (a : IX) : Option R := match evX s.env a with
    | some (.ptr false b off) => (match nthX s.lh b with | some cs => ob cs[off]? fun v => setX an s d (degr v) k | none => none)
    | _ => none

noncomputable def oX_buildSlK (cf : CallF) (an : Tr) (s : St) (k : St → Option R) (d : Nat) (els : List IX) : Option R := evXs s.env els fun vs => gd (vs.all isFlat) (putK s.env d (.stk s.gh.length 0 vs.length) fun e => k ⟨e, s.lh, s.gh ++ [.stk 0 vs]⟩)

noncomputable def oX_maxi (cf : CallF) (an : Tr) (s : St) (k : St → Option R) (d : Nat) (xs : List IX) : Option R := evXs s.env xs fun vs => maxX vs fun v => setX an s d v k

noncomputable def oX_extract (cf : CallF) (an : Tr) (s : St) (k : St → Option R) (d : Nat) (x : IX) (i : Nat) : Option R := match evX s.env x with
    | some v => exX v i fun v => setX an s d v k
    | none => none

noncomputable def opX (cf : CallF) (an : Tr) (s : St) (o : IOp) (k : St → Option R) : Option R :=
  match o with
  | .mv d x => oX_mv cf an s k d x
  | .tk d n => oX_tk cf an s k d n
  | .pick d c x y => oX_pick cf an s k d c x y
  | .box d g true x => oX_box_true cf an s k d g x
  | .box d g false x => oX_box_false cf an s k d g x
  | .alloc d g z => oX_alloc cf an s k d g z
  | .build d z ps => oX_build cf an s k d z ps
  | .buildT d z ps => oX_buildT cf an s k d z ps
  | .buildSl d z els => oX_buildSl cf an s k d z els
  | .load d agg kk a => oX_load cf an s k d agg kk a
  | .loadT d a => oX_loadT cf an s k d a
  | .loadL d a => oX_loadL cf an s k d a
  | .store true kk a x => oX_store_true cf an s k kk a x
  | .store false kk a x => oX_store_false cf an s k kk a x
  | .nilc d x => oX_nilc cf an s k d x
  | .bin d op x y => oX_bin cf an s k d op x y
  | .eqa d neg ks x y => oX_eqa cf an s k d neg ks x y
  | .eqb d neg x y => oX_eqb cf an s k d neg x y
  | .eqn d neg x => oX_eqn cf an s k d neg x
  | .un d op x => oX_un cf an s k d op x
  | .conv d kd x => oX_conv cf an s k d kd x
  | .mkfn d f caps => oX_mkfn cf an s k d f caps
  | .mkmap d => oX_mkmap cf an s k d
  | .mksl d g z bytes zero l => oX_mksl cf an s k d g z bytes zero l
  | .slice d z x lo hi => oX_slice cf an s k d z x lo hi
  | .sliceS d x lo hi => oX_sliceS cf an s k d x lo hi
  | .faddr d x off => oX_faddr cf an s k d x off
  | .field d agg kk off x => oX_field cf an s k d agg kk off x
  | .iaddr d z arr x i => oX_iaddr cf an s k d z arr x i
  | .index d z arr agg x i => oX_index cf an s k d z arr agg x i
  | .indexS d x i => oX_indexS cf an s k d x i
  | .lookup d kn m kx ok zero => oX_lookup cf an s k d kn m kx ok zero
  | .mupd kn m kx x => oX_mupd cf an s k kn m kx x
  | .call d q f xs => oX_call cf an s k d q f xs
  | .callv d q fv xs => oX_callv cf an s k d q fv xs
  | .callF d f xs => oX_callF cf an s k d f xs
  | .callE d fv xs => oX_callE cf an s k d fv xs
  | .loadN d agg kk a n => oX_loadN cf an s k d agg kk a n
  | .len d 0 x => oX_len_0 cf an s k d x
  | .len d 1 x => oX_len_1 cf an s k d x
  | .len d 2 x => oX_len_2 cf an s k d x
  | .len _ _ _ => none
  | .append d z bytes sx x => oX_append cf an s k d z bytes sx x
  | .appendK d bytes sx x => oX_appendK cf an s k d bytes sx x
  | .appendN d bytes sx x => oX_appendN cf an s k d bytes sx x
  | .buildSlK d els => oX_buildSlK cf an s k d els
  | .loadK d a => oX_loadK cf an s k d a
  | .loadH d a => oX_loadH cf an s k d a
  | .maxi d xs => oX_maxi cf an s k d xs
  | .extract d x i => oX_extract cf an s k d x i

def skX (s : St) (o : IOp) (k : St → Option R) : Option R :=
  match opDst o with
  | some d => putS s d .und k
  | none => k s

noncomputable def opsX (cf : CallF) (an : Tr) : List IOpG → St → (St → Option R) → Option R
  | [], s, k => k s
  | ⟨o, none⟩ :: l, s, k => opX cf an s o fun s => opsX cf an l s k
  | ⟨o, some (g, want)⟩ :: l, s, k => match getX s.env g with
    | some (.bool b) => br g b
        (putS s g (.bool true) fun s => match want with
          | true => opX cf an s o fun s => opsX cf an l s k
          | false => skX s o fun s => opsX cf an l s k)
        (putS s g (.bool false) fun s => match want with
          | false => opX cf an s o fun s => opsX cf an l s k
          | true => skX s o fun s => opsX cf an l s k)
    | some .und => skX s o fun s => opsX cf an l s k
    | _ => none

def keepX (nl : Nat) : List Nat → List (Nat × PV) → (List (Nat × PV) → Option R) → Option R
  | [], _, f => f []
  | t :: l, e, f => match getX e t with
    | some v => stK nl v (keepX nl l e fun e' => f ((t, v) :: e'))
    | none => keepX nl l e f

def po (ks : List Nat) (nl : Nat) (e : IExit) (s : St) (k : IExit → St → Option R) : Option R :=
  match e with
  | .normal => keepX nl ks s.env fun e => takeK nl s.lh fun lh => k .normal ⟨e, lh, s.gh⟩
  | e => k e s

def tagX : IX → Nat
  | .t n => n
  | _ => 0

noncomputable def runX (pg : Prg) (an : Tr) : ICode → St → (IExit → St → Option R) → Option R
  | .skip, s, k => k .normal s
  | .region ops _, s, k => opsX (callL pg) an ops s (k .normal)
  | .seq a b, s, k => runX pg an a s fun e s' => nx e s' k fun s' => runX pg an b s' k
  | .cond x a b, s, k => match evX s.env x with
    | some v => unB v fun c => br (tagX x) c (runX pg an a s k) (runX pg an b s k)
    | none => none
  | .block id a, s, k => runX pg an a s fun e s' => bk id e s' k
  | .loop a, s, k => kR (runL pg (.loop a) s) k
  | .exit i, s, k => k (.exit i) s
  | .ret, s, k => k .ret s
  | .post a ks nl, s, k => runX pg an a s fun e s' => po ks nl e s' k
  | .cut a, s, k => kR (runL pg a s) k
  | .bad, _, _ => none

end
end Go.Lw
end
