/-
  The texts that the proof stands on, part 3.
-/
import Derived.Test.YtmodipglnngghaaCnfTellsB
set_option linter.unusedVariables false
set_option linter.unusedSimpArgs false
set_option linter.unnecessarySimpa false

/-! Library functions, told as they are. -/
section
namespace Go.Lw
open Go

def libClone (z bytes : Nat) : List PV → List GObj → Option (PV × List GObj)
  | [.sl _ z' xs], gh => if z' = z ∧ xs.length * bytes ≤ maxBytes then some (.sl true z xs, gh) else none
  | _, _ => none

end Go.Lw
end

/-! The code of package Cnf for the small machine. Written by program (gen.py). -/
section
set_option maxRecDepth 10000
namespace Go.Lw
open Go

/- 16: latchwork/cnf.Of -/
/- at its head: [4, 7, 33, 34, 35] -/
def f_cnf_Of_b1 : ICode :=
  (.post (.seq (.region [
    ⟨.bin 36 .lss (.t 35) (.t 34), none⟩] false)
  (.seq (.cond (.t 36) .skip
  (.exit 0))
  (.seq (.block 1 (.seq (.post (.region [
    ⟨.iaddr 37 1 none (.t 33) (.t 35), none⟩,
    ⟨.load 38 false 1 (.t 37), none⟩,
    ⟨.mv 9 (.t 38), none⟩] false) [4, 7, 9, 33, 34, 35] 2)
  (.post (.region [
    ⟨.mv 39 (.t 7), none⟩,
    ⟨.mv 40 (.t 9), none⟩,
    ⟨.call (some 41) false 54 [(.t 39), (.t 40), (.c (.int .i64 0))], none⟩] false) [4, 7, 33, 34, 35] 2)))
  (.post (.region [
    ⟨.bin 42 .add (.t 35) (.c (.int .i64 1)), none⟩,
    ⟨.mv 35 (.t 42), none⟩] false) [4, 7, 33, 34, 35] 2)))) [4, 7, 33, 34, 35] 2)
def f_cnf_Of_l1 : ICode :=
  (.post (.block 0 (.loop f_cnf_Of_b1)) [4, 7] 2)
def f_cnf_Of_k1 : ICode :=
  (.seq (.post (.region [
    ⟨.mv 43 (.t 7), none⟩,
    ⟨.nilc 44 (.t 43), none⟩,
    ⟨.faddr 45 (.t 44) 0, none⟩,
    ⟨.load 46 true 2 (.t 45), none⟩,
    ⟨.call (some 47) true 55 [(.t 46)], none⟩,
    ⟨.extract 48 (.t 47) 0, none⟩,
    ⟨.extract 49 (.t 47) 1, none⟩,
    ⟨.store true 2 (.t 4) (.t 48), none⟩,
    ⟨.mv 5 (.t 49), none⟩] false) [4, 5] 2)
  .ret)
def f_cnf_Of_0 : ICode :=
  (.seq (.post (.region [
    ⟨.box 2 false false (.t 0), none⟩,
    ⟨.alloc 4 false (.agg [.int .i64 0, .sl true 1 []]), none⟩,
    ⟨.mv 5 (.c (.int .i64 0)), none⟩] false) [1, 2, 4] 2)
  (.seq (.seq (.post (.region [
    ⟨.load 10 true 2 (.t 2), none⟩,
    ⟨.call (some 11) true 6 [(.t 10)], none⟩,
    ⟨.mv 6 (.t 11), none⟩] false) [1, 2, 4, 6] 2)
  (.seq (.post (.region [
    ⟨.mv 12 (.t 6), none⟩,
    ⟨.bin 13 .neq (.t 12) (.c (.int .i64 0)), none⟩] false) [1, 2, 4, 6, 13] 2)
  (.cond (.t 13) (.seq (.post (.region [
    ⟨.build 14 [.int .i64 0, .sl true 1 []] [], none⟩,
    ⟨.mv 15 (.t 6), none⟩,
    ⟨.store true 2 (.t 4) (.t 14), none⟩,
    ⟨.mv 5 (.t 15), none⟩] false) [4, 5] 2)
  .ret)
  .skip)))
  (.seq (.seq (.post (.region [
    ⟨.load 16 true 2 (.t 2), none⟩,
    ⟨.mv 17 (.t 1), none⟩,
    ⟨.call (some 18) true 47 [(.t 16), (.t 17)], none⟩,
    ⟨.un 19 .not (.t 18), none⟩] false) [1, 2, 4, 19] 2)
  (.cond (.t 19) (.seq (.post (.region [
    ⟨.build 20 [.int .i64 0, .sl true 1 []] [], none⟩,
    ⟨.store true 2 (.t 4) (.t 20), none⟩,
    ⟨.mv 5 (.c (.int .i64 5)), none⟩] false) [4, 5] 2)
  .ret)
  .skip))
  (.seq (.post (.region [
    ⟨.faddr 21 (.t 2) 0, none⟩,
    ⟨.load 22 false 1 (.t 21), none⟩,
    ⟨.faddr 23 (.t 2) 1, none⟩,
    ⟨.load 24 false 1 (.t 23), none⟩,
    ⟨.len 25 0 (.t 24), none⟩,
    ⟨.bin 26 .add (.t 22) (.t 25), none⟩,
    ⟨.buildT 27 [.int .i64 0, .sl true 1 []] [(0, 1, (.t 26))], none⟩,
    ⟨.buildT 28 [.int .i64 0, .sl true 1 []] [(0, 2, (.t 27))], none⟩,
    ⟨.box 29 true true (.t 28), none⟩,
    ⟨.mv 7 (.t 29), none⟩] false) [1, 2, 4, 7] 2)
  (.seq (.post (.region [
    ⟨.mv 30 (.t 7), none⟩,
    ⟨.load 31 true 2 (.t 2), none⟩,
    ⟨.call (some 32) false 53 [(.t 30), (.t 31), (.c (.int .i64 0))], none⟩] false) [1, 4, 7] 2)
  (.seq (.seq (.post (.region [
    ⟨.mv 33 (.t 1), none⟩,
    ⟨.len 34 0 (.t 33), none⟩,
    ⟨.mv 35 (.c (.int .i64 0)), none⟩] false) [4, 7, 33, 34, 35] 2)
  (.cut f_cnf_Of_l1))
  (.cut f_cnf_Of_k1)))))))
def f_cnf_Of : IFunc := { np := 2, res := [.cell 4 true 2, .t 5], own := false, trunc := true, body := f_cnf_Of_0 }

/- 32: latchwork/cnf.Holds -/
def f_cnf_Holds_0 : ICode :=
  (.seq (.post (.region [
    ⟨.box 2 false false (.t 0), none⟩,
    ⟨.mv 4 (.c (.bool false)), none⟩,
    ⟨.mv 5 (.c (.int .i64 0)), none⟩] false) [1, 2] 1)
  (.seq (.seq (.post (.region [
    ⟨.load 7 true 2 (.t 2), none⟩,
    ⟨.call (some 8) true 59 [(.t 7)], none⟩,
    ⟨.mv 6 (.t 8), none⟩] false) [1, 2, 6] 1)
  (.seq (.post (.region [
    ⟨.mv 9 (.t 6), none⟩,
    ⟨.bin 10 .neq (.t 9) (.c (.int .i64 0)), none⟩] false) [1, 2, 6, 10] 1)
  (.cond (.t 10) (.seq (.post (.region [
    ⟨.mv 11 (.t 6), none⟩,
    ⟨.mv 4 (.c (.bool false)), none⟩,
    ⟨.mv 5 (.t 11), none⟩] false) [4, 5] 0)
  .ret)
  .skip)))
  (.seq (.seq (.post (.region [
    ⟨.mv 12 (.t 1), none⟩,
    ⟨.len 13 0 (.t 12), none⟩,
    ⟨.faddr 14 (.t 2) 0, none⟩,
    ⟨.load 15 false 1 (.t 14), none⟩,
    ⟨.bin 16 .neq (.t 13) (.t 15), none⟩] false) [1, 2, 16] 1)
  (.cond (.t 16) (.seq (.post (.region [
    ⟨.mv 4 (.c (.bool false)), none⟩,
    ⟨.mv 5 (.c (.int .i64 1)), none⟩] false) [4, 5] 0)
  .ret)
  .skip))
  (.seq (.post (.region [
    ⟨.load 17 true 2 (.t 2), none⟩,
    ⟨.mv 18 (.t 1), none⟩,
    ⟨.call (some 19) true 70 [(.t 17), (.t 18)], none⟩,
    ⟨.mv 4 (.t 19), none⟩,
    ⟨.mv 5 (.c (.int .i64 0)), none⟩] false) [4, 5] 0)
  .ret))))
def f_cnf_Holds : IFunc := { np := 2, res := [.t 4, .t 5], own := false, trunc := true, body := f_cnf_Holds_0 }

/- 53: (*latchwork/cnf.Maker).Ands -/
/- at its head: [0, 2, 4, 12, 13, 14] -/
def f_cnf_Maker_Ands_b1 : ICode :=
  (.post (.seq (.region [
    ⟨.bin 15 .lss (.t 14) (.t 13), none⟩] false)
  (.seq (.cond (.t 15) .skip
  (.exit 0))
  (.seq (.block 1 (.seq (.post (.region [
    ⟨.mv 16 (.t 14), none⟩,
    ⟨.iaddr 17 2 none (.t 12) (.t 14), none⟩,
    ⟨.load 18 true 2 (.t 17), none⟩,
    ⟨.alloc 7 false (.agg [.int .i64 0, .int .i64 0]), none⟩,
    ⟨.mv 6 (.t 16), none⟩,
    ⟨.store false 2 (.t 7) (.t 18), none⟩] false) [0, 2, 4, 6, 7, 12, 13, 14] 2)
  (.seq (.post (.region [
    ⟨.faddr 19 (.t 4) 0, none⟩,
    ⟨.load 20 false 1 (.t 19), none⟩,
    ⟨.bin 21 .add (.c (.int .i64 1)) (.t 20), none⟩,
    ⟨.mv 22 (.t 6), none⟩,
    ⟨.bin 23 .add (.t 21) (.t 22), none⟩,
    ⟨.mv 24 (.t 2), none⟩,
    ⟨.bin 25 .add (.t 23) (.t 24), none⟩,
    ⟨.mv 8 (.t 25), none⟩] false) [0, 2, 4, 7, 8, 12, 13, 14] 2)
  (.seq (.post (.region [
    ⟨.iaddr 26 1 (some 2) (.t 7) (.c (.int .i64 0)), none⟩,
    ⟨.load 27 false 1 (.t 26), none⟩,
    ⟨.mv 28 (.t 2), none⟩,
    ⟨.call (some 29) true 90 [(.t 27), (.t 28)], none⟩,
    ⟨.iaddr 30 1 (some 2) (.t 7) (.c (.int .i64 1)), none⟩,
    ⟨.load 31 false 1 (.t 30), none⟩,
    ⟨.mv 32 (.t 2), none⟩,
    ⟨.call (some 33) true 90 [(.t 31), (.t 32)], none⟩,
    ⟨.mv 9 (.t 29), none⟩,
    ⟨.mv 10 (.t 33), none⟩] true) [0, 2, 4, 8, 9, 10, 12, 13, 14] 1)
  (.seq (.post (.region [
    ⟨.mv 34 (.t 0), none⟩,
    ⟨.mv 35 (.t 8), none⟩,
    ⟨.un 36 .neg (.t 35), none⟩,
    ⟨.mv 37 (.t 9), none⟩,
    ⟨.buildSl 38 1 [(.t 36), (.t 37)], none⟩,
    ⟨.call (some 39) false 91 [(.t 34), (.t 38)], none⟩] false) [0, 2, 4, 8, 9, 10, 12, 13, 14] 1)
  (.seq (.post (.region [
    ⟨.mv 40 (.t 0), none⟩,
    ⟨.mv 41 (.t 8), none⟩,
    ⟨.un 42 .neg (.t 41), none⟩,
    ⟨.mv 43 (.t 10), none⟩,
    ⟨.buildSl 44 1 [(.t 42), (.t 43)], none⟩,
    ⟨.call (some 45) false 91 [(.t 40), (.t 44)], none⟩] false) [0, 2, 4, 8, 9, 10, 12, 13, 14] 1)
  (.post (.region [
    ⟨.mv 46 (.t 0), none⟩,
    ⟨.mv 47 (.t 8), none⟩,
    ⟨.mv 48 (.t 9), none⟩,
    ⟨.un 49 .neg (.t 48), none⟩,
    ⟨.mv 50 (.t 10), none⟩,
    ⟨.un 51 .neg (.t 50), none⟩,
    ⟨.buildSl 52 1 [(.t 47), (.t 49), (.t 51)], none⟩,
    ⟨.call (some 53) false 91 [(.t 46), (.t 52)], none⟩] false) [0, 2, 4, 12, 13, 14] 1)))))))
  (.post (.region [
    ⟨.bin 54 .add (.t 14) (.c (.int .i64 1)), none⟩,
    ⟨.mv 14 (.t 54), none⟩] false) [0, 2, 4, 12, 13, 14] 1)))) [0, 2, 4, 12, 13, 14] 1)
def f_cnf_Maker_Ands_l1 : ICode :=
  (.post (.block 0 (.loop f_cnf_Maker_Ands_b1)) [] 0)
def f_cnf_Maker_Ands_0 : ICode :=
  (.seq (.post (.region [
    ⟨.box 4 false false (.t 1), none⟩] false) [0, 2, 4] 1)
  (.seq (.post (.region [
    ⟨.faddr 11 (.t 4) 1, none⟩,
    ⟨.load 12 false 1 (.t 11), none⟩,
    ⟨.len 13 0 (.t 12), none⟩,
    ⟨.mv 14 (.c (.int .i64 0)), none⟩] false) [0, 2, 4, 12, 13, 14] 1)
  (.cut f_cnf_Maker_Ands_l1)))
def f_cnf_Maker_Ands : IFunc := { np := 3, res := [], own := false, trunc := false, body := f_cnf_Maker_Ands_0 }

/- 54: (*latchwork/cnf.Maker).Must -/
def f_cnf_Maker_Must_0 : ICode :=
  (.seq (.region [
    ⟨.mv 6 (.t 1), none⟩] false)
  (.block 0 (.seq (.post (.region [
    ⟨.bin 14 .eql (.t 6) (.c (.int .i64 1)), none⟩,
    ⟨.mv 13 (.t 14), none⟩] false) [0, 1, 2, 6, 13] 0)
  (.cond (.t 13) (.post .skip [] 0)
  (.post (.seq (.post (.region [
    ⟨.bin 16 .eql (.t 6) (.c (.int .i64 0)), none⟩,
    ⟨.mv 15 (.t 16), none⟩] false) [0, 1, 2, 15] 0)
  (.cond (.t 15) (.post (.post (.region [
    ⟨.mv 17 (.t 0), none⟩,
    ⟨.call (some 18) false 91 [(.t 17), (.c (.sl true 1 []))], none⟩] false) [] 0) [] 0)
  (.post (.post (.region [
    ⟨.mv 7 (.t 0), none⟩,
    ⟨.mv 8 (.t 1), none⟩,
    ⟨.mv 9 (.t 2), none⟩,
    ⟨.call (some 10) true 90 [(.t 8), (.t 9)], none⟩,
    ⟨.buildSl 11 1 [(.t 10)], none⟩,
    ⟨.call (some 12) false 91 [(.t 7), (.t 11)], none⟩] false) [] 0) [] 0))) [] 0)))))
def f_cnf_Maker_Must : IFunc := { np := 3, res := [], own := false, trunc := false, body := f_cnf_Maker_Must_0 }

/- 55: latchwork/cnf.Done -/
def f_cnf_Done_0 : ICode :=
  (.seq (.post (.region [
    ⟨.box 1 false false (.t 0), none⟩,
    ⟨.alloc 2 false (.agg [.int .i64 0, .sl true 1 []]), none⟩,
    ⟨.mv 3 (.c (.int .i64 0)), none⟩] false) [1, 2] 2)
  (.seq (.seq (.post (.region [
    ⟨.load 5 true 2 (.t 1), none⟩,
    ⟨.call (some 6) true 59 [(.t 5)], none⟩,
    ⟨.mv 4 (.t 6), none⟩] false) [1, 2, 4] 2)
  (.seq (.post (.region [
    ⟨.mv 7 (.t 4), none⟩,
    ⟨.bin 8 .neq (.t 7) (.c (.int .i64 0)), none⟩] false) [1, 2, 4, 8] 2)
  (.cond (.t 8) (.seq (.post (.region [
    ⟨.build 9 [.int .i64 0, .sl true 1 []] [], none⟩,
    ⟨.mv 10 (.t 4), none⟩,
    ⟨.store true 2 (.t 2) (.t 9), none⟩,
    ⟨.mv 3 (.t 10), none⟩] false) [2, 3] 2)
  .ret)
  .skip)))
  (.seq (.post (.region [
    ⟨.load 11 true 2 (.t 1), none⟩,
    ⟨.store true 2 (.t 2) (.t 11), none⟩,
    ⟨.mv 3 (.c (.int .i64 0)), none⟩] false) [2, 3] 2)
  .ret)))
def f_cnf_Done : IFunc := { np := 1, res := [.cell 2 true 2, .t 3], own := false, trunc := true, body := f_cnf_Done_0 }

/- 59: latchwork/cnf.Check -/
/- at its head: [1, 19, 20, 21] -/
def f_cnf_Check_b1 : ICode :=
  (.post (.seq (.region [
    ⟨.bin 22 .lss (.t 21) (.t 20), none⟩] false)
  (.seq (.cond (.t 22) .skip
  (.exit 0))
  (.seq (.block 1 (.seq (.post (.region [
    ⟨.iaddr 23 1 none (.t 19) (.t 21), none⟩,
    ⟨.load 24 false 1 (.t 23), none⟩,
    ⟨.tk 4 24, none⟩] false) [1, 4, 19, 20, 21] 1)
  (.seq (.post (.region [
    ⟨.faddr 25 (.t 1) 0, none⟩,
    ⟨.load 26 false 1 (.t 25), none⟩,
    ⟨.mv 27 (.t 4), none⟩,
    ⟨.call (some 28) true 94 [(.t 26), (.t 27)], none⟩,
    ⟨.mv 5 (.t 28), none⟩] false) [1, 5, 19, 20, 21] 1)
  (.seq (.post (.region [
    ⟨.mv 29 (.t 5), none⟩,
    ⟨.bin 30 .neq (.t 29) (.c (.int .i64 0)), none⟩] false) [1, 5, 19, 20, 21, 30] 1)
  (.cond (.t 30) (.seq (.post (.region [
    ⟨.mv 31 (.t 5), none⟩,
    ⟨.mv 2 (.t 31), none⟩] false) [2] 0)
  .ret)
  .skip)))))
  (.post (.region [
    ⟨.bin 32 .add (.t 21) (.c (.int .i64 1)), none⟩,
    ⟨.mv 21 (.t 32), none⟩] false) [1, 19, 20, 21] 1)))) [1, 19, 20, 21] 1)
def f_cnf_Check_l1 : ICode :=
  (.post (.block 0 (.loop f_cnf_Check_b1)) [] 0)
def f_cnf_Check_k1 : ICode :=
  (.seq (.region [
    ⟨.mv 2 (.c (.int .i64 0)), none⟩] false)
  .ret)
def f_cnf_Check_0 : ICode :=
  (.seq (.post (.region [
    ⟨.box 1 false false (.t 0), none⟩,
    ⟨.mv 2 (.c (.int .i64 0)), none⟩] false) [1] 1)
  (.seq (.seq (.post (.region [
    ⟨.faddr 6 (.t 1) 0, none⟩,
    ⟨.load 7 false 1 (.t 6), none⟩,
    ⟨.bin 8 .lss (.t 7) (.c (.int .i64 0)), none⟩,
    ⟨.mv 9 (.t 8), none⟩,
    ⟨.faddr 10 (.t 1) 0, some (9, false)⟩,
    ⟨.load 11 false 1 (.t 10), some (9, false)⟩,
    ⟨.bin 12 .gtr (.t 11) (.c (.int .i64 200000)), some (9, false)⟩,
    ⟨.pick 13 (.t 9) (.c (.bool true)) (.t 12), none⟩] false) [1, 13] 1)
  (.cond (.t 13) (.seq (.post (.region [
    ⟨.mv 2 (.c (.int .i64 3)), none⟩] false) [2] 0)
  .ret)
  .skip))
  (.seq (.seq (.post (.region [
    ⟨.faddr 14 (.t 1) 1, none⟩,
    ⟨.load 15 false 1 (.t 14), none⟩,
    ⟨.len 16 0 (.t 15), none⟩,
    ⟨.bin 17 .gtr (.t 16) (.c (.int .i64 800000)), none⟩] false) [1, 17] 1)
  (.cond (.t 17) (.seq (.post (.region [
    ⟨.mv 2 (.c (.int .i64 2)), none⟩] false) [2] 0)
  .ret)
  .skip))
  (.seq (.seq (.post (.region [
    ⟨.faddr 18 (.t 1) 1, none⟩,
    ⟨.load 19 false 1 (.t 18), none⟩,
    ⟨.len 20 0 (.t 19), none⟩,
    ⟨.mv 21 (.c (.int .i64 0)), none⟩] false) [1, 19, 20, 21] 1)
  (.cut f_cnf_Check_l1))
  (.cut f_cnf_Check_k1)))))
def f_cnf_Check : IFunc := { np := 1, res := [.t 2], own := false, trunc := true, body := f_cnf_Check_0 }

/- 70: latchwork/cnf.Hold -/
def f_cnf_Hold_0 : ICode :=
  (.seq (.post (.region [
    ⟨.box 2 false false (.t 0), none⟩,
    ⟨.box 3 true false (.t 1), none⟩,
    ⟨.mv 4 (.c (.bool false)), none⟩] false) [2, 3] 1)
  (.seq (.post (.region [
    ⟨.mkfn 6 98 [(.t 3)], none⟩,
    ⟨.alloc 5 true (.nilf), none⟩,
    ⟨.store false 1 (.t 5) (.t 6), none⟩] false) [2, 5] 1)
  (.seq (.post (.region [
    ⟨.faddr 7 (.t 2) 1, none⟩,
    ⟨.load 8 false 1 (.t 7), none⟩,
    ⟨.mkfn 9 99 [(.t 5)], none⟩,
    ⟨.call (some 10) true 100 [(.t 8), (.t 9)], none⟩,
    ⟨.un 11 .not (.t 10), none⟩,
    ⟨.mv 4 (.t 11), none⟩] false) [4] 0)
  .ret)))
def f_cnf_Hold : IFunc := { np := 2, res := [.t 4], own := false, trunc := true, body := f_cnf_Hold_0 }

/- 90: latchwork/cnf.Number -/
def f_cnf_Number_0 : ICode :=
  (.seq (.post (.region [
    ⟨.mv 4 (.c (.int .i64 0)), none⟩] false) [0, 1] 0)
  (.seq (.seq (.post (.region [
    ⟨.mv 5 (.t 0), none⟩,
    ⟨.bin 6 .rem (.t 5) (.c (.int .i64 2)), none⟩,
    ⟨.bin 7 .eql (.t 6) (.c (.int .i64 1)), none⟩] false) [0, 1, 7] 0)
  (.cond (.t 7) (.seq (.post (.region [
    ⟨.mv 8 (.t 0), none⟩,
    ⟨.bin 9 .quo (.t 8) (.c (.int .i64 2)), none⟩,
    ⟨.mv 10 (.t 1), none⟩,
    ⟨.bin 11 .add (.t 9) (.t 10), none⟩,
    ⟨.un 12 .neg (.t 11), none⟩,
    ⟨.mv 4 (.t 12), none⟩] false) [4] 0)
  .ret)
  .skip))
  (.seq (.post (.region [
    ⟨.mv 13 (.t 0), none⟩,
    ⟨.bin 14 .quo (.t 13) (.c (.int .i64 2)), none⟩,
    ⟨.mv 15 (.t 1), none⟩,
    ⟨.bin 16 .add (.t 14) (.t 15), none⟩,
    ⟨.mv 4 (.t 16), none⟩] false) [4] 0)
  .ret)))
def f_cnf_Number : IFunc := { np := 2, res := [.t 4], own := false, trunc := true, body := f_cnf_Number_0 }

/- 91: (*latchwork/cnf.Maker).Add -/
def f_cnf_Maker_Add_0 : ICode :=
  (.post (.region [
    ⟨.mv 4 (.t 0), none⟩,
    ⟨.mv 5 (.t 0), none⟩,
    ⟨.nilc 6 (.t 5), none⟩,
    ⟨.faddr 7 (.t 6) 0, none⟩,
    ⟨.faddr 8 (.t 7) 1, none⟩,
    ⟨.loadT 9 (.t 8), none⟩,
    ⟨.mv 10 (.t 1), none⟩,
    ⟨.buildSl 11 1 [(.t 10)], none⟩,
    ⟨.append 12 1 24 (.t 9) (.t 11), none⟩,
    ⟨.nilc 13 (.t 4), none⟩,
    ⟨.faddr 14 (.t 13) 0, none⟩,
    ⟨.faddr 15 (.t 14) 1, none⟩,
    ⟨.store true 1 (.t 15) (.t 12), none⟩] false) [] 0)
def f_cnf_Maker_Add : IFunc := { np := 2, res := [], own := false, trunc := false, body := f_cnf_Maker_Add_0 }

/- 94: latchwork/cnf.one -/
def f_cnf_one_0 : ICode :=
  (.seq (.post (.region [
    ⟨.box 2 true false (.t 0), none⟩,
    ⟨.mv 4 (.c (.int .i64 0)), none⟩] false) [1, 2] 0)
  (.seq (.seq (.post (.region [
    ⟨.mv 5 (.t 1), none⟩,
    ⟨.len 6 0 (.t 5), none⟩,
    ⟨.bin 7 .gtr (.t 6) (.c (.int .i64 200)), none⟩] false) [1, 2, 7] 0)
  (.cond (.t 7) (.seq (.post (.region [
    ⟨.mv 4 (.c (.int .i64 2)), none⟩] false) [4] 0)
  .ret)
  .skip))
  (.seq (.seq (.post (.region [
    ⟨.mv 8 (.t 1), none⟩,
    ⟨.mkfn 9 113 [(.t 2)], none⟩,
    ⟨.call (some 10) true 86 [(.t 8), (.t 9)], none⟩] false) [10] 0)
  (.cond (.t 10) (.seq (.post (.region [
    ⟨.mv 4 (.c (.int .i64 5)), none⟩] false) [4] 0)
  .ret)
  .skip))
  (.seq (.post (.region [
    ⟨.mv 4 (.c (.int .i64 0)), none⟩] false) [4] 0)
  .ret))))
def f_cnf_one : IFunc := { np := 2, res := [.t 4], own := false, trunc := true, body := f_cnf_one_0 }

/- 98: latchwork/cnf.Hold$1 -/
def f_cnf_Hold_1_0 : ICode :=
  (.seq (.post (.region [
    ⟨.mv 3 (.c (.bool false)), none⟩] false) [0, 1] 0)
  (.seq (.post (.region [
    ⟨.load 4 false 1 (.t 1), none⟩,
    ⟨.mv 5 (.t 0), none⟩,
    ⟨.call (some 6) true 116 [(.t 5)], none⟩,
    ⟨.bin 7 .sub (.t 6) (.c (.int .i64 1)), none⟩,
    ⟨.iaddr 8 1 none (.t 4) (.t 7), none⟩,
    ⟨.load 9 false 1 (.t 8), none⟩,
    ⟨.mv 10 (.t 0), none⟩,
    ⟨.bin 11 .gtr (.t 10) (.c (.int .i64 0)), none⟩,
    ⟨.eqb 12 false (.t 9) (.t 11), none⟩,
    ⟨.mv 3 (.t 12), none⟩] true) [3] 0)
  .ret))
def f_cnf_Hold_1 : IFunc := { np := 2, res := [.t 3], own := false, trunc := true, body := f_cnf_Hold_1_0 }

/- 99: latchwork/cnf.Hold$2 -/
def f_cnf_Hold_2_0 : ICode :=
  (.seq (.post (.region [
    ⟨.mv 3 (.c (.bool false)), none⟩] false) [0, 1] 0)
  (.seq (.post (.region [
    ⟨.mv 4 (.t 0), none⟩,
    ⟨.load 5 false 1 (.t 1), none⟩,
    ⟨.call (some 6) true 86 [(.t 4), (.t 5)], none⟩,
    ⟨.un 7 .not (.t 6), none⟩,
    ⟨.mv 3 (.t 7), none⟩] false) [3] 0)
  .ret))
def f_cnf_Hold_2 : IFunc := { np := 2, res := [.t 3], own := false, trunc := true, body := f_cnf_Hold_2_0 }

/- 113: latchwork/cnf.one$1 -/
def f_cnf_one_1_0 : ICode :=
  (.seq (.post (.region [
    ⟨.mv 3 (.c (.bool false)), none⟩] false) [0, 1] 0)
  (.seq (.post (.region [
    ⟨.mv 4 (.t 0), none⟩,
    ⟨.bin 5 .eql (.t 4) (.c (.int .i64 0)), none⟩,
    ⟨.mv 6 (.t 5), none⟩,
    ⟨.mv 7 (.t 0), some (6, false)⟩,
    ⟨.load 8 false 1 (.t 1), some (6, false)⟩,
    ⟨.bin 9 .gtr (.t 7) (.t 8), some (6, false)⟩,
    ⟨.pick 10 (.t 6) (.c (.bool true)) (.t 9), none⟩,
    ⟨.mv 11 (.t 10), none⟩,
    ⟨.mv 12 (.t 0), some (11, false)⟩,
    ⟨.load 13 false 1 (.t 1), some (11, false)⟩,
    ⟨.un 14 .neg (.t 13), some (11, false)⟩,
    ⟨.bin 15 .lss (.t 12) (.t 14), some (11, false)⟩,
    ⟨.pick 16 (.t 11) (.c (.bool true)) (.t 15), none⟩,
    ⟨.mv 3 (.t 16), none⟩] false) [3] 0)
  .ret))
def f_cnf_one_1 : IFunc := { np := 2, res := [.t 3], own := false, trunc := true, body := f_cnf_one_1_0 }

/- 116: latchwork/cnf.abs -/
def f_cnf_abs_0 : ICode :=
  (.seq (.post (.region [
    ⟨.mv 2 (.c (.int .i64 0)), none⟩] false) [0] 0)
  (.seq (.post (.region [
    ⟨.mv 3 (.t 0), none⟩,
    ⟨.mv 4 (.t 0), none⟩,
    ⟨.un 5 .neg (.t 4), none⟩,
    ⟨.maxi 6 [(.t 3), (.t 5)], none⟩,
    ⟨.mv 2 (.t 6), none⟩] false) [2] 0)
  .ret))
def f_cnf_abs : IFunc := { np := 1, res := [.t 2], own := false, trunc := true, body := f_cnf_abs_0 }

end Go.Lw
end

/-! The code of package Gates for the small machine. Written by program (gen.py). -/
section
set_option maxRecDepth 10000
namespace Go.Lw
open Go

/- 1: latchwork/gates.And -/
def f_gates_And_0 : ICode :=
  (.seq (.post (.region [
    ⟨.box 3 false false (.t 0), none⟩,
    ⟨.alloc 6 false (.agg [.int .i64 0, .sl true 2 []]), none⟩,
    ⟨.mv 7 (.c (.int .i64 0)), none⟩,
    ⟨.mv 8 (.c (.int .i64 0)), none⟩] false) [1, 2, 3, 6] 2)
  (.seq (.seq (.post (.region [
    ⟨.load 12 true 2 (.t 3), none⟩,
    ⟨.call (some 13) true 6 [(.t 12)], none⟩,
    ⟨.mv 9 (.t 13), none⟩] false) [1, 2, 3, 6, 9] 2)
  (.seq (.post (.region [
    ⟨.mv 14 (.t 9), none⟩,
    ⟨.bin 15 .neq (.t 14) (.c (.int .i64 0)), none⟩] false) [1, 2, 3, 6, 9, 15] 2)
  (.cond (.t 15) (.seq (.post (.region [
    ⟨.build 16 [.int .i64 0, .sl true 2 []] [], none⟩,
    ⟨.mv 17 (.t 9), none⟩,
    ⟨.store true 2 (.t 6) (.t 16), none⟩,
    ⟨.mv 7 (.c (.int .i64 0)), none⟩,
    ⟨.mv 8 (.t 17), none⟩] false) [6, 7, 8] 2)
  .ret)
  .skip)))
  (.seq (.seq (.post (.region [
    ⟨.load 18 true 2 (.t 3), none⟩,
    ⟨.mv 19 (.t 1), none⟩,
    ⟨.mv 20 (.t 2), none⟩,
    ⟨.buildSl 21 1 [(.t 19), (.t 20)], none⟩,
    ⟨.call (some 22) true 47 [(.t 18), (.t 21)], none⟩,
    ⟨.un 23 .not (.t 22), none⟩] false) [1, 2, 3, 6, 23] 2)
  (.cond (.t 23) (.seq (.post (.region [
    ⟨.build 24 [.int .i64 0, .sl true 2 []] [], none⟩,
    ⟨.store true 2 (.t 6) (.t 24), none⟩,
    ⟨.mv 7 (.c (.int .i64 0)), none⟩,
    ⟨.mv 8 (.c (.int .i64 5)), none⟩] false) [6, 7, 8] 2)
  .ret)
  .skip))
  (.seq (.post (.region [
    ⟨.load 25 true 2 (.t 3), none⟩,
    ⟨.call (some 26) false 48 [(.t 25)], none⟩,
    ⟨.mv 10 (.t 26), none⟩] false) [1, 2, 6, 10] 2)
  (.seq (.post (.region [
    ⟨.mv 27 (.t 10), none⟩,
    ⟨.mv 28 (.t 1), none⟩,
    ⟨.mv 29 (.t 2), none⟩,
    ⟨.call (some 30) false 49 [(.t 27), (.t 28), (.t 29)], none⟩,
    ⟨.mv 11 (.t 30), none⟩] false) [6, 10, 11] 2)
  (.seq (.seq (.post (.region [
    ⟨.mv 31 (.t 10), none⟩,
    ⟨.nilc 32 (.t 31), none⟩,
    ⟨.faddr 33 (.t 32) 0, none⟩,
    ⟨.faddr 34 (.t 33) 1, none⟩,
    ⟨.load 35 false 1 (.t 34), none⟩,
    ⟨.len 36 0 (.t 35), none⟩,
    ⟨.bin 37 .gtr (.t 36) (.c (.int .i64 1000000)), none⟩] false) [6, 10, 11, 37] 2)
  (.cond (.t 37) (.seq (.post (.region [
    ⟨.build 38 [.int .i64 0, .sl true 2 []] [], none⟩,
    ⟨.store true 2 (.t 6) (.t 38), none⟩,
    ⟨.mv 7 (.c (.int .i64 0)), none⟩,
    ⟨.mv 8 (.c (.int .i64 2)), none⟩] false) [6, 7, 8] 2)
  .ret)
  .skip))
  (.seq (.post (.region [
    ⟨.mv 39 (.t 10), none⟩,
    ⟨.nilc 40 (.t 39), none⟩,
    ⟨.faddr 41 (.t 40) 0, none⟩,
    ⟨.load 42 true 2 (.t 41), none⟩,
    ⟨.mv 43 (.t 11), none⟩,
    ⟨.store true 2 (.t 6) (.t 42), none⟩,
    ⟨.mv 7 (.t 43), none⟩,
    ⟨.mv 8 (.c (.int .i64 0)), none⟩] false) [6, 7, 8] 2)
  .ret)))))))
def f_gates_And : IFunc := { np := 3, res := [.cell 6 true 2, .t 7, .t 8], own := false, trunc := true, body := f_gates_And_0 }

/- 6: latchwork/gates.Check -/
/- at its head: [1, 3, 20, 21, 22] -/
def f_gates_Check_b1 : ICode :=
  (.post (.seq (.region [
    ⟨.bin 23 .lss (.t 22) (.t 21), none⟩] false)
  (.seq (.cond (.t 23) .skip
  (.exit 0))
  (.seq (.block 1 (.seq (.post (.region [
    ⟨.mv 24 (.t 22), none⟩,
    ⟨.iaddr 25 2 none (.t 20) (.t 22), none⟩,
    ⟨.load 26 true 2 (.t 25), none⟩,
    ⟨.alloc 5 false (.agg [.int .i64 0, .int .i64 0]), none⟩,
    ⟨.mv 4 (.t 24), none⟩,
    ⟨.store false 2 (.t 5) (.t 26), none⟩] false) [1, 3, 4, 5, 20, 21, 22] 2)
  (.seq (.seq (.post (.region [
    ⟨.iaddr 27 1 (some 2) (.t 5) (.c (.int .i64 0)), none⟩,
    ⟨.load 28 false 1 (.t 27), none⟩,
    ⟨.iaddr 29 1 (some 2) (.t 5) (.c (.int .i64 1)), none⟩,
    ⟨.load 30 false 1 (.t 29), none⟩,
    ⟨.bin 31 .geq (.t 28) (.t 30), none⟩,
    ⟨.mv 32 (.t 31), none⟩,
    ⟨.iaddr 33 1 (some 2) (.t 5) (.c (.int .i64 0)), some (32, false)⟩,
    ⟨.load 34 false 1 (.t 33), some (32, false)⟩,
    ⟨.bin 35 .lss (.t 34) (.c (.int .i64 2)), some (32, false)⟩,
    ⟨.pick 36 (.t 32) (.c (.bool true)) (.t 35), none⟩,
    ⟨.mv 37 (.t 36), none⟩,
    ⟨.iaddr 38 1 (some 2) (.t 5) (.c (.int .i64 1)), some (37, false)⟩,
    ⟨.load 39 false 1 (.t 38), some (37, false)⟩,
    ⟨.bin 40 .quo (.t 39) (.c (.int .i64 2)), some (37, false)⟩,
    ⟨.faddr 41 (.t 1) 0, some (37, false)⟩,
    ⟨.load 42 false 1 (.t 41), some (37, false)⟩,
    ⟨.bin 43 .add (.c (.int .i64 1)) (.t 42), some (37, false)⟩,
    ⟨.mv 44 (.t 4), some (37, false)⟩,
    ⟨.bin 45 .add (.t 43) (.t 44), some (37, false)⟩,
    ⟨.bin 46 .geq (.t 40) (.t 45), some (37, false)⟩,
    ⟨.pick 47 (.t 37) (.c (.bool true)) (.t 46), none⟩,
    ⟨.mv 48 (.t 47), none⟩,
    ⟨.iaddr 49 1 (some 2) (.t 5) (.c (.int .i64 0)), some (48, false)⟩,
    ⟨.load 50 false 1 (.t 49), some (48, false)⟩,
    ⟨.bin 51 .quo (.t 50) (.c (.int .i64 2)), some (48, false)⟩,
    ⟨.iaddr 52 1 (some 2) (.t 5) (.c (.int .i64 1)), some (48, false)⟩,
    ⟨.load 53 false 1 (.t 52), some (48, false)⟩,
    ⟨.bin 54 .quo (.t 53) (.c (.int .i64 2)), some (48, false)⟩,
    ⟨.bin 55 .eql (.t 51) (.t 54), some (48, false)⟩,
    ⟨.pick 56 (.t 48) (.c (.bool true)) (.t 55), none⟩] false) [1, 3, 5, 20, 21, 22, 56] 2)
  (.cond (.t 56) (.seq (.post (.region [
    ⟨.mv 2 (.c (.int .i64 4)), none⟩] false) [2] 0)
  .ret)
  .skip))
  (.post (.region [
    ⟨.mv 57 (.t 3), none⟩,
    ⟨.load 58 true 2 (.t 5), none⟩,
    ⟨.mupd 2 (.t 57) (.t 58) (.c (.bool true)), none⟩] false) [1, 3, 20, 21, 22] 1))))
  (.post (.region [
    ⟨.bin 59 .add (.t 22) (.c (.int .i64 1)), none⟩,
    ⟨.mv 22 (.t 59), none⟩] false) [1, 3, 20, 21, 22] 1)))) [1, 3, 20, 21, 22] 1)
def f_gates_Check_l1 : ICode :=
  (.post (.block 0 (.loop f_gates_Check_b1)) [1, 3] 1)
def f_gates_Check_k1 : ICode :=
  (.seq (.seq (.post (.region [
    ⟨.mv 60 (.t 3), none⟩,
    ⟨.len 61 2 (.t 60), none⟩,
    ⟨.faddr 62 (.t 1) 1, none⟩,
    ⟨.load 63 false 1 (.t 62), none⟩,
    ⟨.len 64 0 (.t 63), none⟩,
    ⟨.bin 65 .lss (.t 61) (.t 64), none⟩] false) [65] 0)
  (.cond (.t 65) (.seq (.post (.region [
    ⟨.mv 2 (.c (.int .i64 6)), none⟩] false) [2] 0)
  .ret)
  .skip))
  (.seq (.post (.region [
    ⟨.mv 2 (.c (.int .i64 0)), none⟩] false) [2] 0)
  .ret))
def f_gates_Check_0 : ICode :=
  (.seq (.post (.region [
    ⟨.box 1 false false (.t 0), none⟩,
    ⟨.mv 2 (.c (.int .i64 0)), none⟩] false) [1] 1)
  (.seq (.seq (.post (.region [
    ⟨.faddr 6 (.t 1) 0, none⟩,
    ⟨.load 7 false 1 (.t 6), none⟩,
    ⟨.bin 8 .lss (.t 7) (.c (.int .i64 0)), none⟩,
    ⟨.mv 9 (.t 8), none⟩,
    ⟨.faddr 10 (.t 1) 0, some (9, false)⟩,
    ⟨.load 11 false 1 (.t 10), some (9, false)⟩,
    ⟨.bin 12 .gtr (.t 11) (.c (.int .i64 1000)), some (9, false)⟩,
    ⟨.pick 13 (.t 9) (.c (.bool true)) (.t 12), none⟩] false) [1, 13] 1)
  (.cond (.t 13) (.seq (.post (.region [
    ⟨.mv 2 (.c (.int .i64 3)), none⟩] false) [2] 0)
  .ret)
  .skip))
  (.seq (.seq (.post (.region [
    ⟨.faddr 14 (.t 1) 1, none⟩,
    ⟨.load 15 false 1 (.t 14), none⟩,
    ⟨.len 16 0 (.t 15), none⟩,
    ⟨.bin 17 .gtr (.t 16) (.c (.int .i64 1000000)), none⟩] false) [1, 17] 1)
  (.cond (.t 17) (.seq (.post (.region [
    ⟨.mv 2 (.c (.int .i64 2)), none⟩] false) [2] 0)
  .ret)
  .skip))
  (.seq (.post (.region [
    ⟨.mkmap 18, none⟩,
    ⟨.mv 3 (.t 18), none⟩] false) [1, 3] 1)
  (.seq (.seq (.post (.region [
    ⟨.faddr 19 (.t 1) 1, none⟩,
    ⟨.load 20 false 1 (.t 19), none⟩,
    ⟨.len 21 0 (.t 20), none⟩,
    ⟨.mv 22 (.c (.int .i64 0)), none⟩] false) [1, 3, 20, 21, 22] 1)
  (.cut f_gates_Check_l1))
  (.cut f_gates_Check_k1))))))
def f_gates_Check : IFunc := { np := 1, res := [.t 2], own := false, trunc := true, body := f_gates_Check_0 }

/- 9: latchwork/gates.Eval -/
/- at its head: [9, 10, 32, 33, 34] -/
def f_gates_Eval_b1 : ICode :=
  (.post (.seq (.region [
    ⟨.bin 35 .lss (.t 34) (.t 33), none⟩] false)
  (.seq (.cond (.t 35) .skip
  (.exit 1))
  (.seq (.block 2 (.seq (.post (.region [
    ⟨.iaddr 36 1 none (.t 32) (.t 34), none⟩,
    ⟨.load 37 false 1 (.t 36), none⟩,
    ⟨.mv 12 (.t 37), none⟩] false) [9, 10, 12, 32, 33, 34] 0)
  (.post (.region [
    ⟨.tk 38 10, none⟩,
    ⟨.mv 39 (.t 9), none⟩,
    ⟨.mv 40 (.t 12), none⟩,
    ⟨.bin 41 .quo (.t 40) (.c (.int .i64 2)), none⟩,
    ⟨.iaddr 42 1 none (.t 39) (.t 41), none⟩,
    ⟨.load 43 false 1 (.t 42), none⟩,
    ⟨.mv 44 (.t 12), none⟩,
    ⟨.bin 45 .rem (.t 44) (.c (.int .i64 2)), none⟩,
    ⟨.bin 46 .eql (.t 45) (.c (.int .i64 1)), none⟩,
    ⟨.eqb 47 true (.t 43) (.t 46), none⟩,
    ⟨.buildSl 48 1 [(.t 47)], none⟩,
    ⟨.append 49 1 1 (.t 38) (.t 48), none⟩,
    ⟨.tk 10 49, none⟩] false) [9, 10, 32, 33, 34] 0)))
  (.post (.region [
    ⟨.bin 50 .add (.t 34) (.c (.int .i64 1)), none⟩,
    ⟨.mv 34 (.t 50), none⟩] false) [9, 10, 32, 33, 34] 0)))) [9, 10, 32, 33, 34] 0)
def f_gates_Eval_l1 : ICode :=
  (.post (.block 1 (.loop f_gates_Eval_b1)) [10] 0)
def f_gates_Eval_k1 : ICode :=
  (.seq (.post (.region [
    ⟨.mv 51 (.t 10), none⟩,
    ⟨.tk 6 51, none⟩,
    ⟨.mv 7 (.c (.int .i64 0)), none⟩] false) [6, 7] 0)
  .ret)
def f_gates_Eval_0 : ICode :=
  (.seq (.post (.region [
    ⟨.box 3 false false (.t 0), none⟩,
    ⟨.mv 6 (.c (.sl true 1 [])), none⟩,
    ⟨.mv 7 (.c (.int .i64 0)), none⟩] false) [1, 2, 3] 1)
  (.seq (.seq (.post (.region [
    ⟨.load 13 true 2 (.t 3), none⟩,
    ⟨.call (some 14) true 6 [(.t 13)], none⟩,
    ⟨.mv 8 (.t 14), none⟩] false) [1, 2, 3, 8] 1)
  (.seq (.post (.region [
    ⟨.mv 15 (.t 8), none⟩,
    ⟨.bin 16 .neq (.t 15) (.c (.int .i64 0)), none⟩] false) [1, 2, 3, 8, 16] 1)
  (.cond (.t 16) (.seq (.post (.region [
    ⟨.mv 17 (.t 8), none⟩,
    ⟨.mv 6 (.c (.sl true 1 [])), none⟩,
    ⟨.mv 7 (.t 17), none⟩] false) [6, 7] 0)
  .ret)
  .skip)))
  (.seq (.block 0 (.seq (.post (.region [
    ⟨.load 19 true 2 (.t 3), none⟩,
    ⟨.mv 20 (.t 2), none⟩,
    ⟨.call (some 21) true 47 [(.t 19), (.t 20)], none⟩,
    ⟨.un 22 .not (.t 21), none⟩,
    ⟨.mv 18 (.t 22), none⟩] false) [1, 2, 3, 18] 1)
  (.cond (.t 18) (.seq (.post (.region [
    ⟨.mv 6 (.c (.sl true 1 [])), none⟩,
    ⟨.mv 7 (.c (.int .i64 5)), none⟩] false) [6, 7] 0)
  .ret)
  (.seq (.post (.region [
    ⟨.mv 24 (.t 1), none⟩,
    ⟨.len 25 0 (.t 24), none⟩,
    ⟨.faddr 26 (.t 3) 0, none⟩,
    ⟨.load 27 false 1 (.t 26), none⟩,
    ⟨.bin 28 .neq (.t 25) (.t 27), none⟩,
    ⟨.mv 23 (.t 28), none⟩] false) [1, 2, 3, 23] 1)
  (.cond (.t 23) (.seq (.post (.region [
    ⟨.mv 6 (.c (.sl true 1 [])), none⟩,
    ⟨.mv 7 (.c (.int .i64 1)), none⟩] false) [6, 7] 0)
  .ret)
  .skip)))))
  (.seq (.post (.region [
    ⟨.load 29 true 2 (.t 3), none⟩,
    ⟨.mv 30 (.t 1), none⟩,
    ⟨.call (some 31) true 52 [(.t 29), (.t 30)], none⟩,
    ⟨.tk 9 31, none⟩] false) [2, 9] 0)
  (.seq (.region [
    ⟨.mv 10 (.c (.sl true 1 [])), none⟩] false)
  (.seq (.seq (.post (.region [
    ⟨.mv 32 (.t 2), none⟩,
    ⟨.len 33 0 (.t 32), none⟩,
    ⟨.mv 34 (.c (.int .i64 0)), none⟩] false) [9, 10, 32, 33, 34] 0)
  (.cut f_gates_Eval_l1))
  (.cut f_gates_Eval_k1)))))))
def f_gates_Eval : IFunc := { np := 3, res := [.t 6, .t 7], own := false, trunc := true, body := f_gates_Eval_0 }

/- 47: latchwork/gates.Is -/
def f_gates_Is_0 : ICode :=
  (.seq (.post (.region [
    ⟨.box 2 true false (.t 0), none⟩,
    ⟨.mv 4 (.c (.bool false)), none⟩] false) [1, 2] 0)
  (.seq (.post (.region [
    ⟨.mv 5 (.t 1), none⟩,
    ⟨.mkfn 6 85 [(.t 2)], none⟩,
    ⟨.call (some 7) true 86 [(.t 5), (.t 6)], none⟩,
    ⟨.un 8 .not (.t 7), none⟩,
    ⟨.mv 4 (.t 8), none⟩] false) [4] 0)
  .ret))
def f_gates_Is : IFunc := { np := 2, res := [.t 4], own := false, trunc := true, body := f_gates_Is_0 }

/- 48: latchwork/gates.New -/
/- at its head: [1, 3, 16, 17, 18] -/
def f_gates_New_b1 : ICode :=
  (.post (.seq (.region [
    ⟨.bin 19 .lss (.t 18) (.t 17), none⟩] false)
  (.seq (.cond (.t 19) .skip
  (.exit 0))
  (.seq (.block 1 (.seq (.post (.region [
    ⟨.mv 20 (.t 18), none⟩,
    ⟨.iaddr 21 2 none (.t 16) (.t 18), none⟩,
    ⟨.load 22 true 2 (.t 21), none⟩,
    ⟨.alloc 5 false (.agg [.int .i64 0, .int .i64 0]), none⟩,
    ⟨.mv 4 (.t 20), none⟩,
    ⟨.store false 2 (.t 5) (.t 22), none⟩] false) [1, 3, 4, 5, 16, 17, 18] 2)
  (.post (.region [
    ⟨.mv 23 (.t 3), none⟩,
    ⟨.nilc 24 (.t 23), none⟩,
    ⟨.faddr 25 (.t 24) 2, none⟩,
    ⟨.load 26 false 1 (.t 25), none⟩,
    ⟨.load 27 true 2 (.t 5), none⟩,
    ⟨.faddr 28 (.t 1) 0, none⟩,
    ⟨.load 29 false 1 (.t 28), none⟩,
    ⟨.bin 30 .add (.c (.int .i64 1)) (.t 29), none⟩,
    ⟨.mv 31 (.t 4), none⟩,
    ⟨.bin 32 .add (.t 30) (.t 31), none⟩,
    ⟨.bin 33 .mul (.c (.int .i64 2)) (.t 32), none⟩,
    ⟨.mupd 2 (.t 26) (.t 27) (.t 33), none⟩] true) [1, 3, 16, 17, 18] 1)))
  (.post (.region [
    ⟨.bin 34 .add (.t 18) (.c (.int .i64 1)), none⟩,
    ⟨.mv 18 (.t 34), none⟩] false) [1, 3, 16, 17, 18] 1)))) [1, 3, 16, 17, 18] 1)
def f_gates_New_l1 : ICode :=
  (.post (.block 0 (.loop f_gates_New_b1)) [3] 0)
def f_gates_New_k1 : ICode :=
  (.seq (.post (.region [
    ⟨.mv 35 (.t 3), none⟩,
    ⟨.mv 2 (.t 35), none⟩] false) [2] 0)
  .ret)
def f_gates_New_0 : ICode :=
  (.seq (.post (.region [
    ⟨.box 1 false false (.t 0), none⟩,
    ⟨.mv 2 (.c (.nilp)), none⟩] false) [1] 1)
  (.seq (.post (.region [
    ⟨.faddr 6 (.t 1) 0, none⟩,
    ⟨.load 7 false 1 (.t 6), none⟩,
    ⟨.faddr 8 (.t 1) 1, none⟩,
    ⟨.load 9 false 1 (.t 8), none⟩,
    ⟨.callF (some 10) 87 [(.t 9)], none⟩,
    ⟨.buildT 11 [.int .i64 0, .sl true 2 []] [(0, 1, (.t 7)), (1, 1, (.t 10))], none⟩,
    ⟨.mkmap 12, none⟩,
    ⟨.buildT 13 [.int .i64 0, .sl true 2 [], .nilm] [(0, 2, (.t 11)), (2, 1, (.t 12))], none⟩,
    ⟨.box 14 true true (.t 13), none⟩,
    ⟨.mv 3 (.t 14), none⟩] true) [1, 3] 1)
  (.seq (.seq (.post (.region [
    ⟨.faddr 15 (.t 1) 1, none⟩,
    ⟨.load 16 false 1 (.t 15), none⟩,
    ⟨.len 17 0 (.t 16), none⟩,
    ⟨.mv 18 (.c (.int .i64 0)), none⟩] false) [1, 3, 16, 17, 18] 1)
  (.cut f_gates_New_l1))
  (.cut f_gates_New_k1))))
def f_gates_New : IFunc := { np := 1, res := [.t 2], own := false, trunc := false, body := f_gates_New_0 }

/- 49: (*latchwork/gates.Maker).And -/
def f_gates_Maker_And_k1 : ICode :=
  (.seq (.block 0 (.seq (.post (.region [
    ⟨.mv 17 (.t 1), none⟩,
    ⟨.bin 18 .eql (.t 17) (.c (.int .i64 0)), none⟩,
    ⟨.mv 19 (.t 18), none⟩,
    ⟨.mv 20 (.t 1), some (19, false)⟩,
    ⟨.bin 21 .xor (.t 20) (.c (.int .i64 1)), some (19, false)⟩,
    ⟨.mv 22 (.t 2), some (19, false)⟩,
    ⟨.bin 23 .eql (.t 21) (.t 22), some (19, false)⟩,
    ⟨.pick 24 (.t 19) (.c (.bool true)) (.t 23), none⟩,
    ⟨.mv 16 (.t 24), none⟩] false) [0, 1, 2, 16] 0)
  (.cond (.t 16) (.seq (.post (.region [
    ⟨.mv 6 (.c (.int .i64 0)), none⟩] false) [6] 0)
  .ret)
  (.seq (.post (.region [
    ⟨.mv 26 (.t 1), none⟩,
    ⟨.bin 27 .eql (.t 26) (.c (.int .i64 1)), none⟩,
    ⟨.mv 28 (.t 27), none⟩,
    ⟨.mv 29 (.t 1), some (28, false)⟩,
    ⟨.mv 30 (.t 2), some (28, false)⟩,
    ⟨.bin 31 .eql (.t 29) (.t 30), some (28, false)⟩,
    ⟨.pick 32 (.t 28) (.c (.bool true)) (.t 31), none⟩,
    ⟨.mv 25 (.t 32), none⟩] false) [0, 1, 2, 25] 0)
  (.cond (.t 25) (.seq (.post (.region [
    ⟨.mv 33 (.t 2), none⟩,
    ⟨.mv 6 (.t 33), none⟩] false) [6] 0)
  .ret)
  .skip)))))
  (.seq (.post (.region [
    ⟨.mv 34 (.t 1), none⟩,
    ⟨.mv 35 (.t 2), none⟩,
    ⟨.build 36 [.int .i64 0, .int .i64 0] [(0, 1, (.t 34)), (1, 1, (.t 35))], none⟩,
    ⟨.alloc 7 false (.agg [.int .i64 0, .int .i64 0]), none⟩,
    ⟨.store false 2 (.t 7) (.t 36), none⟩] false) [0, 7] 1)
  (.seq (.seq (.post (.region [
    ⟨.mv 38 (.t 0), none⟩,
    ⟨.nilc 39 (.t 38), none⟩,
    ⟨.faddr 40 (.t 39) 2, none⟩,
    ⟨.load 41 false 1 (.t 40), none⟩,
    ⟨.load 42 true 2 (.t 7), none⟩,
    ⟨.lookup 43 2 (.t 41) (.t 42) true (.int .i64 0), none⟩,
    ⟨.mv 37 (.t 43), none⟩,
    ⟨.extract 44 (.t 37) 0, none⟩,
    ⟨.extract 45 (.t 37) 1, none⟩,
    ⟨.mv 8 (.t 44), none⟩,
    ⟨.mv 9 (.t 45), none⟩] true) [0, 7, 8, 9] 1)
  (.seq (.post (.region [
    ⟨.mv 46 (.t 9), none⟩] false) [0, 7, 8, 46] 1)
  (.cond (.t 46) (.seq (.post (.region [
    ⟨.mv 47 (.t 8), none⟩,
    ⟨.mv 6 (.t 47), none⟩] false) [6] 0)
  .ret)
  .skip)))
  (.seq (.post (.region [
    ⟨.mv 48 (.t 0), none⟩,
    ⟨.nilc 49 (.t 48), none⟩,
    ⟨.faddr 50 (.t 49) 0, none⟩,
    ⟨.load 51 true 2 (.t 50), none⟩,
    ⟨.call (some 52) true 88 [(.t 51)], none⟩,
    ⟨.bin 53 .mul (.c (.int .i64 2)) (.t 52), none⟩,
    ⟨.mv 10 (.t 53), none⟩] false) [0, 7, 10] 1)
  (.seq (.post (.region [
    ⟨.mv 54 (.t 0), none⟩,
    ⟨.mv 55 (.t 0), none⟩,
    ⟨.nilc 56 (.t 55), none⟩,
    ⟨.faddr 57 (.t 56) 0, none⟩,
    ⟨.faddr 58 (.t 57) 1, none⟩,
    ⟨.loadT 59 (.t 58), none⟩,
    ⟨.load 60 true 2 (.t 7), none⟩,
    ⟨.buildSl 61 2 [(.t 60)], none⟩,
    ⟨.append 62 2 16 (.t 59) (.t 61), none⟩,
    ⟨.nilc 63 (.t 54), none⟩,
    ⟨.faddr 64 (.t 63) 0, none⟩,
    ⟨.faddr 65 (.t 64) 1, none⟩,
    ⟨.store true 1 (.t 65) (.t 62), none⟩] true) [0, 7, 10] 1)
  (.seq (.post (.region [
    ⟨.mv 66 (.t 0), none⟩,
    ⟨.nilc 67 (.t 66), none⟩,
    ⟨.faddr 68 (.t 67) 2, none⟩,
    ⟨.load 69 false 1 (.t 68), none⟩,
    ⟨.load 70 true 2 (.t 7), none⟩,
    ⟨.mv 71 (.t 10), none⟩,
    ⟨.mupd 2 (.t 69) (.t 70) (.t 71), none⟩] true) [10] 0)
  (.seq (.post (.region [
    ⟨.mv 72 (.t 10), none⟩,
    ⟨.mv 6 (.t 72), none⟩] false) [6] 0)
  .ret)))))))
def f_gates_Maker_And_0 : ICode :=
  (.seq (.post (.region [
    ⟨.mv 6 (.c (.int .i64 0)), none⟩] false) [0, 1, 2] 0)
  (.seq (.seq (.post (.region [
    ⟨.mv 11 (.t 1), none⟩,
    ⟨.mv 12 (.t 2), none⟩,
    ⟨.bin 13 .gtr (.t 11) (.t 12), none⟩] false) [0, 1, 2, 13] 0)
  (.cond (.t 13) (.post (.post (.region [
    ⟨.mv 14 (.t 2), none⟩,
    ⟨.mv 15 (.t 1), none⟩,
    ⟨.mv 1 (.t 14), none⟩,
    ⟨.mv 2 (.t 15), none⟩] false) [0, 1, 2] 0) [0, 1, 2] 0)
  (.post .skip [0, 1, 2] 0)))
  (.cut f_gates_Maker_And_k1)))
def f_gates_Maker_And : IFunc := { np := 3, res := [.t 6], own := false, trunc := false, body := f_gates_Maker_And_0 }

/- 52: latchwork/gates.All -/
/- at its head: [5, 6, 14, 15, 16] -/
def f_gates_All_b1 : ICode :=
  (.post (.seq (.region [
    ⟨.bin 17 .lss (.t 16) (.t 15), none⟩] false)
  (.seq (.cond (.t 17) .skip
  (.exit 0))
  (.seq (.block 1 (.seq (.post (.region [
    ⟨.iaddr 18 2 none (.t 14) (.t 16), none⟩,
    ⟨.load 19 true 2 (.t 18), none⟩,
    ⟨.alloc 8 false (.agg [.int .i64 0, .int .i64 0]), none⟩,
    ⟨.store false 2 (.t 8) (.t 19), none⟩] false) [5, 6, 8, 14, 15, 16] 1)
  (.post (.region [
    ⟨.loadT 20 (.t 5), none⟩,
    ⟨.mv 21 (.t 6), none⟩,
    ⟨.iaddr 22 1 (some 2) (.t 8) (.c (.int .i64 0)), none⟩,
    ⟨.load 23 false 1 (.t 22), none⟩,
    ⟨.callE (some 24) (.t 21) [(.t 23)], none⟩,
    ⟨.mv 25 (.t 24), none⟩,
    ⟨.mv 26 (.t 6), some (25, true)⟩,
    ⟨.iaddr 27 1 (some 2) (.t 8) (.c (.int .i64 1)), some (25, true)⟩,
    ⟨.load 28 false 1 (.t 27), some (25, true)⟩,
    ⟨.callE (some 29) (.t 26) [(.t 28)], some (25, true)⟩,
    ⟨.pick 30 (.t 25) (.t 29) (.c (.bool false)), none⟩,
    ⟨.buildSl 31 1 [(.t 30)], none⟩,
    ⟨.append 32 1 1 (.t 20) (.t 31), none⟩,
    ⟨.store true 1 (.t 5) (.t 32), none⟩] true) [5, 6, 14, 15, 16] 0)))
  (.post (.region [
    ⟨.bin 33 .add (.t 16) (.c (.int .i64 1)), none⟩,
    ⟨.mv 16 (.t 33), none⟩] false) [5, 6, 14, 15, 16] 0)))) [5, 6, 14, 15, 16] 0)
def f_gates_All_l1 : ICode :=
  (.post (.block 0 (.loop f_gates_All_b1)) [5] 0)
def f_gates_All_k1 : ICode :=
  (.seq (.post (.region [
    ⟨.load 34 false 1 (.t 5), none⟩,
    ⟨.tk 4 34, none⟩] false) [4] 0)
  .ret)
def f_gates_All_0 : ICode :=
  (.seq (.post (.region [
    ⟨.box 2 false false (.t 0), none⟩,
    ⟨.mv 4 (.c (.sl true 1 [])), none⟩] false) [1, 2] 1)
  (.seq (.post (.region [
    ⟨.buildSl 9 1 [(.c (.bool false))], none⟩,
    ⟨.mv 10 (.t 1), none⟩,
    ⟨.append 11 1 1 (.t 9) (.t 10), none⟩,
    ⟨.alloc 5 true (.sl true 1 []), none⟩,
    ⟨.store true 1 (.t 5) (.t 11), none⟩] false) [2, 5] 1)
  (.seq (.post (.region [
    ⟨.mkfn 12 89 [(.t 5)], none⟩,
    ⟨.mv 6 (.t 12), none⟩] false) [2, 5, 6] 1)
  (.seq (.seq (.post (.region [
    ⟨.faddr 13 (.t 2) 1, none⟩,
    ⟨.load 14 false 1 (.t 13), none⟩,
    ⟨.len 15 0 (.t 14), none⟩,
    ⟨.mv 16 (.c (.int .i64 0)), none⟩] false) [5, 6, 14, 15, 16] 0)
  (.cut f_gates_All_l1))
  (.cut f_gates_All_k1)))))
def f_gates_All : IFunc := { np := 2, res := [.t 4], own := false, trunc := true, body := f_gates_All_0 }

/- 85: latchwork/gates.Is$1 -/
def f_gates_Is_1_0 : ICode :=
  (.seq (.post (.region [
    ⟨.mv 3 (.c (.bool false)), none⟩] false) [0, 1] 0)
  (.seq (.post (.region [
    ⟨.mv 4 (.t 0), none⟩,
    ⟨.bin 5 .lss (.t 4) (.c (.int .i64 0)), none⟩,
    ⟨.mv 6 (.t 5), none⟩,
    ⟨.mv 7 (.t 0), some (6, false)⟩,
    ⟨.load 8 true 2 (.t 1), some (6, false)⟩,
    ⟨.call (some 9) true 88 [(.t 8)], some (6, false)⟩,
    ⟨.bin 10 .mul (.c (.int .i64 2)) (.t 9), some (6, false)⟩,
    ⟨.bin 11 .geq (.t 7) (.t 10), some (6, false)⟩,
    ⟨.pick 12 (.t 6) (.c (.bool true)) (.t 11), none⟩,
    ⟨.mv 3 (.t 12), none⟩] false) [3] 0)
  .ret))
def f_gates_Is_1 : IFunc := { np := 2, res := [.t 3], own := false, trunc := true, body := f_gates_Is_1_0 }

/- 88: latchwork/gates.Nodes -/
def f_gates_Nodes_0 : ICode :=
  (.seq (.post (.region [
    ⟨.box 1 false false (.t 0), none⟩,
    ⟨.mv 2 (.c (.int .i64 0)), none⟩] false) [1] 1)
  (.seq (.post (.region [
    ⟨.faddr 3 (.t 1) 0, none⟩,
    ⟨.load 4 false 1 (.t 3), none⟩,
    ⟨.bin 5 .add (.c (.int .i64 1)) (.t 4), none⟩,
    ⟨.faddr 6 (.t 1) 1, none⟩,
    ⟨.load 7 false 1 (.t 6), none⟩,
    ⟨.len 8 0 (.t 7), none⟩,
    ⟨.bin 9 .add (.t 5) (.t 8), none⟩,
    ⟨.mv 2 (.t 9), none⟩] false) [2] 0)
  .ret))
def f_gates_Nodes : IFunc := { np := 1, res := [.t 2], own := false, trunc := true, body := f_gates_Nodes_0 }

/- 89: latchwork/gates.All$1 -/
def f_gates_All_1_0 : ICode :=
  (.seq (.post (.region [
    ⟨.mv 3 (.c (.bool false)), none⟩] false) [0, 1] 0)
  (.seq (.post (.region [
    ⟨.load 4 false 1 (.t 1), none⟩,
    ⟨.mv 5 (.t 0), none⟩,
    ⟨.bin 6 .quo (.t 5) (.c (.int .i64 2)), none⟩,
    ⟨.iaddr 7 1 none (.t 4) (.t 6), none⟩,
    ⟨.load 8 false 1 (.t 7), none⟩,
    ⟨.mv 9 (.t 0), none⟩,
    ⟨.bin 10 .rem (.t 9) (.c (.int .i64 2)), none⟩,
    ⟨.bin 11 .eql (.t 10) (.c (.int .i64 1)), none⟩,
    ⟨.eqb 12 true (.t 8) (.t 11), none⟩,
    ⟨.mv 3 (.t 12), none⟩] false) [3] 0)
  .ret))
def f_gates_All_1 : IFunc := { np := 2, res := [.t 3], own := false, trunc := true, body := f_gates_All_1_0 }

end Go.Lw
end

/-! The code of package Law for the small machine. Written by program (gen.py). -/
section
set_option maxRecDepth 10000
namespace Go.Lw
open Go

/- 0: latchwork/latchworklaw.GatesAnds -/
def f_law_GatesAnds_k2 : ICode :=
  (.seq (.post (.region [
    ⟨.call (some 54) true 5 [], none⟩,
    ⟨.mv 55 (.t 54), none⟩,
    ⟨.load 56 true 2 (.t 3), some (55, true)⟩,
    ⟨.call (some 57) true 6 [(.t 56)], some (55, true)⟩,
    ⟨.mv 58 (.t 10), some (55, true)⟩,
    ⟨.bin 59 .eql (.t 57) (.t 58), some (55, true)⟩,
    ⟨.pick 60 (.t 55) (.t 59) (.c (.bool false)), none⟩,
    ⟨.mv 61 (.t 60), none⟩,
    ⟨.mv 62 (.t 9), some (61, true)⟩,
    ⟨.mv 63 (.t 11), some (61, true)⟩,
    ⟨.bin 64 .eql (.t 62) (.t 63), some (61, true)⟩,
    ⟨.pick 65 (.t 61) (.t 64) (.c (.bool false)), none⟩,
    ⟨.mv 66 (.t 65), none⟩,
    ⟨.mv 67 (.t 8), some (66, true)⟩,
    ⟨.mv 68 (.t 13), some (66, true)⟩,
    ⟨.bin 69 .eql (.t 67) (.t 68), some (66, true)⟩,
    ⟨.pick 70 (.t 66) (.t 69) (.c (.bool false)), none⟩,
    ⟨.mv 71 (.t 70), none⟩,
    ⟨.load 72 true 2 (.t 7), some (71, true)⟩,
    ⟨.load 73 true 2 (.t 12), some (71, true)⟩,
    ⟨.call (some 74) true 7 [(.t 72), (.t 73)], some (71, true)⟩,
    ⟨.pick 75 (.t 71) (.t 74) (.c (.bool false)), none⟩,
    ⟨.mv 6 (.t 75), none⟩] false) [6] 0)
  .ret)
def f_law_GatesAnds_k1 : ICode :=
  (.seq (.seq (.post (.region [
    ⟨.mv 40 (.t 11), none⟩,
    ⟨.bin 41 .eql (.t 40) (.c (.int .i64 0)), none⟩] false) [1, 2, 3, 7, 8, 9, 10, 11, 12, 13, 41] 3)
  (.cond (.t 41) (.post (.seq (.post (.region [
    ⟨.load 43 true 2 (.t 3), none⟩,
    ⟨.mv 44 (.t 1), none⟩,
    ⟨.mv 45 (.t 2), none⟩,
    ⟨.call (some 46) true 4 [(.t 43), (.t 44), (.t 45)], none⟩,
    ⟨.mv 42 (.t 46), none⟩,
    ⟨.extract 47 (.t 42) 0, none⟩,
    ⟨.extract 48 (.t 42) 1, none⟩,
    ⟨.store true 2 (.t 12) (.t 47), none⟩,
    ⟨.mv 13 (.t 48), none⟩] false) [3, 7, 8, 9, 10, 11, 12, 13] 3)
  (.seq (.post (.region [
    ⟨.faddr 49 (.t 12) 1, none⟩,
    ⟨.load 50 false 1 (.t 49), none⟩,
    ⟨.len 51 0 (.t 50), none⟩,
    ⟨.bin 52 .gtr (.t 51) (.c (.int .i64 1000000)), none⟩] false) [3, 7, 8, 9, 10, 11, 12, 13, 52] 3)
  (.cond (.t 52) (.post (.post (.region [
    ⟨.build 53 [.int .i64 0, .sl true 2 []] [], none⟩,
    ⟨.store true 2 (.t 12) (.t 53), none⟩,
    ⟨.mv 13 (.c (.int .i64 0)), none⟩,
    ⟨.mv 11 (.c (.int .i64 2)), none⟩] false) [3, 7, 8, 9, 10, 11, 12, 13] 3) [3, 7, 8, 9, 10, 11, 12, 13] 3)
  (.post .skip [3, 7, 8, 9, 10, 11, 12, 13] 3)))) [3, 7, 8, 9, 10, 11, 12, 13] 3)
  (.post .skip [3, 7, 8, 9, 10, 11, 12, 13] 3)))
  (.cut f_law_GatesAnds_k2))
def f_law_GatesAnds_0 : ICode :=
  (.seq (.post (.region [
    ⟨.box 3 false false (.t 0), none⟩,
    ⟨.mv 6 (.c (.bool false)), none⟩] false) [1, 2, 3] 1)
  (.seq (.post (.region [
    ⟨.load 15 true 2 (.t 3), none⟩,
    ⟨.mv 16 (.t 1), none⟩,
    ⟨.mv 17 (.t 2), none⟩,
    ⟨.call (some 18) true 1 [(.t 15), (.t 16), (.t 17)], none⟩,
    ⟨.mv 14 (.t 18), none⟩,
    ⟨.extract 19 (.t 14) 0, none⟩,
    ⟨.extract 20 (.t 14) 1, none⟩,
    ⟨.extract 21 (.t 14) 2, none⟩,
    ⟨.alloc 7 false (.agg [.int .i64 0, .sl true 2 []]), none⟩,
    ⟨.store true 2 (.t 7) (.t 19), none⟩,
    ⟨.mv 8 (.t 20), none⟩,
    ⟨.mv 9 (.t 21), none⟩] false) [1, 2, 3, 7, 8, 9] 2)
  (.seq (.post (.region [
    ⟨.load 22 true 2 (.t 3), none⟩,
    ⟨.call (some 23) true 2 [(.t 22)], none⟩,
    ⟨.mv 10 (.t 23), none⟩] false) [1, 2, 3, 7, 8, 9, 10] 2)
  (.seq (.post (.region [
    ⟨.mv 24 (.t 10), none⟩,
    ⟨.build 25 [.int .i64 0, .sl true 2 []] [], none⟩,
    ⟨.alloc 12 false (.agg [.int .i64 0, .sl true 2 []]), none⟩,
    ⟨.mv 11 (.t 24), none⟩,
    ⟨.store true 2 (.t 12) (.t 25), none⟩,
    ⟨.mv 13 (.c (.int .i64 0)), none⟩] false) [1, 2, 3, 7, 8, 9, 10, 11, 12, 13] 3)
  (.seq (.seq (.post (.region [
    ⟨.mv 26 (.t 11), none⟩,
    ⟨.bin 27 .eql (.t 26) (.c (.int .i64 0)), none⟩,
    ⟨.mv 28 (.t 27), none⟩,
    ⟨.load 29 true 2 (.t 3), some (28, true)⟩,
    ⟨.mv 30 (.t 1), some (28, true)⟩,
    ⟨.call (some 31) true 3 [(.t 29), (.t 30)], some (28, true)⟩,
    ⟨.un 32 .not (.t 31), some (28, true)⟩,
    ⟨.mv 33 (.t 32), some (28, true)⟩,
    ⟨.load 34 true 2 (.t 3), some (33, false)⟩,
    ⟨.mv 35 (.t 2), some (33, false)⟩,
    ⟨.call (some 36) true 3 [(.t 34), (.t 35)], some (33, false)⟩,
    ⟨.un 37 .not (.t 36), some (33, false)⟩,
    ⟨.pick 38 (.t 33) (.c (.bool true)) (.t 37), some (28, true)⟩,
    ⟨.pick 39 (.t 28) (.t 38) (.c (.bool false)), none⟩] false) [1, 2, 3, 7, 8, 9, 10, 11, 12, 13, 39] 3)
  (.cond (.t 39) (.post (.post (.region [
    ⟨.mv 11 (.c (.int .i64 5)), none⟩] false) [1, 2, 3, 7, 8, 9, 10, 11, 12, 13] 3) [1, 2, 3, 7, 8, 9, 10, 11, 12, 13] 3)
  (.post .skip [1, 2, 3, 7, 8, 9, 10, 11, 12, 13] 3)))
  (.cut f_law_GatesAnds_k1))))))
def f_law_GatesAnds : IFunc := { np := 3, res := [.t 6], own := false, trunc := true, body := f_law_GatesAnds_0 }

/- 5: latchwork/latchworklaw.gatesBegun -/
def f_law_gatesBegun_0 : ICode :=
  (.seq (.post (.region [
    ⟨.mv 0 (.c (.bool false)), none⟩] false) [] 0)
  (.seq (.post (.region [
    ⟨.buildT 7 [.int .i64 0, .sl true 2 []] [(0, 1, (.c (.int .i64 2)))], none⟩,
    ⟨.call (some 8) true 1 [(.t 7), (.c (.int .i64 4)), (.c (.int .i64 2))], none⟩,
    ⟨.mv 6 (.t 8), none⟩,
    ⟨.extract 9 (.t 6) 0, none⟩,
    ⟨.extract 10 (.t 6) 1, none⟩,
    ⟨.extract 11 (.t 6) 2, none⟩,
    ⟨.alloc 1 false (.agg [.int .i64 0, .sl true 2 []]), none⟩,
    ⟨.store true 2 (.t 1) (.t 9), none⟩,
    ⟨.mv 2 (.t 10), none⟩,
    ⟨.mv 3 (.t 11), none⟩] false) [1, 2, 3] 1)
  (.seq (.post (.region [
    ⟨.load 13 true 2 (.t 1), none⟩,
    ⟨.buildSl 14 1 [(.c (.bool true)), (.c (.bool true))], none⟩,
    ⟨.mv 15 (.t 2), none⟩,
    ⟨.mv 16 (.t 2), none⟩,
    ⟨.bin 17 .add (.t 16) (.c (.int .i64 1)), none⟩,
    ⟨.buildSl 18 1 [(.t 15), (.t 17)], none⟩,
    ⟨.call (some 19) true 9 [(.t 13), (.t 14), (.t 18)], none⟩,
    ⟨.mv 12 (.t 19), none⟩,
    ⟨.extract 20 (.t 12) 0, none⟩,
    ⟨.extract 21 (.t 12) 1, none⟩,
    ⟨.tk 4 20, none⟩,
    ⟨.mv 5 (.t 21), none⟩] false) [1, 2, 3, 4, 5] 1)
  (.seq (.post (.region [
    ⟨.mv 22 (.t 3), none⟩,
    ⟨.bin 23 .eql (.t 22) (.c (.int .i64 0)), none⟩,
    ⟨.mv 24 (.t 23), none⟩,
    ⟨.mv 25 (.t 5), some (24, true)⟩,
    ⟨.bin 26 .eql (.t 25) (.c (.int .i64 0)), some (24, true)⟩,
    ⟨.pick 27 (.t 24) (.t 26) (.c (.bool false)), none⟩,
    ⟨.mv 28 (.t 27), none⟩,
    ⟨.mv 29 (.t 2), some (28, true)⟩,
    ⟨.bin 30 .eql (.t 29) (.c (.int .i64 6)), some (28, true)⟩,
    ⟨.pick 31 (.t 28) (.t 30) (.c (.bool false)), none⟩,
    ⟨.mv 32 (.t 31), none⟩,
    ⟨.faddr 33 (.t 1) 1, some (32, true)⟩,
    ⟨.load 34 false 1 (.t 33), some (32, true)⟩,
    ⟨.len 35 0 (.t 34), some (32, true)⟩,
    ⟨.bin 36 .eql (.t 35) (.c (.int .i64 1)), some (32, true)⟩,
    ⟨.pick 37 (.t 32) (.t 36) (.c (.bool false)), none⟩,
    ⟨.mv 38 (.t 37), none⟩,
    ⟨.mv 39 (.t 4), some (38, true)⟩,
    ⟨.len 40 0 (.t 39), some (38, true)⟩,
    ⟨.bin 41 .eql (.t 40) (.c (.int .i64 2)), some (38, true)⟩,
    ⟨.pick 42 (.t 38) (.t 41) (.c (.bool false)), none⟩,
    ⟨.mv 43 (.t 42), none⟩,
    ⟨.mv 44 (.t 4), some (43, true)⟩,
    ⟨.iaddr 45 1 none (.t 44) (.c (.int .i64 0)), some (43, true)⟩,
    ⟨.load 46 false 1 (.t 45), some (43, true)⟩,
    ⟨.pick 47 (.t 43) (.t 46) (.c (.bool false)), none⟩,
    ⟨.mv 48 (.t 47), none⟩,
    ⟨.mv 49 (.t 4), some (48, true)⟩,
    ⟨.iaddr 50 1 none (.t 49) (.c (.int .i64 1)), some (48, true)⟩,
    ⟨.load 51 false 1 (.t 50), some (48, true)⟩,
    ⟨.un 52 .not (.t 51), some (48, true)⟩,
    ⟨.pick 53 (.t 48) (.t 52) (.c (.bool false)), none⟩,
    ⟨.mv 54 (.t 53), none⟩,
    ⟨.load 55 true 2 (.t 1), some (54, true)⟩,
    ⟨.call (some 56) true 6 [(.t 55)], some (54, true)⟩,
    ⟨.bin 57 .eql (.t 56) (.c (.int .i64 0)), some (54, true)⟩,
    ⟨.pick 58 (.t 54) (.t 57) (.c (.bool false)), none⟩,
    ⟨.mv 0 (.t 58), none⟩] false) [0] 0)
  .ret))))
def f_law_gatesBegun : IFunc := { np := 0, res := [.t 0], own := false, trunc := true, body := f_law_gatesBegun_0 }

/- 8: latchwork/latchworklaw.GatesEvals -/
/- at its head: [2, 7, 8, 9, 10, 11, 12] -/
def f_law_GatesEvals_b1 : ICode :=
  (.post (.seq (.seq (.post (.region [
    ⟨.mv 44 (.t 12), none⟩,
    ⟨.mv 45 (.t 2), none⟩,
    ⟨.len 46 0 (.t 45), none⟩,
    ⟨.bin 47 .lss (.t 44) (.t 46), none⟩] false) [2, 7, 8, 9, 10, 11, 12, 47] 0)
  (.cond (.t 47) .skip
  (.exit 0)))
  (.seq (.block 1 (.post (.region [
    ⟨.tk 50 10, none⟩,
    ⟨.mv 51 (.t 11), none⟩,
    ⟨.mv 52 (.t 2), none⟩,
    ⟨.mv 53 (.t 12), none⟩,
    ⟨.iaddr 54 1 none (.t 52) (.t 53), none⟩,
    ⟨.load 55 false 1 (.t 54), none⟩,
    ⟨.call (some 56) true 12 [(.t 51), (.t 55)], none⟩,
    ⟨.buildSl 57 1 [(.t 56)], none⟩,
    ⟨.append 58 1 1 (.t 50) (.t 57), none⟩,
    ⟨.tk 10 58, none⟩] false) [2, 7, 8, 9, 10, 11, 12] 0))
  (.post (.region [
    ⟨.mv 48 (.t 12), none⟩,
    ⟨.bin 49 .add (.t 48) (.c (.int .i64 1)), none⟩,
    ⟨.mv 12 (.t 49), none⟩] false) [2, 7, 8, 9, 10, 11, 12] 0))) [2, 7, 8, 9, 10, 11, 12] 0)
def f_law_GatesEvals_l1 : ICode :=
  (.post (.block 0 (.loop f_law_GatesEvals_b1)) [7, 8, 9, 10] 0)
def f_law_GatesEvals_k3 : ICode :=
  (.seq (.post (.region [
    ⟨.call (some 59) true 5 [], none⟩,
    ⟨.mv 60 (.t 59), none⟩,
    ⟨.mv 61 (.t 8), some (60, true)⟩,
    ⟨.mv 62 (.t 9), some (60, true)⟩,
    ⟨.bin 63 .eql (.t 61) (.t 62), some (60, true)⟩,
    ⟨.pick 64 (.t 60) (.t 63) (.c (.bool false)), none⟩,
    ⟨.mv 65 (.t 64), none⟩,
    ⟨.mv 66 (.t 7), some (65, true)⟩,
    ⟨.mv 67 (.t 10), some (65, true)⟩,
    ⟨.call (some 68) true 13 [(.t 66), (.t 67)], some (65, true)⟩,
    ⟨.pick 69 (.t 65) (.t 68) (.c (.bool false)), none⟩,
    ⟨.mv 6 (.t 69), none⟩] false) [6] 0)
  .ret)
def f_law_GatesEvals_k2 : ICode :=
  (.seq (.region [
    ⟨.mv 10 (.c (.sl true 1 [])), none⟩] false)
  (.seq (.seq (.post (.region [
    ⟨.mv 39 (.t 9), none⟩,
    ⟨.bin 40 .eql (.t 39) (.c (.int .i64 0)), none⟩] false) [1, 2, 3, 7, 8, 9, 10, 40] 1)
  (.cond (.t 40) (.post (.seq (.post (.region [
    ⟨.load 41 true 2 (.t 3), none⟩,
    ⟨.mv 42 (.t 1), none⟩,
    ⟨.call (some 43) true 11 [(.t 41), (.t 42)], none⟩,
    ⟨.tk 11 43, none⟩] false) [2, 7, 8, 9, 10, 11] 0)
  (.seq (.post (.region [
    ⟨.mv 12 (.c (.int .i64 0)), none⟩] false) [2, 7, 8, 9, 10, 11, 12] 0)
  (.cut f_law_GatesEvals_l1))) [7, 8, 9, 10] 0)
  (.post .skip [7, 8, 9, 10] 0)))
  (.cut f_law_GatesEvals_k3)))
def f_law_GatesEvals_k1 : ICode :=
  (.seq (.seq (.post (.region [
    ⟨.mv 30 (.t 9), none⟩,
    ⟨.bin 31 .eql (.t 30) (.c (.int .i64 0)), none⟩,
    ⟨.mv 32 (.t 31), none⟩,
    ⟨.mv 33 (.t 1), some (32, true)⟩,
    ⟨.len 34 0 (.t 33), some (32, true)⟩,
    ⟨.faddr 35 (.t 3) 0, some (32, true)⟩,
    ⟨.load 36 false 1 (.t 35), some (32, true)⟩,
    ⟨.bin 37 .neq (.t 34) (.t 36), some (32, true)⟩,
    ⟨.pick 38 (.t 32) (.t 37) (.c (.bool false)), none⟩] false) [1, 2, 3, 7, 8, 9, 38] 1)
  (.cond (.t 38) (.post (.post (.region [
    ⟨.mv 9 (.c (.int .i64 1)), none⟩] false) [1, 2, 3, 7, 8, 9] 1) [1, 2, 3, 7, 8, 9] 1)
  (.post .skip [1, 2, 3, 7, 8, 9] 1)))
  (.cut f_law_GatesEvals_k2))
def f_law_GatesEvals_0 : ICode :=
  (.seq (.post (.region [
    ⟨.box 3 false false (.t 0), none⟩,
    ⟨.mv 6 (.c (.bool false)), none⟩] false) [1, 2, 3] 1)
  (.seq (.post (.region [
    ⟨.load 14 true 2 (.t 3), none⟩,
    ⟨.mv 15 (.t 1), none⟩,
    ⟨.mv 16 (.t 2), none⟩,
    ⟨.call (some 17) true 9 [(.t 14), (.t 15), (.t 16)], none⟩,
    ⟨.mv 13 (.t 17), none⟩,
    ⟨.extract 18 (.t 13) 0, none⟩,
    ⟨.extract 19 (.t 13) 1, none⟩,
    ⟨.tk 7 18, none⟩,
    ⟨.mv 8 (.t 19), none⟩] false) [1, 2, 3, 7, 8] 1)
  (.seq (.post (.region [
    ⟨.load 20 true 2 (.t 3), none⟩,
    ⟨.call (some 21) true 2 [(.t 20)], none⟩,
    ⟨.mv 9 (.t 21), none⟩] false) [1, 2, 3, 7, 8, 9] 1)
  (.seq (.seq (.post (.region [
    ⟨.mv 22 (.t 9), none⟩,
    ⟨.bin 23 .eql (.t 22) (.c (.int .i64 0)), none⟩,
    ⟨.mv 24 (.t 23), none⟩,
    ⟨.load 25 true 2 (.t 3), some (24, true)⟩,
    ⟨.mv 26 (.t 2), some (24, true)⟩,
    ⟨.call (some 27) true 10 [(.t 25), (.t 26)], some (24, true)⟩,
    ⟨.un 28 .not (.t 27), some (24, true)⟩,
    ⟨.pick 29 (.t 24) (.t 28) (.c (.bool false)), none⟩] false) [1, 2, 3, 7, 8, 9, 29] 1)
  (.cond (.t 29) (.post (.post (.region [
    ⟨.mv 9 (.c (.int .i64 5)), none⟩] false) [1, 2, 3, 7, 8, 9] 1) [1, 2, 3, 7, 8, 9] 1)
  (.post .skip [1, 2, 3, 7, 8, 9] 1)))
  (.cut f_law_GatesEvals_k1)))))
def f_law_GatesEvals : IFunc := { np := 3, res := [.t 6], own := false, trunc := true, body := f_law_GatesEvals_0 }

/- 13: latchwork/latchworklaw.sameBools -/
/- at its head: [0, 1, 5] -/
def f_law_sameBools_b1 : ICode :=
  (.post (.seq (.seq (.post (.region [
    ⟨.mv 11 (.t 5), none⟩,
    ⟨.mv 12 (.t 0), none⟩,
    ⟨.len 13 0 (.t 12), none⟩,
    ⟨.bin 14 .lss (.t 11) (.t 13), none⟩] false) [0, 1, 5, 14] 0)
  (.cond (.t 14) .skip
  (.exit 0)))
  (.seq (.block 1 (.seq (.post (.region [
    ⟨.mv 17 (.t 0), none⟩,
    ⟨.mv 18 (.t 5), none⟩,
    ⟨.iaddr 19 1 none (.t 17) (.t 18), none⟩,
    ⟨.load 20 false 1 (.t 19), none⟩,
    ⟨.mv 21 (.t 1), none⟩,
    ⟨.mv 22 (.t 5), none⟩,
    ⟨.iaddr 23 1 none (.t 21) (.t 22), none⟩,
    ⟨.load 24 false 1 (.t 23), none⟩,
    ⟨.eqb 25 true (.t 20) (.t 24), none⟩] true) [0, 1, 5, 25] 0)
  (.cond (.t 25) (.seq (.post (.region [
    ⟨.mv 4 (.c (.bool false)), none⟩] false) [4] 0)
  .ret)
  .skip)))
  (.post (.region [
    ⟨.mv 15 (.t 5), none⟩,
    ⟨.bin 16 .add (.t 15) (.c (.int .i64 1)), none⟩,
    ⟨.mv 5 (.t 16), none⟩] false) [0, 1, 5] 0))) [0, 1, 5] 0)
def f_law_sameBools_l1 : ICode :=
  (.post (.block 0 (.loop f_law_sameBools_b1)) [] 0)
def f_law_sameBools_k1 : ICode :=
  (.seq (.region [
    ⟨.mv 4 (.c (.bool true)), none⟩] false)
  .ret)
def f_law_sameBools_0 : ICode :=
  (.seq (.post (.region [
    ⟨.mv 4 (.c (.bool false)), none⟩] false) [0, 1] 0)
  (.seq (.seq (.post (.region [
    ⟨.mv 6 (.t 0), none⟩,
    ⟨.len 7 0 (.t 6), none⟩,
    ⟨.mv 8 (.t 1), none⟩,
    ⟨.len 9 0 (.t 8), none⟩,
    ⟨.bin 10 .neq (.t 7) (.t 9), none⟩] false) [0, 1, 10] 0)
  (.cond (.t 10) (.seq (.post (.region [
    ⟨.mv 4 (.c (.bool false)), none⟩] false) [4] 0)
  .ret)
  .skip))
  (.seq (.seq (.post (.region [
    ⟨.mv 5 (.c (.int .i64 0)), none⟩] false) [0, 1, 5] 0)
  (.cut f_law_sameBools_l1))
  (.cut f_law_sameBools_k1))))
def f_law_sameBools : IFunc := { np := 2, res := [.t 4], own := false, trunc := true, body := f_law_sameBools_0 }

/- 14: latchwork/latchworklaw.GatesKeep -/
/- at its head: [1, 2, 3, 4, 9, 10, 12, 13] -/
def f_law_GatesKeep_b1 : ICode :=
  (.post (.seq (.seq (.post (.region [
    ⟨.mv 49 (.t 13), none⟩,
    ⟨.faddr 50 (.t 4) 0, none⟩,
    ⟨.load 51 false 1 (.t 50), none⟩,
    ⟨.bin 52 .add (.c (.int .i64 1)) (.t 51), none⟩,
    ⟨.faddr 53 (.t 4) 1, none⟩,
    ⟨.load 54 false 1 (.t 53), none⟩,
    ⟨.len 55 0 (.t 54), none⟩,
    ⟨.bin 56 .add (.t 52) (.t 55), none⟩,
    ⟨.bin 57 .mul (.c (.int .i64 2)) (.t 56), none⟩,
    ⟨.bin 58 .lss (.t 49) (.t 57), none⟩] false) [1, 2, 3, 4, 9, 10, 12, 13, 58] 2)
  (.cond (.t 58) .skip
  (.exit 0)))
  (.seq (.block 1 (.post (.region [
    ⟨.tk 61 12, none⟩,
    ⟨.mv 62 (.t 13), none⟩,
    ⟨.buildSl 63 1 [(.t 62)], none⟩,
    ⟨.append 64 1 8 (.t 61) (.t 63), none⟩,
    ⟨.tk 12 64, none⟩] false) [1, 2, 3, 4, 9, 10, 12, 13] 2))
  (.post (.region [
    ⟨.mv 59 (.t 13), none⟩,
    ⟨.bin 60 .add (.t 59) (.c (.int .i64 1)), none⟩,
    ⟨.mv 13 (.t 60), none⟩] false) [1, 2, 3, 4, 9, 10, 12, 13] 2))) [1, 2, 3, 4, 9, 10, 12, 13] 2)
def f_law_GatesKeep_l1 : ICode :=
  (.post (.block 0 (.loop f_law_GatesKeep_b1)) [1, 2, 3, 4, 9, 10, 12] 2)
def f_law_GatesKeep_k1 : ICode :=
  (.seq (.post (.region [
    ⟨.load 66 true 2 (.t 4), none⟩,
    ⟨.mv 67 (.t 3), none⟩,
    ⟨.mv 68 (.t 12), none⟩,
    ⟨.call (some 69) true 9 [(.t 66), (.t 67), (.t 68)], none⟩,
    ⟨.mv 65 (.t 69), none⟩,
    ⟨.extract 70 (.t 65) 0, none⟩,
    ⟨.extract 71 (.t 65) 1, none⟩,
    ⟨.tk 14 70, none⟩,
    ⟨.mv 11 (.t 71), none⟩] false) [1, 2, 3, 9, 10, 11, 12, 14] 2)
  (.seq (.seq (.post (.region [
    ⟨.mv 72 (.t 11), none⟩,
    ⟨.bin 73 .neq (.t 72) (.c (.int .i64 0)), none⟩] false) [1, 2, 3, 9, 10, 12, 14, 73] 2)
  (.cond (.t 73) (.seq (.post (.region [
    ⟨.mv 8 (.c (.bool true)), none⟩] false) [8] 0)
  .ret)
  .skip))
  (.seq (.post (.region [
    ⟨.load 75 true 2 (.t 9), none⟩,
    ⟨.mv 76 (.t 3), none⟩,
    ⟨.buildSl 77 1 [], none⟩,
    ⟨.mv 78 (.t 12), none⟩,
    ⟨.append 79 1 8 (.t 77) (.t 78), none⟩,
    ⟨.mv 80 (.t 10), none⟩,
    ⟨.buildSl 81 1 [(.t 80)], none⟩,
    ⟨.append 82 1 8 (.t 79) (.t 81), none⟩,
    ⟨.call (some 83) true 9 [(.t 75), (.t 76), (.t 82)], none⟩,
    ⟨.mv 74 (.t 83), none⟩,
    ⟨.extract 84 (.t 74) 0, none⟩,
    ⟨.extract 85 (.t 74) 1, none⟩,
    ⟨.tk 15 84, none⟩,
    ⟨.mv 11 (.t 85), none⟩] true) [1, 2, 11, 14, 15] 0)
  (.seq (.post (.region [
    ⟨.mv 86 (.t 11), none⟩,
    ⟨.bin 87 .eql (.t 86) (.c (.int .i64 0)), none⟩,
    ⟨.mv 88 (.t 87), none⟩,
    ⟨.mv 89 (.t 15), some (88, true)⟩,
    ⟨.len 90 0 (.t 89), some (88, true)⟩,
    ⟨.mv 91 (.t 14), some (88, true)⟩,
    ⟨.len 92 0 (.t 91), some (88, true)⟩,
    ⟨.bin 93 .add (.t 92) (.c (.int .i64 1)), some (88, true)⟩,
    ⟨.bin 94 .eql (.t 90) (.t 93), some (88, true)⟩,
    ⟨.pick 95 (.t 88) (.t 94) (.c (.bool false)), none⟩,
    ⟨.mv 96 (.t 95), none⟩,
    ⟨.mv 97 (.t 15), some (96, true)⟩,
    ⟨.mv 98 (.t 14), some (96, true)⟩,
    ⟨.len 99 0 (.t 98), some (96, true)⟩,
    ⟨.slice 100 1 (.t 97) none (some (.t 99)), some (96, true)⟩,
    ⟨.mv 101 (.t 14), some (96, true)⟩,
    ⟨.call (some 102) true 13 [(.t 100), (.t 101)], some (96, true)⟩,
    ⟨.pick 103 (.t 96) (.t 102) (.c (.bool false)), none⟩,
    ⟨.mv 104 (.t 103), none⟩,
    ⟨.mv 105 (.t 15), some (104, true)⟩,
    ⟨.mv 106 (.t 14), some (104, true)⟩,
    ⟨.len 107 0 (.t 106), some (104, true)⟩,
    ⟨.iaddr 108 1 none (.t 105) (.t 107), some (104, true)⟩,
    ⟨.load 109 false 1 (.t 108), some (104, true)⟩,
    ⟨.mv 110 (.t 14), some (104, true)⟩,
    ⟨.mv 111 (.t 1), some (104, true)⟩,
    ⟨.iaddr 112 1 none (.t 110) (.t 111), some (104, true)⟩,
    ⟨.load 113 false 1 (.t 112), some (104, true)⟩,
    ⟨.mv 114 (.t 113), some (104, true)⟩,
    ⟨.mv 115 (.t 14), some (114, true)⟩,
    ⟨.mv 116 (.t 2), some (114, true)⟩,
    ⟨.iaddr 117 1 none (.t 115) (.t 116), some (114, true)⟩,
    ⟨.load 118 false 1 (.t 117), some (114, true)⟩,
    ⟨.pick 119 (.t 114) (.t 118) (.c (.bool false)), some (104, true)⟩,
    ⟨.eqb 120 false (.t 109) (.t 119), some (104, true)⟩,
    ⟨.pick 121 (.t 104) (.t 120) (.c (.bool false)), none⟩,
    ⟨.mv 8 (.t 121), none⟩] true) [8] 0)
  .ret))))
def f_law_GatesKeep_0 : ICode :=
  (.seq (.post (.region [
    ⟨.box 4 false false (.t 0), none⟩,
    ⟨.mv 8 (.c (.bool false)), none⟩] false) [1, 2, 3, 4] 1)
  (.seq (.seq (.post (.region [
    ⟨.call (some 16) true 5 [], none⟩,
    ⟨.un 17 .not (.t 16), none⟩] false) [1, 2, 3, 4, 17] 1)
  (.cond (.t 17) (.seq (.post (.region [
    ⟨.mv 8 (.c (.bool false)), none⟩] false) [8] 0)
  .ret)
  .skip))
  (.seq (.post (.region [
    ⟨.load 19 true 2 (.t 4), none⟩,
    ⟨.mv 20 (.t 1), none⟩,
    ⟨.mv 21 (.t 2), none⟩,
    ⟨.call (some 22) true 1 [(.t 19), (.t 20), (.t 21)], none⟩,
    ⟨.mv 18 (.t 22), none⟩,
    ⟨.extract 23 (.t 18) 0, none⟩,
    ⟨.extract 24 (.t 18) 1, none⟩,
    ⟨.extract 25 (.t 18) 2, none⟩,
    ⟨.alloc 9 false (.agg [.int .i64 0, .sl true 2 []]), none⟩,
    ⟨.store true 2 (.t 9) (.t 23), none⟩,
    ⟨.mv 10 (.t 24), none⟩,
    ⟨.mv 11 (.t 25), none⟩] false) [1, 2, 3, 4, 9, 10, 11] 2)
  (.seq (.seq (.post (.region [
    ⟨.mv 26 (.t 11), none⟩,
    ⟨.bin 27 .neq (.t 26) (.c (.int .i64 0)), none⟩] false) [1, 2, 3, 4, 9, 10, 27] 2)
  (.cond (.t 27) (.seq (.post (.region [
    ⟨.mv 28 (.t 10), none⟩,
    ⟨.bin 29 .eql (.t 28) (.c (.int .i64 0)), none⟩,
    ⟨.mv 8 (.t 29), none⟩] false) [8] 0)
  .ret)
  .skip))
  (.seq (.seq (.post (.region [
    ⟨.load 30 true 2 (.t 9), none⟩,
    ⟨.call (some 31) true 6 [(.t 30)], none⟩,
    ⟨.bin 32 .neq (.t 31) (.c (.int .i64 0)), none⟩,
    ⟨.mv 33 (.t 32), none⟩,
    ⟨.faddr 34 (.t 9) 0, some (33, false)⟩,
    ⟨.load 35 false 1 (.t 34), some (33, false)⟩,
    ⟨.faddr 36 (.t 4) 0, some (33, false)⟩,
    ⟨.load 37 false 1 (.t 36), some (33, false)⟩,
    ⟨.bin 38 .neq (.t 35) (.t 37), some (33, false)⟩,
    ⟨.pick 39 (.t 33) (.c (.bool true)) (.t 38), none⟩,
    ⟨.mv 40 (.t 39), none⟩,
    ⟨.faddr 41 (.t 9) 1, some (40, false)⟩,
    ⟨.load 42 false 1 (.t 41), some (40, false)⟩,
    ⟨.len 43 0 (.t 42), some (40, false)⟩,
    ⟨.faddr 44 (.t 4) 1, some (40, false)⟩,
    ⟨.load 45 false 1 (.t 44), some (40, false)⟩,
    ⟨.len 46 0 (.t 45), some (40, false)⟩,
    ⟨.bin 47 .lss (.t 43) (.t 46), some (40, false)⟩,
    ⟨.pick 48 (.t 40) (.c (.bool true)) (.t 47), none⟩] false) [1, 2, 3, 4, 9, 10, 48] 2)
  (.cond (.t 48) (.seq (.post (.region [
    ⟨.mv 8 (.c (.bool false)), none⟩] false) [8] 0)
  .ret)
  .skip))
  (.seq (.post (.region [
    ⟨.mv 12 (.c (.sl true 1 [])), none⟩] false) [1, 2, 3, 4, 9, 10, 12] 2)
  (.seq (.seq (.post (.region [
    ⟨.mv 13 (.c (.int .i64 0)), none⟩] false) [1, 2, 3, 4, 9, 10, 12, 13] 2)
  (.cut f_law_GatesKeep_l1))
  (.cut f_law_GatesKeep_k1))))))))
def f_law_GatesKeep : IFunc := { np := 4, res := [.t 8], own := false, trunc := true, body := f_law_GatesKeep_0 }

/- 15: latchwork/latchworklaw.CnfOfs -/
def f_law_CnfOfs_k2 : ICode :=
  (.seq (.post (.region [
    ⟨.call (some 34) true 18 [], none⟩,
    ⟨.mv 35 (.t 34), none⟩,
    ⟨.load 36 true 2 (.t 5), some (35, true)⟩,
    ⟨.mv 37 (.t 6), some (35, true)⟩,
    ⟨.mv 38 (.t 7), some (35, true)⟩,
    ⟨.load 39 true 2 (.t 8), some (35, true)⟩,
    ⟨.call (some 40) true 19 [(.t 36), (.t 37), (.t 38), (.t 39)], some (35, true)⟩,
    ⟨.pick 41 (.t 35) (.t 40) (.c (.bool false)), none⟩,
    ⟨.mv 4 (.t 41), none⟩] false) [4] 0)
  .ret)
def f_law_CnfOfs_k1 : ICode :=
  (.seq (.seq (.post (.region [
    ⟨.mv 26 (.t 7), none⟩,
    ⟨.bin 27 .eql (.t 26) (.c (.int .i64 0)), none⟩] false) [1, 2, 5, 6, 7, 8, 27] 3)
  (.cond (.t 27) (.post (.post (.region [
    ⟨.load 29 true 2 (.t 2), none⟩,
    ⟨.mv 30 (.t 1), none⟩,
    ⟨.call (some 31) true 17 [(.t 29), (.t 30)], none⟩,
    ⟨.mv 28 (.t 31), none⟩,
    ⟨.extract 32 (.t 28) 0, none⟩,
    ⟨.extract 33 (.t 28) 1, none⟩,
    ⟨.store true 2 (.t 8) (.t 32), none⟩,
    ⟨.mv 7 (.t 33), none⟩] false) [5, 6, 7, 8] 3) [5, 6, 7, 8] 3)
  (.post .skip [5, 6, 7, 8] 3)))
  (.cut f_law_CnfOfs_k2))
def f_law_CnfOfs_0 : ICode :=
  (.seq (.post (.region [
    ⟨.box 2 false false (.t 0), none⟩,
    ⟨.mv 4 (.c (.bool false)), none⟩] false) [1, 2] 1)
  (.seq (.post (.region [
    ⟨.load 10 true 2 (.t 2), none⟩,
    ⟨.mv 11 (.t 1), none⟩,
    ⟨.call (some 12) true 16 [(.t 10), (.t 11)], none⟩,
    ⟨.mv 9 (.t 12), none⟩,
    ⟨.extract 13 (.t 9) 0, none⟩,
    ⟨.extract 14 (.t 9) 1, none⟩,
    ⟨.alloc 5 false (.agg [.int .i64 0, .sl true 1 []]), none⟩,
    ⟨.store true 2 (.t 5) (.t 13), none⟩,
    ⟨.mv 6 (.t 14), none⟩] false) [1, 2, 5, 6] 2)
  (.seq (.post (.region [
    ⟨.load 15 true 2 (.t 2), none⟩,
    ⟨.call (some 16) true 2 [(.t 15)], none⟩,
    ⟨.build 17 [.int .i64 0, .sl true 1 []] [], none⟩,
    ⟨.alloc 8 false (.agg [.int .i64 0, .sl true 1 []]), none⟩,
    ⟨.mv 7 (.t 16), none⟩,
    ⟨.store true 2 (.t 8) (.t 17), none⟩] false) [1, 2, 5, 6, 7, 8] 3)
  (.seq (.seq (.post (.region [
    ⟨.mv 18 (.t 7), none⟩,
    ⟨.bin 19 .eql (.t 18) (.c (.int .i64 0)), none⟩,
    ⟨.mv 20 (.t 19), none⟩,
    ⟨.load 21 true 2 (.t 2), some (20, true)⟩,
    ⟨.mv 22 (.t 1), some (20, true)⟩,
    ⟨.call (some 23) true 10 [(.t 21), (.t 22)], some (20, true)⟩,
    ⟨.un 24 .not (.t 23), some (20, true)⟩,
    ⟨.pick 25 (.t 20) (.t 24) (.c (.bool false)), none⟩] false) [1, 2, 5, 6, 7, 8, 25] 3)
  (.cond (.t 25) (.post (.post (.region [
    ⟨.mv 7 (.c (.int .i64 5)), none⟩] false) [1, 2, 5, 6, 7, 8] 3) [1, 2, 5, 6, 7, 8] 3)
  (.post .skip [1, 2, 5, 6, 7, 8] 3)))
  (.cut f_law_CnfOfs_k1)))))
def f_law_CnfOfs : IFunc := { np := 2, res := [.t 4], own := false, trunc := true, body := f_law_CnfOfs_0 }

/- 18: latchwork/latchworklaw.cnfBegun -/
def f_law_cnfBegun_0 : ICode :=
  (.seq (.post (.region [
    ⟨.mv 0 (.c (.bool false)), none⟩] false) [] 0)
  (.seq (.post (.region [
    ⟨.build 6 [.int .i64 0, .int .i64 0] [(0, 1, (.c (.int .i64 2))), (1, 1, (.c (.int .i64 4)))], none⟩,
    ⟨.buildSl 7 2 [(.t 6)], none⟩,
    ⟨.buildT 8 [.int .i64 0, .sl true 2 []] [(0, 1, (.c (.int .i64 2))), (1, 1, (.t 7))], none⟩,
    ⟨.buildSl 9 1 [(.c (.int .i64 6))], none⟩,
    ⟨.call (some 10) true 16 [(.t 8), (.t 9)], none⟩,
    ⟨.mv 5 (.t 10), none⟩,
    ⟨.extract 11 (.t 5) 0, none⟩,
    ⟨.extract 12 (.t 5) 1, none⟩,
    ⟨.alloc 1 false (.agg [.int .i64 0, .sl true 1 []]), none⟩,
    ⟨.store true 2 (.t 1) (.t 11), none⟩,
    ⟨.mv 2 (.t 12), none⟩] false) [1, 2] 1)
  (.seq (.post (.region [
    ⟨.load 14 true 2 (.t 1), none⟩,
    ⟨.buildSl 15 1 [(.c (.bool true)), (.c (.bool true)), (.c (.bool true))], none⟩,
    ⟨.call (some 16) true 32 [(.t 14), (.t 15)], none⟩,
    ⟨.mv 13 (.t 16), none⟩,
    ⟨.extract 17 (.t 13) 0, none⟩,
    ⟨.extract 18 (.t 13) 1, none⟩,
    ⟨.mv 3 (.t 17), none⟩,
    ⟨.mv 4 (.t 18), none⟩] false) [1, 2, 3, 4] 1)
  (.seq (.post (.region [
    ⟨.mv 19 (.t 2), none⟩,
    ⟨.bin 20 .eql (.t 19) (.c (.int .i64 0)), none⟩,
    ⟨.mv 21 (.t 20), none⟩,
    ⟨.mv 22 (.t 4), some (21, true)⟩,
    ⟨.bin 23 .eql (.t 22) (.c (.int .i64 0)), some (21, true)⟩,
    ⟨.pick 24 (.t 21) (.t 23) (.c (.bool false)), none⟩,
    ⟨.mv 25 (.t 24), none⟩,
    ⟨.mv 26 (.t 3), some (25, true)⟩,
    ⟨.pick 27 (.t 25) (.t 26) (.c (.bool false)), none⟩,
    ⟨.mv 28 (.t 27), none⟩,
    ⟨.faddr 29 (.t 1) 0, some (28, true)⟩,
    ⟨.load 30 false 1 (.t 29), some (28, true)⟩,
    ⟨.bin 31 .eql (.t 30) (.c (.int .i64 3)), some (28, true)⟩,
    ⟨.pick 32 (.t 28) (.t 31) (.c (.bool false)), none⟩,
    ⟨.mv 33 (.t 32), none⟩,
    ⟨.faddr 34 (.t 1) 1, some (33, true)⟩,
    ⟨.load 35 false 1 (.t 34), some (33, true)⟩,
    ⟨.len 36 0 (.t 35), some (33, true)⟩,
    ⟨.bin 37 .eql (.t 36) (.c (.int .i64 4)), some (33, true)⟩,
    ⟨.pick 38 (.t 33) (.t 37) (.c (.bool false)), none⟩,
    ⟨.mv 39 (.t 38), none⟩,
    ⟨.load 40 true 2 (.t 1), some (39, true)⟩,
    ⟨.call (some 41) true 59 [(.t 40)], some (39, true)⟩,
    ⟨.bin 42 .eql (.t 41) (.c (.int .i64 0)), some (39, true)⟩,
    ⟨.pick 43 (.t 39) (.t 42) (.c (.bool false)), none⟩,
    ⟨.mv 0 (.t 43), none⟩] false) [0] 0)
  .ret))))
def f_law_cnfBegun : IFunc := { np := 0, res := [.t 0], own := false, trunc := true, body := f_law_cnfBegun_0 }

/- 19: latchwork/latchworklaw.clausesAre -/
def f_law_clausesAre_k1 : ICode :=
  (.seq (.post (.region [
    ⟨.mv 12 (.t 1), none⟩,
    ⟨.mv 13 (.t 2), none⟩,
    ⟨.bin 14 .eql (.t 12) (.t 13), none⟩,
    ⟨.mv 15 (.t 14), none⟩,
    ⟨.load 16 true 2 (.t 4), some (15, true)⟩,
    ⟨.load 17 true 2 (.t 7), some (15, true)⟩,
    ⟨.call (some 18) true 60 [(.t 16), (.t 17)], some (15, true)⟩,
    ⟨.pick 19 (.t 15) (.t 18) (.c (.bool false)), none⟩,
    ⟨.mv 8 (.t 19), none⟩] false) [8] 0)
  .ret)
def f_law_clausesAre_0 : ICode :=
  (.seq (.post (.region [
    ⟨.box 4 false false (.t 0), none⟩,
    ⟨.box 7 false false (.t 3), none⟩,
    ⟨.mv 8 (.c (.bool false)), none⟩] false) [1, 2, 4, 7] 2)
  (.seq (.seq (.post (.region [
    ⟨.mv 9 (.t 2), none⟩,
    ⟨.bin 10 .neq (.t 9) (.c (.int .i64 0)), none⟩] false) [1, 2, 4, 7, 10] 2)
  (.cond (.t 10) (.post (.post (.region [
    ⟨.build 11 [.int .i64 0, .sl true 1 []] [], none⟩,
    ⟨.store true 2 (.t 7) (.t 11), none⟩] false) [1, 2, 4, 7] 2) [1, 2, 4, 7] 2)
  (.post .skip [1, 2, 4, 7] 2)))
  (.cut f_law_clausesAre_k1)))
def f_law_clausesAre : IFunc := { np := 4, res := [.t 8], own := false, trunc := true, body := f_law_clausesAre_0 }

/- 20: latchwork/latchworklaw.WordFits -/
def f_law_WordFits_0 : ICode :=
  (.seq (.post (.region [
    ⟨.box 7 false false (.t 3), none⟩,
    ⟨.mv 8 (.c (.bool false)), none⟩] false) [0, 1, 2, 7] 1)
  (.seq (.post (.region [
    ⟨.call (some 9) true 21 [], none⟩,
    ⟨.mv 10 (.t 9), none⟩,
    ⟨.mv 11 (.t 0), some (10, true)⟩,
    ⟨.mv 12 (.t 1), some (10, true)⟩,
    ⟨.mv 13 (.t 2), some (10, true)⟩,
    ⟨.load 14 true 3 (.t 7), some (10, true)⟩,
    ⟨.call (some 15) true 22 [(.t 11), (.t 12), (.t 13), (.t 14)], some (10, true)⟩,
    ⟨.mv 16 (.t 0), some (10, true)⟩,
    ⟨.mv 17 (.t 1), some (10, true)⟩,
    ⟨.mv 18 (.t 2), some (10, true)⟩,
    ⟨.load 19 true 3 (.t 7), some (10, true)⟩,
    ⟨.call (some 20) true 23 [(.t 16), (.t 17), (.t 18), (.t 19)], some (10, true)⟩,
    ⟨.bin 21 .eql (.t 15) (.t 20), some (10, true)⟩,
    ⟨.pick 22 (.t 10) (.t 21) (.c (.bool false)), none⟩,
    ⟨.mv 8 (.t 22), none⟩] true) [8] 0)
  .ret))
def f_law_WordFits : IFunc := { np := 4, res := [.t 8], own := false, trunc := true, body := f_law_WordFits_0 }

/- 21: latchwork/latchworklaw.wordBegun -/
def f_law_wordBegun_0 : ICode :=
  (.seq (.post (.region [
    ⟨.mv 0 (.c (.bool false)), none⟩] false) [] 0)
  (.seq (.post (.region [
    ⟨.build 4 [.int .i64 0, .int .i64 0, .int .i64 0] [(0, 1, (.c (.int .i64 4))), (1, 1, (.c (.int .i64 4))), (2, 1, (.c (.int .i64 0)))], none⟩,
    ⟨.call (some 5) true 25 [(.c (.int .i64 9)), (.c (.int .i64 4)), (.c (.int .i64 9)), (.c (.int .i64 9)), (.c (.int .i64 0)), (.c (.int .i64 0)), (.t 4)], none⟩,
    ⟨.mv 3 (.t 5), none⟩,
    ⟨.extract 6 (.t 3) 0, none⟩,
    ⟨.extract 7 (.t 3) 1, none⟩,
    ⟨.mv 1 (.t 6), none⟩,
    ⟨.mv 2 (.t 7), none⟩] false) [1, 2] 0)
  (.seq (.post (.region [
    ⟨.mv 8 (.t 2), none⟩,
    ⟨.bin 9 .eql (.t 8) (.c (.int .i64 0)), none⟩,
    ⟨.mv 10 (.t 9), none⟩,
    ⟨.mv 11 (.t 1), some (10, true)⟩,
    ⟨.bin 12 .eql (.t 11) (.c (.int .i64 2)), some (10, true)⟩,
    ⟨.pick 13 (.t 10) (.t 12) (.c (.bool false)), none⟩,
    ⟨.mv 14 (.t 13), none⟩,
    ⟨.build 15 [.int .i64 0, .int .i64 0, .int .i64 0] [(0, 1, (.c (.int .i64 4))), (1, 1, (.c (.int .i64 4))), (2, 1, (.c (.int .i64 0)))], some (14, true)⟩,
    ⟨.call (some 16) true 22 [(.c (.int .i64 9)), (.c (.int .i64 4)), (.c (.int .i64 0)), (.t 15)], some (14, true)⟩,
    ⟨.bin 17 .eql (.t 16) (.c (.int .i64 0)), some (14, true)⟩,
    ⟨.pick 18 (.t 14) (.t 17) (.c (.bool false)), none⟩,
    ⟨.mv 0 (.t 18), none⟩] false) [0] 0)
  .ret)))
def f_law_wordBegun : IFunc := { np := 0, res := [.t 0], own := false, trunc := true, body := f_law_wordBegun_0 }

/- 24: latchwork/latchworklaw.WordApplies -/
def f_law_WordApplies_k1 : ICode :=
  (.post (.region [
    ⟨.mv 49 (.t 16), none⟩,
    ⟨.bin 50 .add (.t 49) (.c (.int .i64 1)), none⟩,
    ⟨.mv 16 (.t 50), none⟩] false) [0, 1, 3, 7, 9, 11, 12, 13, 14, 15, 16] 2)
/- at its head: [0, 1, 3, 7, 9, 11, 12, 13, 14, 15, 16] -/
def f_law_WordApplies_b1 : ICode :=
  (.post (.seq (.seq (.post (.region [
    ⟨.mv 43 (.t 16), none⟩,
    ⟨.bin 44 .lss (.t 43) (.c (.int .i64 3)), none⟩,
    ⟨.mv 45 (.t 44), none⟩,
    ⟨.mv 46 (.t 13), some (45, true)⟩,
    ⟨.bin 47 .eql (.t 46) (.c (.int .i64 0)), some (45, true)⟩,
    ⟨.pick 48 (.t 45) (.t 47) (.c (.bool false)), none⟩] false) [0, 1, 3, 7, 9, 11, 12, 13, 14, 15, 16, 48] 2)
  (.cond (.t 48) .skip
  (.exit 0)))
  (.seq (.block 1 (.seq (.post (.region [
    ⟨.mv 51 (.t 16), none⟩,
    ⟨.mv 52 (.t 0), none⟩,
    ⟨.call (some 53) true 26 [(.t 52)], none⟩,
    ⟨.bin 54 .lss (.t 51) (.t 53), none⟩,
    ⟨.mv 55 (.t 54), none⟩,
    ⟨.mv 56 (.t 15), some (55, true)⟩,
    ⟨.mv 57 (.t 16), some (55, true)⟩,
    ⟨.iaddr 58 1 none (.t 56) (.t 57), some (55, true)⟩,
    ⟨.load 59 false 1 (.t 58), some (55, true)⟩,
    ⟨.bin 60 .lss (.t 59) (.c (.int .i64 0)), some (55, true)⟩,
    ⟨.mv 61 (.t 60), some (55, true)⟩,
    ⟨.mv 62 (.t 15), some (61, false)⟩,
    ⟨.mv 63 (.t 16), some (61, false)⟩,
    ⟨.iaddr 64 1 none (.t 62) (.t 63), some (61, false)⟩,
    ⟨.load 65 false 1 (.t 64), some (61, false)⟩,
    ⟨.mv 66 (.t 16), some (61, false)⟩,
    ⟨.iaddr 67 1 (some 3) (.t 9) (.t 66), some (61, false)⟩,
    ⟨.load 68 false 1 (.t 67), some (61, false)⟩,
    ⟨.call (some 69) true 27 [(.t 68)], some (61, false)⟩,
    ⟨.bin 70 .geq (.t 65) (.t 69), some (61, false)⟩,
    ⟨.pick 71 (.t 61) (.c (.bool true)) (.t 70), some (55, true)⟩,
    ⟨.pick 72 (.t 55) (.t 71) (.c (.bool false)), none⟩,
    ⟨.mv 73 (.t 72), none⟩,
    ⟨.mv 74 (.t 16), some (73, false)⟩,
    ⟨.mv 75 (.t 0), some (73, false)⟩,
    ⟨.call (some 76) true 26 [(.t 75)], some (73, false)⟩,
    ⟨.bin 77 .geq (.t 74) (.t 76), some (73, false)⟩,
    ⟨.mv 78 (.t 77), some (73, false)⟩,
    ⟨.mv 79 (.t 15), some (78, true)⟩,
    ⟨.mv 80 (.t 16), some (78, true)⟩,
    ⟨.iaddr 81 1 none (.t 79) (.t 80), some (78, true)⟩,
    ⟨.load 82 false 1 (.t 81), some (78, true)⟩,
    ⟨.bin 83 .neq (.t 82) (.c (.int .i64 0)), some (78, true)⟩,
    ⟨.pick 84 (.t 78) (.t 83) (.c (.bool false)), some (73, false)⟩,
    ⟨.pick 85 (.t 73) (.c (.bool true)) (.t 84), none⟩] true) [0, 1, 3, 7, 9, 11, 12, 13, 14, 15, 16, 85] 2)
  (.cond (.t 85) (.post (.post (.region [
    ⟨.mv 13 (.c (.int .i64 3)), none⟩] false) [0, 1, 3, 7, 9, 11, 12, 13, 14, 15, 16] 2) [0, 1, 3, 7, 9, 11, 12, 13, 14, 15, 16] 2)
  (.post .skip [0, 1, 3, 7, 9, 11, 12, 13, 14, 15, 16] 2))))
  (.cut f_law_WordApplies_k1))) [0, 1, 3, 7, 9, 11, 12, 13, 14, 15, 16] 2)
def f_law_WordApplies_l1 : ICode :=
  (.post (.block 0 (.loop f_law_WordApplies_b1)) [0, 1, 3, 7, 9, 11, 12, 13, 14] 2)
def f_law_WordApplies_k3 : ICode :=
  (.seq (.post (.region [
    ⟨.call (some 99) true 21 [], none⟩,
    ⟨.mv 100 (.t 99), none⟩,
    ⟨.mv 101 (.t 12), some (100, true)⟩,
    ⟨.mv 102 (.t 13), some (100, true)⟩,
    ⟨.bin 103 .eql (.t 101) (.t 102), some (100, true)⟩,
    ⟨.pick 104 (.t 100) (.t 103) (.c (.bool false)), none⟩,
    ⟨.mv 105 (.t 104), none⟩,
    ⟨.mv 106 (.t 11), some (105, true)⟩,
    ⟨.mv 107 (.t 14), some (105, true)⟩,
    ⟨.bin 108 .eql (.t 106) (.t 107), some (105, true)⟩,
    ⟨.pick 109 (.t 105) (.t 108) (.c (.bool false)), none⟩,
    ⟨.mv 10 (.t 109), none⟩] false) [10] 0)
  .ret)
def f_law_WordApplies_k2 : ICode :=
  (.seq (.seq (.post (.region [
    ⟨.mv 86 (.t 13), none⟩,
    ⟨.bin 87 .eql (.t 86) (.c (.int .i64 0)), none⟩] false) [0, 1, 3, 7, 9, 11, 12, 13, 14, 87] 2)
  (.cond (.t 87) (.post (.post (.region [
    ⟨.mv 88 (.t 0), none⟩,
    ⟨.mv 89 (.t 1), none⟩,
    ⟨.faddr 90 (.t 7) 0, none⟩,
    ⟨.load 91 false 1 (.t 90), none⟩,
    ⟨.faddr 92 (.t 7) 1, none⟩,
    ⟨.load 93 false 1 (.t 92), none⟩,
    ⟨.faddr 94 (.t 7) 2, none⟩,
    ⟨.load 95 false 1 (.t 94), none⟩,
    ⟨.mv 96 (.t 3), none⟩,
    ⟨.load 97 true 3 (.t 9), none⟩,
    ⟨.call (some 98) true 28 [(.t 88), (.t 89), (.t 91), (.t 93), (.t 95), (.t 96), (.t 97)], none⟩,
    ⟨.mv 14 (.t 98), none⟩] false) [11, 12, 13, 14] 0) [11, 12, 13, 14] 0)
  (.post .skip [11, 12, 13, 14] 0)))
  (.cut f_law_WordApplies_k3))
def f_law_WordApplies_0 : ICode :=
  (.seq (.post (.region [
    ⟨.box 7 false false (.t 2), none⟩,
    ⟨.box 9 false false (.t 4), none⟩,
    ⟨.mv 10 (.c (.bool false)), none⟩] false) [0, 1, 3, 7, 9] 2)
  (.seq (.post (.region [
    ⟨.mv 18 (.t 0), none⟩,
    ⟨.mv 19 (.t 1), none⟩,
    ⟨.faddr 20 (.t 7) 0, none⟩,
    ⟨.load 21 false 1 (.t 20), none⟩,
    ⟨.faddr 22 (.t 7) 1, none⟩,
    ⟨.load 23 false 1 (.t 22), none⟩,
    ⟨.faddr 24 (.t 7) 2, none⟩,
    ⟨.load 25 false 1 (.t 24), none⟩,
    ⟨.mv 26 (.t 3), none⟩,
    ⟨.load 27 true 3 (.t 9), none⟩,
    ⟨.call (some 28) true 25 [(.t 18), (.t 19), (.t 21), (.t 23), (.t 25), (.t 26), (.t 27)], none⟩,
    ⟨.mv 17 (.t 28), none⟩,
    ⟨.extract 29 (.t 17) 0, none⟩,
    ⟨.extract 30 (.t 17) 1, none⟩,
    ⟨.mv 11 (.t 29), none⟩,
    ⟨.mv 12 (.t 30), none⟩] false) [0, 1, 3, 7, 9, 11, 12] 2)
  (.seq (.post (.region [
    ⟨.mv 31 (.t 0), none⟩,
    ⟨.mv 32 (.t 1), none⟩,
    ⟨.mv 33 (.t 3), none⟩,
    ⟨.load 34 true 3 (.t 9), none⟩,
    ⟨.call (some 35) true 23 [(.t 31), (.t 32), (.t 33), (.t 34)], none⟩,
    ⟨.mv 13 (.t 35), none⟩,
    ⟨.mv 14 (.c (.int .i64 0)), none⟩] false) [0, 1, 3, 7, 9, 11, 12, 13, 14] 2)
  (.seq (.post (.region [
    ⟨.faddr 36 (.t 7) 0, none⟩,
    ⟨.load 37 false 1 (.t 36), none⟩,
    ⟨.faddr 38 (.t 7) 1, none⟩,
    ⟨.load 39 false 1 (.t 38), none⟩,
    ⟨.faddr 40 (.t 7) 2, none⟩,
    ⟨.load 41 false 1 (.t 40), none⟩,
    ⟨.buildSl 42 1 [(.t 37), (.t 39), (.t 41)], none⟩,
    ⟨.tk 15 42, none⟩] false) [0, 1, 3, 7, 9, 11, 12, 13, 14, 15] 2)
  (.seq (.seq (.post (.region [
    ⟨.mv 16 (.c (.int .i64 0)), none⟩] false) [0, 1, 3, 7, 9, 11, 12, 13, 14, 15, 16] 2)
  (.cut f_law_WordApplies_l1))
  (.cut f_law_WordApplies_k2))))))
def f_law_WordApplies : IFunc := { np := 5, res := [.t 10], own := false, trunc := true, body := f_law_WordApplies_0 }

/- 29: latchwork/latchworklaw.WordTurns -/
def f_law_WordTurns_0 : ICode :=
  (.seq (.post (.region [
    ⟨.mv 6 (.c (.bool false)), none⟩] false) [0, 1, 2] 0)
  (.seq (.seq (.post (.region [
    ⟨.call (some 19) true 21 [], none⟩,
    ⟨.un 20 .not (.t 19), none⟩] false) [0, 1, 2, 20] 0)
  (.cond (.t 20) (.seq (.post (.region [
    ⟨.mv 6 (.c (.bool false)), none⟩] false) [6] 0)
  .ret)
  .skip))
  (.seq (.post (.region [
    ⟨.mv 21 (.t 0), none⟩,
    ⟨.call (some 22) true 30 [(.t 21), (.c (.int .i64 8))], none⟩,
    ⟨.bin 23 .add (.c (.int .i64 1)) (.t 22), none⟩,
    ⟨.mv 0 (.t 23), none⟩] false) [0, 1, 2] 0)
  (.seq (.post (.region [
    ⟨.mv 24 (.t 1), none⟩,
    ⟨.mv 25 (.t 0), none⟩,
    ⟨.call (some 26) true 27 [(.t 25)], none⟩,
    ⟨.call (some 27) true 30 [(.t 24), (.t 26)], none⟩,
    ⟨.mv 28 (.t 2), none⟩,
    ⟨.mv 29 (.t 0), none⟩,
    ⟨.call (some 30) true 27 [(.t 29)], none⟩,
    ⟨.call (some 31) true 30 [(.t 28), (.t 30)], none⟩,
    ⟨.mv 1 (.t 27), none⟩,
    ⟨.mv 2 (.t 31), none⟩] false) [0, 1, 2] 0)
  (.seq (.post (.region [
    ⟨.mv 32 (.t 0), none⟩,
    ⟨.mv 33 (.t 0), none⟩,
    ⟨.build 34 [.int .i64 0, .int .i64 0, .int .i64 0] [(0, 1, (.t 32)), (1, 1, (.t 33)), (2, 1, (.c (.int .i64 0)))], none⟩,
    ⟨.alloc 7 false (.agg [.int .i64 0, .int .i64 0, .int .i64 0]), none⟩,
    ⟨.store false 3 (.t 7) (.t 34), none⟩] false) [0, 1, 2, 7] 1)
  (.seq (.post (.region [
    ⟨.mv 36 (.t 0), none⟩,
    ⟨.mv 37 (.t 1), none⟩,
    ⟨.mv 38 (.t 2), none⟩,
    ⟨.load 39 true 3 (.t 7), none⟩,
    ⟨.call (some 40) true 25 [(.c (.int .i64 9)), (.t 36), (.t 37), (.t 38), (.c (.int .i64 0)), (.c (.int .i64 0)), (.t 39)], none⟩,
    ⟨.mv 35 (.t 40), none⟩,
    ⟨.extract 41 (.t 35) 0, none⟩,
    ⟨.extract 42 (.t 35) 1, none⟩,
    ⟨.mv 8 (.t 41), none⟩,
    ⟨.mv 9 (.t 42), none⟩] false) [0, 1, 2, 7, 8, 9] 1)
  (.seq (.post (.region [
    ⟨.mv 44 (.t 0), none⟩,
    ⟨.mv 45 (.t 8), none⟩,
    ⟨.mv 46 (.t 2), none⟩,
    ⟨.load 47 true 3 (.t 7), none⟩,
    ⟨.call (some 48) true 25 [(.c (.int .i64 10)), (.t 44), (.t 45), (.t 46), (.c (.int .i64 0)), (.c (.int .i64 0)), (.t 47)], none⟩,
    ⟨.mv 43 (.t 48), none⟩,
    ⟨.extract 49 (.t 43) 0, none⟩,
    ⟨.extract 50 (.t 43) 1, none⟩,
    ⟨.mv 10 (.t 49), none⟩,
    ⟨.mv 11 (.t 50), none⟩] false) [0, 1, 2, 7, 9, 10, 11] 1)
  (.seq (.post (.region [
    ⟨.mv 52 (.t 0), none⟩,
    ⟨.mv 53 (.t 1), none⟩,
    ⟨.mv 54 (.t 2), none⟩,
    ⟨.load 55 true 3 (.t 7), none⟩,
    ⟨.call (some 56) true 25 [(.c (.int .i64 12)), (.t 52), (.t 53), (.t 54), (.c (.int .i64 0)), (.c (.int .i64 0)), (.t 55)], none⟩,
    ⟨.mv 51 (.t 56), none⟩,
    ⟨.extract 57 (.t 51) 0, none⟩,
    ⟨.extract 58 (.t 51) 1, none⟩,
    ⟨.mv 12 (.t 57), none⟩,
    ⟨.mv 13 (.t 58), none⟩] false) [0, 1, 2, 7, 9, 10, 11, 12, 13] 1)
  (.seq (.post (.region [
    ⟨.mv 60 (.t 0), none⟩,
    ⟨.mv 61 (.t 1), none⟩,
    ⟨.mv 62 (.t 2), none⟩,
    ⟨.load 63 true 3 (.t 7), none⟩,
    ⟨.call (some 64) true 25 [(.c (.int .i64 13)), (.t 60), (.t 61), (.t 62), (.c (.int .i64 0)), (.c (.int .i64 0)), (.t 63)], none⟩,
    ⟨.mv 59 (.t 64), none⟩,
    ⟨.extract 65 (.t 59) 0, none⟩,
    ⟨.extract 66 (.t 59) 1, none⟩,
    ⟨.mv 14 (.t 65), none⟩,
    ⟨.mv 15 (.t 66), none⟩] false) [0, 1, 2, 7, 9, 10, 11, 12, 13, 14, 15] 1)
  (.seq (.seq (.post (.region [
    ⟨.mv 67 (.t 9), none⟩,
    ⟨.bin 68 .neq (.t 67) (.c (.int .i64 0)), none⟩,
    ⟨.mv 69 (.t 68), none⟩,
    ⟨.mv 70 (.t 11), some (69, false)⟩,
    ⟨.bin 71 .neq (.t 70) (.c (.int .i64 0)), some (69, false)⟩,
    ⟨.pick 72 (.t 69) (.c (.bool true)) (.t 71), none⟩,
    ⟨.mv 73 (.t 72), none⟩,
    ⟨.mv 74 (.t 13), some (73, false)⟩,
    ⟨.bin 75 .neq (.t 74) (.c (.int .i64 0)), some (73, false)⟩,
    ⟨.pick 76 (.t 73) (.c (.bool true)) (.t 75), none⟩,
    ⟨.mv 77 (.t 76), none⟩,
    ⟨.mv 78 (.t 15), some (77, false)⟩,
    ⟨.bin 79 .neq (.t 78) (.c (.int .i64 0)), some (77, false)⟩,
    ⟨.pick 80 (.t 77) (.c (.bool true)) (.t 79), none⟩,
    ⟨.mv 81 (.t 80), none⟩,
    ⟨.mv 82 (.t 10), some (81, false)⟩,
    ⟨.mv 83 (.t 1), some (81, false)⟩,
    ⟨.bin 84 .neq (.t 82) (.t 83), some (81, false)⟩,
    ⟨.pick 85 (.t 81) (.c (.bool true)) (.t 84), none⟩] false) [0, 1, 2, 7, 12, 14, 85] 1)
  (.cond (.t 85) (.seq (.post (.region [
    ⟨.mv 6 (.c (.bool false)), none⟩] false) [6] 0)
  .ret)
  .skip))
  (.seq (.seq (.post (.region [
    ⟨.mv 86 (.t 2), none⟩,
    ⟨.bin 87 .neq (.t 86) (.c (.int .i64 0)), none⟩,
    ⟨.mv 88 (.t 87), none⟩,
    ⟨.mv 89 (.t 12), some (88, true)⟩,
    ⟨.mv 90 (.t 2), some (88, true)⟩,
    ⟨.bin 91 .mul (.t 89) (.t 90), some (88, true)⟩,
    ⟨.mv 92 (.t 14), some (88, true)⟩,
    ⟨.bin 93 .add (.t 91) (.t 92), some (88, true)⟩,
    ⟨.mv 94 (.t 1), some (88, true)⟩,
    ⟨.bin 95 .neq (.t 93) (.t 94), some (88, true)⟩,
    ⟨.mv 96 (.t 95), some (88, true)⟩,
    ⟨.mv 97 (.t 14), some (96, false)⟩,
    ⟨.mv 98 (.t 2), some (96, false)⟩,
    ⟨.bin 99 .geq (.t 97) (.t 98), some (96, false)⟩,
    ⟨.pick 100 (.t 96) (.c (.bool true)) (.t 99), some (88, true)⟩,
    ⟨.pick 101 (.t 88) (.t 100) (.c (.bool false)), none⟩] false) [0, 1, 2, 7, 101] 1)
  (.cond (.t 101) (.seq (.post (.region [
    ⟨.mv 6 (.c (.bool false)), none⟩] false) [6] 0)
  .ret)
  .skip))
  (.seq (.seq (.post (.region [
    ⟨.mv 102 (.t 0), none⟩,
    ⟨.bin 103 .mul (.c (.int .i64 2)) (.t 102), none⟩,
    ⟨.bin 104 .gtr (.t 103) (.c (.int .i64 8)), none⟩] false) [0, 1, 2, 7, 104] 1)
  (.cond (.t 104) (.seq (.post (.region [
    ⟨.mv 6 (.c (.bool true)), none⟩] false) [6] 0)
  .ret)
  .skip))
  (.seq (.post (.region [
    ⟨.mv 106 (.t 0), none⟩,
    ⟨.bin 107 .mul (.c (.int .i64 2)) (.t 106), none⟩,
    ⟨.mv 108 (.t 1), none⟩,
    ⟨.mv 109 (.t 2), none⟩,
    ⟨.load 110 true 3 (.t 7), none⟩,
    ⟨.call (some 111) true 25 [(.c (.int .i64 20)), (.t 107), (.t 108), (.t 109), (.c (.int .i64 0)), (.c (.int .i64 0)), (.t 110)], none⟩,
    ⟨.mv 105 (.t 111), none⟩,
    ⟨.extract 112 (.t 105) 0, none⟩,
    ⟨.extract 113 (.t 105) 1, none⟩,
    ⟨.mv 16 (.t 112), none⟩,
    ⟨.mv 9 (.t 113), none⟩] false) [0, 1, 2, 9, 16] 0)
  (.seq (.post (.region [
    ⟨.mv 115 (.t 0), none⟩,
    ⟨.mv 116 (.t 16), none⟩,
    ⟨.mv 117 (.t 0), none⟩,
    ⟨.bin 118 .mul (.c (.int .i64 2)) (.t 117), none⟩,
    ⟨.build 119 [.int .i64 0, .int .i64 0, .int .i64 0] [(0, 1, (.t 118)), (1, 1, (.c (.int .i64 0))), (2, 1, (.c (.int .i64 0)))], none⟩,
    ⟨.call (some 120) true 25 [(.c (.int .i64 21)), (.t 115), (.t 116), (.c (.int .i64 0)), (.c (.int .i64 0)), (.c (.int .i64 0)), (.t 119)], none⟩,
    ⟨.mv 114 (.t 120), none⟩,
    ⟨.extract 121 (.t 114) 0, none⟩,
    ⟨.extract 122 (.t 114) 1, none⟩,
    ⟨.mv 17 (.t 121), none⟩,
    ⟨.mv 11 (.t 122), none⟩] false) [0, 1, 2, 9, 11, 16, 17] 0)
  (.seq (.post (.region [
    ⟨.mv 124 (.t 0), none⟩,
    ⟨.mv 125 (.t 16), none⟩,
    ⟨.mv 126 (.t 0), none⟩,
    ⟨.mv 127 (.t 0), none⟩,
    ⟨.bin 128 .mul (.c (.int .i64 2)) (.t 127), none⟩,
    ⟨.build 129 [.int .i64 0, .int .i64 0, .int .i64 0] [(0, 1, (.t 128)), (1, 1, (.c (.int .i64 0))), (2, 1, (.c (.int .i64 0)))], none⟩,
    ⟨.call (some 130) true 25 [(.c (.int .i64 21)), (.t 124), (.t 125), (.c (.int .i64 0)), (.c (.int .i64 0)), (.t 126), (.t 129)], none⟩,
    ⟨.mv 123 (.t 130), none⟩,
    ⟨.extract 131 (.t 123) 0, none⟩,
    ⟨.extract 132 (.t 123) 1, none⟩,
    ⟨.mv 18 (.t 131), none⟩,
    ⟨.mv 13 (.t 132), none⟩] false) [1, 2, 9, 11, 13, 17, 18] 0)
  (.seq (.post (.region [
    ⟨.mv 133 (.t 9), none⟩,
    ⟨.bin 134 .eql (.t 133) (.c (.int .i64 0)), none⟩,
    ⟨.mv 135 (.t 134), none⟩,
    ⟨.mv 136 (.t 11), some (135, true)⟩,
    ⟨.bin 137 .eql (.t 136) (.c (.int .i64 0)), some (135, true)⟩,
    ⟨.pick 138 (.t 135) (.t 137) (.c (.bool false)), none⟩,
    ⟨.mv 139 (.t 138), none⟩,
    ⟨.mv 140 (.t 13), some (139, true)⟩,
    ⟨.bin 141 .eql (.t 140) (.c (.int .i64 0)), some (139, true)⟩,
    ⟨.pick 142 (.t 139) (.t 141) (.c (.bool false)), none⟩,
    ⟨.mv 143 (.t 142), none⟩,
    ⟨.mv 144 (.t 17), some (143, true)⟩,
    ⟨.mv 145 (.t 2), some (143, true)⟩,
    ⟨.bin 146 .eql (.t 144) (.t 145), some (143, true)⟩,
    ⟨.pick 147 (.t 143) (.t 146) (.c (.bool false)), none⟩,
    ⟨.mv 148 (.t 147), none⟩,
    ⟨.mv 149 (.t 18), some (148, true)⟩,
    ⟨.mv 150 (.t 1), some (148, true)⟩,
    ⟨.bin 151 .eql (.t 149) (.t 150), some (148, true)⟩,
    ⟨.pick 152 (.t 148) (.t 151) (.c (.bool false)), none⟩,
    ⟨.mv 6 (.t 152), none⟩] false) [6] 0)
  .ret))))))))))))))))
def f_law_WordTurns : IFunc := { np := 3, res := [.t 6], own := false, trunc := true, body := f_law_WordTurns_0 }

/- 30: latchwork/latchworklaw.choose -/
def f_law_choose_k1 : ICode :=
  (.seq (.post (.region [
    ⟨.mv 10 (.t 0), none⟩,
    ⟨.mv 11 (.t 1), none⟩,
    ⟨.bin 12 .rem (.t 10) (.t 11), none⟩,
    ⟨.mv 4 (.t 12), none⟩] false) [4] 0)
  .ret)
def f_law_choose_0 : ICode :=
  (.seq (.post (.region [
    ⟨.mv 4 (.c (.int .i64 0)), none⟩] false) [0, 1] 0)
  (.seq (.seq (.post (.region [
    ⟨.mv 5 (.t 0), none⟩,
    ⟨.bin 6 .lss (.t 5) (.c (.int .i64 0)), none⟩] false) [0, 1, 6] 0)
  (.cond (.t 6) (.post (.post (.region [
    ⟨.mv 7 (.t 0), none⟩,
    ⟨.bin 8 .add (.t 7) (.c (.int .i64 1)), none⟩,
    ⟨.un 9 .neg (.t 8), none⟩,
    ⟨.mv 0 (.t 9), none⟩] false) [0, 1] 0) [0, 1] 0)
  (.post .skip [0, 1] 0)))
  (.cut f_law_choose_k1)))
def f_law_choose : IFunc := { np := 2, res := [.t 4], own := false, trunc := true, body := f_law_choose_0 }

/- 31: latchwork/latchworklaw.CnfTells -/
/- at its head: [1, 2, 3, 4, 9, 11, 12] -/
def f_law_CnfTells_b1 : ICode :=
  (.post (.seq (.seq (.post (.region [
    ⟨.mv 38 (.t 12), none⟩,
    ⟨.faddr 39 (.t 9) 0, none⟩,
    ⟨.load 40 false 1 (.t 39), none⟩,
    ⟨.bin 41 .leq (.t 38) (.t 40), none⟩] false) [1, 2, 3, 4, 9, 11, 12, 41] 2)
  (.cond (.t 41) .skip
  (.exit 0)))
  (.seq (.block 1 (.post (.region [
    ⟨.tk 44 11, none⟩,
    ⟨.mv 45 (.t 12), none⟩,
    ⟨.bin 46 .mul (.c (.int .i64 2)) (.t 45), none⟩,
    ⟨.buildSl 47 1 [(.t 46)], none⟩,
    ⟨.append 48 1 8 (.t 44) (.t 47), none⟩,
    ⟨.tk 11 48, none⟩] false) [1, 2, 3, 4, 9, 11, 12] 2))
  (.post (.region [
    ⟨.mv 42 (.t 12), none⟩,
    ⟨.bin 43 .add (.t 42) (.c (.int .i64 1)), none⟩,
    ⟨.mv 12 (.t 43), none⟩] false) [1, 2, 3, 4, 9, 11, 12] 2))) [1, 2, 3, 4, 9, 11, 12] 2)
def f_law_CnfTells_l1 : ICode :=
  (.post (.block 0 (.loop f_law_CnfTells_b1)) [1, 2, 3, 4, 9, 11] 2)
/- at its head: [3, 4, 9, 11, 13, 14, 16, 17] -/
def f_law_CnfTells_b2 : ICode :=
  (.post (.seq (.seq (.post (.region [
    ⟨.mv 69 (.t 17), none⟩,
    ⟨.mv 70 (.t 14), none⟩,
    ⟨.len 71 0 (.t 70), none⟩,
    ⟨.bin 72 .lss (.t 69) (.t 71), none⟩] false) [3, 4, 9, 11, 13, 14, 16, 17, 72] 2)
  (.cond (.t 72) .skip
  (.exit 2)))
  (.seq (.block 3 (.post (.region [
    ⟨.mv 75 (.t 16), none⟩,
    ⟨.mv 76 (.t 75), none⟩,
    ⟨.mv 77 (.t 14), some (76, true)⟩,
    ⟨.mv 78 (.t 17), some (76, true)⟩,
    ⟨.iaddr 79 1 none (.t 77) (.t 78), some (76, true)⟩,
    ⟨.load 80 false 1 (.t 79), some (76, true)⟩,
    ⟨.pick 81 (.t 76) (.t 80) (.c (.bool false)), none⟩,
    ⟨.mv 16 (.t 81), none⟩] false) [3, 4, 9, 11, 13, 14, 16, 17] 2))
  (.post (.region [
    ⟨.mv 73 (.t 17), none⟩,
    ⟨.bin 74 .add (.t 73) (.c (.int .i64 1)), none⟩,
    ⟨.mv 17 (.t 74), none⟩] false) [3, 4, 9, 11, 13, 14, 16, 17] 2))) [3, 4, 9, 11, 13, 14, 16, 17] 2)
def f_law_CnfTells_l2 : ICode :=
  (.post (.block 2 (.loop f_law_CnfTells_b2)) [3, 4, 9, 11, 13, 16] 2)
def f_law_CnfTells_k2 : ICode :=
  (.seq (.post (.region [
    ⟨.load 83 true 2 (.t 9), none⟩,
    ⟨.mv 84 (.t 13), none⟩,
    ⟨.call (some 85) true 32 [(.t 83), (.t 84)], none⟩,
    ⟨.mv 82 (.t 85), none⟩,
    ⟨.extract 86 (.t 82) 0, none⟩,
    ⟨.extract 87 (.t 82) 1, none⟩,
    ⟨.mv 18 (.t 86), none⟩,
    ⟨.mv 19 (.t 87), none⟩] false) [3, 4, 9, 11, 16, 18, 19] 2)
  (.seq (.post (.region [
    ⟨.mv 88 (.t 19), none⟩,
    ⟨.bin 89 .neq (.t 88) (.c (.int .i64 0)), none⟩,
    ⟨.mv 90 (.t 89), none⟩,
    ⟨.mv 91 (.t 18), some (90, false)⟩,
    ⟨.mv 92 (.t 16), some (90, false)⟩,
    ⟨.eqb 93 true (.t 91) (.t 92), some (90, false)⟩,
    ⟨.pick 94 (.t 90) (.c (.bool true)) (.t 93), none⟩] false) [3, 4, 9, 11, 94] 2)
  (.cond (.t 94) (.seq (.post (.region [
    ⟨.mv 8 (.c (.bool false)), none⟩] false) [8] 0)
  .ret)
  .skip)))
def f_law_CnfTells_k3 : ICode :=
  (.seq (.post (.region [
    ⟨.load 96 true 2 (.t 9), none⟩,
    ⟨.mv 97 (.t 3), none⟩,
    ⟨.call (some 98) true 32 [(.t 96), (.t 97)], none⟩,
    ⟨.mv 95 (.t 98), none⟩,
    ⟨.extract 99 (.t 95) 0, none⟩,
    ⟨.extract 100 (.t 95) 1, none⟩,
    ⟨.mv 20 (.t 99), none⟩,
    ⟨.mv 10 (.t 100), none⟩] false) [3, 4, 10, 11, 20] 1)
  (.seq (.seq (.post (.region [
    ⟨.mv 101 (.t 10), none⟩,
    ⟨.bin 102 .neq (.t 101) (.c (.int .i64 0)), none⟩,
    ⟨.mv 103 (.t 102), none⟩,
    ⟨.mv 104 (.t 20), some (103, false)⟩,
    ⟨.un 105 .not (.t 104), some (103, false)⟩,
    ⟨.pick 106 (.t 103) (.c (.bool true)) (.t 105), none⟩] false) [3, 4, 11, 106] 1)
  (.cond (.t 106) (.seq (.post (.region [
    ⟨.mv 8 (.c (.bool true)), none⟩] false) [8] 0)
  .ret)
  .skip))
  (.seq (.post (.region [
    ⟨.load 108 true 2 (.t 4), none⟩,
    ⟨.mv 109 (.t 3), none⟩,
    ⟨.faddr 110 (.t 4) 0, none⟩,
    ⟨.load 111 false 1 (.t 110), none⟩,
    ⟨.slice 112 1 (.t 109) none (some (.t 111)), none⟩,
    ⟨.mv 113 (.t 11), none⟩,
    ⟨.call (some 114) true 9 [(.t 108), (.t 112), (.t 113)], none⟩,
    ⟨.mv 107 (.t 114), none⟩,
    ⟨.extract 115 (.t 107) 0, none⟩,
    ⟨.extract 116 (.t 107) 1, none⟩,
    ⟨.tk 13 115, none⟩,
    ⟨.mv 10 (.t 116), none⟩] true) [3, 10, 13] 0)
  (.seq (.post (.region [
    ⟨.mv 117 (.t 10), none⟩,
    ⟨.bin 118 .eql (.t 117) (.c (.int .i64 0)), none⟩,
    ⟨.mv 119 (.t 118), none⟩,
    ⟨.mv 120 (.t 13), some (119, true)⟩,
    ⟨.mv 121 (.t 3), some (119, true)⟩,
    ⟨.call (some 122) true 13 [(.t 120), (.t 121)], some (119, true)⟩,
    ⟨.pick 123 (.t 119) (.t 122) (.c (.bool false)), none⟩,
    ⟨.mv 8 (.t 123), none⟩] false) [8] 0)
  .ret))))
def f_law_CnfTells_k1 : ICode :=
  (.seq (.post (.region [
    ⟨.load 50 true 2 (.t 4), none⟩,
    ⟨.mv 51 (.t 2), none⟩,
    ⟨.mv 52 (.t 11), none⟩,
    ⟨.call (some 53) true 9 [(.t 50), (.t 51), (.t 52)], none⟩,
    ⟨.mv 49 (.t 53), none⟩,
    ⟨.extract 54 (.t 49) 0, none⟩,
    ⟨.extract 55 (.t 49) 1, none⟩,
    ⟨.tk 13 54, none⟩,
    ⟨.mv 10 (.t 55), none⟩] false) [1, 2, 3, 4, 9, 10, 11, 13] 2)
  (.seq (.post (.region [
    ⟨.load 57 true 2 (.t 4), none⟩,
    ⟨.mv 58 (.t 2), none⟩,
    ⟨.mv 59 (.t 1), none⟩,
    ⟨.call (some 60) true 9 [(.t 57), (.t 58), (.t 59)], none⟩,
    ⟨.mv 56 (.t 60), none⟩,
    ⟨.extract 61 (.t 56) 0, none⟩,
    ⟨.extract 62 (.t 56) 1, none⟩,
    ⟨.tk 14 61, none⟩,
    ⟨.mv 15 (.t 62), none⟩] false) [3, 4, 9, 10, 11, 13, 14, 15] 2)
  (.seq (.seq (.post (.region [
    ⟨.mv 63 (.t 10), none⟩,
    ⟨.bin 64 .eql (.t 63) (.c (.int .i64 0)), none⟩,
    ⟨.mv 65 (.t 64), none⟩,
    ⟨.mv 66 (.t 15), some (65, true)⟩,
    ⟨.bin 67 .eql (.t 66) (.c (.int .i64 0)), some (65, true)⟩,
    ⟨.pick 68 (.t 65) (.t 67) (.c (.bool false)), none⟩] false) [3, 4, 9, 11, 13, 14, 68] 2)
  (.cond (.t 68) (.post (.seq (.post (.region [
    ⟨.mv 16 (.c (.bool true)), none⟩] false) [3, 4, 9, 11, 13, 14, 16] 2)
  (.seq (.seq (.post (.region [
    ⟨.mv 17 (.c (.int .i64 0)), none⟩] false) [3, 4, 9, 11, 13, 14, 16, 17] 2)
  (.cut f_law_CnfTells_l2))
  (.cut f_law_CnfTells_k2))) [3, 4, 9, 11] 2)
  (.post .skip [3, 4, 9, 11] 2)))
  (.cut f_law_CnfTells_k3))))
def f_law_CnfTells_0 : ICode :=
  (.seq (.post (.region [
    ⟨.box 4 false false (.t 0), none⟩,
    ⟨.mv 8 (.c (.bool false)), none⟩] false) [1, 2, 3, 4] 1)
  (.seq (.seq (.post (.region [
    ⟨.call (some 21) true 18 [], none⟩,
    ⟨.un 22 .not (.t 21), none⟩,
    ⟨.mv 23 (.t 22), none⟩,
    ⟨.call (some 24) true 5 [], some (23, false)⟩,
    ⟨.un 25 .not (.t 24), some (23, false)⟩,
    ⟨.pick 26 (.t 23) (.c (.bool true)) (.t 25), none⟩] false) [1, 2, 3, 4, 26] 1)
  (.cond (.t 26) (.seq (.post (.region [
    ⟨.mv 8 (.c (.bool false)), none⟩] false) [8] 0)
  .ret)
  .skip))
  (.seq (.post (.region [
    ⟨.load 28 true 2 (.t 4), none⟩,
    ⟨.mv 29 (.t 1), none⟩,
    ⟨.call (some 30) true 16 [(.t 28), (.t 29)], none⟩,
    ⟨.mv 27 (.t 30), none⟩,
    ⟨.extract 31 (.t 27) 0, none⟩,
    ⟨.extract 32 (.t 27) 1, none⟩,
    ⟨.alloc 9 false (.agg [.int .i64 0, .sl true 1 []]), none⟩,
    ⟨.store true 2 (.t 9) (.t 31), none⟩,
    ⟨.mv 10 (.t 32), none⟩] false) [1, 2, 3, 4, 9, 10] 2)
  (.seq (.seq (.post (.region [
    ⟨.mv 33 (.t 10), none⟩,
    ⟨.bin 34 .neq (.t 33) (.c (.int .i64 0)), none⟩] false) [1, 2, 3, 4, 9, 34] 2)
  (.cond (.t 34) (.seq (.post (.region [
    ⟨.faddr 35 (.t 9) 0, none⟩,
    ⟨.load 36 false 1 (.t 35), none⟩,
    ⟨.bin 37 .eql (.t 36) (.c (.int .i64 0)), none⟩,
    ⟨.mv 8 (.t 37), none⟩] false) [8] 0)
  .ret)
  .skip))
  (.seq (.post (.region [
    ⟨.mv 11 (.c (.sl true 1 [])), none⟩] false) [1, 2, 3, 4, 9, 11] 2)
  (.seq (.seq (.post (.region [
    ⟨.mv 12 (.c (.int .i64 1)), none⟩] false) [1, 2, 3, 4, 9, 11, 12] 2)
  (.cut f_law_CnfTells_l1))
  (.cut f_law_CnfTells_k1)))))))
def f_law_CnfTells : IFunc := { np := 4, res := [.t 8], own := false, trunc := true, body := f_law_CnfTells_0 }

/- 33: latchwork/latchworklaw.ModelChecks -/
def f_law_ModelChecks_0 : ICode :=
  (.seq (.post (.region [
    ⟨.box 1 false false (.t 0), none⟩,
    ⟨.mv 2 (.c (.bool false)), none⟩] false) [1] 1)
  (.seq (.post (.region [
    ⟨.load 9 true 5 (.t 1), none⟩,
    ⟨.call (some 10) true 34 [(.t 9)], none⟩,
    ⟨.mv 8 (.t 10), none⟩,
    ⟨.extract 11 (.t 8) 0, none⟩,
    ⟨.extract 12 (.t 8) 1, none⟩,
    ⟨.tk 3 11, none⟩,
    ⟨.mv 4 (.t 12), none⟩] false) [1, 3, 4] 1)
  (.seq (.post (.region [
    ⟨.load 14 true 5 (.t 1), none⟩,
    ⟨.call (some 15) true 35 [(.t 14)], none⟩,
    ⟨.mv 13 (.t 15), none⟩,
    ⟨.extract 16 (.t 13) 0, none⟩,
    ⟨.extract 17 (.t 13) 1, none⟩,
    ⟨.tk 5 16, none⟩,
    ⟨.mv 6 (.t 17), none⟩] false) [1, 3, 4, 5, 6] 1)
  (.seq (.post (.region [
    ⟨.load 18 true 5 (.t 1), none⟩,
    ⟨.call (some 19) true 36 [(.t 18)], none⟩,
    ⟨.mv 7 (.t 19), none⟩] false) [1, 3, 4, 5, 6, 7] 1)
  (.seq (.post (.region [
    ⟨.call (some 20) true 37 [], none⟩,
    ⟨.mv 21 (.t 20), none⟩,
    ⟨.load 22 true 5 (.t 1), some (21, true)⟩,
    ⟨.call (some 23) true 38 [(.t 22)], some (21, true)⟩,
    ⟨.mv 24 (.t 7), some (21, true)⟩,
    ⟨.bin 25 .eql (.t 23) (.t 24), some (21, true)⟩,
    ⟨.pick 26 (.t 21) (.t 25) (.c (.bool false)), none⟩,
    ⟨.mv 27 (.t 26), none⟩,
    ⟨.mv 28 (.t 3), some (27, true)⟩,
    ⟨.mv 29 (.t 4), some (27, true)⟩,
    ⟨.mv 30 (.t 7), some (27, true)⟩,
    ⟨.load 31 true 5 (.t 1), some (27, true)⟩,
    ⟨.call (some 32) true 39 [(.t 31), (.c (.int .i64 2))], some (27, true)⟩,
    ⟨.call (some 33) true 40 [(.t 28), (.t 29), (.t 30), (.t 32)], some (27, true)⟩,
    ⟨.pick 34 (.t 27) (.t 33) (.c (.bool false)), none⟩,
    ⟨.mv 35 (.t 34), none⟩,
    ⟨.mv 36 (.t 5), some (35, true)⟩,
    ⟨.mv 37 (.t 6), some (35, true)⟩,
    ⟨.mv 38 (.t 7), some (35, true)⟩,
    ⟨.load 39 true 5 (.t 1), some (35, true)⟩,
    ⟨.call (some 40) true 39 [(.t 39), (.c (.int .i64 3))], some (35, true)⟩,
    ⟨.call (some 41) true 40 [(.t 36), (.t 37), (.t 38), (.t 40)], some (35, true)⟩,
    ⟨.pick 42 (.t 35) (.t 41) (.c (.bool false)), none⟩,
    ⟨.mv 2 (.t 42), none⟩] false) [2] 0)
  .ret)))))
def f_law_ModelChecks : IFunc := { np := 1, res := [.t 2], own := false, trunc := true, body := f_law_ModelChecks_0 }

/- 37: latchwork/latchworklaw.modelBegun -/
def f_law_modelBegun_0 : ICode :=
  (.seq (.post (.region [
    ⟨.mv 0 (.c (.bool false)), none⟩] false) [] 0)
  (.seq (.post (.region [
    ⟨.call (some 4) true 75 [], none⟩,
    ⟨.call (some 5) true 35 [(.t 4)], none⟩,
    ⟨.mv 3 (.t 5), none⟩,
    ⟨.extract 6 (.t 3) 0, none⟩,
    ⟨.extract 7 (.t 3) 1, none⟩,
    ⟨.tk 1 6, none⟩,
    ⟨.mv 2 (.t 7), none⟩] false) [1, 2] 0)
  (.seq (.post (.region [
    ⟨.call (some 8) true 75 [], none⟩,
    ⟨.call (some 9) true 38 [(.t 8)], none⟩,
    ⟨.bin 10 .eql (.t 9) (.c (.int .i64 0)), none⟩,
    ⟨.mv 11 (.t 10), none⟩,
    ⟨.mv 12 (.t 2), some (11, true)⟩,
    ⟨.bin 13 .eql (.t 12) (.c (.int .i64 0)), some (11, true)⟩,
    ⟨.pick 14 (.t 11) (.t 13) (.c (.bool false)), none⟩,
    ⟨.mv 15 (.t 14), none⟩,
    ⟨.mv 16 (.t 1), some (15, true)⟩,
    ⟨.len 17 0 (.t 16), some (15, true)⟩,
    ⟨.bin 18 .eql (.t 17) (.c (.int .i64 1)), some (15, true)⟩,
    ⟨.pick 19 (.t 15) (.t 18) (.c (.bool false)), none⟩,
    ⟨.mv 20 (.t 19), none⟩,
    ⟨.mv 21 (.t 1), some (20, true)⟩,
    ⟨.iaddr 22 1 none (.t 21) (.c (.int .i64 0)), some (20, true)⟩,
    ⟨.load 23 false 1 (.t 22), some (20, true)⟩,
    ⟨.bin 24 .eql (.t 23) (.c (.int .i64 1)), some (20, true)⟩,
    ⟨.pick 25 (.t 20) (.t 24) (.c (.bool false)), none⟩,
    ⟨.mv 0 (.t 25), none⟩] false) [0] 0)
  .ret)))
def f_law_modelBegun : IFunc := { np := 0, res := [.t 0], own := false, trunc := true, body := f_law_modelBegun_0 }

/- 40: latchwork/latchworklaw.listIs -/
def f_law_listIs_k1 : ICode :=
  (.seq (.post (.region [
    ⟨.mv 11 (.t 1), none⟩,
    ⟨.mv 12 (.t 2), none⟩,
    ⟨.bin 13 .eql (.t 11) (.t 12), none⟩,
    ⟨.mv 14 (.t 13), none⟩,
    ⟨.mv 15 (.t 0), some (14, true)⟩,
    ⟨.mv 16 (.t 3), some (14, true)⟩,
    ⟨.call (some 17) true 46 [(.t 15), (.t 16)], some (14, true)⟩,
    ⟨.pick 18 (.t 14) (.t 17) (.c (.bool false)), none⟩,
    ⟨.mv 8 (.t 18), none⟩] false) [8] 0)
  .ret)
def f_law_listIs_0 : ICode :=
  (.seq (.post (.region [
    ⟨.mv 8 (.c (.bool false)), none⟩] false) [0, 1, 2, 3] 0)
  (.seq (.seq (.post (.region [
    ⟨.mv 9 (.t 2), none⟩,
    ⟨.bin 10 .neq (.t 9) (.c (.int .i64 0)), none⟩] false) [0, 1, 2, 3, 10] 0)
  (.cond (.t 10) (.post (.post (.region [
    ⟨.mv 3 (.c (.sl true 1 [])), none⟩] false) [0, 1, 2, 3] 0) [0, 1, 2, 3] 0)
  (.post .skip [0, 1, 2, 3] 0)))
  (.cut f_law_listIs_k1)))
def f_law_listIs : IFunc := { np := 4, res := [.t 8], own := false, trunc := true, body := f_law_listIs_0 }

/- 41: latchwork/latchworklaw.ModelCones -/
def f_law_ModelCones_k1 : ICode :=
  (.seq (.post (.region [
    ⟨.call (some 29) true 37 [], none⟩,
    ⟨.mv 30 (.t 29), none⟩,
    ⟨.mv 31 (.t 5), some (30, true)⟩,
    ⟨.mv 32 (.t 6), some (30, true)⟩,
    ⟨.mv 33 (.t 7), some (30, true)⟩,
    ⟨.mv 34 (.t 8), some (30, true)⟩,
    ⟨.call (some 35) true 40 [(.t 31), (.t 32), (.t 33), (.t 34)], some (30, true)⟩,
    ⟨.pick 36 (.t 30) (.t 35) (.c (.bool false)), none⟩,
    ⟨.mv 4 (.t 36), none⟩] false) [4] 0)
  .ret)
def f_law_ModelCones_0 : ICode :=
  (.seq (.post (.region [
    ⟨.box 2 false false (.t 0), none⟩,
    ⟨.mv 4 (.c (.bool false)), none⟩] false) [1, 2] 1)
  (.seq (.post (.region [
    ⟨.load 12 true 5 (.t 2), none⟩,
    ⟨.mv 13 (.t 1), none⟩,
    ⟨.call (some 14) true 42 [(.t 12), (.t 13)], none⟩,
    ⟨.mv 11 (.t 14), none⟩,
    ⟨.extract 15 (.t 11) 0, none⟩,
    ⟨.extract 16 (.t 11) 1, none⟩,
    ⟨.tk 5 15, none⟩,
    ⟨.mv 6 (.t 16), none⟩] false) [1, 2, 5, 6] 1)
  (.seq (.post (.region [
    ⟨.load 17 true 5 (.t 2), none⟩,
    ⟨.call (some 18) true 36 [(.t 17)], none⟩,
    ⟨.mv 7 (.t 18), none⟩] false) [1, 2, 5, 6, 7] 1)
  (.seq (.region [
    ⟨.mv 8 (.c (.sl true 1 [])), none⟩] false)
  (.seq (.seq (.post (.region [
    ⟨.mv 19 (.t 7), none⟩,
    ⟨.bin 20 .eql (.t 19) (.c (.int .i64 0)), none⟩] false) [1, 2, 5, 6, 7, 8, 20] 1)
  (.cond (.t 20) (.post (.seq (.post (.region [
    ⟨.load 22 true 5 (.t 2), none⟩,
    ⟨.mv 23 (.t 1), none⟩,
    ⟨.call (some 24) true 43 [(.t 22), (.t 23)], none⟩,
    ⟨.mv 21 (.t 24), none⟩,
    ⟨.extract 25 (.t 21) 0, none⟩,
    ⟨.extract 26 (.t 21) 1, none⟩,
    ⟨.tk 9 25, none⟩,
    ⟨.mv 10 (.t 26), none⟩] false) [5, 6, 7, 8, 9, 10] 0)
  (.seq (.post (.region [
    ⟨.mv 27 (.t 10), none⟩] false) [5, 6, 7, 8, 9, 27] 0)
  (.cond (.t 27) (.post (.post (.region [
    ⟨.mv 28 (.t 9), none⟩,
    ⟨.tk 8 28, none⟩] false) [5, 6, 7, 8] 0) [5, 6, 7, 8] 0)
  (.post (.post (.region [
    ⟨.mv 7 (.c (.int .i64 5)), none⟩] false) [5, 6, 7, 8] 0) [5, 6, 7, 8] 0)))) [5, 6, 7, 8] 0)
  (.post .skip [5, 6, 7, 8] 0)))
  (.cut f_law_ModelCones_k1))))))
def f_law_ModelCones : IFunc := { np := 2, res := [.t 4], own := false, trunc := true, body := f_law_ModelCones_0 }

/- 44: latchwork/latchworklaw.ModelAgain -/
/- at its head: [1, 2, 5, 7] -/
def f_law_ModelAgain_b1 : ICode :=
  (.post (.seq (.seq (.post (.region [
    ⟨.mv 23 (.t 7), none⟩,
    ⟨.mv 24 (.t 1), none⟩,
    ⟨.len 25 0 (.t 24), none⟩,
    ⟨.bin 26 .lss (.t 23) (.t 25), none⟩] false) [1, 2, 5, 7, 26] 1)
  (.cond (.t 26) .skip
  (.exit 0)))
  (.seq (.block 1 (.seq (.post (.region [
    ⟨.mv 29 (.t 5), none⟩,
    ⟨.mv 30 (.t 1), none⟩,
    ⟨.mv 31 (.t 7), none⟩,
    ⟨.iaddr 32 1 none (.t 30) (.t 31), none⟩,
    ⟨.load 33 false 1 (.t 32), none⟩,
    ⟨.call (some 34) true 45 [(.t 29), (.t 33)], none⟩,
    ⟨.un 35 .not (.t 34), none⟩] false) [1, 2, 5, 7, 35] 1)
  (.cond (.t 35) (.seq (.post (.region [
    ⟨.mv 4 (.c (.bool false)), none⟩] false) [4] 0)
  .ret)
  .skip)))
  (.post (.region [
    ⟨.mv 27 (.t 7), none⟩,
    ⟨.bin 28 .add (.t 27) (.c (.int .i64 1)), none⟩,
    ⟨.mv 7 (.t 28), none⟩] false) [1, 2, 5, 7] 1))) [1, 2, 5, 7] 1)
def f_law_ModelAgain_l1 : ICode :=
  (.post (.block 0 (.loop f_law_ModelAgain_b1)) [2, 5] 1)
/- at its head: [2, 5, 8] -/
def f_law_ModelAgain_b2 : ICode :=
  (.post (.seq (.seq (.post (.region [
    ⟨.mv 36 (.t 8), none⟩,
    ⟨.mv 37 (.t 5), none⟩,
    ⟨.len 38 0 (.t 37), none⟩,
    ⟨.bin 39 .lss (.t 36) (.t 38), none⟩] false) [2, 5, 8, 39] 1)
  (.cond (.t 39) .skip
  (.exit 2)))
  (.seq (.block 3 (.seq (.post (.region [
    ⟨.mv 42 (.t 5), none⟩,
    ⟨.mv 43 (.t 8), none⟩,
    ⟨.iaddr 44 1 none (.t 42) (.t 43), none⟩,
    ⟨.load 45 false 1 (.t 44), none⟩,
    ⟨.mv 46 (.t 5), none⟩,
    ⟨.mv 47 (.t 8), none⟩,
    ⟨.bin 48 .sub (.t 47) (.c (.int .i64 1)), none⟩,
    ⟨.iaddr 49 1 none (.t 46) (.t 48), none⟩,
    ⟨.load 50 false 1 (.t 49), none⟩,
    ⟨.bin 51 .leq (.t 45) (.t 50), none⟩] true) [2, 5, 8, 51] 1)
  (.cond (.t 51) (.seq (.post (.region [
    ⟨.mv 4 (.c (.bool false)), none⟩] false) [4] 0)
  .ret)
  .skip)))
  (.post (.region [
    ⟨.mv 40 (.t 8), none⟩,
    ⟨.bin 41 .add (.t 40) (.c (.int .i64 1)), none⟩,
    ⟨.mv 8 (.t 41), none⟩] false) [2, 5, 8] 1))) [2, 5, 8] 1)
def f_law_ModelAgain_l2 : ICode :=
  (.post (.block 2 (.loop f_law_ModelAgain_b2)) [2, 5] 1)
def f_law_ModelAgain_k2 : ICode :=
  (.seq (.post (.region [
    ⟨.load 53 true 5 (.t 2), none⟩,
    ⟨.mv 54 (.t 5), none⟩,
    ⟨.call (some 55) true 42 [(.t 53), (.t 54)], none⟩,
    ⟨.mv 52 (.t 55), none⟩,
    ⟨.extract 56 (.t 52) 0, none⟩,
    ⟨.extract 57 (.t 52) 1, none⟩,
    ⟨.tk 9 56, none⟩,
    ⟨.mv 6 (.t 57), none⟩] false) [5, 6, 9] 0)
  (.seq (.post (.region [
    ⟨.mv 58 (.t 6), none⟩,
    ⟨.bin 59 .eql (.t 58) (.c (.int .i64 0)), none⟩,
    ⟨.mv 60 (.t 59), none⟩,
    ⟨.mv 61 (.t 9), some (60, true)⟩,
    ⟨.mv 62 (.t 5), some (60, true)⟩,
    ⟨.call (some 63) true 46 [(.t 61), (.t 62)], some (60, true)⟩,
    ⟨.pick 64 (.t 60) (.t 63) (.c (.bool false)), none⟩,
    ⟨.mv 4 (.t 64), none⟩] false) [4] 0)
  .ret))
def f_law_ModelAgain_k1 : ICode :=
  (.seq (.seq (.post (.region [
    ⟨.mv 8 (.c (.int .i64 1)), none⟩] false) [2, 5, 8] 1)
  (.cut f_law_ModelAgain_l2))
  (.cut f_law_ModelAgain_k2))
def f_law_ModelAgain_0 : ICode :=
  (.seq (.post (.region [
    ⟨.box 2 false false (.t 0), none⟩,
    ⟨.mv 4 (.c (.bool false)), none⟩] false) [1, 2] 1)
  (.seq (.seq (.post (.region [
    ⟨.call (some 10) true 37 [], none⟩,
    ⟨.un 11 .not (.t 10), none⟩] false) [1, 2, 11] 1)
  (.cond (.t 11) (.seq (.post (.region [
    ⟨.mv 4 (.c (.bool false)), none⟩] false) [4] 0)
  .ret)
  .skip))
  (.seq (.post (.region [
    ⟨.load 13 true 5 (.t 2), none⟩,
    ⟨.mv 14 (.t 1), none⟩,
    ⟨.call (some 15) true 42 [(.t 13), (.t 14)], none⟩,
    ⟨.mv 12 (.t 15), none⟩,
    ⟨.extract 16 (.t 12) 0, none⟩,
    ⟨.extract 17 (.t 12) 1, none⟩,
    ⟨.tk 5 16, none⟩,
    ⟨.mv 6 (.t 17), none⟩] false) [1, 2, 5, 6] 1)
  (.seq (.seq (.post (.region [
    ⟨.mv 18 (.t 6), none⟩,
    ⟨.bin 19 .neq (.t 18) (.c (.int .i64 0)), none⟩] false) [1, 2, 5, 19] 1)
  (.cond (.t 19) (.seq (.post (.region [
    ⟨.mv 20 (.t 5), none⟩,
    ⟨.len 21 0 (.t 20), none⟩,
    ⟨.bin 22 .eql (.t 21) (.c (.int .i64 0)), none⟩,
    ⟨.mv 4 (.t 22), none⟩] false) [4] 0)
  .ret)
  .skip))
  (.seq (.seq (.post (.region [
    ⟨.mv 7 (.c (.int .i64 0)), none⟩] false) [1, 2, 5, 7] 1)
  (.cut f_law_ModelAgain_l1))
  (.cut f_law_ModelAgain_k1))))))
def f_law_ModelAgain : IFunc := { np := 2, res := [.t 4], own := false, trunc := true, body := f_law_ModelAgain_0 }

/- 75: latchwork/latchworklaw.toggle -/
def f_law_toggle_0 : ICode :=
  (.seq (.region [
    ⟨.alloc 0 false (.agg [.sl true 6 [], .sl true 2 [], .sl true 2 [], .sl true 1 [], .sl true 1 []]), none⟩] false)
  (.seq (.post (.region [
    ⟨.build 1 [.int .i64 0, .int .i64 0, .int .i64 0, .int .i64 0, .int .i64 0, .int .i64 0] [(0, 1, (.c (.int .i64 1))), (1, 1, (.c (.int .i64 1)))], none⟩,
    ⟨.build 2 [.int .i64 0, .int .i64 0, .int .i64 0, .int .i64 0, .int .i64 0, .int .i64 0] [(0, 1, (.c (.int .i64 3))), (1, 1, (.c (.int .i64 1)))], none⟩,
    ⟨.build 3 [.int .i64 0, .int .i64 0, .int .i64 0, .int .i64 0, .int .i64 0, .int .i64 0] [(0, 1, (.c (.int .i64 4))), (1, 1, (.c (.int .i64 1))), (2, 1, (.c (.int .i64 1)))], none⟩,
    ⟨.buildSl 4 6 [(.t 1), (.t 2), (.t 3)], none⟩,
    ⟨.build 5 [.int .i64 0, .int .i64 0] [(0, 1, (.c (.int .i64 1))), (1, 1, (.c (.int .i64 0)))], none⟩,
    ⟨.buildSl 6 2 [(.t 5)], none⟩,
    ⟨.build 7 [.int .i64 0, .int .i64 0] [(0, 1, (.c (.int .i64 1))), (1, 1, (.c (.int .i64 2)))], none⟩,
    ⟨.buildSl 8 2 [(.t 7)], none⟩,
    ⟨.buildSl 9 1 [(.c (.int .i64 1))], none⟩,
    ⟨.buildT 10 [.sl true 6 [], .sl true 2 [], .sl true 2 [], .sl true 1 [], .sl true 1 []] [(0, 1, (.t 4)), (1, 1, (.t 6)), (2, 1, (.t 8)), (3, 1, (.t 9))], none⟩,
    ⟨.store true 5 (.t 0) (.t 10), none⟩] false) [0] 1)
  .ret))
def f_law_toggle : IFunc := { np := 0, res := [.cell 0 true 5], own := false, trunc := true, body := f_law_toggle_0 }

end Go.Lw
end

/-! The code of package Lib for the small machine. Written by program (gen.py). -/
section
set_option maxRecDepth 10000
namespace Go.Lw
open Go

/- 82: slices.Concat[[]latchwork/api.Pair,latchwork/api.Pair] -/
/- at its head: [0, 3, 9, 10, 11] -/
def f_slices_Concat_Lapi_Pair_api_Pair_b1 : ICode :=
  (.post (.seq (.region [
    ⟨.bin 12 .lss (.t 11) (.t 10), none⟩] false)
  (.seq (.cond (.t 12) .skip
  (.exit 0))
  (.seq (.block 1 (.seq (.post (.region [
    ⟨.iaddr 13 1 none (.t 9) (.t 11), none⟩,
    ⟨.load 14 false 1 (.t 13), none⟩,
    ⟨.tk 5 14, none⟩] false) [0, 3, 5, 9, 10, 11] 0)
  (.seq (.post (.region [
    ⟨.mv 15 (.t 3), none⟩,
    ⟨.mv 16 (.t 5), none⟩,
    ⟨.len 17 0 (.t 16), none⟩,
    ⟨.bin 18 .add (.t 15) (.t 17), none⟩,
    ⟨.mv 3 (.t 18), none⟩] false) [0, 3, 9, 10, 11] 0)
  (.seq (.post (.region [
    ⟨.mv 19 (.t 3), none⟩,
    ⟨.bin 20 .lss (.t 19) (.c (.int .i64 0)), none⟩] false) [0, 3, 9, 10, 11, 20] 0)
  (.cond (.t 20) .bad
  .skip)))))
  (.post (.region [
    ⟨.bin 22 .add (.t 11) (.c (.int .i64 1)), none⟩,
    ⟨.mv 11 (.t 22), none⟩] false) [0, 3, 9, 10, 11] 0)))) [0, 3, 9, 10, 11] 0)
def f_slices_Concat_Lapi_Pair_api_Pair_l1 : ICode :=
  (.post (.block 0 (.loop f_slices_Concat_Lapi_Pair_api_Pair_b1)) [0, 3] 0)
/- at its head: [6, 25, 26, 27] -/
def f_slices_Concat_Lapi_Pair_api_Pair_b2 : ICode :=
  (.post (.seq (.region [
    ⟨.bin 28 .lss (.t 27) (.t 26), none⟩] false)
  (.seq (.cond (.t 28) .skip
  (.exit 2))
  (.seq (.block 3 (.seq (.post (.region [
    ⟨.iaddr 29 1 none (.t 25) (.t 27), none⟩,
    ⟨.load 30 false 1 (.t 29), none⟩,
    ⟨.tk 8 30, none⟩] false) [6, 8, 25, 26, 27] 0)
  (.post (.region [
    ⟨.tk 31 6, none⟩,
    ⟨.mv 32 (.t 8), none⟩,
    ⟨.append 33 2 16 (.t 31) (.t 32), none⟩,
    ⟨.tk 6 33, none⟩] false) [6, 25, 26, 27] 0)))
  (.post (.region [
    ⟨.bin 34 .add (.t 27) (.c (.int .i64 1)), none⟩,
    ⟨.mv 27 (.t 34), none⟩] false) [6, 25, 26, 27] 0)))) [6, 25, 26, 27] 0)
def f_slices_Concat_Lapi_Pair_api_Pair_l2 : ICode :=
  (.post (.block 2 (.loop f_slices_Concat_Lapi_Pair_api_Pair_b2)) [6] 0)
def f_slices_Concat_Lapi_Pair_api_Pair_k2 : ICode :=
  (.seq (.post (.region [
    ⟨.mv 35 (.t 6), none⟩,
    ⟨.tk 2 35, none⟩] false) [2] 0)
  .ret)
def f_slices_Concat_Lapi_Pair_api_Pair_k1 : ICode :=
  (.seq (.post (.region [
    ⟨.mv 23 (.t 3), none⟩,
    ⟨.call (some 24) true 110 [(.c (.sl true 2 [])), (.t 23)], none⟩,
    ⟨.tk 6 24, none⟩] false) [0, 6] 0)
  (.seq (.seq (.post (.region [
    ⟨.mv 25 (.t 0), none⟩,
    ⟨.len 26 0 (.t 25), none⟩,
    ⟨.mv 27 (.c (.int .i64 0)), none⟩] false) [6, 25, 26, 27] 0)
  (.cut f_slices_Concat_Lapi_Pair_api_Pair_l2))
  (.cut f_slices_Concat_Lapi_Pair_api_Pair_k2)))
def f_slices_Concat_Lapi_Pair_api_Pair_0 : ICode :=
  (.seq (.post (.region [
    ⟨.mv 2 (.c (.sl true 2 [])), none⟩] false) [0] 0)
  (.seq (.region [
    ⟨.mv 3 (.c (.int .i64 0)), none⟩] false)
  (.seq (.seq (.post (.region [
    ⟨.mv 9 (.t 0), none⟩,
    ⟨.len 10 0 (.t 9), none⟩,
    ⟨.mv 11 (.c (.int .i64 0)), none⟩] false) [0, 3, 9, 10, 11] 0)
  (.cut f_slices_Concat_Lapi_Pair_api_Pair_l1))
  (.cut f_slices_Concat_Lapi_Pair_api_Pair_k1))))
def f_slices_Concat_Lapi_Pair_api_Pair : IFunc := { np := 1, res := [.t 2], own := true, trunc := true, body := f_slices_Concat_Lapi_Pair_api_Pair_0 }

/- 86: slices.ContainsFunc[[]int,int] -/
def f_slices_ContainsFunc_Lint_int_0 : ICode :=
  (.seq (.post (.region [
    ⟨.mv 4 (.c (.bool false)), none⟩] false) [0, 1] 0)
  (.seq (.post (.region [
    ⟨.mv 5 (.t 0), none⟩,
    ⟨.mv 6 (.t 1), none⟩,
    ⟨.call (some 7) true 111 [(.t 5), (.t 6)], none⟩,
    ⟨.bin 8 .geq (.t 7) (.c (.int .i64 0)), none⟩,
    ⟨.mv 4 (.t 8), none⟩] false) [4] 0)
  .ret))
def f_slices_ContainsFunc_Lint_int : IFunc := { np := 2, res := [.t 4], own := false, trunc := true, body := f_slices_ContainsFunc_Lint_int_0 }

/- 100: slices.ContainsFunc[[][]int,[]int] -/
def f_slices_ContainsFunc_LLint_Lint_0 : ICode :=
  (.seq (.post (.region [
    ⟨.mv 4 (.c (.bool false)), none⟩] false) [0, 1] 0)
  (.seq (.post (.region [
    ⟨.mv 5 (.t 0), none⟩,
    ⟨.mv 6 (.t 1), none⟩,
    ⟨.call (some 7) true 117 [(.t 5), (.t 6)], none⟩,
    ⟨.bin 8 .geq (.t 7) (.c (.int .i64 0)), none⟩,
    ⟨.mv 4 (.t 8), none⟩] false) [4] 0)
  .ret))
def f_slices_ContainsFunc_LLint_Lint : IFunc := { np := 2, res := [.t 4], own := false, trunc := true, body := f_slices_ContainsFunc_LLint_Lint_0 }

/- 107: slices.Concat[[]int,int] -/
/- at its head: [0, 3, 9, 10, 11] -/
def f_slices_Concat_Lint_int_b1 : ICode :=
  (.post (.seq (.region [
    ⟨.bin 12 .lss (.t 11) (.t 10), none⟩] false)
  (.seq (.cond (.t 12) .skip
  (.exit 0))
  (.seq (.block 1 (.seq (.post (.region [
    ⟨.iaddr 13 1 none (.t 9) (.t 11), none⟩,
    ⟨.load 14 false 1 (.t 13), none⟩,
    ⟨.tk 5 14, none⟩] false) [0, 3, 5, 9, 10, 11] 0)
  (.seq (.post (.region [
    ⟨.mv 15 (.t 3), none⟩,
    ⟨.mv 16 (.t 5), none⟩,
    ⟨.len 17 0 (.t 16), none⟩,
    ⟨.bin 18 .add (.t 15) (.t 17), none⟩,
    ⟨.mv 3 (.t 18), none⟩] false) [0, 3, 9, 10, 11] 0)
  (.seq (.post (.region [
    ⟨.mv 19 (.t 3), none⟩,
    ⟨.bin 20 .lss (.t 19) (.c (.int .i64 0)), none⟩] false) [0, 3, 9, 10, 11, 20] 0)
  (.cond (.t 20) .bad
  .skip)))))
  (.post (.region [
    ⟨.bin 22 .add (.t 11) (.c (.int .i64 1)), none⟩,
    ⟨.mv 11 (.t 22), none⟩] false) [0, 3, 9, 10, 11] 0)))) [0, 3, 9, 10, 11] 0)
def f_slices_Concat_Lint_int_l1 : ICode :=
  (.post (.block 0 (.loop f_slices_Concat_Lint_int_b1)) [0, 3] 0)
/- at its head: [6, 25, 26, 27] -/
def f_slices_Concat_Lint_int_b2 : ICode :=
  (.post (.seq (.region [
    ⟨.bin 28 .lss (.t 27) (.t 26), none⟩] false)
  (.seq (.cond (.t 28) .skip
  (.exit 2))
  (.seq (.block 3 (.seq (.post (.region [
    ⟨.iaddr 29 1 none (.t 25) (.t 27), none⟩,
    ⟨.load 30 false 1 (.t 29), none⟩,
    ⟨.tk 8 30, none⟩] false) [6, 8, 25, 26, 27] 0)
  (.post (.region [
    ⟨.tk 31 6, none⟩,
    ⟨.mv 32 (.t 8), none⟩,
    ⟨.append 33 1 8 (.t 31) (.t 32), none⟩,
    ⟨.tk 6 33, none⟩] false) [6, 25, 26, 27] 0)))
  (.post (.region [
    ⟨.bin 34 .add (.t 27) (.c (.int .i64 1)), none⟩,
    ⟨.mv 27 (.t 34), none⟩] false) [6, 25, 26, 27] 0)))) [6, 25, 26, 27] 0)
def f_slices_Concat_Lint_int_l2 : ICode :=
  (.post (.block 2 (.loop f_slices_Concat_Lint_int_b2)) [6] 0)
def f_slices_Concat_Lint_int_k2 : ICode :=
  (.seq (.post (.region [
    ⟨.mv 35 (.t 6), none⟩,
    ⟨.tk 2 35, none⟩] false) [2] 0)
  .ret)
def f_slices_Concat_Lint_int_k1 : ICode :=
  (.seq (.post (.region [
    ⟨.mv 23 (.t 3), none⟩,
    ⟨.call (some 24) true 119 [(.c (.sl true 1 [])), (.t 23)], none⟩,
    ⟨.tk 6 24, none⟩] false) [0, 6] 0)
  (.seq (.seq (.post (.region [
    ⟨.mv 25 (.t 0), none⟩,
    ⟨.len 26 0 (.t 25), none⟩,
    ⟨.mv 27 (.c (.int .i64 0)), none⟩] false) [6, 25, 26, 27] 0)
  (.cut f_slices_Concat_Lint_int_l2))
  (.cut f_slices_Concat_Lint_int_k2)))
def f_slices_Concat_Lint_int_0 : ICode :=
  (.seq (.post (.region [
    ⟨.mv 2 (.c (.sl true 1 [])), none⟩] false) [0] 0)
  (.seq (.region [
    ⟨.mv 3 (.c (.int .i64 0)), none⟩] false)
  (.seq (.seq (.post (.region [
    ⟨.mv 9 (.t 0), none⟩,
    ⟨.len 10 0 (.t 9), none⟩,
    ⟨.mv 11 (.c (.int .i64 0)), none⟩] false) [0, 3, 9, 10, 11] 0)
  (.cut f_slices_Concat_Lint_int_l1))
  (.cut f_slices_Concat_Lint_int_k1))))
def f_slices_Concat_Lint_int : IFunc := { np := 1, res := [.t 2], own := true, trunc := true, body := f_slices_Concat_Lint_int_0 }

/- 111: slices.IndexFunc[[]int,int] -/
/- at its head: [0, 1, 7, 8] -/
def f_slices_IndexFunc_Lint_int_b1 : ICode :=
  (.post (.seq (.region [
    ⟨.bin 9 .lss (.t 8) (.t 7), none⟩] false)
  (.seq (.cond (.t 9) .skip
  (.exit 0))
  (.seq (.block 1 (.seq (.post (.region [
    ⟨.mv 10 (.t 8), none⟩,
    ⟨.mv 5 (.t 10), none⟩] false) [0, 1, 5, 7, 8] 0)
  (.seq (.post (.region [
    ⟨.mv 11 (.t 1), none⟩,
    ⟨.mv 12 (.t 0), none⟩,
    ⟨.mv 13 (.t 5), none⟩,
    ⟨.iaddr 14 1 none (.t 12) (.t 13), none⟩,
    ⟨.load 15 false 1 (.t 14), none⟩,
    ⟨.callv (some 16) true (.t 11) [(.t 15)], none⟩] false) [0, 1, 5, 7, 8, 16] 0)
  (.cond (.t 16) (.seq (.post (.region [
    ⟨.mv 17 (.t 5), none⟩,
    ⟨.mv 4 (.t 17), none⟩] false) [4] 0)
  .ret)
  .skip))))
  (.post (.region [
    ⟨.bin 18 .add (.t 8) (.c (.int .i64 1)), none⟩,
    ⟨.mv 8 (.t 18), none⟩] false) [0, 1, 7, 8] 0)))) [0, 1, 7, 8] 0)
def f_slices_IndexFunc_Lint_int_l1 : ICode :=
  (.post (.block 0 (.loop f_slices_IndexFunc_Lint_int_b1)) [] 0)
def f_slices_IndexFunc_Lint_int_k1 : ICode :=
  (.seq (.region [
    ⟨.mv 4 (.c (.int .i64 (-1))), none⟩] false)
  .ret)
def f_slices_IndexFunc_Lint_int_0 : ICode :=
  (.seq (.post (.region [
    ⟨.mv 4 (.c (.int .i64 0)), none⟩] false) [0, 1] 0)
  (.seq (.seq (.post (.region [
    ⟨.mv 6 (.t 0), none⟩,
    ⟨.len 7 0 (.t 6), none⟩,
    ⟨.mv 8 (.c (.int .i64 0)), none⟩] false) [0, 1, 7, 8] 0)
  (.cut f_slices_IndexFunc_Lint_int_l1))
  (.cut f_slices_IndexFunc_Lint_int_k1)))
def f_slices_IndexFunc_Lint_int : IFunc := { np := 2, res := [.t 4], own := false, trunc := true, body := f_slices_IndexFunc_Lint_int_0 }

/- 117: slices.IndexFunc[[][]int,[]int] -/
/- at its head: [0, 1, 7, 8] -/
def f_slices_IndexFunc_LLint_Lint_b1 : ICode :=
  (.post (.seq (.region [
    ⟨.bin 9 .lss (.t 8) (.t 7), none⟩] false)
  (.seq (.cond (.t 9) .skip
  (.exit 0))
  (.seq (.block 1 (.seq (.post (.region [
    ⟨.mv 10 (.t 8), none⟩,
    ⟨.mv 5 (.t 10), none⟩] false) [0, 1, 5, 7, 8] 0)
  (.seq (.post (.region [
    ⟨.mv 11 (.t 1), none⟩,
    ⟨.mv 12 (.t 0), none⟩,
    ⟨.mv 13 (.t 5), none⟩,
    ⟨.iaddr 14 1 none (.t 12) (.t 13), none⟩,
    ⟨.load 15 false 1 (.t 14), none⟩,
    ⟨.callv (some 16) true (.t 11) [(.t 15)], none⟩] false) [0, 1, 5, 7, 8, 16] 0)
  (.cond (.t 16) (.seq (.post (.region [
    ⟨.mv 17 (.t 5), none⟩,
    ⟨.mv 4 (.t 17), none⟩] false) [4] 0)
  .ret)
  .skip))))
  (.post (.region [
    ⟨.bin 18 .add (.t 8) (.c (.int .i64 1)), none⟩,
    ⟨.mv 8 (.t 18), none⟩] false) [0, 1, 7, 8] 0)))) [0, 1, 7, 8] 0)
def f_slices_IndexFunc_LLint_Lint_l1 : ICode :=
  (.post (.block 0 (.loop f_slices_IndexFunc_LLint_Lint_b1)) [] 0)
def f_slices_IndexFunc_LLint_Lint_k1 : ICode :=
  (.seq (.region [
    ⟨.mv 4 (.c (.int .i64 (-1))), none⟩] false)
  .ret)
def f_slices_IndexFunc_LLint_Lint_0 : ICode :=
  (.seq (.post (.region [
    ⟨.mv 4 (.c (.int .i64 0)), none⟩] false) [0, 1] 0)
  (.seq (.seq (.post (.region [
    ⟨.mv 6 (.t 0), none⟩,
    ⟨.len 7 0 (.t 6), none⟩,
    ⟨.mv 8 (.c (.int .i64 0)), none⟩] false) [0, 1, 7, 8] 0)
  (.cut f_slices_IndexFunc_LLint_Lint_l1))
  (.cut f_slices_IndexFunc_LLint_Lint_k1)))
def f_slices_IndexFunc_LLint_Lint : IFunc := { np := 2, res := [.t 4], own := false, trunc := true, body := f_slices_IndexFunc_LLint_Lint_0 }

end Go.Lw
end

/-! The code of package Model for the small machine. Written by program (gen.py). -/
section
set_option maxRecDepth 10000
namespace Go.Lw
open Go

/- 34: latchwork/model.Inputs -/
def f_model_Inputs_0 : ICode :=
  (.seq (.post (.region [
    ⟨.box 1 false false (.t 0), none⟩,
    ⟨.mv 2 (.c (.sl true 1 [])), none⟩,
    ⟨.mv 3 (.c (.int .i64 0)), none⟩] false) [1] 1)
  (.seq (.post (.region [
    ⟨.load 4 true 5 (.t 1), none⟩,
    ⟨.call (some 5) true 71 [(.t 4), (.c (.int .i64 2))], none⟩,
    ⟨.extract 6 (.t 5) 0, none⟩,
    ⟨.extract 7 (.t 5) 1, none⟩,
    ⟨.tk 2 6, none⟩,
    ⟨.mv 3 (.t 7), none⟩] false) [2, 3] 0)
  .ret))
def f_model_Inputs : IFunc := { np := 1, res := [.t 2, .t 3], own := false, trunc := true, body := f_model_Inputs_0 }

/- 35: latchwork/model.States -/
def f_model_States_0 : ICode :=
  (.seq (.post (.region [
    ⟨.box 1 false false (.t 0), none⟩,
    ⟨.mv 2 (.c (.sl true 1 [])), none⟩,
    ⟨.mv 3 (.c (.int .i64 0)), none⟩] false) [1] 1)
  (.seq (.post (.region [
    ⟨.load 4 true 5 (.t 1), none⟩,
    ⟨.call (some 5) true 71 [(.t 4), (.c (.int .i64 3))], none⟩,
    ⟨.extract 6 (.t 5) 0, none⟩,
    ⟨.extract 7 (.t 5) 1, none⟩,
    ⟨.tk 2 6, none⟩,
    ⟨.mv 3 (.t 7), none⟩] false) [2, 3] 0)
  .ret))
def f_model_States : IFunc := { np := 1, res := [.t 2, .t 3], own := false, trunc := true, body := f_model_States_0 }

/- 38: latchwork/model.Check -/
/- at its head: [1, 27, 28] -/
def f_model_Check_b1 : ICode :=
  (.post (.seq (.region [
    ⟨.bin 29 .lss (.t 28) (.t 27), none⟩] false)
  (.seq (.cond (.t 29) .skip
  (.exit 0))
  (.seq (.block 1 (.seq (.post (.region [
    ⟨.mv 30 (.t 28), none⟩,
    ⟨.mv 3 (.t 30), none⟩] false) [1, 3, 27, 28] 1)
  (.seq (.post (.region [
    ⟨.faddr 31 (.t 1) 0, none⟩,
    ⟨.load 32 false 1 (.t 31), none⟩,
    ⟨.mv 33 (.t 3), none⟩,
    ⟨.call (some 34) true 76 [(.t 32), (.t 33)], none⟩,
    ⟨.mv 4 (.t 34), none⟩] false) [1, 4, 27, 28] 1)
  (.seq (.post (.region [
    ⟨.mv 35 (.t 4), none⟩,
    ⟨.bin 36 .neq (.t 35) (.c (.int .i64 0)), none⟩] false) [1, 4, 27, 28, 36] 1)
  (.cond (.t 36) (.seq (.post (.region [
    ⟨.mv 37 (.t 4), none⟩,
    ⟨.mv 2 (.t 37), none⟩] false) [2] 0)
  .ret)
  .skip)))))
  (.post (.region [
    ⟨.bin 38 .add (.t 28) (.c (.int .i64 1)), none⟩,
    ⟨.mv 28 (.t 38), none⟩] false) [1, 27, 28] 1)))) [1, 27, 28] 1)
def f_model_Check_l1 : ICode :=
  (.post (.block 0 (.loop f_model_Check_b1)) [1] 1)
def f_model_Check_k1 : ICode :=
  (.seq (.seq (.post (.region [
    ⟨.load 40 true 5 (.t 1), none⟩,
    ⟨.call (some 41) true 77 [(.t 40)], none⟩,
    ⟨.mv 39 (.t 41), none⟩,
    ⟨.extract 42 (.t 39) 0, none⟩,
    ⟨.extract 43 (.t 39) 1, none⟩,
    ⟨.mv 5 (.t 42), none⟩,
    ⟨.mv 6 (.t 43), none⟩] false) [1, 5, 6] 1)
  (.seq (.post (.region [
    ⟨.mv 44 (.t 5), none⟩,
    ⟨.bin 45 .gtr (.t 44) (.c (.int .i64 6)), none⟩,
    ⟨.mv 46 (.t 45), none⟩,
    ⟨.mv 47 (.t 6), some (46, false)⟩,
    ⟨.bin 48 .gtr (.t 47) (.c (.int .i64 10)), some (46, false)⟩,
    ⟨.pick 49 (.t 46) (.c (.bool true)) (.t 48), none⟩] false) [1, 49] 1)
  (.cond (.t 49) (.seq (.post (.region [
    ⟨.mv 2 (.c (.int .i64 2)), none⟩] false) [2] 0)
  .ret)
  .skip)))
  (.seq (.post (.region [
    ⟨.load 50 true 5 (.t 1), none⟩,
    ⟨.buildT 51 [.sl true 6 [], .sl true 2 [], .sl true 2 [], .sl true 1 [], .sl true 1 [], .sl true 1 []] [(0, 5, (.t 50))], none⟩,
    ⟨.box 52 true true (.t 51), none⟩,
    ⟨.mv 7 (.t 52), none⟩] false) [7] 0)
  (.seq (.post (.region [
    ⟨.mv 53 (.t 7), none⟩,
    ⟨.call (some 54) false 78 [(.t 53)], none⟩] false) [7] 0)
  (.seq (.seq (.post (.region [
    ⟨.mv 55 (.t 7), none⟩,
    ⟨.call (some 56) true 79 [(.t 55)], none⟩,
    ⟨.mv 8 (.t 56), none⟩] false) [7, 8] 0)
  (.seq (.post (.region [
    ⟨.mv 57 (.t 8), none⟩,
    ⟨.bin 58 .neq (.t 57) (.c (.int .i64 0)), none⟩] false) [7, 8, 58] 0)
  (.cond (.t 58) (.seq (.post (.region [
    ⟨.mv 59 (.t 8), none⟩,
    ⟨.mv 2 (.t 59), none⟩] false) [2] 0)
  .ret)
  .skip)))
  (.seq (.post (.region [
    ⟨.mv 60 (.t 7), none⟩,
    ⟨.call (some 61) true 80 [(.t 60)], none⟩,
    ⟨.mv 2 (.t 61), none⟩] false) [2] 0)
  .ret)))))
def f_model_Check_0 : ICode :=
  (.seq (.post (.region [
    ⟨.box 1 false false (.t 0), none⟩,
    ⟨.mv 2 (.c (.int .i64 0)), none⟩] false) [1] 1)
  (.seq (.seq (.post (.region [
    ⟨.faddr 9 (.t 1) 0, none⟩,
    ⟨.load 10 false 1 (.t 9), none⟩,
    ⟨.len 11 0 (.t 10), none⟩,
    ⟨.bin 12 .gtr (.t 11) (.c (.int .i64 80)), none⟩,
    ⟨.mv 13 (.t 12), none⟩,
    ⟨.faddr 14 (.t 1) 3, some (13, false)⟩,
    ⟨.load 15 false 1 (.t 14), some (13, false)⟩,
    ⟨.len 16 0 (.t 15), some (13, false)⟩,
    ⟨.bin 17 .gtr (.t 16) (.c (.int .i64 8)), some (13, false)⟩,
    ⟨.pick 18 (.t 13) (.c (.bool true)) (.t 17), none⟩,
    ⟨.mv 19 (.t 18), none⟩,
    ⟨.faddr 20 (.t 1) 4, some (19, false)⟩,
    ⟨.load 21 false 1 (.t 20), some (19, false)⟩,
    ⟨.len 22 0 (.t 21), some (19, false)⟩,
    ⟨.bin 23 .gtr (.t 22) (.c (.int .i64 8)), some (19, false)⟩,
    ⟨.pick 24 (.t 19) (.c (.bool true)) (.t 23), none⟩] false) [1, 24] 1)
  (.cond (.t 24) (.seq (.post (.region [
    ⟨.mv 2 (.c (.int .i64 2)), none⟩] false) [2] 0)
  .ret)
  .skip))
  (.seq (.seq (.post (.region [
    ⟨.faddr 25 (.t 1) 0, none⟩,
    ⟨.load 26 false 1 (.t 25), none⟩,
    ⟨.len 27 0 (.t 26), none⟩,
    ⟨.mv 28 (.c (.int .i64 0)), none⟩] false) [1, 27, 28] 1)
  (.cut f_model_Check_l1))
  (.cut f_model_Check_k1))))
def f_model_Check : IFunc := { np := 1, res := [.t 2], own := false, trunc := true, body := f_model_Check_0 }

/- 42: latchwork/model.Cone -/
/- at its head: [1, 2, 7, 27, 28, 29] -/
def f_model_Cone_b1 : ICode :=
  (.post (.seq (.region [
    ⟨.bin 30 .lss (.t 29) (.t 28), none⟩] false)
  (.seq (.cond (.t 30) .skip
  (.exit 0))
  (.seq (.block 1 (.seq (.post (.region [
    ⟨.mv 31 (.t 29), none⟩,
    ⟨.iaddr 32 6 none (.t 27) (.t 29), none⟩,
    ⟨.load 33 true 6 (.t 32), none⟩,
    ⟨.alloc 9 false (.agg [.int .i64 0, .int .i64 0, .int .i64 0, .int .i64 0, .int .i64 0, .int .i64 0]), none⟩,
    ⟨.mv 8 (.t 31), none⟩,
    ⟨.store false 6 (.t 9) (.t 33), none⟩] false) [1, 2, 7, 8, 9, 27, 28, 29] 2)
  (.post (.region [
    ⟨.mv 34 (.t 7), none⟩,
    ⟨.mv 35 (.t 8), none⟩,
    ⟨.load 36 true 6 (.t 9), none⟩,
    ⟨.call (some 37) true 81 [(.t 36)], none⟩,
    ⟨.iaddr 38 1 none (.t 34) (.t 35), none⟩,
    ⟨.store true 1 (.t 38) (.t 37), none⟩] false) [1, 2, 7, 27, 28, 29] 1)))
  (.post (.region [
    ⟨.bin 39 .add (.t 29) (.c (.int .i64 1)), none⟩,
    ⟨.mv 29 (.t 39), none⟩] false) [1, 2, 7, 27, 28, 29] 1)))) [1, 2, 7, 27, 28, 29] 1)
def f_model_Cone_l1 : ICode :=
  (.post (.block 0 (.loop f_model_Cone_b1)) [1, 2, 7] 1)
/- at its head: [1, 2, 7, 45, 46, 47] -/
def f_model_Cone_b2 : ICode :=
  (.post (.seq (.region [
    ⟨.bin 48 .lss (.t 47) (.t 46), none⟩] false)
  (.seq (.cond (.t 48) .skip
  (.exit 2))
  (.seq (.block 3 (.seq (.post (.region [
    ⟨.iaddr 49 2 none (.t 45) (.t 47), none⟩,
    ⟨.load 50 true 2 (.t 49), none⟩,
    ⟨.alloc 11 false (.agg [.int .i64 0, .int .i64 0]), none⟩,
    ⟨.store false 2 (.t 11) (.t 50), none⟩] false) [1, 2, 7, 11, 45, 46, 47] 2)
  (.post (.region [
    ⟨.mv 51 (.t 7), none⟩,
    ⟨.faddr 52 (.t 11) 0, none⟩,
    ⟨.load 53 false 1 (.t 52), none⟩,
    ⟨.mv 54 (.t 7), none⟩,
    ⟨.faddr 55 (.t 11) 0, none⟩,
    ⟨.load 56 false 1 (.t 55), none⟩,
    ⟨.iaddr 57 1 none (.t 54) (.t 56), none⟩,
    ⟨.loadT 58 (.t 57), none⟩,
    ⟨.faddr 59 (.t 11) 1, none⟩,
    ⟨.load 60 false 1 (.t 59), none⟩,
    ⟨.buildSl 61 1 [(.t 60)], none⟩,
    ⟨.append 62 1 8 (.t 58) (.t 61), none⟩,
    ⟨.iaddr 63 1 none (.t 51) (.t 53), none⟩,
    ⟨.store true 1 (.t 63) (.t 62), none⟩] true) [1, 2, 7, 45, 46, 47] 1)))
  (.post (.region [
    ⟨.bin 64 .add (.t 47) (.c (.int .i64 1)), none⟩,
    ⟨.mv 47 (.t 64), none⟩] false) [1, 2, 7, 45, 46, 47] 1)))) [1, 2, 7, 45, 46, 47] 1)
def f_model_Cone_l2 : ICode :=
  (.post (.block 2 (.loop f_model_Cone_b2)) [1, 2, 7] 1)
/- at its head: [2, 7, 12, 13] -/
def f_model_Cone_b3 : ICode :=
  (.post (.seq (.seq (.post (.region [
    ⟨.mv 68 (.t 13), none⟩,
    ⟨.len 69 0 (.t 68), none⟩,
    ⟨.bin 70 .gtr (.t 69) (.c (.int .i64 0)), none⟩] false) [2, 7, 12, 13, 70] 1)
  (.cond (.t 70) .skip
  (.exit 4)))
  (.block 5 (.seq (.post (.region [
    ⟨.mv 71 (.t 13), none⟩,
    ⟨.mv 72 (.t 13), none⟩,
    ⟨.len 73 0 (.t 72), none⟩,
    ⟨.bin 74 .sub (.t 73) (.c (.int .i64 1)), none⟩,
    ⟨.iaddr 75 1 none (.t 71) (.t 74), none⟩,
    ⟨.load 76 false 1 (.t 75), none⟩,
    ⟨.mv 14 (.t 76), none⟩] false) [2, 7, 12, 13, 14] 1)
  (.seq (.post (.region [
    ⟨.mv 77 (.t 13), none⟩,
    ⟨.mv 78 (.t 13), none⟩,
    ⟨.len 79 0 (.t 78), none⟩,
    ⟨.bin 80 .sub (.t 79) (.c (.int .i64 1)), none⟩,
    ⟨.slice 81 1 (.t 77) none (some (.t 80)), none⟩,
    ⟨.tk 13 81, none⟩] false) [2, 7, 12, 13, 14] 1)
  (.seq (.seq (.post (.region [
    ⟨.mv 82 (.t 14), none⟩,
    ⟨.bin 83 .lss (.t 82) (.c (.int .i64 0)), none⟩,
    ⟨.mv 84 (.t 83), none⟩,
    ⟨.mv 85 (.t 14), some (84, false)⟩,
    ⟨.faddr 86 (.t 2) 0, some (84, false)⟩,
    ⟨.load 87 false 1 (.t 86), some (84, false)⟩,
    ⟨.len 88 0 (.t 87), some (84, false)⟩,
    ⟨.bin 89 .geq (.t 85) (.t 88), some (84, false)⟩,
    ⟨.pick 90 (.t 84) (.c (.bool true)) (.t 89), none⟩] false) [2, 7, 12, 13, 14, 90] 1)
  (.cond (.t 90) (.seq (.post (.region [
    ⟨.mv 4 (.c (.sl true 1 [])), none⟩,
    ⟨.mv 5 (.c (.int .i64 5)), none⟩] false) [4, 5] 0)
  .ret)
  .skip))
  (.seq (.post (.region [
    ⟨.mv 91 (.t 12), none⟩,
    ⟨.mv 92 (.t 14), none⟩,
    ⟨.lookup 93 0 (.t 91) (.t 92) false (.bool false), none⟩,
    ⟨.un 94 .not (.t 93), none⟩] false) [2, 7, 12, 13, 14, 94] 1)
  (.cond (.t 94) (.post (.seq (.post (.region [
    ⟨.mv 95 (.t 12), none⟩,
    ⟨.mv 96 (.t 14), none⟩,
    ⟨.mupd 0 (.t 95) (.t 96) (.c (.bool true)), none⟩] false) [2, 7, 12, 13, 14] 1)
  (.post (.region [
    ⟨.tk 97 13, none⟩,
    ⟨.mv 98 (.t 7), none⟩,
    ⟨.mv 99 (.t 14), none⟩,
    ⟨.iaddr 100 1 none (.t 98) (.t 99), none⟩,
    ⟨.load 101 false 1 (.t 100), none⟩,
    ⟨.append 102 1 8 (.t 97) (.t 101), none⟩,
    ⟨.tk 13 102, none⟩] false) [2, 7, 12, 13] 1)) [2, 7, 12, 13] 1)
  (.post .skip [2, 7, 12, 13] 1)))))))) [2, 7, 12, 13] 1)
def f_model_Cone_l3 : ICode :=
  (.post (.block 4 (.loop f_model_Cone_b3)) [2, 12] 1)
def f_model_Cone_k4 : ICode :=
  (.post (.region [
    ⟨.bin 116 .add (.t 106) (.c (.int .i64 1)), none⟩,
    ⟨.mv 106 (.t 116), none⟩] false) [12, 15, 105, 106] 0)
/- at its head: [12, 15, 105, 106] -/
def f_model_Cone_b4 : ICode :=
  (.post (.seq (.region [
    ⟨.bin 107 .lss (.t 106) (.t 105), none⟩] false)
  (.seq (.cond (.t 107) .skip
  (.exit 6))
  (.seq (.block 7 (.seq (.post (.region [
    ⟨.mv 108 (.t 106), none⟩,
    ⟨.mv 16 (.t 108), none⟩] false) [12, 15, 16, 105, 106] 0)
  (.seq (.post (.region [
    ⟨.mv 109 (.t 12), none⟩,
    ⟨.mv 110 (.t 16), none⟩,
    ⟨.lookup 111 0 (.t 109) (.t 110) false (.bool false), none⟩] false) [12, 15, 16, 105, 106, 111] 0)
  (.cond (.t 111) (.post (.post (.region [
    ⟨.tk 112 15, none⟩,
    ⟨.mv 113 (.t 16), none⟩,
    ⟨.buildSl 114 1 [(.t 113)], none⟩,
    ⟨.append 115 1 8 (.t 112) (.t 114), none⟩,
    ⟨.tk 15 115, none⟩] false) [12, 15, 105, 106] 0) [12, 15, 105, 106] 0)
  (.post .skip [12, 15, 105, 106] 0)))))
  (.cut f_model_Cone_k4)))) [12, 15, 105, 106] 0)
def f_model_Cone_l4 : ICode :=
  (.post (.block 6 (.loop f_model_Cone_b4)) [15] 0)
def f_model_Cone_k5 : ICode :=
  (.seq (.post (.region [
    ⟨.mv 117 (.t 15), none⟩,
    ⟨.tk 4 117, none⟩,
    ⟨.mv 5 (.c (.int .i64 0)), none⟩] false) [4, 5] 0)
  .ret)
def f_model_Cone_k3 : ICode :=
  (.seq (.region [
    ⟨.mv 15 (.c (.sl true 1 [])), none⟩] false)
  (.seq (.seq (.post (.region [
    ⟨.faddr 103 (.t 2) 0, none⟩,
    ⟨.load 104 false 1 (.t 103), none⟩,
    ⟨.len 105 0 (.t 104), none⟩,
    ⟨.mv 106 (.c (.int .i64 0)), none⟩] false) [12, 15, 105, 106] 0)
  (.cut f_model_Cone_l4))
  (.cut f_model_Cone_k5)))
def f_model_Cone_k2 : ICode :=
  (.seq (.post (.region [
    ⟨.mkmap 65, none⟩,
    ⟨.mv 12 (.t 65), none⟩] false) [1, 2, 7, 12] 1)
  (.seq (.post (.region [
    ⟨.mv 66 (.t 1), none⟩,
    ⟨.call (some 67) true 83 [(.t 66)], none⟩,
    ⟨.tk 13 67, none⟩] false) [2, 7, 12, 13] 1)
  (.seq (.cut f_model_Cone_l3)
  (.cut f_model_Cone_k3))))
def f_model_Cone_k1 : ICode :=
  (.seq (.seq (.post (.region [
    ⟨.faddr 40 (.t 2) 1, none⟩,
    ⟨.load 41 false 1 (.t 40), none⟩,
    ⟨.faddr 42 (.t 2) 2, none⟩,
    ⟨.load 43 false 1 (.t 42), none⟩,
    ⟨.buildSl 44 1 [(.t 41), (.t 43)], none⟩,
    ⟨.call (some 45) true 82 [(.t 44)], none⟩,
    ⟨.len 46 0 (.t 45), none⟩,
    ⟨.mv 47 (.c (.int .i64 0)), none⟩] false) [1, 2, 7, 45, 46, 47] 1)
  (.cut f_model_Cone_l2))
  (.cut f_model_Cone_k2))
def f_model_Cone_0 : ICode :=
  (.seq (.post (.region [
    ⟨.box 2 false false (.t 0), none⟩,
    ⟨.mv 4 (.c (.sl true 1 [])), none⟩,
    ⟨.mv 5 (.c (.int .i64 0)), none⟩] false) [1, 2] 1)
  (.seq (.seq (.post (.region [
    ⟨.load 17 true 5 (.t 2), none⟩,
    ⟨.call (some 18) true 38 [(.t 17)], none⟩,
    ⟨.mv 6 (.t 18), none⟩] false) [1, 2, 6] 1)
  (.seq (.post (.region [
    ⟨.mv 19 (.t 6), none⟩,
    ⟨.bin 20 .neq (.t 19) (.c (.int .i64 0)), none⟩] false) [1, 2, 6, 20] 1)
  (.cond (.t 20) (.seq (.post (.region [
    ⟨.mv 21 (.t 6), none⟩,
    ⟨.mv 4 (.c (.sl true 1 [])), none⟩,
    ⟨.mv 5 (.t 21), none⟩] false) [4, 5] 0)
  .ret)
  .skip)))
  (.seq (.post (.region [
    ⟨.faddr 22 (.t 2) 0, none⟩,
    ⟨.load 23 false 1 (.t 22), none⟩,
    ⟨.len 24 0 (.t 23), none⟩,
    ⟨.mksl 25 true 1 24 (.sl true 1 []) (.t 24), none⟩,
    ⟨.tk 7 25, none⟩] false) [1, 2, 7] 1)
  (.seq (.seq (.post (.region [
    ⟨.faddr 26 (.t 2) 0, none⟩,
    ⟨.load 27 false 1 (.t 26), none⟩,
    ⟨.len 28 0 (.t 27), none⟩,
    ⟨.mv 29 (.c (.int .i64 0)), none⟩] false) [1, 2, 7, 27, 28, 29] 1)
  (.cut f_model_Cone_l1))
  (.cut f_model_Cone_k1)))))
def f_model_Cone : IFunc := { np := 2, res := [.t 4, .t 5], own := false, trunc := true, body := f_model_Cone_0 }

/- 71: latchwork/model.of -/
def f_model_of_0 : ICode :=
  (.seq (.post (.region [
    ⟨.box 2 false false (.t 0), none⟩,
    ⟨.mv 4 (.c (.sl true 1 [])), none⟩,
    ⟨.mv 5 (.c (.int .i64 0)), none⟩] false) [1, 2] 1)
  (.seq (.seq (.post (.region [
    ⟨.load 7 true 5 (.t 2), none⟩,
    ⟨.call (some 8) true 38 [(.t 7)], none⟩,
    ⟨.mv 6 (.t 8), none⟩] false) [1, 2, 6] 1)
  (.seq (.post (.region [
    ⟨.mv 9 (.t 6), none⟩,
    ⟨.bin 10 .neq (.t 9) (.c (.int .i64 0)), none⟩] false) [1, 2, 6, 10] 1)
  (.cond (.t 10) (.seq (.post (.region [
    ⟨.mv 11 (.t 6), none⟩,
    ⟨.mv 4 (.c (.sl true 1 [])), none⟩,
    ⟨.mv 5 (.t 11), none⟩] false) [4, 5] 0)
  .ret)
  .skip)))
  (.seq (.post (.region [
    ⟨.load 12 true 5 (.t 2), none⟩,
    ⟨.mv 13 (.t 1), none⟩,
    ⟨.call (some 14) true 101 [(.t 12), (.t 13)], none⟩,
    ⟨.tk 4 14, none⟩,
    ⟨.mv 5 (.c (.int .i64 0)), none⟩] false) [4, 5] 0)
  .ret)))
def f_model_of : IFunc := { np := 2, res := [.t 4, .t 5], own := false, trunc := true, body := f_model_of_0 }

/- 76: latchwork/model.node -/
def f_model_node_k1 : ICode :=
  (.cond (.t 39) (.seq (.post (.region [
    ⟨.mv 4 (.c (.int .i64 1)), none⟩] false) [4] 0)
  .ret)
  .skip)
def f_model_node_k2 : ICode :=
  (.seq (.post (.region [
    ⟨.mv 4 (.c (.int .i64 0)), none⟩] false) [4] 0)
  .ret)
/- at its head: [0, 1, 5, 67, 68, 69] -/
def f_model_node_b1 : ICode :=
  (.post (.seq (.region [
    ⟨.bin 70 .lss (.t 69) (.t 68), none⟩] false)
  (.seq (.cond (.t 70) .skip
  (.exit 1))
  (.seq (.block 2 (.seq (.post (.region [
    ⟨.mv 71 (.t 69), none⟩,
    ⟨.iaddr 72 1 none (.t 67) (.t 69), none⟩,
    ⟨.load 73 false 1 (.t 72), none⟩,
    ⟨.mv 6 (.t 71), none⟩,
    ⟨.mv 7 (.t 73), none⟩] false) [0, 1, 5, 6, 7, 67, 68, 69] 1)
  (.seq (.post (.region [
    ⟨.mv 74 (.t 6), none⟩,
    ⟨.faddr 75 (.t 5) 0, none⟩,
    ⟨.load 76 false 1 (.t 75), none⟩,
    ⟨.call (some 77) true 63 [(.t 76)], none⟩,
    ⟨.bin 78 .lss (.t 74) (.t 77), none⟩,
    ⟨.mv 79 (.t 78), none⟩,
    ⟨.mv 80 (.t 7), some (79, true)⟩,
    ⟨.bin 81 .lss (.t 80) (.c (.int .i64 0)), some (79, true)⟩,
    ⟨.mv 82 (.t 81), some (79, true)⟩,
    ⟨.mv 83 (.t 7), some (82, false)⟩,
    ⟨.mv 84 (.t 1), some (82, false)⟩,
    ⟨.bin 85 .geq (.t 83) (.t 84), some (82, false)⟩,
    ⟨.pick 86 (.t 82) (.c (.bool true)) (.t 85), some (79, true)⟩,
    ⟨.pick 87 (.t 79) (.t 86) (.c (.bool false)), none⟩,
    ⟨.mv 88 (.t 87), none⟩,
    ⟨.mv 89 (.t 6), some (88, false)⟩,
    ⟨.faddr 90 (.t 5) 0, some (88, false)⟩,
    ⟨.load 91 false 1 (.t 90), some (88, false)⟩,
    ⟨.call (some 92) true 63 [(.t 91)], some (88, false)⟩,
    ⟨.bin 93 .geq (.t 89) (.t 92), some (88, false)⟩,
    ⟨.mv 94 (.t 93), some (88, false)⟩,
    ⟨.mv 95 (.t 7), some (94, true)⟩,
    ⟨.bin 96 .neq (.t 95) (.c (.int .i64 0)), some (94, true)⟩,
    ⟨.pick 97 (.t 94) (.t 96) (.c (.bool false)), some (88, false)⟩,
    ⟨.pick 98 (.t 88) (.c (.bool true)) (.t 97), none⟩] false) [0, 1, 5, 67, 68, 69, 98] 1)
  (.cond (.t 98) (.seq (.post (.region [
    ⟨.mv 4 (.c (.int .i64 4)), none⟩] false) [4] 0)
  .ret)
  .skip))))
  (.post (.region [
    ⟨.bin 99 .add (.t 69) (.c (.int .i64 1)), none⟩,
    ⟨.mv 69 (.t 99), none⟩] false) [0, 1, 5, 67, 68, 69] 1)))) [0, 1, 5, 67, 68, 69] 1)
def f_model_node_l1 : ICode :=
  (.post (.block 1 (.loop f_model_node_b1)) [0, 5] 1)
def f_model_node_k4 : ICode :=
  (.seq (.post (.region [
    ⟨.faddr 100 (.t 5) 0, none⟩,
    ⟨.load 101 false 1 (.t 100), none⟩,
    ⟨.faddr 102 (.t 5) 1, none⟩,
    ⟨.load 103 false 1 (.t 102), none⟩,
    ⟨.faddr 104 (.t 5) 5, none⟩,
    ⟨.load 105 false 1 (.t 104), none⟩,
    ⟨.mv 106 (.t 0), none⟩,
    ⟨.load 107 true 6 (.t 5), none⟩,
    ⟨.call (some 108) true 104 [(.t 106), (.t 107)], none⟩,
    ⟨.call (some 109) true 22 [(.t 101), (.t 103), (.t 105), (.t 108)], none⟩,
    ⟨.mv 4 (.t 109), none⟩] true) [4] 0)
  .ret)
def f_model_node_k3 : ICode :=
  (.seq (.seq (.post (.region [
    ⟨.faddr 61 (.t 5) 2, none⟩,
    ⟨.load 62 false 1 (.t 61), none⟩,
    ⟨.faddr 63 (.t 5) 3, none⟩,
    ⟨.load 64 false 1 (.t 63), none⟩,
    ⟨.faddr 65 (.t 5) 4, none⟩,
    ⟨.load 66 false 1 (.t 65), none⟩,
    ⟨.buildSl 67 1 [(.t 62), (.t 64), (.t 66)], none⟩,
    ⟨.len 68 0 (.t 67), none⟩,
    ⟨.mv 69 (.c (.int .i64 0)), none⟩] false) [0, 1, 5, 67, 68, 69] 1)
  (.cut f_model_node_l1))
  (.cut f_model_node_k4))
def f_model_node_0 : ICode :=
  (.seq (.post (.region [
    ⟨.mv 4 (.c (.int .i64 0)), none⟩] false) [0, 1] 0)
  (.seq (.post (.region [
    ⟨.mv 8 (.t 0), none⟩,
    ⟨.mv 9 (.t 1), none⟩,
    ⟨.iaddr 10 6 none (.t 8) (.t 9), none⟩,
    ⟨.load 11 true 6 (.t 10), none⟩,
    ⟨.alloc 5 false (.agg [.int .i64 0, .int .i64 0, .int .i64 0, .int .i64 0, .int .i64 0, .int .i64 0]), none⟩,
    ⟨.store false 6 (.t 5) (.t 11), none⟩] false) [0, 1, 5] 1)
  (.seq (.seq (.post (.region [
    ⟨.faddr 12 (.t 5) 0, none⟩,
    ⟨.load 13 false 1 (.t 12), none⟩,
    ⟨.bin 14 .lss (.t 13) (.c (.int .i64 1)), none⟩,
    ⟨.mv 15 (.t 14), none⟩,
    ⟨.faddr 16 (.t 5) 0, some (15, false)⟩,
    ⟨.load 17 false 1 (.t 16), some (15, false)⟩,
    ⟨.bin 18 .geq (.t 17) (.c (.int .i64 24)), some (15, false)⟩,
    ⟨.pick 19 (.t 15) (.c (.bool true)) (.t 18), none⟩] false) [0, 1, 5, 19] 1)
  (.cond (.t 19) (.seq (.post (.region [
    ⟨.mv 4 (.c (.int .i64 7)), none⟩] false) [4] 0)
  .ret)
  .skip))
  (.seq (.seq (.post (.region [
    ⟨.faddr 20 (.t 5) 1, none⟩,
    ⟨.load 21 false 1 (.t 20), none⟩,
    ⟨.call (some 22) true 62 [(.t 21)], none⟩,
    ⟨.un 23 .not (.t 22), none⟩] false) [0, 1, 5, 23] 1)
  (.cond (.t 23) (.seq (.post (.region [
    ⟨.mv 4 (.c (.int .i64 3)), none⟩] false) [4] 0)
  .ret)
  .skip))
  (.seq (.seq (.post (.region [
    ⟨.faddr 24 (.t 5) 0, none⟩,
    ⟨.load 25 false 1 (.t 24), none⟩,
    ⟨.call (some 26) true 103 [(.t 25)], none⟩] false) [0, 1, 5, 26] 1)
  (.cond (.t 26) (.seq (.block 0 (.seq (.post (.region [
    ⟨.faddr 28 (.t 5) 0, none⟩,
    ⟨.load 29 false 1 (.t 28), none⟩,
    ⟨.bin 30 .eql (.t 29) (.c (.int .i64 1)), none⟩,
    ⟨.mv 31 (.t 30), none⟩,
    ⟨.faddr 32 (.t 5) 5, some (31, true)⟩,
    ⟨.load 33 false 1 (.t 32), some (31, true)⟩,
    ⟨.faddr 34 (.t 5) 1, some (31, true)⟩,
    ⟨.load 35 false 1 (.t 34), some (31, true)⟩,
    ⟨.call (some 36) true 65 [(.t 33), (.t 35)], some (31, true)⟩,
    ⟨.un 37 .not (.t 36), some (31, true)⟩,
    ⟨.pick 38 (.t 31) (.t 37) (.c (.bool false)), none⟩,
    ⟨.mv 27 (.t 38), none⟩] false) [5, 27] 1)
  (.cond (.t 27) (.seq (.post (.region [
    ⟨.mv 4 (.c (.int .i64 3)), none⟩] false) [4] 0)
  .ret)
  (.seq (.seq (.post (.region [
    ⟨.faddr 40 (.t 5) 0, none⟩,
    ⟨.load 41 false 1 (.t 40), none⟩,
    ⟨.bin 42 .neq (.t 41) (.c (.int .i64 1)), none⟩,
    ⟨.mv 43 (.t 42), none⟩,
    ⟨.faddr 44 (.t 5) 5, some (43, true)⟩,
    ⟨.load 45 false 1 (.t 44), some (43, true)⟩,
    ⟨.bin 46 .neq (.t 45) (.c (.int .i64 0)), some (43, true)⟩,
    ⟨.pick 47 (.t 43) (.t 46) (.c (.bool false)), none⟩,
    ⟨.mv 39 (.t 47), none⟩] false) [5, 39] 1)
  (.cond (.t 39) (.post .skip [39] 0)
  (.post (.post (.region [
    ⟨.faddr 48 (.t 5) 2, none⟩,
    ⟨.load 49 false 1 (.t 48), none⟩,
    ⟨.bin 50 .neq (.t 49) (.c (.int .i64 0)), none⟩,
    ⟨.mv 51 (.t 50), none⟩,
    ⟨.faddr 52 (.t 5) 3, some (51, false)⟩,
    ⟨.load 53 false 1 (.t 52), some (51, false)⟩,
    ⟨.bin 54 .neq (.t 53) (.c (.int .i64 0)), some (51, false)⟩,
    ⟨.pick 55 (.t 51) (.c (.bool true)) (.t 54), none⟩,
    ⟨.mv 56 (.t 55), none⟩,
    ⟨.faddr 57 (.t 5) 4, some (56, false)⟩,
    ⟨.load 58 false 1 (.t 57), some (56, false)⟩,
    ⟨.bin 59 .neq (.t 58) (.c (.int .i64 0)), some (56, false)⟩,
    ⟨.pick 60 (.t 56) (.c (.bool true)) (.t 59), none⟩,
    ⟨.mv 39 (.t 60), none⟩] false) [39] 0) [39] 0)))
  (.cut f_model_node_k1)))))
  (.cut f_model_node_k2))
  .skip))
  (.cut f_model_node_k3))))))
def f_model_node : IFunc := { np := 2, res := [.t 4], own := false, trunc := true, body := f_model_node_0 }

/- 77: latchwork/model.Bits -/
def f_model_Bits_0 : ICode :=
  (.seq (.post (.region [
    ⟨.box 1 false false (.t 0), none⟩,
    ⟨.mv 2 (.c (.int .i64 0)), none⟩,
    ⟨.mv 3 (.c (.int .i64 0)), none⟩] false) [1] 1)
  (.seq (.post (.region [
    ⟨.load 4 true 5 (.t 1), none⟩,
    ⟨.load 5 true 5 (.t 1), none⟩,
    ⟨.call (some 6) true 101 [(.t 5), (.c (.int .i64 2))], none⟩,
    ⟨.call (some 7) true 105 [(.t 4), (.t 6)], none⟩,
    ⟨.load 8 true 5 (.t 1), none⟩,
    ⟨.load 9 true 5 (.t 1), none⟩,
    ⟨.call (some 10) true 101 [(.t 9), (.c (.int .i64 3))], none⟩,
    ⟨.call (some 11) true 105 [(.t 8), (.t 10)], none⟩,
    ⟨.mv 2 (.t 7), none⟩,
    ⟨.mv 3 (.t 11), none⟩] true) [2, 3] 0)
  .ret))
def f_model_Bits : IFunc := { np := 1, res := [.t 2, .t 3], own := false, trunc := true, body := f_model_Bits_0 }

/- 78: (*latchwork/model.checker).lean -/
/- at its head: [0, 4, 11, 12, 13, 26, 27, 28] -/
def f_model_checker_lean_b2 : ICode :=
  (.post (.seq (.region [
    ⟨.bin 29 .lss (.t 28) (.t 27), none⟩] false)
  (.seq (.cond (.t 29) .skip
  (.exit 2))
  (.seq (.block 3 (.seq (.post (.region [
    ⟨.iaddr 30 1 none (.t 26) (.t 28), none⟩,
    ⟨.load 31 false 1 (.t 30), none⟩,
    ⟨.mv 6 (.t 31), none⟩] false) [0, 4, 6, 11, 12, 13, 26, 27, 28] 0)
  (.post (.region [
    ⟨.mv 32 (.t 4), none⟩,
    ⟨.mv 33 (.t 32), none⟩,
    ⟨.mv 34 (.t 0), some (33, false)⟩,
    ⟨.nilc 35 (.t 34), some (33, false)⟩,
    ⟨.faddr 36 (.t 35) 5, some (33, false)⟩,
    ⟨.load 37 false 1 (.t 36), some (33, false)⟩,
    ⟨.mv 38 (.t 6), some (33, false)⟩,
    ⟨.iaddr 39 1 none (.t 37) (.t 38), some (33, false)⟩,
    ⟨.load 40 false 1 (.t 39), some (33, false)⟩,
    ⟨.pick 41 (.t 33) (.c (.bool true)) (.t 40), none⟩,
    ⟨.mv 4 (.t 41), none⟩] false) [0, 4, 11, 12, 13, 26, 27, 28] 0)))
  (.post (.region [
    ⟨.bin 42 .add (.t 28) (.c (.int .i64 1)), none⟩,
    ⟨.mv 28 (.t 42), none⟩] false) [0, 4, 11, 12, 13, 26, 27, 28] 0)))) [0, 4, 11, 12, 13, 26, 27, 28] 0)
def f_model_checker_lean_l2 : ICode :=
  (.post (.block 2 (.loop f_model_checker_lean_b2)) [0, 4, 11, 12, 13] 0)
def f_model_checker_lean_k1 : ICode :=
  (.post (.region [
    ⟨.mv 43 (.t 0), none⟩,
    ⟨.mv 44 (.t 0), none⟩,
    ⟨.nilc 45 (.t 44), none⟩,
    ⟨.faddr 46 (.t 45) 5, none⟩,
    ⟨.loadT 47 (.t 46), none⟩,
    ⟨.mv 48 (.t 4), none⟩,
    ⟨.buildSl 49 1 [(.t 48)], none⟩,
    ⟨.append 50 1 1 (.t 47) (.t 49), none⟩,
    ⟨.nilc 51 (.t 43), none⟩,
    ⟨.faddr 52 (.t 51) 5, none⟩,
    ⟨.store true 1 (.t 52) (.t 50), none⟩] false) [0, 11, 12, 13] 0)
def f_model_checker_lean_k2 : ICode :=
  (.post (.region [
    ⟨.bin 53 .add (.t 13) (.c (.int .i64 1)), none⟩,
    ⟨.mv 13 (.t 53), none⟩] false) [0, 11, 12, 13] 0)
/- at its head: [0, 11, 12, 13] -/
def f_model_checker_lean_b1 : ICode :=
  (.post (.seq (.region [
    ⟨.bin 14 .lss (.t 13) (.t 12), none⟩] false)
  (.seq (.cond (.t 14) .skip
  (.exit 0))
  (.seq (.block 1 (.seq (.post (.region [
    ⟨.iaddr 15 6 none (.t 11) (.t 13), none⟩,
    ⟨.load 16 true 6 (.t 15), none⟩,
    ⟨.alloc 3 false (.agg [.int .i64 0, .int .i64 0, .int .i64 0, .int .i64 0, .int .i64 0, .int .i64 0]), none⟩,
    ⟨.store false 6 (.t 3) (.t 16), none⟩] false) [0, 3, 11, 12, 13] 1)
  (.seq (.post (.region [
    ⟨.faddr 17 (.t 3) 0, none⟩,
    ⟨.load 18 false 1 (.t 17), none⟩,
    ⟨.bin 19 .eql (.t 18) (.c (.int .i64 2)), none⟩,
    ⟨.mv 20 (.t 19), none⟩,
    ⟨.faddr 21 (.t 3) 0, some (20, false)⟩,
    ⟨.load 22 false 1 (.t 21), some (20, false)⟩,
    ⟨.bin 23 .eql (.t 22) (.c (.int .i64 3)), some (20, false)⟩,
    ⟨.pick 24 (.t 20) (.c (.bool true)) (.t 23), none⟩,
    ⟨.mv 4 (.t 24), none⟩] false) [0, 3, 4, 11, 12, 13] 1)
  (.seq (.seq (.post (.region [
    ⟨.load 25 true 6 (.t 3), none⟩,
    ⟨.call (some 26) true 81 [(.t 25)], none⟩,
    ⟨.len 27 0 (.t 26), none⟩,
    ⟨.mv 28 (.c (.int .i64 0)), none⟩] false) [0, 4, 11, 12, 13, 26, 27, 28] 0)
  (.cut f_model_checker_lean_l2))
  (.cut f_model_checker_lean_k1)))))
  (.cut f_model_checker_lean_k2)))) [0, 11, 12, 13] 0)
def f_model_checker_lean_l1 : ICode :=
  (.post (.block 0 (.loop f_model_checker_lean_b1)) [] 0)
def f_model_checker_lean_0 : ICode :=
  (.seq (.post (.region [
    ⟨.mv 7 (.t 0), none⟩,
    ⟨.nilc 8 (.t 7), none⟩,
    ⟨.faddr 9 (.t 8) 0, none⟩,
    ⟨.faddr 10 (.t 9) 0, none⟩,
    ⟨.load 11 false 1 (.t 10), none⟩,
    ⟨.len 12 0 (.t 11), none⟩,
    ⟨.mv 13 (.c (.int .i64 0)), none⟩] false) [0, 11, 12, 13] 0)
  (.cut f_model_checker_lean_l1))
def f_model_checker_lean : IFunc := { np := 1, res := [], own := false, trunc := false, body := f_model_checker_lean_0 }

/- 79: (*latchwork/model.checker).pairs -/
/- at its head: [0, 3, 23, 24, 25, 30, 31, 32] -/
def f_model_checker_pairs_b2 : ICode :=
  (.post (.seq (.region [
    ⟨.bin 33 .lss (.t 32) (.t 31), none⟩] false)
  (.seq (.cond (.t 33) .skip
  (.exit 2))
  (.seq (.block 3 (.seq (.post (.region [
    ⟨.iaddr 34 2 none (.t 30) (.t 32), none⟩,
    ⟨.load 35 true 2 (.t 34), none⟩,
    ⟨.alloc 6 false (.agg [.int .i64 0, .int .i64 0]), none⟩,
    ⟨.store false 2 (.t 6) (.t 35), none⟩] false) [0, 3, 6, 23, 24, 25, 30, 31, 32] 1)
  (.seq (.post (.region [
    ⟨.mv 36 (.t 0), none⟩,
    ⟨.load 37 true 2 (.t 6), none⟩,
    ⟨.mv 38 (.t 3), none⟩,
    ⟨.bin 39 .eql (.t 38) (.c (.int .i64 0)), none⟩,
    ⟨.call (some 40) true 106 [(.t 36), (.t 37), (.t 39)], none⟩,
    ⟨.mv 7 (.t 40), none⟩] false) [0, 3, 7, 23, 24, 25, 30, 31, 32] 0)
  (.seq (.post (.region [
    ⟨.mv 41 (.t 7), none⟩,
    ⟨.bin 42 .neq (.t 41) (.c (.int .i64 0)), none⟩] false) [0, 3, 7, 23, 24, 25, 30, 31, 32, 42] 0)
  (.cond (.t 42) (.seq (.post (.region [
    ⟨.mv 43 (.t 7), none⟩,
    ⟨.mv 2 (.t 43), none⟩] false) [2] 0)
  .ret)
  .skip)))))
  (.post (.region [
    ⟨.bin 44 .add (.t 32) (.c (.int .i64 1)), none⟩,
    ⟨.mv 32 (.t 44), none⟩] false) [0, 3, 23, 24, 25, 30, 31, 32] 0)))) [0, 3, 23, 24, 25, 30, 31, 32] 0)
def f_model_checker_pairs_l2 : ICode :=
  (.post (.block 2 (.loop f_model_checker_pairs_b2)) [0, 23, 24, 25] 0)
def f_model_checker_pairs_k1 : ICode :=
  (.post (.region [
    ⟨.bin 45 .add (.t 25) (.c (.int .i64 1)), none⟩,
    ⟨.mv 25 (.t 45), none⟩] false) [0, 23, 24, 25] 0)
/- at its head: [0, 23, 24, 25] -/
def f_model_checker_pairs_b1 : ICode :=
  (.post (.seq (.region [
    ⟨.bin 26 .lss (.t 25) (.t 24), none⟩] false)
  (.seq (.cond (.t 26) .skip
  (.exit 0))
  (.seq (.block 1 (.seq (.post (.region [
    ⟨.mv 27 (.t 25), none⟩,
    ⟨.iaddr 28 1 none (.t 23) (.t 25), none⟩,
    ⟨.load 29 false 1 (.t 28), none⟩,
    ⟨.mv 3 (.t 27), none⟩,
    ⟨.tk 4 29, none⟩] false) [0, 3, 4, 23, 24, 25] 0)
  (.seq (.post (.region [
    ⟨.mv 30 (.t 4), none⟩,
    ⟨.len 31 0 (.t 30), none⟩,
    ⟨.mv 32 (.c (.int .i64 0)), none⟩] false) [0, 3, 23, 24, 25, 30, 31, 32] 0)
  (.cut f_model_checker_pairs_l2))))
  (.cut f_model_checker_pairs_k1)))) [0, 23, 24, 25] 0)
def f_model_checker_pairs_l1 : ICode :=
  (.post (.block 0 (.loop f_model_checker_pairs_b1)) [0] 0)
/- at its head: [9, 10, 56, 57, 58, 63, 64, 65] -/
def f_model_checker_pairs_b4 : ICode :=
  (.post (.seq (.region [
    ⟨.bin 66 .lss (.t 65) (.t 64), none⟩] false)
  (.seq (.cond (.t 66) .skip
  (.exit 6))
  (.seq (.block 7 (.seq (.post (.region [
    ⟨.iaddr 67 2 none (.t 63) (.t 65), none⟩,
    ⟨.load 68 true 2 (.t 67), none⟩,
    ⟨.alloc 12 false (.agg [.int .i64 0, .int .i64 0]), none⟩,
    ⟨.store false 2 (.t 12) (.t 68), none⟩] false) [9, 10, 12, 56, 57, 58, 63, 64, 65] 1)
  (.post (.region [
    ⟨.mv 69 (.t 10), none⟩,
    ⟨.faddr 70 (.t 12) 0, none⟩,
    ⟨.load 71 false 1 (.t 70), none⟩,
    ⟨.mupd 0 (.t 69) (.t 71) (.c (.bool true)), none⟩] false) [9, 10, 56, 57, 58, 63, 64, 65] 0)))
  (.post (.region [
    ⟨.bin 72 .add (.t 65) (.c (.int .i64 1)), none⟩,
    ⟨.mv 65 (.t 72), none⟩] false) [9, 10, 56, 57, 58, 63, 64, 65] 0)))) [9, 10, 56, 57, 58, 63, 64, 65] 0)
def f_model_checker_pairs_l4 : ICode :=
  (.post (.block 6 (.loop f_model_checker_pairs_b4)) [9, 10, 56, 57, 58] 0)
def f_model_checker_pairs_k3 : ICode :=
  (.seq (.post (.region [
    ⟨.mv 73 (.t 10), none⟩,
    ⟨.len 74 2 (.t 73), none⟩,
    ⟨.mv 75 (.t 9), none⟩,
    ⟨.len 76 0 (.t 75), none⟩,
    ⟨.bin 77 .lss (.t 74) (.t 76), none⟩] false) [56, 57, 58, 77] 0)
  (.cond (.t 77) (.seq (.post (.region [
    ⟨.mv 2 (.c (.int .i64 6)), none⟩] false) [2] 0)
  .ret)
  .skip))
def f_model_checker_pairs_k4 : ICode :=
  (.post (.region [
    ⟨.bin 78 .add (.t 58) (.c (.int .i64 1)), none⟩,
    ⟨.mv 58 (.t 78), none⟩] false) [56, 57, 58] 0)
/- at its head: [56, 57, 58] -/
def f_model_checker_pairs_b3 : ICode :=
  (.post (.seq (.region [
    ⟨.bin 59 .lss (.t 58) (.t 57), none⟩] false)
  (.seq (.cond (.t 59) .skip
  (.exit 4))
  (.seq (.block 5 (.seq (.post (.region [
    ⟨.iaddr 60 1 none (.t 56) (.t 58), none⟩,
    ⟨.load 61 false 1 (.t 60), none⟩,
    ⟨.tk 9 61, none⟩] false) [9, 56, 57, 58] 0)
  (.seq (.post (.region [
    ⟨.mkmap 62, none⟩,
    ⟨.mv 10 (.t 62), none⟩] false) [9, 10, 56, 57, 58] 0)
  (.seq (.seq (.post (.region [
    ⟨.mv 63 (.t 9), none⟩,
    ⟨.len 64 0 (.t 63), none⟩,
    ⟨.mv 65 (.c (.int .i64 0)), none⟩] false) [9, 10, 56, 57, 58, 63, 64, 65] 0)
  (.cut f_model_checker_pairs_l4))
  (.cut f_model_checker_pairs_k3)))))
  (.cut f_model_checker_pairs_k4)))) [56, 57, 58] 0)
def f_model_checker_pairs_l3 : ICode :=
  (.post (.block 4 (.loop f_model_checker_pairs_b3)) [] 0)
def f_model_checker_pairs_k5 : ICode :=
  (.seq (.region [
    ⟨.mv 2 (.c (.int .i64 0)), none⟩] false)
  .ret)
def f_model_checker_pairs_k2 : ICode :=
  (.seq (.seq (.post (.region [
    ⟨.mv 46 (.t 0), none⟩,
    ⟨.nilc 47 (.t 46), none⟩,
    ⟨.faddr 48 (.t 47) 0, none⟩,
    ⟨.faddr 49 (.t 48) 1, none⟩,
    ⟨.load 50 false 1 (.t 49), none⟩,
    ⟨.mv 51 (.t 0), none⟩,
    ⟨.nilc 52 (.t 51), none⟩,
    ⟨.faddr 53 (.t 52) 0, none⟩,
    ⟨.faddr 54 (.t 53) 2, none⟩,
    ⟨.load 55 false 1 (.t 54), none⟩,
    ⟨.buildSl 56 1 [(.t 50), (.t 55)], none⟩,
    ⟨.len 57 0 (.t 56), none⟩,
    ⟨.mv 58 (.c (.int .i64 0)), none⟩] true) [56, 57, 58] 0)
  (.cut f_model_checker_pairs_l3))
  (.cut f_model_checker_pairs_k5))
def f_model_checker_pairs_0 : ICode :=
  (.seq (.post (.region [
    ⟨.mv 2 (.c (.int .i64 0)), none⟩] false) [0] 0)
  (.seq (.seq (.post (.region [
    ⟨.mv 13 (.t 0), none⟩,
    ⟨.nilc 14 (.t 13), none⟩,
    ⟨.faddr 15 (.t 14) 0, none⟩,
    ⟨.faddr 16 (.t 15) 1, none⟩,
    ⟨.load 17 false 1 (.t 16), none⟩,
    ⟨.mv 18 (.t 0), none⟩,
    ⟨.nilc 19 (.t 18), none⟩,
    ⟨.faddr 20 (.t 19) 0, none⟩,
    ⟨.faddr 21 (.t 20) 2, none⟩,
    ⟨.load 22 false 1 (.t 21), none⟩,
    ⟨.buildSl 23 1 [(.t 17), (.t 22)], none⟩,
    ⟨.len 24 0 (.t 23), none⟩,
    ⟨.mv 25 (.c (.int .i64 0)), none⟩] true) [0, 23, 24, 25] 0)
  (.cut f_model_checker_pairs_l1))
  (.cut f_model_checker_pairs_k2)))
def f_model_checker_pairs : IFunc := { np := 1, res := [.t 2], own := false, trunc := true, body := f_model_checker_pairs_0 }

/- 80: (*latchwork/model.checker).marks -/
def f_model_checker_marks_0 : ICode :=
  (.seq (.post (.region [
    ⟨.box 1 true false (.t 0), none⟩,
    ⟨.mv 2 (.c (.int .i64 0)), none⟩] false) [1] 0)
  (.seq (.seq (.post (.region [
    ⟨.load 4 false 1 (.t 1), none⟩,
    ⟨.nilc 5 (.t 4), none⟩,
    ⟨.faddr 6 (.t 5) 0, none⟩,
    ⟨.faddr 7 (.t 6) 2, none⟩,
    ⟨.load 8 false 1 (.t 7), none⟩,
    ⟨.len 9 0 (.t 8), none⟩,
    ⟨.load 10 false 1 (.t 1), none⟩,
    ⟨.nilc 11 (.t 10), none⟩,
    ⟨.faddr 12 (.t 11) 0, none⟩,
    ⟨.load 13 true 5 (.t 12), none⟩,
    ⟨.call (some 14) true 101 [(.t 13), (.c (.int .i64 3))], none⟩,
    ⟨.len 15 0 (.t 14), none⟩,
    ⟨.bin 16 .lss (.t 9) (.t 15), none⟩] true) [1, 16] 0)
  (.cond (.t 16) (.seq (.post (.region [
    ⟨.mv 2 (.c (.int .i64 5)), none⟩] false) [2] 0)
  .ret)
  .skip))
  (.seq (.post (.region [
    ⟨.load 17 false 1 (.t 1), none⟩,
    ⟨.nilc 18 (.t 17), none⟩,
    ⟨.faddr 19 (.t 18) 0, none⟩,
    ⟨.faddr 20 (.t 19) 3, none⟩,
    ⟨.load 21 false 1 (.t 20), none⟩,
    ⟨.load 22 false 1 (.t 1), none⟩,
    ⟨.nilc 23 (.t 22), none⟩,
    ⟨.faddr 24 (.t 23) 0, none⟩,
    ⟨.faddr 25 (.t 24) 4, none⟩,
    ⟨.load 26 false 1 (.t 25), none⟩,
    ⟨.buildSl 27 1 [(.t 21), (.t 26)], none⟩,
    ⟨.call (some 28) true 107 [(.t 27)], none⟩,
    ⟨.tk 3 28, none⟩] true) [1, 3] 0)
  (.seq (.seq (.post (.region [
    ⟨.mv 29 (.t 3), none⟩,
    ⟨.mkfn 30 108 [(.t 1)], none⟩,
    ⟨.call (some 31) true 86 [(.t 29), (.t 30)], none⟩] false) [1, 3, 31] 0)
  (.cond (.t 31) (.seq (.post (.region [
    ⟨.mv 2 (.c (.int .i64 5)), none⟩] false) [2] 0)
  .ret)
  .skip))
  (.seq (.seq (.post (.region [
    ⟨.mv 32 (.t 3), none⟩,
    ⟨.mkfn 33 109 [(.t 1)], none⟩,
    ⟨.call (some 34) true 86 [(.t 32), (.t 33)], none⟩] false) [34] 0)
  (.cond (.t 34) (.seq (.post (.region [
    ⟨.mv 2 (.c (.int .i64 1)), none⟩] false) [2] 0)
  .ret)
  .skip))
  (.seq (.post (.region [
    ⟨.mv 2 (.c (.int .i64 0)), none⟩] false) [2] 0)
  .ret))))))
def f_model_checker_marks : IFunc := { np := 1, res := [.t 2], own := false, trunc := true, body := f_model_checker_marks_0 }

/- 81: latchwork/model.Args -/
def f_model_Args_0 : ICode :=
  (.seq (.post (.region [
    ⟨.box 1 false false (.t 0), none⟩,
    ⟨.mv 2 (.c (.sl true 1 [])), none⟩] false) [1] 1)
  (.seq (.post (.region [
    ⟨.faddr 3 (.t 1) 2, none⟩,
    ⟨.load 4 false 1 (.t 3), none⟩,
    ⟨.faddr 5 (.t 1) 3, none⟩,
    ⟨.load 6 false 1 (.t 5), none⟩,
    ⟨.faddr 7 (.t 1) 4, none⟩,
    ⟨.load 8 false 1 (.t 7), none⟩,
    ⟨.buildSl 9 1 [(.t 4), (.t 6), (.t 8)], none⟩,
    ⟨.faddr 10 (.t 1) 0, none⟩,
    ⟨.load 11 false 1 (.t 10), none⟩,
    ⟨.call (some 12) true 63 [(.t 11)], none⟩,
    ⟨.slice 13 1 (.t 9) none (some (.t 12)), none⟩,
    ⟨.tk 2 13, none⟩] true) [2] 0)
  .ret))
def f_model_Args : IFunc := { np := 1, res := [.t 2], own := true, trunc := true, body := f_model_Args_0 }

/- 101: latchwork/model.Of -/
def f_model_Of_k1 : ICode :=
  (.post (.region [
    ⟨.bin 24 .add (.t 11) (.c (.int .i64 1)), none⟩,
    ⟨.mv 11 (.t 24), none⟩] false) [1, 5, 9, 10, 11] 0)
/- at its head: [1, 5, 9, 10, 11] -/
def f_model_Of_b1 : ICode :=
  (.post (.seq (.region [
    ⟨.bin 12 .lss (.t 11) (.t 10), none⟩] false)
  (.seq (.cond (.t 12) .skip
  (.exit 0))
  (.seq (.block 1 (.seq (.post (.region [
    ⟨.mv 13 (.t 11), none⟩,
    ⟨.iaddr 14 6 none (.t 9) (.t 11), none⟩,
    ⟨.load 15 true 6 (.t 14), none⟩,
    ⟨.alloc 7 false (.agg [.int .i64 0, .int .i64 0, .int .i64 0, .int .i64 0, .int .i64 0, .int .i64 0]), none⟩,
    ⟨.mv 6 (.t 13), none⟩,
    ⟨.store false 6 (.t 7) (.t 15), none⟩] false) [1, 5, 6, 7, 9, 10, 11] 1)
  (.seq (.post (.region [
    ⟨.faddr 16 (.t 7) 0, none⟩,
    ⟨.load 17 false 1 (.t 16), none⟩,
    ⟨.mv 18 (.t 1), none⟩,
    ⟨.bin 19 .eql (.t 17) (.t 18), none⟩] false) [1, 5, 6, 9, 10, 11, 19] 0)
  (.cond (.t 19) (.post (.post (.region [
    ⟨.tk 20 5, none⟩,
    ⟨.mv 21 (.t 6), none⟩,
    ⟨.buildSl 22 1 [(.t 21)], none⟩,
    ⟨.append 23 1 8 (.t 20) (.t 22), none⟩,
    ⟨.tk 5 23, none⟩] false) [1, 5, 9, 10, 11] 0) [1, 5, 9, 10, 11] 0)
  (.post .skip [1, 5, 9, 10, 11] 0)))))
  (.cut f_model_Of_k1)))) [1, 5, 9, 10, 11] 0)
def f_model_Of_l1 : ICode :=
  (.post (.block 0 (.loop f_model_Of_b1)) [5] 0)
def f_model_Of_k2 : ICode :=
  (.seq (.post (.region [
    ⟨.mv 25 (.t 5), none⟩,
    ⟨.tk 4 25, none⟩] false) [4] 0)
  .ret)
def f_model_Of_0 : ICode :=
  (.seq (.post (.region [
    ⟨.box 2 false false (.t 0), none⟩,
    ⟨.mv 4 (.c (.sl true 1 [])), none⟩] false) [1, 2] 1)
  (.seq (.region [
    ⟨.mv 5 (.c (.sl true 1 [])), none⟩] false)
  (.seq (.seq (.post (.region [
    ⟨.faddr 8 (.t 2) 0, none⟩,
    ⟨.load 9 false 1 (.t 8), none⟩,
    ⟨.len 10 0 (.t 9), none⟩,
    ⟨.mv 11 (.c (.int .i64 0)), none⟩] false) [1, 5, 9, 10, 11] 0)
  (.cut f_model_Of_l1))
  (.cut f_model_Of_k2))))
def f_model_Of : IFunc := { np := 2, res := [.t 4], own := false, trunc := true, body := f_model_Of_0 }

/- 103: latchwork/model.leaf -/
def f_model_leaf_0 : ICode :=
  (.seq (.post (.region [
    ⟨.mv 2 (.c (.bool false)), none⟩] false) [0] 0)
  (.seq (.post (.region [
    ⟨.mv 3 (.t 0), none⟩,
    ⟨.bin 4 .geq (.t 3) (.c (.int .i64 1)), none⟩,
    ⟨.mv 5 (.t 4), none⟩,
    ⟨.mv 6 (.t 0), some (5, true)⟩,
    ⟨.bin 7 .leq (.t 6) (.c (.int .i64 3)), some (5, true)⟩,
    ⟨.pick 8 (.t 5) (.t 7) (.c (.bool false)), none⟩,
    ⟨.mv 2 (.t 8), none⟩] false) [2] 0)
  .ret))
def f_model_leaf : IFunc := { np := 1, res := [.t 2], own := false, trunc := true, body := f_model_leaf_0 }

/- 104: latchwork/model.Widths -/
/- at its head: [0, 4, 5, 9, 10, 11] -/
def f_model_Widths_b1 : ICode :=
  (.post (.seq (.region [
    ⟨.bin 12 .lss (.t 11) (.t 10), none⟩] false)
  (.seq (.cond (.t 12) .skip
  (.exit 0))
  (.seq (.block 1 (.seq (.post (.region [
    ⟨.mv 13 (.t 11), none⟩,
    ⟨.iaddr 14 1 none (.t 9) (.t 11), none⟩,
    ⟨.load 15 false 1 (.t 14), none⟩,
    ⟨.mv 6 (.t 13), none⟩,
    ⟨.mv 7 (.t 15), none⟩] false) [0, 4, 5, 6, 7, 9, 10, 11] 3)
  (.post (.region [
    ⟨.mv 16 (.t 6), none⟩,
    ⟨.mv 17 (.t 0), none⟩,
    ⟨.mv 18 (.t 7), none⟩,
    ⟨.iaddr 19 6 none (.t 17) (.t 18), none⟩,
    ⟨.faddr 20 (.t 19) 1, none⟩,
    ⟨.load 21 false 1 (.t 20), none⟩,
    ⟨.iaddr 22 1 (some 3) (.t 5) (.t 16), none⟩,
    ⟨.store false 1 (.t 22) (.t 21), none⟩] false) [0, 4, 5, 9, 10, 11] 3)))
  (.post (.region [
    ⟨.bin 23 .add (.t 11) (.c (.int .i64 1)), none⟩,
    ⟨.mv 11 (.t 23), none⟩] false) [0, 4, 5, 9, 10, 11] 3)))) [0, 4, 5, 9, 10, 11] 3)
def f_model_Widths_l1 : ICode :=
  (.post (.block 0 (.loop f_model_Widths_b1)) [4, 5] 3)
def f_model_Widths_k1 : ICode :=
  (.seq (.post (.region [
    ⟨.load 24 true 3 (.t 5), none⟩,
    ⟨.store false 3 (.t 4) (.t 24), none⟩] false) [4] 2)
  .ret)
def f_model_Widths_0 : ICode :=
  (.seq (.post (.region [
    ⟨.box 3 false false (.t 1), none⟩,
    ⟨.alloc 4 false (.agg [.int .i64 0, .int .i64 0, .int .i64 0]), none⟩] false) [0, 3, 4] 2)
  (.seq (.region [
    ⟨.alloc 5 false (.agg [.int .i64 0, .int .i64 0, .int .i64 0]), none⟩] false)
  (.seq (.seq (.post (.region [
    ⟨.load 8 true 6 (.t 3), none⟩,
    ⟨.call (some 9) true 81 [(.t 8)], none⟩,
    ⟨.len 10 0 (.t 9), none⟩,
    ⟨.mv 11 (.c (.int .i64 0)), none⟩] false) [0, 4, 5, 9, 10, 11] 3)
  (.cut f_model_Widths_l1))
  (.cut f_model_Widths_k1))))
def f_model_Widths : IFunc := { np := 2, res := [.cell 4 true 3], own := false, trunc := true, body := f_model_Widths_0 }

/- 105: latchwork/model.bits -/
/- at its head: [2, 5, 8, 9, 10] -/
def f_model_bits_b1 : ICode :=
  (.post (.seq (.region [
    ⟨.bin 11 .lss (.t 10) (.t 9), none⟩] false)
  (.seq (.cond (.t 11) .skip
  (.exit 0))
  (.seq (.block 1 (.seq (.post (.region [
    ⟨.iaddr 12 1 none (.t 8) (.t 10), none⟩,
    ⟨.load 13 false 1 (.t 12), none⟩,
    ⟨.mv 7 (.t 13), none⟩] false) [2, 5, 7, 8, 9, 10] 1)
  (.post (.region [
    ⟨.mv 14 (.t 5), none⟩,
    ⟨.faddr 15 (.t 2) 0, none⟩,
    ⟨.load 16 false 1 (.t 15), none⟩,
    ⟨.mv 17 (.t 7), none⟩,
    ⟨.iaddr 18 6 none (.t 16) (.t 17), none⟩,
    ⟨.faddr 19 (.t 18) 1, none⟩,
    ⟨.load 20 false 1 (.t 19), none⟩,
    ⟨.bin 21 .add (.t 14) (.t 20), none⟩,
    ⟨.mv 5 (.t 21), none⟩] false) [2, 5, 8, 9, 10] 1)))
  (.post (.region [
    ⟨.bin 22 .add (.t 10) (.c (.int .i64 1)), none⟩,
    ⟨.mv 10 (.t 22), none⟩] false) [2, 5, 8, 9, 10] 1)))) [2, 5, 8, 9, 10] 1)
def f_model_bits_l1 : ICode :=
  (.post (.block 0 (.loop f_model_bits_b1)) [5] 0)
def f_model_bits_k1 : ICode :=
  (.seq (.post (.region [
    ⟨.mv 23 (.t 5), none⟩,
    ⟨.mv 4 (.t 23), none⟩] false) [4] 0)
  .ret)
def f_model_bits_0 : ICode :=
  (.seq (.post (.region [
    ⟨.box 2 false false (.t 0), none⟩,
    ⟨.mv 4 (.c (.int .i64 0)), none⟩] false) [1, 2] 1)
  (.seq (.region [
    ⟨.mv 5 (.c (.int .i64 0)), none⟩] false)
  (.seq (.seq (.post (.region [
    ⟨.mv 8 (.t 1), none⟩,
    ⟨.len 9 0 (.t 8), none⟩,
    ⟨.mv 10 (.c (.int .i64 0)), none⟩] false) [2, 5, 8, 9, 10] 1)
  (.cut f_model_bits_l1))
  (.cut f_model_bits_k1))))
def f_model_bits : IFunc := { np := 2, res := [.t 4], own := false, trunc := true, body := f_model_bits_0 }

/- 106: (*latchwork/model.checker).pair -/
def f_model_checker_pair_0 : ICode :=
  (.seq (.post (.region [
    ⟨.box 4 false false (.t 1), none⟩,
    ⟨.mv 6 (.c (.int .i64 0)), none⟩] false) [0, 2, 4] 1)
  (.seq (.block 0 (.seq (.post (.region [
    ⟨.mv 8 (.t 0), none⟩,
    ⟨.faddr 9 (.t 4) 0, none⟩,
    ⟨.load 10 false 1 (.t 9), none⟩,
    ⟨.call (some 11) true 118 [(.t 8), (.t 10)], none⟩,
    ⟨.un 12 .not (.t 11), none⟩,
    ⟨.mv 13 (.t 12), none⟩,
    ⟨.mv 14 (.t 0), some (13, false)⟩,
    ⟨.faddr 15 (.t 4) 1, some (13, false)⟩,
    ⟨.load 16 false 1 (.t 15), some (13, false)⟩,
    ⟨.call (some 17) true 118 [(.t 14), (.t 16)], some (13, false)⟩,
    ⟨.un 18 .not (.t 17), some (13, false)⟩,
    ⟨.pick 19 (.t 13) (.c (.bool true)) (.t 18), none⟩,
    ⟨.mv 20 (.t 19), none⟩,
    ⟨.mv 21 (.t 0), some (20, false)⟩,
    ⟨.nilc 22 (.t 21), some (20, false)⟩,
    ⟨.faddr 23 (.t 22) 0, some (20, false)⟩,
    ⟨.faddr 24 (.t 23) 0, some (20, false)⟩,
    ⟨.load 25 false 1 (.t 24), some (20, false)⟩,
    ⟨.faddr 26 (.t 4) 0, some (20, false)⟩,
    ⟨.load 27 false 1 (.t 26), some (20, false)⟩,
    ⟨.iaddr 28 6 none (.t 25) (.t 27), some (20, false)⟩,
    ⟨.faddr 29 (.t 28) 0, some (20, false)⟩,
    ⟨.load 30 false 1 (.t 29), some (20, false)⟩,
    ⟨.bin 31 .neq (.t 30) (.c (.int .i64 3)), some (20, false)⟩,
    ⟨.pick 32 (.t 20) (.c (.bool true)) (.t 31), none⟩,
    ⟨.mv 7 (.t 32), none⟩] true) [0, 2, 4, 7] 1)
  (.cond (.t 7) (.seq (.post (.region [
    ⟨.mv 6 (.c (.int .i64 5)), none⟩] false) [6] 0)
  .ret)
  (.seq (.post (.region [
    ⟨.mv 34 (.t 0), none⟩,
    ⟨.nilc 35 (.t 34), none⟩,
    ⟨.faddr 36 (.t 35) 0, none⟩,
    ⟨.faddr 37 (.t 36) 0, none⟩,
    ⟨.load 38 false 1 (.t 37), none⟩,
    ⟨.faddr 39 (.t 4) 0, none⟩,
    ⟨.load 40 false 1 (.t 39), none⟩,
    ⟨.iaddr 41 6 none (.t 38) (.t 40), none⟩,
    ⟨.faddr 42 (.t 41) 1, none⟩,
    ⟨.load 43 false 1 (.t 42), none⟩,
    ⟨.mv 44 (.t 0), none⟩,
    ⟨.nilc 45 (.t 44), none⟩,
    ⟨.faddr 46 (.t 45) 0, none⟩,
    ⟨.faddr 47 (.t 46) 0, none⟩,
    ⟨.load 48 false 1 (.t 47), none⟩,
    ⟨.faddr 49 (.t 4) 1, none⟩,
    ⟨.load 50 false 1 (.t 49), none⟩,
    ⟨.iaddr 51 6 none (.t 48) (.t 50), none⟩,
    ⟨.faddr 52 (.t 51) 1, none⟩,
    ⟨.load 53 false 1 (.t 52), none⟩,
    ⟨.bin 54 .neq (.t 43) (.t 53), none⟩,
    ⟨.mv 33 (.t 54), none⟩] true) [0, 2, 4, 33] 1)
  (.cond (.t 33) (.seq (.post (.region [
    ⟨.mv 6 (.c (.int .i64 1)), none⟩] false) [6] 0)
  .ret)
  (.seq (.post (.region [
    ⟨.mv 56 (.t 2), none⟩,
    ⟨.mv 57 (.t 56), none⟩,
    ⟨.mv 58 (.t 0), some (57, true)⟩,
    ⟨.nilc 59 (.t 58), some (57, true)⟩,
    ⟨.faddr 60 (.t 59) 5, some (57, true)⟩,
    ⟨.load 61 false 1 (.t 60), some (57, true)⟩,
    ⟨.faddr 62 (.t 4) 1, some (57, true)⟩,
    ⟨.load 63 false 1 (.t 62), some (57, true)⟩,
    ⟨.iaddr 64 1 none (.t 61) (.t 63), some (57, true)⟩,
    ⟨.load 65 false 1 (.t 64), some (57, true)⟩,
    ⟨.pick 66 (.t 57) (.t 65) (.c (.bool false)), none⟩,
    ⟨.mv 55 (.t 66), none⟩] true) [55] 0)
  (.cond (.t 55) (.seq (.post (.region [
    ⟨.mv 6 (.c (.int .i64 4)), none⟩] false) [6] 0)
  .ret)
  .skip)))))))
  (.seq (.post (.region [
    ⟨.mv 6 (.c (.int .i64 0)), none⟩] false) [6] 0)
  .ret)))
def f_model_checker_pair : IFunc := { np := 3, res := [.t 6], own := false, trunc := true, body := f_model_checker_pair_0 }

/- 108: (*latchwork/model.checker).marks$1 -/
def f_model_checker_marks_1_0 : ICode :=
  (.seq (.post (.region [
    ⟨.mv 3 (.c (.bool false)), none⟩] false) [0, 1] 0)
  (.seq (.post (.region [
    ⟨.load 4 false 1 (.t 1), none⟩,
    ⟨.mv 5 (.t 0), none⟩,
    ⟨.call (some 6) true 118 [(.t 4), (.t 5)], none⟩,
    ⟨.un 7 .not (.t 6), none⟩,
    ⟨.mv 3 (.t 7), none⟩] false) [3] 0)
  .ret))
def f_model_checker_marks_1 : IFunc := { np := 2, res := [.t 3], own := false, trunc := true, body := f_model_checker_marks_1_0 }

/- 109: (*latchwork/model.checker).marks$2 -/
def f_model_checker_marks_2_0 : ICode :=
  (.seq (.post (.region [
    ⟨.mv 3 (.c (.bool false)), none⟩] false) [0, 1] 0)
  (.seq (.post (.region [
    ⟨.load 4 false 1 (.t 1), none⟩,
    ⟨.nilc 5 (.t 4), none⟩,
    ⟨.faddr 6 (.t 5) 0, none⟩,
    ⟨.faddr 7 (.t 6) 0, none⟩,
    ⟨.load 8 false 1 (.t 7), none⟩,
    ⟨.mv 9 (.t 0), none⟩,
    ⟨.iaddr 10 6 none (.t 8) (.t 9), none⟩,
    ⟨.faddr 11 (.t 10) 1, none⟩,
    ⟨.load 12 false 1 (.t 11), none⟩,
    ⟨.bin 13 .neq (.t 12) (.c (.int .i64 1)), none⟩,
    ⟨.mv 3 (.t 13), none⟩] false) [3] 0)
  .ret))
def f_model_checker_marks_2 : IFunc := { np := 2, res := [.t 3], own := false, trunc := true, body := f_model_checker_marks_2_0 }

/- 118: (*latchwork/model.checker).is -/
def f_model_checker_is_0 : ICode :=
  (.seq (.post (.region [
    ⟨.mv 4 (.c (.bool false)), none⟩] false) [0, 1] 0)
  (.seq (.post (.region [
    ⟨.mv 5 (.t 1), none⟩,
    ⟨.bin 6 .geq (.t 5) (.c (.int .i64 0)), none⟩,
    ⟨.mv 7 (.t 6), none⟩,
    ⟨.mv 8 (.t 1), some (7, true)⟩,
    ⟨.mv 9 (.t 0), some (7, true)⟩,
    ⟨.nilc 10 (.t 9), some (7, true)⟩,
    ⟨.faddr 11 (.t 10) 0, some (7, true)⟩,
    ⟨.faddr 12 (.t 11) 0, some (7, true)⟩,
    ⟨.load 13 false 1 (.t 12), some (7, true)⟩,
    ⟨.len 14 0 (.t 13), some (7, true)⟩,
    ⟨.bin 15 .lss (.t 8) (.t 14), some (7, true)⟩,
    ⟨.pick 16 (.t 7) (.t 15) (.c (.bool false)), none⟩,
    ⟨.mv 4 (.t 16), none⟩] false) [4] 0)
  .ret))
def f_model_checker_is : IFunc := { np := 2, res := [.t 4], own := false, trunc := true, body := f_model_checker_is_0 }

end Go.Lw
end
