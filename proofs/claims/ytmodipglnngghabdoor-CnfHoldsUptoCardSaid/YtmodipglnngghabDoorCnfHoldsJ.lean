/-
  The texts that the proof stands on, part 10.
-/
import Derived.Test.YtmodipglnngghabDoorCnfHoldsI
import Derived.Lib.AtoiAll
set_option linter.unusedVariables false
set_option linter.unusedSimpArgs false
set_option linter.unnecessarySimpa false

/-! Library functions of strings and numerals, as the machine has them. -/
section
namespace Go.Lw
open Go
abbrev bA (l:List UInt8):ByteArray:=⟨l.toArray⟩
def digK:Nat→Nat→List UInt8
 |0,_=>[]
 |k+1,u=>if u<10 then [UInt8.ofNat (48+u)] else digK k (u/10)++[UInt8.ofNat (48+u%10)]
def itoaK (n:Int):List UInt8:=if n<0 then 45::digK 20 n.natAbs else digK 20 n.toNat
def libItoa:List PV→List GObj→Option (PV×List GObj)
 |[.int .i64 n],gh=>if -9223372036854775808≤n∧n≤9223372036854775807 then some (.str (bA (itoaK n)),gh) else none
 |_,_=>none
def libWS:List PV→List GObj→Option (PV×List GObj)
 |[.ptr true b 0,.str s],gh=>match gh[b]? with
  |some (.bld t)=>if s.size≠0∧t.size+s.size≤140737488355328 then some (.tup [.int .i64 s.size,.nilI],gh.set b (.bld (t++s))) else none
  |_=>none
 |_,_=>none
def libBS:List PV→List GObj→Option (PV×List GObj)
 |[.ptr true b 0],gh=>match gh[b]? with
  |some (.bld t)=>some (.str t,gh.set b (.cells [if t.size=0 then .nilp else .ptr true b 0,.sl false 1 (t.data.toList.map fun c=> .int .u8 c.toNat)]))
  |_=>none
 |_,_=>none
end Go.Lw
end
