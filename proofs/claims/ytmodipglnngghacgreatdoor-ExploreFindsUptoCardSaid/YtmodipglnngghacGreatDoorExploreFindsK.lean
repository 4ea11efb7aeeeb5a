/-
  The texts that the proof stands on, part 11.
-/
import Derived.Test.YtmodipglnngghacGreatDoorExploreFindsJ
import Derived.Lib.AtoiAll
set_option linter.unusedVariables false
set_option linter.unusedSimpArgs false
set_option linter.unnecessarySimpa false

set_option maxRecDepth 100000
set_option maxHeartbeats 4000000
namespace Go.Lw
open Go
abbrev bA (l:List UInt8):ByteArray:=⟨l.toArray⟩
def jR:Nat->Nat->List UInt8
 |0,_=>[]
 |k+1,u=>if u<10 then [UInt8.ofNat (48+u)] else jR k (u/10)++[UInt8.ofNat (48+u%10)]
def mW (n:Int):List UInt8:=if n<0 then 45::jR 20 n.natAbs else jR 20 n.toNat
def eG (c:UInt8):List UInt8->List UInt8×List UInt8×Bool
 |[]=>([],[],false)
 |b::r=>if b=c then ([],r,true) else (b::(eG c r).1,(eG c r).2.1,(eG c r).2.2)
def eO (c:UInt8):List UInt8->List (List UInt8)
 |[]=>[[]]
 |b::r=>if b=c then []::eO c r else match eO c r with
  |[]=>[[b]]
  |x::l=>(b::x)::l
def libItoa:List PV->List GObj->Option (PV×List GObj)
 |[.int .i64 n],gh=>if -9223372036854775808<=n/\n<=9223372036854775807 then some (.str (bA (mW n)),gh) else none
 |_,_=>none
def libAtoi:List PV->List GObj->Option (PV×List GObj)
 |[.str s],gh=>if s.size<=281474976710656 then match Lib.atoiAll s.data.toList with
  | .ok v=>some (.tup [.int .i64 v,.nilI],gh)
  | .range=>some (.tup [.int .i64 (Lib.atoiSat s.data.toList),.someI],gh)
  | _ =>some (.tup [.int .i64 0,.someI],gh)
  else none
 |_,_=>none
def libCut:List PV->List GObj->Option (PV×List GObj)
 |[.str s,.str sep],gh=>match sep.data.toList with
  |[c]=>if s.size<4294967281 then some (.tup [.str (bA (eG c s.data.toList).1),.str (bA (eG c s.data.toList).2.1),.bool (eG c s.data.toList).2.2],gh) else none
  |_=>none
 |_,_=>none
def libSplit:List PV->List GObj->Option (PV×List GObj)
 |[.str s,.str sep],gh=>match sep.data.toList with
  |[c]=>if s.size<4294967281 then some (.sl false 1 ((eO c s.data.toList).map λx=> .str (bA x)),gh) else none
  |_=>none
 |_,_=>none
end Go.Lw