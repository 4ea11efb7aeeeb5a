/-
  The texts that the proof stands on, part 9.
-/
import Derived.Test.YtmodipglnngghadGreatProveDifferentsH
import Derived.Lib.SlicesCompact
set_option linter.unusedVariables false
set_option linter.unusedSimpArgs false
set_option linter.unnecessarySimpa false

/-! slices.Sort and slices.Compact of a stack of numbers, told as they are. -/
section
namespace Go.Lw
open Go
def unInts:List PV→Option (List Int)
 |[]=>some []
 | .int .i64 n::r=>(unInts r).map (n:: ·)
 |_=>none
def insI (x:Int):List Int→List Int
 |[]=>[x]
 |y::l=>if x≤y then x::y::l else y::insI x l
def isortI:List Int→List Int
 |[]=>[]
 |x::l=>insI x (isortI l)
theorem jv0 (x:Int):∀l:List Int,(insI x l).Perm (x::l)
 |[]=>List.Perm.refl _
 |y::l=>by
  unfold insI
  split
  ·exact List.Perm.refl _
  ·exact ((jv0 x l).cons y).trans (List.Perm.swap x y l)
theorem jxg:∀l:List Int,(isortI l).Perm l
 |[]=>List.Perm.refl _
 |x::l=>(jv0 x _).trans ((jxg l).cons x)
theorem jxh (x:Int):∀{l:List Int},l.Pairwise (· ≤ ·)→(insI x l).Pairwise (· ≤ ·)
 |[],_=>by simp[insI]
 | y::l,h=>by
  obtain⟨h1,h2⟩:=List.pairwise_cons.1 h
  unfold insI
  split
  ·rename_i hxy
   refine List.pairwise_cons.2 ⟨fun z hz=>?_,h⟩
   rcases List.mem_cons.1 hz with rfl|hz
   ·exact hxy
   ·exact Int.le_trans hxy (h1 z hz)
  ·rename_i hxy
   refine List.pairwise_cons.2 ⟨fun z hz=>?_,jxh x h2⟩
   rcases List.mem_cons.1 ((jv0 x l).mem_iff.1 hz) with rfl|hz
   ·omega
   ·exact h1 z hz
theorem jxi:∀l:List Int,(isortI l).Pairwise (· ≤ ·)
 |[]=>List.Pairwise.nil
 |x::l=>jxh x (jxi l)
theorem jxj:∀{l m:List Int},l.Perm m→l.Pairwise (· ≤ ·)→m.Pairwise (· ≤ ·)→l=m
 |[],m,h,_,_=>(List.nil_perm.1 h).symm
 |a::l,[],h,_,_=>absurd (List.perm_nil.1 h) (by simp)
 | a::l,b::m,h,h1,h2=>by
  obtain⟨a1,a2⟩:=List.pairwise_cons.1 h1
  obtain⟨b1,b2⟩:=List.pairwise_cons.1 h2
  have hab:a=b:=by
   have e1:a≤b:=by
    rcases List.mem_cons.1 (h.mem_iff.2 (List.mem_cons_self ..)) with e|e
    ·omega
    ·exact a1 b e
   have e2:b≤a:=by
    rcases List.mem_cons.1 (h.mem_iff.1 (List.mem_cons_self ..)) with e|e
    ·omega
    ·exact b1 a e
   omega
  subst hab
  rw[jxj (List.Perm.cons_inv h) a2 b2]
theorem j13i (l:List Int):isortI l=l.mergeSort fun x y=>decide (x≤y):=by
 refine jxj ((jxg l).trans (List.mergeSort_perm l _).symm) (jxi l) ?_
 have h:=List.pairwise_mergeSort (le:=fun x y:Int=>decide (x≤y)) (fun a b d h1 h2=>by simp only[decide_eq_true_eq] at *;omega) (fun a b=>by simp only[Bool.or_eq_true,decide_eq_true_eq];omega) l
 exact h.imp fun h=>by simpa using h
def libSortK:List PV→List GObj→Option (PV×List GObj)
 |[.stk b gen n],gh=>match gh[b]? with
  |some (.stk g xs)=>if g=gen∧n=xs.length∧n*8≤maxBytes then (unInts xs).map fun zs=>(.tup [],gh.set b (.stk g ((isortI zs).map (PV.int .i64)))) else none
  |_=>none
 |[.sl _ 1 []],gh=>some (.tup [],gh)
 |_,_=>none
def libCompactK:List PV→List GObj→Option (PV×List GObj)
 |[.stk b gen n],gh=>match gh[b]? with
  |some (.stk g xs)=>if g=gen∧n=xs.length∧n*8≤maxBytes then (unInts xs).map fun zs=>(.stk b gen (Lib.compact zs).length,gh.set b (.stk g ((Lib.compact zs).map (PV.int .i64)))) else none
  |_=>none
 |[.sl _ 1 []],gh=>some (.sl false 1 [],gh)
 |_,_=>none
theorem jtq:∀{xs:List PV} {zs:List Int},unInts xs=some zs→xs=zs.map (PV.int .i64)
 |[],zs,h=>by simp[unInts] at h;subst h;rfl
 | x::xs,zs,h=>by
  cases x with
  |int k n=>
   cases k<;>simp[unInts] at h
   obtain⟨ys,h1,rfl⟩:=h
   rw[jtq h1]
   rfl
  |_=>simp[unInts] at h
end Go.Lw
end
