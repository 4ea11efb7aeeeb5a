/-
  The texts that the proof stands on, part 6.
-/
import Derived.Test.YtmodipglnngghabGreatDoorDecideTextsC
import Derived.Lib.SlicesCompact
set_option linter.unusedVariables false
set_option linter.unusedSimpArgs false
set_option linter.unnecessarySimpa false

set_option maxRecDepth 100000
set_option maxHeartbeats 4000000
namespace Go.Lw
open Go
def gj:Ok->Option Oi
 |[]=>some []
 | .int .i64 n::r=>(gj r).map (n:: ·)
 |_=>none
def lP (x:Int):Oi->Oi
 |[]=>[x]
 |y::l=>if x<=y then x::y::l else y::lP x l
def om:Oi->Oi
 |[]=>[]
 |x::l=>lP x (om l)
theorem tH (x:Int):∀l:Oi,(lP x l).Perm (x::l)
 |[]=>List.Perm.refl _
 |y::l=>by
  unfold lP;split
  ·exact List.Perm.refl _
  ·exact ((tH x l).cons y).trans (List.Perm.swap x y l)
theorem yv:∀l:Oi,(om l).Perm l
 |[]=>List.Perm.refl _
 |x::l=>(tH x _).trans ((yv l).cons x)
theorem yw (x:Int):∀{l:Oi},l.Pairwise (· <= ·)->(lP x l).Pairwise (· <= ·)
 |[],_=>by simp[lP]
 | y::l,h=>by
  obtain⟨c,d⟩:=List.pairwise_cons.1 h;unfold lP;split
  ·rename_i b
   refine List.pairwise_cons.2 ⟨λz a=>?_,h⟩;rcases List.mem_cons.1 a with rfl|a
   ·exact b
   ·exact Int.le_trans b (c z a)
  ·rename_i b
   refine List.pairwise_cons.2 ⟨λz a=>?_,yw x d⟩;rcases List.mem_cons.1 ((tH x l).mem_iff.1 a) with rfl|a
   ·omega
   ·exact c z a
theorem yx:∀l:Oi,(om l).Pairwise (· <= ·)
 |[]=>List.Pairwise.nil
 |x::l=>yw x (yx l)
theorem yy:∀{l m:Oi},l.Perm m->l.Pairwise (· <= ·)->m.Pairwise (· <= ·)->l=m
 |[],m,h,_,_=>(List.nil_perm.1 h).symm
 |a::l,[],h,_,_=>absurd (List.perm_nil.1 h) NX
 | a::l,b::m,h,f,d=>by
  obtain⟨k,j⟩:=List.pairwise_cons.1 f;obtain⟨i,g⟩:=List.pairwise_cons.1 d;have c:a=b:=by
   have o:a<=b:=by
    rcases List.mem_cons.1 (h.mem_iff.2 (aZ ..)) with e|e
    ·omega
    ·exact k b e
   have n:b<=a:=by
    rcases List.mem_cons.1 (h.mem_iff.1 (aZ ..)) with e|e
    ·omega
    ·exact i a e
   omega
  subst c;rw[yy (List.Perm.cons_inv h) j g]
theorem yz (l:Oi):om l=l.mergeSort λx y=>decide (x<=y):=by refine yy ((yv l).trans (List.mergeSort_perm l _).symm) (yx l) ?_;have h:=List.pairwise_mergeSort (le:=λx y:Int=>decide (x<=y)) (λa b d e c=>by simp only[aH] at *;omega) (λa b=>by simp only[Bool.or_eq_true,aH];omega) l;exact h.imp λh=>by simpa using h
def libSortK:Ok->Ol->Option (PV×Ol)
 |[.stk b a n],gh=>match gh[b]? with
  |some (.stk g c)=>if g=a/\n=c.length/\n*8<=maxBytes then (gj c).map λd=>(.tup [],gh.set b (.stk g ((om d).map (PV.int .i64)))) else none
  |_=>none
 |[.sl _ 1 []],gh=>some (.tup [],gh)
 |_,_=>none
def libCompactK:Ok->Ol->Option (PV×Ol)
 |[.stk b a n],gh=>match gh[b]? with
  |some (.stk g d)=>if g=a/\n=d.length/\n*8<=maxBytes then (gj d).map λc=>(.stk b a (Lib.compact c).length,gh.set b (.stk g ((Lib.compact c).map (PV.int .i64)))) else none
  |_=>none
 |[.sl _ 1 []],gh=>some (NZ [],gh)
 |_,_=>none
theorem oo:∀(a:Oi),gj (a.map (PV.int .i64))=some a
 |[]=>rfl
 |z::a=>by simp[gj,oo a]
theorem mQ:∀{b:Ok} {a:Oi},gj b=some a->b=a.map (PV.int .i64)
 |[],a,h=>by simp[gj] at h;subst h;rfl
 | x::b,a,h=>by
  cases x with
  |int k n=>
   cases k<;>simp[gj] at h;obtain⟨d,c,rfl⟩:=h;rw[mQ c];rfl
  |_=>simp[gj] at h
end Go.Lw