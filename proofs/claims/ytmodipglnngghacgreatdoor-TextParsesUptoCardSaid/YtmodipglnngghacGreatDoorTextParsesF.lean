/-
  The texts that the proof stands on, part 6.
-/
import Derived.Test.YtmodipglnngghacGreatDoorTextParsesE
set_option linter.unusedVariables false
set_option linter.unusedSimpArgs false
set_option linter.unnecessarySimpa false

/-! The machine, run out: what must be in any case is reckoned by the kernel. -/
section
namespace Go.Lw
open Go
mutual
def pvEq:PV→PV→Bool
 | .und,.und| .nilp,.nilp| .nilm,.nilm| .nilf,.nilf| .nils,.nils| .nilI,.nilI| .someI,.someI=>true
 | .int k n,.int k' n'=>decide (k=k')&&decide (n=n')
 | .bool b,.bool b'=>b==b'
 | .str s,.str s'=>s.data.toList==s'.data.toList
 | .agg l,.agg m=>pvsEq l m
 | .tup l,.tup m=>pvsEq l m
 | .sl o z l,.sl o' z' m=>o==o'&&(z==z'&&pvsEq l m)
 | .bs g b o n z,.bs g' b' o' n' z'=>g==g'&&(b==b'&&(o==o'&&(n==n'&&z==z')))
 | .ptr g b o,.ptr g' b' o'=>g==g'&&(b==b'&&o==o')
 | .ep e o,.ep e' o'=>pvEq e e'&&o==o'
 | .mp b,.mp b'=>b==b'
 | .stk b g n,.stk b' g' n'=>b==b'&&(g==g'&&n==n')
 | .pstk b g n,.pstk b' g' n'=>b==b'&&(g==g'&&n==n')
 | .fn f l,.fn f' m=>f==f'&&pvsEq l m
 | .bfn f l,.bfn f' m=>f==f'&&pvsEq l m
 | .sub b g o n,.sub b' g' o' n'=>b==b'&&(g==g'&&(o==o'&&n==n'))
 |_,_=>false
def pvsEq:List PV→List PV→Bool
 |[],[]=>true
 |a::l,b::m=>pvEq a b&&pvsEq l m
 |_,_=>false
end
mutual
theorem jih:∀{a b:PV},pvEq a b=true→a=b
 | a,b,h=>by
  cases a<;>cases b<;>simp[pvEq] at h<;>first|rfl|skip
  case int.int=>obtain⟨rfl,rfl⟩:=h;rfl
  case bool.bool=>subst h;rfl
  case str.str s s'=>
   obtain⟨⟨l⟩⟩:=s;obtain⟨⟨l'⟩⟩:=s'
   simp at h;subst h;rfl
  case agg.agg=>rw[jgt h]
  case tup.tup=>rw[jgt h]
  case sl.sl=>obtain⟨rfl,rfl,h⟩:=h;rw[jgt h]
  case bs.bs=>obtain⟨rfl,rfl,rfl,rfl,rfl⟩:=h;rfl
  case ptr.ptr=>obtain⟨rfl,rfl,rfl⟩:=h;rfl
  case ep.ep=>obtain⟨h,rfl⟩:=h;rw[jih h]
  case mp.mp=>subst h;rfl
  case stk.stk=>obtain⟨rfl,rfl,rfl⟩:=h;rfl
  case pstk.pstk=>obtain⟨rfl,rfl,rfl⟩:=h;rfl
  case fn.fn=>obtain⟨rfl,h⟩:=h;rw[jgt h]
  case bfn.bfn=>obtain⟨rfl,h⟩:=h;rw[jgt h]
  case sub.sub=>obtain⟨rfl,rfl,rfl,rfl⟩:=h;rfl
theorem jgt:∀{l m:List PV},pvsEq l m=true→l=m
 |[],[],_=>rfl
 |a::l,b::m,h=>by
  simp[pvsEq] at h
  rw[jih h.1,jgt h.2]
 |[],_::_,h=>by simp[pvsEq] at h
 |_::_,[],h=>by simp[pvsEq] at h
end
def mapEq:List (PV×PV)→List (PV×PV)→Bool
 |[],[]=>true
 |(a,b)::l,(c,d)::m=>pvEq a c&&(pvEq b d&&mapEq l m)
 |_,_=>false
theorem jn8:∀{l m:List (PV×PV)},mapEq l m=true→l=m
 |[],[],_=>rfl
 |(a,b)::l,(c,d)::m,h=>by
  simp[mapEq] at h
  rw[jih h.1,jih h.2.1,jn8 h.2.2]
 |[],_::_,h=>by simp[mapEq] at h
 |_::_,[],h=>by simp[mapEq] at h
def objEq:GObj→GObj→Bool
 | .cells l,.cells m=>pvsEq l m
 | .map l,.map m=>mapEq l m
 | .stk g l,.stk g' m=>g==g'&&pvsEq l m
 | .bld s,.bld s'=>s.data.toList==s'.data.toList
 |_,_=>false
theorem jtg {a b:GObj} (h:objEq a b=true):a=b:=by
 cases a<;>cases b<;>simp[objEq] at h
 ·rw[jgt h]
 ·rw[jn8 h]
 ·obtain⟨rfl,h⟩:=h;rw[jgt h]
 ·rename_i s s'
  obtain⟨⟨l⟩⟩:=s;obtain⟨⟨l'⟩⟩:=s'
  simp at h;subst h;rfl
def ghEq:List GObj→List GObj→Bool
 |[],[]=>true
 |a::l,b::m=>objEq a b&&ghEq l m
 |_,_=>false
theorem jk2:∀{l m:List GObj},ghEq l m=true→l=m
 |[],[],_=>rfl
 |a::l,b::m,h=>by
  simp[ghEq] at h
  rw[jtg h.1,jk2 h.2]
 |[],_::_,h=>by simp[ghEq] at h
 |_::_,[],h=>by simp[ghEq] at h
def allB (p:PV→Bool):List PV→Bool
 |[]=>true
 |a::l=>p a&&allB p l
theorem jn9 {p:PV→Bool}:∀{l:List PV},allB p l=true→l.all p=true
 |[],_=>rfl
 |a::l,h=>by
  simp only[allB,Bool.and_eq_true] at h
  simp only[List.all_cons,Bool.and_eq_true]
  exact⟨h.1,jn9 h.2⟩
def cond3 {α:Type}:Bool→Option α→Option α
 |true,x=>x
 |false,_=>none
def xCall (cf:CallF) (s:St) (d:Option Nat) (q:Bool) (f:Nat) (vs:List PV):Option St:=
 cond3 (allB argOk vs) (match cf f vs s.gh with
  |some (r,gh')=>(match q with
   |true=>cond3 (ghEq gh' s.gh) (some ⟨putO s.env d r,s.lh,s.gh⟩)
   |false=>some ⟨putO s.env d r,s.lh,gh'⟩)
  |none=>none)
theorem jk3 {cf cf':CallF} (hc:Le cf cf') {s s':St} {d:Option Nat} {q:Bool} {f:Nat} {vs:List PV} (h:xCall cf s d q f vs=some s'):doCall cf' s d q f vs=some s':=by
 unfold xCall at h
 cases ha:allB argOk vs with
 |false=>rw[ha] at h;cases h
 | true=>
  rw[ha] at h
  simp only[cond3] at h
  unfold doCall
  rw[if_pos (jn9 ha)]
  cases hr:cf f vs s.gh with
  |none=>rw[hr] at h;cases h
  | some x=>
   obtain⟨r,gh'⟩:=x
   rw[hr] at h
   rw[hc _ _ _ _ hr]
   simp only at h ⊢
   cases q with
   |false=>simpa using h
   | true=>
    simp only at h
    cases hg:ghEq gh' s.gh with
    |false=>rw[hg] at h;cases h
    |true=>
     rw[hg] at h
     simp only[if_true]
     rw[if_pos (jk2 hg)]
     exact h
noncomputable def xStep (cf:CallF) (s:St) (o:IOp):Option St:=
 match o with
 | .call d q f xs=>match evalXs s.env xs with
  |some vs=>xCall cf s d q f vs
  |none=>none
 | .callv d q fv xs=>match evalX s.env fv with
  |some (.fn f caps)=>(match evalXs s.env xs with
   |some vs=>xCall cf s d q f (vs++caps)
   |none=>none)
  |some (.bfn f fs)=>(match evalXs s.env xs with
   |some vs=>xCall cf s d q f (fs++vs)
   |none=>none)
  |_=>none
 |o=>opStep cf s o
theorem jna {cf cf':CallF} (hc:Le cf cf') {s s':St} {o:IOp} (h:xStep cf s o=some s'):opStep cf' s o=some s':=by
 cases o with
 |callP=>simp[xStep,opStep] at h
 |callR=>simp[xStep,opStep] at h
 |appendP=>simp[xStep,opStep] at h
 | call d q f xs=>
  simp only[xStep] at h
  split at h
  ·rename_i vs hv
   simp only[opStep,hv,Option.bind_some]
   exact jk3 hc h
  ·cases h
 | callv d q fv xs=>
  simp only[xStep] at h
  split at h
  ·rename_i f caps hf
   split at h
   ·rename_i vs hv
    simp only[opStep,hf,hv,Option.bind_some]
    exact jk3 hc h
   ·cases h
  ·rename_i f fs hf
   split at h
   ·rename_i vs hv
    simp only[opStep,hf,hv,Option.bind_some]
    exact jk3 hc h
   ·cases h
  ·cases h
 |_=>exact jht hc h
noncomputable def xRunOps (cf:CallF):List IOpG→St→Option St
 |[],s=>some s
 | o ::l,s=>match o.guard with
  |none=>(match xStep cf s o.op with
   |some s1=>xRunOps cf l s1
   |none=>none)
  | some (g,want)=>match get s.env g with
   | some (.bool b)=>(match b==want with
    |true=>(match xStep cf s o.op with
     |some s1=>xRunOps cf l s1
     |none=>none)
    |false=>xRunOps cf l (skipped s o.op))
   |some .und=>xRunOps cf l (skipped s o.op)
   |_=>none
theorem jhr {cf cf':CallF} (hc:Le cf cf'):∀{l:List IOpG} {s s':St},xRunOps cf l s=some s'→opsRun cf' l s=some s'
 |[],s,s',h=>h
 | o ::l,s,s',h=>by
  simp only[xRunOps] at h
  simp only[opsRun]
  split at h
  ·rename_i hg
   simp only[hg]
   split at h
   ·rename_i s1 h1
    rw[jna hc h1]
    exact jhr hc h
   ·cases h
  ·rename_i g want hg
   simp only[hg]
   split at h
   ·rename_i b hb
    simp only[hb]
    split at h
    ·rename_i hw
     rw[if_pos (by simpa using hw)]
     split at h
     ·rename_i s1 h1
      rw[jna hc h1]
      exact jhr hc h
     ·cases h
    ·rename_i hw
     rw[if_neg (by simpa using hw)]
     exact jhr hc h
   ·rename_i hb
    simp only[hb]
    exact jhr hc h
   ·cases h
noncomputable def xFinish (fn:IFunc) (gh:List GObj):IExit×St→Option (PV×List GObj)
 |(.exit _,_)=>none
 | (_,s)=>match results fn.own fn.res s with
  |some r=>cond3 (resOk r) (match fn.trunc with
   |true=>cond3 (ghEq (s.gh.take gh.length) gh) (cond3 (frzR gh.length s.gh r).noG (some (frzR gh.length s.gh r,gh)))
   |false=>some (r,s.gh))
  |none=>none
open Classical in
theorem jth {fn:IFunc} {gh:List GObj} {x:IExit×St} {r:PV×List GObj} (h:xFinish fn gh x=some r):finish fn gh x=some r:=by
 obtain⟨e,s⟩:=x
 have main:(match results fn.own fn.res s with
  |some r=>cond3 (resOk r) (match fn.trunc with
   |true=>cond3 (ghEq (s.gh.take gh.length) gh) (cond3 (frzR gh.length s.gh r).noG (some (frzR gh.length s.gh r,gh)))
   |false=>some (r,s.gh))
  |none=>none)=some r→((results fn.own fn.res s).bind fun r=>if resOk r then
   (if fn.trunc then if s.gh.take gh.length=gh∧(frzR gh.length s.gh r).noG then some (frzR gh.length s.gh r,gh) else none else some (r,s.gh)) else none)=some r:=by
  intro h
  cases hr:results fn.own fn.res s with
  |none=>rw[hr] at h;cases h
  | some v=>
   rw[hr] at h
   simp only[Option.bind_some] at h ⊢
   cases ho:resOk v with
   |false=>rw[ho] at h;cases h
   | true=>
    rw[ho] at h
    simp only[cond3,if_true] at h ⊢
    cases ht:fn.trunc with
    |false=>rw[ht] at h;simpa using h
    | true=>
     rw[ht] at h
     simp only[if_true] at h ⊢
     cases hg:ghEq (s.gh.take gh.length) gh with
     |false=>rw[hg] at h;cases h
     | true=>
      rw[hg] at h
      simp only at h
      cases hn:(frzR gh.length s.gh v).noG with
      |false=>rw[hn] at h;cases h
      |true=>
       rw[hn] at h
       rw[if_pos ⟨jk2 hg,rfl⟩]
       exact h
 cases e with
 |exit i=>cases h
 |normal=>exact main h
 |ret=>exact main h
noncomputable def xCallBy (run:ICode→St→Option (IExit×St)) (pg:Prg):CallF:=fun f vs gh=>
 match pg f with
 | some (.code fn)=>(match vs.length==fn.np with
  |true=>(match run fn.body ⟨enum 0 vs,[],gh⟩ with
   |some x=>xFinish fn gh x
   |none=>none)
  |false=>none)
 |some (.lib F)=>F vs gh
 |none=>none
noncomputable def xRun (pg:Prg):Nat→ICode→St→Option (IExit×St)
 |0,_,_=>none
 | n+1,c,s=>match c with
  | .skip=>some (.normal,s)
  | .region ops _=>match xRunOps (xCallBy (xRun pg n) pg) ops s with
   |some s'=>some (.normal,s')
   |none=>none
  | .seq a b=>match xRun pg n a s with
   |some (.normal,s')=>xRun pg n b s'
   |r=>r
  | .cond x a b=>match evalX s.env x with
   |some (.bool true)=>xRun pg n a s
   |some (.bool false)=>xRun pg n b s
   |_=>none
  | .block id a=>match xRun pg n a s with
   |some (.exit i,s')=>match i==id with
    |true=>some (.normal,s')
    |false=>some (.exit i,s')
   |r=>r
  | .loop a=>match xRun pg n a s with
   |some (.normal,s')=>xRun pg n (.loop a) s'
   |r=>r
  | .exit i=>some (.exit i,s)
  | .ret=>some (.ret,s)
  | .post a ks nl=>match xRun pg n a s with
   |some (.normal,s')=>some (.normal,⟨keep nl ks s'.env,s'.lh.take nl,s'.gh⟩)
   |r=>r
  | .cut a=>xRun pg n a s
  | .bad=>none
theorem jnb {run run':ICode→St→Option (IExit×St)} {pg:Prg} (h:∀c s r,run c s=some r→run' c s=some r):Le (xCallBy run pg) (callBy run' pg):=by
 intro f vs gh r hh
 unfold xCallBy at hh
 unfold callBy
 cases hp:pg f with
 |none=>simp[hp] at hh
 | some df=>
  cases df with
  |lib F=>simp only[hp] at *;exact hh
  | code fn=>
   simp only[hp] at *
   split at hh
   ·rename_i hl
    rw[if_pos (by simpa using hl)]
    split at hh
    ·rename_i x hx
     rw[h _ _ _ hx]
     exact jth hh
    ·cases hh
   ·cases hh
theorem jti (pg:Prg):∀(n:Nat) (c:ICode) (s:St) (r:IExit×St),xRun pg n c s=some r→irun pg n c s=some r:=by
 intro n
 induction n with
 |zero=>intro c s r h;simp[xRun] at h
 | succ n ih=>
  intro c s r h
  cases c with
  |skip=>simpa [xRun,irun] using h
  | region ops d=>
   simp only[xRun] at h
   simp only[irun]
   split at h
   ·rename_i s' h1
    rw[jhr (jnb ih) h1]
    exact h
   ·cases h
  | seq a b=>
   rw[xRun] at h
   rw[irun]
   cases ha:xRun pg n a s with
   |none=>simp[ha] at h
   |some x=>
    rw[ih _ _ _ ha];rw[ha] at h
    obtain⟨e,s'⟩:=x
    cases e<;>simp only at * <;>first|exact ih _ _ _ h|exact h
  |cond x a b=>
   rw[xRun] at h
   rw[irun]
   split at h
   ·rename_i hx;simp only[hx];exact ih _ _ _ h
   ·rename_i hx;simp only[hx];exact ih _ _ _ h
   ·cases h
  | block id a=>
   rw[xRun] at h
   rw[irun]
   cases ha:xRun pg n a s with
   |none=>simp[ha] at h
   | some x=>
    rw[ih _ _ _ ha];rw[ha] at h
    obtain⟨e,s'⟩:=x
    cases e with
    | exit i=>
     simp only at h ⊢
     split at h
     ·rename_i hi
      rw[if_pos (by simpa using hi)];exact h
     ·rename_i hi
      rw[if_neg (by simpa using hi)];exact h
    |_=>exact h
  | loop a=>
   rw[xRun] at h
   rw[irun]
   cases ha:xRun pg n a s with
   |none=>simp[ha] at h
   |some x=>
    rw[ih _ _ _ ha];rw[ha] at h
    obtain⟨e,s'⟩:=x
    cases e<;>simp only at * <;>first|exact ih _ _ _ h|exact h
  |exit i=>simpa [xRun,irun] using h
  |ret=>simpa [xRun,irun] using h
  |post a ks nl=>
   rw[xRun] at h
   rw[irun]
   cases ha:xRun pg n a s with
   |none=>simp[ha] at h
   |some x=>rw[ih _ _ _ ha];rw[ha] at h;exact h
  |cut a=>rw[xRun] at h;rw[irun];exact ih _ _ _ h
  |bad=>simp[xRun] at h
def saysYes:Option (PV×List GObj)→Bool
 |some (.bool true,[])=>true
 |_=>false
theorem jtj {pg:Prg} {n f:Nat} (h:saysYes (xCallBy (xRun pg n) pg f [] [])=true):callL pg f [] []=some (.bool true,[]):=by
 cases hx:xCallBy (xRun pg n) pg f [] [] with
 |none=>rw[hx] at h;cases h
 |some r=>
  have:=jk8 pg n f [] [] r (jnb (jti pg n) _ _ _ _ hx)
  rw[this]
  rw[hx] at h
  obtain⟨v,g⟩:=r
  cases v<;>try cases h
  rename_i b
  cases b<;>cases g<;>first|rfl|cases h
end Go.Lw
end
