/-
  The texts that the proof stands on, part 6.
-/
import Derived.Test.YtmodipglnngghabBlastTellsE
set_option linter.unusedVariables false
set_option linter.unusedSimpArgs false
set_option linter.unnecessarySimpa false

set_option maxRecDepth 100000
set_option maxHeartbeats 4000000
namespace Go.Lw
open Go
mutual
def ke:PV->PV->Bool
 | .und,.und| .nilp,.nilp| .nilm,.nilm| .nilf,.nilf| .nils,.nils| .nilI,.nilI| .someI,.someI=>true
 | .int k n,.int k' n'=>decide (k=k')&&decide (n=n')
 | .bool b,.bool b'=>b==b'
 | .str s,.str s'=>s.data.toList==s'.data.toList
 | .agg l,.agg m=>gP l m
 | .tup l,.tup m=>gP l m
 | .sl o z l,.sl o' z' m=>o==o'&&(z==z'&&gP l m)
 | .bs g b o n z,.bs g' b' o' n' z'=>g==g'&&(b==b'&&(o==o'&&(n==n'&&z==z')))
 | .ptr g b o,.ptr g' b' o'=>g==g'&&(b==b'&&o==o')
 | .ep e o,.ep e' o'=>ke e e'&&o==o'
 | .mp b,.mp b'=>b==b'
 | .stk b g n,.stk b' g' n'=>b==b'&&(g==g'&&n==n')
 | .pstk b g n,.pstk b' g' n'=>b==b'&&(g==g'&&n==n')
 | .fn f l,.fn f' m=>f==f'&&gP l m
 | .bfn f l,.bfn f' m=>f==f'&&gP l m
 | .sub b g o n,.sub b' g' o' n'=>b==b'&&(g==g'&&(o==o'&&n==n'))
 |_,_=>false
def gP:List PV->List PV->Bool
 |[],[]=>true
 |a::l,b::m=>ke a b&&gP l m
 |_,_=>false
end
mutual
theorem mQ:∀{a b:PV},ke a b=true->a=b
 | a,b,h=>by
  cases a<;>cases b<;>simp[ke] at h<;>first|rfl|skip
  case int.int=>obtain⟨rfl,rfl⟩:=h;rfl
  case bool.bool=>subst h;rfl
  case str.str s s'=>
   obtain⟨⟨l⟩⟩:=s;obtain⟨⟨l'⟩⟩:=s';simp at h;subst h;rfl
  case agg.agg=>rw[jL h]
  case tup.tup=>rw[jL h]
  case sl.sl=>obtain⟨rfl,rfl,h⟩:=h;rw[jL h]
  case bs.bs=>obtain⟨rfl,rfl,rfl,rfl,rfl⟩:=h;rfl
  case ptr.ptr=>obtain⟨rfl,rfl,rfl⟩:=h;rfl
  case ep.ep=>obtain⟨h,rfl⟩:=h;rw[mQ h]
  case mp.mp=>subst h;rfl
  case stk.stk=>obtain⟨rfl,rfl,rfl⟩:=h;rfl
  case pstk.pstk=>obtain⟨rfl,rfl,rfl⟩:=h;rfl
  case fn.fn=>obtain⟨rfl,h⟩:=h;rw[jL h]
  case bfn.bfn=>obtain⟨rfl,h⟩:=h;rw[jL h]
  case sub.sub=>obtain⟨rfl,rfl,rfl,rfl⟩:=h;rfl
theorem jL:∀{l m:List PV},gP l m=true->l=m
 |[],[],_=>rfl
 |a::l,b::m,h=>by simp[gP] at h;rw[mQ h.1,jL h.2]
 |[],_::_,h=>by simp[gP] at h
 |_::_,[],h=>by simp[gP] at h
end
def lv:List (PV×PV)->List (PV×PV)->Bool
 |[],[]=>true
 |(a,b)::l,(c,d)::m=>ke a c&&(ke b d&&lv l m)
 |_,_=>false
theorem yB:∀{l m:List (PV×PV)},lv l m=true->l=m
 |[],[],_=>rfl
 |(a,b)::l,(c,d)::m,h=>by simp[lv] at h;rw[mQ h.1,mQ h.2.1,yB h.2.2]
 |[],_::_,h=>by simp[lv] at h
 |_::_,[],h=>by simp[lv] at h
def pw:GObj->GObj->Bool
 | .cells l,.cells m=>gP l m
 | .map l,.map m=>lv l m
 | .stk g l,.stk g' m=>g==g'&&gP l m
 | .bld s,.bld s'=>s.data.toList==s'.data.toList
 |_,_=>false
theorem yC {a b:GObj} (h:pw a b=true):a=b:=by
 cases a<;>cases b<;>simp[pw] at h
 ·rw[jL h]
 ·rw[yB h]
 ·obtain⟨rfl,h⟩:=h;rw[jL h]
 ·rename_i s s'
  obtain⟨⟨l⟩⟩:=s;obtain⟨⟨l'⟩⟩:=s';simp at h;subst h;rfl
def iu:List GObj->List GObj->Bool
 |[],[]=>true
 |a::l,b::m=>pw a b&&iu l m
 |_,_=>false
theorem pz:∀{l m:List GObj},iu l m=true->l=m
 |[],[],_=>rfl
 |a::l,b::m,h=>by simp[iu] at h;rw[yC h.1,pz h.2]
 |[],_::_,h=>by simp[iu] at h
 |_::_,[],h=>by simp[iu] at h
def mR (p:PV->Bool):List PV->Bool
 |[]=>true
 |a::l=>p a&&mR p l
theorem yD {p:PV->Bool}:∀{l:List PV},mR p l=true->l.all p=true
 |[],_=>rfl
 |a::l,h=>by simp only[mR,aY] at h;simp only[List.all_cons,aY];exact⟨h.1,yD h.2⟩
def gn {α:Type}:Bool->Option α->Option α
 |true,x=>x
 |false,_=>none
def kg (cf:CallF) (s:St) (d:Option Nat) (q:Bool) (f:Nat) (vs:List PV):Option St:=
 gn (mR ar vs) (match cf f vs s.gh with
  |some (r,gh')=>(match q with
   |true=>gn (iu gh' s.gh) (some ⟨eu s.env d r,s.lh,s.gh⟩)
   |false=>some ⟨eu s.env d r,s.lh,gh'⟩)
  |none=>none)
theorem mS {cf cf':CallF} (hc:Le cf cf') {s s':St} {d:Option Nat} {q:Bool} {f:Nat} {vs:List PV} (h:kg cf s d q f vs=some s'):dV cf' s d q f vs=some s':=by
 unfold kg at h;cases ha:mR ar vs with
 |false=>rw[ha] at h;cases h
 | true=>
  rw[ha] at h;simp only[gn] at h;unfold dV;rw[if_pos (yD ha)];cases hr:cf f vs s.gh with
  |none=>rw[hr] at h;cases h
  | some x=>
   obtain⟨r,gh'⟩:=x;rw[hr] at h;rw[hc _ _ _ _ hr];simp only at h ⊢;cases q with
   |false=>simpa using h
   | true=>
    simp only at h;cases hg:iu gh' s.gh with
    |false=>rw[hg] at h;cases h
    |true=>
     rw[hg] at h;simp only[if_true];rw[if_pos (pz hg)];exact h
def jM:Option GObj->Option GObj->Bool
 |some a,some b=>pw a b
 |_,_=>false
theorem ti {a b:Option GObj} (h:jM a b=true):a=b/\a.isSome=true:=by cases a<;>cases b<;>simp[jM] at h;rw[yC h];exact⟨rfl,rfl⟩
def tj (e:List (Nat×PV)) (gh gh':List GObj) (n:Nat):Bool:=
 match get e n with
 |some (.ptr true b _)=>jM gh'[b]? gh[b]?
 |some (.pstk b _ _)=>jM gh'[b]? gh[b]?
 |some (.stk b _ _)=>jM gh'[b]? gh[b]?
 |_=>false
theorem Iz {e:List (Nat×PV)} {gh gh':List GObj} {n:Nat} (h:tj e gh gh' n=true):keptB e gh gh' n:=by
 have key:∀b,jM gh'[b]? gh[b]?=true->b<gh.length/\gh'[b]?=gh[b]?:=λb hb=>by
  obtain⟨h1,h2⟩:=ti hb;refine⟨?_,h1⟩;rw[h1] at h2;rcases Nat.lt_or_ge b gh.length with h3|h3
  ·exact h3
  ·rw[List.getElem?_eq_none h3] at h2;cases h2
 unfold tj at h;unfold keptB;split at h
 ·rename_i hg;rw[hg];exact key _ h
 ·rename_i hg;rw[hg];exact key _ h
 ·rename_i hg;rw[hg];exact key _ h
 ·cases h
def pA (p:Nat->Bool):List Nat->Bool
 |[]=>true
 |a::l=>p a&&pA p l
theorem yE {p:Nat->Bool}:∀{l:List Nat},pA p l=true->∀n∈l,p n=true
 |[],_=>by simp
 |a::l,h=>by
  simp only[pA,aY] at h;intro n hn;rcases List.mem_cons.1 hn with rfl|hn
  ·exact h.1
  ·exact yE h.2 n hn
def tl:Option (List GObj)->List GObj->Bool
 |some a,b=>iu a b
 |none,_=>false
theorem yF {a:Option (List GObj)} {b:List GObj} (h:tl a b=true):a=some b:=by
 cases a with
 |none=>cases h
 |some a=>rw[pz h]
noncomputable def tm (cf:CallF) (s:St) (d:Option Nat) (f:Nat) (vs:List PV) (b off:Nat):Option St:=
 match kg cf s d false f vs with
 | some s'=>(match fc s.gh b off true with
  | some g1=>(match fc s.gh b off false with
   | some g2=>(match cf f vs g1 with
    |some r1=>(match cf f vs g2 with
     |some r2=>gn (ke r1.1 r2.1&&(jM r1.2[b]? g1[b]?&&(jM r2.2[b]? g2[b]?&&(tl (fc r1.2 b off false) r2.2&&tl (fc r2.2 b off true) r1.2)))) (some s')
     |none=>none)
    |none=>none)
   |none=>none)
  |none=>none)
 |none=>none
theorem IA {cf cf':CallF} (hc:Le cf cf') {s s':St} {d:Option Nat} {f:Nat} {vs:List PV} {b off:Nat} (h:tm cf s d f vs b off=some s'):fX cf' s d f vs b off=some s':=by
 unfold tm at h;split at h<;>try (cases h;done)
 rename_i s1 h1;split at h<;>try (cases h;done)
 rename_i g1 h2;split at h<;>try (cases h;done)
 rename_i g2 h3;split at h<;>try (cases h;done)
 rename_i r1 h4;split at h<;>try (cases h;done)
 rename_i r2 h5;unfold gn at h;split at h<;>try (cases h;done)
 rename_i hk;simp only[aY] at hk;obtain⟨k1,k2,k3,k4,k5⟩:=hk;cases h;unfold fX;simp only[aC];refine⟨s',mS hc h1,g1,h2,g2,h3,r1,hc _ _ _ _ h4,r2,hc _ _ _ _ h5,?_⟩;rw[if_pos ⟨mQ k1,(ti k2).1,(ti k3).1,yF k4,yF k5⟩]
noncomputable def jN (cf:CallF) (s:St) (o:IOp):Option St:=
 match o with
 | .callP d f xs ns=>match cZ s.env xs with
  |some vs=>(match kg cf s d false f vs with
   |some s'=>gn (pA (tj s.env s.gh s'.gh) ns) (some s')
   |none=>none)
  |none=>none
 | .callR d f xs n o2=>match cZ s.env xs with
  |some vs=>(match get s.env n with
   |some (.ptr true b o)=>tm cf s d f vs b (o+o2)
   |_=>none)
  |none=>none
 | .call d q f xs=>match cZ s.env xs with
  |some vs=>kg cf s d q f vs
  |none=>none
 | .callv d q fv xs=>match ah s.env fv with
  |some (.fn f caps)=>(match cZ s.env xs with
   |some vs=>kg cf s d q f (vs++caps)
   |none=>none)
  |some (.bfn f fs)=>(match cZ s.env xs with
   |some vs=>kg cf s d q f (fs++vs)
   |none=>none)
  |_=>none
 |o=>ae cf s o
theorem yG {cf cf':CallF} (hc:Le cf cf') {s s':St} {o:IOp} (h:jN cf s o=some s'):ae cf' s o=some s':=by
 cases o with
 |callP d f xs ns=>
  simp only[jN] at h;split at h<;>try (cases h;done)
  rename_i vs hv;split at h<;>try (cases h;done)
  rename_i s1 h1;unfold gn at h;split at h<;>try (cases h;done)
  rename_i hk;cases h;simp only[ae,hv,cC,mS hc h1];rw[if_pos (λn hn=>Iz (yE hk n hn))]
 |callR d f xs n o2=>
  simp only[jN] at h;split at h<;>try (cases h;done)
  rename_i vs hv;split at h<;>try (cases h;done)
  rename_i b o hg;simp only[ae,hv,hg,cC];exact IA hc h
 |appendP=>simp[jN,ae] at h
 | call d q f xs=>
  simp only[jN] at h;split at h
  ·rename_i vs hv
   simp only[ae,hv,cC];exact mS hc h
  ·cases h
 | callv d q fv xs=>
  simp only[jN] at h;split at h
  ·rename_i f caps hf
   split at h
   ·rename_i vs hv
    simp only[ae,hf,hv,cC];exact mS hc h
   ·cases h
  ·rename_i f fs hf
   split at h
   ·rename_i vs hv
    simp only[ae,hf,hv,cC];exact mS hc h
   ·cases h
  ·cases h
 |_=>exact nb hc h
noncomputable def kh (cf:CallF):List IOpG->St->Option St
 |[],s=>some s
 | o ::l,s=>match o.guard with
  |none=>(match jN cf s o.op with
   |some s1=>kh cf l s1
   |none=>none)
  | some (g,want)=>match get s.env g with
   | some (.bool b)=>(match b==want with
    |true=>(match jN cf s o.op with
     |some s1=>kh cf l s1
     |none=>none)
    |false=>kh cf l (eF s o.op))
   |some .und=>kh cf l (eF s o.op)
   |_=>none
theorem mT {cf cf':CallF} (hc:Le cf cf'):∀{l:List IOpG} {s s':St},kh cf l s=some s'->dF cf' l s=some s'
 |[],s,s',h=>h
 | o ::l,s,s',h=>by
  simp only[kh] at h;simp only[dF];split at h
  ·rename_i hg
   simp only[hg];split at h
   ·rename_i s1 h1
    rw[yG hc h1];exact mT hc h
   ·cases h
  ·rename_i g want hg
   simp only[hg];split at h
   ·rename_i b hb
    simp only[hb];split at h
    ·rename_i hw
     rw[if_pos (by simpa using hw)];split at h
     ·rename_i s1 h1
      rw[yG hc h1];exact mT hc h
     ·cases h
    ·rename_i hw
     rw[if_neg (by simpa using hw)];exact mT hc h
   ·rename_i hb
    simp only[hb];exact mT hc h
   ·cases h
noncomputable def yH (fn:IFunc) (gh:List GObj):ag×St->Option (PV×List GObj)
 |(.exit _,_)=>none
 | (_,s)=>match results fn.own fn.res s with
  |some r=>gn (ai r) (match fn.trunc with
   |true=>gn (iu (s.gh.take gh.length) gh) (gn (du gh.length s.gh r).noG (some (du gh.length s.gh r,gh)))
   |false=>some (r,s.gh))
  |none=>none
open Classical in
theorem IB {fn:IFunc} {gh:List GObj} {x:ag×St} {r:PV×List GObj} (h:yH fn gh x=some r):am fn gh x=some r:=by
 obtain⟨e,s⟩:=x
 have main:(match results fn.own fn.res s with
  |some r=>gn (ai r) (match fn.trunc with
   |true=>gn (iu (s.gh.take gh.length) gh) (gn (du gh.length s.gh r).noG (some (du gh.length s.gh r,gh)))
   |false=>some (r,s.gh))
  |none=>none)=some r->((results fn.own fn.res s).bind λr=>if ai r then
   (if fn.trunc then if s.gh.take gh.length=gh/\(du gh.length s.gh r).noG then some (du gh.length s.gh r,gh) else none else some (r,s.gh)) else none)=some r:=by
  intro h;cases hr:results fn.own fn.res s with
  |none=>rw[hr] at h;cases h
  | some v=>
   rw[hr] at h;simp only[cC] at h ⊢;cases ho:ai v with
   |false=>rw[ho] at h;cases h
   | true=>
    rw[ho] at h;simp only[gn,if_true] at h ⊢;cases ht:fn.trunc with
    |false=>rw[ht] at h;simpa using h
    | true=>
     rw[ht] at h;simp only[if_true] at h ⊢;cases hg:iu (s.gh.take gh.length) gh with
     |false=>rw[hg] at h;cases h
     | true=>
      rw[hg] at h;simp only at h;cases hn:(du gh.length s.gh v).noG with
      |false=>rw[hn] at h;cases h
      |true=>
       rw[hn] at h;rw[if_pos ⟨pz hg,rfl⟩];exact h
 cases e with
 |exit i=>cases h
 |normal=>exact main h
 |ret=>exact main h
noncomputable def mU (run:ICode->St->Option (ag×St)) (pg:Prg):CallF:=λf vs gh=>
 match pg f with
 | some (.code fn)=>(match vs.length==fn.np with
  |true=>(match run fn.body ⟨fd 0 vs,[],gh⟩ with
   |some x=>yH fn gh x
   |none=>none)
  |false=>none)
 |some (.lib F)=>F vs gh
 |none=>none
noncomputable def ef (pg:Prg):Nat->ICode->St->Option (ag×St)
 |0,_,_=>none
 | n+1,c,s=>match c with
  | .skip=>some (.normal,s)
  | .region ops _=>match kh (mU (ef pg n) pg) ops s with
   |some s'=>some (.normal,s')
   |none=>none
  | .seq a b=>match ef pg n a s with
   |some (.normal,s')=>ef pg n b s'
   |r=>r
  | .cond x a b=>match ah s.env x with
   |some (.bool true)=>ef pg n a s
   |some (.bool false)=>ef pg n b s
   |_=>none
  | .block id a=>match ef pg n a s with
   |some (.exit i,s')=>match i==id with
    |true=>some (.normal,s')
    |false=>some (.exit i,s')
   |r=>r
  | .loop a=>match ef pg n a s with
   |some (.normal,s')=>ef pg n (.loop a) s'
   |r=>r
  | .exit i=>some (.exit i,s)
  | .ret=>some (.ret,s)
  | .post a ks nl=>match ef pg n a s with
   |some (.normal,s')=>some (.normal,⟨keep nl ks s'.env,s'.lh.take nl,s'.gh⟩)
   |r=>r
  | .cut a=>ef pg n a s
  | .bad=>none
theorem yI {run run':ICode->St->Option (ag×St)} {pg:Prg} (h:∀c s r,run c s=some r->run' c s=some r):Le (mU run pg) (dG run' pg):=by
 intro f vs gh r hh;unfold mU at hh;unfold dG;cases hp:pg f with
 |none=>simp[hp] at hh
 | some df=>
  cases df with
  |lib F=>simp only[hp] at *;exact hh
  | code fn=>
   simp only[hp] at *;split at hh
   ·rename_i hl
    rw[if_pos (by simpa using hl)];split at hh
    ·rename_i x hx
     rw[h _ _ _ hx];exact IB hh
    ·cases hh
   ·cases hh
theorem IC (pg:Prg):∀(n:Nat) (c:ICode) (s:St) (r:ag×St),ef pg n c s=some r->aw pg n c s=some r:=by
 intro n
 induction n with
 |zero=>intro c s r h;simp[ef] at h
 | succ n ih=>
  intro c s r h;cases c with
  |skip=>simpa [ef,aw] using h
  | region ops d=>
   simp only[ef] at h;simp only[aw];split at h
   ·rename_i s' h1
    rw[mT (yI ih) h1];exact h
   ·cases h
  | seq a b=>
   rw[ef] at h;rw[aw];cases ha:ef pg n a s with
   |none=>simp[ha] at h
   |some x=>
    rw[ih _ _ _ ha];rw[ha] at h;obtain⟨e,s'⟩:=x;cases e<;>simp only at * <;>first|exact ih _ _ _ h|exact h
  |cond x a b=>
   rw[ef] at h;rw[aw];split at h
   ·rename_i hx;simp only[hx];exact ih _ _ _ h
   ·rename_i hx;simp only[hx];exact ih _ _ _ h
   ·cases h
  | block id a=>
   rw[ef] at h;rw[aw];cases ha:ef pg n a s with
   |none=>simp[ha] at h
   | some x=>
    rw[ih _ _ _ ha];rw[ha] at h;obtain⟨e,s'⟩:=x;cases e with
    | exit i=>
     simp only at h ⊢;split at h
     ·rename_i hi
      rw[if_pos (by simpa using hi)];exact h
     ·rename_i hi
      rw[if_neg (by simpa using hi)];exact h
    |_=>exact h
  | loop a=>
   rw[ef] at h;rw[aw];cases ha:ef pg n a s with
   |none=>simp[ha] at h
   |some x=>
    rw[ih _ _ _ ha];rw[ha] at h;obtain⟨e,s'⟩:=x;cases e<;>simp only at * <;>first|exact ih _ _ _ h|exact h
  |exit i=>simpa [ef,aw] using h
  |ret=>simpa [ef,aw] using h
  |post a ks nl=>
   rw[ef] at h;rw[aw];cases ha:ef pg n a s with
   |none=>simp[ha] at h
   |some x=>rw[ih _ _ _ ha];rw[ha] at h;exact h
  |cut a=>rw[ef] at h;rw[aw];exact ih _ _ _ h
  |bad=>simp[ef] at h
def ID:Option (PV×List GObj)->Bool
 |some (.bool true,[])=>true
 |_=>false
theorem IE {pg:Prg} {n f:Nat} (h:ID (mU (ef pg n) pg f [] [])=true):ac pg f [] []=some (.bool true,[]):=by
 cases hx:mU (ef pg n) pg f [] [] with
 |none=>rw[hx] at h;cases h
 |some r=>
  have:=tL pg n f [] [] r (yI (IC pg n) _ _ _ _ hx);rw[this];rw[hx] at h;obtain⟨v,g⟩:=r;cases v<;>try cases h
  rename_i b;cases b<;>cases g<;>first|rfl|cases h
inductive Der (L:List (List Int)) (S:List Int):Int->Prop
 |base {x:Int}:x∈S->Der L S x
 |unit {c:List Int} {x:Int}:c∈L->x∈c->(∀y∈c,y≠x->Der L S (-y))->Der L S x
structure SoOk (L:List (List Int)) (S T:List Int):Prop where
 has:∀x∈S,x∈T
 der:∀x∈T,Der L S x
 con:∀x∈T,-x∉T
 nz:∀x∈T,x≠0
theorem SoOk.add {L:List (List Int)} {S T:List Int} (h:SoOk L S T) {x:Int} (hd:Der L S x) (hn: -x∉T) (h0:x≠0):SoOk L S (T++[x]) where
 has:=λy hy=>bY.2 (.inl (h.has y hy))
 der:=λy hy=>by
  rcases bY.1 hy with hy|hy
  ·exact h.der y hy
  ·rw[List.mem_singleton.1 hy];exact hd
 con:=λy hy hm=>by
  rcases bY.1 hy with hy|hy<;>rcases bY.1 hm with hm|hm
  ·exact h.con y hy hm
  ·have e:=List.mem_singleton.1 hm
   exact hn (by rw[<-e,Int.neg_neg];exact hy)
  ·rw[List.mem_singleton.1 hy] at hm;exact hn hm
  ·have e1:=List.mem_singleton.1 hy
   have e2:=List.mem_singleton.1 hm;omega
 nz:=λy hy=>by
  rcases bY.1 hy with hy|hy
  ·exact h.nz y hy
  ·rw[List.mem_singleton.1 hy];exact h0
structure I4 (L:List (List Int)) (d c:List Int):Prop where
 mem:c∈L
 same:∀x,x∈d↔x∈c
 nodup:d.Nodup
end Go.Lw