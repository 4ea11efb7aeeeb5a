/-
  The texts that the proof stands on, part 1.
-/
import GoSem.Core.Value
import GoSem.Core.View
import GoSem.Core.Code
set_option linter.unusedVariables false
set_option linter.unusedSimpArgs false
set_option linter.unnecessarySimpa false

set_option maxRecDepth 100000
set_option maxHeartbeats 4000000
namespace Go.Lw
open Go
abbrev aA:=@List.getElem?_eq_getElem
abbrev aB:=@List.getElem?_map
abbrev aC:=@Option.bind_eq_some_iff
abbrev aD:=@List.getElem?_eq_some_iff
abbrev aE:=@Option.map_eq_some_iff
abbrev aF:=@decide_eq_false
abbrev aG:=@decide_eq_true
abbrev aH:=@decide_eq_true_eq
abbrev aJ:=@List.getElem?_append_left
abbrev aL:=@List.drop_eq_getElem_cons
abbrev aM:=@List.getD_eq_getElem?_getD
abbrev aP:=@List.mem_of_getElem?
abbrev aQ:=@List.drop_eq_nil_of_le
abbrev aR:=@List.getElem?_append_right
abbrev aS:=@Nat.lt_of_lt_of_le
abbrev aU:=@Classical.byContradiction
abbrev aV:=@List.length_append
abbrev aW:=@Int.natCast_zero
abbrev aX:=@Bool.and_eq_true
abbrev aY:=@List.append_assoc
abbrev aZ:=@beq_false_of_ne
abbrev bB:=@List.length_cons
abbrev bC:=@List.length_map
abbrev bD:=@List.mem_append_left
abbrev bE:=@List.mem_append_right
abbrev bF:=@List.mem_cons_self
abbrev bG:=@List.mem_cons_of_mem
abbrev bH:=@List.append_nil
abbrev bI:=@List.nil_append
abbrev bJ:=@List.cons_append
abbrev bK:=@List.map_append
abbrev bM:=@List.drop_zero
abbrev bN:=@List.take_of_length_le
abbrev bO:=@Nat.pow_le_pow_right
abbrev bP:=@Bool.false_eq_true
abbrev bQ:=@List.map_cons
abbrev bR:=@List.map_nil
abbrev bS:=@List.all_eq_true
abbrev bU:=@Option.some.injEq
abbrev bW:=@Prod.mk.injEq
abbrev bX:=@Nat.le_trans
abbrev bY:=@List.getElem_mem
abbrev bZ:=@List.mem_append
abbrev cA:=@List.length_nil
abbrev cB:=@Nat.add_zero
abbrev cC:=@Option.bind_some
abbrev cD:=@Option.map_some
abbrev cE:=@List.getElem?_take
abbrev cF:=@List.getElem?_set
abbrev cG:=@List.mem_iff_getElem
abbrev cH:=@List.mem_of_mem_take
abbrev cI:=@List.length_take
abbrev cJ:=@Array.getD_eq_getD_getElem?
abbrev cK:=@List.nodup_append
abbrev cL:=@List.flatMap_cons
abbrev cM:=@Nat.mod_eq_of_lt
abbrev cN:=@Nat.le_refl
abbrev cO:=@Nat.zero_add
abbrev cP:=@Nat.mul_le_mul_right
abbrev cQ:=@Option.some.inj
abbrev cR:=@beq_iff_eq
section
inductive PV where
 |und
 |int (k:IntKind) (n:Int)
 |bool (b:Bool)
 |str (s:ByteArray)
 |agg (cs:List PV)
 |tup (vs:List PV)
 |sl (own:Bool) (z:Nat) (xs:List PV)
 |bs (g:Bool) (b off n z:Nat)
 |ptr (g:Bool) (b off:Nat)
 |nilp
 |ep (e:PV) (off:Nat)
 |mp (b:Nat)
 |nilm
 |nilf
 |nils
 |stk (b gen n:Nat)
 |pstk (b gen i:Nat)
 |sub (b gen off n:Nat)
 |fn (f:Nat) (caps:List PV)
 |bfn (f:Nat) (fs:List PV)
 |yl (b:Nat)
 |nilI
 |someI
 |arr (z:PV) (n:Nat)
 |junk
 deriving Inhabited
def PV.cells:PV->List PV
 | .agg cs=>cs
 |v=>[v]
def PV.one:PV->Bool
 | .und| .agg _| .tup _| .ptr false _ _| .bs false _ _ _ _| .arr _ _| .junk=>false
 |_=>true
def ah (v:PV):Bool:=v.cells.all PV.one
mutual
def PV.noG:PV->Bool
 | .agg cs=>cU cs
 | .tup cs=>cU cs
 | .sl _ _ xs=>cU xs
 | .ep e _=>e.noG
 | .fn _ cs=>cU cs
 | .bfn _ cs=>cU cs
 | .bs _ _ _ _ _| .ptr _ _ _| .mp _| .stk _ _ _| .pstk _ _ _| .sub _ _ _ _| .yl _=>false
 |_=>true
def cU:List PV->Bool
 |[]=>true
 |c::l=>c.noG&&cU l
end
def aa:PV->PV
 | .sl _ z xs=> .sl false z xs
 | .arr _ _=> .junk
 |v=>v
def degr:PV->PV
 | .sl _ z xs=> .sl false z xs
 | .arr _ _=> .junk
 | .agg cs=> .agg (cs.map aa)
 | .tup vs=> .tup (vs.map aa)
 |v=>v
inductive GObj where
 |cells (cs:List PV)
 |map (es:List (PV×PV))
 |stk (gen:Nat) (xs:List PV)
 |bld (s:ByteArray)
 |lrec (st:Nat) (y:Nat) (caps:List PV)
 deriving Inhabited
structure St where
 env:List (Nat×PV)
 lh:List (List PV)
 gh:List GObj
inductive IX where
 |t (n:Nat)
 |c (v:PV)
 |f (id:Nat)
 deriving Inhabited
def get:List (Nat×PV)->Nat->Option PV
 |[],_=>none
 |(a,v)::l,t=>if a=t then some v else get l t
def put:List (Nat×PV)->Nat->PV->List (Nat×PV)
 |[],t,v=>[(t,v)]
 |(a,u)::l,t,v=>if a=t then (t,v)::l else (a,u)::put l t v
def St.put (s:St) (t:Nat) (v:PV):St:=⟨Lw.put s.env t v,s.lh,s.gh⟩
def ai (e:List (Nat×PV)):IX->Option PV
 | .t n=>(get e n).map degr
 | .c v=>some (degr v)
 | .f id=>some (.fn id [])
def fN (e:List (Nat×PV)):IX->Option PV
 | .t n=>(get e n).map degr
 | .c v=>some v
 | .f id=>some (.fn id [])
def cv (e:List (Nat×PV)):List IX->Option (List PV)
 |[]=>some []
 |x::l=>(ai e x).bind λv=>(cv e l).map (v:: ·)
inductive IOp where
 |mv (d:Nat) (x:IX)
 |tk (d s:Nat)
 |tkS (d n lo:Nat)
 |pick (d:Nat) (c x y:IX)
 |box (d:Nat) (g tk:Bool) (x:IX)
 |alloc (d:Nat) (g:Bool) (z:PV)
 |build (d:Nat) (z:List PV) (ps:List (Nat×Nat×IX))
 |buildT (d:Nat) (z:List PV) (ps:List (Nat×Nat×IX))
 |buildSl (d z:Nat) (els:List IX)
 |load (d:Nat) (agg:Bool) (k:Nat) (a:IX)
 |loadT (d:Nat) (a:IX)
 |store (tk:Bool) (k:Nat) (a x:IX)
 |storeP (tk:Bool) (k:Nat) (a x:IX) (ns:List Nat)
 |nilc (d:Nat) (x:IX)
 |bin (d:Nat) (op:BinOp) (x y:IX)
 |eqa (d:Nat) (neg:Bool) (ks:List Bool) (x y:IX)
 |eqb (d:Nat) (neg:Bool) (x y:IX)
 |eqn (d:Nat) (neg:Bool) (x:IX)
 |un (d:Nat) (op:UnOp) (x:IX)
 |conv (d:Nat) (k:IntKind) (x:IX)
 |mkfn (d f:Nat) (caps:List IX)
 |mkmap (d:Nat)
 |mksl (d:Nat) (g:Bool) (z bytes:Nat) (zero:PV) (l:IX)
 |slice (d z:Nat) (x:IX) (lo hi:Option IX)
 |sliceS (d:Nat) (x:IX) (lo hi:Option IX)
 |faddr (d:Nat) (x:IX) (off:Nat)
 |field (d:Nat) (agg:Bool) (k off:Nat) (x:IX)
 |iaddr (d z:Nat) (arr:Option Nat) (x i:IX)
 |index (d z arr:Nat) (agg:Bool) (x i:IX)
 |indexS (d:Nat) (x i:IX)
 |lookup (d kn:Nat) (m k:IX) (ok:Bool) (zero:PV)
 |mupd (kn:Nat) (m k x:IX)
 |call (d:Option Nat) (quiet:Bool) (f:Nat) (xs:List IX)
 |callv (d:Option Nat) (quiet:Bool) (fv:IX) (xs:List IX)
 |callF (d:Option Nat) (f:Nat) (xs:List IX)
 |callE (d:Option Nat) (fv:IX) (xs:List IX)
 |loadN (d:Nat) (agg:Bool) (k:Nat) (a:IX) (n:Nat)
 |loadL (d:Nat) (a:IX)
 |len (d kd:Nat) (x:IX)
 |append (d z bytes:Nat) (s x:IX)
 |appendK (d bytes:Nat) (s x:IX)
 |appendN (d bytes:Nat) (s x:IX)
 |buildSlK (d:Nat) (els:List IX)
 |loadK (d:Nat) (a:IX)
 |loadH (d:Nat) (a:IX)
 |maxi (d:Nat) (xs:List IX)
 |extract (d:Nat) (x:IX) (i:Nat)
 |storeK (a x:IX)
 |clearK (x:IX)
 |mkbf (d f:Nat) (fs:List IX)
 |callP (d:Option Nat) (f:Nat) (xs:List IX) (ns:List Nat)
 |callR (d:Option Nat) (f:Nat) (xs:List IX) (n off:Nat)
 |appendE (d bytes:Nat) (s x:IX)
 |loadKB (d:Nat) (a:IX) (n:Nat)
 |loadTB (d:Nat) (a:IX) (n off:Nat)
 |loadB (d:Nat) (agg:Bool) (k:Nat) (a:IX) (n:Nat)
 |loadJ (d:Nat) (agg:Bool) (k:Nat) (a:IX)
 |appendP (d bytes:Nat) (s x:IX) (ns:List Nat)
 |mkarr (d z bytes:Nat) (zero:PV) (l:IX)
 |buildA (d:Nat) (z:List PV) (ps:List (Nat×Nat×IX))
 |boxSl (d z:Nat) (els:List IX)
 |mkbld (d:Nat)
 |boxB (d:Nat) (x:IX)
 |loadG (d:Nat) (ss:List ByteArray)
 |cally (d:Option Nat) (x:IX) (xs:List IX)
 deriving Inhabited
structure IOpG where
 op:IOp
 guard:Option (Nat×Bool):=none
inductive ICode where
 |skip
 |region (ops:List IOpG) (draw:Bool)
 |seq (a b:ICode)
 |cond (c:IX) (a b:ICode)
 |block (id:Nat) (c:ICode)
 |loop (c:ICode)
 |exit (id:Nat)
 |ret
 |post (c:ICode) (ks:List Nat) (nl:Nat)
 |cut (c:ICode)
 |lift (c:ICode) (ks:List Nat) (n:Nat)
 |rangeF (g:IX) (y:Nat) (ks:List Nat)
 |bad
inductive gj where
 |t (n:Nat)
 |cell (a:Nat) (agg:Bool) (k:Nat)
structure IFunc where
 np:Nat
 res:List gj
 own:Bool
 trunc:Bool
 body:ICode
inductive ag where
 |normal
 |exit (id:Nat)
 |ret
def maxBytes:Nat:=140737488355328
def fp (op:BinOp) (x y:PV):Option PV:=
 match x,y with
 | .int k a,.int k' b=>
  match op with
  | .shl=>if b<0 then none else some (.int k (k.wrap (a*2^(min b.toNat k.bits))))
  | .shr=>if b<0 then none else some (.int k (a.fdiv (2^(min b.toNat k.bits))))
  | .add=>if k=k' then some (.int k (k.wrap (a+b))) else none
  | .sub=>if k=k' then some (.int k (k.wrap (a-b))) else none
  | .mul=>if k=k' then some (.int k (k.wrap (a*b))) else none
  | .quo=>if k=k' then if b=0 then none else some (.int k (k.wrap (a.tdiv b))) else none
  | .rem=>if k=k' then if b=0 then none else some (.int k (a.tmod b)) else none
  | .and=>if k=k' then some (.int k (k.wrap (BitVec.ofInt k.bits a &&&BitVec.ofInt k.bits b).toNat)) else none
  | .or=>if k=k' then some (.int k (k.wrap (BitVec.ofInt k.bits a |||BitVec.ofInt k.bits b).toNat)) else none
  | .xor=>if k=k' then some (.int k (k.wrap (BitVec.ofInt k.bits a ^^^BitVec.ofInt k.bits b).toNat)) else none
  | .eql=>if k=k' then some (.bool (a==b)) else none
  | .neq=>if k=k' then some (.bool (a !=b)) else none
  | .lss=>if k=k' then some (.bool (decide (a<b))) else none
  | .leq=>if k=k' then some (.bool (decide (a<=b))) else none
  | .gtr=>if k=k' then some (.bool (decide (b<a))) else none
  | .geq=>if k=k' then some (.bool (decide (b<=a))) else none
  |_=>none
 | .str a,.str b=>
  match op with
  | .add=>if ((a.size+b.size:Nat):Int)>IntKind.i64.max then none else some (.str (a++b))
  | .eql=>some (.bool (a.toList==b.toList))
  | .neq=>some (.bool (!(a.toList==b.toList)))
  |_=>none
 |_,_=>none
def ie:Bool->PV->PV->Option Bool
 |false,.int k a,.int k' b=>if k=k' then some (a==b) else none
 |true,.bool a,.bool b=>some (a==b)
 |_,_,_=>none
def ea:List Bool->List PV->List PV->Option Bool
 |[],[],[]=>some true
 |s::r,a::l,b::m=>match ie s a b with
  |some true=>ea r l m
  |some false=>some false
  |none=>none
 |_,_,_=>none
def ke (op:UnOp) (x:PV):Option PV:=
 match op,x with
 | .neg,.int k n=>some (.int k (k.wrap (0-n)))
 | .xor,.int k n=>some (.int k (k.wrap (BitVec.ofInt k.bits (if k.signed then -1 else k.max) ^^^BitVec.ofInt k.bits n).toNat))
 | .not,.bool b=>some (.bool (!b))
 |_,_=>none
def St.cellsAt (s:St) (g:Bool) (b:Nat):Option (List PV):=
 if g then match s.gh[b]? with
  |some (.cells cs)=>some cs
  |_=>none
 else s.lh[b]?
def St.setCells (s:St) (g:Bool) (b:Nat) (cs:List PV):St:=
 if g then ⟨s.env,s.lh,s.gh.set b (.cells cs)⟩ else ⟨s.env,s.lh.set b cs,s.gh⟩
def St.newBox (s:St) (g:Bool) (cs:List PV):St×Nat:=
 if g then (⟨s.env,s.lh,s.gh++[.cells cs]⟩,s.gh.length) else (⟨s.env,s.lh++[cs],s.gh⟩,s.lh.length)
def gk (s:St) (d:Nat) (g:Bool) (cs:List PV):St:=(s.newBox g cs).1.put d (.ptr g (s.newBox g cs).2 0)
def aq (agg:Bool) (k off:Nat) (cs:List PV):Option PV:=
 if agg then if off+k<=cs.length then some (.agg ((cs.drop off).take k)) else none
 else cs[off]?
def ar (cs:List PV) (off:Nat) (new:List PV):List PV:=cs.take off++new++cs.drop (off+new.length)
def fq:List PV->List (Nat×Nat×PV)->Option (List PV)
 |z,[]=>some z
 |z,(off,k,v)::l=>if v.cells.length=k/\off+k<=z.length then fq (ar z off v.cells) l else none
def fb (e:List (Nat×PV)):List (Nat×Nat×IX)->Option (List (Nat×Nat×PV))
 |[]=>some []
 |(o,k,x)::l=>(ai e x).bind λv=>(fb e l).map ((o,k,v):: ·)
def dD (e:List (Nat×PV)):IX->Option (PV×List (Nat×PV))
 | .t n=>(get e n).map λv=>(v,Lw.put e n (degr v))
 | .c v=>some (v,e)
 | .f id=>some (.fn id [],e)
def ft (e:List (Nat×PV)):List (Nat×Nat×IX)->Option (List (Nat×Nat×PV)×List (Nat×PV))
 |[]=>some ([],e)
 |(o,k,x)::l=>(dD e x).bind λ(v,e1)=>(ft e1 l).map λ(vs,e2)=>((o,k,v)::vs,e2)
def dE (kn:Nat):PV->Bool
 | .int _ _=>kn==0
 | .agg cs=>kn !=0&&cs.length==kn
 |_=>false
def dq (kn:Nat):PV->PV->Option Bool
 | .int k a,.int k' b=>if kn=0/\k=k' then some (a==b) else none
 | .agg xs,.agg ys=>if kn=0 then none else ea (List.replicate kn false) xs ys
 |_,_=>none
def eU (kn:Nat):List (PV×PV)->PV->Option (Option PV)
 |[],_=>some none
 |(a,v)::l,k=>match dq kn k a with
  |some true=>some (some v)
  |some false=>eU kn l k
  |none=>none
def eb (kn:Nat):List (PV×PV)->PV->PV->Option (List (PV×PV))
 |[],k,v=>some [(k,v)]
 |(a,u)::l,k,v=>match dq kn k a with
  |some true=>some ((k,v)::l)
  |some false=>(eb kn l k v).map ((a,u):: ·)
  |none=>none
abbrev CallF:=Nat->List PV->List GObj->Option (PV×List GObj)
noncomputable section
open Classical
def dm (e:List (Nat×PV)) (dflt:Nat):Option IX->Option Nat
 |none=>some dflt
 |some x=>match ai e x with
  |some (.int _ i)=>if 0<=i then some i.toNat else none
  |_=>none
def eo (e:List (Nat×PV)) (d:Option Nat) (v:PV):List (Nat×PV):=
 match d with
 |some d=>Lw.put e d v
 |none=>e
def dF (cf:CallF) (s:St) (d:Option Nat) (quiet:Bool) (f:Nat) (vs:List PV):Option St:=
 if vs.all ah then match cf f vs s.gh with
 |some (r,gh')=>if quiet then if gh'=s.gh then some ⟨eo s.env d r,s.lh,s.gh⟩ else none else some ⟨eo s.env d r,s.lh,gh'⟩
 |none=>none
 else none
def elP (gh:List GObj):PV->Option PV
 | .ptr true b off=>match gh[b]? with
  |some (.cells cs)=>if ah (.agg (cs.map aa)) then some (.ep (.agg (cs.map aa)) off) else none
  |_=>none
 |v=>some v
def ov (gh:List GObj):List PV->Option (List PV)
 |[]=>some []
 |v::l=>(elP gh v).bind λu=>(ov gh l).map (u:: ·)
def dU:PV->Bool
 | .int _ _| .bool _=>true
 |_=>false
def ox (gh:List GObj) (b gen i:Nat):Option PV:=match gh[b]? with
 |some (.stk g xs)=>if g=gen then xs[i]? else none
 |_=>none
def lQ (gh:List GObj):PV->Option (List PV)
 | .sl _ 1 ys=>some ys
 | .stk b gen n=>match gh[b]? with
  |some (.stk g xs)=>if g=gen/\n<=xs.length then some (xs.take n) else none
  |_=>none
 | .sub b gen off n=>match gh[b]? with
  |some (.stk g xs)=>if g=gen/\off+n<=xs.length then some ((xs.drop off).take n) else none
  |_=>none
 | .nils=>some []
 |_=>none
def ig (b:Nat):PV->Bool
 | .stk b' _ _=>b' !=b
 | .sub b' _ _ _=>b' !=b
 |_=>true
def keptB (e:List (Nat×PV)) (gh gh':List GObj) (n:Nat):Prop:=
 match get e n with
 |some (.ptr true b _)=>b<gh.length/\gh'[b]?=gh[b]?
 |some (.pstk b _ _)=>b<gh.length/\gh'[b]?=gh[b]?
 |some (.stk b _ _)=>b<gh.length/\gh'[b]?=gh[b]?
 |some (.sl _ _ _)=>True
 |_=>False
def kf (gh:List GObj) (b off:Nat) (o:Bool):Option (List GObj):=
 match gh[b]? with
 |some (.cells cs)=>match cs[off]? with
  |some (.sl _ z ys)=>some (gh.set b (.cells (cs.set off (.sl o z ys))))
  |_=>none
 |_=>none
def doY (cf:CallF) (s:St) (d:Option Nat) (b:Nat) (vs:List PV):Option St:=
 match s.gh[b]? with
 | some (.lrec 1 y caps)=>if (caps++vs).all ah then match cf y (caps++vs++[.yl b]) s.gh with
   |some (.bool true,gh')=>some ⟨eo s.env d (.bool true),s.lh,gh'⟩
   |_=>none
  else none
 |_=>none
def fc (cf:CallF) (s:St) (g:IX) (y:Nat) (ks:List Nat):Option St:=
 match ai s.env g with
 | some (.fn F caps)=>(cv s.env (ks.map IX.t)).bind λvs=>if (vs++caps).all ah then match cf F (.yl s.gh.length::caps) (s.gh++[.lrec 1 y vs]) with
   |some (.tup [],gh')=>if gh'[s.gh.length]?=some (.lrec 1 y vs) then some ⟨s.env,s.lh,gh'.set s.gh.length (.lrec 0 y vs)⟩ else none
   |_=>none
  else none
 |_=>none
def oy (s:St) (tk:Bool) (k:Nat) (a x:IX):Option St:=match ai s.env a with
  | some (.ptr g b off)=>
   if tk then (dD s.env x).bind λ(v,e)=>(St.cellsAt ⟨e,s.lh,s.gh⟩ g b).bind λcs=>
    if v.cells.length=k/\off+k<=cs.length/\ah v then some (St.setCells ⟨e,s.lh,s.gh⟩ g b (ar cs off v.cells)) else none
   else (ai s.env x).bind λv=>(s.cellsAt g b).bind λcs=>
    if v.cells.length=k/\off+k<=cs.length/\ah v then some (s.setCells g b (ar cs off v.cells)) else none
  |_=>none
def ae (cf:CallF) (s:St):IOp->Option St
 | .mv d x=>(fN s.env x).map (s.put d)
 | .tkS d n lo=>match get s.env n with
  |some (.sl true 1 xs)=>if lo<=xs.length then some ⟨Lw.put (Lw.put s.env n (.sl false 1 xs)) d (.sl true 1 (xs.drop lo)),s.lh,s.gh⟩ else none
  |_=>none
 | .tk d n=>(get s.env n).map λv=>⟨Lw.put (Lw.put s.env n (degr v)) d v,s.lh,s.gh⟩
 | .pick d c x y=>match ai s.env c with
  |some (.bool true)=>(ai s.env x).map (s.put d)
  |some (.bool false)=>(ai s.env y).map (s.put d)
  |_=>none
 | .box d g tk x=>
  if tk then (dD s.env x).bind λ(v,e)=>if ah v then some (gk ⟨e,s.lh,s.gh⟩ d g v.cells) else none
  else (ai s.env x).bind λv=>if ah v then some (gk s d g v.cells) else none
 | .alloc d g z=>if ah z then some (gk s d g z.cells) else none
 | .build d z ps=>(fb s.env ps).bind λvs=>if vs.all (λp=>ah p.2.2)/\z.all PV.one then (fq z vs).map λcs=>s.put d (.agg cs) else none
 | .buildT d z ps=>(ft s.env ps).bind λ(vs,e)=>if vs.all (λp=>ah p.2.2)/\z.all PV.one then (fq z vs).map λcs=>⟨Lw.put e d (.agg cs),s.lh,s.gh⟩ else none
 | .buildSl d z els=>(cv s.env els).bind λvs=>if vs.all (λv=>ah v&&v.cells.length==z) then some (s.put d (.sl true z vs)) else none
 | .load d agg k a=>match ai s.env a with
  |some (.ptr g b off)=>(s.cellsAt g b).bind λcs=>(aq agg k off cs).map λv=>s.put d (degr v)
  |some (.ep e off)=>(aq agg k off e.cells).map (s.put d)
  |_=>none
 | .loadT d a=>match ai s.env a with
  |some (.ptr g b off)=>(s.cellsAt g b).bind λcs=>(cs[off]?).map λv=>(s.setCells g b (ar cs off [aa v])).put d v
  |_=>none
 | .store tk k a x=>match ai s.env a with
  | some (.ptr g b off)=>
   if tk then (dD s.env x).bind λ(v,e)=>(St.cellsAt ⟨e,s.lh,s.gh⟩ g b).bind λcs=>
    if v.cells.length=k/\off+k<=cs.length/\ah v then some (St.setCells ⟨e,s.lh,s.gh⟩ g b (ar cs off v.cells)) else none
   else (ai s.env x).bind λv=>(s.cellsAt g b).bind λcs=>
    if v.cells.length=k/\off+k<=cs.length/\ah v then some (s.setCells g b (ar cs off v.cells)) else none
  |_=>none
 | .storeP tk k a x ns=>(oy s tk k a x).bind λs'=>if ∀n∈ns,keptB s.env s.gh s'.gh n then some s' else none
 | .nilc d x=>match ai s.env x with
  |some (.ptr g b off)=>some (s.put d (.ptr g b off))
  |some (.ep e off)=>some (s.put d (.ep e off))
  |some (.fn f cs)=>some (s.put d (.fn f cs))
  |some (.bfn f cs)=>some (s.put d (.bfn f cs))
  |_=>none
 | .bin d op x y=>(ai s.env x).bind λa=>(ai s.env y).bind λb=>(fp op a b).map (s.put d)
 | .eqn d neg x=>match ai s.env x with
  |some .nilI=>some (s.put d (.bool (!neg)))
  |some .someI=>some (s.put d (.bool neg))
  |_=>none
 | .un d op x=>(ai s.env x).bind λa=>(ke op a).map (s.put d)
 | .mkfn d f caps=>(cv s.env caps).bind λvs=>if vs.all ah then some (s.put d (.fn f vs)) else none
 | .mkmap d=>some ⟨Lw.put s.env d (.mp s.gh.length),s.lh,s.gh++[.map []]⟩
 | .mksl d g z bytes zero l=>match ai s.env l with
  | some (.int _ n)=>if 0<=n/\n*bytes<=maxBytes/\zero.cells.length=z/\ah zero then
    (match g with
    |true=>some ((s.newBox true ((List.replicate n.toNat zero).flatMap PV.cells)).1.put d (.bs true (s.newBox true ((List.replicate n.toNat zero).flatMap PV.cells)).2 0 n.toNat z))
    |false=>if dU zero then some (s.put d (.sl true z (List.replicate n.toNat zero))) else none) else none
  |_=>none
 | .slice d z x lo hi=>match ai s.env x with
  | some (.sl _ z' xs)=>(dm s.env xs.length hi).bind λh=>(dm s.env 0 lo).bind λl=>
    if l<=h/\h<=xs.length/\z=z' then some (s.put d (.sl false z ((xs.take h).drop l))) else none
  | some (.bs g b off n z')=>(dm s.env n hi).bind λh=>(dm s.env 0 lo).bind λl=>
    if l<=h/\h<=n/\z=z' then some (s.put d (.bs g b (off+l*z) (h-l) z)) else none
  | some (.stk b gen n)=>if lo.isNone then (dm s.env n hi).bind λh=>if h<=n/\z=1 then some (s.put d (.stk b gen h)) else none
    else (dm s.env n hi).bind λh=>(dm s.env 0 lo).bind λl=>if l<=h/\h<=n/\z=1 then some (s.put d (.sub b gen l (h-l))) else none
  | some (.sub b gen off n)=>(dm s.env n hi).bind λh=>(dm s.env 0 lo).bind λl=>
    if l<=h/\h<=n/\z=1 then some (s.put d (.sub b gen (off+l) (h-l))) else none
  |_=>none
 | .faddr d x off=>match ai s.env x with
  |some (.ptr g b o)=>some (s.put d (.ptr g b (o+off)))
  |some (.ep e o)=>some (s.put d (.ep e (o+off)))
  |_=>none
 | .iaddr d z arr x i=>match ai s.env i with
  |some (.int _ i)=>match ai s.env x,arr with
   |some (.sl _ z' xs),none=>if 0<=i/\z=z' then (xs[i.toNat]?).map λe=>s.put d (.ep e 0) else none
   |some (.bs g b off n z'),none=>if 0<=i/\i<n/\z=z' then some (s.put d (.ptr g b (off+i.toNat*z))) else none
   |some (.ptr g b o),some m=>if 0<=i/\i<m then some (s.put d (.ptr g b (o+i.toNat*z))) else none
   |some (.ep e o),some m=>if 0<=i/\i<m then some (s.put d (.ep e (o+i.toNat*z))) else none
   |some (.stk b gen n),none=>if 0<=i/\i<n/\z=1 then some (s.put d (.pstk b gen i.toNat)) else none
   |some (.sub b gen off n),none=>if 0<=i/\i<n/\z=1 then some (s.put d (.pstk b gen (off+i.toNat))) else none
   |_,_=>none
  |_=>none
 | .index d z arr agg x i=>match ai s.env i with
  |some (.int _ i)=>match ai s.env x with
   |some (.agg cs)=>if 0<=i/\i<arr then (aq agg z (i.toNat*z) cs).map (s.put d) else none
   |_=>none
  |_=>none
 | .lookup d kn m k ok zero=>match ai s.env m,ai s.env k with
  | some (.mp b),some kv=>match s.gh[b]? with
   |some (.map es)=>if dE kn kv=false then none else match eU kn es kv with
    |some (some v)=>some (s.put d (if ok then .tup [v,.bool true] else v))
    |some none=>some (s.put d (if ok then .tup [degr zero,.bool false] else degr zero))
    |none=>none
   |_=>none
  |_,_=>none
 | .mupd kn m k x=>match ai s.env m,ai s.env k,ai s.env x with
  |some (.mp b),some kv,some v=>match s.gh[b]? with
   |some (.map es)=>if ah kv/\ah v/\dE kn kv then (eb kn es kv v).map λes'=>⟨s.env,s.lh,s.gh.set b (.map es')⟩ else none
   |_=>none
  |_,_,_=>none
 | .call d q f xs=>(cv s.env xs).bind λvs=>dF cf s d q f vs
 | .callv d q fv xs=>match ai s.env fv with
  |some (.fn f caps)=>(cv s.env xs).bind λvs=>dF cf s d q f (vs++caps)
  |some (.bfn f fs)=>(cv s.env xs).bind λvs=>dF cf s d q f (fs++vs)
  |_=>none
 | .cally d x xs=>match ai s.env x with
  |some (.yl b)=>(cv s.env xs).bind λvs=>doY cf s d b vs
  |_=>none
 | .len d kd x=>match kd,ai s.env x with
  |0,some (.sl _ _ xs)=>some (s.put d (.int .i64 xs.length))
  |0,some (.bs _ _ _ n _)=>some (s.put d (.int .i64 n))
  |0,some (.stk _ _ n)=>some (s.put d (.int .i64 n))
  |0,some (.sub _ _ _ n)=>some (s.put d (.int .i64 n))
  |0,some .nils=>some (s.put d (.int .i64 (0:Nat)))
  |1,some (.str b)=>some (s.put d (.int .i64 b.size))
  |2,some (.mp b)=>match s.gh[b]? with
   |some (.map es)=>some (s.put d (.int .i64 es.length))
   |_=>none
  |_,_=>none
 | .append d z bytes sx x=>(ai s.env x).bind λxv=>match xv with
  | .sl _ z2 ys=>(dD s.env sx).bind λ(v,e)=>match v with
   | .sl o z1 xs=>if o=true/\z1=z/\z2=z/\(xs.length+ys.length)*bytes<=maxBytes then
     some ⟨Lw.put e d (.sl true z (xs++ys)),s.lh,s.gh⟩ else none
   |_=>none
  |_=>none
 | .extract d x i=>match ai s.env x with
  |some (.tup vs)=>(vs[i]?).map (s.put d)
  |_=>none
 |_=>none
def ba:IOp->Option Nat
 | .mv d _| .tk d _| .tkS d _ _| .pick d _ _ _| .box d _ _ _| .alloc d _ _| .build d _ _| .buildT d _ _| .buildSl d _ _| .load d _ _ _| .loadN d _ _ _ _| .loadT d _| .loadL d _| .nilc d _| .bin d _ _ _| .eqa d _ _ _ _| .eqb d _ _ _| .eqn d _ _| .un d _ _
 | .conv d _ _| .mkfn d _ _| .mkmap d| .mksl d _ _ _ _ _| .slice d _ _ _ _| .sliceS d _ _ _| .faddr d _ _| .field d _ _ _ _| .iaddr d _ _ _ _| .index d _ _ _ _ _| .indexS d _ _
 | .lookup d _ _ _ _ _| .len d _ _| .append d _ _ _ _| .appendK d _ _ _| .appendN d _ _ _| .buildSlK d _| .loadK d _| .loadH d _| .maxi d _| .extract d _ _| .mkbf d _ _| .loadB d _ _ _ _| .loadJ d _ _ _| .appendE d _ _ _| .loadKB d _ _| .loadTB d _ _ _| .appendP d _ _ _ _| .mkarr d _ _ _ _| .buildA d _ _| .boxSl d _ _| .mkbld d| .boxB d _| .loadG d _=>some d
 | .call d _ _ _| .callv d _ _ _| .callF d _ _| .callE d _ _| .callP d _ _ _| .callR d _ _ _ _| .cally d _ _=>d
 | .store _ _ _ _| .storeP _ _ _ _ _| .mupd _ _ _ _| .storeK _ _| .clearK _=>none
def dr (s:St) (o:IOp):St:=
 match ba o with
 |some d=>s.put d .und
 |none=>s
def cw (cf:CallF):List IOpG->St->Option St
 |[],s=>some s
 | o::l,s=>match o.guard with
  |none=>(ae cf s o.op).bind (cw cf l)
  |some (g,want)=>match get s.env g with
   |some (.bool b)=>if b=want then (ae cf s o.op).bind (cw cf l) else cw cf l (dr s o.op)
   |some .und=>cw cf l (dr s o.op)
   |_=>none
def bo (nl:Nat):PV->Bool
 | .ptr false b _=>decide (b<nl)
 | .bs false b _ _ _=>decide (b<nl)
 |_=>true
def keep (nl:Nat):List Nat->List (Nat×PV)->List (Nat×PV)
 |[],_=>[]
 |t::l,e=>match get e t with
  |some v=>if bo nl v then (t,v)::keep nl l e else keep nl l e
  |none=>keep nl l e
def jv (ks:List Nat) (n:Nat) (s:St):Option St:=
 match get s.env n with
 |some (.ptr false b 0)=>match s.lh[b]? with
  |some cs=>if b+1=s.lh.length then some ⟨put (keep b ks s.env) n (.ptr true s.gh.length 0),s.lh.take b,s.gh++[.cells cs]⟩ else none
  |none=>none
 |_=>none
def ay (s:St):gj->Option PV
 | .t n=>get s.env n
 | .cell a agg k=>match get s.env a with
  |some (.ptr g b off)=>(s.cellsAt g b).bind (aq agg k off)
  |_=>none
def av (s:St):List gj->Option (List PV)
 |[]=>some []
 |r::l=>(ay s r).bind λv=>(av s l).map (v:: ·)
def results (own:Bool) (rs:List gj) (s:St):Option PV:=
 match own,rs with
 |true,[.t n]=>get s.env n
 |_,rs=>(av s rs).map λvs=>match vs with
  |[v]=>degr v
  |vs=> .tup (vs.map degr)
def al:PV->Bool
 | .tup vs=>vs.all ah
 |v=>ah v
def fu:Nat->List PV->List (Nat×PV)
 |_,[]=>[]
 |n,v::l=>(n,v)::fu (n+1) l
structure IYl where
 ks:List Nat
 t:Nat
 as:ICode
 body:ICode
inductive oz where
 |code (fn:IFunc)
 |yl (Y:IYl)
 |lib (F:List PV->List GObj->Option (PV×List GObj))
abbrev Prg:=Nat->Option oz
def frz (n:Nat) (gh:List GObj):PV->PV
 | .bs true b off k 1=>match gh[b]? with
  |some (.cells cs)=>if n<=b/\off+k<=cs.length then .sl false 1 (((cs.drop off).take k).map aa) else .bs true b off k 1
  |_=> .bs true b off k 1
 | .stk b g k=>match gh[b]? with
  |some (.stk g2 xs)=>if n<=b/\g2=g/\k<=xs.length then .sl false 1 (xs.take k) else .stk b g k
  |_=> .stk b g k
 |v=>v
def cj (n:Nat) (gh:List GObj):PV->PV
 | .tup vs=> .tup (vs.map (frz n gh))
 |v=>frz n gh v
def au (fn:IFunc) (gh:List GObj):ag×St->Option (PV×List GObj)
 |(.exit _,_)=>none
 | (_,s)=>(results fn.own fn.res s).bind λr=>if al r then
   (if fn.trunc then if s.gh.take gh.length=gh/\(cj gh.length s.gh r).noG then some (cj gh.length s.gh r,gh) else none else some (r,s.gh)) else none
def gG (run:ICode->St->Option (ag×St)) (Y:IYl) (y:Nat) (vs:List PV) (gh:List GObj):Option (PV×List GObj):=
 match vs[Y.ks.length+1]? with
 | some (.yl b)=>if vs.length=Y.ks.length+2/\gh[b]?=some (.lrec 1 y (vs.take Y.ks.length)) then match run Y.as ⟨(Y.ks++[Y.t]).zip vs,[],gh⟩ with
   |some (.normal,s1)=>if s1.gh[b]?=some (.lrec 1 y (vs.take Y.ks.length)) then match run Y.body ⟨s1.env,s1.lh,s1.gh.set b (.lrec 2 y (vs.take Y.ks.length))⟩ with
    |some (.normal,s2)=>if s2.gh[b]?=some (.lrec 2 y (vs.take Y.ks.length)) then some (.bool true,s2.gh.set b (.lrec 1 y (vs.take Y.ks.length))) else none
    |_=>none
    else none
   |_=>none
  else none
 |_=>none
def cV (run:ICode->St->Option (ag×St)) (pg:Prg):CallF:=λf vs gh=>
 match pg f with
 |some (.code fn)=>if vs.length=fn.np then (run fn.body ⟨fu 0 vs,[],gh⟩).bind (au fn gh) else none
 |some (.yl Y)=>gG run Y f vs gh
 |some (.lib F)=>F vs gh
 |none=>none
def ak (pg:Prg):Nat->ICode->St->Option (ag×St)
 |0,_,_=>none
 | n+1,c,s=>match c with
  | .skip=>some (.normal,s)
  | .region ops _=>(cw (cV (ak pg n) pg) ops s).map λs'=>(.normal,s')
  | .seq a b=>match ak pg n a s with
   |some (.normal,s')=>ak pg n b s'
   |r=>r
  | .cond x a b=>match ai s.env x with
   |some (.bool true)=>ak pg n a s
   |some (.bool false)=>ak pg n b s
   |_=>none
  | .block id a=>match ak pg n a s with
   |some (.exit i,s')=>if i=id then some (.normal,s') else some (.exit i,s')
   |r=>r
  | .loop a=>match ak pg n a s with
   |some (.normal,s')=>ak pg n (.loop a) s'
   |r=>r
  | .exit i=>some (.exit i,s)
  | .ret=>some (.ret,s)
  | .post a ks nl=>match ak pg n a s with
   |some (.normal,s')=>some (.normal,⟨keep nl ks s'.env,s'.lh.take nl,s'.gh⟩)
   |r=>r
  | .cut a=>ak pg n a s
  | .lift a ks t=>match ak pg n a s with
   |some (.normal,s')=>(jv ks t s').map λs'=>(.normal,s')
   |r=>r
  | .rangeF g y ks=>(fc (cV (ak pg n) pg) s g y ks).map λs'=>(.normal,s')
  | .bad=>none
end
abbrev oN (x:IOp):IOpG:=⟨x,none⟩
abbrev oM (d t:Nat):IOpG:=⟨.mv d (.t t),none⟩
abbrev oL (d t:Nat):IOpG:=⟨.load d false 1 (.t t),none⟩
abbrev oF (d t k:Nat):IOpG:=⟨.faddr d (.t t) k,none⟩
abbrev oC (d t:Nat):IOpG:=⟨.nilc d (.t t),none⟩
abbrev oA (d t u:Nat):IOpG:=⟨.iaddr d 1 none (.t t) (.t u),none⟩
abbrev I (n:Int):PV:= .int .i64 n
abbrev B (b:Bool):PV:= .bool b
instance {n:Nat}:OfNat IX n:=⟨.t n⟩
abbrev oT (d t:Nat):IOpG:=⟨.tk d t,none⟩
abbrev oK (d:Nat) (n:Int):IOpG:=⟨.mv d (.c (.int .i64 n)),none⟩
abbrev oE (d:Nat) (x:IX) (n:Int):IOpG:=⟨.bin d .eql x (.c (.int .i64 n)),none⟩
abbrev oP (d:Nat) (x:IX) (n:Int):IOpG:=⟨.bin d .add x (.c (.int .i64 n)),none⟩
abbrev oS (d:Nat) (x:IX) (n:Int):IOpG:=⟨.bin d .sub x (.c (.int .i64 n)),none⟩
abbrev oW (d:Nat) (x y:IX):IOpG:=⟨.bin d .lss x y,none⟩
abbrev oY (d f:Nat) (xs:List IX):IOpG:=⟨.call (some d) true f xs,none⟩
abbrev oX (d f:Nat) (xs:List IX):IOpG:=⟨.call (some d) false f xs,none⟩
abbrev oD (d:Nat) (x:IX):IOpG:=⟨.len d 0 x,none⟩
abbrev oB (d:Nat) (x:IX):IOpG:=⟨.box d false false x,none⟩
abbrev oG (d:Nat) (x:IX) (i:Nat):IOpG:=⟨.extract d x i,none⟩
abbrev sR (l:List IOpG) (ks:List Nat) (nl:Nat) (c:ICode):ICode:= .seq (.post (.region l false) ks nl) c
abbrev sQ (l:List IOpG) (ks:List Nat) (nl:Nat) (c:ICode):ICode:= .seq (.post (.region l true) ks nl) c
abbrev pR (l:List IOpG) (ks:List Nat) (nl:Nat):ICode:= .post (.region l false) ks nl
abbrev pQ (l:List IOpG) (ks:List Nat) (nl:Nat):ICode:= .post (.region l true) ks nl
abbrev gN (x : IOp) (g : Nat) : IOpG := ⟨x, some (g, false)⟩
abbrev gT (x : IOp) (g : Nat) : IOpG := ⟨x, some (g, true)⟩
abbrev gF (d t k g : Nat) : IOpG := ⟨.faddr d (.t t) k, some (g, false)⟩
abbrev gL (d t g : Nat) : IOpG := ⟨.load d false 1 (.t t), some (g, false)⟩
abbrev gM (d t g : Nat) : IOpG := ⟨.mv d (.t t), some (g, false)⟩
abbrev WI:IntKind:=.i64
end
end Go.Lw