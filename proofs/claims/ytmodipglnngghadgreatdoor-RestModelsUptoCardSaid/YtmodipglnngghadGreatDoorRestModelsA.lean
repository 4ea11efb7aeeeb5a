/-
  The texts that the proof stands on, part 1.
-/
import GoSem.Core.Value
import GoSem.Core.View
import GoSem.Core.Code
set_option linter.unusedVariables false
set_option linter.unusedSimpArgs false
set_option linter.unnecessarySimpa false

set_option maxRecDepth 100000
set_option maxHeartbeats 4000000
namespace Go.Lw
open Go
abbrev aA:=@List.getElem?_eq_getElem
abbrev aB:=@List.getElem?_map
abbrev aC:=@Option.bind_eq_some_iff
abbrev aD:=@List.getElem?_eq_some_iff
abbrev aE:=@Option.map_eq_some_iff
abbrev aF:=@decide_eq_false
abbrev aG:=@decide_eq_true
abbrev aH:=@decide_eq_true_eq
abbrev aI:=@List.getElem?_append_left
abbrev aJ:=@List.drop_eq_getElem_cons
abbrev aK:=@List.getD_eq_getElem?_getD
abbrev aL:=@List.mem_of_getElem?
abbrev aM:=@List.drop_eq_nil_of_le
abbrev aN:=@List.getElem?_append_right
abbrev aO:=@Nat.lt_of_lt_of_le
abbrev aP:=@Classical.byContradiction
abbrev aQ:=@List.length_append
abbrev aR:=@Int.natCast_zero
abbrev aS:=@Bool.and_eq_true
abbrev aT:=@List.append_assoc
abbrev aU:=@beq_false_of_ne
abbrev aV:=@List.length_cons
abbrev aW:=@List.length_map
abbrev aX:=@List.mem_append_left
abbrev aY:=@List.mem_append_right
abbrev aZ:=@List.mem_cons_self
abbrev bC:=@List.mem_cons_of_mem
abbrev bE:=@List.append_nil
abbrev bF:=@List.nil_append
abbrev bH:=@List.cons_append
abbrev bI:=@List.map_append
abbrev bJ:=@List.drop_zero
abbrev bK:=@List.take_of_length_le
abbrev bM:=@List.length_replicate
abbrev bQ:=@Nat.pow_le_pow_right
abbrev bR:=@Bool.false_eq_true
abbrev bS:=@List.map_cons
abbrev bU:=@List.map_nil
abbrev bV:=@List.all_eq_true
abbrev bW:=@Option.some.injEq
abbrev bZ:=@Prod.mk.injEq
abbrev cC:=@Nat.le_trans
abbrev cD:=@List.getElem_mem
abbrev cE:=@List.mem_append
abbrev cF:=@List.length_nil
abbrev cG:=@Nat.add_zero
abbrev cJ:=@Option.bind_some
abbrev cK:=@Option.map_some
abbrev cL:=@List.getElem?_take
abbrev cM:=@List.getElem?_set
abbrev cO:=@List.length_set
abbrev cP:=@List.mem_iff_getElem
abbrev cQ:=@List.mem_of_mem_take
abbrev cR:=@List.length_take
abbrev cS:=@Array.getD_eq_getD_getElem?
abbrev cT:=@List.nodup_append
abbrev cU:=@List.flatMap_cons
abbrev cV:=@Nat.mod_eq_of_lt
abbrev cW:=@Nat.le_refl
abbrev cX:=@Nat.zero_add
abbrev cY:=@Nat.mul_le_mul_right
abbrev cZ:=@Option.some.inj
abbrev dA:=@beq_iff_eq
theorem aj {p0_:Prop} (h0_:p0_:=by omega):p0_:=h0_
theorem bh {p0_:Prop} (h0_:p0_:=by simp):p0_:=h0_
theorem bz {p0_:Prop} (h0_:p0_:=by decide):p0_:=h0_
inductive PV where
 |und
 |int (k:IntKind) (n:Int)
 |bool (b:Bool)
 |str (s:ByteArray)
 |agg (cs:List PV)
 |tup (vs:List PV)
 |sl (own:Bool) (z:Nat) (xs:List PV)
 |bs (g:Bool) (b off n z:Nat)
 |ptr (g:Bool) (b off:Nat)
 |nilp
 |ep (e:PV) (off:Nat)
 |mp (b:Nat)
 |nilm
 |nilf
 |nils
 |stk (b gen n:Nat)
 |pstk (b gen i:Nat)
 |sub (b gen off n:Nat)
 |fn (f:Nat) (caps:List PV)
 |bfn (f:Nat) (fs:List PV)
 |nilI
 |someI
 |arr (z:PV) (n:Nat)
 |junk
 |fr (z:Nat) (xs:List PV)
 |ol (z:Nat) (xs:List PV)
 |dj (g z n:Nat)
 |djp (g r:Nat)
 deriving Inhabited
def PV.cells:PV->List PV
 | .agg a=>a
 |v=>[v]
def PV.one:PV->Bool
 | .und| .agg _| .tup _| .ptr false _ _| .bs false _ _ _ _| .arr _ _| .junk=>false
 |_=>true
def az (v:PV):Bool:=v.cells.all PV.one
mutual
def PV.noG:PV->Bool
 | .agg cs=>eg cs
 | .tup cs=>eg cs
 | .sl _ _ xs=>eg xs
 | .ep e _=>e.noG
 | .fn _ cs=>eg cs
 | .bfn _ cs=>eg cs
 | .fr _ xs=>eg xs
 | .ol _ xs=>eg xs
 | .dj _ _ _| .djp _ _=>false
 | .bs _ _ _ _ _| .ptr _ _ _| .mp _| .stk _ _ _| .pstk _ _ _| .sub _ _ _ _=>false
 |_=>true
def eg:List PV->Bool
 |[]=>true
 |c::l=>c.noG&&eg l
end
mutual
def unfr:PV->PV
 | .fr z xs=> .sl false z (gR xs)
 | .sl o z xs=> .sl o z (gR xs)
 | .agg cs=> .agg (gR cs)
 |v=>v
def gR:List PV->List PV
 |[]=>[]
 |c::l=>unfr c::gR l
end
def aw:PV->PV
 | .sl _ z a=> .sl false z a
 | .ol z a=> .sl false z a
 | .arr _ _=> .junk
 |v=>v
def degr:PV->PV
 | .sl _ z a=> .sl false z a
 | .ol z a=> .sl false z a
 | .arr _ _=> .junk
 | .agg c=> .agg (c.map aw)
 | .tup b=> .tup (b.map aw)
 |v=>v
def degrF1:PV->PV
 | .sl true z a=> .fr z a
 |v=>aw v
def degrF:PV->PV
 | .sl true z a=> .fr z a
 | .agg b=> .agg (b.map degrF1)
 |v=>degr v
inductive GObj where
 |cells (cs:List PV)
 |map (es:List (PV×PV))
 |stk (gen:Nat) (xs:List PV)
 |bld (s:ByteArray)
 |trash
 deriving Inhabited
structure St where
 env:List (Nat×PV)
 lh:List (List PV)
 gh:List GObj
inductive IX where
 |t (n:Nat)
 |c (v:PV)
 |f (id:Nat)
 deriving Inhabited
def get:List (Nat×PV)->Nat->Option PV
 |[],_=>none
 |(a,v)::l,t=>if a=t then some v else get l t
def put:List (Nat×PV)->Nat->PV->List (Nat×PV)
 |[],t,v=>[(t,v)]
 |(a,u)::l,t,v=>if a=t then (t,v)::l else (a,u)::put l t v
def St.put (s:St) (t:Nat) (v:PV):St:=⟨Lw.put s.env t v,s.lh,s.gh⟩
def ai (e:List (Nat×PV)):IX->Option PV
 | .t n=>(get e n).map degr
 | .c v=>some (degr v)
 | .f a=>some (.fn a [])
def gG (e:List (Nat×PV)):IX->Option PV
 | .t n=>(get e n).map degr
 | .c v=>some v
 | .f a=>some (.fn a [])
def ei (e:List (Nat×PV)):List IX->Option (List PV)
 |[]=>some []
 |x::l=>(ai e x).bind λv=>(ei e l).map (v:: ·)
inductive IOp where
 |mv (d:Nat) (x:IX)
 |tk (d s:Nat)
 |tkS (d n lo:Nat)
 |mvF (d n:Nat)
 |loadM (d:Nat) (agg:Bool) (k:Nat) (a:IX)
 |loadS (d:Nat) (agg:Bool) (k:Nat) (a:IX)
 |mvS (d:Nat) (x:IX)
 |lenD (d:Nat) (x:IX)
 |iaddrD (d z:Nat) (x i:IX)
 |faddrD (d:Nat) (x:IX) (k:Nat)
 |paddrD (d n:Nat) (x i:IX)
 |storeD (a x:IX)
 |pick (d:Nat) (c x y:IX)
 |box (d:Nat) (g tk:Bool) (x:IX)
 |alloc (d:Nat) (g:Bool) (z:PV)
 |build (d:Nat) (z:List PV) (ps:List (Nat×Nat×IX))
 |buildT (d:Nat) (z:List PV) (ps:List (Nat×Nat×IX))
 |buildSl (d z:Nat) (els:List IX)
 |buildSlF (d z:Nat) (els:List IX)
 |load (d:Nat) (agg:Bool) (k:Nat) (a:IX)
 |loadT (d:Nat) (a:IX)
 |store (tk:Bool) (k:Nat) (a x:IX)
 |storeP (tk:Bool) (k:Nat) (a x:IX) (ns:List Nat)
 |nilc (d:Nat) (x:IX)
 |bin (d:Nat) (op:BinOp) (x y:IX)
 |eqa (d:Nat) (neg:Bool) (ks:List Bool) (x y:IX)
 |eqb (d:Nat) (neg:Bool) (x y:IX)
 |eqn (d:Nat) (neg:Bool) (x:IX)
 |un (d:Nat) (op:UnOp) (x:IX)
 |conv (d:Nat) (k:IntKind) (x:IX)
 |mkfn (d f:Nat) (caps:List IX)
 |mkmap (d:Nat)
 |mksl (d:Nat) (g:Bool) (z bytes:Nat) (zero:PV) (l:IX)
 |slice (d z:Nat) (x:IX) (lo hi:Option IX)
 |sliceS (d:Nat) (x:IX) (lo hi:Option IX)
 |faddr (d:Nat) (x:IX) (off:Nat)
 |field (d:Nat) (agg:Bool) (k off:Nat) (x:IX)
 |iaddr (d z:Nat) (arr:Option Nat) (x i:IX)
 |index (d z arr:Nat) (agg:Bool) (x i:IX)
 |indexS (d:Nat) (x i:IX)
 |lookup (d kn:Nat) (m k:IX) (ok:Bool) (zero:PV)
 |mupd (kn:Nat) (m k x:IX)
 |call (d:Option Nat) (quiet:Bool) (f:Nat) (xs:List IX)
 |callv (d:Option Nat) (quiet:Bool) (fv:IX) (xs:List IX)
 |callF (d:Option Nat) (f:Nat) (xs:List IX)
 |callE (d:Option Nat) (fv:IX) (xs:List IX)
 |loadN (d:Nat) (agg:Bool) (k:Nat) (a:IX) (n:Nat)
 |loadL (d:Nat) (a:IX)
 |len (d kd:Nat) (x:IX)
 |append (d z bytes:Nat) (s x:IX)
 |appendK (d bytes:Nat) (s x:IX)
 |appendN (d bytes:Nat) (s x:IX)
 |buildSlK (d:Nat) (els:List IX)
 |loadK (d:Nat) (a:IX)
 |loadH (d:Nat) (a:IX)
 |maxi (d:Nat) (xs:List IX)
 |extract (d:Nat) (x:IX) (i:Nat)
 |storeK (a x:IX)
 |clearK (x:IX)
 |mkbf (d f:Nat) (fs:List IX)
 |callP (d:Option Nat) (f:Nat) (xs:List IX) (ns:List Nat)
 |callR (d:Option Nat) (f:Nat) (xs:List IX) (n off:Nat)
 |appendE (d bytes:Nat) (s x:IX)
 |loadKB (d:Nat) (a:IX) (n:Nat)
 |loadTB (d:Nat) (a:IX) (n off:Nat)
 |loadB (d:Nat) (agg:Bool) (k:Nat) (a:IX) (n:Nat)
 |loadJ (d:Nat) (agg:Bool) (k:Nat) (a:IX)
 |appendP (d bytes:Nat) (s x:IX) (ns:List Nat)
 |mkarr (d z bytes:Nat) (zero:PV) (l:IX)
 |buildA (d:Nat) (z:List PV) (ps:List (Nat×Nat×IX))
 |boxSl (d z:Nat) (els:List IX)
 |mkbld (d:Nat)
 |boxB (d:Nat) (x:IX)
 |loadG (d:Nat) (ss:List ByteArray)
 deriving Inhabited
structure IOpG where
 op:IOp
 guard:Option (Nat×Bool):=none
inductive ICode where
 |skip
 |region (ops:List IOpG) (draw:Bool)
 |seq (a b:ICode)
 |cond (c:IX) (a b:ICode)
 |block (id:Nat) (c:ICode)
 |loop (c:ICode)
 |exit (id:Nat)
 |ret
 |post (c:ICode) (ks:List Nat) (nl:Nat)
 |cut (c:ICode)
 |lift (c:ICode) (ks:List Nat) (n:Nat)
 |bad
inductive j0 where
 |t (n:Nat)
 |cell (a:Nat) (agg:Bool) (k:Nat)
structure IFunc where
 np:Nat
 res:List j0
 own:Bool
 trunc:Bool
 body:ICode
inductive IExit where
 |normal
 |exit (id:Nat)
 |ret
def maxBytes:Nat:=140737488355328
def fu (op:BinOp) (x y:PV):Option PV:=
 match x,y with
 | .int k a,.int c b=>
  match op with
  | .shl=>if b<0 then none else some (.int k (k.wrap (a*2^(min b.toNat k.bits))))
  | .shr=>if b<0 then none else some (.int k (a.fdiv (2^(min b.toNat k.bits))))
  | .add=>if k=c then some (.int k (k.wrap (a+b))) else none
  | .sub=>if k=c then some (.int k (k.wrap (a-b))) else none
  | .mul=>if k=c then some (.int k (k.wrap (a*b))) else none
  | .quo=>if k=c then if b=0 then none else some (.int k (k.wrap (a.tdiv b))) else none
  | .rem=>if k=c then if b=0 then none else some (.int k (a.tmod b)) else none
  | .and=>if k=c then some (.int k (k.wrap (BitVec.ofInt k.bits a &&&BitVec.ofInt k.bits b).toNat)) else none
  | .or=>if k=c then some (.int k (k.wrap (BitVec.ofInt k.bits a |||BitVec.ofInt k.bits b).toNat)) else none
  | .xor=>if k=c then some (.int k (k.wrap (BitVec.ofInt k.bits a ^^^BitVec.ofInt k.bits b).toNat)) else none
  | .eql=>if k=c then some (.bool (a==b)) else none
  | .neq=>if k=c then some (.bool (a !=b)) else none
  | .lss=>if k=c then some (.bool (decide (a<b))) else none
  | .leq=>if k=c then some (.bool (decide (a<=b))) else none
  | .gtr=>if k=c then some (.bool (decide (b<a))) else none
  | .geq=>if k=c then some (.bool (decide (b<=a))) else none
  |_=>none
 | .str a,.str b=>
  match op with
  | .add=>if ((a.size+b.size:Nat):Int)>IntKind.i64.max then none else some (.str (a++b))
  | .eql=>some (.bool (a.toList==b.toList))
  | .neq=>some (.bool (!(a.toList==b.toList)))
  |_=>none
 |_,_=>none
def jB:Bool->PV->PV->Option Bool
 |false,.int k a,.int c b=>if k=c then some (a==b) else none
 |true,.bool a,.bool b=>some (a==b)
 |_,_,_=>none
def fj:List Bool->List PV->List PV->Option Bool
 |[],[],[]=>some true
 |s::r,a::l,b::m=>match jB s a b with
  |some true=>fj r l m
  |some false=>some false
  |none=>none
 |_,_,_=>none
def mn (op:UnOp) (x:PV):Option PV:=
 match op,x with
 | .neg,.int k n=>some (.int k (k.wrap (0-n)))
 | .xor,.int k n=>some (.int k (k.wrap (BitVec.ofInt k.bits (if k.signed then -1 else k.max) ^^^BitVec.ofInt k.bits n).toNat))
 | .not,.bool b=>some (.bool (!b))
 |_,_=>none
def St.cellsAt (s:St) (g:Bool) (b:Nat):Option (List PV):=
 if g then match s.gh[b]? with
  |some (.cells a)=>some a
  |_=>none
 else s.lh[b]?
def St.setCells (s:St) (g:Bool) (b:Nat) (a:List PV):St:=
 if g then ⟨s.env,s.lh,s.gh.set b (.cells a)⟩ else ⟨s.env,s.lh.set b a,s.gh⟩
def St.newBox (s:St) (g:Bool) (a:List PV):St×Nat:=
 if g then (⟨s.env,s.lh,s.gh++[.cells a]⟩,s.gh.length) else (⟨s.env,s.lh++[a],s.gh⟩,s.lh.length)
def kG (s:St) (d:Nat) (g:Bool) (a:List PV):St:=(s.newBox g a).1.put d (.ptr g (s.newBox g a).2 0)
def dD (agg:Bool) (k a:Nat) (b:List PV):Option PV:=
 if agg then if a+k<=b.length then some (.agg ((b.drop a).take k)) else none
 else b[a]?
def au (c:List PV) (a:Nat) (b:List PV):List PV:=c.take a++b++c.drop (a+b.length)
def j5:List PV->List (Nat×Nat×PV)->Option (List PV)
 |z,[]=>some z
 |z,(a,k,v)::l=>if v.cells.length=k/\a+k<=z.length then j5 (au z a v.cells) l else none
def iW (e:List (Nat×PV)):List (Nat×Nat×IX)->Option (List (Nat×Nat×PV))
 |[]=>some []
 |(o,k,x)::l=>(ai e x).bind λv=>(iW e l).map ((o,k,v):: ·)
def f6 (e:List (Nat×PV)):IX->Option (PV×List (Nat×PV))
 | .t n=>(get e n).map λv=>(v,Lw.put e n (degr v))
 | .c v=>some (v,e)
 | .f a=>some (.fn a [],e)
def iX (e:List (Nat×PV)):List (Nat×Nat×IX)->Option (List (Nat×Nat×PV)×List (Nat×PV))
 |[]=>some ([],e)
 |(o,k,x)::l=>(f6 e x).bind λ(v,c)=>(iX c l).map λ(a,b)=>((o,k,v)::a,b)
def eS (a:Nat):PV->Bool
 | .int _ _=>a==0
 | .agg b=>a !=0&&b.length==a
 |_=>false
def dB (c:Nat):PV->PV->Option Bool
 | .int k a,.int f b=>if c=0/\k=f then some (a==b) else none
 | .agg e,.agg d=>if c=0 then none else fj (List.replicate c false) e d
 |_,_=>none
def eD (b:Nat):List (PV×PV)->PV->Option (Option PV)
 |[],_=>some none
 |(a,v)::l,k=>match dB b k a with
  |some true=>some (some v)
  |some false=>eD b l k
  |none=>none
def ef (b:Nat):List (PV×PV)->PV->PV->Option (List (PV×PV))
 |[],k,v=>some [(k,v)]
 |(a,u)::l,k,v=>match dB b k a with
  |some true=>some ((k,v)::l)
  |some false=>(ef b l k v).map ((a,u):: ·)
  |none=>none
abbrev CallF:=Nat->List PV->List GObj->Option (PV×List GObj)
noncomputable section
open Classical
def eF (e:List (Nat×PV)) (a:Nat):Option IX->Option Nat
 |none=>some a
 |some x=>match ai e x with
  |some (.int _ i)=>if 0<=i then some i.toNat else none
  |_=>none
def eO (e:List (Nat×PV)) (d:Option Nat) (v:PV):List (Nat×PV):=
 match d with
 |some d=>Lw.put e d v
 |none=>e
def dN (e:CallF) (s:St) (d:Option Nat) (a:Bool) (f:Nat) (c:List PV):Option St:=
 if c.all az then match e f c s.gh with
 |some (r,b)=>if a then if b=s.gh then some ⟨eO s.env d r,s.lh,s.gh⟩ else none else some ⟨eO s.env d r,s.lh,b⟩
 |none=>none
 else none
def jC (b:CallF) (s:St) (d:Option Nat) (f:Nat) (a:List PV):Option St:=
 if a.all az/\eg a then match b f a [] with
 |some (r,[])=>if r.noG then some ⟨eO s.env d r,s.lh,s.gh⟩ else none
 |_=>none
 else none
def elP (d:List GObj):PV->Option PV
 | .ptr true b a=>match d[b]? with
  |some (.cells c)=>if az (.agg (c.map aw)) then some (.ep (.agg (c.map aw)) a) else none
  |_=>none
 |v=>some v
def nN (a:List GObj):List PV->Option (List PV)
 |[]=>some []
 |v::l=>(elP a v).bind λu=>(nN a l).map (u:: ·)
def co:PV->Bool
 | .int _ _| .bool _=>true
 |_=>false
def qh (c:CallF) (s:St) (d:Option Nat) (f:Nat) (b:List PV):Option St:=
 (nN s.gh b).bind λa=>if b.all az/\a.all az/\eg a then match c f a [] with
  |some (r,[])=>if co r then some ⟨eO s.env d r,s.lh,s.gh⟩ else none
  |_=>none
  else none
def j6 (d:List GObj) (b a i:Nat):Option PV:=match d[b]? with
 |some (.stk g c)=>if g=a then c[i]? else none
 |_=>none
def gH (e:List GObj):PV->Option (List PV)
 | .sl _ 1 f=>some f
 | .stk b a n=>match e[b]? with
  |some (.stk g c)=>if g=a/\n<=c.length then some (c.take n) else none
  |_=>none
 | .sub b a d n=>match e[b]? with
  |some (.stk g c)=>if g=a/\d+n<=c.length then some ((c.drop d).take n) else none
  |_=>none
 | .nils=>some []
 |_=>none
def fO (b:Nat):PV->Bool
 | .stk a _ _=>a !=b
 | .sub a _ _ _=>a !=b
 |_=>true
def keptB (e:List (Nat×PV)) (c a:List GObj) (n:Nat):Prop:=
 match get e n with
 |some (.ptr true b _)=>b<c.length/\a[b]?=c[b]?
 |some (.pstk b _ _)=>b<c.length/\a[b]?=c[b]?
 |some (.stk b _ _)=>b<c.length/\a[b]?=c[b]?
 |some (.sl _ _ _)=>True
 |_=>False
def lA (s:St) (d a:Nat) (i x:IX):Option St:=
 (ai s.env x).bind λf=>(gH s.gh f).bind λc=>match ai s.env i with
  |some (.stk b e n)=>match s.gh[b]? with
   | some (.stk g h)=>if g=e/\n<=h.length/\(n+c.length)*a<=maxBytes/\fO b f=true/\c.all co=true then
     some ((⟨s.env,s.lh,s.gh.set b (.stk (g+1) (h.take n++c))⟩:St).put d (.stk b (g+1) (n+c.length))) else none
   |_=>none
  |some .nils=>if c≠[]/\c.length*a<=maxBytes/\c.all co=true then
     some ((⟨s.env,s.lh,s.gh++[.stk 0 c]⟩:St).put d (.stk s.gh.length 0 c.length)) else none
  |_=>none
def fC (c:List GObj) (b a:Nat) (o:Bool):Option (List GObj):=
 match c[b]? with
 |some (.cells d)=>match d[a]? with
  |some (.sl _ z e)=>some (c.set b (.cells (d.set a (.sl o z e))))
  |_=>none
 |_=>none
def fV (h:CallF) (s:St) (d:Option Nat) (f:Nat) (g:List PV) (b a:Nat):Option St:=
 (dN h s d false f g).bind λk=>(fC s.gh b a true).bind λj=>(fC s.gh b a false).bind λi=>
  (h f g j).bind λe=>(h f g i).bind λc=>
   if e.1=c.1/\e.2[b]?=j[b]?/\c.2[b]?=i[b]?/\fC e.2 b a false=some c.2/\fC c.2 b a true=some e.2 then some k else none
def H3 (s:St) (d c:Nat) (m k:IX) (ok:Bool) (zero:PV):Option St:=match ai s.env m,ai s.env k with
 | some (.mp b),some a=>match s.gh[b]? with
  |some (.map e)=>if eS c a=false then none else match eD c e a with
   |some (some v)=>some (s.put d (if ok then .tup [v,.bool true] else v))
   |some none=>some (s.put d (if ok then .tup [degr zero,.bool false] else degr zero))
   |none=>none
  |_=>none
 |_,_=>none
def iY (s:St) (d c:Nat) (x:IX):Option St:=match c,ai s.env x with
 |0,some (.sl _ _ a)=>some (s.put d (.int .i64 a.length))
 |0,some (.bs _ _ _ n _)=>some (s.put d (.int .i64 n))
 |0,some (.stk _ _ n)=>some (s.put d (.int .i64 n))
 |0,some (.sub _ _ _ n)=>some (s.put d (.int .i64 n))
 |0,some .nils=>some (s.put d (.int .i64 (0:Nat)))
 |1,some (.str b)=>some (s.put d (.int .i64 b.size))
 |2,some (.mp b)=>match s.gh[b]? with
  |some (.map e)=>some (s.put d (.int .i64 e.length))
  |_=>none
 |_,_=>none
def ae (M:CallF) (s:St):IOp->Option St
 | .mv d x=>(gG s.env x).map (s.put d)
 | .mvF d n=>match get s.env n with
  |some (.sl true z t)=>some (s.put d (.fr z t))
  |_=>none
 | .loadM d agg k a=>match ai s.env a with
  |some (.ptr g b j)=>(s.cellsAt g b).bind λA=>(dD agg k j A).map λv=>s.put d (degrF v)
  |_=>none
 | .loadS d agg k a=>match ai s.env a with
  |some (.ptr g b j)=>(s.cellsAt g b).bind λA=>(dD agg k j A).map λv=>s.put d (unfr (degr v))
  |some (.ep e j)=>(dD agg k j e.cells).map λv=>s.put d (unfr v)
  |_=>none
 | .mvS d x=>(ai s.env x).map λv=>s.put d (unfr v)
 | .lenD d x=>match ai s.env x with
  |some (.dj _ _ n)=>some (s.put d (.int .i64 n))
  |some (.sl _ _ t)=>some (s.put d (.int .i64 t.length))
  |_=>none
 | .iaddrD d z0 x i=>match ai s.env x,ai s.env i with
  |some (.dj g z n),some (.int _ k)=>if 0<=k/\k<n/\z0=z then some (s.put d (.djp g z)) else none
  |_,_=>none
 | .faddrD d x k=>match ai s.env x with
  |some (.djp g r)=>if k<=r then some (s.put d (.djp g (r-k))) else none
  |_=>none
 | .paddrD d n x i=>match ai s.env x,ai s.env i with
  |some (.djp g r),some (.int _ k)=>if 0<=k/\k<n/\k<=r then some (s.put d (.djp g (r-k.toNat))) else none
  |_,_=>none
 | .storeD a x=>match ai s.env a,ai s.env x with
  |some (.djp g (_+1)),some (.int .i64 _)=>match s.gh[g]? with
   |some .trash=>some s
   |_=>none
  |_,_=>none
 | .tk d n=>(get s.env n).map λv=>⟨Lw.put (Lw.put s.env n (degr v)) d v,s.lh,s.gh⟩
 | .pick d c x y=>match ai s.env c with
  |some (.bool true)=>(ai s.env x).map (s.put d)
  |some (.bool false)=>(ai s.env y).map (s.put d)
  |_=>none
 | .box d g tk x=>
  if tk then (f6 s.env x).bind λ(v,e)=>if az v then some (kG ⟨e,s.lh,s.gh⟩ d g v.cells) else none
  else (ai s.env x).bind λv=>if az v then some (kG s d g v.cells) else none
 | .alloc d g z=>if az z then some (kG s d g z.cells) else none
 | .build d z S=>(iW s.env S).bind λw=>if w.all (λp=>az p.2.2)/\z.all PV.one then (j5 z w).map λA=>s.put d (.agg A) else none
 | .buildT d z S=>(iX s.env S).bind λ(w,e)=>if w.all (λp=>az p.2.2)/\z.all PV.one then (j5 z w).map λA=>⟨Lw.put e d (.agg A),s.lh,s.gh⟩ else none
 | .buildSl d z G=>(ei s.env G).bind λw=>if w.all (λv=>az v&&v.cells.length==z) then some (s.put d (.sl true z w)) else none
 | .buildSlF d z G=>(ei s.env G).bind λw=>if w.all (λv=>az v&&v.cells.length==z) then some (s.put d (.fr z w)) else none
 | .load d agg k a=>match ai s.env a with
  |some (.ptr g b j)=>(s.cellsAt g b).bind λA=>(dD agg k j A).map λv=>s.put d (degr v)
  |some (.ep e j)=>(dD agg k j e.cells).map (s.put d)
  |_=>none
 | .loadT d a=>match ai s.env a with
  |some (.ptr g b j)=>(s.cellsAt g b).bind λA=>(A[j]?).map λv=>(s.setCells g b (au A j [aw v])).put d v
  |_=>none
 | .store tk k a x=>match ai s.env a with
  | some (.ptr g b j)=>
   if tk then (f6 s.env x).bind λ(v,e)=>(St.cellsAt ⟨e,s.lh,s.gh⟩ g b).bind λA=>
    if v.cells.length=k/\j+k<=A.length/\az v then some (St.setCells ⟨e,s.lh,s.gh⟩ g b (au A j v.cells)) else none
   else (ai s.env x).bind λv=>(s.cellsAt g b).bind λA=>
    if v.cells.length=k/\j+k<=A.length/\az v then some (s.setCells g b (au A j v.cells)) else none
  |_=>none
 | .nilc d x=>match ai s.env x with
  |some (.ptr g b j)=>some (s.put d (.ptr g b j))
  |some (.ep e j)=>some (s.put d (.ep e j))
  |some (.fn f A)=>some (s.put d (.fn f A))
  |some (.bfn f A)=>some (s.put d (.bfn f A))
  |_=>none
 | .bin d op x y=>(ai s.env x).bind λa=>(ai s.env y).bind λb=>(fu op a b).map (s.put d)
 | .eqa d F ks x y=>match ai s.env x,ai s.env y with
  |some (.agg a),some (.agg b)=>(fj ks a b).map λr=>s.put d (.bool (if F then !r else r))
  |_,_=>none
 | .eqb d F x y=>match ai s.env x,ai s.env y with
  |some (.bool a),some (.bool b)=>some (s.put d (.bool (if F then a !=b else a==b)))
  |_,_=>none
 | .eqn d F x=>match ai s.env x with
  |some .nilI=>some (s.put d (.bool (!F)))
  |some .someI=>some (s.put d (.bool F))
  |_=>none
 | .un d op x=>(ai s.env x).bind λa=>(mn op a).map (s.put d)
 | .conv d k x=>match ai s.env x with
  |some (.int _ n)=>some (s.put d (.int k (k.wrap n)))
  |_=>none
 | .mkfn d f D=>(ei s.env D).bind λw=>if w.all az then some (s.put d (.fn f w)) else none
 | .loadG d ss=>some (s.put d (.sl false 1 (ss.map PV.str)))
 | .boxB d x=>match ai s.env x with
  |some (.agg [.nilp,.nils])=>some ⟨Lw.put s.env d (.ptr true s.gh.length 0),s.lh,s.gh++[.bld .empty]⟩
  |_=>none
 | .mkmap d=>some ⟨Lw.put s.env d (.mp s.gh.length),s.lh,s.gh++[.map []]⟩
 | .mksl d g z C zero l=>match ai s.env l with
  | some (.int _ n)=>if 0<=n/\n*C<=maxBytes/\zero.cells.length=z/\az zero then
    (match g with
    |true=>some ((s.newBox true ((List.replicate n.toNat zero).flatMap PV.cells)).1.put d (.bs true (s.newBox true ((List.replicate n.toNat zero).flatMap PV.cells)).2 0 n.toNat z))
    |false=>if co zero then some (s.put d (.sl true z (List.replicate n.toNat zero))) else none) else none
  |_=>none
 | .slice d z x I L=>match ai s.env x with
  | some (.sl _ H t)=>(eF s.env t.length L).bind λh=>(eF s.env 0 I).bind λl=>
    if l<=h/\h<=t.length/\z=H then some (s.put d (.sl false z ((t.take h).drop l))) else none
  | some (.bs g b j n H)=>(eF s.env n L).bind λh=>(eF s.env 0 I).bind λl=>
    if l<=h/\h<=n/\z=H then some (s.put d (.bs g b (j+l*z) (h-l) z)) else none
  | some (.stk b B n)=>if I.isNone then (eF s.env n L).bind λh=>if h<=n/\z=1 then some (s.put d (.stk b B h)) else none
    else (eF s.env n L).bind λh=>(eF s.env 0 I).bind λl=>if l<=h/\h<=n/\z=1 then some (s.put d (.sub b B l (h-l))) else none
  | some (.sub b B j n)=>(eF s.env n L).bind λh=>(eF s.env 0 I).bind λl=>
    if l<=h/\h<=n/\z=1 then some (s.put d (.sub b B (j+l) (h-l))) else none
  |_=>none
 | .sliceS d x I L=>match ai s.env x with
  | some (.str b)=>(eF s.env b.size L).bind λh=>(eF s.env 0 I).bind λl=>
    if l<=h/\h<=b.size then some (s.put d (.str (b.extract l h))) else none
  |_=>none
 | .faddr d x j=>match ai s.env x with
  |some (.ptr g b o)=>some (s.put d (.ptr g b (o+j)))
  |some (.ep e o)=>some (s.put d (.ep e (o+j)))
  |_=>none
 | .iaddr d z N x i=>match ai s.env i with
  |some (.int _ i)=>match ai s.env x,N with
   |some (.sl _ H t),none=>if 0<=i/\z=H then (t[i.toNat]?).map λe=>s.put d (.ep e 0) else none
   |some (.bs g b j n H),none=>if 0<=i/\i<n/\z=H then some (s.put d (.ptr g b (j+i.toNat*z))) else none
   |some (.ptr g b o),some m=>if 0<=i/\i<m then some (s.put d (.ptr g b (o+i.toNat*z))) else none
   |some (.ep e o),some m=>if 0<=i/\i<m then some (s.put d (.ep e (o+i.toNat*z))) else none
   |some (.stk b B n),none=>if 0<=i/\i<n/\z=1 then some (s.put d (.pstk b B i.toNat)) else none
   |some (.sub b B j n),none=>if 0<=i/\i<n/\z=1 then some (s.put d (.pstk b B (j+i.toNat))) else none
   |_,_=>none
  |_=>none
 | .index d z N agg x i=>match ai s.env i with
  |some (.int _ i)=>match ai s.env x with
   |some (.agg A)=>if 0<=i/\i<N then (dD agg z (i.toNat*z) A).map (s.put d) else none
   |_=>none
  |_=>none
 | .indexS d x i=>match ai s.env i with
  |some (.int _ i)=>match ai s.env x with
   |some (.str b)=>if 0<=i then (b[i.toNat]?).map λu=>s.put d (.int .u8 u.toNat) else none
   |_=>none
  |_=>none
 | .lookup d Q m k ok zero=>H3 s d Q m k ok zero
 | .mupd Q m k x=>match ai s.env m,ai s.env k,ai s.env x with
  |some (.mp b),some T,some v=>match s.gh[b]? with
   |some (.map es)=>if az T/\az v/\eS Q T then (ef Q es T v).map λaa=>⟨s.env,s.lh,s.gh.set b (.map aa)⟩ else none
   |_=>none
  |_,_,_=>none
 | .call d q f t=>(ei s.env t).bind λw=>dN M s d q f w
 | .callv d q U t=>match ai s.env U with
  |some (.fn f D)=>(ei s.env t).bind λw=>dN M s d q f (w++D)
  |some (.bfn f X)=>(ei s.env t).bind λw=>dN M s d q f (X++w)
  |_=>none
 | .callF d f t=>(ei s.env t).bind λw=>jC M s d f w
 | .callE d U t=>match ai s.env U with
  |some (.fn f D)=>(ei s.env t).bind λw=>qh M s d f (w++D)
  |_=>none
 | .loadL d a=>match ai s.env a with
  |some (.ptr false b j)=>(s.lh[b]?).bind λA=>(A[j]?).map λv=>(⟨s.env,s.lh.set b (au A j [aw v]),s.gh⟩:St).put d v
  |_=>none
 | .len d kd x=>iY s d kd x
 | .append d z C P x=>(ai s.env x).bind λO=>match O with
  | .sl _ z2 E=>(f6 s.env P).bind λ(v,e)=>match v with
   | .sl o R t=>if o=true/\R=z/\z2=z/\(t.length+E.length)*C<=maxBytes then
     some ⟨Lw.put e d (.sl true z (t++E)),s.lh,s.gh⟩ else none
   |_=>none
  |_=>none
 | .appendK d C P x=>(ai s.env x).bind λO=>(gH s.gh O).bind λE=>match ai s.env P with
  |some (.stk b B n)=>match s.gh[b]? with
   | some (.stk g t)=>if g=B/\n<=t.length/\(n+E.length)*C<=maxBytes/\fO b O=true/\E.all co=true then
     some ((⟨s.env,s.lh,s.gh.set b (.stk (g+1) (t.take n++E))⟩:St).put d (.stk b (g+1) (n+E.length))) else none
   |_=>none
  |_=>none
 | .loadK d a=>match ai s.env a with
  |some (.pstk b B i)=>(j6 s.gh b B i).map (s.put d)
  |_=>none
 | .buildSlK d G=>(ei s.env G).bind λw=>if w.all co=true then
   some ((⟨s.env,s.lh,s.gh++[.stk 0 w]⟩:St).put d (.stk s.gh.length 0 w.length)) else none
 | .extract d x i=>match ai s.env x with
  |some (.tup w)=>(w[i]?).map (s.put d)
  |_=>none
 | .storeK a x=>match ai s.env a,ai s.env x with
  |some (.pstk b B i),some v=>match s.gh[b]? with
   |some (.stk g t)=>if g=B/\i<t.length/\co v=true then some ⟨s.env,s.lh,s.gh.set b (.stk g (t.set i v))⟩ else none
   |_=>none
  |_,_=>none
 | .clearK x=>match ai s.env x with
  |some (.sub b B j n)=>match s.gh[b]? with
   |some (.stk g t)=>if g=B/\j+n<=t.length then some ⟨s.env,s.lh,s.gh.set b (.stk g (t.take j++List.replicate n (.int .i64 0)++t.drop (j+n)))⟩ else none
   |_=>none
  |_=>none
 | .mkbf d f X=>(ei s.env X).bind λw=>if w.all az then some (s.put d (.bfn f w)) else none
 | .callP d f t ns=>(ei s.env t).bind λw=>(dN M s d false f w).bind λs'=>if ∀n∈ns,keptB s.env s.gh s'.gh n then some s' else none
 | .callR d f t n j=>(ei s.env t).bind λw=>match get s.env n with
  |some (.ptr true b o)=>fV M s d f w b (o+j)
  |_=>none
 | .appendE d C P x=>(ai s.env x).bind λO=>(gH s.gh O).bind λE=>(f6 s.env P).bind λ(v,e)=>match v with
  | .sl o R t=>if o=true/\R=1/\E.all co=true/\(t.length+E.length)*C<=maxBytes then
    some ⟨Lw.put e d (.sl true 1 (t++E)),s.lh,s.gh⟩ else none
  |_=>none
 | .loadTB d a n o2=>match ai s.env a,get s.env n with
  |some (.ptr true b j),some (.ptr true b' o)=>if b=b'/\j=o+o2 then (s.cellsAt true b).bind λA=>match A[j]? with
   |some (.sl q z E)=>some ((s.setCells true b (au A j [.sl false z E])).put d (.sl q z E))
   |_=>none
   else none
  |_,_=>none
 | .loadB d agg k a n=>match ai s.env a,get s.env n with
  |some (.ptr true b j),some (.ptr true b' _)=>if b=b' then (s.cellsAt true b).bind λA=>(dD agg k j A).map λv=>s.put d (degr v) else none
  |some (.ep e j),some (.sl _ _ _)=>(dD agg k j e.cells).map (s.put d)
  |_,_=>none
 | .loadJ d agg k a=>match ai s.env a with
  |some (.ptr false b j)=>(s.cellsAt false b).bind λA=>(dD agg k j A).map λv=>s.put d (degr v)
  |_=>none
 |_=>none
def bq:IOp->Option Nat
 | .buildSlF d _ _| .mvF d _| .loadM d _ _ _| .loadS d _ _ _| .mvS d _| .lenD d _| .iaddrD d _ _ _| .faddrD d _ _| .paddrD d _ _ _| .mv d _| .tk d _| .tkS d _ _| .pick d _ _ _| .box d _ _ _| .alloc d _ _| .build d _ _| .buildT d _ _| .buildSl d _ _| .load d _ _ _| .loadN d _ _ _ _| .loadT d _| .loadL d _| .nilc d _| .bin d _ _ _| .eqa d _ _ _ _| .eqb d _ _ _| .eqn d _ _| .un d _ _
 | .conv d _ _| .mkfn d _ _| .mkmap d| .mksl d _ _ _ _ _| .slice d _ _ _ _| .sliceS d _ _ _| .faddr d _ _| .field d _ _ _ _| .iaddr d _ _ _ _| .index d _ _ _ _ _| .indexS d _ _
 | .lookup d _ _ _ _ _| .len d _ _| .append d _ _ _ _| .appendK d _ _ _| .appendN d _ _ _| .buildSlK d _| .loadK d _| .loadH d _| .maxi d _| .extract d _ _| .mkbf d _ _| .loadB d _ _ _ _| .loadJ d _ _ _| .appendE d _ _ _| .loadKB d _ _| .loadTB d _ _ _| .appendP d _ _ _ _| .mkarr d _ _ _ _| .buildA d _ _| .boxSl d _ _| .mkbld d| .boxB d _| .loadG d _=>some d
 | .call d _ _ _| .callv d _ _ _| .callF d _ _| .callE d _ _| .callP d _ _ _| .callR d _ _ _ _=>d
 | .storeD _ _| .store _ _ _ _| .storeP _ _ _ _ _| .mupd _ _ _ _| .storeK _ _| .clearK _=>none
def eQ (s:St) (o:IOp):St:=
 match bq o with
 |some d=>s.put d .und
 |none=>s
def dt (a:CallF):List IOpG->St->Option St
 |[],s=>some s
 | o::l,s=>match o.guard with
  |none=>(ae a s o.op).bind (dt a l)
  |some (g,c)=>match get s.env g with
   |some (.bool b)=>if b=c then (ae a s o.op).bind (dt a l) else dt a l (eQ s o.op)
   |some .und=>dt a l (eQ s o.op)
   |_=>none
def bj (a:Nat):PV->Bool
 | .ptr false b _=>decide (b<a)
 | .bs false b _ _ _=>decide (b<a)
 |_=>true
def keep (a:Nat):List Nat->List (Nat×PV)->List (Nat×PV)
 |[],_=>[]
 |t::l,e=>match get e t with
  |some v=>if bj a v then (t,v)::keep a l e else keep a l e
  |none=>keep a l e
def jD (a:List Nat) (n:Nat) (s:St):Option St:=
 match get s.env n with
 |some (.ptr false b 0)=>match s.lh[b]? with
  |some c=>if b+1=s.lh.length then some ⟨put (keep b a s.env) n (.ptr true s.gh.length 0),s.lh.take b,s.gh++[.cells c]⟩ else none
  |none=>none
 |_=>none
def am (s:St):j0->Option PV
 | .t n=>get s.env n
 | .cell a agg k=>match get s.env a with
  |some (.ptr g b c)=>(s.cellsAt g b).bind (dD agg k c)
  |_=>none
def ah (s:St):List j0->Option (List PV)
 |[]=>some []
 |r::l=>(am s r).bind λv=>(ah s l).map (v:: ·)
def results (own:Bool) (b:List j0) (s:St):Option PV:=
 match own,b with
 |true,[.t n]=>get s.env n
 |true,r::q::l=>(ah s (r::q::l)).map λa=> .tup (a.map degrF)
 |_,b=>(ah s b).map λa=>match a with
  |[v]=>degr v
  |a=> .tup (a.map degr)
def af:PV->Bool
 | .tup a=>a.all az
 |v=>az v
def fk:Nat->List PV->List (Nat×PV)
 |_,[]=>[]
 |n,v::l=>(n,v)::fk (n+1) l
inductive wo where
 |code (fn:IFunc)
 |lib (F:List PV->List GObj->Option (PV×List GObj))
abbrev Prg:=Nat->Option wo
def frz (n:Nat) (d:List GObj):PV->PV
 | .bs true b a k 1=>match d[b]? with
  |some (.cells e)=>if n<=b/\a+k<=e.length then .sl false 1 (((e.drop a).take k).map aw) else .bs true b a k 1
  |_=> .bs true b a k 1
 | .stk b g k=>match d[b]? with
  |some (.stk f c)=>if n<=b/\f=g/\k<=c.length then .sl false 1 (c.take k) else .stk b g k
  |_=> .stk b g k
 |v=>v
def dp (n:Nat) (a:List GObj):PV->PV
 | .tup b=> .tup (b.map (frz n a))
 |v=>frz n a v
def ag (b:IFunc) (a:List GObj):IExit×St->Option (PV×List GObj)
 |(.exit _,_)=>none
 | (_,s)=>(results b.own b.res s).bind λr=>if af r then
   (if b.trunc then if s.gh.take a.length=a/\(dp a.length s.gh r).noG then some (dp a.length s.gh r,a) else none else some (r,s.gh)) else none
def du (b:ICode->St->Option (IExit×St)) (pg:Prg):CallF:=λf a c=>
 match pg f with
 |some (.code d)=>if a.length=d.np then (b d.body ⟨fk 0 a,[],c⟩).bind (ag d c) else none
 |some (.lib F)=>F a c
 |none=>none
def bf (pg:Prg):Nat->ICode->St->Option (IExit×St)
 |0,_,_=>none
 | n+1,c,s=>match c with
  | .skip=>some (.normal,s)
  | .region e _=>(dt (du (bf pg n) pg) e s).map λd=>(.normal,d)
  | .seq a b=>match bf pg n a s with
   |some (.normal,d)=>bf pg n b d
   |r=>r
  | .cond x a b=>match ai s.env x with
   |some (.bool true)=>bf pg n a s
   |some (.bool false)=>bf pg n b s
   |_=>none
  | .block h a=>match bf pg n a s with
   |some (.exit i,d)=>if i=h then some (.normal,d) else some (.exit i,d)
   |r=>r
  | .loop a=>match bf pg n a s with
   |some (.normal,d)=>bf pg n (.loop a) d
   |r=>r
  | .exit i=>some (.exit i,s)
  | .ret=>some (.ret,s)
  | .post a f g=>match bf pg n a s with
   |some (.normal,d)=>some (.normal,⟨keep g f d.env,d.lh.take g,d.gh⟩)
   |r=>r
  | .cut a=>bf pg n a s
  | .lift a f t=>match bf pg n a s with
   |some (.normal,d)=>(jD f t d).map λd=>(.normal,d)
   |r=>r
  | .bad=>none
end
abbrev oN (x:IOp):IOpG:=⟨x,none⟩
abbrev oM (d t:Nat):IOpG:=⟨.mv d (.t t),none⟩
abbrev oL (d t:Nat):IOpG:=⟨.load d false 1 (.t t),none⟩
abbrev oF (d t k:Nat):IOpG:=⟨.faddr d (.t t) k,none⟩
abbrev oC (d t:Nat):IOpG:=⟨.nilc d (.t t),none⟩
abbrev oA (d t u:Nat):IOpG:=⟨.iaddr d 1 none (.t t) (.t u),none⟩
abbrev I (n:Int):PV:= .int .i64 n
abbrev B (b:Bool):PV:= .bool b
instance {n:Nat}:OfNat IX n:=⟨.t n⟩
abbrev oT (d t:Nat):IOpG:=⟨.tk d t,none⟩
abbrev oK (d:Nat) (n:Int):IOpG:=⟨.mv d (.c (.int .i64 n)),none⟩
abbrev oE (d:Nat) (x:IX) (n:Int):IOpG:=⟨.bin d .eql x (.c (.int .i64 n)),none⟩
abbrev oP (d:Nat) (x:IX) (n:Int):IOpG:=⟨.bin d .add x (.c (.int .i64 n)),none⟩
abbrev oS (d:Nat) (x:IX) (n:Int):IOpG:=⟨.bin d .sub x (.c (.int .i64 n)),none⟩
abbrev oW (d:Nat) (x y:IX):IOpG:=⟨.bin d .lss x y,none⟩
abbrev oY (d f:Nat) (a:List IX):IOpG:=⟨.call (some d) true f a,none⟩
abbrev oX (d f:Nat) (a:List IX):IOpG:=⟨.call (some d) false f a,none⟩
abbrev oD (d:Nat) (x:IX):IOpG:=⟨.len d 0 x,none⟩
abbrev oB (d:Nat) (x:IX):IOpG:=⟨.box d false false x,none⟩
abbrev oG (d:Nat) (x:IX) (i:Nat):IOpG:=⟨.extract d x i,none⟩
abbrev sR (l:List IOpG) (b:List Nat) (a:Nat) (c:ICode):ICode:= .seq (.post (.region l false) b a) c
abbrev sQ (l:List IOpG) (b:List Nat) (a:Nat) (c:ICode):ICode:= .seq (.post (.region l true) b a) c
abbrev pR (l:List IOpG) (b:List Nat) (a:Nat):ICode:= .post (.region l false) b a
abbrev pQ (l:List IOpG) (b:List Nat) (a:Nat):ICode:= .post (.region l true) b a
abbrev cr (l:List PV):PV:= .sl false 1 l
abbrev dz (l:List PV):PV:= .sl true 1 l
abbrev ec:PV:= .ptr false 0 0
abbrev eK:PV:= .ptr false 1 0
abbrev eU:PV:= .ptr false 2 0
abbrev fc (b o:Nat):PV:= .ptr true b o
abbrev ff (b o:Nat):PV:= .ptr false b o
abbrev fg (s:St):Option (IExit×St):=some (.normal,s)
abbrev fo (s:St):Option (IExit×St):=some (.ret,s)
abbrev fq:=List Int
abbrev ft:=List (List Int)
abbrev fw:=List PV
abbrev fB:=List GObj
abbrev fN:=List (Int×Int)
abbrev fS:=List Bool
abbrev fT:=List (Nat×PV)
abbrev gj:=List Nat
abbrev gq:=Option (IExit×St)
abbrev gA:=List Value
abbrev gN (x : IOp) (g : Nat) : IOpG := ⟨x, some (g, false)⟩
abbrev gT (x : IOp) (g : Nat) : IOpG := ⟨x, some (g, true)⟩
abbrev gF (d t k g : Nat) : IOpG := ⟨.faddr d (.t t) k, some (g, false)⟩
abbrev gL (d t g : Nat) : IOpG := ⟨.load d false 1 (.t t), some (g, false)⟩
abbrev gM (d t g : Nat) : IOpG := ⟨.mv d (.t t), some (g, false)⟩
abbrev WI:IntKind:=.i64
end Go.Lw