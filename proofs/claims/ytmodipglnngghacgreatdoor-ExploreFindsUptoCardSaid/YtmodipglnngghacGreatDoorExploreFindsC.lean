/-
  The texts that the proof stands on, part 3.
-/
import Derived.Test.YtmodipglnngghacGreatDoorExploreFindsB
set_option linter.unusedVariables false
set_option linter.unusedSimpArgs false
set_option linter.unnecessarySimpa false

set_option maxRecDepth 100000
set_option maxHeartbeats 4000000
namespace Go.Lw
open Go
inductive Ce where
 |any
 |one
 |int (k:IntKind)
 |bool
 |str
 |gp
 |ol (z:Nat)
 deriving Inhabited
inductive Sh where
 |raw
 |ce (c:Ce)
 |agg (l:List Ce)
 |tup (n:Nat)
 deriving Inhabited
def hz0:Nat:=0
def hz1:Nat:=hz0
def hz2:Nat:=hz1
def hz3:Nat:=hz2
def hz4:Nat:=hz3
def hz5:Nat:=hz4
def hz6:Nat:=hz5
def hz7:Nat:=hz6
def hz8:Nat:=hz7
def hz9:Nat:=hz8
def xi:Nat:=hz9
def xj:Nat:=xi
def xk:Nat:=xj
def xm:Nat:=xk
def xn:Nat:=xm
def xp:Nat:=xn
def xq:Nat:=xp
def xr:Nat:=xq
def xt:Nat:=xr
def xu:Nat:=xt
def rk:Nat:=xu
def xw:Nat:=rk
def xx:Nat:=xw
def xy:Nat:=xx
def xz:Nat:=xy
def xA:Nat:=xz
def xB:Nat:=xA
def xD:Nat:=xB
def xE:Nat:=xD
def xF:Nat:=xE
def rl:Nat:=xF
def xG:Nat:=rl
def xH:Nat:=xG
def xI:Nat:=xH
def xJ:Nat:=xI
def xK:Nat:=xJ
def xM:Nat:=xK
def xN:Nat:=xM
def xO:Nat:=xN
def xP:Nat:=xO
def xQ:Nat:=xP
def xR:Nat:=xQ
def xS:Nat:=xR
def xT:Nat:=xS
def xU:Nat:=xT
def ee:Nat:=xU
def xV:Nat:=ee
def xW:Nat:=xV
def xX:Nat:=xW
def xY:Nat:=xX
def xZ:Nat:=xY
def yd:Nat:=xZ
def ye:Nat:=yd
def yf:Nat:=ye
def yg:Nat:=yf
def yh:Nat:=yg
def yi:Nat:=yh
def yj:Nat:=yi
def ym:Nat:=yj
def yn:Nat:=ym
def yo:Nat:=yn
def yq:Nat:=yo
def yr:Nat:=yq
def yt:Nat:=yr
def yu:Nat:=yt
def yv:Nat:=yu
def yw:Nat:=yv
def yx:Nat:=yw
def yy:Nat:=yx
def yz:Nat:=yy
def jf:Nat:=yz
section
variable {R:Type} {α:Type}
def ob0 (x:Option α) (f:α->Option R):Option R:=match x with|some a=>f a|none=>none
def gd0 (b:Bool) (x:Option R):Option R:=match b with|true=>x|false=>none
def ob (x:Option α) (f:α->Option R):Option R:=(λ_:Nat=>
 match x with|some a=>f a|none=>none) ee
def gd (b:Bool) (x:Option R):Option R:=(λ_:Nat=>
 match b with|true=>x|false=>none) ee
def gb (b:Bool) (x:Option R):Option R:=(λ_:Nat=>
 match b with|true=>x|false=>none) ee
def br (_:Nat) (b:Bool) (x y:Option R):Option R:=(λ_:Nat=>
 match b with|true=>x|false=>y) ee
def kR (x:Option (ag×St)) (k:ag->St->Option R):Option R:=match x with|some (e,s)=>k e s|none=>none
def nx (e:ag) (s:St) (k:ag->St->Option R) (f:St->Option R):Option R:=(λ_:Nat=>
 match e with| .normal=>f s|e=>k e s) jf
def bk (id:Nat) (e:ag) (s:St) (k:ag->St->Option R):Option R:=match e with| .exit i=>br 0 (Nat.beq i id) (k .normal s) (k (.exit i) s)|e=>k e s
def gt (k:IntKind) (a b:Int):Int:=k.wrap (BitVec.ofInt k.bits a &&&BitVec.ofInt k.bits b).toNat
def iOr (k:IntKind) (a b:Int):Int:=k.wrap (BitVec.ofInt k.bits a |||BitVec.ofInt k.bits b).toNat
def kQ (k:IntKind) (a b:Int):Int:=k.wrap (BitVec.ofInt k.bits a ^^^BitVec.ofInt k.bits b).toNat
def cW (k:IntKind) (a b:Int):Int:=k.wrap (a*2^(min b.toNat k.bits))
def ff (k:IntKind) (a b:Int):Int:=a.fdiv (2^(min b.toNat k.bits))
def mH (k:IntKind) (n:Int):Int:=k.wrap (BitVec.ofInt k.bits (if k.signed then -1 else k.max) ^^^BitVec.ofInt k.bits n).toNat
def mI:IntKind->Nat
 | .i8=>0| .i16=>1| .i32=>2| .i64=>3| .u8=>4| .u16=>5| .u32=>6| .u64=>7
def kE (k k':IntKind) (x:Option R):Option R:=gb (Nat.beq (mI k) (mI k')) x
def Fn:Nat->Type->Type
 |0,R=>R
 |n+1,R=>PV->Fn n R
def jg:(n:Nat)->(List PV->R)->Fn n R
 |0,g=>g []
 |n+1,g=>λc=>jg n λl=>g (c::l)
def unN:(n:Nat)->List PV->Fn n (Option R)->Option R
 |0,[],f=>f
 |n+1,c::l,f=>unN n l (f c)
 |_,_,_=>none
def isC (v:PV) (x:Option R):Option R:=(λ_:Nat=>
 match v with| .agg _=>none|_=>x) ee
def stK (nl:Nat) (v:PV) (x:Option R):Option R:=(λ_:Nat=>
 match v with
  | .ptr false b _=>gb (Nat.ble (b+1) nl) x
  | .bs false b _ _ _=>gb (Nat.ble (b+1) nl) x
  |_=>x) ee
def onK (v:PV) (x:Option R):Option R:=(λ_:Nat=>
 match v with
  | .und| .agg _| .tup _| .ptr false _ _| .bs false _ _ _ _| .arr _ _| .junk=>none
  |_=>x) ee
def arL:List PV->Option R->Option R
 |[],x=>x
 |c::l,x=>onK c (arL l x)
def arK (v:PV) (x:Option R):Option R:=(λ_:Nat=>
 match v with
  | .agg cs=>arL cs x
  | .und| .tup _| .ptr false _ _| .bs false _ _ _ _| .arr _ _| .junk=>none
  |_=>x) ee
def dG:List PV->Option R->Option R
 |[],x=>x
 |v::l,x=>arK v (dG l x)
def fV:List PV->Nat->Bool
 |[],0=>true
 |_::l,n+1=>fV l n
 |_,_=>false
def geB:List PV->Nat->Bool
 |_,0=>true
 |_::l,n+1=>geB l n
 |[],_+1=>false
def lnK (z:Nat) (v:PV) (x:Option R):Option R:=(λ_:Nat=>
 match v with
  | .agg cs=>gb (fV cs z) x
  |_=>gb (Nat.beq 1 z) x) ee
def slK (z:Nat):List PV->Option R->Option R
 |[],x=>x
 |v::l,x=>arK v (lnK z v (slK z l x))
def rm:PV->Bool
 | .ptr _ _ _| .ep _ _| .fn _ _=>true
 |_=>false
def unI (k:IntKind) (v:PV) (f:Int->Option R):Option R:=(λ_:Nat=>
 match v with| .int k' n=>kE k' k (f n)|_=>none) ee
def jh (v:PV) (f:Int->Option R):Option R:=(λ_:Nat=>
 match v with| .int _ n=>f n|_=>none) ee
def unB (v:PV) (f:Bool->Option R):Option R:=(λ_:Nat=>
 match v with| .bool b=>f b|_=>none) ee
def unS (v:PV) (f:ByteArray->Option R):Option R:=(λ_:Nat=>
 match v with| .str b=>f b|_=>none) ee
def unG (v:PV) (f:Nat->Nat->Option R):Option R:=(λ_:Nat=>
 match v with| .ptr true b off=>f b off|_=>none) ee
def unO (z:Nat) (v:PV) (f:List PV->Option R):Option R:=match v with| .sl true z' xs=>gb (Nat.beq z' z) (f xs)|_=>none
def unA (n:Nat) (v:PV) (f:Fn n (Option R)):Option R:=match v with| .agg cs=>unN n cs f|_=>none
def unT (n:Nat) (v:PV) (f:Fn n (Option R)):Option R:=match v with| .tup cs=>unN n cs f|_=>none
def mJ (v:PV) (f:Bool->Option R):Option R:=match v with| .nilI=>f true| .someI=>f false|_=>none
def kS (c:Ce) (v:PV) (f:PV->Option R):Option R:=
 match c with
 | .any=>f v
 | .one=>isC v (f v)
 | .int k=>unI k v λn=>f (.int k n)
 | .bool=>unB v λb=>f (.bool b)
 | .str=>unS v λb=>f (.str b)
 | .gp=>unG v λb off=>f (.ptr true b off)
 | .ol z=>unO z v λxs=>f (.sl true z xs)
def jN:List Ce->List PV->(List PV->Option R)->Option R
 |[],[],f=>f []
 |c::cs,v::vs,f=>kS c v λv=>jN cs vs λvs=>f (v::vs)
 |_,_,_=>none
def cast (h:Sh) (v:PV) (f:PV->Option R):Option R:=
 match h with
 | .raw=>f v
 | .ce c=>kS c v f
 | .agg l=>unA l.length v (jg l.length λcs=>jN l cs λcs=>f (.agg cs))
 | .tup n=>unT n v (jg n λvs=>f (.tup vs))
inductive Tr where
 |nil
 |node (n:Nat) (h:Sh) (l r:Tr)
def kT:Tr->Nat->Sh
 | .nil,_=> .raw
 | .node n h l r,t=>match Nat.beq n t with
  |true=>h
  |false=>match Nat.ble n t with
   |true=>kT r t
   |false=>kT l t
def shX (an:Tr):IX->Sh
 | .t n=>kT an n
 | .c _=> .raw
 | .f _=> .raw
def fg:List (Nat×PV)->Nat->Option PV
 |[],_=>none
 |(a,v)::l,t=>match Nat.beq a t with
  |true=>some v
  |false=>fg l t
def dQ:List (Nat×PV)->Nat->PV->(List (Nat×PV)->Option R)->Option R
 |[],t,v,k=>(λ_:Nat=>k [(t,v)]) jf
 |(a,u)::l,t,v,k=>match Nat.beq a t with
  |true=>k ((t,v)::l)
  |false=>dQ l t v λl=>k ((a,u)::l)
def mK:List α->α->(List α->Option R)->Option R
 |[],v,k=>(λ_:Nat=>k [v]) jf
 |u::l,v,k=>mK l v λl=>k (u::l)
def kU:List α->Nat->α->(List α->Option R)->Option R
 |[],_,_,k=>(λ_:Nat=>k []) jf
 |_::l,0,v,k=>k (v::l)
 |u::l,i+1,v,k=>kU l i v λl=>k (u::l)
def iu:List α->Nat->Option α
 |[],_=>none
 |u::_,0=>some u
 |_::l,i+1=>iu l i
def ji:Nat->List α->(List α->Option R)->Option R
 |0,_,k=>(λ_:Nat=>k []) jf
 |_,[],k=>k []
 |n+1,u::l,k=>ji n l λl=>k (u::l)
def evX (e:List (Nat×PV)):IX->Option PV
 | .t n=>match fg e n with
  |some v=>some (degr v)
  |none=>none
 | .c v=>some (degr v)
 | .f id=>some (.fn id [])
def evK (e:List (Nat×PV)):IX->Option PV
 | .t n=>match fg e n with
  |some v=>some (degr v)
  |none=>none
 | .c v=>some v
 | .f id=>some (.fn id [])
def gR (e:List (Nat×PV)):List IX->(List PV->Option R)->Option R
 |[],k=>(λ_:Nat=>k []) jf
 |x::l,k=>match evX e x with
  |some v=>gR e l λvs=>k (v::vs)
  |none=>none
def tkX (e:List (Nat×PV)) (x:IX) (k:PV->List (Nat×PV)->Option R):Option R:=
 match x with
 | .t n=>match fg e n with
  |some v=>dQ e n (degr v) λe=>k v e
  |none=>none
 | .c v=>k v e
 | .f id=>k (.fn id []) e
def eZ (s:St) (d:Nat) (v:PV) (k:St->Option R):Option R:=dQ s.env d v λe=>k ⟨e,s.lh,s.gh⟩
def gS (h:Sh) (v:PV) (f:List PV->Option R):Option R:=
 match h with
 | .ce _=>isC v (f [v])
 |_=>f v.cells
def eD (an:Tr) (s:St) (d:Nat) (v:PV) (k:St->Option R):Option R:=cast (kT an d) v λw=>eZ s d w k
def ao (gh:List GObj) (b:Nat):Option (List PV):=match gh[b]? with|some (.cells cs)=>some cs|_=>none
def gu (gh:List GObj) (b:Nat):Option (List (PV×PV)):=match gh[b]? with|some (.map es)=>some es|_=>none
def ldX (lh:List (List PV)) (gh:List GObj) (agg:Bool) (k:Nat) (p:PV) (f:PV->Option R):Option R:=
 (λ_:Nat=>
 match p with
 | .ptr false b off=>match iu lh b with
  |some cs=>(match aq agg k off cs with|some v=>f (degr v)|none=>none)
  |none=>none
 | .ptr true b off=>ob0 (ao gh b) λcs=>ob0 (aq agg k off cs) λv=>f (degr v)
 | .ep e off=>ob0 (aq agg k off e.cells) f
 |_=>none) rk
def db (k off:Nat) (cs old:List PV):Bool:=fV cs k&&geB old (off+k)
def kV (s:St) (p:PV) (kk:Nat) (cs:List PV) (k:St->Option R):Option R:=
 match p with
 | .ptr false b off=>match iu s.lh b with
  |some old=>gb (db kk off cs old) (kU s.lh b (ar old off cs) λlh=>k ⟨s.env,lh,s.gh⟩)
  |none=>none
 | .ptr true b off=>ob (ao s.gh b) λold=>gb (db kk off cs old) (k ⟨s.env,s.lh,s.gh.set b (.cells (ar old off cs))⟩)
 |_=>none
def psX (an:Tr) (e:List (Nat×PV)):List (Nat×Nat×IX)->List PV->(List PV->Option R)->Option R
 |[],z,f=>f z
 |(off,k,x)::l,z,f=>match evX e x with
  |some v=>arK v (gS (shX an x) v λcs=>gb (db k off cs z) (psX an e l (ar z off cs) f))
  |none=>none
def psT (an:Tr):List (Nat×PV)->List (Nat×Nat×IX)->List PV->(List (Nat×PV)->List PV->Option R)->Option R
 |e,[],z,f=>f e z
 |e,(off,k,x)::l,z,f=>tkX e x λv e1=>arK v (gS (shX an x) v λcs=>gb (db k off cs z) (psT an e1 l (ar z off cs) f))
def iw (n:Int) (bytes z:Nat) (zero:PV):Bool:=decide (0<=n/\n*bytes<=maxBytes/\zero.cells.length=z/\ah zero=true)
def boX (e:List (Nat×PV)) (x:Option IX) (f:Option Int->Option R):Option R:=
 match x with
 |none=>f none
 |some x=>match evX e x with
  |some v=>jh v λn=>f (some n)
  |none=>none
def bd (d:Nat) (x:Option Int) (f:Nat->Option R):Option R:=match x with|none=>f d|some i=>gd0 (decide (0<=i)) (f i.toNat)
def slX (z:Nat) (v:PV) (lo hi:Option Int) (f:PV->Option R):Option R:=
 match v with
 | .sl _ z' xs=>bd xs.length hi λh=>bd 0 lo λl=>gd0 (decide (l<=h/\h<=xs.length/\z=z')) (f (.sl false z ((xs.take h).drop l)))
 | .bs g b off n z'=>bd n hi λh=>bd 0 lo λl=>gd0 (decide (l<=h/\h<=n/\z=z')) (f (.bs g b (off+l*z) (h-l) z))
 | .stk b gen n=>match lo with
  |none=>bd n hi λh=>gd0 (decide (h<=n/\z=1)) (f (.stk b gen h))
  |some lo=>bd n hi λh=>bd 0 (some lo) λl=>gd0 (decide (l<=h/\h<=n/\z=1)) (f (.sub b gen l (h-l)))
 | .sub b gen off n=>bd n hi λh=>bd 0 lo λl=>gd0 (decide (l<=h/\h<=n/\z=1)) (f (.sub b gen (off+l) (h-l)))
 |_=>none
def ssX (v:PV) (lo hi:Option Int) (f:ByteArray->Option R):Option R:=
 match v with
 | .str b=>bd b.size hi λh=>bd 0 lo λl=>gd (decide (l<=h/\h<=b.size)) (f (b.extract l h))
 |_=>none
def faX (p:PV) (off:Nat) (f:PV->Option R):Option R:=
 (λ_:Nat=>
 match p with
 | .ptr g b o=>f (.ptr g b (o+off))
 | .ep e o=>f (.ep e (o+off))
 |_=>none) rl
def fdX (v:PV) (agg:Bool) (k off:Nat) (f:PV->Option R):Option R:=
 match v with
 | .agg cs=>ob (aq agg k off cs) f
 |_=>none
def idX (z:Nat) (arr:Option Nat) (v:PV) (i:Int) (f:PV->Option R):Option R:=
 match arr,v with
 |none,.sl _ z' xs=>gd0 (decide (0<=i/\z=z')) (ob0 xs[i.toNat]? λe=>f (.ep e 0))
 |none,.bs g b off n z'=>gd0 (decide (0<=i/\i<n/\z=z')) (f (.ptr g b (off+i.toNat*z)))
 |some m,.ptr g b o=>gd0 (decide (0<=i/\i<m)) (f (.ptr g b (o+i.toNat*z)))
 |some m,.ep e o=>gd0 (decide (0<=i/\i<m)) (f (.ep e (o+i.toNat*z)))
 |none,.stk b gen n=>gd0 (decide (0<=i/\i<n/\z=1)) (f (.pstk b gen i.toNat))
 |none,.sub b gen off n=>gd0 (decide (0<=i/\i<n/\z=1)) (f (.pstk b gen (off+i.toNat)))
 |_,_=>none
def ixX (v:PV) (z arr:Nat) (agg:Bool) (i:Int) (f:PV->Option R):Option R:=
 match v with
 | .agg cs=>gd (decide (0<=i/\i<arr)) (ob (aq agg z (i.toNat*z) cs) f)
 |_=>none
def isX (v:PV) (i:Int) (f:Int->Option R):Option R:=
 match v with
 | .str b=>gd (decide (0<=i)) (ob b[i.toNat]? λu=>f u.toNat)
 |_=>none
def lkX (gh:List GObj) (kn:Nat) (m k:PV) (f:Option PV->Option R):Option R:=
 match m with
 | .mp b=>ob (gu gh b) λes=>gd (dE kn k) (ob (eU kn es k) f)
 |_=>none
def muX (gh:List GObj) (kn:Nat) (m k v:PV) (f:List GObj->Option R):Option R:=
 match m with
 | .mp b=>ob (gu gh b) λes=>gd (ah k&&(ah v&&dE kn k)) (ob (eb kn es k v) λes'=>f (gh.set b (.map es')))
 |_=>none
def bh (v:PV) (f:Nat->Option R):Option R:=match v with| .sl _ _ xs=>f xs.length| .bs _ _ _ n _=>f n| .stk _ _ n=>f n| .sub _ _ _ n=>f n| .nils=>f 0|_=>none
def jj (gh:List GObj) (v:PV) (f:Nat->Option R):Option R:=match v with| .mp b=>ob (gu gh b) λes=>f es.length|_=>none
def apX (z bytes:Nat) (v w:PV) (f:List PV->Option R):Option R:=
 match w,v with
 | .sl _ z2 ys,.sl o z1 xs=>gd (decide (o=true/\z1=z/\z2=z/\(xs.length+ys.length)*bytes<=maxBytes)) (f (xs++ys))
 |_,_=>none
def mL (gh:List GObj) (b:Nat):Option (Nat×List PV):=match gh[b]? with|some (.stk g xs)=>some (g,xs)|_=>none
def akX (gh:List GObj) (bytes:Nat) (v w:PV) (f:List GObj->PV->Option R):Option R:=
 ob (lQ gh w) λys=>match v with
  | .stk b gen n=>ob (mL gh b) λp=>gd (decide (p.1=gen/\n<=p.2.length/\(n+ys.length)*bytes<=maxBytes/\ig b w=true/\ys.all dU=true)) (f (gh.set b (.stk (p.1+1) (p.2.take n++ys))) (.stk b (p.1+1) (n+ys.length)))
  |_=>none
def anX (gh:List GObj) (bytes:Nat) (v w:PV) (f:List GObj->PV->Option R):Option R:=
 match v with
 | .nils=>ob (lQ gh w) λys=>gd (decide (ys≠[]/\ys.length*bytes<=maxBytes/\ys.all dU=true)) (f (gh++[.stk 0 ys]) (.stk gh.length 0 ys.length))
 |v=>akX gh bytes v w f
def lkK (gh:List GObj) (v:PV) (f:PV->Option R):Option R:=match v with| .pstk b gen i=>ob (ox gh b gen i) f|_=>none
def exX (v:PV) (i:Nat) (f:PV->Option R):Option R:=match v with| .tup vs=>ob vs[i]? f|_=>none
noncomputable def callR (gh:List GObj) (q:Bool) (x:Option (PV×List GObj)) (f:PV->List GObj->Option R):Option R:=
 open Classical in
 match x with|some (r,gh')=>(match q with|true=>(if gh'=gh then f r gh else none)|false=>f r gh')|none=>none
def callN (vs:List PV) (x:Option (PV×List GObj)) (f:PV->Option R):Option R:=
 gd (cU vs) (match x with|some (r,[])=>gd r.noG (f r)|_=>none)
def elK (gh:List GObj) (vs:List PV) (k:List PV->Option R):Option R:=match ov gh vs with|some us=>k us|none=>none
def callE (us:List PV) (x:Option (PV×List GObj)) (f:PV->Option R):Option R:=
 gd (cU us) (match x with|some (r,[])=>gd (dU r) (f r)|_=>none)
def fnX (v:PV) (f:Nat->List PV->Option R):Option R:=match v with| .fn i cs=>f i cs|_=>none
def fnY (v:PV) (f:Nat->List PV->(List PV->List PV)->Option R):Option R:=match v with| .fn i cs=>f i cs (λvs=>vs++cs)| .bfn i cs=>f i cs (λvs=>cs++vs)|_=>none
def jO (s:St) (d:Nat) (g:Bool) (cs:List PV) (k:St->Option R):Option R:=
 match g with
 |true=>dQ s.env d (.ptr true s.gh.length 0) λe=>k ⟨e,s.lh,s.gh++[.cells cs]⟩
 |false=>dQ s.env d (.ptr false s.lh.length 0) λe=>mK s.lh cs λlh=>k ⟨e,lh,s.gh⟩
def mM (op:BinOp) (a b:PV) (f:PV->Option R):Option R:=
 match a,b with
 | .int k x,.int k' y=>match op with
  | .add=>kE k k' (f (.int k (k.wrap (x+y))))
  | .sub=>kE k k' (f (.int k (k.wrap (x-y))))
  | .mul=>kE k k' (f (.int k (k.wrap (x*y))))
  | .quo=>kE k k' (gd (decide (y≠0)) (f (.int k (k.wrap (x.tdiv y)))))
  | .rem=>kE k k' (gd (decide (y≠0)) (f (.int k (x.tmod y))))
  | .and=>kE k k' (f (.int k (gt k x y)))
  | .or=>kE k k' (f (.int k (iOr k x y)))
  | .xor=>kE k k' (f (.int k (kQ k x y)))
  | .eql=>kE k k' (f (.bool (x==y)))
  | .neq=>kE k k' (f (.bool (x !=y)))
  | .lss=>kE k k' (f (.bool (decide (x<y))))
  | .leq=>kE k k' (f (.bool (decide (x<=y))))
  | .gtr=>kE k k' (f (.bool (decide (y<x))))
  | .geq=>kE k k' (f (.bool (decide (y<=x))))
  | .shl=>gd (decide (0<=y)) (f (.int k (cW k x y)))
  | .shr=>gd (decide (0<=y)) (f (.int k (ff k x y)))
  |op=>ob (fp op (.int k x) (.int k' y)) f
 | .str x,.str y=>match op with
  | .eql=>f (.bool (x.toList==y.toList))
  | .neq=>f (.bool (!(x.toList==y.toList)))
  |op=>ob (fp op (.str x) (.str y)) f
 |_,_=>none
def unX (op:UnOp) (a:PV) (f:PV->Option R):Option R:=
 match op,a with
 | .neg,.int k n=>f (.int k (k.wrap (0-n)))
 | .xor,.int k n=>f (.int k (mH k n))
 | .not,.bool b=>f (.bool (!b))
 |_,_=>none
def ix (an:Tr) (s:St) (d:Option Nat) (v:PV) (k:St->Option R):Option R:=
 match d with
 |some d=>eD an s d v k
 |none=>k s
noncomputable def q5q (cf:CallF) (an:Tr) (s:St) (k:St->Option R) (d:Nat) (x:IX):Option R:=match evK s.env x with
  |some v=>eD an s d v k
  |none=>none
def kW (v:PV) (lo:Nat) (f:PV->PV->Option R):Option R:=(λ_:Nat=>
 match v with
  | .sl true 1 xs=>if lo<=xs.length then f (.sl false 1 xs) (.sl true 1 (xs.drop lo)) else none
  |_=>none) ee
noncomputable def q5r (cf:CallF) (an:Tr) (s:St) (k:St->Option R) (d:Nat) (n:Nat):Option R:=match fg s.env n with
  |some v=>dQ s.env n (degr v) λe=>dQ e d v λe=>k ⟨e,s.lh,s.gh⟩
  |none=>none
noncomputable def q5s (cf:CallF) (an:Tr) (s:St) (k:St->Option R) (d:Nat) (n lo:Nat):Option R:=match fg s.env n with
  |some v=>kW v lo λu v=>dQ s.env n u λe=>dQ e d v λe=>k ⟨e,s.lh,s.gh⟩
  |none=>none
noncomputable def q5t (cf:CallF) (an:Tr) (s:St) (k:St->Option R) (d:Nat) (c:IX) (x:IX) (y:IX):Option R:=match evX s.env c,evX s.env x,evX s.env y with
  |some c,some v,some w=>unB c λb=>br d b (eD an s d v k) (eD an s d w k)
  |_,_,_=>none
noncomputable def q2w (cf:CallF) (an:Tr) (s:St) (k:St->Option R) (d:Nat) (g:Bool) (x:IX):Option R:=tkX s.env x λv e=>arK v (gS (shX an x) v λcs=>jO ⟨e,s.lh,s.gh⟩ d g cs k)
noncomputable def q2x (cf:CallF) (an:Tr) (s:St) (k:St->Option R) (d:Nat) (g:Bool) (x:IX):Option R:=match evX s.env x with
  |some v=>arK v (gS (shX an x) v λcs=>jO s d g cs k)
  |none=>none
noncomputable def q5u (cf:CallF) (an:Tr) (s:St) (k:St->Option R) (d:Nat) (g:Bool) (z:PV):Option R:=arK z (jO s d g z.cells k)
noncomputable def q5v (cf:CallF) (an:Tr) (s:St) (k:St->Option R) (d:Nat) (z:List PV) (ps:List (Nat×Nat×IX)):Option R:=arL z (psX an s.env ps z λcs=>eZ s d (.agg cs) k)
noncomputable def q5w (cf:CallF) (an:Tr) (s:St) (k:St->Option R) (d:Nat) (z:List PV) (ps:List (Nat×Nat×IX)):Option R:=arL z (psT an s.env ps z λe cs=>dQ e d (.agg cs) λe=>k ⟨e,s.lh,s.gh⟩)
noncomputable def q5x (cf:CallF) (an:Tr) (s:St) (k:St->Option R) (d:Nat) (z:Nat) (els:List IX):Option R:=gR s.env els λvs=>slK z vs (eZ s d (.sl true z vs) k)
noncomputable def q5y (cf:CallF) (an:Tr) (s:St) (k:St->Option R) (d:Nat) (agg:Bool) (kk:Nat) (a:IX):Option R:=match evX s.env a with
  |some p=>ldX s.lh s.gh agg kk p λv=>eD an s d v k
  |none=>none
noncomputable def q5z (cf:CallF) (an:Tr) (s:St) (k:St->Option R) (d:Nat) (a:IX):Option R:=match evX s.env a with
  |some (.ptr false b off)=>match iu s.lh b with
   |some cs=>ob cs[off]? λv=>kU s.lh b (ar cs off [aa v]) λlh=>dQ s.env d v λe=>k ⟨e,lh,s.gh⟩
   |none=>none
  |some (.ptr true b off)=>ob (ao s.gh b) λcs=>ob cs[off]? λv=>dQ s.env d v λe=>k ⟨e,s.lh,s.gh.set b (.cells (ar cs off [aa v]))⟩
  |_=>none
noncomputable def q12 (cf:CallF) (an:Tr) (s:St) (k:St->Option R) (kk:Nat) (a:IX) (x:IX):Option R:=match evX s.env a with
  |some p=>tkX s.env x λv e=>arK v (gS (shX an x) v λcs=>kV ⟨e,s.lh,s.gh⟩ p kk cs k)
  |none=>none
noncomputable def q13 (cf:CallF) (an:Tr) (s:St) (k:St->Option R) (kk:Nat) (a:IX) (x:IX):Option R:=match evX s.env a,evX s.env x with
  |some p,some v=>arK v (gS (shX an x) v λcs=>kV s p kk cs k)
  |_,_=>none
noncomputable def q60 (cf:CallF) (an:Tr) (s:St) (k:St->Option R) (d:Nat) (x:IX):Option R:=match evX s.env x with
  |some p=>gd (rm p) (eD an s d p k)
  |none=>none
noncomputable def q61 (cf:CallF) (an:Tr) (s:St) (k:St->Option R) (d:Nat) (op:BinOp) (x:IX) (y:IX):Option R:=match evX s.env x,evX s.env y with
  |some a,some b=>mM op a b λv=>eD an s d v k
  |_,_=>none
noncomputable def q62 (cf:CallF) (an:Tr) (s:St) (k:St->Option R) (d:Nat) (neg:Bool) (x:IX):Option R:=match evX s.env x with
  |some v=>mJ v λb=>eZ s d (.bool (match neg with|true=> !b|false=>b)) k
  |none=>none
noncomputable def q63 (cf:CallF) (an:Tr) (s:St) (k:St->Option R) (d:Nat) (op:UnOp) (x:IX):Option R:=match evX s.env x with
  |some a=>unX op a λv=>eD an s d v k
  |none=>none
noncomputable def q64 (cf:CallF) (an:Tr) (s:St) (k:St->Option R) (d:Nat) (f:Nat) (caps:List IX):Option R:=gR s.env caps λvs=>dG vs (eZ s d (.fn f vs) k)
noncomputable def q65 (cf:CallF) (an:Tr) (s:St) (k:St->Option R) (d:Nat):Option R:=dQ s.env d (.mp s.gh.length) λe=>k ⟨e,s.lh,s.gh++[.map []]⟩
noncomputable def q66 (cf:CallF) (an:Tr) (s:St) (k:St->Option R) (d:Nat) (g:Bool) (z:Nat) (bytes:Nat) (zero:PV) (l:IX):Option R:=match evX s.env l with
  |some v=>jh v λn=>gd (iw n bytes z zero) (match g with
   |true=>dQ s.env d (.bs true s.gh.length 0 n.toNat z) λe=>k ⟨e,s.lh,s.gh++[.cells ((List.replicate n.toNat zero).flatMap PV.cells)]⟩
   |false=>gd (dU zero) (dQ s.env d (.sl true z (List.replicate n.toNat zero)) λe=>k ⟨e,s.lh,s.gh⟩))
  |none=>none
noncomputable def q67 (cf:CallF) (an:Tr) (s:St) (k:St->Option R) (d:Nat) (z:Nat) (x:IX) (lo:Option IX) (hi:Option IX):Option R:=match evX s.env x with
  |some v=>boX s.env lo λlo=>boX s.env hi λhi=>slX z v lo hi λw=>eD an s d w k
  |none=>none
noncomputable def q68 (cf:CallF) (an:Tr) (s:St) (k:St->Option R) (d:Nat) (x:IX) (off:Nat):Option R:=match evX s.env x with
  |some p=>faX p off λp=>eD an s d p k
  |none=>none
noncomputable def q69 (cf:CallF) (an:Tr) (s:St) (k:St->Option R) (d:Nat) (z:Nat) (arr:Option Nat) (x:IX) (i:IX):Option R:=match evX s.env i,evX s.env x with
  |some i,some v=>jh i λi=>idX z arr v i λp=>eD an s d p k
  |_,_=>none
noncomputable def q6a (cf:CallF) (an:Tr) (s:St) (k:St->Option R) (d:Nat) (z:Nat) (arr:Nat) (agg:Bool) (x:IX) (i:IX):Option R:=match evX s.env i,evX s.env x with
  |some i,some v=>jh i λi=>ixX v z arr agg i λv=>eD an s d v k
  |_,_=>none
noncomputable def q6b (cf:CallF) (an:Tr) (s:St) (k:St->Option R) (d:Nat) (kn:Nat) (m:IX) (kx:IX) (ok:Bool) (zero:PV):Option R:=match evX s.env m,evX s.env kx with
  |some m,some kv=>lkX s.gh kn m kv λr=>eD an s d (match ok with|true=> .tup [r.getD (degr zero),.bool r.isSome]|false=>r.getD (degr zero)) k
  |_,_=>none
noncomputable def q6c (cf:CallF) (an:Tr) (s:St) (k:St->Option R) (kn:Nat) (m:IX) (kx:IX) (x:IX):Option R:=match evX s.env m,evX s.env kx,evX s.env x with
  |some m,some kv,some v=>muX s.gh kn m kv v λgh=>k ⟨s.env,s.lh,gh⟩
  |_,_,_=>none
noncomputable def q6d (cf:CallF) (an:Tr) (s:St) (k:St->Option R) (d:Option Nat) (q:Bool) (f:Nat) (xs:List IX):Option R:=gR s.env xs λvs=>dG vs (callR s.gh q (cf f vs s.gh) λr gh=>ix an ⟨s.env,s.lh,gh⟩ d r k)
noncomputable def q6e (cf:CallF) (an:Tr) (s:St) (k:St->Option R) (d:Option Nat) (q:Bool) (fv:IX) (xs:List IX):Option R:=match evX s.env fv with
  |some fv=>gR s.env xs λvs=>fnY fv λf caps ap=>dG vs (dG caps (callR s.gh q (cf f (ap vs) s.gh) λr gh=>ix an ⟨s.env,s.lh,gh⟩ d r k))
  |none=>none
def ylC (cf:CallF) (gh:List GObj) (y:PV) (vs:List PV) (f:List GObj->Option R):Option R:=(λ_:Nat=>
 match y with
  | .yl b=>match gh[b]? with
   |some (.lrec 1 y caps)=>dG caps (dG vs (match cf y (caps++vs++[.yl b]) gh with
    |some (.bool true,gh')=>f gh'
    |_=>none))
   |_=>none
  |_=>none) ee
noncomputable def q6f (cf:CallF) (an:Tr) (s:St) (k:St->Option R) (d:Option Nat) (x:IX) (xs:List IX):Option R:=match evX s.env x with
  |some y=>gR s.env xs λvs=>ylC cf s.gh y vs λgh=>ix an ⟨s.env,s.lh,gh⟩ d (.bool true) k
  |none=>none
noncomputable def q23 (cf:CallF) (an:Tr) (s:St) (k:St->Option R) (d:Nat) (x:IX):Option R:=match evX s.env x with
  |some v=>bh v λn=>eZ s d (.int .i64 n) k
  |none=>none
noncomputable def q24 (cf:CallF) (an:Tr) (s:St) (k:St->Option R) (d:Nat) (x:IX):Option R:=match evX s.env x with
  |some v=>unS v λb=>eZ s d (.int .i64 b.size) k
  |none=>none
noncomputable def q25 (cf:CallF) (an:Tr) (s:St) (k:St->Option R) (d:Nat) (x:IX):Option R:=match evX s.env x with
  |some v=>jj s.gh v λn=>eZ s d (.int .i64 n) k
  |none=>none
noncomputable def q6g (cf:CallF) (an:Tr) (s:St) (k:St->Option R) (d:Nat) (z:Nat) (bytes:Nat) (sx:IX) (x:IX):Option R:=match evX s.env x with
  |some w=>tkX s.env sx λv e=>apX z bytes v w λys=>dQ e d (.sl true z ys) λe=>k ⟨e,s.lh,s.gh⟩
  |none=>none
noncomputable def q6h (cf:CallF) (an:Tr) (s:St) (k:St->Option R) (d:Nat) (x:IX) (i:Nat):Option R:=match evX s.env x with
  |some v=>exX v i λv=>eD an s d v k
  |none=>none
def skK (gh:List GObj) (v w:PV) (f:List GObj->Option R):Option R:=
 match v with
 | .pstk b gen i=>ob (mL gh b) λp=>gd (decide (p.1=gen/\i<p.2.length/\dU w=true)) (f (gh.set b (.stk p.1 (p.2.set i w))))
 |_=>none
def ckK (gh:List GObj) (v:PV) (f:List GObj->Option R):Option R:=
 match v with
 | .sub b gen off n=>ob (mL gh b) λp=>gd (decide (p.1=gen/\off+n<=p.2.length)) (f (gh.set b (.stk p.1 (p.2.take off++List.replicate n (.int .i64 0)++p.2.drop (off+n)))))
 |_=>none
def aeX (gh:List GObj) (bytes:Nat) (v w:PV) (f:List PV->Option R):Option R:=
 match v with
 | .sl o z1 xs=>ob (lQ gh w) λys=>gd (decide (o=true/\z1=1/\ys.all dU=true/\(xs.length+ys.length)*bytes<=maxBytes)) (f (xs++ys))
 |_=>none
noncomputable def kbX (gh gh':List GObj) (v:PV) (x:Option R):Option R:=
 open Classical in
 match v with
 | .ptr true b _=>if b<gh.length/\gh'[b]?=gh[b]? then x else none
 | .pstk b _ _=>if b<gh.length/\gh'[b]?=gh[b]? then x else none
 | .stk b _ _=>if b<gh.length/\gh'[b]?=gh[b]? then x else none
 | .sl _ _ _=>x
 |_=>none
noncomputable def kpX (e:List (Nat×PV)) (gh gh':List GObj):List Nat->Option R->Option R
 |[],x=>x
 |n::l,x=>match fg e n with
  |some v=>kbX gh gh' v (kpX e gh gh' l x)
  |none=>none
def lbX (gh:List GObj) (agg:Bool) (k:Nat) (p q:PV) (f:PV->Option R):Option R:=
 match p,q with
 | .ptr true b off,.ptr true b' _=>gd (decide (b=b')) (ob (ao gh b) λcs=>ob (aq agg k off cs) λv=>f (degr v))
 | .ep e off,.sl _ _ _=>ob (aq agg k off e.cells) f
 |_,_=>none
def lkbX (gh:List GObj) (p q:PV) (f:PV->Option R):Option R:=
 match p,q with
 | .pstk b gen i,.stk b' _ _=>gd (decide (b=b')) (ob (ox gh b gen i) f)
 |_,_=>none
def ltbX (gh:List GObj) (p q:PV) (o2:Nat) (f:PV->List GObj->Option R):Option R:=
 match p,q with
 | .ptr true b off,.ptr true b' o=>gd (decide (b=b'/\off=o+o2)) (ob (ao gh b) λcs=>ob cs[off]? λv=>f v (gh.set b (.cells (ar cs off [aa v]))))
 |_,_=>none
def rtP (c:List GObj->Option (PV×List GObj)) (gh:List GObj) (b off:Nat):Prop:=
 ∃g1 g2 r1 r2,kf gh b off true=some g1/\kf gh b off false=some g2/\c g1=some r1/\c g2=some r2/\r1.1=r2.1/\r1.2[b]?=g1[b]?/\r2.2[b]?=g2[b]?/\kf r1.2 b off false=some r2.2/\kf r2.2 b off true=some r1.2
noncomputable def rtK (c:List GObj->Option (PV×List GObj)) (gh:List GObj) (v:PV) (off:Nat) (x:Option R):Option R:=
 open Classical in
 match v with
 | .ptr true b o=>if rtP c gh b (o+off) then x else none
 |_=>none
noncomputable def q6i (cf:CallF) (an:Tr) (s:St) (k:St->Option R) (tk:Bool) (kk:Nat) (a x:IX) (ns:List Nat):Option R:=match tk with
  |true=>q12 cf an s (λs'=>kpX s.env s.gh s'.gh ns (k s')) kk a x
  |false=>q13 cf an s (λs'=>kpX s.env s.gh s'.gh ns (k s')) kk a x
noncomputable def opX (cf:CallF) (an:Tr) (s:St) (o:IOp) (k:St->Option R):Option R:=
 match o with
 | .mv d x=>q5q cf an s k d x
 | .tk d n=>q5r cf an s k d n
 | .tkS d n lo=>q5s cf an s k d n lo
 | .pick d c x y=>q5t cf an s k d c x y
 | .box d g true x=>q2w cf an s k d g x
 | .box d g false x=>q2x cf an s k d g x
 | .alloc d g z=>q5u cf an s k d g z
 | .build d z ps=>q5v cf an s k d z ps
 | .buildT d z ps=>q5w cf an s k d z ps
 | .buildSl d z els=>q5x cf an s k d z els
 | .load d agg kk a=>q5y cf an s k d agg kk a
 | .loadT d a=>q5z cf an s k d a
 | .store true kk a x=>q12 cf an s k kk a x
 | .store false kk a x=>q13 cf an s k kk a x
 | .nilc d x=>q60 cf an s k d x
 | .bin d op x y=>q61 cf an s k d op x y
 | .eqn d neg x=>q62 cf an s k d neg x
 | .un d op x=>q63 cf an s k d op x
 | .mkfn d f caps=>q64 cf an s k d f caps
 | .mkmap d=>q65 cf an s k d
 | .mksl d g z bytes zero l=>q66 cf an s k d g z bytes zero l
 | .slice d z x lo hi=>q67 cf an s k d z x lo hi
 | .faddr d x off=>q68 cf an s k d x off
 | .iaddr d z arr x i=>q69 cf an s k d z arr x i
 | .index d z arr agg x i=>q6a cf an s k d z arr agg x i
 | .lookup d kn m kx ok zero=>q6b cf an s k d kn m kx ok zero
 | .mupd kn m kx x=>q6c cf an s k kn m kx x
 | .call d q f xs=>q6d cf an s k d q f xs
 | .callv d q fv xs=>q6e cf an s k d q fv xs
 | .cally d x xs=>q6f cf an s k d x xs
 | .len d 0 x=>q23 cf an s k d x
 | .len d 1 x=>q24 cf an s k d x
 | .len d 2 x=>q25 cf an s k d x
 | .len _ _ _=>none
 | .append d z bytes sx x=>q6g cf an s k d z bytes sx x
 | .extract d x i=>q6h cf an s k d x i
 | .storeP tk kk a x ns=>q6i cf an s k tk kk a x ns
 |_=>none
def skX (s:St) (o:IOp) (k:St->Option R):Option R:=
 match ba o with
 |some d=>eZ s d .und k
 |none=>k s
noncomputable def fC (cf:CallF) (an:Tr):List IOpG->St->(St->Option R)->Option R
 |[],s,k=>k s
 |⟨o,none⟩::l,s,k=>opX cf an s o λs=>fC cf an l s k
 | ⟨o,some (g,want)⟩::l,s,k=>match fg s.env g with
  | some (.bool b)=>br g b
    (eZ s g (.bool true) λs=>match want with
     |true=>opX cf an s o λs=>fC cf an l s k
     |false=>skX s o λs=>fC cf an l s k)
    (eZ s g (.bool false) λs=>match want with
     |false=>opX cf an s o λs=>fC cf an l s k
     |true=>skX s o λs=>fC cf an l s k)
  |some .und=>skX s o λs=>fC cf an l s k
  |_=>none
def fh (nl:Nat):List Nat->List (Nat×PV)->(List (Nat×PV)->Option R)->Option R
 |[],_,f=>f []
 |t::l,e,f=>match fg e t with
  |some v=>stK nl v (fh nl l e λe'=>f ((t,v)::e'))
  |none=>fh nl l e f
def po (ks:List Nat) (nl:Nat) (e:ag) (s:St) (k:ag->St->Option R):Option R:=
 match e with
 | .normal=>fh nl ks s.env λe=>ji nl s.lh λlh=>k .normal ⟨e,lh,s.gh⟩
 |e=>k e s
def lfK (ks:List Nat) (n:Nat) (e:ag) (s:St) (k:ag->St->Option R):Option R:=
 match e with
 | .normal=>match fg s.env n with
  |some (.ptr false b 0)=>match iu s.lh b with
   |some cs=>gb (Nat.beq (b+1) s.lh.length) (fh b ks s.env λe=>dQ e n (.ptr true s.gh.length 0) λe=>ji b s.lh λlh=>k .normal ⟨e,lh,s.gh++[.cells cs]⟩)
   |none=>none
  |_=>none
 |e=>k e s
def yA:IX->Nat
 | .t n=>n
 |_=>0
noncomputable def eE (pg:Prg) (an:Tr):ICode->St->(ag->St->Option R)->Option R
 | .skip,s,k=>k .normal s
 | .region ops _,s,k=>fC (af pg) an ops s (k .normal)
 | .seq a b,s,k=>eE pg an a s λe s'=>nx e s' k λs'=>eE pg an b s' k
 | .cond x a b,s,k=>match evX s.env x with
  |some v=>unB v λc=>br (yA x) c (eE pg an a s k) (eE pg an b s k)
  |none=>none
 | .block id a,s,k=>eE pg an a s λe s'=>bk id e s' k
 | .loop a,s,k=>kR (ac pg (.loop a) s) k
 | .exit i,s,k=>k (.exit i) s
 | .ret,s,k=>k .ret s
 | .post a ks nl,s,k=>eE pg an a s λe s'=>po ks nl e s' k
 | .lift a ks t,s,k=>eE pg an a s λe s'=>lfK ks t e s' k
 | .cut a,s,k=>kR (ac pg a s) k
 | .rangeF g y ks,s,k=>kR (ac pg (.rangeF g y ks) s) k
 | .bad,_,_=>none
end
def aI (k:Nat) (h:Sh):Tr->Tr
 | .nil=> .node k h .nil .nil
 | .node n g l r=>match Nat.ble n k with
  |true=> .node n g l (aI k h r)
  |false=> .node n g (aI k h l) r
def aT:Nat->Ce
 |0=> .int .i64
 |1=> .bool
 |2=> .one
 |_=> .gp
def aK:List Nat->Tr->Tr
 |[],t=>t
 |x::l,t=>aK l (aI (Nat.div x 4) (.ce (aT (Nat.mod x 4))) t)
def aO:List (Nat×Sh)->Tr->Tr
 |[],t=>t
 |(k,h)::l,t=>aO l (aI k h t)
def aN (l:List Nat) (o:List (Nat×Sh)):Tr:=aO o (aK l .nil)
abbrev DR:=Option (ag×St)
abbrev tI (k:Nat) (l r:Tr):Tr:= .node k (.ce (.int .i64)) l r
abbrev tB (k:Nat) (l r:Tr):Tr:= .node k (.ce (.bool)) l r
abbrev tO (k:Nat) (l r:Tr):Tr:= .node k (.ce (.one)) l r
abbrev tG (k:Nat) (l r:Tr):Tr:= .node k (.ce (.gp)) l r
abbrev uI (k:Nat):Tr:= .node k (.ce (.int .i64)) .nil .nil
abbrev uB (k:Nat):Tr:= .node k (.ce (.bool)) .nil .nil
abbrev uO (k:Nat):Tr:= .node k (.ce (.one)) .nil .nil
abbrev uG (k:Nat):Tr:= .node k (.ce (.gp)) .nil .nil
abbrev RT (a:List (Nat×PV)) (b:List (List PV)) (g:List GObj):DR:=some (.ret,⟨a,b,g⟩)
abbrev NM (a:List (Nat×PV)) (b:List (List PV)) (g:List GObj):DR:=some (.normal,⟨a,b,g⟩)
abbrev EX (i:Nat) (a:List (Nat×PV)) (b:List (List PV)) (g:List GObj):DR:=some ((.exit i),⟨a,b,g⟩)
abbrev FS (e:ag) (s:St):DR:=some (e,s)
end Go.Lw