/-
  The texts that the proof stands on, part 2.
-/
import Derived.Test.YtmodipglnngghadGreatDoorRestModelsA
set_option linter.unusedVariables false
set_option linter.unusedSimpArgs false
set_option linter.unnecessarySimpa false

set_option maxRecDepth 100000
set_option maxHeartbeats 4000000
namespace Go.Lw
open Go
def kT:List Int:=[0,1,2,3,4,5,-1,8,6,7,21,9,1000000,10,20,16,12,1000,19,40,23,13,15,18,200000,11,14,17,22,800000,200,41,80,255]
def bT:List BinOp:=[.add,.eql,.lss,.neq,.sub,.gtr,.geq,.mul,.quo,.leq,.rem,.shl,.shr,.and,.xor,.or]
def uT:List UnOp:=[.not,.neg,.xor]
def kD:List IntKind:=[.i64,.u8,.u32,.i32,.u64]
def nT:List PV:=[.nilp,.nilm,.nilf,.nils,.nilI,.someI,.und]
section
variable {α β:Type}
def dS (d n:Nat) (k:Nat->Nat->α):α:=
 if n%23<10 then k (d-n%23) (n/23) else if n%23<20 then k (n%23-10) (n/23) else k (n/23%512) (n/11776)
def bN (n:Nat) (k:Nat->Nat->α):α:=
 match n%3 with
 |0=>k (n/3%8) (n/24)
 |1=>k (n/3%128) (n/384)
 |_=>k (n/3%18446744073709551616) (n/55340232221128654848)
def bB (n:Nat) (k:Bool->Nat->α):α:=if n%2=1 then k true (n/2) else k false (n/2)
def bG (r n:Nat) (k:Nat->Nat->α):α:=k (n%r) (n/r)
def dL (f:Nat->β×Nat):Nat->Nat->List β×Nat
 |0,n=>([],n)
 | m+1,n=>match f n with
  |(x,n)=>match dL f m n with
   |(l,n)=>(x::l,n)
def bLn (f:Nat->β×Nat) (m n:Nat) (k:List β->Nat->α):α:=match dL f m n with
 |(l,n)=>k l n
def bL (f:Nat->β×Nat) (n:Nat) (k:List β->Nat->α):α:=bLn f (n%16) (n/16) k
def dP (s:Nat->PV):Nat->Nat->PV×Nat
 |0,n=>(.und,n)
 |m+1,n=>match n%9 with
  |0=>(.int .i64 (kT.getD (n/9%34) 0),n/306)
  |1=>(.bool false,n/9)
  |2=>(.bool true,n/9)
  |3=>(.sl true (n/9%8) [],n/72)
  |4=>bLn (dP s m) (n/9%20) (n/180) λl n=>(.agg l,n)
  |5=>(nT.getD (n/9%7) .und,n/63)
  |6=>bN (n/9) λi n=>(s i,n)
  |_=>bG 5 (n/9) λd n=>bN n λx n=>(.int (kD.getD d .i64) x,n)
variable (s:Nat->PV)
def bP (n:Nat) (k:PV->Nat->α):α:=match dP s 4 n with
 |(v,n)=>k v n
def bX (d n:Nat) (k:IX->Nat->α):α:=
 if n%23<21 then dS d n λt n=>k (.t t) n else if n%23=21 then bP s (n/23) λv n=>k (.c v) n else k (.f (n/23%512)) (n/11776)
def bXs (d n:Nat) (k:List IX->Nat->α):α:=bL (λn=>bX s d n λx n=>(x,n)) n k
def bY (d n:Nat) (k:Option IX->Nat->α):α:=if n%2=1 then bX s d (n/2) λx n=>k (some x) n else k none (n/2)
def bD (p n:Nat) (k:Nat->Nat->α):α:=if n%2=1 then k (p+1) (n/2) else k (n/2%512) (n/1024)
def bO (p n:Nat) (k:Option Nat->Nat->Nat->α):α:=if n%2=1 then bD p (n/2) λd n=>k (some d) d n else k none p (n/2)
end
def oZ (s:Nat->PV) (c d n:Nat):IOp×Nat:=
 match c with
 |0=>bX s d n λx n=>(.mv d x,n)
 |1=>bB n λg n=>bN n λk n=>bX s d n λx n=>(.load d g k x,n)
 |2=>bG 16 n λb n=>bX s d n λx n=>bX s d n λy n=>(.bin d (bT.getD b .add) x y,n)
 |3=>bX s d n λx n=>bN n λk n=>(.faddr d x k,n)
 |5=>bN n λz n=>bB n λg n=>if g then bN n λa n=>bX s d n λx n=>bX s d n λy n=>(.iaddr d z (some a) x y,n) else bX s d n λx n=>bX s d n λy n=>(.iaddr d z none x y,n)
 |6=>bX s d n λx n=>bX s d n λy n=>bX s d n λz n=>(.pick d x y z,n)
 |7=>bN n λk n=>bX s d n λx n=>(.len d k x,n)
 |9=>bX s d n λx n=>bN n λk n=>(.extract d x k,n)
 |10=>dS d n λs n=>(.tk d s,n)
 |11=>bX s d n λx n=>(.nilc d x,n)
 |12=>bB n λg n=>bB n λt n=>bX s d n λx n=>(.box d g t x,n)
 |13=>bN n λz n=>bXs s d n λl n=>(.buildSl d z l,n)
 |14=>bG 3 n λu n=>bX s d n λx n=>(.un d (uT.getD u .not) x,n)
 |15=>bB n λg n=>bP s n λv n=>(.alloc d g v,n)
 |16=>bN n λz n=>bN n λb n=>bX s d n λx n=>bX s d n λy n=>(.append d z b x y,n)
 |17=>bL (dP s 4) n λz n=>bL (λn=>bN n λa n=>bN n λb n=>bX s d n λx n=>((a,b,x),n)) n λl n=>(.build d z l,n)
 |20=>bX s d n λx n=>(.loadK d x,n)
 |21=>bL (dP s 4) n λz n=>bL (λn=>bN n λa n=>bN n λb n=>bX s d n λx n=>((a,b,x),n)) n λl n=>(.buildT d z l,n)
 |22=>bN n λz n=>bX s d n λx n=>bY s d n λl n=>bY s d n λh n=>(.slice d z x l h,n)
 |23=>bX s d n λx n=>(.loadT d x,n)
 |24=>bN n λz n=>bX s d n λx n=>bX s d n λy n=>bB n λo n=>bP s n λv n=>(.lookup d z x y o v,n)
 |25=>bG 512 n λf n=>bXs s d n λl n=>(.mkfn d f l,n)
 |27=>(.mkmap d,n)
 |28=>bB n λg n=>bN n λz n=>bN n λb n=>bP s n λv n=>bX s d n λx n=>(.mksl d g z b v x,n)
 |29=>bX s d n λx n=>(.loadL d x,n)
 |30=>bN n λb n=>bX s d n λx n=>bX s d n λy n=>(.appendN d b x y,n)
 |31=>bX s d n λx n=>bX s d n λy n=>(.indexS d x y,n)
 |34=>bX s d n λx n=>bN n λb n=>(.loadKB d x b,n)
 |35=>bB n λg n=>bN n λk n=>bX s d n λx n=>bN n λb n=>(.loadB d g k x b,n)
 |36=>bX s d n λx n=>bN n λb n=>bN n λo n=>(.loadTB d x b o,n)
 |38=>bB n λg n=>bN n λk n=>bX s d n λx n=>(.loadJ d g k x,n)
 |39=>bG 512 n λf n=>bXs s d n λl n=>(.mkbf d f l,n)
 |40=>bXs s d n λl n=>(.maxi d l,n)
 |41=>bX s d n λx n=>bY s d n λl n=>bY s d n λh n=>(.sliceS d x l h,n)
 |42=>bB n λg n=>bL (λn=>bB n λb n=>(b,n)) n λl n=>bX s d n λx n=>bX s d n λy n=>(.eqa d g l x y,n)
 |43=>bB n λg n=>bX s d n λx n=>bX s d n λy n=>(.eqb d g x y,n)
 |44=>bB n λg n=>bX s d n λx n=>(.eqn d g x,n)
 |45=>bN n λb n=>bX s d n λx n=>bX s d n λy n=>bL (λn=>bN n λa n=>(a,n)) n λl n=>(.appendP d b x y l,n)
 |47=>bB n λg n=>bN n λk n=>bN n λo n=>bX s d n λx n=>(.field d g k o x,n)
 |48=>bN n λz n=>bN n λb n=>bP s n λv n=>bX s d n λx n=>(.mkarr d z b v x,n)
 |49=>bXs s d n λl n=>(.buildSlK d l,n)
 |_=>bN n λz n=>bN n λa n=>bB n λg n=>bX s d n λx n=>bX s d n λy n=>(.index d z a g x y,n)
def dO (s:Nat->PV) (p n c:Nat):IOp×Nat×Nat:=
 match c with
 |8=>bB n λt n=>bN n λk n=>bX s p n λx n=>bX s p n λy n=>(.store t k x y,p,n)
 |18=>bN n λk n=>bX s p n λx n=>bX s p n λy n=>bX s p n λz n=>(.mupd k x y z,p,n)
 |33=>bX s p n λx n=>bX s p n λy n=>(.storeK x y,p,n)
 |4=>bO p n λo d n=>bB n λq n=>bG 512 n λf n=>bXs s d n λl n=>(.call o q f l,d,n)
 |26=>bO p n λo d n=>bB n λq n=>bX s d n λf n=>bXs s d n λl n=>(.callv o q f l,d,n)
 |32=>bO p n λo d n=>bG 512 n λf n=>bXs s d n λl n=>bL (λn=>bN n λa n=>(a,n)) n λs n=>(.callP o f l s,d,n)
 |37=>bO p n λo d n=>bG 512 n λf n=>bXs s d n λl n=>bN n λa n=>bN n λb n=>(.callR o f l a b,d,n)
 |46=>bO p n λo d n=>bG 512 n λf n=>bXs s d n λl n=>(.callF o f l,d,n)
 |_=>bD p n λd n=>match oZ s c d n with
  |(o,n)=>(o,d,n)
def dO' (s:Nat->PV) (p n:Nat):IOp×Nat×Nat:=if n%20<19 then dO s p (n/20) (n%20) else dO s p (n/640) (20+n/20%32)
def dR (s:Nat->PV):Nat->Nat->Nat->List IOpG×Nat×Nat
 |0,p,n=>([],p,n)
 | m+1,p,n=>match dO' s p (n/3) with
  | (o,p,q)=>match n%3 with
   |0=>match dR s m p q with
    |(l,p,n)=>(⟨o,none⟩::l,p,n)
   |1=>dS p q λt n=>match dR s m p n with
    |(l,p,n)=>(⟨o,some (t,false)⟩::l,p,n)
   |_=>dS p q λt n=>match dR s m p n with
    |(l,p,n)=>(⟨o,some (t,true)⟩::l,p,n)
def dF:List Nat->Nat->List Nat×Nat
 |[],n=>([],n)
 |x::l,n=>match dF l (n/2) with
  |(m,q)=>if n%2=1 then (x::m,q) else (m,q)
def wq (x:Nat):List Nat->List Nat
 |[]=>[x]
 |y::l=>if x<y then x::y::l else y::wq x l
def NU:List Nat->List Nat->List Nat
 |[],m=>m
 |x::l,m=>NU l (wq x m)
def dC (r:List ICode) (s:Nat->PV):Nat->Nat->List Nat->Nat->ICode×Nat×List Nat×Nat
 |0,p,ks,n=>(.bad,p,ks,n)
 | m+1,p,ks,n=>match n%11 with
  |0=>(.skip,p,ks,n/11)
  |1=>bB (n/11) λd n=>bN n λk n=>match dR s k p n with
   |(l,p,n)=>(.region l d,p,ks,n)
  | 2=>match dC r s m p ks (n/11) with
   |(a,p,ks,n)=>match dC r s m p ks n with
    |(b,p,ks,n)=>(.seq a b,p,ks,n)
  | 3=>bX s p (n/11) λx n=>match dC r s m p ks n with
   |(a,p,ks,n)=>match dC r s m p ks n with
    |(b,p,ks,n)=>(.cond x a b,p,ks,n)
  |4=>bN (n/11) λi n=>match dC r s m p ks n with
   |(a,p,ks,n)=>(.block i a,p,ks,n)
  |5=>match dC r s m p ks (n/11) with
   |(a,p,ks,n)=>(.loop a,p,ks,n)
  |6=>bN (n/11) λi n=>(.exit i,p,ks,n)
  |7=>(.ret,p,ks,n/11)
  | 8=>match dC r s m p ks (n/11) with
   |(a,p,ks,n)=>match dF ks n with
    |(l,n)=>bL (λn=>dS p n λt n=>(t,n)) n λs n=>bN n λnl n=>(.post a (NU s l) nl,p,NU s l,n)
  |9=>match dC r s m p ks (n/11) with
   |(a,p,ks,n)=>(.cut a,p,ks,n)
  |_=>(r.getD (n/11%8) .bad,p,ks,n/88)
theorem io0:Int.ofNat 0=0:=rfl
theorem io1:Int.ofNat 1=1:=rfl
theorem io2 (n:Nat):Int.ofNat (OfNat.ofNat n)=(OfNat.ofNat n:Int):=rfl
theorem io3:Int.negSucc 0= -1:=rfl
@[simp] def pk (N : Nat) {c : ICode} (_ : (dC [] (λ_ => .und) 99 0 [] N).1 = c := by intros; conv => lhs; reduce; try simp only [io0, io1, io2, io3]) : ICode := c
@[simp] def pk1 (N : Nat) (a : ICode) {c : ICode -> ICode} (_ : ∀ a, (dC [a] (λ_ => .und) 99 0 [] N).1 = c a := by intros; conv => lhs; reduce; try simp only [io0, io1, io2, io3]) : ICode := c a
@[simp] def pk2 (N : Nat) (a b : ICode) {c : ICode -> ICode -> ICode} (_ : ∀ a b, (dC [a, b] (λ_ => .und) 99 0 [] N).1 = c a b := by intros; conv => lhs; reduce; try simp only [io0, io1, io2, io3]) : ICode := c a b
@[simp] def pk3 (N : Nat) (a b d : ICode) {c : ICode -> ICode -> ICode -> ICode} (_ : ∀ a b d, (dC [a, b, d] (λ_ => .und) 99 0 [] N).1 = c a b d := by intros; conv => lhs; reduce; try simp only [io0, io1, io2, io3]) : ICode := c a b d
@[simp] def pk5 (N : Nat) (a b d e f : ICode) {c : ICode -> ICode -> ICode -> ICode -> ICode -> ICode} (_ : ∀ a b d e f, (dC [a, b, d, e, f] (λ_ => .und) 99 0 [] N).1 = c a b d e f := by intros; conv => lhs; reduce; try simp only [io0, io1, io2, io3]) : ICode := c a b d e f
def sT:Nat->PV
 |0=> .str ⟨#[115,116,97,114,116,32,48,10,105,110,10,105,110,10]⟩
 |1=> .str ⟨#[105,110,105,116]⟩
 |2=> .str ⟨#[110,101,120,116]⟩
 |3=> .str ⟨#[98,97,100]⟩
 |4=> .str ⟨#[104,111,108,100]⟩
 |5=> .str ByteArray.empty
 |6=> .str ⟨#[32]⟩
 |7=> .str ⟨#[10]⟩
 |8=> .str ⟨#[105,110]⟩
 |9=> .str ⟨#[115,116,97,114,116]⟩
 |_=> .und
@[simp] theorem sT_0 : sT 0 = .str ⟨#[115, 116, 97, 114, 116, 32, 48, 10, 105, 110, 10, 105, 110, 10]⟩ := (rfl)
@[simp] theorem sT_1 : sT 1 = .str ⟨#[105, 110, 105, 116]⟩ := (rfl)
@[simp] theorem sT_2 : sT 2 = .str ⟨#[110, 101, 120, 116]⟩ := (rfl)
@[simp] theorem sT_3 : sT 3 = .str ⟨#[98, 97, 100]⟩ := (rfl)
@[simp] theorem sT_4 : sT 4 = .str ⟨#[104, 111, 108, 100]⟩ := (rfl)
@[simp] theorem sT_5 : sT 5 = .str ByteArray.empty := (rfl)
@[simp] theorem sT_6 : sT 6 = .str ⟨#[32]⟩ := (rfl)
@[simp] theorem sT_7 : sT 7 = .str ⟨#[10]⟩ := (rfl)
@[simp] theorem sT_8 : sT 8 = .str ⟨#[105, 110]⟩ := (rfl)
@[simp] theorem sT_9 : sT 9 = .str ⟨#[115, 116, 97, 114, 116]⟩ := (rfl)
@[simp] def pt (N : Nat) {c : (Nat -> PV) -> ICode} (_ : ∀ s, (dC [] s 99 0 [] N).1 = c s := by intros; conv => lhs; reduce; try simp only [io0, io1, io2, io3]) : ICode := c sT
@[simp] def pt1 (N : Nat) (a : ICode) {c : ICode -> (Nat -> PV) -> ICode} (_ : ∀ a s, (dC [a] s 99 0 [] N).1 = c a s := by intros; conv => lhs; reduce; try simp only [io0, io1, io2, io3]) : ICode := c a sT
@[simp] def pt2 (N : Nat) (a b : ICode) {c : ICode -> ICode -> (Nat -> PV) -> ICode} (_ : ∀ a b s, (dC [a, b] s 99 0 [] N).1 = c a b s := by intros; conv => lhs; reduce; try simp only [io0, io1, io2, io3]) : ICode := c a b sT
@[simp] def pt3 (N : Nat) (a b d : ICode) {c : ICode -> ICode -> ICode -> (Nat -> PV) -> ICode} (_ : ∀ a b d s, (dC [a, b, d] s 99 0 [] N).1 = c a b d s := by intros; conv => lhs; reduce; try simp only [io0, io1, io2, io3]) : ICode := c a b d sT
section
open Classical
variable {cf cf':CallF} {d:Option Nat} {f:Nat} {vs:fw} {o:IOp}
def Le (c a:CallF):Prop:=∀f vs b r,c f vs b=some r->a f vs b=some r
theorem mo (h:Le cf cf') {s c:St} {q:Bool} (a:dN cf s d q f vs=some c) :
  dN cf' s d q f vs=some c:=by
 unfold dN at *;split at a
 ·rename_i ha
  rw[if_pos ha];cases b:cf f vs s.gh with
  |none=>simp[b] at a
  |some r=>rw[h _ _ _ _ b];rw[b] at a;exact a
 ·cases a
theorem Dq (h:Le cf cf') {s c:St} (a:jC cf s d f vs=some c) :
  jC cf' s d f vs=some c:=by
 unfold jC at *;split at a
 ·rename_i ha
  rw[if_pos ha];cases b:cf f vs [] with
  |none=>simp[b] at a
  |some r=>rw[h _ _ _ _ b];rw[b] at a;exact a
 ·cases a
theorem QW (h:Le cf cf') {s e:St} (a:qh cf s d f vs=some e) :
  qh cf' s d f vs=some e:=by
 unfold qh at *;simp only[aC] at *;obtain⟨c,g,a⟩:=a;refine⟨c,g,?_⟩;split at a
 ·rename_i ha
  rw[if_pos ha];cases b:cf f c [] with
  |none=>simp[b] at a
  |some r=>rw[h _ _ _ _ b];rw[b] at a;exact a
 ·cases a
theorem Dr (h:Le cf cf') {s c:St} {b a:Nat} (j:fV cf s d f vs b a=some c) :
  fV cf' s d f vs b a=some c:=by
 unfold fV at *;simp only[aC] at *;obtain⟨e,p,r,o,q,n,i,m,g,l,k⟩:=j;exact⟨e,mo h p,r,o,q,n,i,h _ _ _ _ m,g,h _ _ _ _ l,k⟩
theorem pP (h:Le cf cf') {s g:St} (c:ae cf s o=some g):ae cf' s o=some g:=by
 cases o with
 |call d q f e=>
  simp only[ae,aC] at *;obtain⟨vs,b,a⟩:=c;exact⟨vs,b,mo h a⟩
 | callv d q l e=>
  simp only[ae] at *;split at c
  ·simp only[aC] at *
   obtain⟨vs,b,a⟩:=c;exact⟨vs,b,mo h a⟩
  ·simp only[aC] at *
   obtain⟨vs,b,a⟩:=c;exact⟨vs,b,mo h a⟩
  ·cases c
 |callP d f e m=>
  simp only[ae,aC] at *;obtain⟨vs,b,i,a,k⟩:=c;exact⟨vs,b,i,mo h a,k⟩
 |callR d f e n j=>
  simp only[ae,aC] at *;obtain⟨vs,b,a⟩:=c;refine⟨vs,b,?_⟩;split at a
  ·exact Dr h a
  ·cases a
 |callF d f e=>
  simp only[ae,aC] at *;obtain⟨vs,b,a⟩:=c;exact⟨vs,b,Dq h a⟩
 | callE d l e=>
  simp only[ae] at *;split at c
  ·simp only[aC] at *
   obtain⟨vs,b,a⟩:=c;exact⟨vs,b,QW h a⟩
  ·cases c
 |_=>exact c
theorem lB {i b:CallF} (h:Le i b):∀{l:List IOpG} {s c:St},dt i l s=some c->dt b l s=some c
 |[],s,c,a=>a
 | o ::l,s,c,a=>by
  simp only[dt] at *;split at a
  ·simp only[aC] at *
   obtain⟨d,g,f⟩:=a;exact⟨d,pP h g,lB h f⟩
  ·split at a
   ·split at a
    ·rename_i e
     simp only[e,if_true,aC] at *;obtain⟨d,g,f⟩:=a;exact⟨d,pP h g,lB h f⟩
    ·rename_i e
     rw[if_neg e];exact lB h a
   ·exact lB h a
   ·cases a
theorem lC {b a:ICode->St->gq} {pg:Prg} (h:∀c s r,b c s=some r->a c s=some r):Le (du b pg) (du a pg):=by
 intro f vs m r d;unfold du at *;cases e:pg f with
 |none=>simp[e] at d
 | some l=>
  cases l with
  |lib F=>simp only[e] at *;exact d
  | code n=>
   simp only[e] at *;split at d
   ·rename_i i
    rw[if_pos i];simp only[aC] at *;obtain⟨g,k,j⟩:=d;exact⟨g,h _ _ _ k,j⟩
   ·cases d
theorem Ds (pg:Prg):∀(n:Nat) (c:ICode) (s:St) (r:IExit×St),bf pg n c s=some r->bf pg (n+1) c s=some r:=by
 intro n
 induction n with
 |zero=>intro c s r h;simp[bf] at h
 | succ n f=>
  intro c s r h;cases c with
  |skip=>simpa [bf] using h
  |region j d=>
   simp only[bf,aE] at *;obtain⟨g,m,l⟩:=h;exact⟨g,lB (lC f) m,l⟩
  | seq a b=>
   rw[bf] at h ⊢;cases ha:bf pg n a s with
   |none=>simp[ha] at h
   |some x=>
    rw[f _ _ _ ha];rw[ha] at h;obtain⟨e,g⟩:=x;cases e<;>simp only at * <;>first|exact f _ _ _ h|exact h
  |cond x a b=>
   rw[bf] at h ⊢;split at h
   ·exact f _ _ _ h
   ·exact f _ _ _ h
   ·cases h
  |block p a=>
   rw[bf] at h ⊢;cases ha:bf pg n a s with
   |none=>simp[ha] at h
   |some x=>rw[f _ _ _ ha];rw[ha] at h;exact h
  | loop a=>
   rw[bf] at h ⊢;cases ha:bf pg n a s with
   |none=>simp[ha] at h
   |some x=>
    rw[f _ _ _ ha];rw[ha] at h;obtain⟨e,g⟩:=x;cases e<;>simp only at * <;>first|exact f _ _ _ h|exact h
  |exit i=>simpa [bf] using h
  |ret=>simpa [bf] using h
  |post a k o=>
   rw[bf] at h ⊢;cases ha:bf pg n a s with
   |none=>simp[ha] at h
   |some x=>rw[f _ _ _ ha];rw[ha] at h;exact h
  |lift a k t=>
   rw[bf] at h ⊢;cases ha:bf pg n a s with
   |none=>simp[ha] at h
   |some x=>rw[f _ _ _ ha];rw[ha] at h;exact h
  |cut a=>rw[bf] at h ⊢;exact f _ _ _ h
  |bad=>simp[bf] at h
theorem fH (pg:Prg) {n m:Nat} (h:n<=m) {c:ICode} {s:St} {r:IExit×St} (hr:bf pg n c s=some r):bf pg m c s=some r:=by
 induction h with
 |refl=>exact hr
 |step _ a=>exact Ds pg _ _ _ _ a
noncomputable def bm (pg:Prg) (c:ICode) (s:St):gq:=
 if h:∃r n,bf pg n c s=some r then some h.choose else none
theorem dQ (pg:Prg) (c:ICode) (s:St) (r:IExit×St):bm pg c s=some r↔∃n,bf pg n c s=some r:=by
 unfold bm;constructor
 ·intro h
  split at h
  ·rename_i a
   obtain⟨n,hn⟩:=a.choose_spec;cases h;exact⟨n,hn⟩
  ·cases h
 ·rintro⟨n,hn⟩
  have a:∃r n,bf pg n c s=some r:=⟨r,n,hn⟩
  rw[dif_pos a];obtain⟨m,d⟩:=a.choose_spec;have e:=fH pg (Nat.le_max_left n m) hn;have b:=fH pg (Nat.le_max_right n m) d;rw[e] at b;exact b.symm
noncomputable def ac (pg:Prg):CallF:=du (bm pg) pg
theorem wu (pg:Prg) (n:Nat):Le (du (bf pg n) pg) (ac pg):=
 lC λc s r h=>(dQ pg c s r).2 ⟨n,h⟩
theorem nM (pg:Prg) {b:fB} {r:PV×fB} (h:ac pg f vs b=some r) :
  ∃n,du (bf pg n) pg f vs b=some r:=by
 unfold ac du at h;cases a:pg f with
 |none=>simp[a] at h
 | some g=>
  cases g with
  |lib F=>exact⟨0,by unfold du;simp only[a] at h ⊢;exact h⟩
  | code j=>
   simp only[a] at h;split at h
   ·rename_i c
    simp only[aC] at h;obtain⟨i,e,d⟩:=h;obtain⟨n,hn⟩:=(dQ _ _ _ _).1 e;refine⟨n,?_⟩;unfold du;simp only[a,if_pos c,hn,cJ,d]
   ·cases h
theorem Dt (pg:Prg) {s j:St} (h:ae (ac pg) s o=some j):∃n,ae (du (bf pg n) pg) s o=some j:=by
 have i:∀d q f vs j,dN (ac pg) s d q f vs=some j->∃n,dN (du (bf pg n) pg) s d q f vs=some j:=by
  intro d q f vs j e;unfold dN at e;split at e
  ·rename_i ha
   cases a:ac pg f vs s.gh with
   |none=>simp[a] at e
   |some r=>
    obtain⟨n,hn⟩:=nM pg a;refine⟨n,?_⟩;unfold dN;rw[if_pos ha,hn];rw[a] at e;exact e
  ·cases e
 have k:∀d q f vs,dN (ac pg) s d q f vs=some j->∃n,dN (du (bf pg n) pg) s d q f vs=some j:=λd q f vs=>i d q f vs j
 cases o with
 |call d q f l=>
  simp only[ae,aC] at *;obtain⟨vs,g,a⟩:=h;obtain⟨n,hn⟩:=k _ _ _ _ a;exact⟨n,vs,g,hn⟩
 | callv d q T l=>
  simp only[ae] at *;split at h
  ·simp only[aC] at *
   obtain⟨vs,g,a⟩:=h;obtain⟨n,hn⟩:=k _ _ _ _ a;exact⟨n,vs,g,hn⟩
  ·simp only[aC] at *
   obtain⟨vs,g,a⟩:=h;obtain⟨n,hn⟩:=k _ _ _ _ a;exact⟨n,vs,g,hn⟩
  ·cases h
 |callP d f l X=>
  simp only[ae,aC] at *;obtain⟨vs,g,v,a,I⟩:=h;obtain⟨n,hn⟩:=i _ _ _ _ _ a;exact⟨n,vs,g,v,hn,I⟩
 | callR d f l t U=>
  simp only[ae,aC] at *;obtain⟨vs,g,a⟩:=h;split at a
  ·rename_i b A hg
   unfold fV at a;simp only[aC] at a;obtain⟨v,Q,S,P,R,O,z,N,y,M,L⟩:=a;obtain⟨u,G⟩:=i _ _ _ _ _ Q;obtain⟨p,F⟩:=nM pg N;obtain⟨m,E⟩:=nM pg M;have D:Le (du (bf pg u) pg) (du (bf pg (max u (max p m))) pg):=lC λc s r h=>fH pg (Nat.le_max_left _ _) h
   have C:Le (du (bf pg p) pg) (du (bf pg (max u (max p m))) pg):=lC λc s r h=>fH pg aj h
   have B:Le (du (bf pg m) pg) (du (bf pg (max u (max p m))) pg):=lC λc s r h=>fH pg aj h
   refine⟨max u (max p m),vs,g,?_⟩;unfold fV;simp only[aC];exact⟨v,mo D G,S,P,R,O,z,C _ _ _ _ F,y,B _ _ _ _ E,L⟩
  ·cases a
 | callF d f l=>
  simp only[ae,aC] at *;obtain⟨vs,g,e⟩:=h;unfold jC at e;split at e
  ·rename_i ha
   cases a:ac pg f vs [] with
   |none=>simp[a] at e
   |some r=>
    obtain⟨n,hn⟩:=nM pg a;refine⟨n,vs,g,?_⟩;unfold jC;rw[if_pos ha,hn];rw[a] at e;exact e
  ·cases e
 | callE d T l=>
  simp only[ae] at *;split at h
  ·rename_i f x hp
   simp only[aC] at *;obtain⟨vs,g,e⟩:=h;unfold qh at e;simp only[aC] at e;obtain⟨w,H,e⟩:=e;split at e
   ·rename_i ha
    cases a:ac pg f w [] with
    |none=>simp[a] at e
    |some r=>
     obtain⟨n,hn⟩:=nM pg a;refine⟨n,vs,g,?_⟩;unfold qh;simp only[aC];refine⟨w,H,?_⟩;rw[if_pos ha,hn];rw[a] at e;exact e
   ·cases e
  ·cases h
 |_=>exact⟨0,h⟩
theorem pT (pg:Prg):∀{l:List IOpG} {s e:St},dt (ac pg) l s=some e->∃n,dt (du (bf pg n) pg) l s=some e
 |[],s,e,h=>⟨0,h⟩
 | o ::l,s,e,h=>by
  have f:∀s d e,ae (ac pg) s o.op=some d->dt (ac pg) l d=some e->
    ∃n,ae (du (bf pg n) pg) s o.op=some d/\dt (du (bf pg n) pg) l d=some e:=by
   intro s d e i g;obtain⟨n,hn⟩:=Dt pg i;obtain⟨m,k⟩:=pT pg g
   exact⟨max n m,pP (lC λc s r h=>fH pg (Nat.le_max_left n m) h) hn,
    lB (lC λc s r h=>fH pg (Nat.le_max_right n m) h) k⟩
  simp only[dt] at *;split at h
  ·simp only[aC] at *
   obtain⟨d,i,g⟩:=h;obtain⟨n,a,b⟩:=f _ _ _ i g;exact⟨n,d,a,b⟩
  ·split at h
   ·split at h
    ·rename_i j
     simp only[aC] at h;obtain⟨d,i,g⟩:=h;obtain⟨n,a,b⟩:=f _ _ _ i g;exact⟨n,by rw[if_pos j,aC];exact⟨d,a,b⟩⟩
    ·rename_i j
     obtain⟨n,hn⟩:=pT pg h;exact⟨n,by rw[if_neg j];exact hn⟩
   ·exact pT pg h
   ·cases h
section
variable (pg:Prg) (s:St)
theorem Du (f:Nat) (a:fw) (b:fB):ac pg f a b=du (bm pg) pg f a b:=rfl
theorem Dv:bm pg .skip s=some (.normal,s):=(dQ ..).2 ⟨1,rfl⟩
theorem Dw (i:Nat):bm pg (.exit i) s=some (.exit i,s):=(dQ ..).2 ⟨1,rfl⟩
theorem Dx:bm pg .ret s=some (.ret,s):=(dQ ..).2 ⟨1,rfl⟩
theorem Dy (b:List IOpG) (d:Bool):bm pg (.region b d) s=(dt (ac pg) b s).map λa=>(.normal,a):=by
 refine Option.ext λr=>?_
 rw[dQ,aE];constructor
 ·rintro⟨n,hn⟩
  cases n with
  |zero=>simp[bf] at hn
  |succ n=>
   simp only[bf,aE] at hn;obtain⟨a,e,c⟩:=hn;exact⟨a,lB (wu pg n) e,c⟩
 ·rintro⟨a,e,c⟩
  obtain⟨n,hn⟩:=pT pg e;exact⟨n+1,by simp only[bf,aE];exact⟨a,hn,c⟩⟩
theorem Dz (x:IX) (a b:ICode):bm pg (.cond x a b) s=match ai s.env x with
  |some (.bool true)=>bm pg a s
  |some (.bool false)=>bm pg b s
  |_=>none:=by
 refine Option.ext λr=>?_
 rw[dQ];constructor
 ·rintro⟨n,hn⟩
  cases n with
  |zero=>simp[bf] at hn
  |succ n=>
   rw[bf] at hn;split at hn
   ·rename_i c;rw[c];exact (dQ ..).2 ⟨n,hn⟩
   ·rename_i c;rw[c];exact (dQ ..).2 ⟨n,hn⟩
   ·cases hn
 ·intro h
  split at h
  ·rename_i c
   obtain⟨n,hn⟩:=(dQ ..).1 h;exact⟨n+1,by rw[bf,c];exact hn⟩
  ·rename_i c
   obtain⟨n,hn⟩:=(dQ ..).1 h;exact⟨n+1,by rw[bf,c];exact hn⟩
  ·cases h
theorem DA (a b:ICode):bm pg (.seq a b) s=match bm pg a s with
  |some (.normal,c)=>bm pg b c
  |r=>r:=by
 refine Option.ext λr=>?_
 rw[dQ];constructor
 ·rintro⟨n,hn⟩
  cases n with
  |zero=>simp[bf] at hn
  | succ n=>
   rw[bf] at hn;cases ha:bf pg n a s with
   |none=>simp[ha] at hn
   |some x=>
    rw[(dQ ..).2 ⟨n,ha⟩];rw[ha] at hn;obtain⟨e,c⟩:=x;cases e<;>simp only at * <;>first|exact (dQ ..).2 ⟨n,hn⟩|exact hn
 ·intro h
  cases ha:bm pg a s with
  |none=>simp[ha] at h
  | some x=>
   obtain⟨n,hn⟩:=(dQ ..).1 ha;rw[ha] at h;obtain⟨e,c⟩:=x;cases e with
   |normal=>
    obtain⟨m,d⟩:=(dQ ..).1 h;exact⟨max n m+1,by rw[bf,fH pg (Nat.le_max_left n m) hn];exact fH pg (Nat.le_max_right n m) d⟩
   |exit i=>exact⟨n+1,by rw[bf,hn];exact h⟩
   |ret=>exact⟨n+1,by rw[bf,hn];exact h⟩
theorem sB (a:ICode):bm pg (.loop a) s=match bm pg a s with
  |some (.normal,b)=>bm pg (.loop a) b
  |r=>r:=by
 refine Option.ext λr=>?_
 rw[dQ];constructor
 ·rintro⟨n,hn⟩
  cases n with
  |zero=>simp[bf] at hn
  | succ n=>
   rw[bf] at hn;cases ha:bf pg n a s with
   |none=>simp[ha] at hn
   |some x=>
    rw[(dQ ..).2 ⟨n,ha⟩];rw[ha] at hn;obtain⟨e,b⟩:=x;cases e<;>simp only at * <;>first|exact (dQ ..).2 ⟨n,hn⟩|exact hn
 ·intro h
  cases ha:bm pg a s with
  |none=>simp[ha] at h
  | some x=>
   obtain⟨n,hn⟩:=(dQ ..).1 ha;rw[ha] at h;obtain⟨e,b⟩:=x;cases e with
   |normal=>
    obtain⟨m,c⟩:=(dQ ..).1 h;exact⟨max n m+1,by rw[bf,fH pg (Nat.le_max_left n m) hn];exact fH pg (Nat.le_max_right n m) c⟩
   |exit i=>exact⟨n+1,by rw[bf,hn];exact h⟩
   |ret=>exact⟨n+1,by rw[bf,hn];exact h⟩
theorem nO (c:Nat) (a:ICode):bm pg (.block c a) s=match bm pg a s with
  |some (.exit i,b)=>if i=c then some (.normal,b) else some (.exit i,b)
  |r=>r:=by
 refine Option.ext λr=>?_
 rw[dQ];constructor
 ·rintro⟨n,hn⟩
  cases n with
  |zero=>simp[bf] at hn
  |succ n=>
   rw[bf] at hn;cases ha:bf pg n a s with
   |none=>simp[ha] at hn
   |some x=>rw[(dQ ..).2 ⟨n,ha⟩];rw[ha] at hn;exact hn
 ·intro h
  cases ha:bm pg a s with
  |none=>simp[ha] at h
  |some x=>
   obtain⟨n,hn⟩:=(dQ ..).1 ha;exact⟨n+1,by rw[bf,hn];rw[ha] at h;exact h⟩
theorem nP (a:ICode) (d:gj) (c:Nat):bm pg (.post a d c) s=match bm pg a s with
  |some (.normal,b)=>some (.normal,⟨keep c d b.env,b.lh.take c,b.gh⟩)
  |r=>r:=by
 refine Option.ext λr=>?_
 rw[dQ];constructor
 ·rintro⟨n,hn⟩
  cases n with
  |zero=>simp[bf] at hn
  |succ n=>
   rw[bf] at hn;cases ha:bf pg n a s with
   |none=>simp[ha] at hn
   |some x=>rw[(dQ ..).2 ⟨n,ha⟩];rw[ha] at hn;exact hn
 ·intro h
  cases ha:bm pg a s with
  |none=>simp[ha] at h
  |some x=>
   obtain⟨n,hn⟩:=(dQ ..).1 ha;exact⟨n+1,by rw[bf,hn];rw[ha] at h;exact h⟩
theorem DB (a:ICode) (c:gj) (t:Nat):bm pg (.lift a c t) s=match bm pg a s with
  |some (.normal,b)=>(jD c t b).map λb=>(.normal,b)
  |r=>r:=by
 refine Option.ext λr=>?_
 rw[dQ];constructor
 ·rintro⟨n,hn⟩
  cases n with
  |zero=>simp[bf] at hn
  |succ n=>
   rw[bf] at hn;cases ha:bf pg n a s with
   |none=>simp[ha] at hn
   |some x=>rw[(dQ ..).2 ⟨n,ha⟩];rw[ha] at hn;exact hn
 ·intro h
  cases ha:bm pg a s with
  |none=>simp[ha] at h
  |some x=>
   obtain⟨n,hn⟩:=(dQ ..).1 ha;exact⟨n+1,by rw[bf,hn];rw[ha] at h;exact h⟩
theorem DC (a:ICode):bm pg (.cut a) s=bm pg a s:=by
 refine Option.ext λr=>?_
 rw[dQ,dQ];constructor
 ·rintro⟨n,hn⟩
  cases n with
  |zero=>simp[bf] at hn
  |succ n=>exact⟨n,hn⟩
 ·rintro⟨n,hn⟩
  exact⟨n+1,hn⟩
end
end
end Go.Lw