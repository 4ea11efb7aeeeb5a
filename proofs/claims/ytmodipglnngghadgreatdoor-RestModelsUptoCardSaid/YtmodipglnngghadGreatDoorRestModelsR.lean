/-
  The texts that the proof stands on, part 18.
-/
import Derived.Test.YtmodipglnngghadGreatDoorRestModelsP
import Derived.Lib.AppendZeros
set_option linter.unusedVariables false
set_option linter.unusedSimpArgs false
set_option linter.unnecessarySimpa false

set_option maxRecDepth 100000
set_option maxHeartbeats 4000000
namespace Go.Lw
open Go
section
open Go.RowKit
variable {x:Operand} {f:Nat->Value} {t:TypeId} {v:Value}
inductive RO where
 |mv (k:Nat)
 |nil
 |cap (k:Nat)
 |len (k:Nat)
 |bin (b:BinOp) (i j:Nat)
 |binc (b:BinOp) (i:Nat) (c:Int)
 |to (k j:Nat)
def gg:RO->(Nat->Value)->Option Value
 | .mv k,f=>some (f k)
 | .nil,_=>some (.slice none 0 0)
 | .cap k,f=>match f k with| .slice _ _ c=>some (.int .i64 c)|_=>none
 | .len k,f=>match f k with| .slice _ n _=>some (.int .i64 n)|_=>none
 | .bin b i j,f=>match f i,f j with
  | .int .i64 x,.int .i64 y=>(match b with| .sub=>some (.int .i64 (IntKind.i64.wrap (x-y)))| .lss=>some (.bool (decide (x<y)))| .gtr=>some (.bool (decide (y<x)))|_=>none)
  |_,_=>none
 | .binc b i y,f=>match f i with
  | .int .i64 x=>(match b with| .sub=>some (.int .i64 (IntKind.i64.wrap (x-y)))| .lss=>some (.bool (decide (x<y)))| .gtr=>some (.bool (decide (y<x)))|_=>none)
  |_=>none
 | .to k j,f=>match f k,f j with
  | .slice A _ c,.int .i64 h=>if 0<=h/\h.toNat<=c then some (.slice A h.toNat c) else none
  |_,_=>none
def iU (k:Nat):Operand->Bool
 | .tmp m=>m==k
 |_=>false
def pO (P:Program) (t:TypeId):Bool:=match P.underlying t with|some (.slice e)=>(eP P e).isSome|_=>false
def rIs (P:Program):RO->Op->Bool
 | .mv k,.move x| .mv k,.assign x=>iU k x
 | .nil,.assign (.const (.slice none 0 0))=>true
 | .cap k,.call {callee:= .builtin .cap,args,argTypes }=>(match args.toList,argTypes[0]? with|[x],some t=>iU k x&&pO P t|_,_=>false)
 | .len k,.call {callee:= .builtin .len,args,argTypes }=>(match args.toList,argTypes[0]? with|[x],some t=>iU k x&&pO P t|_,_=>false)
 | .bin b i j,.binOp a _ x y _=>decide (b=a)&&(iU i x&&iU j y)
 | .binc b i c,.binOp a _ x (.const (.int .i64 d)) _=>decide (b=a)&&(iU i x&&decide (c=d))
 | .to k j,.slice t x none (some y) none=>iU k x&&(iU j y&&pO P t)
 |_,_=>false
section
variable {fi:FI} {M M':Mem} {w w':World} {P:Program} {a:Act}
theorem jA {k:Nat} (h:iU k x=true) (b:∀k,a.tmps.getD k undef=f k):a.eval x=f k:=by cases x<;>simp[iU] at h;subst h;exact b _
theorem Di {b:BinOp} {y:Operand} {u v:Int} {r:Value} (h:(match b with| .sub=>some (Value.int .i64 (IntKind.i64.wrap (u-v)))| .lss=>some (.bool (decide (u<v)))| .gtr=>some (.bool (decide (v<u)))|_=>none)=some r) (w:World) :
  (eqGuard b t x y (.int .i64 u) (.int .i64 v)).run P w= .ok () w/\(binOp b t (.int .i64 u) (.int .i64 v)).run P w= .ok r w:=by
 have a:∀(u:Int),RepE {f:=λ_=>none,gl:=[] } ⟨[],[],λ_ _=>False,λ_=>none,λ_=>(0,0,0),[]⟩ w (.int .i64 u) (.int .i64 u):=λu=>(RepP.int _ _).repE
 cases b<;>simp at h
 all_goals subst h
 ·obtain⟨g,e,d,c⟩:=pU (P:=P) (op:= .sub) (t:=t) (x:=x) (y:=y) (r:= .int .i64 (IntKind.i64.wrap (u-v))) rfl (a u) (a v)
  cases c;exact⟨e,d⟩
 ·obtain⟨g,e,d,c⟩:=pU (P:=P) (op:= .lss) (t:=t) (x:=x) (y:=y) (r:= .bool (decide (u<v))) rfl (a u) (a v)
  cases c;exact⟨e,d⟩
 ·obtain⟨g,e,d,c⟩:=pU (P:=P) (op:= .gtr) (t:=t) (x:=x) (y:=y) (r:= .bool (decide (v<u))) rfl (a u) (a v)
  cases c;exact⟨e,d⟩
theorem NK {a:Array TypeId} {e ty:TypeId} {A:Option Addr} {n c:Nat} (d:a[0]?=some t) (b:P.underlying t=some (.slice e)) (w:World) :
  (Builtin.cap_ a ty #[.slice A n c]).run P w= .ok (.int .i64 c) w:=by
 simp[Builtin.cap_,d,run_underlying b,goInt]
theorem wg (h:pO P t=true):∃e z,P.underlying t=some (.slice e)/\eP P e=some z:=by
 unfold pO at h;split at h
 ·rename_i e b
  obtain⟨z,a⟩:=Option.isSome_iff_exists.1 h;exact⟨e,z,b,a⟩
 ·cases h
theorem NO {r:RO} {o:Oper} (h:rIs P r o.op=true) (d:gg r f=some v) (p:∀k,a.tmps.getD k undef=f k) (w:World) :
  (execOp a.eval o).run P w= .ok (.value v) w:=by
 obtain⟨aa,op,ty,T,ab,gd⟩:=o;simp only at h;unfold rIs at h;split at h
 ·have:=jA h p
  simp[gg] at d;subst d;simp[execOp,this]
 ·have:=jA h p
  simp[gg] at d;subst d;simp[execOp,this]
 ·simp[gg] at d;subst d
  have:a.eval (.const (.slice none 0 0))= .slice none 0 0:=rfl;simp[execOp,this]
 ·rename_i k g O
  split at h
  ·rename_i x t F H
   simp only[aS] at h;have s:g= #[x]:=by apply Array.ext';simpa using F
   subst s;have C:=jA h.1 p;obtain⟨e,z,m,-⟩:=wg h.2;simp only[gg] at d;split at d
   ·rename_i A n c I
    cases d;rw[I] at C;have:=NK (ty:=ty) (A:=A) (n:=n) (c:=c) H m w;simp[execOp,resolve,j9,builtin,C,this]
   ·cases d
  ·cases h
 ·rename_i k g O
  split at h
  ·rename_i x t F H
   simp only[aS] at h;have s:g= #[x]:=by apply Array.ext';simpa using F
   subst s;have C:=jA h.1 p;obtain⟨e,z,m,-⟩:=wg h.2;simp only[gg] at d;split at d
   ·rename_i A n c I
    cases d;rw[I] at C;have:=mq (ty:=ty) (A:=A) (n:=n) (c:=c) H m w;simp[execOp,resolve,j9,builtin,C,this]
   ·cases d
  ·cases h
 ·rename_i b i j b' t x y Q
  simp only[aS,aH] at h;obtain⟨rfl,D,L⟩:=h;have q:=jA D p;have B:=jA L p;simp only[gg] at d;split at d
  ·rename_i u v' m G
   rw[m] at q;rw[G] at B;obtain⟨N,M⟩:=Di (P:=P) (t:=t) (x:=x) (y:=y) d w;simp[execOp,q,B,N,M]
  ·cases d
 ·rename_i b i c b' t x c' Q
  simp only[aS,aH] at h;obtain⟨rfl,D,rfl⟩:=h;have q:=jA D p;have B:a.eval (.const (.int .i64 c))= .int .i64 c:=rfl;simp only[gg] at d;split at d
  ·rename_i u m
   rw[m] at q;obtain⟨N,M⟩:=Di (P:=P) (t:=t) (x:=x) (y:= .const (.int .i64 c)) d w;simp[execOp,q,B,N,M]
  ·cases d
 ·rename_i k j t x y
  simp only[aS] at h;obtain⟨D,L,h3⟩:=h;have q:=jA D p;have B:=jA L p;obtain⟨e,z,m,U⟩:=wg h3;simp only[gg] at d;split at d
  ·rename_i A n c E S R
   split at d
   ·rename_i X
    cases d;rw[S] at q;rw[R] at B;have hb:E=(E.toNat:Int):=aj;have:=mr (P:=P) m U (n:=n) (A:=A) (lo:=none) (hi:=some (.int .i64 E)) (l:=0) (h:=E.toNat) (.inl ⟨rfl,rfl⟩) (.inr ⟨.i64,by rw[<-hb]⟩) (Nat.zero_le _) X.2 w;have hA:(if c=0 then A else A.map (·.add (0*z)))=A:=by
     split
     ·rfl
     ·rw[Nat.zero_mul]
      cases A with
      |none=>rfl
      |some ad=>simp[Addr.add]
    rw[hA] at this;simp[execOp,q,B,this]
   ·cases d
  ·cases d
 ·cases h
def iD (P:Program) (N:Nat):List (Nat×RO)->List Oper->Bool
 |[],[]=>true
 |r::l,o::m=>(o.dst==some r.1&&(o.guard.isNone&&(decide (r.1<N)&&rIs P r.2 o.op)))&&iD P N l m
 |_,_=>false
def dW (f:Nat->Value) (d:Nat) (v:Value):Nat->Value:=λk=>if k=d then v else f k
def iV:List (Nat×RO)->(Nat->Value)->Option (Nat->Value)
 |[],f=>some f
 |r::l,f=>(gg r.2 f).bind λv=>iV l (dW f r.1 v)
theorem wh {d:Nat} (c:d<a.tmps.size) (b:∀k,a.tmps.getD k undef=f k) (k:Nat):(a.put (some d) v).tmps.getD k undef=dW f d v k:=by
 unfold dW;by_cases h:k=d
 ·subst h
  simp[Act.put,cS,Array.getElem?_setIfInBounds,c]
 ·rw[if_neg h,<-b k]
  simp[Act.put,cS,Array.getElem?_setIfInBounds,Ne.symm h]
theorem Ou {N:Nat} {ops:Array Oper} {Q:Exit->Act->World->Prop}:∀{L:List (Nat×RO)} {l rest:List Oper} {a:Act} {f f':Nat->Value},iD P N L l=true->iV L f=some f'->(∀k,a.tmps.getD k undef=f k)->N<=a.tmps.size->
  (∀b:Act,(∀k,b.tmps.getD k undef=f' k)->b.tmps.size=a.tmps.size->b.defers=a.defers->wpList P ops Q rest b w)->wpList P ops Q (l++rest) a w
 |[],[],rest,a,f,f',_,c,g,_,h=>by simp[iV] at c;subst c;exact h a g rfl rfl
 |r::L,o::l,rest,a,f,f',e,c,g,x,h=>by
  simp only[iD,aS,dA,aH,Option.isNone_iff_eq_none] at e;obtain⟨⟨q,n,p,hr⟩,e⟩:=e;simp only[iV,aC] at c;obtain⟨v,j,i⟩:=c;rw[bH];refine ml ?_;rw[if_pos (by unfold Region.wanted;rw[n])];have d:=NO (a:=a) hr j g w;have m:r.1<a.tmps.size:=aj;unfold Oper.wp;rw[d]
  show wpList P ops Q (l++rest) (a.put o.dst v) w
  rw[q];refine Ou e i (wh m g) (by simp[Act.put];omega) λb u t s=>h b u (by rw[t];simp[Act.put]) (by rw[s];rfl)
 |[],_::_,_,_,_,_,h,_,_,_,_=>by simp[iD] at h
 |_::_,[],_,_,_,_,h,_,_,_,_=>by simp[iD] at h
def Dj:List (Nat×RO):=[(5,.mv 1),(6,.binc .lss 5 0)]
def Dk:List (Nat×RO):=[(8,.mv 1),(9,.mv 0),(10,.cap 9),(11,.mv 0),(12,.len 11),(13,.bin .sub 10 12),(14,.bin .sub 8 13),(1,.mv 14)]
def Dl:List (Nat×RO):=[(15,.mv 1),(16,.binc .gtr 15 0)]
def Dm:List (Nat×RO):=[(17,.mv 0),(18,.mv 0),(19,.cap 18),(20,.to 17 19),(21,.mv 1)]
def Dn:List (Nat×RO):=[(23,.mv 0),(24,.len 23),(25,.to 22 24),(0,.mv 25)]
def wi:List (Nat×RO):=[(26,.mv 0),(4,.mv 26)]
def Do (P:Program) (z a:Nat) (o:Oper):Bool:=
 o.dst==some 22&&(o.guard.isNone&&(match o.op with
  | .call {callee:= .builtin .append,args,argTypes }=>(match args.toList,argTypes.toList with
   |[x,y],[t,b]=>iU 20 x&&(iU 21 y&&((match P.underlying b with|some (.int _)=>true|_=>false)&&(match P.underlying t with
    |some (.slice e)=>(match P.info? e with|some i=>i.size==z&&(i.bytes==a&&(match i.zero with|some v=>v.cells.size==z&&decide (0<z)|none=>false))|none=>false)
    |_=>false)))
   |_,_=>false)
  |_=>false))
def wj (P:Program) (z a N:Nat):Code->Bool
 | .seq (.region _ g false) (.seq (.seq (.region _ f false) (.cond (.tmp 6) _ .skip)) (.seq (.seq (.region _ e false) (.seq (.region _ d false) (.cond (.tmp 16) (.region _ b false) .skip))) (.seq (.region _ c false) .ret)))=>
  decide (26<N/\0<a)&&(iD P N [(4,.nil)] g.toList&&(iD P N Dj f.toList&&(iD P N Dk e.toList&&(iD P N Dl d.toList&&(iD P N wi c.toList &&
   (iD P N Dm (b.toList.take 5)&&(match b.toList.drop 5 with|o::l=>Do P z a o&&iD P N Dn l|[]=>false)))))))
 |_=>false
theorem nJ {N c:Nat} {ops:Array Oper} {L:List (Nat×RO)} {Q:Exit->Act->World->Prop} {f f':Nat->Value} (e:iD P N L ops.toList=true) (d:iV L f=some f') (g:∀k,a.tmps.getD k undef=f k) (i:N<=a.tmps.size)
  (h:∀b:Act,(∀k,b.tmps.getD k undef=f' k)->b.tmps.size=a.tmps.size->b.defers=a.defers->Q .normal b w):Code.wp P (.region c ops false) Q a w:=by
 refine wp_region_list ?_;have:=Ou (ops:=ops) (Q:=Q) (rest:=[]) e d g i λb m l j=>by unfold wpList;exact h b m l j
 rwa [bE] at this
theorem Inv.reenv {s:St} {a a':Act} (b:Inv fi M w s a) (d:a'.defers=M.ds) {e:fT} (c:∀t v,get e t=some v->t<a'.tmps.size/\RepAt fi M w (Loc.env t) v (a'.tmps.getD t undef)):Inv fi M w ⟨e,s.lh,s.gh⟩ a':=
 ⟨c,d,b.lbl,b.gbl,b.nodup,b.lh,b.gh,b.gl,b.immlt,b.ownlt,b.gblt⟩
theorem NP {z j F:Nat} {Fn:Func} {c:Code} (hf:P.funcs[F]?=some Fn) (hb:Fn.body=some c) (hm:wj P z j Fn.ntmps c=true) (hr:fE P [.t 4] Fn.results.toList=true)
  {vs:fw} {gh ab:fB} {r:PV} (h:kU z j vs gh=some (r,ab)):eG P fi F vs gh r ab:=by
 obtain⟨n,rfl,bw,aV,rfl,rfl⟩:∃n:Int,vs=[.nils,.int .i64 n]/\0<=n/\n.toNat*j<=maxBytes/\r= .sl true z []/\gh=ab:=by
  unfold kU at h;split at h
  ·rename_i n
   split at h
   ·rename_i hc
    cases h;exact⟨n,rfl,hc.1,hc.2,rfl,rfl⟩
   ·cases h
  ·cases h
 let fn:IFunc:={np:=2,res:=[.t 4],own:=true,trunc:=false,body:= .skip }
 refine oe (fn:=fn) (x:=(.ret,⟨[(4,.sl true z [])],[],gh⟩)) hf hb hr ?_ (by simp[fn,ag,results,get,af,az,PV.cells,PV.one]);intro a M w hI hN;unfold wj at hm;split at hm
 ·rename_i i0 bi i1 be cp i3 bd i4 bc i5 q i6 bb
  simp only[aS,aH] at hm;obtain⟨aC,m0,m1,m3,m4,m6,aP,m5⟩:=hm;split at m5
  ·rename_i oA lb S
   simp only[aS] at m5;obtain⟨A,aO⟩:=m5;have t0:a.tmps.getD 0 undef= .slice none 0 0:=by have h3:=(hI.env 0 .nils rfl).2;generalize a.tmps.getD 0 undef=u at h3;cases (show RepP fi M w .nils u from h3);rfl
   have t1:a.tmps.getD 1 undef= .int .i64 n:=by have h3:=(hI.env 1 (.int .i64 n) rfl).2;generalize a.tmps.getD 1 undef=u at h3;cases (show RepP fi M w (.int .i64 n) u from h3);rfl
   obtain⟨aC,aW⟩:=aC;have bx:maxBytes=140737488355328:=rfl;have bv:n.toNat*1<=n.toNat*j:=Nat.mul_le_mul_left _ aW;have bl:IntKind.i64.wrap (n-0)=n:=by rw[IntKind.wrap_i64];omega
   have bo:IntKind.i64.wrap (0-0)=0:=by rw[IntKind.wrap_i64];omega
   have ev:∀(b:Act) (k:Nat) (v:Value),b.tmps.getD k undef=v->b.eval (.tmp k)=v:=λb k v h=>h
   obtain⟨G0,aB⟩:∃G:Nat->Value,∀k,a.tmps.getD k undef=G k:=⟨_,λ_=>rfl⟩
   rw[aB] at t0 t1;rw[qD];refine wpIn_wide.2 ?_;refine wp_seq (nJ m0 (f:=G0) rfl aB hN λa1 f1 s1 d1=>?_);obtain⟨G1,I⟩:∃G:Nat->Value,∀k,a1.tmps.getD k undef=G k:=⟨_,λ_=>rfl⟩
   have p:G1 0= .slice none 0 0:=by rw[<-I,f1];simpa [dW] using t0
   have B:G1 1= .int .i64 n:=by rw[<-I,f1];simpa [dW] using t1
   have p4:G1 4= .slice none 0 0:=by rw[<-I,f1];simp[dW]
   refine wp_seq (wp_seq (nJ m1 (f:=G1) (f':=?J) ?Z I aj λa2 f2 s2 d2=>?_))
   case Z=>simp[iV,Dj,gg,dW,B];rfl
   obtain⟨G2,H⟩:∃G:Nat->Value,∀k,a2.tmps.getD k undef=G k:=⟨_,λ_=>rfl⟩
   have p:G2 0= .slice none 0 0:=by rw[<-H,f2];simpa [dW] using p
   have B:G2 1= .int .i64 n:=by rw[<-H,f2];simpa [dW] using B
   have p4:G2 4= .slice none 0 0:=by rw[<-H,f2];simpa [dW] using p4
   refine wp_cond_false (ev a2 6 _ (by rw[f2];simp[dW];omega)) (wp_skip ?_)
   show Code.wp P _ _ a2 w
   refine wp_seq (wp_seq (nJ m3 (f:=G2) (f':=?Y) ?K H aj λa3 f3 s3 d3=>?_))
   case K=>simp[iV,Dk,gg,dW,p,B];rfl
   obtain⟨G3,E⟩:∃G:Nat->Value,∀k,a3.tmps.getD k undef=G k:=⟨_,λ_=>rfl⟩
   have p:G3 0= .slice none 0 0:=by rw[<-E,f3];simpa [dW] using p
   have B:G3 1= .int .i64 n:=by rw[<-E,f3];simp[dW];rw[show IntKind.i64.wrap 0=0 by decide,Int.sub_zero,IntKind.wrap_i64];omega
   have p4:G3 4= .slice none 0 0:=by rw[<-E,f3];simpa [dW] using p4
   show Code.wp P _ _ a3 w
   refine wp_seq (nJ m4 (f:=G3) (f':=?V) ?W E aj λa4 f4 s4 d4=>?_)
   case W=>simp[iV,Dl,gg,dW,B];rfl
   obtain⟨G4,l⟩:∃G:Nat->Value,∀k,a4.tmps.getD k undef=G k:=⟨_,λ_=>rfl⟩
   have p:G4 0= .slice none 0 0:=by rw[<-l,f4];simpa [dW] using p
   have B:G4 1= .int .i64 n:=by rw[<-l,f4];simpa [dW] using B
   have ad:G4 16= .bool (decide (0<n)):=by rw[<-l,f4];simp[dW]
   have ap:a4.defers=M.ds:=by rw[d4,d3,d2,d1];exact hI.defers
   have bs:a4.tmps.size=a.tmps.size:=aj
   show Code.wp P _ _ a4 w
   by_cases O:0<n
   ·refine wp_cond_true (ev a4 16 _ (by rw[l,ad,aG O])) ?_
    refine wp_region_list ?_;have C:q.toList=q.toList.take 5++(oA::lb):=by rw[<-S,List.take_append_drop]
    rw[C];refine Ou aP (f:=G4) (f':=?Ja) ?Jb l aj λR f5 s5 d5=>?_
    case Jb=>simp[iV,Dm,gg,dW,p,B];rfl
    obtain⟨G5,o⟩:∃G:Nat->Value,∀k,R.tmps.getD k undef=G k:=⟨_,λ_=>rfl⟩
    have p:G5 0= .slice none 0 0:=by rw[<-o,f5];simpa [dW] using p
    have aK:G5 20= .slice none 0 0:=by rw[<-o,f5];simp[dW]
    have aJ:G5 21= .int .i64 n:=by rw[<-o,f5];simp[dW]
    unfold Do at A;simp only[aS,dA,Option.isNone_iff_eq_none] at A;obtain⟨aN,aM,A⟩:=A;split at A
    ·rename_i aD ba aU
     split at A
     ·rename_i x y t tn U av
      simp only[aS] at A;obtain⟨mx,my,al,s⟩:=A;have D:aD= #[x,y]:=by apply Array.ext';simpa using U
      have T:ba= #[t,tn]:=by apply Array.ext';simpa using av
      subst D;subst T;have ex:=jA (a:=R) mx o;have ey:=jA (a:=R) my o;simp only[aK] at ex;simp only[aJ] at ey;split at al
      ·rename_i kn aT
       split at s
       ·rename_i e ht
        split at s
        ·rename_i i hi
         simp only[aS,dA] at s;obtain⟨mz,mb,s⟩:=s;split at s
         ·rename_i L aR
          simp only[aS,dA,aH] at s;obtain⟨aL,bk⟩:=s;obtain⟨g,rfl⟩:∃g:Nat,n=g:=⟨n.toNat,aj⟩
          have ao:=Lib.run_append_nil_zeros (P:=P) w t tn oA.type e i L .i64 kn ht aT hi aR g aj aj aj (by rw[mb];simp at aV;omega);refine Lib.wpList_append_run w aM x y t tn aU _ _ ex ey _ _ ao ?_;rw[aN];have aE:22<R.tmps.size:=aj;have g5:=wh (a:=R) (d:=22) (v:= .slice (some ⟨w.heap.size,0,none⟩) g (grownCap w g 0 e)) aE o;generalize ax:R.put (some 22) (.slice (some ⟨w.heap.size,0,none⟩) g (grownCap w g 0 e))=a6 at *;have s6:a6.tmps.size=R.tmps.size:=by rw[<-ax];simp[Act.put]
          have d6:a6.defers=R.defers:=by rw[<-ax];rfl
          obtain⟨G6,aa⟩:∃G:Nat->Value,∀k,a6.tmps.getD k undef=G k:=⟨_,λ_=>rfl⟩
          have r0:G6 0= .slice none 0 0:=by rw[<-aa,g5];simpa [dW] using p
          have aI:G6 22= .slice (some ⟨w.heap.size,0,none⟩) g (grownCap w g 0 e):=by rw[<-aa,g5];simp[dW]
          have:=Ou (P:=P) (a:=a6) (w:=w.drew.alloc (.cells (Builtin.zeroCells L.cells g++Builtin.zeroCells L.cells (grownCap w g 0 e-g)) e)) (ops:=q) (rest:=[]) aO (f:=G6) (f':=?Jc) ?Jd aa aj (Q:=?Je) ?Jf;rw[bE] at this;exact this
          case Jd=>simp[iV,Dn,gg,dW,r0,aI];rfl
          case Jf=>
           intro a7 f7 s7 d7;unfold wpList;obtain⟨G7,aA⟩:∃G:Nat->Value,∀k,a7.tmps.getD k undef=G k:=⟨_,λ_=>rfl⟩
           have u0:G7 0= .slice (some ⟨w.heap.size,0,none⟩) 0 (grownCap w g 0 e):=by rw[<-aA,f7];simp[dW]
           show Code.wp P _ _ a7 _
           refine wp_seq (nJ m6 (f:=G7) (f':=?Jg) ?Jh aA aj λa8 f8 s8 d8=>?_)
           case Jh=>simp[iV,wi,gg,dW,u0];rfl
           obtain⟨G8,m⟩:∃G:Nat->Value,∀k,a8.tmps.getD k undef=G k:=⟨_,λ_=>rfl⟩
           have u4:G8 4= .slice (some ⟨w.heap.size,0,none⟩) 0 (grownCap w g 0 e):=by rw[<-m,f8];simp[dW]
           refine wp_ret ?_;have aZ:Inv fi M w ⟨[],[],gh⟩ a8:=hI.reenv (by rw[d8,d7,d6,d5];exact ap) (λt v h=>by cases h);obtain⟨aY,k1⟩:=aZ.drew;have an:∀n,(Builtin.zeroCells L.cells n).toList.length=n*z:=λn=>by rw[Array.length_toList,size_zeroCells,aL]
           obtain⟨M',X,k2⟩:=Inv.newOwn aY (d:=4) aj (z:=z) (xs:=[]) bh bh [] (Builtin.zeroCells L.cells g++Builtin.zeroCells L.cells (grownCap w g 0 e-g)).toList bh bh
            (grownCap w g 0 e) bh (by have bC:=grownCap_ge w g 0 e;rw[Array.toList_append,aQ,an,an,<-Nat.add_mul,cF,cX];exact cY _ aj) e (Builtin.zeroCells L.cells g++Builtin.zeroCells L.cells (grownCap w g 0 e-g)) bh
           refine⟨rfl,M',?_,?_,aj⟩
           ·have aX:=X.reenv (a':=a8) (e:=[(4,.sl true z [])]) X.defers (λt v h=>by
             obtain⟨rfl,rfl⟩:t=4/\v= .sl true z []:=by
              simp only[get] at h;split at h
              ·rename_i h4;cases h;exact⟨h4.symm,rfl⟩
              ·cases h
             have h5:=X.env 4 (.sl true z []) (by simp[St.put,dl]);refine⟨aj,?_⟩;rw[m,u4];have h6:=h5.2;rw[wh (a:=a8) aj m] at h6;simpa [dW] using h6)
            exact aX
           ·exact k1.trans k2
         ·cases s
        ·cases s
       ·cases s
      ·cases al
     ·cases A
    ·cases A
   ·refine wp_cond_false (ev a4 16 _ (by rw[l,ad,aF O])) (wp_skip ?_)
    show Code.wp P _ _ a4 w
    refine wp_seq (nJ m6 (f:=G4) (f':=?Ji) ?Jj l aj λa8 f8 s8 d8=>?_)
    case Jj=>simp[iV,wi,gg,dW,p];rfl
    obtain⟨G8,m⟩:∃G:Nat->Value,∀k,a8.tmps.getD k undef=G k:=⟨_,λ_=>rfl⟩
    have u4:G8 4= .slice none 0 0:=by rw[<-m,f8];simp[dW]
    refine wp_ret ?_;refine⟨rfl,M,?_,Kp.refl M w,aj⟩;refine hI.reenv (by rw[d8];exact ap) (λt v h=>?_);obtain⟨rfl,rfl⟩:t=4/\v= .sl true z []:=by
     simp only[get] at h;split at h
     ·rename_i h4;cases h;exact⟨h4.symm,rfl⟩
     ·cases h
    refine⟨aj,?_⟩;rw[m,u4];exact wy _ z
  ·simp at m5
 ·cases hm
def Dp (P:Program) (z a F:Nat):Bool:=
 match P.funcs[F]? with
 |some b=>match b.body with
  |some c=>wj P z a b.ntmps c&&fE P [.t 4] b.results.toList
  |none=>false
 |none=>false
theorem NQ {z a F:Nat} (h:Dp P z a F=true) (f:fw) (g:fB) (r:PV) (b:fB) (hr:kU z a f g=some (r,b)):eG P fi F f g r b:=by
 unfold Dp at h;cases e:P.funcs[F]? with
 |none=>rw[e] at h;cases h
 | some i=>
  rw[e] at h;simp only at h;cases d:i.body with
  |none=>rw[d] at h;cases h
  |some c=>
   rw[d] at h;simp only[aS] at h;exact NP e d h.1 h.2 hr
end
end
end Go.Lw