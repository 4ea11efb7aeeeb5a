/-
  The texts that the proof stands on, part 18.
-/
import Derived.Test.YtmodipglnngghacGreatDoorExploreFindsQ
import Derived.Lib.AppendZeros
set_option linter.unusedVariables false
set_option linter.unusedSimpArgs false
set_option linter.unnecessarySimpa false

set_option maxRecDepth 100000
set_option maxHeartbeats 4000000
namespace Go.Lw
open Go
section
open Go.RowKit
inductive RO where
 |mv (k:Nat)
 |nil
 |cap (k:Nat)
 |len (k:Nat)
 |bin (b:BinOp) (i j:Nat)
 |binc (b:BinOp) (i:Nat) (c:Int)
 |to (k j:Nat)
def en:RO->(Nat->Value)->Option Value
 | .mv k,f=>some (f k)
 | .nil,_=>some (.slice none 0 0)
 | .cap k,f=>match f k with| .slice _ _ c=>some (.int .i64 c)|_=>none
 | .len k,f=>match f k with| .slice _ n _=>some (.int .i64 n)|_=>none
 | .bin b i j,f=>match f i,f j with
  | .int .i64 x,.int .i64 y=>(match b with| .sub=>some (.int .i64 (IntKind.i64.wrap (x-y)))| .lss=>some (.bool (decide (x<y)))| .gtr=>some (.bool (decide (y<x)))|_=>none)
  |_,_=>none
 | .binc b i y,f=>match f i with
  | .int .i64 x=>(match b with| .sub=>some (.int .i64 (IntKind.i64.wrap (x-y)))| .lss=>some (.bool (decide (x<y)))| .gtr=>some (.bool (decide (y<x)))|_=>none)
  |_=>none
 | .to k j,f=>match f k,f j with
  | .slice A _ c,.int .i64 h=>if 0<=h/\h.toNat<=c then some (.slice A h.toNat c) else none
  |_,_=>none
def fm (k:Nat):Operand->Bool
 | .tmp m=>m==k
 |_=>false
def kc (P:Program) (t:TypeId):Bool:=match P.underlying t with|some (.slice e)=>(dn P e).isSome|_=>false
def rIs (P:Program):RO->Op->Bool
 | .mv k,.move x| .mv k,.assign x=>fm k x
 | .nil,.assign (.const (.slice none 0 0))=>true
 | .cap k,.call {callee:= .builtin .cap,args,argTypes }=>(match args.toList,argTypes[0]? with|[x],some t=>fm k x&&kc P t|_,_=>false)
 | .len k,.call {callee:= .builtin .len,args,argTypes }=>(match args.toList,argTypes[0]? with|[x],some t=>fm k x&&kc P t|_,_=>false)
 | .bin b i j,.binOp b' _ x y _=>decide (b=b')&&(fm i x&&fm j y)
 | .binc b i c,.binOp b' _ x (.const (.int .i64 c')) _=>decide (b=b')&&(fm i x&&decide (c=c'))
 | .to k j,.slice t x none (some y) none=>fm k x&&(fm j y&&kc P t)
 |_,_=>false
section
variable {fi:FI} {M M':Mem} {w w':World} {P:Program} {a:Act}
theorem fM {k:Nat} {x:Operand} (h:fm k x=true) {f:Nat->Value} (hf:∀k,a.tmps.getD k undef=f k):a.eval x=f k:=by cases x<;>simp[fm] at h;subst h;exact hf _
theorem t8 {b:BinOp} {t:TypeId} {x y:Operand} {u v:Int} {r:Value} (h:(match b with| .sub=>some (Value.int .i64 (IntKind.i64.wrap (u-v)))| .lss=>some (.bool (decide (u<v)))| .gtr=>some (.bool (decide (v<u)))|_=>none)=some r) (w:World) :
  (eqGuard b t x y (.int .i64 u) (.int .i64 v)).run P w= .ok () w/\(binOp b t (.int .i64 u) (.int .i64 v)).run P w= .ok r w:=by
 have hx:∀(u:Int),RepE {f:=λ_=>none,gl:=[] } ⟨[],[],λ_ _=>False,λ_=>none,λ_=>(0,0,0),[]⟩ w (.int .i64 u) (.int .i64 u):=λu=>(RepP.int _ _).repE
 cases b<;>simp at h
 all_goals subst h
 ·obtain⟨r',h1,h2,h3⟩:=kj (P:=P) (op:= .sub) (t:=t) (x:=x) (y:=y) (r:= .int .i64 (IntKind.i64.wrap (u-v))) rfl (hx u) (hx v)
  cases h3;exact⟨h1,h2⟩
 ·obtain⟨r',h1,h2,h3⟩:=kj (P:=P) (op:= .lss) (t:=t) (x:=x) (y:=y) (r:= .bool (decide (u<v))) rfl (hx u) (hx v)
  cases h3;exact⟨h1,h2⟩
 ·obtain⟨r',h1,h2,h3⟩:=kj (P:=P) (op:= .gtr) (t:=t) (x:=x) (y:=y) (r:= .bool (decide (v<u))) rfl (hx u) (hx v)
  cases h3;exact⟨h1,h2⟩
theorem Bw {ats:Array TypeId} {t e ty:TypeId} {A:Option Addr} {n c:Nat} (h0:ats[0]?=some t) (ht:P.underlying t=some (.slice e)) (w:World) :
  (Builtin.cap_ ats ty #[.slice A n c]).run P w= .ok (.int .i64 c) w:=by
 simp[Builtin.cap_,h0,run_underlying ht,goInt]
theorem oo {t:TypeId} (h:kc P t=true):∃e z,P.underlying t=some (.slice e)/\dn P e=some z:=by
 unfold kc at h;split at h
 ·rename_i e he
  obtain⟨z,hz⟩:=Option.isSome_iff_exists.1 h;exact⟨e,z,he,hz⟩
 ·cases h
theorem Bx {r:RO} {o:Oper} {f:Nat->Value} {v:Value} (h:rIs P r o.op=true) (hv:en r f=some v) (hf:∀k,a.tmps.getD k undef=f k) (w:World) :
  (execOp a.eval o).run P w= .ok (.value v) w:=by
 obtain⟨dst,op,ty,pos,aft,gd⟩:=o;simp only at h;unfold rIs at h;split at h
 ·have:=fM h hf
  simp[en] at hv;subst hv;simp[execOp,this]
 ·have:=fM h hf
  simp[en] at hv;subst hv;simp[execOp,this]
 ·simp[en] at hv;subst hv
  have:a.eval (.const (.slice none 0 0))= .slice none 0 0:=rfl;simp[execOp,this]
 ·rename_i k args ats
  split at h
  ·rename_i x t hx ht
   simp only[aX] at h;have hx':args= #[x]:=by apply Array.ext';simpa using hx
   subst hx';have he:=fM h.1 hf;obtain⟨e,z,hu,-⟩:=oo h.2;simp only[en] at hv;split at hv
   ·rename_i A n c hk
    cases hv;rw[hk] at he;have:=Bw (ty:=ty) (A:=A) (n:=n) (c:=c) ht hu w;simp[execOp,resolve,ku,builtin,he,this]
   ·cases hv
  ·cases h
 ·rename_i k args ats
  split at h
  ·rename_i x t hx ht
   simp only[aX] at h;have hx':args= #[x]:=by apply Array.ext';simpa using hx
   subst hx';have he:=fM h.1 hf;obtain⟨e,z,hu,-⟩:=oo h.2;simp only[en] at hv;split at hv
   ·rename_i A n c hk
    cases hv;rw[hk] at he;have:=iM (ty:=ty) (A:=A) (n:=n) (c:=c) ht hu w;simp[execOp,resolve,ku,builtin,he,this]
   ·cases hv
  ·cases h
 ·rename_i b i j b' t x y t2
  simp only[aX,aH] at h;obtain⟨rfl,h1,h2⟩:=h;have e1:=fM h1 hf;have e2:=fM h2 hf;simp only[en] at hv;split at hv
  ·rename_i u v' hu hv'
   rw[hu] at e1;rw[hv'] at e2;obtain⟨g1,g2⟩:=t8 (P:=P) (t:=t) (x:=x) (y:=y) hv w;simp[execOp,e1,e2,g1,g2]
  ·cases hv
 ·rename_i b i c b' t x c' t2
  simp only[aX,aH] at h;obtain⟨rfl,h1,rfl⟩:=h;have e1:=fM h1 hf;have e2:a.eval (.const (.int .i64 c))= .int .i64 c:=rfl;simp only[en] at hv;split at hv
  ·rename_i u hu
   rw[hu] at e1;obtain⟨g1,g2⟩:=t8 (P:=P) (t:=t) (x:=x) (y:= .const (.int .i64 c)) hv w;simp[execOp,e1,e2,g1,g2]
  ·cases hv
 ·rename_i k j t x y
  simp only[aX] at h;obtain⟨h1,h2,h3⟩:=h;have e1:=fM h1 hf;have e2:=fM h2 hf;obtain⟨e,z,hu,hz⟩:=oo h3;simp only[en] at hv;split at hv
  ·rename_i A n c hh q1 q2
   split at hv
   ·rename_i hc
    cases hv;rw[q1] at e1;rw[q2] at e2;have hb:hh=(hh.toNat:Int):=by omega
    have:=io (P:=P) hu hz (n:=n) (A:=A) (lo:=none) (hi:=some (.int .i64 hh)) (l:=0) (h:=hh.toNat) (.inl ⟨rfl,rfl⟩) (.inr ⟨.i64,by rw[<-hb]⟩) (Nat.zero_le _) hc.2 w;have hA:(if c=0 then A else A.map (·.add (0*z)))=A:=by
     split
     ·rfl
     ·rw[Nat.zero_mul]
      cases A with
      |none=>rfl
      |some ad=>simp[Addr.add]
    rw[hA] at this;simp[execOp,e1,e2,this]
   ·cases hv
  ·cases hv
 ·cases h
def fa (P:Program) (N:Nat):List (Nat×RO)->List Oper->Bool
 |[],[]=>true
 |r::l,o::m=>(o.dst==some r.1&&(o.guard.isNone&&(decide (r.1<N)&&rIs P r.2 o.op)))&&fa P N l m
 |_,_=>false
def cT (f:Nat->Value) (d:Nat) (v:Value):Nat->Value:=λk=>if k=d then v else f k
def fo:List (Nat×RO)->(Nat->Value)->Option (Nat->Value)
 |[],f=>some f
 |r::l,f=>(en r.2 f).bind λv=>fo l (cT f r.1 v)
theorem oq {d:Nat} {v:Value} (hd:d<a.tmps.size) {f:Nat->Value} (hf:∀k,a.tmps.getD k undef=f k) (k:Nat):(a.put (some d) v).tmps.getD k undef=cT f d v k:=by
 unfold cT;by_cases h:k=d
 ·subst h
  simp[Act.put,cJ,Array.getElem?_setIfInBounds,hd]
 ·rw[if_neg h,<-hf k]
  simp[Act.put,cJ,Array.getElem?_setIfInBounds,Ne.symm h]
theorem lO {N:Nat} {ops:Array Oper} {Q:Exit->Act->World->Prop}:∀{L:List (Nat×RO)} {l rest:List Oper} {a:Act} {f f':Nat->Value},fa P N L l=true->fo L f=some f'->(∀k,a.tmps.getD k undef=f k)->N<=a.tmps.size->
  (∀a':Act,(∀k,a'.tmps.getD k undef=f' k)->a'.tmps.size=a.tmps.size->a'.defers=a.defers->wpList P ops Q rest a' w)->wpList P ops Q (l++rest) a w
 |[],[],rest,a,f,f',_,hv,hf,_,h=>by simp[fo] at hv;subst hv;exact h a hf rfl rfl
 |r::L,o::l,rest,a,f,f',hm,hv,hf,hN,h=>by
  simp only[fa,aX,cR,aH,Option.isNone_iff_eq_none] at hm;obtain⟨⟨hd,hg,hdN,hr⟩,hm⟩:=hm;simp only[fo,aC] at hv;obtain⟨v,hv1,hv2⟩:=hv;rw[bJ];refine Bv ?_;rw[if_pos (by unfold Region.wanted;rw[hg])];have hrun:=Bx (a:=a) hr hv1 hf w;have hd':r.1<a.tmps.size:=by omega
  unfold Oper.wp;rw[hrun]
  show wpList P ops Q (l++rest) (a.put o.dst v) w
  rw[hd];refine lO hm hv2 (oq hd' hf) (by simp[Act.put];omega) λa' h1 h2 h3=>h a' h1 (by rw[h2];simp[Act.put]) (by rw[h3];rfl)
 |[],_::_,_,_,_,_,h,_,_,_,_=>by simp[fa] at h
 |_::_,[],_,_,_,_,h,_,_,_,_=>by simp[fa] at h
def ua:List (Nat×RO):=[(5,.mv 1),(6,.binc .lss 5 0)]
def ub:List (Nat×RO):=[(8,.mv 1),(9,.mv 0),(10,.cap 9),(11,.mv 0),(12,.len 11),(13,.bin .sub 10 12),(14,.bin .sub 8 13),(1,.mv 14)]
def uc:List (Nat×RO):=[(15,.mv 1),(16,.binc .gtr 15 0)]
def ud:List (Nat×RO):=[(17,.mv 0),(18,.mv 0),(19,.cap 18),(20,.to 17 19),(21,.mv 1)]
def ue:List (Nat×RO):=[(23,.mv 0),(24,.len 23),(25,.to 22 24),(0,.mv 25)]
def ot:List (Nat×RO):=[(26,.mv 0),(4,.mv 26)]
def uf (P:Program) (z bytes:Nat) (o:Oper):Bool:=
 o.dst==some 22&&(o.guard.isNone&&(match o.op with
  | .call {callee:= .builtin .append,args,argTypes }=>(match args.toList,argTypes.toList with
   |[x,y],[t,tn]=>fm 20 x&&(fm 21 y&&((match P.underlying tn with|some (.int _)=>true|_=>false)&&(match P.underlying t with
    |some (.slice e)=>(match P.info? e with|some i=>i.size==z&&(i.bytes==bytes&&(match i.zero with|some v=>v.cells.size==z&&decide (0<z)|none=>false))|none=>false)
    |_=>false)))
   |_,_=>false)
  |_=>false))
def ou (P:Program) (z bytes N:Nat):Code->Bool
 | .seq (.region _ ops0 false) (.seq (.seq (.region _ ops1 false) (.cond (.tmp 6) _ .skip)) (.seq (.seq (.region _ ops3 false) (.seq (.region _ ops4 false) (.cond (.tmp 16) (.region _ ops5 false) .skip))) (.seq (.region _ ops6 false) .ret)))=>
  decide (26<N/\0<bytes)&&(fa P N [(4,.nil)] ops0.toList&&(fa P N ua ops1.toList&&(fa P N ub ops3.toList&&(fa P N uc ops4.toList&&(fa P N ot ops6.toList &&
   (fa P N ud (ops5.toList.take 5)&&(match ops5.toList.drop 5 with|o::l=>uf P z bytes o&&fa P N ue l|[]=>false)))))))
 |_=>false
theorem ju {N id:Nat} {ops:Array Oper} {L:List (Nat×RO)} {Q:Exit->Act->World->Prop} {f f':Nat->Value} (hm:fa P N L ops.toList=true) (hv:fo L f=some f') (hf:∀k,a.tmps.getD k undef=f k) (hN:N<=a.tmps.size)
  (h:∀a':Act,(∀k,a'.tmps.getD k undef=f' k)->a'.tmps.size=a.tmps.size->a'.defers=a.defers->Q .normal a' w):Code.wp P (.region id ops false) Q a w:=by
 refine wp_region_list ?_;have:=lO (ops:=ops) (Q:=Q) (rest:=[]) hm hv hf hN λa' h1 h2 h3=>by unfold wpList;exact h a' h1 h2 h3
 rwa [bH] at this
theorem Inv.reenv {s:St} {a a':Act} (hI:Inv fi M w s a) (hd:a'.defers=M.ds) {e:List (Nat×PV)} (he:∀t v,get e t=some v->t<a'.tmps.size/\RepAt fi M w (Loc.env t) v (a'.tmps.getD t undef)):Inv fi M w ⟨e,s.lh,s.gh⟩ a':=
 ⟨he,hd,hI.lbl,hI.gbl,hI.nodup,hI.lh,hI.gh,hI.gl,hI.immlt,hI.ownlt,hI.gblt⟩
theorem By {z bytes F:Nat} {Fn:Func} {c:Code} (hf:P.funcs[F]?=some Fn) (hb:Fn.body=some c) (hm:ou P z bytes Fn.ntmps c=true) (hr:er P [.t 4] Fn.results.toList=true)
  {vs:List PV} {gh gh':List GObj} {r:PV} (h:gV z bytes vs gh=some (r,gh')):eq P fi F vs gh r gh':=by
 obtain⟨n,rfl,hn0,hnb,rfl,rfl⟩:∃n:Int,vs=[.nils,.int .i64 n]/\0<=n/\n.toNat*bytes<=maxBytes/\r= .sl true z []/\gh=gh':=by
  unfold gV at h;split at h
  ·rename_i n
   split at h
   ·rename_i hc
    cases h;exact⟨n,rfl,hc.1,hc.2,rfl,rfl⟩
   ·cases h
  ·cases h
 let fn:IFunc:={np:=2,res:=[.t 4],own:=true,trunc:=false,body:= .skip }
 refine qM (fn:=fn) (x:=(.ret,⟨[(4,.sl true z [])],[],gh⟩)) hf hb hr ?_ (by simp[fn,au,results,get,al,ah,PV.cells,PV.one]);intro a M w hI hN;unfold ou at hm;split at hm
 ·rename_i i0 ops0 i1 ops1 cp i3 ops3 i4 ops4 i5 ops5 i6 ops6
  simp only[aX,aH] at hm;obtain⟨h26,m0,m1,m3,m4,m6,m5a,m5⟩:=hm;split at m5
  ·rename_i oA lb hdrop
   simp only[aX] at m5;obtain⟨mA,m5b⟩:=m5;have t0:a.tmps.getD 0 undef= .slice none 0 0:=by have h3:=(hI.env 0 .nils rfl).2;generalize a.tmps.getD 0 undef=u at h3;cases (show RepP fi M w .nils u from h3);rfl
   have t1:a.tmps.getD 1 undef= .int .i64 n:=by have h3:=(hI.env 1 (.int .i64 n) rfl).2;generalize a.tmps.getD 1 undef=u at h3;cases (show RepP fi M w (.int .i64 n) u from h3);rfl
   obtain⟨h26,hby⟩:=h26;have hmx:maxBytes=140737488355328:=rfl;have hn1:n.toNat*1<=n.toNat*bytes:=Nat.mul_le_mul_left _ hby;have hwr:IntKind.i64.wrap (n-0)=n:=by rw[IntKind.wrap_i64];omega
   have hw0:IntKind.i64.wrap (0-0)=0:=by rw[IntKind.wrap_i64];omega
   have ev:∀(b:Act) (k:Nat) (v:Value),b.tmps.getD k undef=v->b.eval (.tmp k)=v:=λb k v h=>h
   obtain⟨G0,hG0⟩:∃G:Nat->Value,∀k,a.tmps.getD k undef=G k:=⟨_,λ_=>rfl⟩
   rw[hG0] at t0 t1;rw[vR];refine wpIn_wide.2 ?_;refine wp_seq (ju m0 (f:=G0) rfl hG0 hN λa1 f1 s1 d1=>?_);obtain⟨G1,hG1⟩:∃G:Nat->Value,∀k,a1.tmps.getD k undef=G k:=⟨_,λ_=>rfl⟩
   have p0:G1 0= .slice none 0 0:=by rw[<-hG1,f1];simpa [cT] using t0
   have p1:G1 1= .int .i64 n:=by rw[<-hG1,f1];simpa [cT] using t1
   have p4:G1 4= .slice none 0 0:=by rw[<-hG1,f1];simp[cT]
   refine wp_seq (wp_seq (ju m1 (f:=G1) (f':=?f2) ?v2 hG1 (by omega) λa2 f2 s2 d2=>?_))
   case v2=>simp[fo,ua,en,cT,p1];rfl
   obtain⟨G2,hG2⟩:∃G:Nat->Value,∀k,a2.tmps.getD k undef=G k:=⟨_,λ_=>rfl⟩
   have p0:G2 0= .slice none 0 0:=by rw[<-hG2,f2];simpa [cT] using p0
   have p1:G2 1= .int .i64 n:=by rw[<-hG2,f2];simpa [cT] using p1
   have p4:G2 4= .slice none 0 0:=by rw[<-hG2,f2];simpa [cT] using p4
   refine wp_cond_false (ev a2 6 _ (by rw[f2];simp[cT];omega)) (wp_skip ?_)
   show Code.wp P _ _ a2 w
   refine wp_seq (wp_seq (ju m3 (f:=G2) (f':=?f3) ?v3 hG2 (by omega) λa3 f3 s3 d3=>?_))
   case v3=>simp[fo,ub,en,cT,p0,p1];rfl
   obtain⟨G3,hG3⟩:∃G:Nat->Value,∀k,a3.tmps.getD k undef=G k:=⟨_,λ_=>rfl⟩
   have p0:G3 0= .slice none 0 0:=by rw[<-hG3,f3];simpa [cT] using p0
   have p1:G3 1= .int .i64 n:=by rw[<-hG3,f3];simp[cT];rw[show IntKind.i64.wrap 0=0 by decide,Int.sub_zero,IntKind.wrap_i64];omega
   have p4:G3 4= .slice none 0 0:=by rw[<-hG3,f3];simpa [cT] using p4
   show Code.wp P _ _ a3 w
   refine wp_seq (ju m4 (f:=G3) (f':=?f4) ?v4 hG3 (by omega) λa4 f4 s4 d4=>?_)
   case v4=>simp[fo,uc,en,cT,p1];rfl
   obtain⟨G4,hG4⟩:∃G:Nat->Value,∀k,a4.tmps.getD k undef=G k:=⟨_,λ_=>rfl⟩
   have p0:G4 0= .slice none 0 0:=by rw[<-hG4,f4];simpa [cT] using p0
   have p1:G4 1= .int .i64 n:=by rw[<-hG4,f4];simpa [cT] using p1
   have p16:G4 16= .bool (decide (0<n)):=by rw[<-hG4,f4];simp[cT]
   have hdf:a4.defers=M.ds:=by rw[d4,d3,d2,d1];exact hI.defers
   have hsz:a4.tmps.size=a.tmps.size:=by omega
   show Code.wp P _ _ a4 w
   by_cases hpos:0<n
   ·refine wp_cond_true (ev a4 16 _ (by rw[hG4,p16,aG hpos])) ?_
    refine wp_region_list ?_;have hsplit:ops5.toList=ops5.toList.take 5++(oA::lb):=by rw[<-hdrop,List.take_append_drop]
    rw[hsplit];refine lO m5a (f:=G4) (f':=?f5) ?v5 hG4 (by omega) λa5 f5 s5 d5=>?_
    case v5=>simp[fo,ud,en,cT,p0,p1];rfl
    obtain⟨G5,hG5⟩:∃G:Nat->Value,∀k,a5.tmps.getD k undef=G k:=⟨_,λ_=>rfl⟩
    have p0:G5 0= .slice none 0 0:=by rw[<-hG5,f5];simpa [cT] using p0
    have q20:G5 20= .slice none 0 0:=by rw[<-hG5,f5];simp[cT]
    have q21:G5 21= .int .i64 n:=by rw[<-hG5,f5];simp[cT]
    unfold uf at mA;simp only[aX,cR,Option.isNone_iff_eq_none] at mA;obtain⟨mAd,mAg,mA⟩:=mA;split at mA
    ·rename_i args ats hop
     split at mA
     ·rename_i x y t tn hargs hats
      simp only[aX] at mA;obtain⟨mx,my,mtn,mt⟩:=mA;have hargs':args= #[x,y]:=by apply Array.ext';simpa using hargs
      have hats':ats= #[t,tn]:=by apply Array.ext';simpa using hats
      subst hargs';subst hats';have ex:=fM (a:=a5) mx hG5;have ey:=fM (a:=a5) my hG5;simp only[q20] at ex;simp only[q21] at ey;split at mtn
      ·rename_i kn htn
       split at mt
       ·rename_i e ht
        split at mt
        ·rename_i i hi
         simp only[aX,cR] at mt;obtain⟨mz,mb,mt⟩:=mt;split at mt
         ·rename_i zv hzv
          simp only[aX,cR,aH] at mt;obtain⟨mzs,hz0⟩:=mt;obtain⟨N',rfl⟩:∃N':Nat,n=N':=⟨n.toNat,by omega⟩
          have hrun:=Lib.run_append_nil_zeros (P:=P) w t tn oA.type e i zv .i64 kn ht htn hi hzv N' (by omega) (by omega) (by omega) (by rw[mb];simp at hnb;omega);refine Lib.wpList_append_run w mAg x y t tn hop _ _ ex ey _ _ hrun ?_;rw[mAd];have s22:22<a5.tmps.size:=by omega
          have g5:=oq (a:=a5) (d:=22) (v:= .slice (some ⟨w.heap.size,0,none⟩) N' (grownCap w N' 0 e)) s22 hG5;generalize ha6:a5.put (some 22) (.slice (some ⟨w.heap.size,0,none⟩) N' (grownCap w N' 0 e))=a6 at *;have s6:a6.tmps.size=a5.tmps.size:=by rw[<-ha6];simp[Act.put]
          have d6:a6.defers=a5.defers:=by rw[<-ha6];rfl
          obtain⟨G6,hG6⟩:∃G:Nat->Value,∀k,a6.tmps.getD k undef=G k:=⟨_,λ_=>rfl⟩
          have r0:G6 0= .slice none 0 0:=by rw[<-hG6,g5];simpa [cT] using p0
          have r22:G6 22= .slice (some ⟨w.heap.size,0,none⟩) N' (grownCap w N' 0 e):=by rw[<-hG6,g5];simp[cT]
          have:=lO (P:=P) (a:=a6) (w:=w.drew.alloc (.cells (Builtin.zeroCells zv.cells N'++Builtin.zeroCells zv.cells (grownCap w N' 0 e-N')) e)) (ops:=ops5) (rest:=[]) m5b (f:=G6) (f':=?f7) ?v7 hG6 (by omega) (Q:=?Q7) ?h7;rw[bH] at this;exact this
          case v7=>simp[fo,ue,en,cT,r0,r22];rfl
          case h7=>
           intro a7 f7 s7 d7;unfold wpList;obtain⟨G7,hG7⟩:∃G:Nat->Value,∀k,a7.tmps.getD k undef=G k:=⟨_,λ_=>rfl⟩
           have u0:G7 0= .slice (some ⟨w.heap.size,0,none⟩) 0 (grownCap w N' 0 e):=by rw[<-hG7,f7];simp[cT]
           show Code.wp P _ _ a7 _
           refine wp_seq (ju m6 (f:=G7) (f':=?f8) ?v8 hG7 (by omega) λa8 f8 s8 d8=>?_)
           case v8=>simp[fo,ot,en,cT,u0];rfl
           obtain⟨G8,hG8⟩:∃G:Nat->Value,∀k,a8.tmps.getD k undef=G k:=⟨_,λ_=>rfl⟩
           have u4:G8 4= .slice (some ⟨w.heap.size,0,none⟩) 0 (grownCap w N' 0 e):=by rw[<-hG8,f8];simp[cT]
           refine wp_ret ?_;have hI0:Inv fi M w ⟨[],[],gh⟩ a8:=hI.reenv (by rw[d8,d7,d6,d5];exact hdf) (λt v h=>by cases h);obtain⟨hI1,k1⟩:=hI0.drew;have hzl:∀n,(Builtin.zeroCells zv.cells n).toList.length=n*z:=λn=>by rw[Array.length_toList,size_zeroCells,mzs]
           obtain⟨M',hI2,k2⟩:=Inv.newOwn hI1 (d:=4) (by omega) (z:=z) (xs:=[]) (by simp) (by simp) [] (Builtin.zeroCells zv.cells N'++Builtin.zeroCells zv.cells (grownCap w N' 0 e-N')).toList (by simp) (by simp)
            (grownCap w N' 0 e) (by simp) (by have hge:=grownCap_ge w N' 0 e;rw[Array.toList_append,aV,hzl,hzl,<-Nat.add_mul,cA,cO];exact cP _ (by omega)) e (Builtin.zeroCells zv.cells N'++Builtin.zeroCells zv.cells (grownCap w N' 0 e-N')) (by simp)
           refine⟨rfl,M',?_,?_,by omega⟩
           ·have hI3:=hI2.reenv (a':=a8) (e:=[(4,.sl true z [])]) hI2.defers (λt v h=>by
             obtain⟨rfl,rfl⟩:t=4/\v= .sl true z []:=by
              simp only[get] at h;split at h
              ·rename_i h4;cases h;exact⟨h4.symm,rfl⟩
              ·cases h
             have h5:=hI2.env 4 (.sl true z []) (by simp[St.put,ec]);refine⟨by omega,?_⟩;rw[hG8,u4];have h6:=h5.2;rw[oq (a:=a8) (by omega) hG8] at h6;simpa [cT] using h6)
            exact hI3
           ·exact k1.trans k2
         ·cases mt
        ·cases mt
       ·cases mt
      ·cases mtn
     ·cases mA
    ·cases mA
   ·refine wp_cond_false (ev a4 16 _ (by rw[hG4,p16,aF hpos])) (wp_skip ?_)
    show Code.wp P _ _ a4 w
    refine wp_seq (ju m6 (f:=G4) (f':=?f9) ?v9 hG4 (by omega) λa8 f8 s8 d8=>?_)
    case v9=>simp[fo,ot,en,cT,p0];rfl
    obtain⟨G8,hG8⟩:∃G:Nat->Value,∀k,a8.tmps.getD k undef=G k:=⟨_,λ_=>rfl⟩
    have u4:G8 4= .slice none 0 0:=by rw[<-hG8,f8];simp[cT]
    refine wp_ret ?_;refine⟨rfl,M,?_,Kp.refl M w,by omega⟩;refine hI.reenv (by rw[d8];exact hdf) (λt v h=>?_);obtain⟨rfl,rfl⟩:t=4/\v= .sl true z []:=by
     simp only[get] at h;split at h
     ·rename_i h4;cases h;exact⟨h4.symm,rfl⟩
     ·cases h
    refine⟨by omega,?_⟩;rw[hG8,u4];exact oQ _ z
  ·simp at m5
 ·cases hm
def ug (P:Program) (z bytes F:Nat):Bool:=
 match P.funcs[F]? with
 |some Fn=>match Fn.body with
  |some c=>ou P z bytes Fn.ntmps c&&er P [.t 4] Fn.results.toList
  |none=>false
 |none=>false
theorem Bz {z bytes F:Nat} (h:ug P z bytes F=true) (vs:List PV) (gh:List GObj) (r:PV) (gh':List GObj) (hr:gV z bytes vs gh=some (r,gh')):eq P fi F vs gh r gh':=by
 unfold ug at h;cases hF:P.funcs[F]? with
 |none=>rw[hF] at h;cases h
 | some Fn=>
  rw[hF] at h;simp only at h;cases hb:Fn.body with
  |none=>rw[hb] at h;cases h
  |some c=>
   rw[hb] at h;simp only[aX] at h;exact By hF hb h.1 h.2 hr
end
end
end Go.Lw